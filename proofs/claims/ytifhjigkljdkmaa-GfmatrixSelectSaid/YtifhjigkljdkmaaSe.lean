/- The contract of Select. -/
import Derived.Test.YtifhjigkljdkmaaLy
namespace Go.Proofs.Ytifhjigkljdkmaa
open Go.RowKit
open Gf (F)
set_option linter.unusedSimpArgs false
set_option linter.unusedVariables false
/-- All numbers lie in the matrix. -/
def Inside (n m k l : Nat) (rows cols : List Int) : Prop := (∀ i, i < k → 0 ≤ nti rows i ∧ nti rows i < n) ∧ ∀ j, j < l → 0 ≤ nti cols j ∧ nti cols j < m
def selE (a : List (List F)) (rows cols : List Int) (i j : Nat) : F := ent a (nti rows i).toNat (nti cols j).toNat
def selM (k l : Nat) (a : List (List F)) (rows cols : List Int) : List (List F) := mkm k l (selE a rows cols)
def selP (a : List (List F)) (rows cols : List Int) (i j i' j' : Nat) : F := if i' < i ∨ (i' = i ∧ j' < j) then selE a rows cols i' j' else 0
theorem selP_step (a : List (List F)) (rows cols : List Int) (i j i' j' : Nat) : upd (selP a rows cols i j) i j (selE a rows cols i j) i' j' = selP a rows cols i (j + 1) i' j' := by
  unfold upd selP
  by_cases e : i' = i ∧ j' = j
  · obtain ⟨rfl, rfl⟩ := e
    rw [if_pos ⟨rfl, rfl⟩, if_pos (Or.inr ⟨rfl, by omega⟩)]
  · rw [if_neg e]
    by_cases h : i' < i ∨ (i' = i ∧ j' < j)
    · rw [if_pos h, if_pos (by omega)]
    · rw [if_neg h, if_neg (by omega)]
theorem selP_next (a : List (List F)) (rows cols : List Int) (i l i' j' : Nat) (h : j' < l) : selP a rows cols i l i' j' = selP a rows cols (i + 1) 0 i' j' := by
  unfold selP
  by_cases e : i' < i ∨ (i' = i ∧ j' < l)
  · rw [if_pos e, if_pos (by omega)]
  · rw [if_neg e, if_neg (by omega)]
section
variable {p q r : Nat → Prop} {w : World} {A B X : Option Addr} {n c k d l f m : Nat} {R S : Nat → Option Addr} {L K C D : Nat → Nat} {x : List F} {a b : List (List F)} {rows cols : List Int}
def SelPost (w : World) (n m k l : Nat) (a : List (List F)) (rows cols : List Int) (e : Ending) (w' : World) : Prop :=
  Below w.heap.size w w' ∧ (¬ Inside n m k l rows cols → e = .returned (.tuple #[.slice none 0 0, .int .i64 2])) ∧
    (Inside n m k l rows cols → ∃ g R' C', e = .returned (.tuple #[.slice (some ⟨g, 0, none⟩) k k, .int .i64 0]) ∧ Mat (fun b => w.heap.size ≤ b) w' (some ⟨g, 0, none⟩) k k R' l C' (selM k l a rows cols))
set_option maxRecDepth 100000 in
set_option maxHeartbeats 2000000 in
theorem select_bad (ha : Rag p w A n c R L C a) (hk : k ≤ 70) (hl : l ≤ 70) (h : ¬ (Valid a ∧ 1 ≤ k ∧ k ≤ 64 ∧ 1 ≤ l ∧ l ≤ 64)) : Calls Try.prog 47 #[.slice A n c, .slice B k d, .slice X l f] w fun e w' => e = .returned (.tuple #[.slice none 0 0, .int .i64 1]) ∧ w = w' := by
  cases hv : valid a with
  | false =>
    go_enter Try.func47, Try.ntmps47
    go_wp2_with (go_at_call 39; (with_reducible refine (valid_any ha).mono ?_); rw [hv]; rintro e w' ⟨rfl, rfl⟩)
    go_ret2
    exact ⟨rfl, rfl⟩
  | true =>
    have va : Valid a := of_decide_eq_true hv
    by_cases h1 : k < 1
    · go_enter Try.func47, Try.ntmps47
      go_wp2_with (go_at_call 39; (with_reducible refine (valid_any ha).mono ?_); rw [hv]; rintro e w' ⟨rfl, rfl⟩)
      go_ret2
      exact ⟨rfl, rfl⟩
    · by_cases h2 : 64 < k
      · go_enter Try.func47, Try.ntmps47
        go_wp2_with (go_at_call 39; (with_reducible refine (valid_any ha).mono ?_); rw [hv]; rintro e w' ⟨rfl, rfl⟩)
        go_ret2
        exact ⟨rfl, rfl⟩
      · by_cases h3 : l < 1
        · go_enter Try.func47, Try.ntmps47
          go_wp2_with (go_at_call 39; (with_reducible refine (valid_any ha).mono ?_); rw [hv]; rintro e w' ⟨rfl, rfl⟩)
          go_ret2
          exact ⟨rfl, rfl⟩
        · have h4 : 64 < l := by
            apply Classical.byContradiction
            intro h4
            exact h ⟨va, by omega, by omega, by omega, by omega⟩
          go_enter Try.func47, Try.ntmps47
          go_wp2_with (go_at_call 39; (with_reducible refine (valid_any ha).mono ?_); rw [hv]; rintro e w' ⟨rfl, rfl⟩)
          go_ret2
          exact ⟨rfl, rfl⟩
set_option maxRecDepth 100000 in
set_option maxHeartbeats 2000000 in
theorem select_ok (ha : Mat p w A n c R m C a) (hr : Ints q w B k d rows) (hc : Ints r w X l f cols) (va : Valid a) (k1 : 1 ≤ k) (k2 : k ≤ 64) (l1 : 1 ≤ l) (l2 : l ≤ 64) :
    Calls Try.prog 47 #[.slice A n c, .slice B k d, .slice X l f] w (SelPost w n m k l a rows cols) := by
  have va' : valid a = true := decide_eq_true va
  obtain ⟨r1, r2, m1, m2⟩ := valid_dims ha va
  clear va
  obtain ⟨b1, o1, rfl, _, hlt1, hc1⟩ := ha.row.at_ (by omega)
  obtain ⟨b2, o2, rfl, _, hlt2, hc2⟩ := hr.row.at_ (by omega)
  obtain ⟨b3, o3, rfl, _, hlt3, hc3⟩ := hc.row.at_ (by omega)
  have e1 : w.cell? ⟨b1, o1, none⟩ = some (.slice (R 0) m (C 0)) := hc1 0 (by omega)
  replace hc1 := Lib.hid hc1
  replace hc2 := Lib.hid hc2
  replace hc3 := Lib.hid hc3
  go_enter Try.func47, Try.ntmps47
  go_wp2_with (first | (go_at_call 39; (with_reducible refine (valid_any ha.rag).mono ?_); rw [va']; rintro e w' ⟨rfl, rfl⟩) | (go_at_call 87; (with_reducible refine (blank_any k l (by omega) (by omega) _).mono ?_); rintro e w1 ⟨g, G, rfl, hown, hb1⟩))
  go_loopw [43] (fun x wr => ∃ i : Nat, i ≤ k ∧ x = .int .i64 i ∧ Own2 wr w.heap.size g G k l (selP a rows cols i 0) ∧ Below w.heap.size w wr ∧ (∀ i', i' < i → 0 ≤ nti rows i' ∧ nti rows i' < n) ∧ (0 < i → ∀ j, j < l → 0 ≤ nti cols j ∧ nti cols j < m)) (fun x _ => k - (intOf x).toNat)
  case atStart => exact ⟨0, by omega, rfl, hown.congr fun i j _ _ => by unfold selP; rw [if_neg (by omega)], hb1, fun _ h => absurd h (Nat.not_lt_zero _), fun h => absurd h (Nat.lt_irrefl 0)⟩
  case round =>
    obtain ⟨i, hi, rfl, ho, hbw, hro, hco⟩ := hrel
    replace hro := Lib.hid hro
    replace hco := Lib.hid hco
    by_cases hlt : i < k
    · have f2 : wr.cell? ⟨b2, o2 + i, none⟩ = some (.int .i64 (nti rows i)) := (hbw.cell (by exact hlt2)).trans (hc2.out i hlt)
      obtain ⟨z1, hz1⟩ : ∃ z, z = nti rows i := ⟨_, rfl⟩
      rw [← hz1] at f2
      replace hz1 := Lib.hid hz1
      go_wp2
      obtain ⟨wo, rfl⟩ : ∃ wo : World, wo = wr := ⟨_, rfl⟩
      go_loopw [50] (fun x wr => ∃ j : Nat, j ≤ l ∧ x = .int .i64 j ∧ Own2 wr w.heap.size g G k l (selP a rows cols i j) ∧ Below w.heap.size w wr ∧ (∀ j', j' < j → 0 ≤ nti cols j' ∧ nti cols j' < m) ∧ (0 < j → 0 ≤ z1 ∧ z1 < n)) (fun x _ => l - (intOf x).toNat)
      case atStart => exact ⟨0, by omega, rfl, ho, hbw, fun _ h => absurd h (Nat.not_lt_zero _), fun h => absurd h (Nat.lt_irrefl 0)⟩
      case round =>
        clear ho hbw f2
        obtain ⟨j, hj, rfl, ho, hbw, hcs, hrz⟩ := hrel
        replace hcs := Lib.hid hcs
        replace hrz := Lib.hid hrz
        by_cases hltj : j < l
        · have f3 : wr.cell? ⟨b3, o3 + j, none⟩ = some (.int .i64 (nti cols j)) := (hbw.cell (by exact hlt3)).trans (hc3.out j hltj)
          have f1 := (hbw.cell (p := ⟨b1, o1, none⟩) (by exact hlt1)).trans e1
          obtain ⟨z2, hz2⟩ : ∃ z, z = nti cols j := ⟨_, rfl⟩
          rw [← hz2] at f3
          replace hz2 := Lib.hid hz2
          have r1' : (0 : Int) < (n : Int) := by omega
          by_cases h1 : z1 < 0
          · go_wp2
            go_ret2
            exact ⟨hbw, fun _ => rfl, fun hin => by have := (hin.1 i hlt).1; rw [← hz1.out] at this; omega⟩
          by_cases h2 : (n : Int) ≤ z1
          · go_wp2
            go_ret2
            exact ⟨hbw, fun _ => rfl, fun hin => by have := (hin.1 i hlt).2; rw [← hz1.out] at this; omega⟩
          by_cases h3 : z2 < 0
          · go_wp2
            go_ret2
            exact ⟨hbw, fun _ => rfl, fun hin => by have := (hin.2 j hltj).1; rw [← hz2.out] at this; omega⟩
          by_cases h4 : (m : Int) ≤ z2
          · go_wp2
            go_ret2
            exact ⟨hbw, fun _ => rfl, fun hin => by have := (hin.2 j hltj).2; rw [← hz2.out] at this; omega⟩
          obtain ⟨t, rfl⟩ := Int.eq_ofNat_of_zero_le (a := z1) (by omega)
          obtain ⟨s, rfl⟩ := Int.eq_ofNat_of_zero_le (a := z2) (by omega)
          have htn : t < n := by omega
          have hsm : s < m := by omega
          obtain ⟨b5, o5, e5, _, hlt5, hc5⟩ := (ha.rows t htn).at_ (by omega)
          have f4 : wr.cell? ⟨b1, o1 + t, none⟩ = some (.slice (R t) m (C t)) := (hbw.cell (by exact hlt1)).trans (hc1.out t htn)
          rw [e5] at f4
          have f5 : wr.cell? ⟨b5, o5 + s, none⟩ = some (.int .u8 ((nth (mrow a t) s).toNat : Int)) := (hbw.cell (by exact hlt5)).trans (hc5 s hsm)
          replace e5 := Lib.hid e5
          clear hc5
          have f6 := ho.topCell hlt
          have f7 := ho.cell hlt hltj
          have f8 := ho.frozen hlt j
          have hlo := ho.low hlt
          have hgt := ho.gt i hlt
          have n1 : b1 ≠ G i := by omega
          have n2 : b5 ≠ G i := by omega
          have n3 : g ≠ G i := by omega
          have c1 : (0 : Int) ≤ (t : Int) := Int.natCast_nonneg _
          have c2 : (t : Int) < (n : Int) := by omega
          have c3 : (0 : Int) ≤ (s : Int) := Int.natCast_nonneg _
          have c4 : (s : Int) < (m : Int) := by omega
          have c5 : (0 : Int) ≤ (i : Int) := Int.natCast_nonneg _
          have c6 : (i : Int) < (k : Int) := by omega
          have c7 : (0 : Int) ≤ (j : Int) := Int.natCast_nonneg _
          have c8 : (j : Int) < (l : Int) := by omega
          go_wp2
          go_region_held3 (fun w' => w'.cell? ⟨g, i, none⟩ = some (.slice (some ⟨G i, 0, none⟩) l l) ∧ w'.cell? ⟨b1, o1 + t, none⟩ = some (.slice (some ⟨b5, o5, none⟩) m (C t)) ∧ w'.cell? ⟨b5, o5 + s, none⟩ = some (.int .u8 ((nth (mrow a t) s).toNat : Int))) (first | (simp only [World.cell?_drew]; exact ⟨cell_set_ne n3 f6, cell_set_ne n1 f4, cell_set_ne n2 f5⟩) | go_keep) (fail)
          go_wp2
          go_roundw
          case rel =>
            have hz1' := hz1.out
            have hz2' := hz2.out
            have he : selE a rows cols i j = nth (mrow a t) s := by unfold selE; rw [← hz1', ← hz2']; rfl
            have hs := ho.set (j := j) hlt (nth (mrow a t) s)
            rw [← he] at hs ⊢
            exact ⟨j + 1, by omega, by go_num, (hs.congr fun i' j' _ _ => selP_step ..).drew, (hbw.setCell hlo _).drew, fun j' hj' => by
              rcases Nat.lt_succ_iff_lt_or_eq.1 hj' with h | rfl
              · exact hcs.out j' h
              · rw [← hz2']; exact ⟨c3, c4⟩, fun _ => ⟨c1, c2⟩⟩
          case measure => simp [intOf]; omega
        · obtain rfl : j = l := by omega
          go_wp2
          go_roundw
          case rel => exact ⟨i + 1, by omega, by go_num, ho.congr fun i' j' _ h1 => selP_next _ _ _ _ _ _ _ h1, hbw, fun i' hi' => by
            rcases Nat.lt_succ_iff_lt_or_eq.1 hi' with h | rfl
            · exact hro.out i' h
            · rw [← hz1.out]; exact hrz.out (by omega), fun _ => hcs.out⟩
          case measure => simp [intOf]; omega
    · obtain rfl : i = k := by omega
      have hin : Inside n m i l rows cols := ⟨hro.out, hco.out (by omega)⟩
      go_wp2
      go_ret2
      refine ⟨hbw, fun h => absurd hin h, fun _ => ⟨g, _, _, rfl, (ho.congr fun i' j' h1 h2 => ?_).mat (max_of (by omega)) (max_of (by omega))⟩⟩
      unfold selP
      rw [if_pos (Or.inl h1)]
end
end Go.Proofs.Ytifhjigkljdkmaa
