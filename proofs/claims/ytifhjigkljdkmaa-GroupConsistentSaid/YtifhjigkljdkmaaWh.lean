/- tegulalaw24.whole; plain facts on changes made in another order. -/
import Derived.Test.YtifhjigkljdkmaaGp
namespace Go.Proofs.Ytifhjigkljdkmaa
open Go.RowKit
open Gf (F)
set_option linter.unusedSimpArgs false
set_option linter.unusedVariables false
/-! ### Plain -/
theorem applyD_cons (D : List (List F)) (c : Chg) (l : List Chg) : applyD D (c :: l) = applyD (D.set c.1.toNat c.2) l := rfl
theorem applyD_app (D : List (List F)) (l k : List Chg) : applyD D (l ++ k) = applyD (applyD D l) k := by unfold applyD; rw [List.foldl_append]
theorem applyD_out : ∀ (l : List Chg) (D : List (List F)) (i : Nat) (x : List F), (∀ c ∈ l, c.1.toNat ≠ i) → applyD (D.set i x) l = (applyD D l).set i x
  | [], _, _, _, _ => rfl
  | c :: l, D, i, x, h => by
    rw [applyD_cons, applyD_cons, List.set_comm x c.2 (h c List.mem_cons_self).symm]
    exact applyD_out l _ i x fun c' hc' => h c' (List.mem_cons_of_mem _ hc')
theorem applyD_rev : ∀ (l : List Chg) (D : List (List F)), l.Pairwise (fun a b => a.1.toNat ≠ b.1.toNat) → applyD D l.reverse = applyD D l
  | [], _, _ => rfl
  | c :: l, D, h => by
    obtain ⟨h1, h2⟩ := List.pairwise_cons.1 h
    rw [List.reverse_cons, applyD_app, applyD_rev l D h2]
    show (applyD D l).set c.1.toNat c.2 = applyD (D.set c.1.toNat c.2) l
    rw [applyD_out l D _ _ fun c' hc' => (h1 c' hc').symm]
theorem pairs_of {l : List Chg} {m : Nat} (hl : l.length = m) (h : ∀ i j, i < j → j < m → (cget l i).1.toNat ≠ (cget l j).1.toNat) : l.Pairwise (fun a b => a.1.toNat ≠ b.1.toNat) := by
  rw [List.pairwise_iff_getElem]
  intro i j hi hj hij
  have := h i j hij (by omega)
  rwa [cget_of_lt hi, cget_of_lt hj] at this
theorem appO_grp (D : List (List F)) (l : List Chg) : appO (grpM D) l = grpM (applyD D l) := by
  unfold appO
  rw [grpM_length, Nat.add_sub_cancel, grpM_take]
/-- The last k changes, the last one first. -/
def revK (l : List Chg) (k : Nat) : List Chg := (l.drop (l.length - k)).reverse
theorem revK_zero (l : List Chg) : revK l 0 = [] := by simp [revK]
theorem revK_all (l : List Chg) : revK l l.length = l.reverse := by simp [revK]
theorem revK_step {l : List Chg} {k : Nat} (h : k < l.length) : revK l (k + 1) = revK l k ++ [cget l (l.length - (k + 1))] := by
  unfold revK
  have e : l.length - k = l.length - (k + 1) + 1 := by omega
  rw [List.drop_eq_getElem_cons (by omega : l.length - (k + 1) < l.length), List.reverse_cons, e, cget_of_lt (by omega)]
theorem conB_zeros : ∀ n : Nat, n < 17 → 4 ≤ n → conB (zerosM n) = true := by decide +kernel
/-- Has one of the first k changes this number? -/
def seenB (l : List Chg) (k j : Nat) : Bool := (List.range k).any fun i => decide ((cget l i).1.toNat = j)
theorem seenB_zero (l : List Chg) (j : Nat) : seenB l 0 j = false := rfl
theorem seenB_succ (l : List Chg) (k j : Nat) : seenB l (k + 1) j = (seenB l k j || decide ((cget l k).1.toNat = j)) := by
  unfold seenB
  rw [List.range_succ, List.any_append]
  simp
theorem seenB_no {l : List Chg} {k j : Nat} (h : seenB l k j = false) : ∀ i, i < k → (cget l i).1.toNat ≠ j := by
  intro i hi e
  unfold seenB at h
  rw [List.any_eq_false] at h
  exact absurd (decide_eq_true e) (h i (List.mem_range.2 hi))
section
variable {p q : Nat → Prop} {w w' : World} {A B : Option Addr} {n c m d : Nat} {M D : List (List F)} {l : List Chg}
theorem Chgs.one {b o i : Nat} (h : Chgs p w (some ⟨b, o, none⟩) n c l) (hi : i < n) : Chgs p w (some ⟨b, o + i * 9, none⟩) 1 (c - i) [cget l i] := by
  have h1 := (h.elm.from_ (k := i) (by omega)).pre (k := 1) (by omega)
  refine ⟨rfl, fun j hj => ?_, h1.congr fun j hj => ?_⟩
  · obtain rfl : j = 0 := by omega
    exact h.blk i hi
  · obtain rfl : j = 0 := by omega
    rfl
/-! ### whole -/
set_option maxRecDepth 100000 in
set_option maxHeartbeats 1000000 in
theorem whole_no (h : Blks p w A n c D) (hbad : n < 1 ∨ 13 < n) : Calls Try.prog 56 #[.slice A n c] w fun e w' => e = .returned (.tuple #[.slice none 0 0, .bool false]) ∧ w = w' := by
  have hn := h.len
  by_cases h1 : n < 1
  · clear hbad
    go_enter Try.func56, Try.ntmps56
    go_wp2
    go_ret2
    exact ⟨rfl, rfl⟩
  · have h2 : 13 < n := by omega
    clear hbad
    go_enter Try.func56, Try.ntmps56
    go_wp2
    go_ret2
    exact ⟨rfl, rfl⟩
set_option maxRecDepth 100000 in
set_option maxHeartbeats 1000000 in
theorem whole_ok (h : Blks p w A n c D) (h1 : 1 ≤ n) (h13 : n ≤ 13) : Calls Try.prog 56 #[.slice A n c] w fun e w' => ∃ A' c', e = .returned (.tuple #[.slice A' (n + 3) c', .bool true]) ∧ OwnB w' w.heap.size (.slice A' (n + 3) c') (n + 3) (grpM D) ∧ Below w.heap.size w w' := by
  have hrow := fun j (hj : j < n) => h.row hj
  have hlen := h.1
  replace hrow := Lib.hid hrow
  replace hlen := Lib.hid hlen
  go_enter Try.func56, Try.ntmps56
  go_wp2_with (first | (go_at_call 106; (with_reducible refine (rencode_any h h1 h13).mono ?_); rintro e w1 ⟨g1, rfl, hp1, hb1⟩; have hz1 := hb1.size; have hown := World.ownsRow_made (base := w.heap.size) (e := 64) (size := 8) w1 #[] 0 hz1 (Nat.zero_le _) rfl; have hb0 : Below w.heap.size w (w1.alloc (.cells #[] 64)) := hb1.alloc hz1 _; have hz0 := hb0.size; have h0 := h.below hb0; have hq1 : Below w1.heap.size w1 (w1.alloc (.cells #[] 64)) := (Below.refl _ _).alloc (Nat.le_refl _) _; have hsz := size_alloc1 w1 (.cells #[] 64)) | (at_builtin; refine wpl_append_elm rfl (sl := .tmp 19) (x := .tmp 20) rfl Try.underlying53 info64f rfl (by decide) rfl hown rfl h0.2 (by unfold maxLen; omega) (by omega) (by omega) ?_; intro v2 w2 hown2 hgr2 hne2; rw [Nat.zero_add, List.nil_append] at hown2; have hO : OwnB w2 w.heap.size v2 n D := ⟨hlen.out, hrow.out, hown2⟩; have hB2 : Below w.heap.size w w2 := (hb0.grown hgr2 (by omega) (fun k e => by cases e; exact hz1)); have hz2 := hB2.size; have hp2 := hp1.below (hq1.grown hgr2 (by omega) (fun k e => by cases e; exact Nat.le_refl _))) | (at_builtin; refine wpl_append_elm rfl (sl := .tmp 21) (x := .tmp 22) rfl Try.underlying53 info64f rfl (by decide) rfl hO.own rfl hp2.2 (by unfold maxLen; omega) (by omega) (by omega) ?_; intro v4 w4 hown4 hgr4 hne4; have hO4 : OwnB w4 w.heap.size v4 (n + 3) (grpM D) := hO.app hp2 hown4; have hB4 := hB2.grown hgr4 (by omega) (fun k e => ownge hO k e)))
  obtain ⟨A4, c4, rfl, _⟩ := hO4.blks
  go_wp2
  go_ret2
  exact ⟨A4, c4, rfl, hO4, hB4⟩
end
end Go.Proofs.Ytifhjigkljdkmaa
