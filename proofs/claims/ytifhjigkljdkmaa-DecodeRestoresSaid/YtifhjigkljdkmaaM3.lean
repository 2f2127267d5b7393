/- Contracts of the functions on matrices (third part): errors of Mul; Transpose, Apply. -/
import Derived.Test.YtifhjigkljdkmaaM2
namespace Go.Proofs.Ytifhjigkljdkmaa
open Go.RowKit
open Gf (F)
set_option linter.unusedSimpArgs false
set_option linter.unusedVariables false
section
variable {p q : Nat → Prop} {w : World} {A B : Option Addr} {n c k d : Nat} {R S : Nat → Option Addr} {L K C D : Nat → Nat} {a b : List (List F)}
set_option maxHeartbeats 400000 in
theorem mul_bad (ha : Rag p w A n c R L C a) (hb : Rag q w B k d S K D b) (h : ¬ (Valid a ∧ Valid b ∧ (mrow a 0).length = b.length)) : Calls Try.prog 45 #[.slice A n c, .slice B k d] w fun e w' =>
    e = .returned (.tuple #[.slice none 0 0, .int .i64 1]) ∧ w = w' := by
  by_cases va : valid a = true
  · by_cases vb : valid b = true
    · have v1 : Valid a := of_decide_eq_true va
      have n1 : 0 < n := by have := v1.1; have := ha.len; omega
      obtain ⟨b1, o1, rfl, _, hlt1, hc1⟩ := ha.row.at_ n1
      have e1 : w.cell? ⟨b1, o1, none⟩ = some (.slice (R 0) (L 0) (C 0)) := hc1 0 n1
      have hne : L 0 ≠ k := fun e => h ⟨v1, of_decide_eq_true vb, by rw [ha.lens n1, hb.len]; exact e⟩
      have ht : ((L 0 : Int) != (k : Int)) = true := by simp; exact fun e => hne (by omega)
      replace hne := Lib.hid hne
      clear hc1 v1
      go_enter Try.func45, Try.ntmps45
      go_wp2_with (go_at_call 39; first | ((with_reducible refine (valid_any ha).mono ?_); rintro e w' ⟨rfl, rfl⟩) | ((with_reducible refine (valid_any hb).mono ?_); rintro e w' ⟨rfl, rfl⟩))
      go_ret2
      exact ⟨rfl, rfl⟩
    · have vb : valid b = false := by simpa using vb
      go_enter Try.func45, Try.ntmps45
      go_wp2_with (go_at_call 39; first | ((with_reducible refine (valid_any ha).mono ?_); rintro e w' ⟨rfl, rfl⟩) | ((with_reducible refine (valid_any hb).mono ?_); rintro e w' ⟨rfl, rfl⟩))
      go_ret2
      exact ⟨rfl, rfl⟩
  · have va : valid a = false := by simpa using va
    go_enter Try.func45, Try.ntmps45
    go_wp2_with (go_at_call 39; (with_reducible refine (valid_any ha).mono ?_); rintro e w' ⟨rfl, rfl⟩)
    go_ret2
    exact ⟨rfl, rfl⟩
theorem transpose_bad (ha : Rag p w A n c R L C a) (h : ¬ Valid a) : Calls Try.prog 41 #[.slice A n c] w fun e w' => e = .returned (.tuple #[.slice none 0 0, .int .i64 1]) ∧ w = w' := by
  have va : valid a = false := decide_eq_false h
  go_enter Try.func41, Try.ntmps41
  go_wp2_with (go_at_call 39; (with_reducible refine (valid_any ha).mono ?_); rintro e w' ⟨rfl, rfl⟩)
  go_ret2
  exact ⟨rfl, rfl⟩
/-- What a valid matrix of a walk is known by. -/
theorem valid_dims {m : Nat} (ha : Mat p w A n c R m C a) (va : Valid a) : 1 ≤ n ∧ n ≤ 64 ∧ 1 ≤ m ∧ m ≤ 64 := by
  have r1 : 1 ≤ n := by rw [← ha.len]; exact va.1
  exact ⟨r1, by rw [← ha.len]; exact va.2.1, by rw [← (ha.rows 0 (by omega)).len]; exact va.2.2.1, by rw [← (ha.rows 0 (by omega)).len]; exact va.2.2.2.1⟩
def trP (a : List (List F)) (i t i' j : Nat) : F := if j < i ∨ (j = i ∧ i' < t) then ent a j i' else 0
theorem trP_step (a : List (List F)) (i t i' j : Nat) : upd (trP a i t) t i (ent a i t) i' j = trP a i (t + 1) i' j := by
  unfold upd trP
  by_cases e : i' = t ∧ j = i
  · obtain ⟨rfl, rfl⟩ := e
    rw [if_pos ⟨rfl, rfl⟩, if_pos (.inr ⟨rfl, by omega⟩)]
  · rw [if_neg e]
    by_cases e2 : j < i ∨ (j = i ∧ i' < t)
    · rw [if_pos e2, if_pos (by omega)]
    · rw [if_neg e2, if_neg (by omega)]
theorem trP_next (a : List (List F)) (i m i' j : Nat) (h : i' < m) : trP a i m i' j = trP a (i + 1) 0 i' j := by
  unfold trP
  by_cases e2 : j < i ∨ (j = i ∧ i' < m)
  · rw [if_pos e2, if_pos (by omega)]
  · rw [if_neg e2, if_neg (by omega)]
set_option maxRecDepth 100000 in
set_option maxHeartbeats 1000000 in
theorem transpose_ok {r m : Nat} (ha : Mat p w A r c R m C a) (va : Valid a) : Calls Try.prog 41 #[.slice A r c] w fun e w' =>
    ∃ g R' C', e = .returned (.tuple #[.slice (some ⟨g, 0, none⟩) m m, .int .i64 0]) ∧ Mat (fun b => w.heap.size ≤ b) w' (some ⟨g, 0, none⟩) m m R' r C' (trM r m a) ∧ Below w.heap.size w w' := by
  have va' : valid a = true := decide_eq_true va
  obtain ⟨r1, r2, m1, m2⟩ := valid_dims ha va
  clear va
  obtain ⟨b1, o1, rfl, _, hlt1, hc1⟩ := ha.row.at_ (by omega)
  have e1 : w.cell? ⟨b1, o1, none⟩ = some (.slice (R 0) m (C 0)) := hc1 0 (by omega)
  replace hc1 := Lib.hid hc1
  go_enter Try.func41, Try.ntmps41
  go_wp2_with (first | (go_at_call 39; (with_reducible refine (valid_any ha.rag).mono ?_); rintro e w' ⟨rfl, rfl⟩) | (go_at_call 87; refine (blank_any m r (by omega) (by omega) _).mono ?_; rintro e w1 ⟨g, G, rfl, hown, hb1⟩))
  go_loopw [21] (fun x wr => ∃ i : Nat, i ≤ r ∧ x = .int .i64 i ∧ Own2 wr w.heap.size g G m r (trP a i 0) ∧ Below w.heap.size w wr) (fun x _ => r - (intOf x).toNat)
  case atStart => exact ⟨0, by omega, rfl, hown.congr fun i j _ _ => by unfold trP; rw [if_neg (by omega)], hb1⟩
  case round =>
    obtain ⟨i, hi, rfl, ho, hbw⟩ := hrel
    by_cases hlt : i < r
    · have ra := ha.rows i hlt
      obtain ⟨b3, o3, e3, _, hlt3, hc3⟩ := ra.at_ (by omega)
      have f1 : wr.cell? ⟨b1, o1 + i, none⟩ = some (.slice (R i) m (C i)) := (hbw.cell (by exact hlt1)).trans (hc1.out i hlt)
      rw [e3] at f1
      replace e3 := Lib.hid e3
      replace hc3 := Lib.hid hc3
      go_wp2
      obtain ⟨wo, rfl⟩ : ∃ wo : World, wo = wr := ⟨_, rfl⟩
      go_loopw [28] (fun x wr => ∃ t : Nat, t ≤ m ∧ x = .int .i64 t ∧ Own2 wr w.heap.size g G m r (trP a i t) ∧ Below w.heap.size w wr) (fun x _ => m - (intOf x).toNat)
      case atStart => exact ⟨0, by omega, rfl, ho, hbw⟩
      case round =>
        obtain ⟨t, htk, rfl, ho, hbw⟩ := hrel
        by_cases hlt2' : t < m
        · have f2 : wr.cell? ⟨b3, o3 + t, none⟩ = some (.int .u8 ((nth (mrow a i) t).toNat : Int)) := (hbw.cell (by exact hlt3)).trans (hc3.out t hlt2')
          have f4 := ho.topCell hlt2'
          have f5 := ho.cell hlt2' hlt
          have f6 := ho.frozen hlt2' i
          go_wp2
          go_roundw
          case rel => exact ⟨t + 1, by omega, by go_num, (ho.set hlt2' (ent a i t)).congr fun i' j _ _ => trP_step .., hbw.setCell (ho.low hlt2') _⟩
          case measure => simp [intOf]; omega
        · obtain rfl : t = m := by omega
          go_wp2
          go_roundw
          case rel => exact ⟨i + 1, by omega, by go_num, ho.congr fun i' j h1 _ => trP_next _ _ _ _ _ h1, hbw⟩
          case measure => simp [intOf]; omega
    · obtain rfl : i = r := by omega
      go_wp2
      go_ret2
      exact ⟨g, _, _, rfl, (ho.congr fun i' j h1 h2 => by unfold trP; rw [if_pos (.inl h2)]).mat (max_of (by omega)) (max_of (by omega)), hbw⟩
end

/-! ### Apply -/
def appM (r k : Nat) (a : List (List F)) (v : List F) : List F := mkr r (fun i => sumF k fun t => Gf.mul (ent a i t) (nth v t))
section
variable {p q : Nat → Prop} {w : World} {A B : Option Addr} {n c k d : Nat} {R S : Nat → Option Addr} {L K C D : Nat → Nat} {a b : List (List F)} {v : List F}
set_option maxHeartbeats 400000 in
theorem apply_bad (ha : Rag p w A n c R L C a) (hv : Byt q w B k d v) (h : ¬ (Valid a ∧ v.length = (mrow a 0).length)) : Calls Try.prog 42 #[.slice A n c, .slice B k d] w fun e w' =>
    e = .returned (.tuple #[.slice none 0 0, .int .i64 1]) ∧ w = w' := by
  by_cases va : valid a = true
  · have v1 : Valid a := of_decide_eq_true va
    have n1 : 0 < n := by have := v1.1; have := ha.len; omega
    obtain ⟨b1, o1, rfl, _, hlt1, hc1⟩ := ha.row.at_ n1
    have e1 : w.cell? ⟨b1, o1, none⟩ = some (.slice (R 0) (L 0) (C 0)) := hc1 0 n1
    have hne : k ≠ L 0 := fun e => h ⟨v1, by rw [ha.lens n1, hv.len]; exact e⟩
    have ht : ((k : Int) != (L 0 : Int)) = true := by simp; exact fun e => hne (by omega)
    replace hne := Lib.hid hne
    clear hc1 v1
    go_enter Try.func42, Try.ntmps42
    go_wp2_with (go_at_call 39; (with_reducible refine (valid_any ha).mono ?_); rintro e w' ⟨rfl, rfl⟩)
    go_ret2
    exact ⟨rfl, rfl⟩
  · have va : valid a = false := by simpa using va
    go_enter Try.func42, Try.ntmps42
    go_wp2_with (go_at_call 39; (with_reducible refine (valid_any ha).mono ?_); rintro e w' ⟨rfl, rfl⟩)
    go_ret2
    exact ⟨rfl, rfl⟩
def appP (k : Nat) (a : List (List F)) (v : List F) (i t i' : Nat) : F := sumF (if i' < i then k else if i' = i then t else 0) fun t => Gf.mul (ent a i' t) (nth v t)
theorem appP_step (k : Nat) (a : List (List F)) (v : List F) (i t i' : Nat) : (if i' = i then vb (appP k a v i t i ^^^ Gf.mul (nth (mrow a i) t) (nth v t)) else vb (appP k a v i t i')) = vb (appP k a v i (t + 1) i') := by
  by_cases e : i' = i
  · subst e
    rw [if_pos rfl]
    unfold appP
    simp only [Nat.lt_irrefl, if_false, if_true]
    rfl
  · rw [if_neg e]
    unfold appP
    simp only [if_neg e]
theorem appP_next (k : Nat) (a : List (List F)) (v : List F) (i i' : Nat) : appP k a v i k i' = appP k a v (i + 1) 0 i' := by
  unfold appP
  congr 1
  by_cases e : i' < i
  · rw [if_pos e, if_pos (by omega)]
  · by_cases e2 : i' = i
    · rw [if_neg e, if_pos e2, if_pos (by omega)]
    · rw [if_neg e, if_neg e2, if_neg (by omega)]
      by_cases e3 : i' = i + 1 <;> simp [e3]
set_option maxRecDepth 100000 in
set_option maxHeartbeats 1000000 in
theorem apply_ok {r m : Nat} (ha : Mat p w A r c R m C a) (hv : Byt q w B m d v) (va : Valid a) : Calls Try.prog 42 #[.slice A r c, .slice B m d] w fun e w' =>
    ∃ A' c', e = .returned (.tuple #[.slice A' r c', .int .i64 0]) ∧ Byt (fun b => w.heap.size ≤ b) w' A' r c' (appM r m a v) ∧ Below w.heap.size w w' := by
  have va' : valid a = true := decide_eq_true va
  obtain ⟨r1, r2, m1, m2⟩ := valid_dims ha va
  clear va
  obtain ⟨b1, o1, rfl, _, hlt1, hc1⟩ := ha.row.at_ (by omega)
  obtain ⟨b2, o2, rfl, _, hlt2, hc2⟩ := hv.at_ (by omega)
  have e1 : w.cell? ⟨b1, o1, none⟩ = some (.slice (R 0) m (C 0)) := hc1 0 (by omega)
  replace hc1 := Lib.hid hc1
  replace hc2 := Lib.hid hc2
  have ht : ((m : Int) != (m : Int)) = false := by simp
  go_enter Try.func42, Try.ntmps42
  go_wp2_with (first | (go_at_call 39; (with_reducible refine (valid_any ha.rag).mono ?_); rintro e w' ⟨rfl, rfl⟩) | (at_make; refine wpl_make rfl rfl Try.underlying28 info5 rfl rfl rfl (by omega) (by omega) ?_; intro w1 g hrow hb1 hg))
  go_loopw [28] (fun x wr => ∃ i : Nat, i ≤ r ∧ x = .int .i64 i ∧ wr.rowIs g 5 r (fun i' => vb (appP m a v i 0 i')) ∧ Below w.heap.size w wr) (fun x _ => r - (intOf x).toNat)
  case atStart => exact ⟨0, by omega, rfl, hrow.congr fun i' _ => by unfold appP; rw [if_neg (Nat.not_lt_zero _)]; by_cases e : i' = 0 <;> simp [e, sumF, vb], hb1⟩
  case round =>
    obtain ⟨i, hi, rfl, ho, hbw⟩ := hrel
    by_cases hlt : i < r
    · have ra := ha.rows i hlt
      obtain ⟨b3, o3, e3, _, hlt3, hc3⟩ := ra.at_ (by omega)
      have f1 : wr.cell? ⟨b1, o1 + i, none⟩ = some (.slice (R i) m (C i)) := (hbw.cell (by exact hlt1)).trans (hc1.out i hlt)
      rw [e3] at f1
      replace e3 := Lib.hid e3
      replace hc3 := Lib.hid hc3
      go_wp2
      obtain ⟨wo, rfl⟩ : ∃ wo : World, wo = wr := ⟨_, rfl⟩
      go_loopw [35] (fun x wr => ∃ t : Nat, t ≤ m ∧ x = .int .i64 t ∧ wr.rowIs g 5 r (fun i' => vb (appP m a v i t i')) ∧ Below w.heap.size w wr) (fun x _ => m - (intOf x).toNat)
      case atStart => exact ⟨0, by omega, rfl, ho, hbw⟩
      case round =>
        obtain ⟨t, htk, rfl, ho, hbw⟩ := hrel
        by_cases hlt2' : t < m
        · have f2 : wr.cell? ⟨b3, o3 + t, none⟩ = some (.int .u8 ((nth (mrow a i) t).toNat : Int)) := (hbw.cell (by exact hlt3)).trans (hc3.out t hlt2')
          have f3 : wr.cell? ⟨b2, o2 + t, none⟩ = some (.int .u8 ((nth v t).toNat : Int)) := (hbw.cell (by exact hlt2)).trans (hc2.out t hlt2')
          have f4 : wr.cell? ⟨g, i, none⟩ = some (.int .u8 ((appP m a v i t i).toNat : Int)) := ho.cell hlt
          have f5 := ho.frozen i
          have c1 : (0 : Int) ≤ (i : Int) := Int.natCast_nonneg _
          have c2 : (i : Int) < (r : Int) := by omega
          have c3 : (0 : Int) ≤ (t : Int) := Int.natCast_nonneg _
          have c4 : (t : Int) < (m : Int) := by omega
          have hx := u8_xor_F (appP m a v i t i) (Gf.mul (nth (mrow a i) t) (nth v t))
          go_wp2
          go_region_law (first | (go_simp; go_at_call 99; refine (mul_any _ _ _).mono ?_; rintro e w2 ⟨rfl, rfl⟩))
          all_goals
            go_wp2
            go_roundw
            case rel => exact ⟨t + 1, by omega, by go_num, ((ho.set i (vb (appP m a v i t i ^^^ Gf.mul (nth (mrow a i) t) (nth v t)))).congr fun i' _ => appP_step ..).drew, (hbw.setCell hg _).drew⟩
            case measure => simp [intOf]; omega
        · obtain rfl : t = m := by omega
          go_wp2
          go_roundw
          case rel => exact ⟨i + 1, by omega, by go_num, ho.congr fun i' _ => by rw [appP_next], hbw⟩
          case measure => simp [intOf]; omega
    · obtain rfl : i = r := by omega
      go_wp2
      go_ret2
      exact ⟨_, _, rfl, Byt.of_rowIs (ho.congr fun j hj => by rw [appM, nth_mkr _ hj]; unfold appP; rw [if_pos hj]; rfl) (mkr_length _ _) hg (max_of (by omega)), hbw⟩
end
end Go.Proofs.Ytifhjigkljdkmaa
