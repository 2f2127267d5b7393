/- Contracts of the functions of chapter 24 on lists of numbers and of marks (first part). -/
import Derived.Test.YtifhjigkljdkmaaM5
namespace Go.Proofs.Ytifhjigkljdkmaa
open Go.RowKit
open Gf (F)
set_option linter.unusedSimpArgs false
set_option linter.unusedVariables false
/-- The slice reads the marks l. -/
def ntb (l : List Bool) (j : Nat) : Bool := l.getD j false
structure Bools (p : Nat → Prop) (w : World) (A : Option Addr) (n c : Nat) (l : List Bool) : Prop where
  len : l.length = n
  row : Row p w A n c fun j => .bool (ntb l j)
theorem nti_mem {l : List Int} {z : Int} : z ∈ l ↔ ∃ j, j < l.length ∧ nti l j = z := by
  constructor
  · intro h
    obtain ⟨j, hj, e⟩ := List.mem_iff_getElem.1 h
    exact ⟨j, hj, by rw [nti_of_lt hj, e]⟩
  · rintro ⟨j, hj, rfl⟩
    rw [nti_of_lt hj]
    exact List.getElem_mem _
def wideB (z : Int) : Bool := decide (4 ≤ z) && decide (z ≤ 16)
/-- No number of the list is marked. -/
def cleanB (l : List Int) (m : List Bool) : Bool := l.all fun z => !ntb m z.toNat
section
variable {p q : Nat → Prop} {w w' : World} {A B : Option Addr} {n c m d : Nat} {l k : List Int} {b : List Bool}
theorem Bools.below (h : Bools p w A n c b) (k : Below w.heap.size w w') : Bools p w' A n c b := ⟨h.len, h.row.below k⟩
theorem Bools.drewN (h : Bools p w A n c b) (k : Nat) : Bools p (w.drewN k) A n c b := ⟨h.len, h.row.keep ((Keeps.refl p w).drewN k)⟩
theorem sameints24_any {l k : List Int} (h : Ints p w A n c l) (g : Ints q w B m d k) : Calls Try.prog 53 #[.slice A n c, .slice B m d] w fun e w' => e = .returned (.bool (decide (l = k))) ∧ ∃ m, w' = w.drewN m := by
  have hn := h.row.len
  have hm := g.row.len
  by_cases hne : n = m
  case neg =>
    have ht : ((n : Int) != (m : Int)) = true := by simp; exact fun e => hne (by omega)
    replace hne := Lib.hid hne
    go_enter Try.func53, Try.ntmps53
    go_wp2
    go_ret
    exact ⟨ret_bool (by rw [eq_comm, decide_eq_false_iff_not]; intro e; exact hne.out (by rw [← h.len, ← g.len, e])), 0, rfl⟩
  subst hne
  have ht : ((n : Int) != (n : Int)) = false := by simp
  go_enter Try.func53, Try.ntmps53
  go_wp2
  go_loopw [5] (fun i wr => ∃ i' m : Nat, i' ≤ n ∧ i = .int .i64 i' ∧ wr = w.drewN m ∧ ∀ j, j < i' → nti l j = nti k j) (fun i _ => n - (intOf i).toNat)
  case atStart => exact ⟨0, 0, by omega, rfl, rfl, fun j hj => absurd hj (Nat.not_lt_zero _)⟩
  case round =>
    obtain ⟨i, m, hk, rfl, rfl, hall⟩ := hrel
    replace hall := Lib.hid hall
    by_cases hlt : i < n
    · obtain ⟨b, o, rfl, _, _, hc⟩ := h.row.at_ (by omega)
      obtain ⟨b', o', rfl, _, _, hc'⟩ := g.row.at_ (by omega)
      have e1 := hc i hlt
      have e2 := hc' i hlt
      clear hc hc'
      have b1 : (0 : Int) ≤ (i : Int) := Int.natCast_nonneg _
      have b2 : (i : Int) < (n : Int) := by omega
      by_cases heq : nti l i = nti k i
      · have heq2 : (nti l i != nti k i) = false := by rw [heq]; simp
        replace heq := Lib.hid heq
        go_wp2
        go_quiet (fail)
        go_wp2
        go_roundw
        case rel => exact ⟨i + 1, _, by omega, by go_num, rfl, fun j hj => by
            rcases Nat.lt_succ_iff_lt_or_eq.1 hj with hj | rfl
            · exact hall.out j hj
            · exact heq.out⟩
        case measure => simp [intOf]; omega
      · have heq2 : (nti l i != nti k i) = true := by simp; exact heq
        replace heq := Lib.hid heq
        go_wp2
        go_quiet (fail)
        go_wp2
        go_ret
        exact ⟨ret_bool (by rw [eq_comm, decide_eq_false_iff_not]; intro e; exact heq.out (by rw [e])), _, World.drewN_drewN ..⟩
    · obtain rfl : i = n := by omega
      go_wp2
      go_ret
      exact ⟨ret_bool (by rw [eq_comm, decide_eq_true_eq]; exact nti_ext (h.len.trans g.len.symm) (fun j hj => hall.out j (by rw [← h.len]; exact hj))), _, rfl⟩
set_option maxRecDepth 100000 in
theorem wide24_any (z : Int) (w : World) : Calls Try.prog 104 #[.int .i64 z] w fun e w' => e = .returned (.bool (wideB z)) ∧ w = w' := by
  by_cases h : 4 ≤ z
  · by_cases h2 : z ≤ 16
    · go_enter Try.func104, Try.ntmps104
      go_wp2
      go_ret
      exact ⟨ret_bool (by simp [wideB, h, h2]), rfl⟩
    · go_enter Try.func104, Try.ntmps104
      go_wp2
      go_ret
      exact ⟨ret_bool (by simp [wideB, h, h2]), rfl⟩
  · go_enter Try.func104, Try.ntmps104
    go_wp2
    go_ret
    exact ⟨ret_bool (by unfold wideB; rw [decide_eq_false (show ¬ 4 ≤ z by omega)]; rfl), rfl⟩
set_option maxRecDepth 100000 in
theorem validw_any (z : Int) (w : World) : Calls Try.prog 107 #[.int .i64 z] w fun e w' => e = .returned (.bool (wideB z)) ∧ w = w' := by
  by_cases h : 3 < z
  · have h4 : 4 ≤ z := by omega
    by_cases h2 : z ≤ 16
    · replace h4 := Lib.hid h4
      go_enter Try.func107, Try.ntmps107
      go_wp2
      go_ret
      exact ⟨ret_bool (by simp [wideB, h4.out, h2]), rfl⟩
    · replace h4 := Lib.hid h4
      go_enter Try.func107, Try.ntmps107
      go_wp2
      go_ret
      exact ⟨ret_bool (by simp [wideB, h4.out, h2]), rfl⟩
  · have h4 : ¬ 4 ≤ z := by omega
    replace h4 := Lib.hid h4
    go_enter Try.func107, Try.ntmps107
    go_wp2
    go_ret
    exact ⟨ret_bool (by unfold wideB; rw [decide_eq_false (show ¬ 4 ≤ z from fun e => by have := h4.out; omega)]; rfl), rfl⟩
set_option maxRecDepth 100000 in
set_option maxHeartbeats 400000 in
theorem has_any (z : Int) (h : Ints p w A n c l) : Calls Try.prog 111 #[.slice A n c, .int .i64 z] w fun e w' => e = .returned (.bool (decide (z ∈ l))) ∧ w = w' := by
  have hn := h.row.len
  have hl := Lib.hid h.len
  go_enter Try.func111, Try.ntmps111
  go_wp2
  go_loop [5] (fun i => ∃ k : Nat, k ≤ n ∧ i = .int .i64 k ∧ ∀ j, j < k → nti l j ≠ z) (fun i => n - (intOf i).toNat)
  case atStart => exact ⟨0, by omega, rfl, fun j hj => absurd hj (Nat.not_lt_zero _)⟩
  case round =>
    obtain ⟨k, hk, rfl, hall⟩ := hrel
    replace hall := Lib.hid hall
    by_cases hlt : k < n
    · obtain ⟨b, o, rfl, _, _, hc⟩ := h.row.at_ (by omega)
      have e1 := hc k hlt
      clear hc
      have b1 : (0 : Int) ≤ (k : Int) := Int.natCast_nonneg _
      have b2 : (k : Int) < (n : Int) := by omega
      by_cases heq : nti l k = z
      · have heq2 : (nti l k == z) = true := by simp [heq]
        replace heq := Lib.hid heq
        go_wp2
        go_ret
        exact ⟨ret_bool (by rw [eq_comm, decide_eq_true_eq]; exact nti_mem.2 ⟨k, by rw [hl.out]; exact hlt, heq.out⟩), rfl⟩
      · have heq2 : (nti l k == z) = false := by simp [heq]
        replace heq := Lib.hid heq
        go_wp2
        go_round
        case rel => exact ⟨k + 1, by omega, by go_num, fun j hj => by
          rcases Nat.lt_succ_iff_lt_or_eq.1 hj with hj | rfl
          · exact hall.out j hj
          · exact heq.out⟩
        case measure => simp [intOf]; omega
    · obtain rfl : k = n := by omega
      go_wp2
      go_ret
      exact ⟨ret_bool (by rw [eq_comm, decide_eq_false_iff_not]; intro hm; obtain ⟨j, hj, e⟩ := nti_mem.1 hm; exact hall.out j (by rw [← hl.out]; exact hj) e), rfl⟩
set_option maxRecDepth 100000 in
set_option maxHeartbeats 400000 in
theorem indexi_any (z : Int) (h : Ints p w A n c l) : Calls Try.prog 151 #[.slice A n c, .int .i64 z] w fun e w' => (∃ r : Int, e = .returned (.int .i64 r) ∧ (0 ≤ r ↔ z ∈ l)) ∧ w = w' := by
  have hn := h.row.len
  have hl := Lib.hid h.len
  go_enter Try.func151, Try.ntmps151
  go_wp2
  go_loop [8] (fun i => ∃ k : Nat, k ≤ n ∧ i = .int .i64 k ∧ ∀ j, j < k → nti l j ≠ z) (fun i => n - (intOf i).toNat)
  case atStart => exact ⟨0, by omega, rfl, fun j hj => absurd hj (Nat.not_lt_zero _)⟩
  case round =>
    obtain ⟨k, hk, rfl, hall⟩ := hrel
    replace hall := Lib.hid hall
    by_cases hlt : k < n
    · obtain ⟨b, o, rfl, _, _, hc⟩ := h.row.at_ (by omega)
      have e1 := hc k hlt
      clear hc
      have b1 : (0 : Int) ≤ (k : Int) := Int.natCast_nonneg _
      have b2 : (k : Int) < (n : Int) := by omega
      by_cases heq : nti l k = z
      · have heq2 : (z == nti l k) = true := by simp [heq]
        replace heq := Lib.hid heq
        go_wp2
        go_ret
        exact ⟨⟨k, rfl, fun _ => nti_mem.2 ⟨k, by rw [hl.out]; exact hlt, heq.out⟩, fun _ => b1⟩, rfl⟩
      · have heq2 : (z == nti l k) = false := by simp; exact fun e => heq e.symm
        replace heq := Lib.hid heq
        go_wp2
        go_round
        case rel => exact ⟨k + 1, by omega, by go_num, fun j hj => by
          rcases Nat.lt_succ_iff_lt_or_eq.1 hj with hj | rfl
          · exact hall.out j hj
          · exact heq.out⟩
        case measure => simp [intOf]; omega
    · obtain rfl : k = n := by omega
      go_wp2
      go_ret
      exact ⟨⟨-1, rfl, fun h => absurd h (by omega), fun hm => by obtain ⟨j, hj, e⟩ := nti_mem.1 hm; exact absurd e (hall.out j (by rw [← hl.out]; exact hj))⟩, rfl⟩
set_option maxRecDepth 100000 in
theorem contains_any (z : Int) (h : Ints p w A n c l) : Calls Try.prog 143 #[.slice A n c, .int .i64 z] w fun e w' => e = .returned (.bool (decide (z ∈ l))) ∧ w = w' := by
  go_enter Try.func143, Try.ntmps143
  go_wp2_with (go_at_call 151; (with_reducible refine (indexi_any z h).mono ?_); rintro e w' ⟨⟨r, rfl, hr⟩, rfl⟩)
  go_ret
  exact ⟨by first | rfl | exact ret_bool (by simp [hr]), rfl⟩
set_option maxRecDepth 100000 in
set_option maxHeartbeats 400000 in
theorem clean_any (h : Ints p w A n c l) (g : Bools q w B m d b) (hr : ∀ j, j < n → 0 ≤ nti l j ∧ nti l j < m) : Calls Try.prog 61 #[.slice A n c, .slice B m d] w fun e w' => e = .returned (.bool (cleanB l b)) ∧ w = w' := by
  have hn := h.row.len
  have hl := Lib.hid h.len
  replace hr := Lib.hid hr
  go_enter Try.func61, Try.ntmps61
  go_wp2
  go_loop [5] (fun i => ∃ k : Nat, k ≤ n ∧ i = .int .i64 k ∧ ∀ j, j < k → ntb b (nti l j).toNat = false) (fun i => n - (intOf i).toNat)
  case atStart => exact ⟨0, by omega, rfl, fun j hj => absurd hj (Nat.not_lt_zero _)⟩
  case round =>
    obtain ⟨k, hk, rfl, hall⟩ := hrel
    replace hall := Lib.hid hall
    by_cases hlt : k < n
    · obtain ⟨b1, o, rfl, _, _, hc⟩ := h.row.at_ (by omega)
      have e1 := hc k hlt
      clear hc
      obtain ⟨hr1, hr2⟩ := hr.out k hlt
      obtain ⟨t, ht⟩ := Int.eq_ofNat_of_zero_le hr1
      rw [ht] at e1 hr1 hr2
      have htm : t < m := by omega
      obtain ⟨b2, o2, rfl, _, _, hc2⟩ := g.row.at_ (by omega)
      have e2 := hc2 t htm
      clear hc2
      have d1 : (0 : Int) ≤ (k : Int) := Int.natCast_nonneg _
      have d2 : (k : Int) < (n : Int) := by omega
      have ht2 : (nti l k).toNat = t := by rw [ht]; rfl
      replace ht := Lib.hid ht
      replace ht2 := Lib.hid ht2
      cases hb : ntb b t with
      | true =>
        rw [hb] at e2
        replace hb := Lib.hid hb
        go_wp2
        go_ret
        exact ⟨ret_bool (by
          rw [eq_comm, cleanB, List.all_eq_false]
          exact ⟨nti l k, nti_mem.2 ⟨k, by rw [hl.out]; exact hlt, rfl⟩, by rw [ht2.out, hb.out]; simp⟩), rfl⟩
      | false =>
        rw [hb] at e2
        replace hb := Lib.hid hb
        go_wp2
        go_round
        case rel => exact ⟨k + 1, by omega, by go_num, fun j hj => by
          rcases Nat.lt_succ_iff_lt_or_eq.1 hj with hj | rfl
          · exact hall.out j hj
          · rw [ht2.out]; exact hb.out⟩
        case measure => simp [intOf]; omega
    · obtain rfl : k = n := by omega
      go_wp2
      go_ret
      exact ⟨ret_bool (by
        rw [eq_comm, cleanB, List.all_eq_true]
        intro z hz
        obtain ⟨j, hj, rfl⟩ := nti_mem.1 hz
        rw [hall.out j (by rw [← hl.out]; exact hj)]
        rfl), rfl⟩
end

/-- The numbers below k for which P holds. -/
def sel (P : Nat → Bool) (k : Nat) : List Int := ((List.range k).filter P).map Int.ofNat
theorem sel_yes {P : Nat → Bool} {k : Nat} (h : P k = true) : sel P (k + 1) = sel P k ++ [(k : Int)] := by
  unfold sel
  rw [List.range_succ, List.filter_append, List.map_append, List.filter_cons_of_pos h]
  rfl
theorem sel_no {P : Nat → Bool} {k : Nat} (h : P k = false) : sel P (k + 1) = sel P k := by
  unfold sel
  rw [List.range_succ, List.filter_append, List.filter_cons_of_neg (by simp [h])]
  simp
theorem sel_len (P : Nat → Bool) (k : Nat) : (sel P k).length ≤ k := by
  unfold sel
  rw [List.length_map]
  exact Nat.le_trans (List.length_filter_le _ _) (Nat.le_of_eq List.length_range)
def deltaP (wd : Nat) (l : List Int) (i : Nat) : Bool := decide ((i : Int) ∈ l) || decide (wd ≤ i + 3)
def restP (l : List Int) (i : Nat) : Bool := !decide ((i : Int) ∈ l)
section
variable {p q : Nat → Prop} {w w' : World} {A B : Option Addr} {n c m d : Nat} {l k : List Int} {b : List Bool}
set_option maxRecDepth 100000 in
set_option maxHeartbeats 1000000 in
theorem delta24_any (wd : Nat) (h4 : 4 ≤ wd) (h16 : wd ≤ 16) (h : Ints p w A n c l) : Calls Try.prog 59 #[.int .i64 (wd : Int), .slice A n c] w fun e w' => ∃ A' c', e = .returned (.slice A' (sel (deltaP wd l) wd).length c') ∧ Ints (fun b => w.heap.size ≤ b) w' A' (sel (deltaP wd l) wd).length c' (sel (deltaP wd l) wd) ∧ Below w.heap.size w w' := by
  go_enter Try.func59, Try.ntmps59
  go_wp2
  go_loopw [5, 6] (fun v x wr => ∃ i : Nat, i ≤ wd ∧ x = .int .i64 i ∧ wr.ownsRow w.heap.size 3 1 v (sel (deltaP wd l) i).length ((sel (deltaP wd l) i).map fun n => Value.int .i64 n) ∧ Below w.heap.size w wr) (fun _ x _ => wd - (intOf x).toNat)
  case atStart => exact ⟨0, by omega, rfl, World.ownsRow_nil _ _ _ _, Below.refl _ _⟩
  case round =>
    obtain ⟨i, hi, rfl, hown, hbw⟩ := hrel
    have hsz := hbw.size
    have hlen := sel_len (deltaP wd l) i
    by_cases hlt : i < wd
    · have hw := h.below hbw
      cases hP : deltaP wd l i with
      | true =>
        have e1 := sel_yes hP
        have e2 := congrArg List.length e1
        rw [List.length_append] at e2
        replace e1 := Lib.hid e1
        replace e2 := Lib.hid e2
        by_cases hm : (i : Int) ∈ l
        · have hd : decide ((i : Int) ∈ l) = true := decide_eq_true hm
          go_wp2_with (first | (go_at_call 111; (with_reducible refine (has_any (i : Int) hw).mono ?_); rw [hd]; rintro e w' ⟨rfl, rfl⟩) | (at_builtin; refine wpl_append1 rfl (s := .tmp 21) (x := .tmp 23) rfl Try.underlying29 info3 rfl rfl hown rfl rfl (by unfold maxLen; omega) (by omega) (by omega) ?_; intro v2 w2 hown2 hgr2 hne2))
          go_roundw
          case rel => exact ⟨i + 1, by omega, by go_num, by rw [e2.out, e1.out, ints_step]; exact hown2, hbw.grown hgr2 hsz (own_ge hown)⟩
          case measure => simp [intOf]; omega
        · have hd : decide ((i : Int) ∈ l) = false := decide_eq_false hm
          have h3 : wd ≤ i + 3 := by
            unfold deltaP at hP
            rw [hd] at hP
            simpa using hP
          have h3' : (wd : Int) - 3 ≤ (i : Int) := by omega
          go_wp2_with (first | (go_at_call 111; (with_reducible refine (has_any (i : Int) hw).mono ?_); rw [hd]; rintro e w' ⟨rfl, rfl⟩) | (at_builtin; refine wpl_append1 rfl (s := .tmp 21) (x := .tmp 23) rfl Try.underlying29 info3 rfl rfl hown rfl rfl (by unfold maxLen; omega) (by omega) (by omega) ?_; intro v2 w2 hown2 hgr2 hne2))
          go_roundw
          case rel => exact ⟨i + 1, by omega, by go_num, by rw [e2.out, e1.out, ints_step]; exact hown2, hbw.grown hgr2 hsz (own_ge hown)⟩
          case measure => simp [intOf]; omega
      | false =>
        have e1 := sel_no hP
        have hd : decide ((i : Int) ∈ l) = false := by
          cases hh : decide ((i : Int) ∈ l) with
          | false => rfl
          | true => unfold deltaP at hP; rw [hh] at hP; cases hP
        have h3 : ¬ wd ≤ i + 3 := fun e => by unfold deltaP at hP; rw [decide_eq_true e, Bool.or_true] at hP; cases hP
        have h3' : ¬ ((wd : Int) - 3 ≤ (i : Int)) := by omega
        replace e1 := Lib.hid e1
        go_wp2_with (go_at_call 111; (with_reducible refine (has_any (i : Int) hw).mono ?_); rw [hd]; rintro e w' ⟨rfl, rfl⟩)
        go_roundw
        case rel => exact ⟨i + 1, by omega, by go_num, by rw [e1.out]; exact hown, hbw⟩
        case measure => simp [intOf]; omega
    · obtain rfl : i = wd := by omega
      obtain ⟨A', c', rfl, hints⟩ := own_ints hown
      go_wp2
      go_ret
      exact ⟨A', c', rfl, hints.mono fun _ _ h => h.1, hbw⟩
set_option maxRecDepth 100000 in
set_option maxHeartbeats 1000000 in
theorem rest24_any (wd : Nat) (h4 : 4 ≤ wd) (h16 : wd ≤ 16) (h : Ints p w A n c l) : Calls Try.prog 60 #[.int .i64 (wd : Int), .slice A n c] w fun e w' => ∃ A' c', e = .returned (.slice A' (sel (restP l) (wd - 3)).length c') ∧ Ints (fun b => w.heap.size ≤ b) w' A' (sel (restP l) (wd - 3)).length c' (sel (restP l) (wd - 3)) ∧ Below w.heap.size w w' := by
  obtain ⟨u, hu⟩ : ∃ u, u = wd - 3 := ⟨_, rfl⟩
  have hu2 : (wd : Int) - 3 = (u : Int) := by omega
  have hu3 : u ≤ 13 := by omega
  rw [← hu]
  clear hu
  go_enter Try.func60, Try.ntmps60
  go_wp2
  go_loopw [5, 6] (fun v x wr => ∃ i : Nat, i ≤ u ∧ x = .int .i64 i ∧ wr.ownsRow w.heap.size 3 1 v (sel (restP l) i).length ((sel (restP l) i).map fun n => Value.int .i64 n) ∧ Below w.heap.size w wr) (fun _ x _ => u - (intOf x).toNat)
  case atStart => exact ⟨0, by omega, rfl, World.ownsRow_nil _ _ _ _, Below.refl _ _⟩
  case round =>
    obtain ⟨i, hi, rfl, hown, hbw⟩ := hrel
    have hsz := hbw.size
    have hlen := sel_len (restP l) i
    by_cases hlt : i < u
    · have hw := h.below hbw
      have hlt' : (i : Int) < (wd : Int) - 3 := by omega
      cases hP : restP l i with
      | true =>
        have e1 := sel_yes hP
        have e2 := congrArg List.length e1
        rw [List.length_append] at e2
        have hd : decide ((i : Int) ∈ l) = false := by unfold restP at hP; simpa using hP
        replace e1 := Lib.hid e1
        replace e2 := Lib.hid e2
        go_wp2_with (first | (go_at_call 111; (with_reducible refine (has_any (i : Int) hw).mono ?_); rw [hd]; rintro e w' ⟨rfl, rfl⟩) | (at_builtin; refine wpl_append1 rfl (s := .tmp 17) (x := .tmp 19) rfl Try.underlying29 info3 rfl rfl hown rfl rfl (by unfold maxLen; omega) (by omega) (by omega) ?_; intro v2 w2 hown2 hgr2 hne2))
        go_roundw
        case rel => exact ⟨i + 1, by omega, by go_num, by rw [e2.out, e1.out, ints_step]; exact hown2, hbw.grown hgr2 hsz (own_ge hown)⟩
        case measure => simp [intOf]; omega
      | false =>
        have e1 := sel_no hP
        have hd : decide ((i : Int) ∈ l) = true := by unfold restP at hP; simpa using hP
        replace e1 := Lib.hid e1
        go_wp2_with (go_at_call 111; (with_reducible refine (has_any (i : Int) hw).mono ?_); rw [hd]; rintro e w' ⟨rfl, rfl⟩)
        go_roundw
        case rel => exact ⟨i + 1, by omega, by go_num, by rw [e1.out]; exact hown, hbw⟩
        case measure => simp [intOf]; omega
    · obtain rfl : i = u := by omega
      have hlt' : ¬ ((i : Int) < (wd : Int) - 3) := by omega
      obtain ⟨A', c', rfl, hints⟩ := own_ints hown
      go_wp2
      go_ret
      exact ⟨A', c', rfl, hints.mono fun _ _ h => h.1, hbw⟩
end
end Go.Proofs.Ytifhjigkljdkmaa
