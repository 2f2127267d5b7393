/- Contracts of group.good and of the three methods of group.Reads. -/
import Derived.Test.YtifhjigkljdkmaaGe
import Derived.Test.YtifhjigkljdkmaaGc
namespace Go.Proofs.Ytifhjigkljdkmaa
open Go.RowKit
open Gf (F)
set_option linter.unusedSimpArgs false
set_option linter.unusedVariables false
section
variable {p q : Nat → Prop} {w : World} {A B : Option Addr} {n c m d wd gb gw gt i : Nat} {l : List Int} {b : List Bool}
set_option maxRecDepth 100000 in
set_option maxHeartbeats 400000 in
theorem indexf154 (h : Ints p w A n c l) (hg : w.cell? ⟨gb, 0, none⟩ = some (.slice B m d)) (g : Bools q w B m d b) (hr : ∀ j, j < n → 0 ≤ nti l j ∧ nti l j < m) :
    Calls Try.prog 154 #[.slice A n c, .func (.func 153) #[] #[.pointer (some ⟨gb, 0, none⟩)]] w fun e w' => (∃ r : Int, e = .returned (.int .i64 r) ∧ (0 ≤ r ↔ cleanB l b = false)) ∧ w = w' := by
  have hn := h.row.len
  have hl := Lib.hid h.len
  replace hr := Lib.hid hr
  go_enter Try.func154, Try.ntmps154
  go_wp2
  go_loop [8] (fun i => ∃ k : Nat, k ≤ n ∧ i = .int .i64 k ∧ ∀ j, j < k → ntb b (nti l j).toNat = false) (fun i => n - (intOf i).toNat)
  case atStart => exact ⟨0, by omega, rfl, fun j hj => absurd hj (Nat.not_lt_zero _)⟩
  case round =>
    obtain ⟨k, hk, rfl, hall⟩ := hrel
    replace hall := Lib.hid hall
    by_cases hlt : k < n
    · obtain ⟨b1, o, rfl, _, _, hc⟩ := h.row.at_ (by omega)
      have e1 := hc k hlt
      clear hc
      obtain ⟨hr1, hr2⟩ := hr.out k hlt
      obtain ⟨t, ht⟩ := Int.eq_ofNat_of_zero_le hr1
      rw [ht] at e1 hr1 hr2
      have htm : t < m := by omega
      have d1 : (0 : Int) ≤ (k : Int) := Int.natCast_nonneg _
      have d2 : (k : Int) < (n : Int) := by omega
      have ht2 : (nti l k).toNat = t := by rw [ht]; rfl
      replace ht := Lib.hid ht
      replace ht2 := Lib.hid ht2
      have hcl := cl153 hg g htm
      cases hb : ntb b t with
      | true =>
        rw [hb] at hcl
        replace hb := Lib.hid hb
        go_wp2_with (go_at_call 153; (with_reducible refine hcl.mono ?_); rintro e w' ⟨rfl, rfl⟩)
        go_ret
        exact ⟨⟨k, rfl, fun _ => by
          rw [cleanB, List.all_eq_false]
          exact ⟨nti l k, nti_mem.2 ⟨k, by rw [hl.out]; exact hlt, rfl⟩, by rw [ht2.out, hb.out]; simp⟩, fun _ => d1⟩, rfl⟩
      | false =>
        rw [hb] at hcl
        replace hb := Lib.hid hb
        go_wp2_with (go_at_call 153; (with_reducible refine hcl.mono ?_); rintro e w' ⟨rfl, rfl⟩)
        go_round
        case rel => exact ⟨k + 1, by omega, by go_num, fun j hj => by
          rcases Nat.lt_succ_iff_lt_or_eq.1 hj with hj | rfl
          · exact hall.out j hj
          · rw [ht2.out]; exact hb.out⟩
        case measure => simp [intOf]; omega
    · obtain rfl : k = n := by omega
      have hcl : cleanB l b = true := by
        rw [cleanB, List.all_eq_true]
        intro z hz
        obtain ⟨j, hj, rfl⟩ := nti_mem.1 hz
        rw [hall.out j (by rw [← hl.out]; exact hj)]
        rfl
      replace hcl := Lib.hid hcl
      go_wp2
      go_ret
      exact ⟨⟨-1, rfl, fun h => absurd h (by omega), fun h => by rw [hcl.out] at h; cases h⟩, rfl⟩
set_option maxRecDepth 100000 in
theorem contains152 (h : Ints p w A n c l) (hg : w.cell? ⟨gb, 0, none⟩ = some (.slice B m d)) (g : Bools q w B m d b) (hr : ∀ j, j < n → 0 ≤ nti l j ∧ nti l j < m) :
    Calls Try.prog 152 #[.slice A n c, .func (.func 153) #[] #[.pointer (some ⟨gb, 0, none⟩)]] w fun e w' => e = .returned (.bool (!cleanB l b)) ∧ w = w' := by
  have hi := indexf154 h hg g hr
  replace hr := Lib.hid hr
  cases hc : cleanB l b with
  | false =>
    rw [hc] at hi
    go_enter Try.func152, Try.ntmps152
    go_wp2_with (go_at_call 154; (with_reducible refine hi.mono ?_); rintro e w' ⟨⟨r, rfl, hr2⟩, rfl⟩; have hr3 : (0 : Int) ≤ r := hr2.2 rfl; clear hr2)
    go_ret
    exact ⟨rfl, rfl⟩
  | true =>
    rw [hc] at hi
    go_enter Try.func152, Try.ntmps152
    go_wp2_with (go_at_call 154; (with_reducible refine hi.mono ?_); rintro e w' ⟨⟨r, rfl, hr2⟩, rfl⟩; have hr3 : ¬ (0 : Int) ≤ r := (fun h => by have := hr2.1 h; cases this); clear hr2)
    go_ret
    exact ⟨ret_bool (by rw [decide_eq_false (show ¬ (0 : Int) ≤ r by omega)]; rfl), rfl⟩
set_option maxRecDepth 100000 in
theorem good_any (h : Ints p w A n c l) (g : Bools q w B m d b) (hr : ∀ j, j < n → 0 ≤ nti l j ∧ nti l j < m) : Calls Try.prog 144 #[.slice A n c, .slice B m d] w fun e w' => e = .returned (.bool (cleanB l b)) ∧ Below w.heap.size w w' := by
  have hb0 : Below w.heap.size w (w.alloc (.cells #[.slice B m d] 67)) := (Below.refl _ _).alloc (Nat.le_refl _) _
  have hc0 : (w.alloc (.cells #[.slice B m d] 67)).cell? ⟨w.heap.size, 0, none⟩ = some (.slice B m d) := (World.rowIs_alloc w #[.slice B m d] 67 (fun _ => .slice B m d) (fun i hi => by
    match i, hi with
    | 0, _ => rfl)).cell (by simp)
  have hcc := contains152 (h.below hb0) hc0 (g.below hb0) hr
  replace hr := Lib.hid hr
  go_enter Try.func144, Try.ntmps144
  go_wp2_with (go_at_call 152; (with_reducible refine hcc.mono ?_); rintro e w' ⟨rfl, rfl⟩)
  go_ret
  exact ⟨by simp, hb0⟩
set_option maxRecDepth 100000 in
set_option maxHeartbeats 1000000 in
theorem gdelta_any (h4 : 4 ≤ wd) (h16 : wd ≤ 16) (h : Ints p w A n c l) (g : Bools q w B wd d b) : Calls Try.prog 122 #[.int .i64 (wd : Int), .slice A n c, .slice B wd d] w fun e w' => ∃ A' c', e = .returned (.tuple #[.slice A' (sel (deltaP wd l) wd).length c', .bool (cleanB (sel (deltaP wd l) wd) b)]) ∧ Ints (fun _ => True) w' A' (sel (deltaP wd l) wd).length c' (sel (deltaP wd l) wd) ∧ Below w.heap.size w w' := by
  obtain ⟨wa, hwa⟩ : ∃ wa, wa = (w.alloc (.cells #[.int .i64 (wd : Int)] 3)).alloc (.cells #[.slice A n c] 29) := ⟨_, rfl⟩
  have hba : Below w.heap.size w wa := by rw [hwa]; exact ((Below.refl _ _).alloc (Nat.le_refl _) _).alloc (by simp) _
  have c1 : wa.cell? ⟨w.heap.size, 0, none⟩ = some (.int .i64 (wd : Int)) := by
    have hz : (w.alloc (.cells #[.int .i64 (wd : Int)] 3)).cell? ⟨w.heap.size, 0, none⟩ = some (.int .i64 (wd : Int)) := (World.rowIs_alloc w #[.int .i64 (wd : Int)] 3 (fun _ => .int .i64 (wd : Int)) (fun i hi => by
      match i, hi with
      | 0, _ => rfl)).cell (by simp)
    rw [hwa]
    exact (((Below.refl (w.alloc (.cells #[.int .i64 (wd : Int)] 3)).heap.size _).alloc (Nat.le_refl _) _).cell (p := ⟨w.heap.size, 0, none⟩) (by simp)).trans hz
  have c2 : wa.cell? ⟨w.heap.size + 1, 0, none⟩ = some (.slice A n c) := by
    rw [hwa]
    simp
  have hnum := numbers142 (w := wa) (x := .pointer (some ⟨w.heap.size, 0, none⟩)) (y := .pointer (some ⟨w.heap.size + 1, 0, none⟩)) (P := deltaP wd l) wd (by omega) (fun i w' hi hb => cl142 h4 h16 ((hb.cell (p := ⟨w.heap.size, 0, none⟩) (by rw [hwa]; simp; omega)).trans c1) ((hb.cell (p := ⟨w.heap.size + 1, 0, none⟩) (by rw [hwa]; simp)).trans c2) ((h.below hba).below hb))
  have hra : ∀ j, j < (sel (deltaP wd l) wd).length → 0 ≤ nti (sel (deltaP wd l) wd) j ∧ nti (sel (deltaP wd l) wd) j < wd := fun j hj => sel_range _ _ j hj
  replace hra := Lib.hid hra
  rw [hwa] at hnum c1 c2
  go_enter Try.func122, Try.ntmps122
  go_wp2_with (first | (go_at_call 108; (with_reducible refine hnum.mono ?_); rintro e w1 ⟨A1, c1', rfl, hi1, hb1⟩; rw [← hwa] at hb1; have hB1 := below_then2 hba hb1; have g1 := (g.below hba).below hb1) | (go_at_call 144; (with_reducible refine (good_any hi1 g1 hra.out).mono ?_); rintro e w2 ⟨rfl, hb2⟩; have hB2 := below_then2 hB1 hb2; have hi2 := hi1.below hb2))
  go_ret2
  exact ⟨_, _, rfl, hi2.mono fun _ _ _ => trivial, hB2⟩
set_option maxRecDepth 100000 in
set_option maxHeartbeats 1000000 in
theorem grest_any (h4 : 4 ≤ wd) (h16 : wd ≤ 16) (h : Ints p w A n c l) (g : Bools q w B wd d b) : Calls Try.prog 123 #[.int .i64 (wd : Int), .slice A n c, .slice B wd d] w fun e w' => ∃ A' c', e = .returned (.tuple #[.slice A' (sel (rest2P wd l) wd).length c', .bool (cleanB (sel (rest2P wd l) wd) b)]) ∧ Ints (fun _ => True) w' A' (sel (rest2P wd l) wd).length c' (sel (rest2P wd l) wd) ∧ Below w.heap.size w w' := by
  obtain ⟨wa, hwa⟩ : ∃ wa, wa = (w.alloc (.cells #[.int .i64 (wd : Int)] 3)).alloc (.cells #[.slice A n c] 29) := ⟨_, rfl⟩
  have hba : Below w.heap.size w wa := by rw [hwa]; exact ((Below.refl _ _).alloc (Nat.le_refl _) _).alloc (by simp) _
  have c1 : wa.cell? ⟨w.heap.size, 0, none⟩ = some (.int .i64 (wd : Int)) := by
    have hz : (w.alloc (.cells #[.int .i64 (wd : Int)] 3)).cell? ⟨w.heap.size, 0, none⟩ = some (.int .i64 (wd : Int)) := (World.rowIs_alloc w #[.int .i64 (wd : Int)] 3 (fun _ => .int .i64 (wd : Int)) (fun i hi => by
      match i, hi with
      | 0, _ => rfl)).cell (by simp)
    rw [hwa]
    exact (((Below.refl (w.alloc (.cells #[.int .i64 (wd : Int)] 3)).heap.size _).alloc (Nat.le_refl _) _).cell (p := ⟨w.heap.size, 0, none⟩) (by simp)).trans hz
  have c2 : wa.cell? ⟨w.heap.size + 1, 0, none⟩ = some (.slice A n c) := by
    rw [hwa]
    simp
  have hnum := numbers145 (w := wa) (x := .pointer (some ⟨w.heap.size, 0, none⟩)) (y := .pointer (some ⟨w.heap.size + 1, 0, none⟩)) (P := rest2P wd l) wd (by omega) (fun i w' hi hb => cl145 h4 h16 ((hb.cell (p := ⟨w.heap.size, 0, none⟩) (by rw [hwa]; simp; omega)).trans c1) ((hb.cell (p := ⟨w.heap.size + 1, 0, none⟩) (by rw [hwa]; simp)).trans c2) ((h.below hba).below hb))
  have hra : ∀ j, j < (sel (rest2P wd l) wd).length → 0 ≤ nti (sel (rest2P wd l) wd) j ∧ nti (sel (rest2P wd l) wd) j < wd := fun j hj => sel_range _ _ j hj
  replace hra := Lib.hid hra
  rw [hwa] at hnum c1 c2
  go_enter Try.func123, Try.ntmps123
  go_wp2_with (first | (go_at_call 108; (with_reducible refine hnum.mono ?_); rintro e w1 ⟨A1, c1', rfl, hi1, hb1⟩; rw [← hwa] at hb1; have hB1 := below_then2 hba hb1; have g1 := (g.below hba).below hb1) | (go_at_call 144; (with_reducible refine (good_any hi1 g1 hra.out).mono ?_); rintro e w2 ⟨rfl, hb2⟩; have hB2 := below_then2 hB1 hb2; have hi2 := hi1.below hb2))
  go_ret2
  exact ⟨_, _, rfl, hi2.mono fun _ _ _ => trivial, hB2⟩
set_option maxRecDepth 100000 in
set_option maxHeartbeats 1000000 in
theorem gfirst_any (h4 : 4 ≤ wd) (h16 : wd ≤ 16) (g : Bools q w B wd d b) (hl : wd - 3 ≤ (goodL wd b).length) : Calls Try.prog 136 #[.int .i64 (wd : Int), .slice A n c, .slice B wd d] w fun e w' => ∃ A' c', e = .returned (.tuple #[.slice A' (wd - 3) c', .bool true]) ∧ Ints (fun _ => True) w' A' (wd - 3) c' ((goodL wd b).take (wd - 3)) ∧ Below w.heap.size w w' := by
  obtain ⟨wa, hwa⟩ : ∃ wa, wa = w.alloc (.cells #[.slice B wd d] 67) := ⟨_, rfl⟩
  have hba : Below w.heap.size w wa := by rw [hwa]; exact (Below.refl _ _).alloc (Nat.le_refl _) _
  have c1 : wa.cell? ⟨w.heap.size, 0, none⟩ = some (.slice B wd d) := by
    rw [hwa]
    exact (World.rowIs_alloc w #[.slice B wd d] 67 (fun _ => .slice B wd d) (fun i hi => by
      match i, hi with
      | 0, _ => rfl)).cell (by simp)
  have hnum := numbers149 (w := wa) (x := .pointer (some ⟨w.heap.size, 0, none⟩)) (P := goodP b) wd (by omega) (fun i w' hi hb => cl149 ((hb.cell (p := ⟨w.heap.size, 0, none⟩) (by rw [hwa]; simp)).trans c1) ((g.below hba).below hb) hi)
  have hcnt : ¬ (((sel (goodP b) wd).length : Int) < (wd : Int) - 3) := by unfold goodL at hl; omega
  rw [hwa] at hnum
  go_enter Try.func136, Try.ntmps136
  go_wp2_with (go_at_call 108; (with_reducible refine hnum.mono ?_); rintro e w1 ⟨A1, c1', rfl, hi1, hb1⟩; rw [← hwa] at hb1; have hB1 := below_then2 hba hb1; have hcap : (wd : Int) - 3 ≤ (c1' : Int) := (by have h1 := hi1.row.le; unfold goodL at hl; omega); have hw4 : (0 : Int) ≤ (wd : Int) - 3 := (by omega); have hw6 : ((wd : Int) - 3).toNat = wd - 3 := (by omega))
  have hpre := hi1.pre (k := wd - 3) hl
  go_ret2
  exact ⟨_, _, rfl, hpre.mono fun _ _ _ => trivial, hB1⟩
end
end Go.Proofs.Ytifhjigkljdkmaa
