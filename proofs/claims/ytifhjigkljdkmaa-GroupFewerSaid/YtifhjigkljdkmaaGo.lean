/- The law function GroupFewer returns true. -/
import Derived.Test.YtifhjigkljdkmaaGm
namespace Go.Proofs.Ytifhjigkljdkmaa
open Go.RowKit
open Gf (F)
set_option linter.unusedSimpArgs false
set_option linter.unusedVariables false
def allL (k : Nat) : List Int := (List.range k).map Int.ofNat
theorem allL_len (k : Nat) : (allL k).length = k := by simp [allL]
theorem allL_step (k : Nat) : allL (k + 1) = allL k ++ [(k : Int)] := by unfold allL; rw [List.range_succ, List.map_append]; rfl
theorem allL_at {k j : Nat} (h : j < k) : nti (allL k) j = j := by unfold nti allL; simp [List.getD_eq_getElem?_getD, h]
theorem fewer_facts : ∀ wd : Nat, wd < 17 → 4 ≤ wd → ∀ i : Nat, i < 13 → i < wd - 3 → (goodL wd (List.replicate wd false)).length = wd ∧ (readsL wd [(i : Int)] (List.replicate wd false)).length = min 4 (wd - 4) := by decide +kernel
theorem all_facts : ∀ wd : Nat, wd < 17 → 4 ≤ wd → readsL wd (allL (wd - 3)) (List.replicate wd false) = [] := by decide +kernel
theorem info4 : (Try.prog.info? 4).map (fun i => (i.zero, i.size, i.bytes)) = some (some (.bool false), 1, 1) := by kernel_rfl
theorem bools_row {w : World} {g n : Nat} (h : w.rowIs g 4 n fun _ => .bool false) (hn : n ≤ maxLen) : Bools (fun _ => True) w (some ⟨g, 0, none⟩) n n (List.replicate n false) :=
  ⟨List.length_replicate, (Row.of_rowIs h trivial hn).congr fun j hj => by unfold ntb; simp [List.getD_eq_getElem?_getD, hj]⟩
theorem touch_one {wd i : Nat} (h : i < wd - 3) : TouchOk wd 1 [(i : Int)] := fun j hj => by
  obtain rfl : j = 0 := by omega
  have : nti [(i : Int)] 0 = i := rfl
  rw [this]
  omega
theorem touch_all (wd : Nat) : TouchOk wd (wd - 3) (allL (wd - 3)) := fun j hj => by
  rw [allL_at hj]
  refine ⟨by omega, by omega, fun h => ?_⟩
  rw [allL_at (by omega)]
  omega
section
variable {p q : Nat → Prop} {w w' : World} {A B : Option Addr} {n c m d wd : Nat} {l k : List Int} {b : List Bool}
theorem few1 {i c : Nat} (h4 : 4 ≤ wd) (h16 : wd ≤ 16) (hi : i < wd - 3) (h : Ints p w A 1 c [(i : Int)]) (g : Bools q w B wd d (List.replicate wd false)) :
    Calls Try.prog 57 #[.int .i64 (wd : Int), .slice A 1 c, .slice B wd d] w fun e w' => ∃ A' c', e = .returned (.tuple #[.slice A' (min 4 (wd - 4)) c', .int .i64 0]) ∧ Below w.heap.size w w' := by
  obtain ⟨e1, e2⟩ := fewer_facts wd (by omega) h4 i (by omega) hi
  refine (greads_ok h g h4 h16 (touch_one hi) (by omega) (by decide)).mono fun e w' he => ?_
  obtain ⟨A', c', h1, _, h2⟩ := he
  rw [e2] at h1
  exact ⟨A', c', h1, h2⟩
theorem few2 {c : Nat} (h4 : 4 ≤ wd) (h16 : wd ≤ 16) (h : Ints p w A (wd - 3) c (allL (wd - 3))) (g : Bools q w B wd d (List.replicate wd false)) :
    Calls Try.prog 57 #[.int .i64 (wd : Int), .slice A (wd - 3) c, .slice B wd d] w fun e w' => ∃ A' c', e = .returned (.tuple #[.slice A' 0 c', .int .i64 0]) ∧ Below w.heap.size w w' := by
  obtain ⟨e1, _⟩ := fewer_facts wd (by omega) h4 0 (by omega) (by omega)
  have e2 := all_facts wd (by omega) h4
  refine (greads_ok h g h4 h16 (touch_all wd) (by omega) (by omega)).mono fun e w' he => ?_
  obtain ⟨A', c', h1, _, h2⟩ := he
  rw [e2] at h1
  exact ⟨A', c', h1, h2⟩
set_option maxRecDepth 100000 in
set_option maxHeartbeats 1000000 in
theorem law14_out {z1 z2 : Int} (h : z1 < 4 ∨ 16 < z1 ∨ z2 < 0 ∨ z1 - 3 ≤ z2) (w : World) : Calls Try.prog 14 #[.int .i64 z1, .int .i64 z2] w fun e w' => e = .returned (.bool true) ∧ Below w.heap.size w w' := by
  by_cases h1 : z1 < 4
  · clear h
    go_enter Try.func14, Try.ntmps14
    go_wp2_with (go_at_call 48; refine (awake24_any _).mono ?_; rintro e w1 ⟨rfl, hb1⟩)
    go_ret
    exact ⟨rfl, hb1⟩
  by_cases h2 : 16 < z1
  · clear h
    go_enter Try.func14, Try.ntmps14
    go_wp2_with (go_at_call 48; refine (awake24_any _).mono ?_; rintro e w1 ⟨rfl, hb1⟩)
    go_ret
    exact ⟨rfl, hb1⟩
  by_cases h3 : z2 < 0
  · clear h
    go_enter Try.func14, Try.ntmps14
    go_wp2_with (go_at_call 48; refine (awake24_any _).mono ?_; rintro e w1 ⟨rfl, hb1⟩)
    go_ret
    exact ⟨rfl, hb1⟩
  · have h4 : z1 - 3 ≤ z2 := by omega
    clear h
    go_enter Try.func14, Try.ntmps14
    go_wp2_with (go_at_call 48; refine (awake24_any _).mono ?_; rintro e w1 ⟨rfl, hb1⟩)
    go_ret
    exact ⟨rfl, hb1⟩
set_option maxRecDepth 100000 in
set_option maxHeartbeats 1000000 in
theorem law14_in {i : Nat} (h4 : 4 ≤ wd) (h16 : wd ≤ 16) (hi : i < wd - 3) (w : World) : Calls Try.prog 14 #[.int .i64 (wd : Int), .int .i64 (i : Int)] w fun e w' => e = .returned (.bool true) ∧ Below w.heap.size w w' := by
  have d1 : ¬ ((wd : Int) < 4) := by omega
  have d2 : ¬ ((16 : Int) < (wd : Int)) := by omega
  have d3 : ¬ ((i : Int) < 0) := by omega
  have d4 : ¬ ((wd : Int) - 3 ≤ (i : Int)) := by omega
  go_enter Try.func14, Try.ntmps14
  go_wp2_with (go_at_call 48; refine (awake24_any _).mono ?_; rintro e w1 ⟨rfl, hb1⟩)
  go_loopw [5, 31] (fun v x wr => ∃ k : Nat, k ≤ wd - 3 ∧ x = .int .i64 k ∧ wr.ownsRow w1.heap.size 3 1 v k ((allL k).map fun n => Value.int .i64 n) ∧ Below w1.heap.size w1 wr) (fun _ x _ => (wd - 3) - (intOf x).toNat)
  case atStart => exact ⟨0, by omega, rfl, World.ownsRow_nil _ _ _ _, Below.refl _ _⟩
  case round =>
    obtain ⟨k, hk, rfl, hown, hbw⟩ := hrel
    have hsz := hbw.size
    by_cases hlt : k < wd - 3
    · have d5 : (k : Int) < (wd : Int) - 3 := by omega
      have e1 := Lib.hid (allL_step k)
      go_wp2_with (at_builtin; refine wpl_append1 rfl (s := .tmp 34) (x := .tmp 36) rfl Try.underlying29 info3 rfl rfl hown rfl rfl (by unfold maxLen; omega) (by omega) (by omega) ?_; intro v2 w2 hown2 hgr2 hne2)
      go_roundw
      case rel => exact ⟨k + 1, by omega, by go_num, by rw [e1.out, ints_step]; exact hown2, hbw.grown hgr2 hsz (own_ge hown)⟩
      case measure => simp [intOf]; omega
    · obtain rfl : k = wd - 3 := by omega
      have d5 : ¬ (((wd - 3 : Nat) : Int) < (wd : Int) - 3) := by omega
      obtain ⟨A', c', rfl, hints⟩ := own_ints hown
      have hB := below_then2 hb1 hbw
      have fa := hints.mono (q := fun _ => True) fun _ _ _ => trivial
      obtain ⟨m, hm⟩ : ∃ m, m = min 4 (wd - 4) := ⟨_, rfl⟩
      have hm1 : ((m : Nat) : Int) ≤ 4 := by omega
      have hm2 : ((m : Nat) : Int) = min 4 ((wd : Int) - 4) := by omega
      replace hm := Lib.hid hm
      have hA3 : Below wr.heap.size wr (wr.alloc (.cells #[.int .i64 (i : Int)] 3)) := (Below.refl _ _).alloc (Nat.le_refl _) _
      have fi : Ints (fun _ => True) (wr.alloc (.cells #[.int .i64 (i : Int)] 3)) (some ⟨wr.heap.size, 0, none⟩) 1 1 [(i : Int)] := ints_new wr [(i : Int)] 3 (by unfold maxLen; simp)
      have hmx : wd ≤ maxLen := by unfold maxLen; omega
      have hwb : 1 * wd ≤ 281474976710656 := by omega
      have hw63 : wd ≤ 9223372036854775807 := by omega
      go_wp2_with (first | (at_make; refine wpl_make rfl rfl Try.underlying67 info4 rfl rfl rfl hwb hw63 ?_; first | (intro w5 g5 hrow5 hb5 hg5; have hB5 := below_then2 hB4 hb5) | (intro w3 g3 hrow3 hb3 hg3; have hA3' := below_then2 hA3 hb3; have hB3 := below_then2 hB hA3'; have fi3 := fi.below hb3; have fa3 := fa.below hA3')) | (go_at_call 57; (with_reducible refine (few1 h4 h16 hi fi3 (bools_row hrow3 hmx)).mono ?_); rw [← hm.out]; rintro e w4 ⟨A4, k4, rfl, hb4⟩; have hB4 := below_then2 hB3 hb4; have fa4 := fa3.below hb4) | (go_at_call 57; (with_reducible refine (few2 h4 h16 (fa4.below hb5) (bools_row hrow5 hmx)).mono ?_); rintro e w6 ⟨A6, k6, rfl, hb6⟩; have hB6 := below_then2 hB5 hb6))
      all_goals (go_ret; exact ⟨rfl, hB6⟩)
theorem law14 (z1 z2 : Int) (w : World) : Calls Try.prog 14 #[.int .i64 z1, .int .i64 z2] w fun e w' => e = .returned (.bool true) ∧ Below w.heap.size w w' := by
  by_cases h : z1 < 4 ∨ 16 < z1 ∨ z2 < 0 ∨ z1 - 3 ≤ z2
  · exact law14_out h w
  · obtain ⟨wd, rfl⟩ := Int.eq_ofNat_of_zero_le (a := z1) (by omega)
    obtain ⟨i, rfl⟩ := Int.eq_ofNat_of_zero_le (a := z2) (by omega)
    exact law14_in (by omega) (by omega) (by omega) w
end
end Go.Proofs.Ytifhjigkljdkmaa
