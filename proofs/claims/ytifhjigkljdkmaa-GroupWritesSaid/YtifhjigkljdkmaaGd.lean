/- Contracts of group.numbers over a closure with one or two captured variables. -/
import Derived.Test.YtifhjigkljdkmaaGa
namespace Go.Proofs.Ytifhjigkljdkmaa
open Go.RowKit
open Gf (F)
set_option linter.unusedSimpArgs false
set_option linter.unusedVariables false
section
variable {w : World}

set_option maxRecDepth 100000 in
set_option maxHeartbeats 1000000 in
theorem numbers109 {x : Value} {P : Nat → Bool} (wd : Nat) (h16 : wd ≤ 64) (hf : ∀ (i : Nat) (w' : World), i < wd → Below w.heap.size w w' → Calls Try.prog 109 #[.int .i64 (i : Int), x] w' fun e w'' => e = .returned (.bool (P i)) ∧ w' = w'') :
    Calls Try.prog 108 #[.int .i64 (wd : Int), .func (.func 109) #[] #[x]] w fun e w' => ∃ A' c', e = .returned (.slice A' (sel P wd).length c') ∧ Ints (fun b => w.heap.size ≤ b) w' A' (sel P wd).length c' (sel P wd) ∧ Below w.heap.size w w' := by
  replace hf := Lib.hid hf
  go_enter Try.func108, Try.ntmps108
  go_wp2
  go_loopw [5, 8] (fun v x wr => ∃ i : Nat, i ≤ wd ∧ x = .int .i64 i ∧ wr.ownsRow w.heap.size 3 1 v (sel P i).length ((sel P i).map fun n => Value.int .i64 n) ∧ Below w.heap.size w wr) (fun _ x _ => wd - (intOf x).toNat)
  case atStart => exact ⟨0, by omega, rfl, World.ownsRow_nil _ _ _ _, Below.refl _ _⟩
  case round =>
    obtain ⟨i, hi, rfl, hown, hbw⟩ := hrel
    have hsz := hbw.size
    have hlen := sel_len P i
    by_cases hlt : i < wd
    · have hc := hf.out i wr hlt hbw
      cases hP : P i with
      | true =>
        rw [hP] at hc
        have e1 := sel_yes hP
        have e2 := congrArg List.length e1
        rw [List.length_append] at e2
        replace e1 := Lib.hid e1
        replace e2 := Lib.hid e2
        go_wp2_with (first | (go_at_call 109; (with_reducible refine hc.mono ?_); rintro e w' ⟨rfl, rfl⟩) | (at_builtin; refine wpl_append1 rfl (s := .tmp 14) (x := .tmp 16) rfl Try.underlying29 info3 rfl rfl hown rfl rfl (by unfold maxLen; omega) (by omega) (by omega) ?_; intro v2 w2 hown2 hgr2 hne2))
        go_roundw
        case rel => exact ⟨i + 1, by omega, by go_num, by rw [e2.out, e1.out, ints_step]; exact hown2, hbw.grown hgr2 hsz (own_ge hown)⟩
        case measure => simp [intOf]; omega
      | false =>
        rw [hP] at hc
        have e1 := sel_no hP
        replace e1 := Lib.hid e1
        go_wp2_with (go_at_call 109; (with_reducible refine hc.mono ?_); rintro e w' ⟨rfl, rfl⟩)
        go_roundw
        case rel => exact ⟨i + 1, by omega, by go_num, by rw [e1.out]; exact hown, hbw⟩
        case measure => simp [intOf]; omega
    · obtain rfl : i = wd := by omega
      obtain ⟨A', c', rfl, hints⟩ := own_ints hown
      go_wp2
      go_ret
      exact ⟨A', c', rfl, hints.mono fun _ _ h => h.1, hbw⟩

set_option maxRecDepth 100000 in
set_option maxHeartbeats 1000000 in
theorem numbers149 {x : Value} {P : Nat → Bool} (wd : Nat) (h16 : wd ≤ 64) (hf : ∀ (i : Nat) (w' : World), i < wd → Below w.heap.size w w' → Calls Try.prog 149 #[.int .i64 (i : Int), x] w' fun e w'' => e = .returned (.bool (P i)) ∧ w' = w'') :
    Calls Try.prog 108 #[.int .i64 (wd : Int), .func (.func 149) #[] #[x]] w fun e w' => ∃ A' c', e = .returned (.slice A' (sel P wd).length c') ∧ Ints (fun b => w.heap.size ≤ b) w' A' (sel P wd).length c' (sel P wd) ∧ Below w.heap.size w w' := by
  replace hf := Lib.hid hf
  go_enter Try.func108, Try.ntmps108
  go_wp2
  go_loopw [5, 8] (fun v x wr => ∃ i : Nat, i ≤ wd ∧ x = .int .i64 i ∧ wr.ownsRow w.heap.size 3 1 v (sel P i).length ((sel P i).map fun n => Value.int .i64 n) ∧ Below w.heap.size w wr) (fun _ x _ => wd - (intOf x).toNat)
  case atStart => exact ⟨0, by omega, rfl, World.ownsRow_nil _ _ _ _, Below.refl _ _⟩
  case round =>
    obtain ⟨i, hi, rfl, hown, hbw⟩ := hrel
    have hsz := hbw.size
    have hlen := sel_len P i
    by_cases hlt : i < wd
    · have hc := hf.out i wr hlt hbw
      cases hP : P i with
      | true =>
        rw [hP] at hc
        have e1 := sel_yes hP
        have e2 := congrArg List.length e1
        rw [List.length_append] at e2
        replace e1 := Lib.hid e1
        replace e2 := Lib.hid e2
        go_wp2_with (first | (go_at_call 149; (with_reducible refine hc.mono ?_); rintro e w' ⟨rfl, rfl⟩) | (at_builtin; refine wpl_append1 rfl (s := .tmp 14) (x := .tmp 16) rfl Try.underlying29 info3 rfl rfl hown rfl rfl (by unfold maxLen; omega) (by omega) (by omega) ?_; intro v2 w2 hown2 hgr2 hne2))
        go_roundw
        case rel => exact ⟨i + 1, by omega, by go_num, by rw [e2.out, e1.out, ints_step]; exact hown2, hbw.grown hgr2 hsz (own_ge hown)⟩
        case measure => simp [intOf]; omega
      | false =>
        rw [hP] at hc
        have e1 := sel_no hP
        replace e1 := Lib.hid e1
        go_wp2_with (go_at_call 149; (with_reducible refine hc.mono ?_); rintro e w' ⟨rfl, rfl⟩)
        go_roundw
        case rel => exact ⟨i + 1, by omega, by go_num, by rw [e1.out]; exact hown, hbw⟩
        case measure => simp [intOf]; omega
    · obtain rfl : i = wd := by omega
      obtain ⟨A', c', rfl, hints⟩ := own_ints hown
      go_wp2
      go_ret
      exact ⟨A', c', rfl, hints.mono fun _ _ h => h.1, hbw⟩

set_option maxRecDepth 100000 in
set_option maxHeartbeats 1000000 in
theorem numbers142 {x y : Value} {P : Nat → Bool} (wd : Nat) (h16 : wd ≤ 64) (hf : ∀ (i : Nat) (w' : World), i < wd → Below w.heap.size w w' → Calls Try.prog 142 #[.int .i64 (i : Int), x, y] w' fun e w'' => e = .returned (.bool (P i)) ∧ w' = w'') :
    Calls Try.prog 108 #[.int .i64 (wd : Int), .func (.func 142) #[] #[x, y]] w fun e w' => ∃ A' c', e = .returned (.slice A' (sel P wd).length c') ∧ Ints (fun b => w.heap.size ≤ b) w' A' (sel P wd).length c' (sel P wd) ∧ Below w.heap.size w w' := by
  replace hf := Lib.hid hf
  go_enter Try.func108, Try.ntmps108
  go_wp2
  go_loopw [5, 8] (fun v x wr => ∃ i : Nat, i ≤ wd ∧ x = .int .i64 i ∧ wr.ownsRow w.heap.size 3 1 v (sel P i).length ((sel P i).map fun n => Value.int .i64 n) ∧ Below w.heap.size w wr) (fun _ x _ => wd - (intOf x).toNat)
  case atStart => exact ⟨0, by omega, rfl, World.ownsRow_nil _ _ _ _, Below.refl _ _⟩
  case round =>
    obtain ⟨i, hi, rfl, hown, hbw⟩ := hrel
    have hsz := hbw.size
    have hlen := sel_len P i
    by_cases hlt : i < wd
    · have hc := hf.out i wr hlt hbw
      cases hP : P i with
      | true =>
        rw [hP] at hc
        have e1 := sel_yes hP
        have e2 := congrArg List.length e1
        rw [List.length_append] at e2
        replace e1 := Lib.hid e1
        replace e2 := Lib.hid e2
        go_wp2_with (first | (go_at_call 142; (with_reducible refine hc.mono ?_); rintro e w' ⟨rfl, rfl⟩) | (at_builtin; refine wpl_append1 rfl (s := .tmp 14) (x := .tmp 16) rfl Try.underlying29 info3 rfl rfl hown rfl rfl (by unfold maxLen; omega) (by omega) (by omega) ?_; intro v2 w2 hown2 hgr2 hne2))
        go_roundw
        case rel => exact ⟨i + 1, by omega, by go_num, by rw [e2.out, e1.out, ints_step]; exact hown2, hbw.grown hgr2 hsz (own_ge hown)⟩
        case measure => simp [intOf]; omega
      | false =>
        rw [hP] at hc
        have e1 := sel_no hP
        replace e1 := Lib.hid e1
        go_wp2_with (go_at_call 142; (with_reducible refine hc.mono ?_); rintro e w' ⟨rfl, rfl⟩)
        go_roundw
        case rel => exact ⟨i + 1, by omega, by go_num, by rw [e1.out]; exact hown, hbw⟩
        case measure => simp [intOf]; omega
    · obtain rfl : i = wd := by omega
      obtain ⟨A', c', rfl, hints⟩ := own_ints hown
      go_wp2
      go_ret
      exact ⟨A', c', rfl, hints.mono fun _ _ h => h.1, hbw⟩

set_option maxRecDepth 100000 in
set_option maxHeartbeats 1000000 in
theorem numbers145 {x y : Value} {P : Nat → Bool} (wd : Nat) (h16 : wd ≤ 64) (hf : ∀ (i : Nat) (w' : World), i < wd → Below w.heap.size w w' → Calls Try.prog 145 #[.int .i64 (i : Int), x, y] w' fun e w'' => e = .returned (.bool (P i)) ∧ w' = w'') :
    Calls Try.prog 108 #[.int .i64 (wd : Int), .func (.func 145) #[] #[x, y]] w fun e w' => ∃ A' c', e = .returned (.slice A' (sel P wd).length c') ∧ Ints (fun b => w.heap.size ≤ b) w' A' (sel P wd).length c' (sel P wd) ∧ Below w.heap.size w w' := by
  replace hf := Lib.hid hf
  go_enter Try.func108, Try.ntmps108
  go_wp2
  go_loopw [5, 8] (fun v x wr => ∃ i : Nat, i ≤ wd ∧ x = .int .i64 i ∧ wr.ownsRow w.heap.size 3 1 v (sel P i).length ((sel P i).map fun n => Value.int .i64 n) ∧ Below w.heap.size w wr) (fun _ x _ => wd - (intOf x).toNat)
  case atStart => exact ⟨0, by omega, rfl, World.ownsRow_nil _ _ _ _, Below.refl _ _⟩
  case round =>
    obtain ⟨i, hi, rfl, hown, hbw⟩ := hrel
    have hsz := hbw.size
    have hlen := sel_len P i
    by_cases hlt : i < wd
    · have hc := hf.out i wr hlt hbw
      cases hP : P i with
      | true =>
        rw [hP] at hc
        have e1 := sel_yes hP
        have e2 := congrArg List.length e1
        rw [List.length_append] at e2
        replace e1 := Lib.hid e1
        replace e2 := Lib.hid e2
        go_wp2_with (first | (go_at_call 145; (with_reducible refine hc.mono ?_); rintro e w' ⟨rfl, rfl⟩) | (at_builtin; refine wpl_append1 rfl (s := .tmp 14) (x := .tmp 16) rfl Try.underlying29 info3 rfl rfl hown rfl rfl (by unfold maxLen; omega) (by omega) (by omega) ?_; intro v2 w2 hown2 hgr2 hne2))
        go_roundw
        case rel => exact ⟨i + 1, by omega, by go_num, by rw [e2.out, e1.out, ints_step]; exact hown2, hbw.grown hgr2 hsz (own_ge hown)⟩
        case measure => simp [intOf]; omega
      | false =>
        rw [hP] at hc
        have e1 := sel_no hP
        replace e1 := Lib.hid e1
        go_wp2_with (go_at_call 145; (with_reducible refine hc.mono ?_); rintro e w' ⟨rfl, rfl⟩)
        go_roundw
        case rel => exact ⟨i + 1, by omega, by go_num, by rw [e1.out]; exact hown, hbw⟩
        case measure => simp [intOf]; omega
    · obtain rfl : i = wd := by omega
      obtain ⟨A', c', rfl, hints⟩ := own_ints hown
      go_wp2
      go_ret
      exact ⟨A', c', rfl, hints.mono fun _ _ h => h.1, hbw⟩
end
end Go.Proofs.Ytifhjigkljdkmaa
