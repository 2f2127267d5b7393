/- group.Reads where it returns ahead of the methods. -/
import Derived.Test.YtifhjigkljdkmaaGi
namespace Go.Proofs.Ytifhjigkljdkmaa
open Go.RowKit
open Gf (F)
set_option linter.unusedSimpArgs false
set_option linter.unusedVariables false
section
variable {p q : Nat → Prop} {w w' : World} {A B : Option Addr} {n c m d wd : Nat} {l k : List Int} {b : List Bool}
theorem box1 (w : World) (v : Value) (t : TypeId) : (w.alloc (.cells #[v] t)).cell? ⟨w.heap.size, 0, none⟩ = some v :=
  (World.rowIs_alloc w #[v] t (fun _ => v) (fun i hi => by
    have : i = 0 := by simpa using hi
    subst this; rfl)).cell (by simp)

set_option maxRecDepth 100000 in
set_option maxHeartbeats 1000000 in
theorem greads_arg {z : Int} (h : Ints p w A n c l) (g : Bools q w B m d b) (hbad : ¬ (wideB z = true ∧ (m : Int) = z)) : Calls Try.prog 57 #[.int .i64 z, .slice A n c, .slice B m d] w fun e w' => e = .returned (.tuple #[.slice none 0 0, .int .i64 1]) ∧ Below w.heap.size w w' := by
  have c1 := box1 w (.slice B m d) 67
  have hb0 : Below w.heap.size w (w.alloc (.cells #[.slice B m d] 67)) := (Below.refl _ _).alloc (Nat.le_refl _) _
  cases hwide : wideB z with
  | false =>
    go_enter Try.func57, Try.ntmps57
    go_wp2_with (go_at_call 107; (with_reducible refine (validw_any z _).mono ?_); rw [hwide]; rintro e w' ⟨rfl, rfl⟩)
    go_ret2
    exact ⟨rfl, hb0⟩
  | true =>
    have hne : ((m : Int) != z) = true := by simp; exact fun e => hbad ⟨hwide, e⟩
    replace hbad := Lib.hid hbad
    go_enter Try.func57, Try.ntmps57
    go_wp2_with (go_at_call 107; (with_reducible refine (validw_any z _).mono ?_); rw [hwide]; rintro e w' ⟨rfl, rfl⟩)
    go_ret2
    exact ⟨rfl, hb0⟩

set_option maxRecDepth 100000 in
set_option maxHeartbeats 1000000 in
theorem greads_touch (h : Ints p w A n c l) (g : Bools q w B wd d b) (h4 : 4 ≤ wd) (h16 : wd ≤ 16) (ht : ¬ TouchOk wd n l) : Calls Try.prog 57 #[.int .i64 (wd : Int), .slice A n c, .slice B wd d] w fun e w' => e = .returned (.tuple #[.slice none 0 0, .int .i64 1]) ∧ Below w.heap.size w w' := by
  have c1 := box1 w (.slice B wd d) 67
  have hb0 : Below w.heap.size w (w.alloc (.cells #[.slice B wd d] 67)) := (Below.refl _ _).alloc (Nat.le_refl _) _
  have hwide : wideB (wd : Int) = true := by unfold wideB; simp; omega
  have hba := h.below hb0
  have gba := g.below hb0
  obtain ⟨wa, hwa⟩ : ∃ wa, wa = w.alloc (.cells #[.slice B wd d] 67) := ⟨_, rfl⟩
  rw [← hwa] at hb0 c1 hba gba
  have hnum := numbers109 (w := wa) (x := .pointer (some ⟨w.heap.size, 0, none⟩)) (P := ntb b) wd (by omega) (fun i w' hi hb => cl109 ((hb.cell (p := ⟨w.heap.size, 0, none⟩) (by rw [hwa]; simp)).trans c1) (gba.below hb) hi)
  rw [hwa] at hnum hba c1
  go_enter Try.func57, Try.ntmps57
  go_wp2_with (go_at_call 107; (with_reducible refine (validw_any (wd : Int) _).mono ?_); rw [hwide]; rintro e w' ⟨rfl, rfl⟩)
  refine gr0 hba h4 h16 (fun x6 x7 x8 x9 x27 x28 x29 x30 x31 x32 x33 x34 x35 x36 x37 x38 x39 x40 x41 x42 x43 x44 x45 x46 x47 x48 x49 x50 x51 x52 x53 w1 h1 => ?_) (fun x8 x9 x27 x28 x29 x30 x31 x32 x33 x34 x35 x36 x37 x38 x39 x40 x41 x42 x43 x44 x45 x46 x47 x48 x49 x50 x51 x52 x53 w1 h1 => ?_)
  · exact absurd h1.1 ht
  · obtain ⟨_, rfl⟩ := h1
    go_ret2
    exact ⟨rfl, by rw [← hwa]; exact hb0⟩

set_option maxRecDepth 100000 in
set_option maxHeartbeats 1000000 in
theorem greads_lost (h : Ints p w A n c l) (g : Bools q w B wd d b) (h4 : 4 ≤ wd) (h16 : wd ≤ 16) (ht : TouchOk wd n l) (hl : (goodL wd b).length < wd - 3) : Calls Try.prog 57 #[.int .i64 (wd : Int), .slice A n c, .slice B wd d] w fun e w' => e = .returned (.tuple #[.slice none 0 0, .int .i64 12]) ∧ Below w.heap.size w w' := by
  have hcnt : (3 : Int) < ((sel (ntb b) wd).length : Int) := by have := bad_good wd b; omega
  have c1 := box1 w (.slice B wd d) 67
  have hb0 : Below w.heap.size w (w.alloc (.cells #[.slice B wd d] 67)) := (Below.refl _ _).alloc (Nat.le_refl _) _
  have hwide : wideB (wd : Int) = true := by unfold wideB; simp; omega
  have hba := h.below hb0
  have gba := g.below hb0
  obtain ⟨wa, hwa⟩ : ∃ wa, wa = w.alloc (.cells #[.slice B wd d] 67) := ⟨_, rfl⟩
  rw [← hwa] at hb0 c1 hba gba
  have hnum := numbers109 (w := wa) (x := .pointer (some ⟨w.heap.size, 0, none⟩)) (P := ntb b) wd (by omega) (fun i w' hi hb => cl109 ((hb.cell (p := ⟨w.heap.size, 0, none⟩) (by rw [hwa]; simp)).trans c1) (gba.below hb) hi)
  rw [hwa] at hnum hba c1
  go_enter Try.func57, Try.ntmps57
  go_wp2_with (go_at_call 107; (with_reducible refine (validw_any (wd : Int) _).mono ?_); rw [hwide]; rintro e w' ⟨rfl, rfl⟩)
  refine gr0 hba h4 h16 (fun x6 x7 x8 x9 x27 x28 x29 x30 x31 x32 x33 x34 x35 x36 x37 x38 x39 x40 x41 x42 x43 x44 x45 x46 x47 x48 x49 x50 x51 x52 x53 w1 h1 => ?_) (fun x8 x9 x27 x28 x29 x30 x31 x32 x33 x34 x35 x36 x37 x38 x39 x40 x41 x42 x43 x44 x45 x46 x47 x48 x49 x50 x51 x52 x53 w1 h1 => ?_)
  · obtain ⟨_, rfl⟩ := h1
    go_wp2_with (go_at_call 108; (with_reducible refine hnum.mono ?_); rintro e w2 ⟨A2, c2, rfl, hi2, hb2⟩; rw [← hwa] at hb2; have hB2 := below_then2 hb0 hb2)
    go_ret2
    exact ⟨rfl, hB2⟩
  · exact absurd ht h1.1

set_option maxRecDepth 100000 in
set_option maxHeartbeats 1000000 in
theorem greads_none (h : Ints p w A n c l) (g : Bools q w B wd d b) (h4 : 4 ≤ wd) (h16 : wd ≤ 16) (ht : TouchOk wd n l) (hl : ¬ (goodL wd b).length < wd - 3) (h0 : n = 0) : Calls Try.prog 57 #[.int .i64 (wd : Int), .slice A n c, .slice B wd d] w fun e w' => e = .returned (.tuple #[.slice none 0 0, .int .i64 0]) ∧ Below w.heap.size w w' := by
  have hcnt : ¬ ((3 : Int) < ((sel (ntb b) wd).length : Int)) := by have := bad_good wd b; omega
  subst h0
  have c1 := box1 w (.slice B wd d) 67
  have hb0 : Below w.heap.size w (w.alloc (.cells #[.slice B wd d] 67)) := (Below.refl _ _).alloc (Nat.le_refl _) _
  have hwide : wideB (wd : Int) = true := by unfold wideB; simp; omega
  have hba := h.below hb0
  have gba := g.below hb0
  obtain ⟨wa, hwa⟩ : ∃ wa, wa = w.alloc (.cells #[.slice B wd d] 67) := ⟨_, rfl⟩
  rw [← hwa] at hb0 c1 hba gba
  have hnum := numbers109 (w := wa) (x := .pointer (some ⟨w.heap.size, 0, none⟩)) (P := ntb b) wd (by omega) (fun i w' hi hb => cl109 ((hb.cell (p := ⟨w.heap.size, 0, none⟩) (by rw [hwa]; simp)).trans c1) (gba.below hb) hi)
  rw [hwa] at hnum hba c1
  go_enter Try.func57, Try.ntmps57
  go_wp2_with (go_at_call 107; (with_reducible refine (validw_any (wd : Int) _).mono ?_); rw [hwide]; rintro e w' ⟨rfl, rfl⟩)
  refine gr0 hba h4 h16 (fun x6 x7 x8 x9 x27 x28 x29 x30 x31 x32 x33 x34 x35 x36 x37 x38 x39 x40 x41 x42 x43 x44 x45 x46 x47 x48 x49 x50 x51 x52 x53 w1 h1 => ?_) (fun x8 x9 x27 x28 x29 x30 x31 x32 x33 x34 x35 x36 x37 x38 x39 x40 x41 x42 x43 x44 x45 x46 x47 x48 x49 x50 x51 x52 x53 w1 h1 => ?_)
  · obtain ⟨_, rfl⟩ := h1
    go_wp2_with (go_at_call 108; (with_reducible refine hnum.mono ?_); rintro e w2 ⟨A2, c2, rfl, hi2, hb2⟩; rw [← hwa] at hb2; have hB2 := below_then2 hb0 hb2)
    go_ret2
    exact ⟨rfl, hB2⟩
  · exact absurd ht h1.1
end
end Go.Proofs.Ytifhjigkljdkmaa
