/- group.Reads, whole, where pieces are touched. -/
import Derived.Test.YtifhjigkljdkmaaGk
namespace Go.Proofs.Ytifhjigkljdkmaa
open Go.RowKit
open Gf (F)
set_option linter.unusedSimpArgs false
set_option linter.unusedVariables false
section
variable {p q : Nat → Prop} {w w' : World} {A B : Option Addr} {n c m d wd : Nat} {l k : List Int} {b : List Bool}
set_option maxRecDepth 100000 in
set_option maxHeartbeats 1000000 in
theorem greads_ok (h : Ints p w A n c l) (g : Bools q w B wd d b) (h4 : 4 ≤ wd) (h16 : wd ≤ 16) (ht : TouchOk wd n l) (hl : ¬ (goodL wd b).length < wd - 3) (h0 : n ≠ 0) : Calls Try.prog 57 #[.int .i64 (wd : Int), .slice A n c, .slice B wd d] w fun e w' => ∃ A' c', e = .returned (.tuple #[.slice A' (readsL wd l b).length c', .int .i64 0]) ∧ Ints (fun _ => True) w' A' (readsL wd l b).length c' (readsL wd l b) ∧ Below w.heap.size w w' := by
  have hcnt : ¬ ((3 : Int) < ((sel (ntb b) wd).length : Int)) := by have := bad_good wd b; omega
  have hn0 : ((n : Int) == 0) = false := by simp; exact h0
  have hbs := Lib.hid (best_same (wd := wd) (l := l) (b := b) (by rw [h.len]; exact h0) (by omega))
  replace h0 := Lib.hid h0
  have c1 := box1 w (.slice B wd d) 67
  have hb0 : Below w.heap.size w (w.alloc (.cells #[.slice B wd d] 67)) := (Below.refl _ _).alloc (Nat.le_refl _) _
  have hwide : wideB (wd : Int) = true := by unfold wideB; simp; omega
  have hba := h.below hb0
  have gba := g.below hb0
  obtain ⟨wa, hwa⟩ : ∃ wa, wa = w.alloc (.cells #[.slice B wd d] 67) := ⟨_, rfl⟩
  rw [← hwa] at hb0 c1 hba gba
  have hnum := numbers109 (w := wa) (x := .pointer (some ⟨w.heap.size, 0, none⟩)) (P := ntb b) wd (by omega) (fun i w' hi hb => cl109 ((hb.cell (p := ⟨w.heap.size, 0, none⟩) (by rw [hwa]; simp)).trans c1) (gba.below hb) hi)
  have hba' := hba
  have c1' := c1
  rw [hwa] at hnum hba c1
  go_enter Try.func57, Try.ntmps57
  go_wp2_with (go_at_call 107; (with_reducible refine (validw_any (wd : Int) _).mono ?_); rw [hwide]; rintro e w' ⟨rfl, rfl⟩)
  refine gr0 hba h4 h16 (fun x6 x7 x8 x9 x27 x28 x29 x30 x31 x32 x33 x34 x35 x36 x37 x38 x39 x40 x41 x42 x43 x44 x45 x46 x47 x48 x49 x50 x51 x52 x53 w1 h1 => ?_) (fun x8 x9 x27 x28 x29 x30 x31 x32 x33 x34 x35 x36 x37 x38 x39 x40 x41 x42 x43 x44 x45 x46 x47 x48 x49 x50 x51 x52 x53 w1 h1 => ?_)
  · obtain ⟨_, rfl⟩ := h1
    go_wp2_with (first | (go_at_call 108; (with_reducible refine hnum.mono ?_); rintro e w2 ⟨A2, c2, rfl, hi2, hb2⟩; rw [← hwa] at hb2; have hB2 := below_then2 hb0 hb2; have h2 := hba'.below hb2; have g2 := gba.below hb2; have c12 := (hb2.cell (p := ⟨w.heap.size, 0, none⟩) (by rw [hwa]; simp)).trans c1') | (go_at_call 110; (with_reducible refine (methods_any _).mono ?_); rintro e w4 ⟨rfl, hb4⟩; have hB4 := below_then2 hB2 hb4; have h4' := h2.below hb4; have g4' := g2.below hb4; have c14 := (hb4.cell (p := ⟨w.heap.size, 0, none⟩) (by have := hb2.size; rw [hwa] at this; simp at this; show w.heap.size < w2.heap.size; omega)).trans c12; have hgb : w.heap.size < w4.heap.size := (by have h5 := hb2.size; have h6 := hb4.size; rw [hwa] at h5; simp at h5; omega)))
    refine gr2 h4' g4' h4 h16 (by omega) c14 hgb (fun x10 x11 x13 x14 x15 x63 x64 x65 x66 x67 x68 x69 x70 x71 x72 x73 x74 x75 x76 x77 x78 x79 x80 x81 x82 x83 x84 x85 x86 x87 x88 w5 h5 => ?_)
    obtain ⟨hbest, hb5⟩ := h5
    rw [hbs.out] at hbest
    obtain ⟨_, A5, c5, rfl, hi5⟩ := hbest
    have hB5 := below_then2 hB4 hb5
    go_wp2
    go_ret2
    exact ⟨A5, c5, rfl, hi5, hB5⟩
  · exact absurd ht h1.1
end
end Go.Proofs.Ytifhjigkljdkmaa
