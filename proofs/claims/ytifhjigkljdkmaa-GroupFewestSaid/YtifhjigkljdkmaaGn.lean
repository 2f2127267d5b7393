/- The law functions GroupFewest and GroupFewer return true. -/
import Derived.Test.YtifhjigkljdkmaaGm
namespace Go.Proofs.Ytifhjigkljdkmaa
open Go.RowKit
open Gf (F)
set_option linter.unusedSimpArgs false
set_option linter.unusedVariables false
section
variable {p q : Nat → Prop} {w w' : World} {A B : Option Addr} {n c m d wd : Nat} {l k : List Int} {b : List Bool}
/-! ### GroupFewest -/
set_option maxRecDepth 100000 in
set_option maxHeartbeats 1000000 in
theorem law13_err {z : Int} {er : Int} (h : Ints p w A n c l) (g : Bools q w B m d b) (he : er = 1 ∨ er = 12 ∨ (er = 0 ∧ n = 0))
    (c57 : ∀ w', Below w.heap.size w w' → Calls Try.prog 57 #[.int .i64 z, .slice A n c, .slice B m d] w' (ReadsRet w' [] er)) (c58 : ∀ w', Below w.heap.size w w' → Calls Try.prog 58 #[.int .i64 z, .slice A n c, .slice B m d] w' (ReadsRet w' [] er)) :
    Calls Try.prog 13 #[.int .i64 z, .slice A n c, .slice B m d] w fun e w' => e = .returned (.bool true) ∧ Below w.heap.size w w' := by
  have hn := h.row.len
  have hm := g.row.len
  rcases he with rfl | rfl | ⟨rfl, rfl⟩
  all_goals
    go_enter Try.func13, Try.ntmps13
    go_wp2_with (first | (go_at_call 48; refine (awake24_any _).mono ?_; rintro e w1 ⟨rfl, hb1⟩) | (go_at_call 57; refine (c57 _ hb1).mono ?_; rintro e w2 ⟨A2, k2, rfl, hi2, hb2⟩; have hB2 := below_then2 hb1 hb2) | (go_at_call 58; refine (c58 _ hB2).mono ?_; rintro e w3 ⟨A3, k3, rfl, hi3, hb3⟩; have hB3 := below_then2 hB2 hb3; have hi2' := hi2.below hb3))
    go_ret
    exact ⟨rfl, hB3⟩
set_option maxRecDepth 100000 in
set_option maxHeartbeats 2000000 in
theorem law13_ok (h : Ints p w A n c l) (g : Bools q w B wd d b) (h4 : 4 ≤ wd) (h16 : wd ≤ 16) (h0 : n ≠ 0)
    (c57 : ∀ w', Below w.heap.size w w' → Calls Try.prog 57 #[.int .i64 (wd : Int), .slice A n c, .slice B wd d] w' (ReadsRet w' (readsL wd l b) 0)) (c58 : ∀ w', Below w.heap.size w w' → Calls Try.prog 58 #[.int .i64 (wd : Int), .slice A n c, .slice B wd d] w' (ReadsRet w' (readsL wd l b) 0)) :
    Calls Try.prog 13 #[.int .i64 (wd : Int), .slice A n c, .slice B wd d] w fun e w' => e = .returned (.bool true) ∧ Below w.heap.size w w' := by
  have hn := h.row.len
  have hn0 : ¬ ((n : Int) = 0) := by omega
  have hn1 : ((n : Int) == 0) = false := by simp; exact h0
  obtain ⟨R, hR⟩ : ∃ R, R = readsL wd l b := ⟨_, rfl⟩
  rw [← hR] at c57 c58
  have hle : ((R.length : Nat) : Int) ≤ (wd : Int) - 3 := by have := reads_le3 (wd := wd) (l := l) (b := b); rw [← hR] at this; omega
  have hgood : Hid (∀ j, j < R.length → ∃ t : Nat, nti R j = t ∧ t < wd ∧ ntb b t = false) := Lib.hid fun j hj => reads_good (wd := wd) (l := l) (b := b) (by rw [← hR]; exact nti_mem.2 ⟨j, hj, rfl⟩)
  have hwd := g.row.len
  replace hR := Lib.hid hR
  replace h0 := Lib.hid h0
  go_enter Try.func13, Try.ntmps13
  go_wp2_with (first | (go_at_call 48; refine (awake24_any _).mono ?_; rintro e w1 ⟨rfl, hb1⟩) | (go_at_call 57; refine (c57 _ hb1).mono ?_; rintro e w2 ⟨A2, k2, rfl, hi2, hb2⟩; have hB2 := below_then2 hb1 hb2) | (go_at_call 58; refine (c58 _ hB2).mono ?_; rintro e w3 ⟨A3, k3, rfl, hi3, hb3⟩; have hB3 := below_then2 hB2 hb3; have hi2' := hi2.below hb3; have g3 := g.below hB3; have h3 := h.below hB3))
  go_loop [50] (fun i => ∃ k : Nat, k ≤ R.length ∧ i = .int .i64 k) (fun i => R.length - (intOf i).toNat)
  case atStart => exact ⟨0, by omega, rfl⟩
  case round =>
    obtain ⟨k, hk, rfl⟩ := hrel
    by_cases hlt : k < R.length
    · obtain ⟨b1, o, rfl, _, _, hc⟩ := hi2'.row.at_ (by omega)
      have e1 := hc k hlt
      clear hc
      obtain ⟨t, ht, htm, hgd⟩ := hgood.out k hlt
      rw [ht] at e1
      obtain ⟨b2, o2, rfl, _, _, hc2⟩ := g3.row.at_ (by omega)
      have e2 := hc2 t htm
      rw [hgd] at e2
      clear hc2
      have d1 : (0 : Int) ≤ (k : Int) := Int.natCast_nonneg _
      have d2 : (k : Int) < (R.length : Int) := by omega
      have d3 : (0 : Int) ≤ (t : Int) := Int.natCast_nonneg _
      have d4 : (t : Int) < (wd : Int) := by omega
      replace ht := Lib.hid ht
      replace hgd := Lib.hid hgd
      go_wp2
      go_round
      case rel => exact ⟨k + 1, by omega, by go_num⟩
      case measure => simp [intOf]; omega
    · obtain rfl : k = R.length := by omega
      replace hgood := ()
      cases hA : cleanB (sel (deltaP wd l) wd) b with
      | false =>
        cases hC : cleanB (sel (restP l) (wd - 3)) b with
        | false =>
          go_wp2_with (first | (go_at_call 59; refine (delta24_any wd h4 h16 h3).mono ?_; rintro e w4 ⟨A4, k4, rfl, hi4, hb4⟩; have hB4 := below_then2 hB3 hb4; have h4' := h3.below hb4) | (go_at_call 60; refine (rest24_any wd h4 h16 h4').mono ?_; rintro e w5 ⟨A5, k5, rfl, hi5, hb5⟩; have hB5 := below_then2 hB4 hb5; have g5 := g.below hB5; have hi45 := hi4.below hb5; have q4 := clean_any hi45 g5 (fun j hj => sel_range _ _ j hj); have q5 := clean_any hi5 g5 (fun j hj => ⟨(sel_range _ _ j hj).1, by have := (sel_range _ _ j hj).2; omega⟩)) | (go_at_call 61; (first | (with_reducible refine q4.mono ?_; rw [hA]) | (with_reducible refine q5.mono ?_; rw [hC])); rintro e w6 ⟨rfl, rfl⟩))
          go_ret
          exact ⟨rfl, hB5⟩
        | true =>
          have hl2 : ((R.length : Nat) : Int) ≤ (((sel (restP l) (wd - 3)).length : Nat) : Int) := by have := reads_ler (wd := wd) (l := l) (b := b) hC; rw [hR.out]; unfold restL at this; omega
          go_wp2_with (first | (go_at_call 59; refine (delta24_any wd h4 h16 h3).mono ?_; rintro e w4 ⟨A4, k4, rfl, hi4, hb4⟩; have hB4 := below_then2 hB3 hb4; have h4' := h3.below hb4) | (go_at_call 60; refine (rest24_any wd h4 h16 h4').mono ?_; rintro e w5 ⟨A5, k5, rfl, hi5, hb5⟩; have hB5 := below_then2 hB4 hb5; have g5 := g.below hB5; have hi45 := hi4.below hb5; have q4 := clean_any hi45 g5 (fun j hj => sel_range _ _ j hj); have q5 := clean_any hi5 g5 (fun j hj => ⟨(sel_range _ _ j hj).1, by have := (sel_range _ _ j hj).2; omega⟩)) | (go_at_call 61; (first | (with_reducible refine q4.mono ?_; rw [hA]) | (with_reducible refine q5.mono ?_; rw [hC])); rintro e w6 ⟨rfl, rfl⟩))
          go_ret
          exact ⟨rfl, hB5⟩
      | true =>
        have hl1 : ((R.length : Nat) : Int) ≤ (((sel (deltaP wd l) wd).length : Nat) : Int) := by have := reads_led (wd := wd) (l := l) (b := b) hA; rw [hR.out]; unfold deltaL at this; omega
        cases hC : cleanB (sel (restP l) (wd - 3)) b with
        | false =>
          go_wp2_with (first | (go_at_call 59; refine (delta24_any wd h4 h16 h3).mono ?_; rintro e w4 ⟨A4, k4, rfl, hi4, hb4⟩; have hB4 := below_then2 hB3 hb4; have h4' := h3.below hb4) | (go_at_call 60; refine (rest24_any wd h4 h16 h4').mono ?_; rintro e w5 ⟨A5, k5, rfl, hi5, hb5⟩; have hB5 := below_then2 hB4 hb5; have g5 := g.below hB5; have hi45 := hi4.below hb5; have q4 := clean_any hi45 g5 (fun j hj => sel_range _ _ j hj); have q5 := clean_any hi5 g5 (fun j hj => ⟨(sel_range _ _ j hj).1, by have := (sel_range _ _ j hj).2; omega⟩)) | (go_at_call 61; (first | (with_reducible refine q4.mono ?_; rw [hA]) | (with_reducible refine q5.mono ?_; rw [hC])); rintro e w6 ⟨rfl, rfl⟩))
          go_ret
          exact ⟨rfl, hB5⟩
        | true =>
          have hl2 : ((R.length : Nat) : Int) ≤ (((sel (restP l) (wd - 3)).length : Nat) : Int) := by have := reads_ler (wd := wd) (l := l) (b := b) hC; rw [hR.out]; unfold restL at this; omega
          go_wp2_with (first | (go_at_call 59; refine (delta24_any wd h4 h16 h3).mono ?_; rintro e w4 ⟨A4, k4, rfl, hi4, hb4⟩; have hB4 := below_then2 hB3 hb4; have h4' := h3.below hb4) | (go_at_call 60; refine (rest24_any wd h4 h16 h4').mono ?_; rintro e w5 ⟨A5, k5, rfl, hi5, hb5⟩; have hB5 := below_then2 hB4 hb5; have g5 := g.below hB5; have hi45 := hi4.below hb5; have q4 := clean_any hi45 g5 (fun j hj => sel_range _ _ j hj); have q5 := clean_any hi5 g5 (fun j hj => ⟨(sel_range _ _ j hj).1, by have := (sel_range _ _ j hj).2; omega⟩)) | (go_at_call 61; (first | (with_reducible refine q4.mono ?_; rw [hA]) | (with_reducible refine q5.mono ?_; rw [hC])); rintro e w6 ⟨rfl, rfl⟩))
          go_ret
          exact ⟨rfl, hB5⟩
theorem law13 (z : Int) (h : Ints p w A n c l) (g : Bools q w B m d b) : Calls Try.prog 13 #[.int .i64 z, .slice A n c, .slice B m d] w fun e w' => e = .returned (.bool true) ∧ Below w.heap.size w w' := by
  obtain ⟨r, er, hs, c57, c58⟩ := reads_pair h g z
  rcases hs with ⟨_, rfl, rfl⟩ | ⟨wd, rfl, rfl, _, _, _, rfl, rfl⟩ | ⟨wd, rfl, rfl, _, _, _, _, rfl, rfl⟩ | ⟨wd, rfl, rfl, h4, h16, ht, hl, rfl, rfl⟩
  · exact law13_err h g (.inl rfl) c57 c58
  · exact law13_err h g (.inl rfl) c57 c58
  · exact law13_err h g (.inr (.inl rfl)) c57 c58
  · by_cases h0 : n = 0
    · have e : readsL m l b = [] := by unfold readsL; rw [if_pos (by rw [h.len]; exact h0)]
      rw [e] at c57 c58
      exact law13_err h g (.inr (.inr ⟨rfl, h0⟩)) c57 c58
    · exact law13_ok h g h4 h16 h0 c57 c58
end
end Go.Proofs.Ytifhjigkljdkmaa
