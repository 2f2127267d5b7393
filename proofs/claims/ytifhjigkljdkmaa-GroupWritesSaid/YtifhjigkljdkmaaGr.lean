/- The law function GroupWrites returns true. -/
import Derived.Test.YtifhjigkljdkmaaWs
import Derived.Test.YtifhjigkljdkmaaAw
namespace Go.Proofs.Ytifhjigkljdkmaa
open Go.RowKit
open Gf (F)
set_option linter.unusedSimpArgs false
set_option linter.unusedVariables false
section
variable {p q r : Nat → Prop} {w w' : World} {A B G : Option Addr} {n c m d k f : Nat} {M N : List (List F)} {b : List Bool}
theorem wr_pair (a v : Int) (h : Blks p w A n c M) (g : Blks q w B m d N) (i : Bools r w G k f b) (hn : n ≤ 20) : ∃ S er, (er = 0 ∨ er = 1) ∧ (∀ j, j < S.length → (mrow N (nti S j).toNat).length = 8) ∧
    (∀ w', Below w.heap.size w w' → Calls Try.prog 62 #[.int .i64 a, .slice A n c, .slice B m d, .int .u64 v, .slice G k f] w' (WritesRet w' a v N S er)) ∧ (∀ w', Below w.heap.size w w' → Calls Try.prog 63 #[.int .i64 a, .slice A n c, .slice B m d, .int .u64 v, .slice G k f] w' (WritesRet w' a v N S er)) := by
  by_cases hb : wideB (n : Int) = true ∧ m = n ∧ k = n
  · obtain ⟨hw, rfl, rfl⟩ := hb
    refine ⟨wrL k M N b, 0, .inl rfl, fun j hj => ?_, fun w' hk => gwrites_ok a v (h.below hk) (g.below hk) (i.below hk) hw hn, fun w' hk => rwrites_ok a v (h.below hk) (g.below hk) (i.below hk) hw hn⟩
    have := sel_range (wrP M N b) k j hj
    exact g.row (by unfold wrL; omega)
  · exact ⟨[], 1, .inr rfl, fun j hj => absurd hj (Nat.not_lt_zero _), fun w' hk => gwrites_arg a v (h.below hk) (g.below hk) (i.below hk) hn hb, fun w' hk => rwrites_arg a v (h.below hk) (g.below hk) (i.below hk) hn hb⟩
set_option maxRecDepth 100000 in
set_option maxHeartbeats 1000000 in
theorem law16 (a v : Int) (h : Blks p w A n c M) (g : Blks q w B m d N) (i : Bools r w G k f b) : Calls Try.prog 16 #[.agg #[.slice A n c, .slice B m d], .int .i64 a, .int .u64 v, .slice G k f] w fun e w' => e = .returned (.bool true) ∧ Below w.heap.size w w' := by
  have hn := h.len
  have hm := g.len
  have hk := i.row.len
  have hbx : Below w.heap.size w (w.alloc (.cells #[.slice A n c, .slice B m d] 81)) := (Below.refl _ _).alloc (Nat.le_refl _) _
  have c0 : (w.alloc (.cells #[.slice A n c, .slice B m d] 81)).cell? ⟨w.heap.size, 0, none⟩ = some (.slice A n c) := by
    rw [cell_of_row _ _ 0 #[.slice A n c, .slice B m d] 81 (0, 0) (heap_alloc_new w _)]; rfl
  have c1 : (w.alloc (.cells #[.slice A n c, .slice B m d] 81)).cell? ⟨w.heap.size, 1, none⟩ = some (.slice B m d) := by
    rw [cell_of_row _ _ 1 #[.slice A n c, .slice B m d] 81 (0, 0) (heap_alloc_new w _)]; rfl
  have hsx := size_alloc1 w (.cells #[.slice A n c, .slice B m d] 81)
  obtain ⟨wx, hwx⟩ : ∃ wx, wx = w.alloc (.cells #[.slice A n c, .slice B m d] 81) := ⟨_, rfl⟩
  rw [← hwx] at hbx c0 c1 hsx
  by_cases h1 : 20 < n
  · go_enter Try.func16, Try.ntmps16
    go_wp2_with (go_at_call 48; rw [← hwx]; refine (awake24_any _).mono ?_; rintro e w1 ⟨rfl, hb1⟩; have hB1 := below_then2 hbx hb1; have c01 := (hb1.cell (p := ⟨w.heap.size, 0, none⟩) (by show w.heap.size < _; omega)).trans c0; have c11 := (hb1.cell (p := ⟨w.heap.size, 1, none⟩) (by show w.heap.size < _; omega)).trans c1)
    all_goals (go_ret; exact ⟨rfl, hB1⟩)
  by_cases h2 : 20 < m
  · go_enter Try.func16, Try.ntmps16
    go_wp2_with (go_at_call 48; rw [← hwx]; refine (awake24_any _).mono ?_; rintro e w1 ⟨rfl, hb1⟩; have hB1 := below_then2 hbx hb1; have c01 := (hb1.cell (p := ⟨w.heap.size, 0, none⟩) (by show w.heap.size < _; omega)).trans c0; have c11 := (hb1.cell (p := ⟨w.heap.size, 1, none⟩) (by show w.heap.size < _; omega)).trans c1)
    all_goals (go_ret; exact ⟨rfl, hB1⟩)
  by_cases h3 : 20 < k
  · go_enter Try.func16, Try.ntmps16
    go_wp2_with (go_at_call 48; rw [← hwx]; refine (awake24_any _).mono ?_; rintro e w1 ⟨rfl, hb1⟩; have hB1 := below_then2 hbx hb1; have c01 := (hb1.cell (p := ⟨w.heap.size, 0, none⟩) (by show w.heap.size < _; omega)).trans c0; have c11 := (hb1.cell (p := ⟨w.heap.size, 1, none⟩) (by show w.heap.size < _; omega)).trans c1)
    all_goals (go_ret; exact ⟨rfl, hB1⟩)
  obtain ⟨S, er, hs, hr, k62, k63⟩ := wr_pair a v h g i (by omega)
  replace hr := Lib.hid hr
  clear hs
  go_enter Try.func16, Try.ntmps16
  go_wp2_with (first | (go_at_call 48; rw [← hwx]; refine (awake24_any _).mono ?_; rintro e w1 ⟨rfl, hb1⟩; have hB1 := below_then2 hbx hb1; have hs1 := hb1.size; have c01 := (hb1.cell (p := ⟨w.heap.size, 0, none⟩) (by show w.heap.size < _; omega)).trans c0; have c11 := (hb1.cell (p := ⟨w.heap.size, 1, none⟩) (by show w.heap.size < _; omega)).trans c1) | (go_at_call 62; (with_reducible refine (k62 _ hB1).mono ?_); rintro e w2 ⟨A2, c2, rfl, hE2, hb2⟩; have hB2 := below_then2 hB1 hb2; have c02 := (hb2.cell (p := ⟨w.heap.size, 0, none⟩) (by show w.heap.size < _; omega)).trans c01; have c12 := (hb2.cell (p := ⟨w.heap.size, 1, none⟩) (by show w.heap.size < _; omega)).trans c11) | (go_at_call 63; (with_reducible refine (k63 _ hB2).mono ?_); rintro e w3 ⟨A3, c3, rfl, hE3, hb3⟩; have hB3 := below_then2 hB2 hb3; have hE2' := hE2.below hb3) | (go_at_call 64; (with_reducible refine (samewrites_self hE2' hE3 hr.out).mono ?_); rintro e w4 ⟨rfl, nd, rfl⟩; have hB4 := below_drewN hB3 nd))
  go_ret
  exact ⟨rfl, hB4⟩
end
end Go.Proofs.Ytifhjigkljdkmaa
