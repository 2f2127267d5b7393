/- The law function GfmatrixAlgebra returns true. -/
import Derived.Test.YtifhjigkljdkmaaLf
namespace Go.Proofs.Ytifhjigkljdkmaa
open Go.RowKit
open Gf (F)
set_option linter.unusedSimpArgs false
set_option linter.unusedVariables false
section
variable {w : World} {x X : List F}
theorem matX_dim (X : List F) (k i : Nat) : Dim k k (matX X k i) := Dim.mkm _ _ _
set_option maxRecDepth 100000 in
set_option maxHeartbeats 4000000 in
theorem law15 {cs : Array Value} (zn : Nat) (hz : zn < 256) (hbox : Byt (fun _ => True) (w.alloc (.cells cs 78)) (some ⟨w.heap.size, 0, none⟩) 108 108 X) : Calls Try.prog 15 #[.int .u8 (zn : Int), .agg cs] w fun e w' => e = .returned (.bool true) ∧ Below w.heap.size w w' := by
  have hb0 : Below w.heap.size w (w.alloc (.cells cs 78)) := (Below.refl _ _).alloc (Nat.le_refl _) _
  go_enter Try.func15, Try.ntmps15
  go_wp2_with (go_at_call 27; (with_reducible refine (awake_any _).mono ?_); rintro e w1 ⟨rfl, hb1⟩; have hB1 := below_then2 hb0 hb1; have hx1 := hbox.below hb1)
  obtain ⟨k, hk⟩ : ∃ k : Nat, (1 + (zn : Int) % 6) = (k : Int) := ⟨1 + zn % 6, by omega⟩
  have k1 : 1 ≤ k := by omega
  have k6 : k ≤ 6 := by omega
  rw [hk]
  clear hk
  have ho : Outer (w1.alloc (.cells #[.slice none 0 0, .slice none 0 0, .slice none 0 0] 79)) w1.heap.size 79 k X 0 := ⟨fun _ => .slice none 0 0, World.rowIs_alloc w1 #[.slice none 0 0, .slice none 0 0, .slice none 0 0] 79 (fun _ => .slice none 0 0) (fun i hi => by
    match i, hi with
    | 0, _ => rfl
    | 1, _ => rfl
    | 2, _ => rfl), fun j hj => absurd hj (Nat.not_lt_zero _), fun _ _ _ => rfl⟩
  refine ib0 (w2 := w1) (gx := w.heap.size) (gm := w1.heap.size) (X := X) (T := 79) k1 k6 hx1 (Nat.le_refl _) ((Below.refl _ _).alloc (Nat.le_refl _) _) ho (fun x7 x8 x31 x32 x33 x34 x35 x36 x37 x38 x39 x40 x41 x42 x43 x44 x45 x46 x47 x48 x49 x50 x51 x52 x53 x54 x55 x56 x57 x58 w3 h3 => ?_)
  obtain ⟨⟨vals, hv, hM, _⟩, hb3⟩ := h3
  have hB3 := below_then2 hB1 hb3
  obtain ⟨A0, c0, R0, C0, v0, m0_3⟩ := hM 0 (by omega)
  obtain ⟨A1, c1, R1, C1, v1, m1_3⟩ := hM 1 (by omega)
  obtain ⟨A2, c2, R2, C2, v2, m2_3⟩ := hM 2 (by omega)
  have hgl := hv.lt
  have f0_3 := hv.cell (i := 0) (by omega)
  have f1_3 := hv.cell (i := 1) (by omega)
  have f2_3 := hv.cell (i := 2) (by omega)
  rw [v0] at f0_3
  rw [v1] at f1_3
  rw [v2] at f2_3
  generalize w1.heap.size = gm at *
  have va : ∀ {M : List (List F)}, Dim k k M → Valid M := fun h => h.valid k1 (by omega) k1 (by omega)
  have V0 := va (matX_dim X k 0)
  have V1 := va (matX_dim X k 1)
  have V2 := va (matX_dim X k 2)
  have Vab := va (mulM_dim k k k (matX X k 0) (matX X k 1))
  have Vbc := va (mulM_dim k k k (matX X k 1) (matX X k 2))
  have Vone := valid_idm k1 (show k ≤ 64 by omega)
  have Vat := va (show Dim k k (trM k k (matX X k 0)) from Dim.mkm _ _ _)
  have Vbt := va (show Dim k k (trM k k (matX X k 1)) from Dim.mkm _ _ _)
  have q1 : Hid (decide (mulM k k k (mulM k k k (matX X k 0) (matX X k 1)) (matX X k 2) = mulM k k k (matX X k 0) (mulM k k k (matX X k 1) (matX X k 2))) = true) := decide_eq_true (mulM_assoc k _ _ _)
  have q2 : Hid (decide (mulM k k k (matX X k 0) (idm k) = matX X k 0) = true) := decide_eq_true (mulM_one (matX_dim X k 0))
  have q3 : Hid (decide (trM k k (mulM k k k (matX X k 0) (matX X k 1)) = mulM k k k (trM k k (matX X k 1)) (trM k k (matX X k 0))) = true) := decide_eq_true (trM_mulM k _ _)
  generalize matX X k 0 = M0 at *
  generalize matX X k 1 = M1 at *
  generalize matX X k 2 = M2 at *
  clear hM hv va v0 v1 v2 ho hb3 hx1 hb1 hbox hb0 hB1
  have k64 : k ≤ 64 := by omega
  have hgl_3 := hgl
  go_wp2_with (first | (go_at_call 32; (with_reducible refine (same_any abt_15.rag pp_15.rag).mono ?_); rw [q3.out]; rintro e w16 ⟨rfl, nd3, rfl⟩; have hB16 := below_drewN hB15 nd3) | (go_at_call 45; (with_reducible refine (mul_ok bt_14 tra_14 Vbt Vat).mono ?_); rintro e w15 ⟨g15, R15', C15', rfl, pp_15, hb15⟩; have m0_15 := m0_14.belowR hb15; have m1_15 := m1_14.belowR hb15; have ab_15 := ab_14.belowR hb15; have tra_15 := tra_14.belowR hb15; have bt_15 := bt_14.belowR hb15; have abt_15 := abt_14.belowR hb15; have f0_15 := (hb15.cell (p := ⟨gm, 0, none⟩) hgl_14).trans f0_14; have f1_15 := (hb15.cell (p := ⟨gm, 1, none⟩) hgl_14).trans f1_14; have f2_15 := (hb15.cell (p := ⟨gm, 2, none⟩) hgl_14).trans f2_14; have hgl_15 := Nat.lt_of_lt_of_le hgl_14 hb15.size; have hB15 := below_then2 hB14 hb15) | (go_at_call 41; (with_reducible refine (transpose_ok ab_13 Vab).mono ?_); rintro e w14 ⟨g14, R14', C14', rfl, abt_14, hb14⟩; have m0_14 := m0_13.belowR hb14; have m1_14 := m1_13.belowR hb14; have ab_14 := ab_13.belowR hb14; have tra_14 := tra_13.belowR hb14; have bt_14 := bt_13.belowR hb14; have f0_14 := (hb14.cell (p := ⟨gm, 0, none⟩) hgl_13).trans f0_13; have f1_14 := (hb14.cell (p := ⟨gm, 1, none⟩) hgl_13).trans f1_13; have f2_14 := (hb14.cell (p := ⟨gm, 2, none⟩) hgl_13).trans f2_13; have hgl_14 := Nat.lt_of_lt_of_le hgl_13 hb14.size; have hB14 := below_then2 hB13 hb14) | (go_at_call 41; (with_reducible refine (transpose_ok m1_12 V1).mono ?_); rintro e w13 ⟨g13, R13', C13', rfl, bt_13, hb13⟩; have m0_13 := m0_12.belowR hb13; have m1_13 := m1_12.belowR hb13; have ab_13 := ab_12.belowR hb13; have tra_13 := tra_12.belowR hb13; have f0_13 := (hb13.cell (p := ⟨gm, 0, none⟩) hgl_12).trans f0_12; have f1_13 := (hb13.cell (p := ⟨gm, 1, none⟩) hgl_12).trans f1_12; have f2_13 := (hb13.cell (p := ⟨gm, 2, none⟩) hgl_12).trans f2_12; have hgl_13 := Nat.lt_of_lt_of_le hgl_12 hb13.size; have hB13 := below_then2 hB12 hb13) | (go_at_call 41; (with_reducible refine (transpose_ok m0_11 V0).mono ?_); rintro e w12 ⟨g12, R12', C12', rfl, tra_12, hb12⟩; have m0_12 := m0_11.belowR hb12; have m1_12 := m1_11.belowR hb12; have ab_12 := ab_11.belowR hb12; have f0_12 := (hb12.cell (p := ⟨gm, 0, none⟩) hgl_11).trans f0_11; have f1_12 := (hb12.cell (p := ⟨gm, 1, none⟩) hgl_11).trans f1_11; have f2_12 := (hb12.cell (p := ⟨gm, 2, none⟩) hgl_11).trans f2_11; have hgl_12 := Nat.lt_of_lt_of_le hgl_11 hb12.size; have hB12 := below_then2 hB11 hb12) | (go_at_call 32; (with_reducible refine (same_any sm_10.rag m0_10.rag).mono ?_); rw [q2.out]; rintro e w11 ⟨rfl, nd2, rfl⟩; have m0_11 := m0_9.drewN (nd1 + nd2); have m1_11 := m1_9.drewN (nd1 + nd2); have ab_11 := ab_9.drewN (nd1 + nd2); have f0_11 : (w9.drewN (nd1 + nd2)).cell? ⟨gm, 0, none⟩ = _ := f0_9; have f1_11 : (w9.drewN (nd1 + nd2)).cell? ⟨gm, 1, none⟩ = _ := f1_9; have f2_11 : (w9.drewN (nd1 + nd2)).cell? ⟨gm, 2, none⟩ = _ := f2_9; have hgl_11 : gm < (w9.drewN (nd1 + nd2)).heap.size := hgl_9; have hB11 := below_drewN hB9 (nd1 + nd2)) | (go_at_call 32; (with_reducible refine (same_any lf_9.rag rt_9.rag).mono ?_); rw [q1.out]; rintro e w10 ⟨rfl, nd1, rfl⟩; have sm_10 := sm_9.drewN nd1; have m0_10 := m0_9.drewN nd1) | (go_at_call 45; (with_reducible refine (mul_ok m0_8 one_8 V0 Vone).mono ?_); rintro e w9 ⟨g9, R9', C9', rfl, sm_9, hb9⟩; have m0_9 := m0_8.belowR hb9; have m1_9 := m1_8.belowR hb9; have m2_9 := m2_8.belowR hb9; have ab_9 := ab_8.belowR hb9; have bc_9 := bc_8.belowR hb9; have lf_9 := lf_8.belowR hb9; have rt_9 := rt_8.belowR hb9; have one_9 := one_8.belowR hb9; have f0_9 := (hb9.cell (p := ⟨gm, 0, none⟩) hgl_8).trans f0_8; have f1_9 := (hb9.cell (p := ⟨gm, 1, none⟩) hgl_8).trans f1_8; have f2_9 := (hb9.cell (p := ⟨gm, 2, none⟩) hgl_8).trans f2_8; have hgl_9 := Nat.lt_of_lt_of_le hgl_8 hb9.size; have hB9 := below_then2 hB8 hb9) | (go_at_call 38; (with_reducible refine (identity_any k k1 k64 _).mono ?_); have hB7' := hB7; rintro e w8 ⟨g8, R8', C8', rfl, one_8, hb8⟩; have m0_8 := m0_7.belowR hb8; have m1_8 := m1_7.belowR hb8; have m2_8 := m2_7.belowR hb8; have ab_8 := ab_7.belowR hb8; have bc_8 := bc_7.belowR hb8; have lf_8 := lf_7.belowR hb8; have rt_8 := rt_7.belowR hb8; have f0_8 := (hb8.cell (p := ⟨gm, 0, none⟩) hgl_7).trans f0_7; have f1_8 := (hb8.cell (p := ⟨gm, 1, none⟩) hgl_7).trans f1_7; have f2_8 := (hb8.cell (p := ⟨gm, 2, none⟩) hgl_7).trans f2_7; have hgl_8 := Nat.lt_of_lt_of_le hgl_7 hb8.size; have hB8 := below_then2 hB7 hb8) | (go_at_call 45; (with_reducible refine (mul_ok m0_6 bc_6 V0 Vbc).mono ?_); rintro e w7 ⟨g7, R7', C7', rfl, rt_7, hb7⟩; have m0_7 := m0_6.belowR hb7; have m1_7 := m1_6.belowR hb7; have m2_7 := m2_6.belowR hb7; have ab_7 := ab_6.belowR hb7; have bc_7 := bc_6.belowR hb7; have lf_7 := lf_6.belowR hb7; have f0_7 := (hb7.cell (p := ⟨gm, 0, none⟩) hgl_6).trans f0_6; have f1_7 := (hb7.cell (p := ⟨gm, 1, none⟩) hgl_6).trans f1_6; have f2_7 := (hb7.cell (p := ⟨gm, 2, none⟩) hgl_6).trans f2_6; have hgl_7 := Nat.lt_of_lt_of_le hgl_6 hb7.size; have hB7 := below_then2 hB6 hb7) | (go_at_call 45; (with_reducible refine (mul_ok ab_5 m2_5 Vab V2).mono ?_); rintro e w6 ⟨g6, R6', C6', rfl, lf_6, hb6⟩; have m0_6 := m0_5.belowR hb6; have m1_6 := m1_5.belowR hb6; have m2_6 := m2_5.belowR hb6; have ab_6 := ab_5.belowR hb6; have bc_6 := bc_5.belowR hb6; have f0_6 := (hb6.cell (p := ⟨gm, 0, none⟩) hgl_5).trans f0_5; have f1_6 := (hb6.cell (p := ⟨gm, 1, none⟩) hgl_5).trans f1_5; have f2_6 := (hb6.cell (p := ⟨gm, 2, none⟩) hgl_5).trans f2_5; have hgl_6 := Nat.lt_of_lt_of_le hgl_5 hb6.size; have hB6 := below_then2 hB5 hb6) | (go_at_call 45; (with_reducible refine (mul_ok m1_4 m2_4 V1 V2).mono ?_); rintro e w5 ⟨g5, R5', C5', rfl, bc_5, hb5⟩; have m0_5 := m0_4.belowR hb5; have m1_5 := m1_4.belowR hb5; have m2_5 := m2_4.belowR hb5; have ab_5 := ab_4.belowR hb5; have f0_5 := (hb5.cell (p := ⟨gm, 0, none⟩) hgl_4).trans f0_4; have f1_5 := (hb5.cell (p := ⟨gm, 1, none⟩) hgl_4).trans f1_4; have f2_5 := (hb5.cell (p := ⟨gm, 2, none⟩) hgl_4).trans f2_4; have hgl_5 := Nat.lt_of_lt_of_le hgl_4 hb5.size; have hB5 := below_then2 hB4 hb5) | (go_at_call 45; (with_reducible refine (mul_ok m0_3 m1_3 V0 V1).mono ?_); rintro e w4 ⟨g4, R4', C4', rfl, ab_4, hb4⟩; have m0_4 := m0_3.belowR hb4; have m1_4 := m1_3.belowR hb4; have m2_4 := m2_3.belowR hb4; have f0_4 := (hb4.cell (p := ⟨gm, 0, none⟩) hgl_3).trans f0_3; have f1_4 := (hb4.cell (p := ⟨gm, 1, none⟩) hgl_3).trans f1_3; have f2_4 := (hb4.cell (p := ⟨gm, 2, none⟩) hgl_3).trans f2_3; have hgl_4 := Nat.lt_of_lt_of_le hgl_3 hb4.size; have hB4 := below_then2 hB3 hb4))
  all_goals (go_ret; exact ⟨by simp, hB16⟩)
end
end Go.Proofs.Ytifhjigkljdkmaa
