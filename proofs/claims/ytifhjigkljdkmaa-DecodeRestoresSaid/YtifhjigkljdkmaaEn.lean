/- parity.Encode (117), whole. -/
import Derived.Test.YtifhjigkljdkmaaEw
import Derived.Deep.CutBlock
import Derived.LoopN
namespace Go.Proofs.Ytifhjigkljdkmaa
open Go.RowKit Go.Shelf
open Gf (F)
set_option linter.unusedSimpArgs false
set_option linter.unusedVariables false
section
variable {p q : Nat → Prop} {w : World} {A : Option Addr} {n c : Nat} {D : List (List F)}
set_option maxRecDepth 100000 in
set_option maxHeartbeats 1000000 in
theorem encode_arg (h : Blks p w A n c D) (hbad : n < 1 ∨ 13 < n) : Calls Try.prog 117 #[.slice A n c] w fun e w' => e = .returned (.tuple #[.slice none 0 0, .int .i64 1]) ∧ w = w' := by
  have hn := h.len
  rcases hbad with hb | hb
  · obtain rfl : n = 0 := by omega
    go_enter Try.func117, Try.ntmps117
    go_wp2
    go_ret2
    exact ⟨rfl, rfl⟩
  · have hb2 : ¬ (n < 1) := by omega
    go_enter Try.func117, Try.ntmps117
    go_wp2
    go_ret2
    exact ⟨rfl, rfl⟩
theorem mk53 (w : World) : (Instr.makeSlice 53 (.int .i64 3) (.int .i64 3)).run Try.prog w = .ok (.slice (some ⟨w.heap.size, 0, none⟩) 3 3) (w.alloc (.cells (Array.replicate 24 (.int .u8 0)) 64)) := by kernel_rfl
theorem mk53_row (w : World) (D : List (List F)) : (w.alloc (.cells (Array.replicate 24 (.int .u8 0)) 64)).rowIs w.heap.size 64 24 (oF D 0 (zeroL 8)) := by
  have h := World.rowIs_alloc w (Array.replicate 24 (.int .u8 0)) 64 (oF D 0 (zeroL 8)) (fun i hi => by
    rw [Array.size_replicate] at hi
    rw [Array.getElem?_replicate, if_pos hi]
    unfold oF
    rw [if_neg (Nat.not_lt_zero _)]
    split <;> rw [nth_zeroL] <;> rfl)
  rwa [Array.size_replicate] at h
set_option maxRecDepth 100000 in
set_option maxHeartbeats 2000000 in
theorem encode_any (h : Blks p w A n c D) (h1 : 1 ≤ n) (h13 : n ≤ 13) : Calls Try.prog 117 #[.slice A n c] w fun e w' => ∃ g, e = .returned (.tuple #[.slice (some ⟨g, 0, none⟩) 3 3, .int .i64 0]) ∧ Blks (fun b => w.heap.size ≤ b) w' (some ⟨g, 0, none⟩) 3 3 (parM D) ∧ Below w.heap.size w w' := by
  have q1 : ¬ ((n : Int) < 1) := by omega
  have hmk := mk53 w
  have hr0 := (mk53_row w D).alloc (.cells #[.slice (some ⟨w.heap.size, 0, none⟩) 3 3] 53)
  have hbx := Boxed.new (w.alloc (.cells (Array.replicate 24 (.int .u8 0)) 64)) 53 (.slice (some ⟨w.heap.size, 0, none⟩) 3 3)
  rw [size_alloc1] at hbx
  have hb0 : Below w.heap.size w ((w.alloc (.cells (Array.replicate 24 (.int .u8 0)) 64)).alloc (.cells #[.slice (some ⟨w.heap.size, 0, none⟩) 3 3] 53)) := ((Below.refl _ _).alloc (Nat.le_refl _) _).alloc (by simp) _
  refine callsIn_wide.1 (callsIn_of_wp_marks (n := 10) Try.func117 rfl trivial ?_ rfl)
  simp only [Try.ntmps117, List.size_toArray, List.length_cons, List.length_nil, Nat.reduceAdd, Nat.reduceSub, Array.replicate_succ, Array.replicate_zero, List.push_toArray, List.append_toArray, List.nil_append, List.cons_append]
  refine wpIn_wide.2 ?_
  go_wp2
  refine wp_loop_rounds 4 ?_
  rw [rounds_succ]
  go_upto_block 1 with (fail)
  refine enc_round (j := 0) (ds := []) (by omega) h13 (by omega) h (Nat.le_refl _) (by omega) ⟨hbx, hr0, hb0, fun d hd => by cases hd⟩ (fun x5 x7 x21 x22 x23 x26 x27 x28 x29 x30 x31 x32 x33 x34 x35 x36 D1 W1 hd1 hI1 => ?_)
  go_wp2
  rw [rounds_succ]
  go_upto_block 1 with (fail)
  refine enc_round (j := 1) (ds := [D1]) (by omega) h13 (by omega) h (Nat.le_refl _) (by omega) hI1 (fun x5 x7 x21 x22 x23 x26 x27 x28 x29 x30 x31 x32 x33 x34 x35 x36 D2 W2 hd2 hI2 => ?_)
  go_wp2
  rw [rounds_succ]
  go_upto_block 1 with (fail)
  refine enc_round (j := 2) (ds := [D2, D1]) (by omega) h13 (by omega) h (Nat.le_refl _) (by omega) hI2 (fun x5 x7 x21 x22 x23 x26 x27 x28 x29 x30 x31 x32 x33 x34 x35 x36 D3 W3 hd3 hI3 => ?_)
  go_wp2
  rw [rounds_succ]
  have b3 := hI3.box.cell
  go_wp2
  have m1 : D1 < W1.heap.size := (Array.getElem?_eq_some_iff.1 (hI1.marks D1 (by simp))).1
  have m2 : D2 < W2.heap.size := (Array.getElem?_eq_some_iff.1 (hI2.marks D2 (by simp))).1
  have z0 := hb0.size
  have z1 := hI1.below.size
  have z2 := hI2.below.size
  have m3 : D1 < W2.heap.size := (Array.getElem?_eq_some_iff.1 (hI2.marks D1 (by simp))).1
  have j3 := hI3.take (by omega) (by simp; omega)
  have j2 := j3.take (by omega) (by simp; omega)
  have j1 := j2.take (by omega) (by simp)
  refine ⟨by simp, .inl ⟨_, _, rfl, run_takeDeferred (hI3.marks D3 (by simp)), ?_⟩⟩
  refine ⟨by simp, .inl ⟨_, _, rfl, run_takeDeferred (j3.marks D2 (by simp)), ?_⟩⟩
  refine ⟨by simp, .inl ⟨_, _, rfl, run_takeDeferred (j2.marks D1 (by simp)), ?_⟩⟩
  exact ⟨_, results_tmp2 rfl _ _ _, _, rfl, ⟨parM_length D, Elm.of_rowIs j1.row (Nat.le_refl _) (by unfold maxLen; omega) (fun j hj => by rw [agc_size, parM_rowlen D hj]) (fun j _ => agc_one _) (fun j hj k hk => by
    rw [agc_at (by rw [parM_rowlen D hj]; exact hk)]
    unfold oF
    have e1 : (j * 8 + k) / 8 = j := by omega
    have e2 : (j * 8 + k) % 8 = k := by omega
    rw [e1, e2, if_pos hj])⟩, j1.below⟩
end
end Go.Proofs.Ytifhjigkljdkmaa
