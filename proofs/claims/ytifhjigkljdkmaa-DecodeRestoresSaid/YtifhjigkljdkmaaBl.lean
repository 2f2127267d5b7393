/- Contracts of the functions on one or two blocks: parity.fused, tegularef03.Xor, tegularef03.Scale. -/
import Derived.Test.YtifhjigkljdkmaaBk
import Derived.Test.YtifhjigkljdkmaaM1
import Derived.Laws.ResultCell
import Derived.Outline
namespace Go.Proofs.Ytifhjigkljdkmaa
open Go.RowKit
open Gf (F)
set_option linter.unusedSimpArgs false
set_option linter.unusedVariables false
section
variable {P : Program} {w : World}
/-- A result that lies in memory. -/
theorem results_cell_agg {fn : Func} {p : Tmp} {ty : TypeId} (h : fn.results = #[.cell p ty]) (tmps : Array Value) {b o : Nat} {cs : Array Value} {d : TypeDesc}
    (hp : tmps.getD p undef = .pointer (some ⟨b, o, none⟩)) (hu : P.underlying ty = some d) (hd : (match d with | .struct _ | .array _ _ => true | _ => false) = true) (hi : (P.info? ty).map (·.size) = some cs.size)
    (hc : ∀ k, k < cs.size → w.cell? ⟨b, o + k, none⟩ = cs[k]?) : (results fn tmps).run P w = .ok (.agg cs) w := by
  have hp' : tmps[p]?.getD undef = .pointer (some ⟨b, o, none⟩) := by simpa using hp
  simp [results, h, hp', asAddr, run_loadVar_agg hu hd hi hc]
theorem results_cell_agg_tmp {fn : Func} {p u : Tmp} {ty : TypeId} (h : fn.results = #[.cell p ty, .tmp u]) (tmps : Array Value) {b o : Nat} {cs : Array Value} {d : TypeDesc}
    (hp : tmps.getD p undef = .pointer (some ⟨b, o, none⟩)) (hu : P.underlying ty = some d) (hd : (match d with | .struct _ | .array _ _ => true | _ => false) = true) (hi : (P.info? ty).map (·.size) = some cs.size)
    (hc : ∀ k, k < cs.size → w.cell? ⟨b, o + k, none⟩ = cs[k]?) : (results fn tmps).run P w = .ok (.tuple #[.agg cs, tmps.getD u undef]) w := by
  rw [results_cell_tmp h, hp]
  simp [asAddr, run_loadVar_agg hu hd hi hc]
end
section
variable {w : World}
/-- The cells of a block of 8 bytes in a row. -/
theorem row_agc {g : Nat} {t : TypeId} {x : List F} (h : w.rowIs g t 8 (bytes x)) (hx : x.length = 8) {k : Nat} (hk : k < (agc x).size) : w.cell? ⟨g, 0 + k, none⟩ = (agc x)[k]? := by
  rw [agc_size, hx] at hk
  rw [Nat.zero_add, h.cell hk, agc_at (by omega)]
  rfl
theorem agc_row (w : World) {x : List F} (hx : x.length = 8) (t : TypeId) : (w.alloc (.cells (agc x) t)).rowIs w.heap.size t 8 (bytes x) := by
  have h := World.rowIs_alloc w (agc x) t (bytes x) (fun i hi => by rw [agc_at (by rwa [agc_size] at hi)]; rfl)
  rwa [agc_size, hx] at h
theorem info64 : (Try.prog.info? 64).map (·.size) = some 8 := by kernel_rfl
theorem info64' {x : List F} (hx : x.length = 8) : (Try.prog.info? 64).map (·.size) = some (agc x).size := by rw [agc_size, hx]; exact info64
theorem put_agc {x : List F} (hx : x.length = 8) {f : Nat → Value} {i : Nat} (hi : i < 8) : putAt 0 (agc x) f i = bytes x i := by
  have h := putAt_in (o := 0) (cs := agc x) (f := f) (k := i) (by rw [agc_size]; omega)
  rw [Nat.zero_add] at h
  rw [h, Array.getD_eq_getD_getElem?, agc_at (by omega)]
  rfl
theorem row_put {g : Nat} {t : TypeId} {x : List F} (hx : x.length = 8) {f : Nat → Value} (h : w.rowIs g t 8 (putAt 0 (agc x) f)) : w.rowIs g t 8 (bytes x) := h.congr fun i hi => put_agc hx hi
def zero8 : List F := zeroL' 8
  where zeroL' (n : Nat) : List F := List.replicate n 0
theorem size_alloc1 (w : World) (o : Obj) : (w.alloc o).heap.size = w.heap.size + 1 := by simp
/-- The three blocks of a function on two blocks: both arguments and the result. -/
theorem three_rows (w : World) {x y : List F} (hx : x.length = 8) (hy : y.length = 8) (z : Array Value) :
    (((w.alloc (.cells (agc x) 64)).alloc (.cells (agc y) 64)).alloc (.cells z 64)).rowIs w.heap.size 64 8 (bytes x) ∧
    (((w.alloc (.cells (agc x) 64)).alloc (.cells (agc y) 64)).alloc (.cells z 64)).rowIs (w.heap.size + 1) 64 8 (bytes y) ∧
    (((w.alloc (.cells (agc x) 64)).alloc (.cells (agc y) 64)).alloc (.cells z 64)).rowIs (w.heap.size + 2) 64 z.size (fun i => z.getD i undef) ∧
    Below w.heap.size w (((w.alloc (.cells (agc x) 64)).alloc (.cells (agc y) 64)).alloc (.cells z 64)) := by
  have r2 := agc_row (w.alloc (.cells (agc x) 64)) hy 64
  have r3 := World.rowIs_alloc ((w.alloc (.cells (agc x) 64)).alloc (.cells (agc y) 64)) z 64 (fun i => z.getD i undef) (fun i hi => by simp [hi])
  rw [size_alloc1] at r2
  rw [size_alloc1, size_alloc1] at r3
  exact ⟨((agc_row w hx 64).alloc _).alloc _, r2.alloc _, r3, (((Below.refl _ _).alloc (Nat.le_refl _) _).alloc (by simp) _).alloc (by simp; omega) _⟩
set_option maxRecDepth 100000 in
set_option maxHeartbeats 1000000 in
theorem pfused_any {x y : List F} (c : F) (hx : x.length = 8) (hy : y.length = 8) (w : World) : Calls Try.prog 140 #[.agg (agc x), .agg (agc y), .int .u8 (c.toNat : Int)] w fun e w' => e = .returned (.agg (agc (fuse x y c))) ∧ Below w.heap.size w w' := by
  have hf := Lib.hid (fuse_length c hx hy)
  obtain ⟨q1, q2, q3, q4⟩ := three_rows w hx hy #[.int .u8 0, .int .u8 0, .int .u8 0, .int .u8 0, .int .u8 0, .int .u8 0, .int .u8 0, .int .u8 0]
  go_enter Try.func140, Try.ntmps140
  go_wp2
  go_loopw [7, 8] (fun _ i wr => ∃ k : Nat, k ≤ 8 ∧ i = .int .i64 k ∧ wr.rowIs w.heap.size 64 8 (upto k (bytes (fuse x y c)) (bytes x)) ∧ wr.rowIs (w.heap.size + 1) 64 8 (bytes y) ∧ (∃ f, wr.rowIs (w.heap.size + 2) 64 8 f) ∧ Below w.heap.size w wr) (fun _ i _ => 8 - (intOf i).toNat)
  case atStart => exact ⟨0, by omega, rfl, by rw [upto_zero]; exact q1, q2, ⟨_, q3⟩, q4⟩
  case round =>
    obtain ⟨k, hk, rfl, hr1, hr2, ⟨f, hr3⟩, hb⟩ := hrel
    by_cases hlt : k < 8
    · have e1 : wr.cell? ⟨w.heap.size, k, none⟩ = some (.int .u8 ((nth x k).toNat : Int)) := by rw [hr1.cell hlt, upto_at]; rfl
      have e2 : wr.cell? ⟨w.heap.size + 1, k, none⟩ = some (.int .u8 ((nth y k).toNat : Int)) := hr2.cell hlt
      have e3 := hr1.frozen k
      have d1 : (0 : Int) ≤ (k : Int) := Int.natCast_nonneg _
      have d2 : (k : Int) < 8 := by omega
      have hxr := u8_xor_F (nth x k) (Gf.mul c (nth y k))
      replace hr1 := Lib.hid hr1
      replace hr2 := Lib.hid hr2
      replace hr3 := Lib.hid hr3
      go_wp2
      go_region_law (first | (go_simp; go_at_call 99; refine (mul_any _ _ _).mono ?_; rintro e w2 ⟨rfl, rfl⟩))
      all_goals
        go_wp2
        go_roundw
        case rel =>
          exact ⟨k + 1, by omega, by go_num, (rowIs_upto_set hr1.out (by unfold bytes; rw [nth_fuse c hx hy hlt, UInt8.toNat_xor])).drew, (hr2.out.setOther (by simp) _).drew, ⟨_, (hr3.out.setOther (by simp) _).drew⟩, (hb.setCell (Nat.le_refl _) _).drew⟩
        case measure => simp [intOf]; omega
    · obtain rfl : k = 8 := by omega
      have hr4 : wr.rowIs w.heap.size 64 8 (bytes (fuse x y c)) := hr1.congr fun j hj => upto_lt hj _ _
      go_wp2_with (first | (with_reducible refine wpl_load_agg rfl rfl rfl Try.underlying64 rfl (info64' hf.out) (fun k hk => row_agc hr4 hf.out hk) ?_) | (with_reducible refine wpl_store_agg rfl rfl rfl rfl hr3 (info64' hf.out) (by rw [agc_size, hf.out]; decide) (agc_one _) ?_; intro w2 hr5 hg5 hz5))
      have hb5 := hb.grown hg5 hb.size (fun k e => by cases e; omega)
      have hr6 := row_put hf.out hr5
      exact bodyPost_ret (v := .agg (agc (fuse x y c))) (results_cell_agg Try.results140 _ rfl Try.underlying64 rfl (info64' hf.out) (fun k hk => row_agc hr6 hf.out hk)) rfl ⟨rfl, hb5⟩
/-- The sum of two blocks. -/
def xorB (x y : List F) : List F := mkr 8 fun k => nth x k ^^^ nth y k
def sclB (c : F) (x : List F) : List F := mkr 8 fun k => Gf.mul c (nth x k)
theorem xorB_length (x y : List F) : (xorB x y).length = 8 := mkr_length _ _
theorem sclB_length (c : F) (x : List F) : (sclB c x).length = 8 := mkr_length _ _
set_option maxRecDepth 100000 in
set_option maxHeartbeats 1000000 in
theorem xor_any {x y : List F} (hx : x.length = 8) (hy : y.length = 8) (w : World) : Calls Try.prog 79 #[.agg (agc x), .agg (agc y)] w fun e w' => e = .returned (.agg (agc (xorB x y))) ∧ Below w.heap.size w w' := by
  have hf := Lib.hid (xorB_length x y)
  obtain ⟨q1, q2, q3, q4⟩ := three_rows w hx hy #[.int .u8 0, .int .u8 0, .int .u8 0, .int .u8 0, .int .u8 0, .int .u8 0, .int .u8 0, .int .u8 0]
  go_enter Try.func79, Try.ntmps79
  go_wp2
  go_loopw [5] (fun i wr => ∃ k : Nat, k ≤ 8 ∧ i = .int .i64 k ∧ wr.rowIs w.heap.size 64 8 (upto k (bytes (xorB x y)) (bytes x)) ∧ wr.rowIs (w.heap.size + 1) 64 8 (bytes y) ∧ (∃ f, wr.rowIs (w.heap.size + 2) 64 8 f) ∧ Below w.heap.size w wr) (fun i _ => 8 - (intOf i).toNat)
  case atStart => exact ⟨0, by omega, rfl, by rw [upto_zero]; exact q1, q2, ⟨_, q3⟩, q4⟩
  case round =>
    obtain ⟨k, hk, rfl, hr1, hr2, ⟨f, hr3⟩, hb⟩ := hrel
    by_cases hlt : k < 8
    · have e1 : wr.cell? ⟨w.heap.size, k, none⟩ = some (.int .u8 ((nth x k).toNat : Int)) := by rw [hr1.cell hlt, upto_at]; rfl
      have e2 : wr.cell? ⟨w.heap.size + 1, k, none⟩ = some (.int .u8 ((nth y k).toNat : Int)) := hr2.cell hlt
      have e3 := hr1.frozen k
      have d1 : (0 : Int) ≤ (k : Int) := Int.natCast_nonneg _
      have d2 : (k : Int) < 8 := by omega
      have hxr := u8_xor_F (nth x k) (nth y k)
      replace hr1 := Lib.hid hr1
      replace hr2 := Lib.hid hr2
      replace hr3 := Lib.hid hr3
      go_wp2
      go_region_law (fail)
      all_goals
        go_wp2
        go_roundw
        case rel =>
          exact ⟨k + 1, by omega, by go_num, (rowIs_upto_set hr1.out (by unfold bytes xorB; rw [nth_mkr _ hlt, UInt8.toNat_xor])).drew, (hr2.out.setOther (by simp) _).drew, ⟨_, (hr3.out.setOther (by simp) _).drew⟩, (hb.setCell (Nat.le_refl _) _).drew⟩
        case measure => simp [intOf]; omega
    · obtain rfl : k = 8 := by omega
      have hr4 : wr.rowIs w.heap.size 64 8 (bytes (xorB x y)) := hr1.congr fun j hj => upto_lt hj _ _
      go_wp2_with (first | (with_reducible refine wpl_load_agg rfl rfl rfl Try.underlying64 rfl (info64' hf.out) (fun k hk => row_agc hr4 hf.out hk) ?_) | (with_reducible refine wpl_store_agg rfl rfl rfl rfl hr3 (info64' hf.out) (by rw [agc_size, hf.out]; decide) (agc_one _) ?_; intro w2 hr5 hg5 hz5))
      have hb5 := hb.grown hg5 hb.size (fun k e => by cases e; omega)
      have hr6 := row_put hf.out hr5
      exact bodyPost_ret (v := .agg (agc (xorB x y))) (results_cell_agg Try.results79 _ rfl Try.underlying64 rfl (info64' hf.out) (fun k hk => row_agc hr6 hf.out hk)) rfl ⟨rfl, hb5⟩
theorem two_rows (w : World) {x : List F} (hx : x.length = 8) (z : Array Value) :
    ((w.alloc (.cells (agc x) 64)).alloc (.cells z 64)).rowIs w.heap.size 64 8 (bytes x) ∧
    ((w.alloc (.cells (agc x) 64)).alloc (.cells z 64)).rowIs (w.heap.size + 1) 64 z.size (fun i => z.getD i undef) ∧
    Below w.heap.size w ((w.alloc (.cells (agc x) 64)).alloc (.cells z 64)) := by
  have r3 := World.rowIs_alloc (w.alloc (.cells (agc x) 64)) z 64 (fun i => z.getD i undef) (fun i hi => by simp [hi])
  rw [size_alloc1] at r3
  exact ⟨(agc_row w hx 64).alloc _, r3, ((Below.refl _ _).alloc (Nat.le_refl _) _).alloc (by simp) _⟩
set_option maxRecDepth 100000 in
set_option maxHeartbeats 1000000 in
theorem scale_any {x : List F} (c : F) (hx : x.length = 8) (w : World) : Calls Try.prog 115 #[.int .u8 (c.toNat : Int), .agg (agc x)] w fun e w' => e = .returned (.agg (agc (sclB c x))) ∧ Below w.heap.size w w' := by
  have hf := Lib.hid (sclB_length c x)
  obtain ⟨q1, q3, q4⟩ := two_rows w hx #[.int .u8 0, .int .u8 0, .int .u8 0, .int .u8 0, .int .u8 0, .int .u8 0, .int .u8 0, .int .u8 0]
  go_enter Try.func115, Try.ntmps115
  go_wp2
  go_loopw [5] (fun i wr => ∃ k : Nat, k ≤ 8 ∧ i = .int .i64 k ∧ wr.rowIs w.heap.size 64 8 (upto k (bytes (sclB c x)) (bytes x)) ∧ (∃ f, wr.rowIs (w.heap.size + 1) 64 8 f) ∧ Below w.heap.size w wr) (fun i _ => 8 - (intOf i).toNat)
  case atStart => exact ⟨0, by omega, rfl, by rw [upto_zero]; exact q1, ⟨_, q3⟩, q4⟩
  case round =>
    obtain ⟨k, hk, rfl, hr1, ⟨f, hr3⟩, hb⟩ := hrel
    by_cases hlt : k < 8
    · have e1 : wr.cell? ⟨w.heap.size, k, none⟩ = some (.int .u8 ((nth x k).toNat : Int)) := by rw [hr1.cell hlt, upto_at]; rfl
      have e3 := hr1.frozen k
      have d1 : (0 : Int) ≤ (k : Int) := Int.natCast_nonneg _
      have d2 : (k : Int) < 8 := by omega
      replace hr1 := Lib.hid hr1
      replace hr3 := Lib.hid hr3
      go_wp2_with (go_at_call 97; (with_reducible refine (refmul_any _ _ _).mono ?_); rintro e w2 ⟨rfl, rfl⟩)
      go_roundw
      case rel =>
        exact ⟨k + 1, by omega, by go_num, rowIs_upto_set hr1.out (by unfold bytes sclB; rw [nth_mkr _ hlt]), ⟨_, hr3.out.setOther (by simp) _⟩, hb.setCell (Nat.le_refl _) _⟩
      case measure => simp [intOf]; omega
    · obtain rfl : k = 8 := by omega
      have hr4 : wr.rowIs w.heap.size 64 8 (bytes (sclB c x)) := hr1.congr fun j hj => upto_lt hj _ _
      go_wp2_with (first | (with_reducible refine wpl_load_agg rfl rfl rfl Try.underlying64 rfl (info64' hf.out) (fun k hk => row_agc hr4 hf.out hk) ?_) | (with_reducible refine wpl_store_agg rfl rfl rfl rfl hr3 (info64' hf.out) (by rw [agc_size, hf.out]; decide) (agc_one _) ?_; intro w2 hr5 hg5 hz5))
      have hb5 := hb.grown hg5 hb.size (fun k e => by cases e; omega)
      have hr6 := row_put hf.out hr5
      exact bodyPost_ret (v := .agg (agc (sclB c x))) (results_cell_agg Try.results115 _ rfl Try.underlying64 rfl (info64' hf.out) (fun k hk => row_agc hr6 hf.out hk)) rfl ⟨rfl, hb5⟩
end
end Go.Proofs.Ytifhjigkljdkmaa
