/- decode.times. -/
import Derived.Test.YtifhjigkljdkmaaCb
import Derived.Test.YtifhjigkljdkmaaFr
namespace Go.Proofs.Ytifhjigkljdkmaa
open Go.RowKit
open Gf (F)
set_option linter.unusedSimpArgs false
set_option linter.unusedVariables false
theorem comb_one (c : F) (x : List F) : comb [c] [x] = sclB c x := by
  unfold comb sclB
  apply mkr_congr
  intro k hk
  show sumF 1 _ = _
  rw [sumF_succ, sumF_zero, zero_x]
  rfl
theorem byt_one (W : World) (c : F) : Byt (fun _ => True) (W.alloc (.cells #[.int .u8 (c.toNat : Int)] 5)) (some ⟨W.heap.size, 0, none⟩) 1 1 [c] :=
  ⟨rfl, ((row_one (w := W) (.int .u8 (c.toNat : Int)) 5).mono fun _ _ _ => trivial).congr fun j hj => by
    obtain rfl : j = 0 := by omega
    rfl⟩
theorem blk_one (W : World) {x : List F} (hx : x.length = 8) : Blks (fun _ => True) (W.alloc (.cells (agc x) 64)) (some ⟨W.heap.size, 0, none⟩) 1 1 [x] :=
  ⟨rfl, ((elm_one (w := W) (agc x) 64 (by rw [agc_size, hx]) (agc_one _)).mono fun _ _ _ => trivial).congr fun j hj => by
    obtain rfl : j = 0 := by omega
    rfl⟩
set_option maxRecDepth 100000 in
set_option maxHeartbeats 2000000 in
theorem times_any {x : List F} (c : F) (hx : x.length = 8) (w : World) : Calls Try.prog 119 #[.agg (agc x), .int .u8 (c.toNat : Int)] w fun e w' => e = .returned (.agg (agc (sclB c x))) ∧ Below w.heap.size w w' := by
  obtain ⟨q1, q3, q4⟩ := two_rows w hx #[.int .u8 0, .int .u8 0, .int .u8 0, .int .u8 0, .int .u8 0, .int .u8 0, .int .u8 0, .int .u8 0]
  have hs8 : (agc x).size = 8 := by rw [agc_size, hx]
  have hb3 : Below ((w.alloc (.cells (agc x) 64)).alloc (.cells #[.int .u8 0, .int .u8 0, .int .u8 0, .int .u8 0, .int .u8 0, .int .u8 0, .int .u8 0, .int .u8 0] 64)).heap.size ((w.alloc (.cells (agc x) 64)).alloc (.cells #[.int .u8 0, .int .u8 0, .int .u8 0, .int .u8 0, .int .u8 0, .int .u8 0, .int .u8 0, .int .u8 0] 64)) (((w.alloc (.cells (agc x) 64)).alloc (.cells #[.int .u8 0, .int .u8 0, .int .u8 0, .int .u8 0, .int .u8 0, .int .u8 0, .int .u8 0, .int .u8 0] 64)).alloc (.cells #[.int .u8 (c.toNat : Int)] 5)) := (Below.refl _ _).alloc (Nat.le_refl _) _
  have hq1 : (((w.alloc (.cells (agc x) 64)).alloc (.cells #[.int .u8 0, .int .u8 0, .int .u8 0, .int .u8 0, .int .u8 0, .int .u8 0, .int .u8 0, .int .u8 0] 64)).alloc (.cells #[.int .u8 (c.toNat : Int)] 5)).rowIs w.heap.size 64 8 (bytes x) := q1.alloc _
  have hb4 : Below (((w.alloc (.cells (agc x) 64)).alloc (.cells #[.int .u8 0, .int .u8 0, .int .u8 0, .int .u8 0, .int .u8 0, .int .u8 0, .int .u8 0, .int .u8 0] 64)).alloc (.cells #[.int .u8 (c.toNat : Int)] 5)).heap.size (((w.alloc (.cells (agc x) 64)).alloc (.cells #[.int .u8 0, .int .u8 0, .int .u8 0, .int .u8 0, .int .u8 0, .int .u8 0, .int .u8 0, .int .u8 0] 64)).alloc (.cells #[.int .u8 (c.toNat : Int)] 5)) ((((w.alloc (.cells (agc x) 64)).alloc (.cells #[.int .u8 0, .int .u8 0, .int .u8 0, .int .u8 0, .int .u8 0, .int .u8 0, .int .u8 0, .int .u8 0] 64)).alloc (.cells #[.int .u8 (c.toNat : Int)] 5)).alloc (.cells (agc x) 64)) := (Below.refl _ _).alloc (Nat.le_refl _) _
  have hby4 : Byt (fun _ => True) ((((w.alloc (.cells (agc x) 64)).alloc (.cells #[.int .u8 0, .int .u8 0, .int .u8 0, .int .u8 0, .int .u8 0, .int .u8 0, .int .u8 0, .int .u8 0] 64)).alloc (.cells #[.int .u8 (c.toNat : Int)] 5)).alloc (.cells (agc x) 64)) (some ⟨w.heap.size + 1 + 1, 0, none⟩) 1 1 [c] := by
    have := (byt_one ((w.alloc (.cells (agc x) 64)).alloc (.cells #[.int .u8 0, .int .u8 0, .int .u8 0, .int .u8 0, .int .u8 0, .int .u8 0, .int .u8 0, .int .u8 0] 64)) c).below hb4
    rwa [size_alloc1, size_alloc1] at this
  have hbk : Blks (fun _ => True) ((((w.alloc (.cells (agc x) 64)).alloc (.cells #[.int .u8 0, .int .u8 0, .int .u8 0, .int .u8 0, .int .u8 0, .int .u8 0, .int .u8 0, .int .u8 0] 64)).alloc (.cells #[.int .u8 (c.toNat : Int)] 5)).alloc (.cells (agc x) 64)) (some ⟨w.heap.size + 1 + 1 + 1, 0, none⟩) 1 1 [x] := by
    have := blk_one (((w.alloc (.cells (agc x) 64)).alloc (.cells #[.int .u8 0, .int .u8 0, .int .u8 0, .int .u8 0, .int .u8 0, .int .u8 0, .int .u8 0, .int .u8 0] 64)).alloc (.cells #[.int .u8 (c.toNat : Int)] 5)) hx
    rwa [size_alloc1, size_alloc1, size_alloc1] at this
  have hB4 := below_then2 (below_then2 q4 hb3) hb4
  have hr4 := (q3.alloc (.cells #[.int .u8 (c.toNat : Int)] 5)).alloc (.cells (agc x) 64)
  have hf : (comb [c] [x]).length = 8 := comb_length _ _
  have hc1 := comb_one c x
  replace hc1 := Lib.hid hc1
  replace hr4 := Lib.hid hr4
  go_enter Try.func119, Try.ntmps119
  go_wp2_with (first | (with_reducible refine wpl_load_agg rfl rfl rfl Try.underlying64 rfl (info64' hx) (fun k hk => row_agc hq1 hx hk) ?_) | (with_reducible refine wpl_build1_agg rfl rfl Try.underlying53 info64f (by decide) (by decide) rfl hs8 ?_) | (go_at_call 68; (with_reducible refine (combine_any hby4 hbk (by omega)).mono ?_); rintro e w5 ⟨rfl, hb5⟩; have hB5 := below_then2 hB4 hb5; have hr5 := hr4.out.of_block (hb5.block _ hr4.out.lt); have hz5 := zero_row8 w5 64; have hg5 := hr5.lt; replace hr5 := Lib.hid hr5) | (with_reducible refine wpl_store_agg rfl rfl rfl rfl hz5 (info64' hf) (by rw [agc_size, hf]; decide) (agc_one _) ?_; intro w6 hr6 hg6 hz6; have hb56 : Below w5.heap.size w5 w6 := (((Below.refl _ w5).alloc (Nat.le_refl _) _).grown hg6 (by simp) (fun k e => by cases e; exact Nat.le_refl _)); have hr6' := row_put hf hr6; have hB6 := below_then2 hB5 hb56; have hr7 := hr5.out.of_block (hb56.block _ hg5)) | (with_reducible refine wpl_load_agg rfl rfl rfl Try.underlying64 rfl (info64' hf) (fun k hk => row_agc hr6' hf hk) ?_) | (with_reducible refine wpl_store_agg rfl rfl rfl rfl hr7 (info64' hf) (by rw [agc_size, hf]; decide) (agc_one _) ?_; intro w8 hr8 hg8 hz8))
  have hB8 := hB6.grown hg8 hB6.size (fun k e => by cases e; exact Nat.le_succ _)
  have hr9 := row_put hf hr8
  rw [hc1.out] at hr9
  exact bodyPost_ret (v := .agg (agc (sclB c x))) (results_cell_agg Try.results119 _ rfl Try.underlying64 rfl (info64' (sclB_length c x)) (fun k hk => row_agc hr9 (sclB_length c x) hk)) rfl ⟨rfl, hB8⟩
end Go.Proofs.Ytifhjigkljdkmaa
