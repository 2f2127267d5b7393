/- decode.Combine, decode.times. -/
import Derived.Test.YtifhjigkljdkmaaBm
import Derived.Test.YtifhjigkljdkmaaDw
namespace Go.Proofs.Ytifhjigkljdkmaa
open Go.RowKit
open Gf (F)
set_option linter.unusedSimpArgs false
set_option linter.unusedVariables false
def combI (ws : List F) (M : List (List F)) (i : Nat) : List F := mkr 8 fun k => sumF i fun t => Gf.mul (nth ws t) (ent M t k)
theorem combI_length (ws : List F) (M : List (List F)) (i : Nat) : (combI ws M i).length = 8 := mkr_length _ _
theorem combI_zero (ws : List F) (M : List (List F)) : combI ws M 0 = zeroL 8 := by
  apply nth_ext (by rw [combI_length]; rfl)
  intro k hk
  rw [combI_length] at hk
  unfold combI
  rw [nth_mkr _ hk]
  have : ∀ k : Fin 8, nth (zeroL 8) k.1 = 0 := by decide +kernel
  exact (this ⟨k, hk⟩).symm
theorem combI_all {ws : List F} {M : List (List F)} : combI ws M ws.length = comb ws M := rfl
theorem combI_step {ws : List F} {M : List (List F)} {i k : Nat} (hk : k < 8) : nth (combI ws M (i + 1)) k = nth (combI ws M i) k ^^^ Gf.mul (nth ws i) (ent M i k) := by
  unfold combI
  rw [nth_mkr _ hk, nth_mkr _ hk, sumF_succ]
theorem zero_row8 (W : World) (t : TypeId) : (W.alloc (.cells #[.int .u8 0, .int .u8 0, .int .u8 0, .int .u8 0, .int .u8 0, .int .u8 0, .int .u8 0, .int .u8 0] t)).rowIs W.heap.size t 8 (bytes (zeroL 8)) :=
  agc_row W (x := zeroL 8) rfl t
section
variable {p q : Nat → Prop} {w w' : World} {A B : Option Addr} {n c m d : Nat} {M : List (List F)} {ws : List F}
theorem two_zero (w : World) : ((w.alloc (.cells #[.int .u8 0, .int .u8 0, .int .u8 0, .int .u8 0, .int .u8 0, .int .u8 0, .int .u8 0, .int .u8 0] 64)).alloc (.cells #[.int .u8 0, .int .u8 0, .int .u8 0, .int .u8 0, .int .u8 0, .int .u8 0, .int .u8 0, .int .u8 0] 64)).rowIs w.heap.size 64 8 (bytes (zeroL 8)) ∧
    ((w.alloc (.cells #[.int .u8 0, .int .u8 0, .int .u8 0, .int .u8 0, .int .u8 0, .int .u8 0, .int .u8 0, .int .u8 0] 64)).alloc (.cells #[.int .u8 0, .int .u8 0, .int .u8 0, .int .u8 0, .int .u8 0, .int .u8 0, .int .u8 0, .int .u8 0] 64)).rowIs (w.heap.size + 1) 64 8 (bytes (zeroL 8)) ∧
    Below w.heap.size w ((w.alloc (.cells #[.int .u8 0, .int .u8 0, .int .u8 0, .int .u8 0, .int .u8 0, .int .u8 0, .int .u8 0, .int .u8 0] 64)).alloc (.cells #[.int .u8 0, .int .u8 0, .int .u8 0, .int .u8 0, .int .u8 0, .int .u8 0, .int .u8 0, .int .u8 0] 64)) := by
  have r1 := zero_row8 w 64
  have r2 := zero_row8 (w.alloc (.cells #[.int .u8 0, .int .u8 0, .int .u8 0, .int .u8 0, .int .u8 0, .int .u8 0, .int .u8 0, .int .u8 0] 64)) 64
  rw [size_alloc1] at r2
  exact ⟨r1.alloc _, r2, ((Below.refl _ _).alloc (Nat.le_refl _) _).alloc (by simp) _⟩
theorem z8 : (zeroL 8).length = 8 := rfl
set_option maxRecDepth 100000 in
set_option maxHeartbeats 1000000 in
theorem combine_arg (h : Byt p w A n c ws) (g : Blks q w B m d M) (hne : ¬ n = m) : Calls Try.prog 68 #[.slice A n c, .slice B m d] w fun e w' => e = .returned (.tuple #[.agg (agc (zeroL 8)), .int .i64 1]) ∧ Below w.heap.size w w' := by
  have hn := h.row.len
  have hm := g.len
  have ht : ((n : Int) != (m : Int)) = true := by simp; omega
  obtain ⟨r4, r6, hb⟩ := two_zero w
  replace hne := Lib.hid hne
  go_enter Try.func68, Try.ntmps68
  go_wp2_with (first | (with_reducible refine wpl_load_agg rfl rfl rfl Try.underlying64 rfl (info64' z8) (fun k hk => row_agc r6 z8 hk) ?_) | (with_reducible refine wpl_store_agg rfl rfl rfl rfl r4 (info64' z8) (by rw [agc_size, z8]; decide) (agc_one _) ?_; intro w2 hr5 hg5 hz5))
  have hb5 := hb.grown hg5 hb.size (fun k e => by cases e; omega)
  have hr6 := row_put z8 hr5
  exact bodyPost_ret (v := .tuple #[.agg (agc (zeroL 8)), .int .i64 1]) (results_cell_agg_tmp Try.results68 _ rfl Try.underlying64 rfl (info64' z8) (fun k hk => row_agc hr6 z8 hk)) rfl ⟨rfl, hb5⟩
set_option maxRecDepth 100000 in
set_option maxHeartbeats 2000000 in
theorem combine_any (h : Byt p w A n c ws) (g : Blks q w B n d M) (hn40 : n ≤ 65536) : Calls Try.prog 68 #[.slice A n c, .slice B n d] w fun e w' => e = .returned (.tuple #[.agg (agc (comb ws M)), .int .i64 0]) ∧ Below w.heap.size w w' := by
  have hn := h.row.len
  have hwl := Lib.hid h.len
  have ht : ((n : Int) != (n : Int)) = false := by simp
  have hf : ∀ i, (combI ws M i).length = 8 := fun i => combI_length ws M i
  replace hf := Lib.hid hf
  obtain ⟨r4, r6, hb⟩ := two_zero w
  have hs2 := hb.size
  go_enter Try.func68, Try.ntmps68
  go_wp2
  go_loopw [18] (fun x wr => ∃ i : Nat, i ≤ n ∧ x = .int .i64 i ∧ wr.rowIs (w.heap.size + 1) 64 8 (bytes (combI ws M i)) ∧ (∃ f, wr.rowIs w.heap.size 64 8 f) ∧ Below w.heap.size w wr) (fun x _ => n - (intOf x).toNat)
  case atStart => exact ⟨0, by omega, rfl, by rw [combI_zero]; exact r6, ⟨_, r4⟩, hb⟩
  case round =>
    obtain ⟨i, hi, rfl, hr6, ⟨f4, hr4⟩, hbw⟩ := hrel
    obtain ⟨wo, rfl⟩ : ∃ wo : World, wo = wr := ⟨_, rfl⟩
    by_cases hlti : i < n
    · obtain ⟨b1, o1, rfl, _, hlt1, hc1⟩ := h.at_ (by omega)
      obtain ⟨b2, o2, rfl, _, hlt2, hc2⟩ := g.agg (by omega)
      have hx := g.row hlti
      have e2 : Hid (∀ k, k < (agc (mrow M i)).size → wo.cell? ⟨b2, o2 + i * 8 + k, none⟩ = (agc (mrow M i))[k]?) := fun k hk => (hbw.cell (p := ⟨b2, o2 + i * 8 + k, none⟩) hlt2).trans (hc2 i hlti k (by rwa [agc_size, hx] at hk))
      have hr8 := zero_row8 wo 64
      have d1 : (0 : Int) ≤ (i : Int) := Int.natCast_nonneg _
      have d2 : (i : Int) < (n : Int) := by omega
      have hc1i := hc1 i hlti
      clear hc1 hc2
      replace hc1i := Lib.hid hc1i
      have hsw := hbw.size
      have hg6 := hr6.lt
      have hg4 := hr4.lt
      replace hr4 := Lib.hid hr4
      replace hr6 := Lib.hid hr6
      go_wp2_with (first | (with_reducible refine wpl_load_agg rfl rfl rfl Try.underlying64 rfl (info64' hx) e2.out ?_) | (with_reducible refine wpl_store_agg rfl rfl rfl rfl hr8 (info64' hx) (by rw [agc_size, hx]; decide) (agc_one _) ?_; intro w4 hr84 hg84 hz84))
      have hb4 : Below wo.heap.size wo w4 := (((Below.refl _ wo).alloc (Nat.le_refl _) _).grown hg84 (by simp) (fun k e => by cases e; exact Nat.le_refl _))
      have hB4 := below_then2 hbw hb4
      have hr8' := row_put hx hr84
      have hr64 := hr6.out.of_block (hb4.block _ hg6)
      have hr44 := hr4.out.of_block (hb4.block _ hg4)
      have hne8 : w.heap.size + 1 ≠ wo.heap.size := by omega
      have hne4 : w.heap.size ≠ wo.heap.size := by omega
      go_loopw [23] (fun x ws' => ∃ k : Nat, k ≤ 8 ∧ x = .int .i64 k ∧ ws'.rowIs (w.heap.size + 1) 64 8 (upto k (bytes (combI ws M (i + 1))) (bytes (combI ws M i))) ∧ ws'.rowIs wo.heap.size 64 8 (bytes (mrow M i)) ∧ (∃ f, ws'.rowIs w.heap.size 64 8 f) ∧ Below w.heap.size w ws') (fun x _ => 8 - (intOf x).toNat)
      case atStart => exact ⟨0, by omega, rfl, by rw [upto_zero]; exact hr64, hr8', ⟨_, hr44⟩, hB4⟩
      case round =>
        obtain ⟨k, hk, rfl, q6, q8, ⟨f, q4⟩, hbs⟩ := hrel
        by_cases hltk : k < 8
        · have e1 : wr.cell? ⟨w.heap.size + 1, k, none⟩ = some (.int .u8 ((nth (combI ws M i) k).toNat : Int)) := by rw [q6.cell hltk, upto_at]; rfl
          have e3 : wr.cell? ⟨wo.heap.size, k, none⟩ = some (.int .u8 ((nth (mrow M i) k).toNat : Int)) := q8.cell hltk
          have e5 : wr.cell? ⟨b1, o1 + i, none⟩ = some (.int .u8 ((nth ws i).toNat : Int)) := (hbs.cell (p := ⟨b1, o1 + i, none⟩) hlt1).trans hc1i.out
          have e4 := q6.frozen k
          have d3 : (0 : Int) ≤ (k : Int) := Int.natCast_nonneg _
          have d4 : (k : Int) < 8 := by omega
          have hxr := u8_xor_F (nth (combI ws M i) k) (Gf.mul (nth ws i) (nth (mrow M i) k))
          replace q6 := Lib.hid q6
          replace q8 := Lib.hid q8
          replace q4 := Lib.hid q4
          go_wp2
          go_region_law (first | (go_simp; go_at_call 99; refine (mul_any _ _ _).mono ?_; rintro e w2 ⟨rfl, rfl⟩))
          all_goals
            go_wp2
            go_roundw
            case rel =>
              exact ⟨k + 1, by omega, by go_num, (rowIs_upto_set q6.out (by unfold bytes; rw [combI_step hltk, UInt8.toNat_xor]; rfl)).drew, (q8.out.setOther (Ne.symm hne8) _).drew, ⟨_, (q4.out.setOther (by simp) _).drew⟩, (hbs.setCell (Nat.le_succ _) _).drew⟩
            case measure => simp [intOf]; omega
        · obtain rfl : k = 8 := by omega
          have hr9 : wr.rowIs (w.heap.size + 1) 64 8 (bytes (combI ws M (i + 1))) := q6.congr fun j hj => upto_lt hj _ _
          go_wp2
          go_roundw
          case rel => exact ⟨i + 1, by omega, by go_num, hr9, ⟨_, q4⟩, hbs⟩
          case measure => simp [intOf]; omega
    · obtain rfl : i = n := by omega
      have hwi : Hid (combI ws M i = comb ws M) := by
        show _ = _
        rw [← hwl.out]
        rfl
      have hfi := hf.out i
      go_wp2_with (first | (with_reducible refine wpl_load_agg rfl rfl rfl Try.underlying64 rfl (info64' hfi) (fun k hk => row_agc hr6 hfi hk) ?_) | (with_reducible refine wpl_store_agg rfl rfl rfl rfl hr4 (info64' hfi) (by rw [agc_size, hfi]; decide) (agc_one _) ?_; intro w2 hr5 hg5 hz5))
      have hb5 := hbw.grown hg5 hbw.size (fun k e => by cases e; omega)
      have hr7 := row_put hfi hr5
      rw [hwi.out] at hr7 hfi
      exact bodyPost_ret (v := .tuple #[.agg (agc (comb ws M)), .int .i64 0]) (results_cell_agg_tmp Try.results68 _ rfl Try.underlying64 rfl (info64' hfi) (fun k hk => row_agc hr7 hfi hk)) rfl ⟨rfl, hb5⟩
end
end Go.Proofs.Ytifhjigkljdkmaa
