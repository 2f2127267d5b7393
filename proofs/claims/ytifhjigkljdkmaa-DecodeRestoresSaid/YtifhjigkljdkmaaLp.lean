/- decode.Locate: the paths to its loop. -/
import Derived.Test.YtifhjigkljdkmaaLo
namespace Go.Proofs.Ytifhjigkljdkmaa
open Go.RowKit
open Gf (F)
set_option linter.unusedSimpArgs false
set_option linter.unusedVariables false
section
variable {p q : Nat → Prop} {w : World} {A : Option Addr} {n c wd : Nat} {M : List (List F)}
set_option maxRecDepth 100000 in
set_option maxHeartbeats 4000000 in
theorem loc_010 (h4 : 4 ≤ wd) (h16 : wd ≤ 16) (hn : n = wd - 3) (h : Blks p w A wd c M) (h0 : mrow (synM M) 0 ≠ zeroL 8) (h1 : mrow (synM M) 1 = zeroL 8) (h2 : mrow (synM M) 2 ≠ zeroL 8) : Calls Try.prog 80 #[.slice A wd c] w fun e w' => ∃ r er, e = .returned (.tuple #[.int .i64 r, .int .i64 er]) ∧ LocRes n M r er ∧ Below w.heap.size w w' := by
  have e3 : (wd : Int) - 3 = (n : Int) := by omega
  have hn13 : n ≤ 13 := by omega
  have hl0 := synM_row M (j := 0) (by decide)
  have hr0 := fun w => eql64 hl0 z8 w
  rw [decide_eq_false h0] at hr0
  have hl1 := synM_row M (j := 1) (by decide)
  have hr1 := fun w => eql64 hl1 z8 w
  rw [decide_eq_true h1] at hr1
  have hl2 := synM_row M (j := 2) (by decide)
  have hr2 := fun w => eql64 hl2 z8 w
  rw [decide_eq_false h2] at hr2
  have hs0 := Lib.hid h0
  have hs1 := Lib.hid h1
  have hs2 := Lib.hid h2
  have hs12 := Lib.hid (show ¬ (mrow (synM M) 1 = zeroL 8 ∧ mrow (synM M) 2 = zeroL 8) from fun e => h2 e.2)
  clear h0 h1 h2
  replace hn := Lib.hid hn
  go_enter Try.func80, Try.ntmps80
  go_wp2_with (go_at_call 76; (with_reducible refine (syn_any h4 h16 h).mono ?_); rintro e w1 ⟨g, rfl, hg, hsy, hb1⟩)
  have hz1 := zero_row8 w1 64
  have hba : Below w1.heap.size w1 (w1.alloc (.cells #[.int .u8 0, .int .u8 0, .int .u8 0, .int .u8 0, .int .u8 0, .int .u8 0, .int .u8 0, .int .u8 0] 64)) := (Below.refl _ _).alloc (Nat.le_refl _) _
  have hS : SynAt (w1.alloc (.cells #[.int .u8 0, .int .u8 0, .int .u8 0, .int .u8 0, .int .u8 0, .int .u8 0, .int .u8 0, .int .u8 0] 64)) g w1.heap.size M := ⟨hsy.below hba, hz1⟩
  have hB := below_then2 hb1 hba
  obtain ⟨gz, hgz⟩ : ∃ gz, gz = w1.heap.size := ⟨_, rfl⟩
  obtain ⟨wa, hwa⟩ : ∃ wa, wa = w1.alloc (.cells #[.int .u8 0, .int .u8 0, .int .u8 0, .int .u8 0, .int .u8 0, .int .u8 0, .int .u8 0, .int .u8 0] 64) := ⟨_, rfl⟩
  rw [← hwa, ← hgz] at hS ⊢
  rw [← hwa] at hB
  clear hwa hgz hba hz1 hsy
  obtain ⟨e0, e1, e2, ez⟩ := hS.cells
  refine wp_region_quiet_lit (by kernel_rfl) (by kernel_rfl) ?_
  quiet_step (fail)
  quiet_step (fail)
  refine BigFrame.wpQuiet_want rfl (fun K hK => ?_)
  refine quiet_load_agg rfl rfl Try.underlying64 rfl (info64' hl0) (fun k hk => e0 k (by rwa [agc_size, hl0] at hk)) ?_
  refine hK _ ?_
  clear hK K
  simp only [Act.put, List.setIfInBounds_toArray, List.set_cons_zero, List.set_cons_succ]
  refine BigFrame.wpQuiet_want rfl (fun K hK => ?_)
  refine quiet_load_agg rfl rfl Try.underlying64 rfl (info64' z8) (fun k hk => ez k (by rwa [agc_size, z8] at hk)) ?_
  refine hK _ ?_
  clear hK K
  simp only [Act.put, List.setIfInBounds_toArray, List.set_cons_zero, List.set_cons_succ]
  refine BigFrame.wpQuiet_want rfl (fun K hK => ?_)
  refine quiet_bin rfl rfl rfl (guard64 _ _ _ _ _) hr0 ?_
  refine hK _ ?_
  clear hK K
  simp only [Act.put, List.setIfInBounds_toArray, List.set_cons_zero, List.set_cons_succ]
  quiet_step (fail)
  quiet_step (fail)
  quiet_step (fail)
  quiet_step (fail)
  quiet_step (fail)
  quiet_step (fail)
  quiet_step (fail)
  quiet_step (fail)
  quiet_step (fail)
  quiet_step (fail)
  quiet_step (fail)
  quiet_step (fail)
  quiet_step (fail)
  quiet_step (fail)
  quiet_step (fail)
  refine wpQuiet_nil ?_
  intro _ hw'
  obtain ⟨nq, hw''⟩ := hw'
  subst hw''
  skip
  obtain ⟨wq, hq⟩ : ∃ wq, wq = wa.drewN nq := ⟨_, rfl⟩
  replace hS := (show SynAt wq g gz M from hq ▸ hS.drewN nq)
  replace hB := (show Below w.heap.size w wq from hq ▸ below_drewN hB nq)
  rw [← hq]
  clear hq e0 e1 e2 ez
  obtain ⟨e0, e1, e2, ez⟩ := hS.cells
  obtain ⟨wq0, rfl⟩ : ∃ x : World, x = wq := ⟨_, rfl⟩
  go_wp2
  refine wp_region_quiet_lit (by kernel_rfl) (by kernel_rfl) ?_
  quiet_step (fail)
  quiet_step (fail)
  refine BigFrame.wpQuiet_want rfl (fun K hK => ?_)
  refine quiet_load_agg rfl rfl Try.underlying64 rfl (info64' hl1) (fun k hk => e1 k (by rwa [agc_size, hl1] at hk)) ?_
  refine hK _ ?_
  clear hK K
  simp only [Act.put, List.setIfInBounds_toArray, List.set_cons_zero, List.set_cons_succ]
  refine BigFrame.wpQuiet_want rfl (fun K hK => ?_)
  refine quiet_load_agg rfl rfl Try.underlying64 rfl (info64' z8) (fun k hk => ez k (by rwa [agc_size, z8] at hk)) ?_
  refine hK _ ?_
  clear hK K
  simp only [Act.put, List.setIfInBounds_toArray, List.set_cons_zero, List.set_cons_succ]
  refine BigFrame.wpQuiet_want rfl (fun K hK => ?_)
  refine quiet_bin rfl rfl rfl (guard64 _ _ _ _ _) hr1 ?_
  refine hK _ ?_
  clear hK K
  simp only [Act.put, List.setIfInBounds_toArray, List.set_cons_zero, List.set_cons_succ]
  quiet_step (fail)
  quiet_step (fail)
  quiet_step (fail)
  refine BigFrame.wpQuiet_want rfl (fun K hK => ?_)
  refine quiet_load_agg rfl rfl Try.underlying64 rfl (info64' hl2) (fun k hk => e2 k (by rwa [agc_size, hl2] at hk)) ?_
  refine hK _ ?_
  clear hK K
  simp only [Act.put, List.setIfInBounds_toArray, List.set_cons_zero, List.set_cons_succ]
  refine BigFrame.wpQuiet_want rfl (fun K hK => ?_)
  refine quiet_load_agg rfl rfl Try.underlying64 rfl (info64' z8) (fun k hk => ez k (by rwa [agc_size, z8] at hk)) ?_
  refine hK _ ?_
  clear hK K
  simp only [Act.put, List.setIfInBounds_toArray, List.set_cons_zero, List.set_cons_succ]
  refine BigFrame.wpQuiet_want rfl (fun K hK => ?_)
  refine quiet_bin rfl rfl rfl (guard64 _ _ _ _ _) hr2 ?_
  refine hK _ ?_
  clear hK K
  simp only [Act.put, List.setIfInBounds_toArray, List.set_cons_zero, List.set_cons_succ]
  quiet_step (fail)
  quiet_step (fail)
  refine wpQuiet_nil ?_
  intro _ hw'
  obtain ⟨nq, hw''⟩ := hw'
  subst hw''
  skip
  obtain ⟨wq, hq⟩ : ∃ wq, wq = wq0.drewN nq := ⟨_, rfl⟩
  replace hS := (show SynAt wq g gz M from hq ▸ hS.drewN nq)
  replace hB := (show Below w.heap.size w wq from hq ▸ below_drewN hB nq)
  rw [← hq]
  clear hq e0 e1 e2 ez
  obtain ⟨e0, e1, e2, ez⟩ := hS.cells
  obtain ⟨wq1, rfl⟩ : ∃ x : World, x = wq := ⟨_, rfl⟩
  go_wp2
  refine wp_region_quiet_lit (by kernel_rfl) (by kernel_rfl) ?_
  quiet_step (fail)
  quiet_step (fail)
  refine BigFrame.wpQuiet_want rfl (fun K hK => ?_)
  refine quiet_load_agg rfl rfl Try.underlying64 rfl (info64' hl0) (fun k hk => e0 k (by rwa [agc_size, hl0] at hk)) ?_
  refine hK _ ?_
  clear hK K
  simp only [Act.put, List.setIfInBounds_toArray, List.set_cons_zero, List.set_cons_succ]
  refine BigFrame.wpQuiet_want rfl (fun K hK => ?_)
  refine quiet_load_agg rfl rfl Try.underlying64 rfl (info64' z8) (fun k hk => ez k (by rwa [agc_size, z8] at hk)) ?_
  refine hK _ ?_
  clear hK K
  simp only [Act.put, List.setIfInBounds_toArray, List.set_cons_zero, List.set_cons_succ]
  refine BigFrame.wpQuiet_want rfl (fun K hK => ?_)
  refine quiet_bin rfl rfl rfl (guard64 _ _ _ _ _) hr0 ?_
  refine hK _ ?_
  clear hK K
  simp only [Act.put, List.setIfInBounds_toArray, List.set_cons_zero, List.set_cons_succ]
  quiet_step (fail)
  quiet_step (fail)
  quiet_step (fail)
  quiet_step (fail)
  quiet_step (fail)
  quiet_step (fail)
  quiet_step (fail)
  quiet_step (fail)
  refine wpQuiet_nil ?_
  intro _ hw'
  obtain ⟨nq, hw''⟩ := hw'
  subst hw''
  skip
  obtain ⟨wq, hq⟩ : ∃ wq, wq = wq1.drewN nq := ⟨_, rfl⟩
  replace hS := (show SynAt wq g gz M from hq ▸ hS.drewN nq)
  replace hB := (show Below w.heap.size w wq from hq ▸ below_drewN hB nq)
  rw [← hq]
  clear hq e0 e1 e2 ez
  obtain ⟨e0, e1, e2, ez⟩ := hS.cells
  obtain ⟨wq2, rfl⟩ : ∃ x : World, x = wq := ⟨_, rfl⟩
  go_wp2
  refine wp_region_quiet_lit (by kernel_rfl) (by kernel_rfl) ?_
  quiet_step (fail)
  quiet_step (fail)
  refine BigFrame.wpQuiet_want rfl (fun K hK => ?_)
  refine quiet_load_agg rfl rfl Try.underlying64 rfl (info64' hl0) (fun k hk => e0 k (by rwa [agc_size, hl0] at hk)) ?_
  refine hK _ ?_
  clear hK K
  simp only [Act.put, List.setIfInBounds_toArray, List.set_cons_zero, List.set_cons_succ]
  refine BigFrame.wpQuiet_want rfl (fun K hK => ?_)
  refine quiet_load_agg rfl rfl Try.underlying64 rfl (info64' z8) (fun k hk => ez k (by rwa [agc_size, z8] at hk)) ?_
  refine hK _ ?_
  clear hK K
  simp only [Act.put, List.setIfInBounds_toArray, List.set_cons_zero, List.set_cons_succ]
  refine BigFrame.wpQuiet_want rfl (fun K hK => ?_)
  refine quiet_bin rfl rfl rfl (guard64 _ _ _ _ _) hr0 ?_
  refine hK _ ?_
  clear hK K
  simp only [Act.put, List.setIfInBounds_toArray, List.set_cons_zero, List.set_cons_succ]
  quiet_step (fail)
  quiet_step (fail)
  quiet_step (fail)
  quiet_step (fail)
  quiet_step (fail)
  quiet_step (fail)
  quiet_step (fail)
  quiet_step (fail)
  refine wpQuiet_nil ?_
  intro _ hw'
  obtain ⟨nq, hw''⟩ := hw'
  subst hw''
  skip
  obtain ⟨wq, hq⟩ : ∃ wq, wq = wq2.drewN nq := ⟨_, rfl⟩
  replace hS := (show SynAt wq g gz M from hq ▸ hS.drewN nq)
  replace hB := (show Below w.heap.size w wq from hq ▸ below_drewN hB nq)
  rw [← hq]
  clear hq e0 e1 e2 ez
  obtain ⟨e0, e1, e2, ez⟩ := hS.cells
  obtain ⟨wq3, rfl⟩ : ∃ x : World, x = wq := ⟨_, rfl⟩
  go_wp2
  refine wp_region_quiet_lit (by kernel_rfl) (by kernel_rfl) ?_
  quiet_step (fail)
  quiet_step (fail)
  refine BigFrame.wpQuiet_want rfl (fun K hK => ?_)
  refine quiet_load_agg rfl rfl Try.underlying64 rfl (info64' hl0) (fun k hk => e0 k (by rwa [agc_size, hl0] at hk)) ?_
  refine hK _ ?_
  clear hK K
  simp only [Act.put, List.setIfInBounds_toArray, List.set_cons_zero, List.set_cons_succ]
  refine BigFrame.wpQuiet_want rfl (fun K hK => ?_)
  refine quiet_load_agg rfl rfl Try.underlying64 rfl (info64' z8) (fun k hk => ez k (by rwa [agc_size, z8] at hk)) ?_
  refine hK _ ?_
  clear hK K
  simp only [Act.put, List.setIfInBounds_toArray, List.set_cons_zero, List.set_cons_succ]
  refine BigFrame.wpQuiet_want rfl (fun K hK => ?_)
  refine quiet_bin rfl rfl rfl (guard64 _ _ _ _ _) hr0 ?_
  refine hK _ ?_
  clear hK K
  simp only [Act.put, List.setIfInBounds_toArray, List.set_cons_zero, List.set_cons_succ]
  quiet_step (fail)
  refine wpQuiet_nil ?_
  intro _ hw'
  obtain ⟨nq, hw''⟩ := hw'
  subst hw''
  skip
  obtain ⟨wq, hq⟩ : ∃ wq, wq = wq3.drewN nq := ⟨_, rfl⟩
  replace hS := (show SynAt wq g gz M from hq ▸ hS.drewN nq)
  replace hB := (show Below w.heap.size w wq from hq ▸ below_drewN hB nq)
  rw [← hq]
  clear hq e0 e1 e2 ez
  obtain ⟨e0, e1, e2, ez⟩ := hS.cells
  obtain ⟨wq4, rfl⟩ : ∃ x : World, x = wq := ⟨_, rfl⟩
  go_wp2
  go_loopw [91] (fun x wr => ∃ i : Nat, i ≤ n ∧ x = .int .i64 i ∧ SynAt wr g gz M ∧ (∀ j, j < i → locB M j = false) ∧ Below w.heap.size w wr) (fun x _ => n - (intOf x).toNat)
  case atStart => exact ⟨0, by omega, rfl, hS, fun j hj => absurd hj (Nat.not_lt_zero _), hB⟩
  case round =>
    obtain ⟨i, hi, rfl, hS, hall, hB⟩ := hrel
    replace hall := Lib.hid hall
    by_cases hlti : i < n
    · have d1 : (0 : Int) ≤ (i : Int) := Int.natCast_nonneg _
      have d2 : (i : Int) < (n : Int) := by omega
      have hx1 : ∀ w, Calls Try.prog 120 #[.int .i64 (i : Int)] w fun e w' => e = .returned (.int .u8 ((Gf.pow 2 i).toNat : Int)) ∧ w = w' := fun w => exp_any i (by omega) w
      have hx2 : ∀ w, Calls Try.prog 120 #[.int .i64 (IntKind.i64.wrap (2 * (i : Int)))] w fun e w' => e = .returned (.int .u8 ((Gf.pow 2 (2 * i)).toNat : Int)) ∧ w = w' := fun w => by rw [IntWalk.i64_in _ (by omega)]; have := exp_any (2 * i) (by omega) w; rwa [Int.natCast_mul] at this
      have hc1 := fun w => eql64 hl1 (sclB_length (Gf.pow 2 i) (mrow (synM M) 0)) w
      have hc2 := fun w => eql64 hl2 (sclB_length (Gf.pow 2 (2 * i)) (mrow (synM M) 0)) w
      by_cases k1 : mrow (synM M) 1 = sclB (Gf.pow 2 i) (mrow (synM M) 0)
      · rw [decide_eq_true k1] at hc1
        by_cases k2 : mrow (synM M) 2 = sclB (Gf.pow 2 (2 * i)) (mrow (synM M) 0)
        · rw [decide_eq_true k2] at hc2
          have hyes := Lib.hid (show locB M i = true by unfold locB; rw [decide_eq_true k1, decide_eq_true k2]; rfl)
          replace k1 := Lib.hid k1
          replace k2 := Lib.hid k2
          go_wp2
          refine AnyE.region (fun w' => SynAt w' g gz M) 22 (by kernel_rfl) ?_
          have hH : SynAt wr.drew g gz M := hS.drewN 1
          replace hB : Below w.heap.size w wr.drew := below_drewN hB 1
          refine AnyE.take0 0 (v := ?_) rfl (by decide) (by kernel_rfl) (by kernel_rfl) (by kernel_rfl) (by kernel_rfl) (fun _ _ _ h => h) (by rfl) (fun _ => hH) ?_ ?_
          rotate_left; · (intro w; go_simp; try with_reducible rfl)
          (try simp only [List.getElem_toArray, List.getElem_cons_succ, List.getElem_cons_zero, Act.put, List.setIfInBounds_toArray, List.set_cons_zero, List.set_cons_succ])
          refine AnyE.take0 1 (v := ?_) rfl (by decide) (by kernel_rfl) (by kernel_rfl) (by kernel_rfl) (by kernel_rfl) (fun _ _ _ h => h) (by rfl) (fun _ => hH) ?_ ?_
          rotate_left; · (intro w; go_simp; try with_reducible rfl)
          (try simp only [List.getElem_toArray, List.getElem_cons_succ, List.getElem_cons_zero, Act.put, List.setIfInBounds_toArray, List.set_cons_zero, List.set_cons_succ])
          refine AnyE.take 2 [10, 9, 2] (v := ?_) rfl (by decide) (by kernel_rfl) (by kernel_rfl) (by kernel_rfl) (by kernel_rfl) (by kernel_rfl) (by kernel_rfl) (fun _ _ _ h => h) (by rfl) hH ?_ ?_
          rotate_left; · (intro w hSw; simp only [List.getElem_toArray, List.getElem_cons_succ, List.getElem_cons_zero, Act.put, List.setIfInBounds_toArray, List.set_cons_zero, List.set_cons_succ]; refine exec_load_agg (x := .tmp 95) (b := g) (off := 8) ?_ ?_ Try.underlying64 rfl (info64' hl1) (fun k hk => hSw.row1 (by rwa [agc_size, hl1] at hk)); rfl; rfl)
          (try simp only [List.getElem_toArray, List.getElem_cons_succ, List.getElem_cons_zero, Act.put, List.setIfInBounds_toArray, List.set_cons_zero, List.set_cons_succ])
          refine AnyE.take0 3 (v := ?_) rfl (by decide) (by kernel_rfl) (by kernel_rfl) (by kernel_rfl) (by kernel_rfl) (fun _ _ _ h => h) (by rfl) (fun _ => hH) ?_ ?_
          rotate_left; · (intro w; go_simp; try with_reducible rfl)
          (try simp only [List.getElem_toArray, List.getElem_cons_succ, List.getElem_cons_zero, Act.put, List.setIfInBounds_toArray, List.set_cons_zero, List.set_cons_succ])
          refine AnyE.take0 4 (v := ?_) rfl (by decide) (by kernel_rfl) (by kernel_rfl) (by kernel_rfl) (by kernel_rfl) (fun _ _ _ h => h) (by rfl) (fun _ => hH) ?_ ?_
          rotate_left; · (intro w; go_simp; try with_reducible rfl)
          (try simp only [List.getElem_toArray, List.getElem_cons_succ, List.getElem_cons_zero, Act.put, List.setIfInBounds_toArray, List.set_cons_zero, List.set_cons_succ])
          refine AnyE.take 5 [10, 8, 5] (v := ?_) rfl (by decide) (by kernel_rfl) (by kernel_rfl) (by kernel_rfl) (by kernel_rfl) (by kernel_rfl) (by kernel_rfl) (fun _ _ _ h => h) (by rfl) hH ?_ ?_
          rotate_left; · (intro w hSw; simp only [List.getElem_toArray, List.getElem_cons_succ, List.getElem_cons_zero, Act.put, List.setIfInBounds_toArray, List.set_cons_zero, List.set_cons_succ]; refine exec_load_agg (x := .tmp 98) (b := g) (off := 0) ?_ ?_ Try.underlying64 rfl (info64' hl0) (fun k hk => hSw.row0 (by rwa [agc_size, hl0] at hk)); rfl; rfl)
          (try simp only [List.getElem_toArray, List.getElem_cons_succ, List.getElem_cons_zero, Act.put, List.setIfInBounds_toArray, List.set_cons_zero, List.set_cons_succ])
          refine AnyE.take0 6 (v := ?_) rfl (by decide) (by kernel_rfl) (by kernel_rfl) (by kernel_rfl) (by kernel_rfl) (fun _ _ _ h => h) (by rfl) (fun _ => hH) ?_ ?_
          rotate_left; · (intro w; go_simp; try with_reducible rfl)
          (try simp only [List.getElem_toArray, List.getElem_cons_succ, List.getElem_cons_zero, Act.put, List.setIfInBounds_toArray, List.set_cons_zero, List.set_cons_succ])
          refine AnyE.one 7 rfl (by kernel_rfl) (fun K hK => ?_)
          rw [if_pos (show _ = true by rfl)]
          go_simp
          go_at_call 120
          (with_reducible refine (hx1 _).mono ?_); rintro e wx ⟨rfl, rfl⟩
          refine hK.out _ _ (fun _ => hH) ?_
          clear hK K
          (try simp only [List.getElem_toArray, List.getElem_cons_succ, List.getElem_cons_zero, Act.put, List.setIfInBounds_toArray, List.set_cons_zero, List.set_cons_succ])
          refine AnyE.one 8 rfl (by kernel_rfl) (fun K hK => ?_)
          rw [if_pos (show _ = true by rfl)]
          go_simp
          go_at_call 119
          (with_reducible refine (times_any _ hl0 _).mono ?_); rintro e w8 ⟨rfl, hb8⟩
          replace hH := hH.below hb8
          replace hB := below_then2 hB hb8
          refine hK.out _ _ (fun _ => hH) ?_
          clear hK K
          (try simp only [List.getElem_toArray, List.getElem_cons_succ, List.getElem_cons_zero, Act.put, List.setIfInBounds_toArray, List.set_cons_zero, List.set_cons_succ])
          refine AnyE.take0 9 (v := ?_) rfl (by decide) (by kernel_rfl) (by kernel_rfl) (by kernel_rfl) (by kernel_rfl) (fun _ _ _ h => h) (by rfl) (fun _ => hH) ?_ ?_
          rotate_left; · (intro w; simp only [List.getElem_toArray, List.getElem_cons_succ, List.getElem_cons_zero, Act.put, List.setIfInBounds_toArray, List.set_cons_zero, List.set_cons_succ]; refine exec_bin (t2 := 64) (x := .tmp 96) (y := .tmp 102) (r := .bool true) hc1 (guard64 _ _ _ _ _) ?_ ?_ ?_; rfl; rfl; rfl)
          (try simp only [List.getElem_toArray, List.getElem_cons_succ, List.getElem_cons_zero, Act.put, List.setIfInBounds_toArray, List.set_cons_zero, List.set_cons_succ])
          refine AnyE.take0 10 (v := ?_) rfl (by decide) (by kernel_rfl) (by kernel_rfl) (by kernel_rfl) (by kernel_rfl) (fun _ _ _ h => h) (by rfl) (fun _ => hH) ?_ ?_
          rotate_left; · (intro w; go_simp; try with_reducible rfl)
          (try simp only [List.getElem_toArray, List.getElem_cons_succ, List.getElem_cons_zero, Act.put, List.setIfInBounds_toArray, List.set_cons_zero, List.set_cons_succ])
          refine AnyE.take0 11 (v := ?_) rfl (by decide) (by kernel_rfl) (by kernel_rfl) (by kernel_rfl) (by kernel_rfl) (fun _ _ _ h => h) (by rfl) (fun _ => hH) ?_ ?_
          rotate_left; · (intro w; go_simp; try with_reducible rfl)
          (try simp only [List.getElem_toArray, List.getElem_cons_succ, List.getElem_cons_zero, Act.put, List.setIfInBounds_toArray, List.set_cons_zero, List.set_cons_succ])
          refine AnyE.take0 12 (v := ?_) rfl (by decide) (by kernel_rfl) (by kernel_rfl) (by kernel_rfl) (by kernel_rfl) (fun _ _ _ h => h) (by rfl) (fun _ => hH) ?_ ?_
          rotate_left; · (intro w; go_simp; try with_reducible rfl)
          (try simp only [List.getElem_toArray, List.getElem_cons_succ, List.getElem_cons_zero, Act.put, List.setIfInBounds_toArray, List.set_cons_zero, List.set_cons_succ])
          refine AnyE.take 13 [21, 13] (v := ?_) rfl (by decide) (by kernel_rfl) (by kernel_rfl) (by kernel_rfl) (by kernel_rfl) (by kernel_rfl) (by kernel_rfl) (fun _ _ _ h => h) (by rfl) hH ?_ ?_
          rotate_left; · (intro w hSw; simp only [List.getElem_toArray, List.getElem_cons_succ, List.getElem_cons_zero, Act.put, List.setIfInBounds_toArray, List.set_cons_zero, List.set_cons_succ]; refine exec_load_agg (x := .tmp 106) (b := g) (off := 16) ?_ ?_ Try.underlying64 rfl (info64' hl2) (fun k hk => hSw.row2 (by rwa [agc_size, hl2] at hk)); rfl; rfl)
          (try simp only [List.getElem_toArray, List.getElem_cons_succ, List.getElem_cons_zero, Act.put, List.setIfInBounds_toArray, List.set_cons_zero, List.set_cons_succ])
          refine AnyE.take0 14 (v := ?_) rfl (by decide) (by kernel_rfl) (by kernel_rfl) (by kernel_rfl) (by kernel_rfl) (fun _ _ _ h => h) (by rfl) (fun _ => hH) ?_ ?_
          rotate_left; · (intro w; go_simp; try with_reducible rfl)
          (try simp only [List.getElem_toArray, List.getElem_cons_succ, List.getElem_cons_zero, Act.put, List.setIfInBounds_toArray, List.set_cons_zero, List.set_cons_succ])
          refine AnyE.take0 15 (v := ?_) rfl (by decide) (by kernel_rfl) (by kernel_rfl) (by kernel_rfl) (by kernel_rfl) (fun _ _ _ h => h) (by rfl) (fun _ => hH) ?_ ?_
          rotate_left; · (intro w; go_simp; try with_reducible rfl)
          (try simp only [List.getElem_toArray, List.getElem_cons_succ, List.getElem_cons_zero, Act.put, List.setIfInBounds_toArray, List.set_cons_zero, List.set_cons_succ])
          refine AnyE.take 16 [21, 20, 16] (v := ?_) rfl (by decide) (by kernel_rfl) (by kernel_rfl) (by kernel_rfl) (by kernel_rfl) (by kernel_rfl) (by kernel_rfl) (fun _ _ _ h => h) (by rfl) hH ?_ ?_
          rotate_left; · (intro w hSw; simp only [List.getElem_toArray, List.getElem_cons_succ, List.getElem_cons_zero, Act.put, List.setIfInBounds_toArray, List.set_cons_zero, List.set_cons_succ]; refine exec_load_agg (x := .tmp 109) (b := g) (off := 0) ?_ ?_ Try.underlying64 rfl (info64' hl0) (fun k hk => hSw.row0 (by rwa [agc_size, hl0] at hk)); rfl; rfl)
          (try simp only [List.getElem_toArray, List.getElem_cons_succ, List.getElem_cons_zero, Act.put, List.setIfInBounds_toArray, List.set_cons_zero, List.set_cons_succ])
          refine AnyE.take0 17 (v := ?_) rfl (by decide) (by kernel_rfl) (by kernel_rfl) (by kernel_rfl) (by kernel_rfl) (fun _ _ _ h => h) (by rfl) (fun _ => hH) ?_ ?_
          rotate_left; · (intro w; go_simp; try with_reducible rfl)
          (try simp only [List.getElem_toArray, List.getElem_cons_succ, List.getElem_cons_zero, Act.put, List.setIfInBounds_toArray, List.set_cons_zero, List.set_cons_succ])
          refine AnyE.take0 18 (v := ?_) rfl (by decide) (by kernel_rfl) (by kernel_rfl) (by kernel_rfl) (by kernel_rfl) (fun _ _ _ h => h) (by rfl) (fun _ => hH) ?_ ?_
          rotate_left; · (intro w; go_simp; try with_reducible rfl)
          (try simp only [List.getElem_toArray, List.getElem_cons_succ, List.getElem_cons_zero, Act.put, List.setIfInBounds_toArray, List.set_cons_zero, List.set_cons_succ])
          refine AnyE.one 19 rfl (by kernel_rfl) (fun K hK => ?_)
          rw [if_pos (show _ = true by rfl)]
          go_simp
          go_at_call 120
          (with_reducible refine (hx2 _).mono ?_); rintro e wx ⟨rfl, rfl⟩
          refine hK.out _ _ (fun _ => hH) ?_
          clear hK K
          (try simp only [List.getElem_toArray, List.getElem_cons_succ, List.getElem_cons_zero, Act.put, List.setIfInBounds_toArray, List.set_cons_zero, List.set_cons_succ])
          refine AnyE.one 20 rfl (by kernel_rfl) (fun K hK => ?_)
          rw [if_pos (show _ = true by rfl)]
          go_simp
          go_at_call 119
          (with_reducible refine (times_any _ hl0 _).mono ?_); rintro e w20 ⟨rfl, hb20⟩
          replace hH := hH.below hb20
          replace hB := below_then2 hB hb20
          refine hK.out _ _ (fun _ => hH) ?_
          clear hK K
          (try simp only [List.getElem_toArray, List.getElem_cons_succ, List.getElem_cons_zero, Act.put, List.setIfInBounds_toArray, List.set_cons_zero, List.set_cons_succ])
          refine AnyE.take0 21 (v := ?_) rfl (by decide) (by kernel_rfl) (by kernel_rfl) (by kernel_rfl) (by kernel_rfl) (fun _ _ _ h => h) (by rfl) (fun _ => hH) ?_ ?_
          rotate_left; · (intro w; simp only [List.getElem_toArray, List.getElem_cons_succ, List.getElem_cons_zero, Act.put, List.setIfInBounds_toArray, List.set_cons_zero, List.set_cons_succ]; refine exec_bin (t2 := 64) (x := .tmp 107) (y := .tmp 114) (r := .bool true) hc2 (guard64 _ _ _ _ _) ?_ ?_ ?_; rfl; rfl; rfl)
          (try simp only [List.getElem_toArray, List.getElem_cons_succ, List.getElem_cons_zero, Act.put, List.setIfInBounds_toArray, List.set_cons_zero, List.set_cons_succ])
          refine AnyE.one 22 rfl (by kernel_rfl) (fun K hK => ?_)
          go_simp
          refine hK.out _ _ (fun e => Bool.noConfusion (show true = false from e)) ?_
          clear hK K
          (try simp only [List.getElem_toArray, List.getElem_cons_succ, List.getElem_cons_zero, Act.put, List.setIfInBounds_toArray, List.set_cons_zero, List.set_cons_succ])
          refine AnyE.done (by kernel_rfl) ?_ _
          go_wp2
          go_ret2
          exact ⟨_, _, rfl, LocRes.found hs0.out hs12.out hlti hyes.out hall.out, hB⟩
        · rw [decide_eq_false k2] at hc2
          have hno := Lib.hid (show locB M i = false by unfold locB; rw [decide_eq_false k2, Bool.and_false])
          replace k1 := Lib.hid k1
          replace k2 := Lib.hid k2
          go_wp2
          refine AnyE.region (fun w' => SynAt w' g gz M) 22 (by kernel_rfl) ?_
          have hH : SynAt wr.drew g gz M := hS.drewN 1
          replace hB : Below w.heap.size w wr.drew := below_drewN hB 1
          refine AnyE.take0 0 (v := ?_) rfl (by decide) (by kernel_rfl) (by kernel_rfl) (by kernel_rfl) (by kernel_rfl) (fun _ _ _ h => h) (by rfl) (fun _ => hH) ?_ ?_
          rotate_left; · (intro w; go_simp; try with_reducible rfl)
          (try simp only [List.getElem_toArray, List.getElem_cons_succ, List.getElem_cons_zero, Act.put, List.setIfInBounds_toArray, List.set_cons_zero, List.set_cons_succ])
          refine AnyE.take0 1 (v := ?_) rfl (by decide) (by kernel_rfl) (by kernel_rfl) (by kernel_rfl) (by kernel_rfl) (fun _ _ _ h => h) (by rfl) (fun _ => hH) ?_ ?_
          rotate_left; · (intro w; go_simp; try with_reducible rfl)
          (try simp only [List.getElem_toArray, List.getElem_cons_succ, List.getElem_cons_zero, Act.put, List.setIfInBounds_toArray, List.set_cons_zero, List.set_cons_succ])
          refine AnyE.take 2 [10, 9, 2] (v := ?_) rfl (by decide) (by kernel_rfl) (by kernel_rfl) (by kernel_rfl) (by kernel_rfl) (by kernel_rfl) (by kernel_rfl) (fun _ _ _ h => h) (by rfl) hH ?_ ?_
          rotate_left; · (intro w hSw; simp only [List.getElem_toArray, List.getElem_cons_succ, List.getElem_cons_zero, Act.put, List.setIfInBounds_toArray, List.set_cons_zero, List.set_cons_succ]; refine exec_load_agg (x := .tmp 95) (b := g) (off := 8) ?_ ?_ Try.underlying64 rfl (info64' hl1) (fun k hk => hSw.row1 (by rwa [agc_size, hl1] at hk)); rfl; rfl)
          (try simp only [List.getElem_toArray, List.getElem_cons_succ, List.getElem_cons_zero, Act.put, List.setIfInBounds_toArray, List.set_cons_zero, List.set_cons_succ])
          refine AnyE.take0 3 (v := ?_) rfl (by decide) (by kernel_rfl) (by kernel_rfl) (by kernel_rfl) (by kernel_rfl) (fun _ _ _ h => h) (by rfl) (fun _ => hH) ?_ ?_
          rotate_left; · (intro w; go_simp; try with_reducible rfl)
          (try simp only [List.getElem_toArray, List.getElem_cons_succ, List.getElem_cons_zero, Act.put, List.setIfInBounds_toArray, List.set_cons_zero, List.set_cons_succ])
          refine AnyE.take0 4 (v := ?_) rfl (by decide) (by kernel_rfl) (by kernel_rfl) (by kernel_rfl) (by kernel_rfl) (fun _ _ _ h => h) (by rfl) (fun _ => hH) ?_ ?_
          rotate_left; · (intro w; go_simp; try with_reducible rfl)
          (try simp only [List.getElem_toArray, List.getElem_cons_succ, List.getElem_cons_zero, Act.put, List.setIfInBounds_toArray, List.set_cons_zero, List.set_cons_succ])
          refine AnyE.take 5 [10, 8, 5] (v := ?_) rfl (by decide) (by kernel_rfl) (by kernel_rfl) (by kernel_rfl) (by kernel_rfl) (by kernel_rfl) (by kernel_rfl) (fun _ _ _ h => h) (by rfl) hH ?_ ?_
          rotate_left; · (intro w hSw; simp only [List.getElem_toArray, List.getElem_cons_succ, List.getElem_cons_zero, Act.put, List.setIfInBounds_toArray, List.set_cons_zero, List.set_cons_succ]; refine exec_load_agg (x := .tmp 98) (b := g) (off := 0) ?_ ?_ Try.underlying64 rfl (info64' hl0) (fun k hk => hSw.row0 (by rwa [agc_size, hl0] at hk)); rfl; rfl)
          (try simp only [List.getElem_toArray, List.getElem_cons_succ, List.getElem_cons_zero, Act.put, List.setIfInBounds_toArray, List.set_cons_zero, List.set_cons_succ])
          refine AnyE.take0 6 (v := ?_) rfl (by decide) (by kernel_rfl) (by kernel_rfl) (by kernel_rfl) (by kernel_rfl) (fun _ _ _ h => h) (by rfl) (fun _ => hH) ?_ ?_
          rotate_left; · (intro w; go_simp; try with_reducible rfl)
          (try simp only [List.getElem_toArray, List.getElem_cons_succ, List.getElem_cons_zero, Act.put, List.setIfInBounds_toArray, List.set_cons_zero, List.set_cons_succ])
          refine AnyE.one 7 rfl (by kernel_rfl) (fun K hK => ?_)
          rw [if_pos (show _ = true by rfl)]
          go_simp
          go_at_call 120
          (with_reducible refine (hx1 _).mono ?_); rintro e wx ⟨rfl, rfl⟩
          refine hK.out _ _ (fun _ => hH) ?_
          clear hK K
          (try simp only [List.getElem_toArray, List.getElem_cons_succ, List.getElem_cons_zero, Act.put, List.setIfInBounds_toArray, List.set_cons_zero, List.set_cons_succ])
          refine AnyE.one 8 rfl (by kernel_rfl) (fun K hK => ?_)
          rw [if_pos (show _ = true by rfl)]
          go_simp
          go_at_call 119
          (with_reducible refine (times_any _ hl0 _).mono ?_); rintro e w8 ⟨rfl, hb8⟩
          replace hH := hH.below hb8
          replace hB := below_then2 hB hb8
          refine hK.out _ _ (fun _ => hH) ?_
          clear hK K
          (try simp only [List.getElem_toArray, List.getElem_cons_succ, List.getElem_cons_zero, Act.put, List.setIfInBounds_toArray, List.set_cons_zero, List.set_cons_succ])
          refine AnyE.take0 9 (v := ?_) rfl (by decide) (by kernel_rfl) (by kernel_rfl) (by kernel_rfl) (by kernel_rfl) (fun _ _ _ h => h) (by rfl) (fun _ => hH) ?_ ?_
          rotate_left; · (intro w; simp only [List.getElem_toArray, List.getElem_cons_succ, List.getElem_cons_zero, Act.put, List.setIfInBounds_toArray, List.set_cons_zero, List.set_cons_succ]; refine exec_bin (t2 := 64) (x := .tmp 96) (y := .tmp 102) (r := .bool true) hc1 (guard64 _ _ _ _ _) ?_ ?_ ?_; rfl; rfl; rfl)
          (try simp only [List.getElem_toArray, List.getElem_cons_succ, List.getElem_cons_zero, Act.put, List.setIfInBounds_toArray, List.set_cons_zero, List.set_cons_succ])
          refine AnyE.take0 10 (v := ?_) rfl (by decide) (by kernel_rfl) (by kernel_rfl) (by kernel_rfl) (by kernel_rfl) (fun _ _ _ h => h) (by rfl) (fun _ => hH) ?_ ?_
          rotate_left; · (intro w; go_simp; try with_reducible rfl)
          (try simp only [List.getElem_toArray, List.getElem_cons_succ, List.getElem_cons_zero, Act.put, List.setIfInBounds_toArray, List.set_cons_zero, List.set_cons_succ])
          refine AnyE.take0 11 (v := ?_) rfl (by decide) (by kernel_rfl) (by kernel_rfl) (by kernel_rfl) (by kernel_rfl) (fun _ _ _ h => h) (by rfl) (fun _ => hH) ?_ ?_
          rotate_left; · (intro w; go_simp; try with_reducible rfl)
          (try simp only [List.getElem_toArray, List.getElem_cons_succ, List.getElem_cons_zero, Act.put, List.setIfInBounds_toArray, List.set_cons_zero, List.set_cons_succ])
          refine AnyE.take0 12 (v := ?_) rfl (by decide) (by kernel_rfl) (by kernel_rfl) (by kernel_rfl) (by kernel_rfl) (fun _ _ _ h => h) (by rfl) (fun _ => hH) ?_ ?_
          rotate_left; · (intro w; go_simp; try with_reducible rfl)
          (try simp only [List.getElem_toArray, List.getElem_cons_succ, List.getElem_cons_zero, Act.put, List.setIfInBounds_toArray, List.set_cons_zero, List.set_cons_succ])
          refine AnyE.take 13 [21, 13] (v := ?_) rfl (by decide) (by kernel_rfl) (by kernel_rfl) (by kernel_rfl) (by kernel_rfl) (by kernel_rfl) (by kernel_rfl) (fun _ _ _ h => h) (by rfl) hH ?_ ?_
          rotate_left; · (intro w hSw; simp only [List.getElem_toArray, List.getElem_cons_succ, List.getElem_cons_zero, Act.put, List.setIfInBounds_toArray, List.set_cons_zero, List.set_cons_succ]; refine exec_load_agg (x := .tmp 106) (b := g) (off := 16) ?_ ?_ Try.underlying64 rfl (info64' hl2) (fun k hk => hSw.row2 (by rwa [agc_size, hl2] at hk)); rfl; rfl)
          (try simp only [List.getElem_toArray, List.getElem_cons_succ, List.getElem_cons_zero, Act.put, List.setIfInBounds_toArray, List.set_cons_zero, List.set_cons_succ])
          refine AnyE.take0 14 (v := ?_) rfl (by decide) (by kernel_rfl) (by kernel_rfl) (by kernel_rfl) (by kernel_rfl) (fun _ _ _ h => h) (by rfl) (fun _ => hH) ?_ ?_
          rotate_left; · (intro w; go_simp; try with_reducible rfl)
          (try simp only [List.getElem_toArray, List.getElem_cons_succ, List.getElem_cons_zero, Act.put, List.setIfInBounds_toArray, List.set_cons_zero, List.set_cons_succ])
          refine AnyE.take0 15 (v := ?_) rfl (by decide) (by kernel_rfl) (by kernel_rfl) (by kernel_rfl) (by kernel_rfl) (fun _ _ _ h => h) (by rfl) (fun _ => hH) ?_ ?_
          rotate_left; · (intro w; go_simp; try with_reducible rfl)
          (try simp only [List.getElem_toArray, List.getElem_cons_succ, List.getElem_cons_zero, Act.put, List.setIfInBounds_toArray, List.set_cons_zero, List.set_cons_succ])
          refine AnyE.take 16 [21, 20, 16] (v := ?_) rfl (by decide) (by kernel_rfl) (by kernel_rfl) (by kernel_rfl) (by kernel_rfl) (by kernel_rfl) (by kernel_rfl) (fun _ _ _ h => h) (by rfl) hH ?_ ?_
          rotate_left; · (intro w hSw; simp only [List.getElem_toArray, List.getElem_cons_succ, List.getElem_cons_zero, Act.put, List.setIfInBounds_toArray, List.set_cons_zero, List.set_cons_succ]; refine exec_load_agg (x := .tmp 109) (b := g) (off := 0) ?_ ?_ Try.underlying64 rfl (info64' hl0) (fun k hk => hSw.row0 (by rwa [agc_size, hl0] at hk)); rfl; rfl)
          (try simp only [List.getElem_toArray, List.getElem_cons_succ, List.getElem_cons_zero, Act.put, List.setIfInBounds_toArray, List.set_cons_zero, List.set_cons_succ])
          refine AnyE.take0 17 (v := ?_) rfl (by decide) (by kernel_rfl) (by kernel_rfl) (by kernel_rfl) (by kernel_rfl) (fun _ _ _ h => h) (by rfl) (fun _ => hH) ?_ ?_
          rotate_left; · (intro w; go_simp; try with_reducible rfl)
          (try simp only [List.getElem_toArray, List.getElem_cons_succ, List.getElem_cons_zero, Act.put, List.setIfInBounds_toArray, List.set_cons_zero, List.set_cons_succ])
          refine AnyE.take0 18 (v := ?_) rfl (by decide) (by kernel_rfl) (by kernel_rfl) (by kernel_rfl) (by kernel_rfl) (fun _ _ _ h => h) (by rfl) (fun _ => hH) ?_ ?_
          rotate_left; · (intro w; go_simp; try with_reducible rfl)
          (try simp only [List.getElem_toArray, List.getElem_cons_succ, List.getElem_cons_zero, Act.put, List.setIfInBounds_toArray, List.set_cons_zero, List.set_cons_succ])
          refine AnyE.one 19 rfl (by kernel_rfl) (fun K hK => ?_)
          rw [if_pos (show _ = true by rfl)]
          go_simp
          go_at_call 120
          (with_reducible refine (hx2 _).mono ?_); rintro e wx ⟨rfl, rfl⟩
          refine hK.out _ _ (fun _ => hH) ?_
          clear hK K
          (try simp only [List.getElem_toArray, List.getElem_cons_succ, List.getElem_cons_zero, Act.put, List.setIfInBounds_toArray, List.set_cons_zero, List.set_cons_succ])
          refine AnyE.one 20 rfl (by kernel_rfl) (fun K hK => ?_)
          rw [if_pos (show _ = true by rfl)]
          go_simp
          go_at_call 119
          (with_reducible refine (times_any _ hl0 _).mono ?_); rintro e w20 ⟨rfl, hb20⟩
          replace hH := hH.below hb20
          replace hB := below_then2 hB hb20
          refine hK.out _ _ (fun _ => hH) ?_
          clear hK K
          (try simp only [List.getElem_toArray, List.getElem_cons_succ, List.getElem_cons_zero, Act.put, List.setIfInBounds_toArray, List.set_cons_zero, List.set_cons_succ])
          refine AnyE.take0 21 (v := ?_) rfl (by decide) (by kernel_rfl) (by kernel_rfl) (by kernel_rfl) (by kernel_rfl) (fun _ _ _ h => h) (by rfl) (fun _ => hH) ?_ ?_
          rotate_left; · (intro w; simp only [List.getElem_toArray, List.getElem_cons_succ, List.getElem_cons_zero, Act.put, List.setIfInBounds_toArray, List.set_cons_zero, List.set_cons_succ]; refine exec_bin (t2 := 64) (x := .tmp 107) (y := .tmp 114) (r := .bool false) hc2 (guard64 _ _ _ _ _) ?_ ?_ ?_; rfl; rfl; rfl)
          (try simp only [List.getElem_toArray, List.getElem_cons_succ, List.getElem_cons_zero, Act.put, List.setIfInBounds_toArray, List.set_cons_zero, List.set_cons_succ])
          refine AnyE.one 22 rfl (by kernel_rfl) (fun K hK => ?_)
          go_simp
          refine hK.out _ _ (fun e => Bool.noConfusion (show true = false from e)) ?_
          clear hK K
          (try simp only [List.getElem_toArray, List.getElem_cons_succ, List.getElem_cons_zero, Act.put, List.setIfInBounds_toArray, List.set_cons_zero, List.set_cons_succ])
          refine AnyE.done (by kernel_rfl) ?_ _
          go_wp2
          go_roundw
          case rel => exact ⟨i + 1, by omega, by go_num, hH, fun j hj => by
            rcases Nat.lt_succ_iff_lt_or_eq.1 hj with hj | rfl
            · exact hall.out j hj
            · exact hno.out, hB⟩
          case measure => simp [intOf]; omega
      · rw [decide_eq_false k1] at hc1
        have hno := Lib.hid (show locB M i = false by unfold locB; rw [decide_eq_false k1, Bool.false_and])
        replace k1 := Lib.hid k1
        go_wp2
        refine AnyE.region (fun w' => SynAt w' g gz M) 22 (by kernel_rfl) ?_
        have hH : SynAt wr.drew g gz M := hS.drewN 1
        replace hB : Below w.heap.size w wr.drew := below_drewN hB 1
        refine AnyE.take0 0 (v := ?_) rfl (by decide) (by kernel_rfl) (by kernel_rfl) (by kernel_rfl) (by kernel_rfl) (fun _ _ _ h => h) (by rfl) (fun _ => hH) ?_ ?_
        rotate_left; · (intro w; go_simp; try with_reducible rfl)
        (try simp only [List.getElem_toArray, List.getElem_cons_succ, List.getElem_cons_zero, Act.put, List.setIfInBounds_toArray, List.set_cons_zero, List.set_cons_succ])
        refine AnyE.take0 1 (v := ?_) rfl (by decide) (by kernel_rfl) (by kernel_rfl) (by kernel_rfl) (by kernel_rfl) (fun _ _ _ h => h) (by rfl) (fun _ => hH) ?_ ?_
        rotate_left; · (intro w; go_simp; try with_reducible rfl)
        (try simp only [List.getElem_toArray, List.getElem_cons_succ, List.getElem_cons_zero, Act.put, List.setIfInBounds_toArray, List.set_cons_zero, List.set_cons_succ])
        refine AnyE.take 2 [10, 9, 2] (v := ?_) rfl (by decide) (by kernel_rfl) (by kernel_rfl) (by kernel_rfl) (by kernel_rfl) (by kernel_rfl) (by kernel_rfl) (fun _ _ _ h => h) (by rfl) hH ?_ ?_
        rotate_left; · (intro w hSw; simp only [List.getElem_toArray, List.getElem_cons_succ, List.getElem_cons_zero, Act.put, List.setIfInBounds_toArray, List.set_cons_zero, List.set_cons_succ]; refine exec_load_agg (x := .tmp 95) (b := g) (off := 8) ?_ ?_ Try.underlying64 rfl (info64' hl1) (fun k hk => hSw.row1 (by rwa [agc_size, hl1] at hk)); rfl; rfl)
        (try simp only [List.getElem_toArray, List.getElem_cons_succ, List.getElem_cons_zero, Act.put, List.setIfInBounds_toArray, List.set_cons_zero, List.set_cons_succ])
        refine AnyE.take0 3 (v := ?_) rfl (by decide) (by kernel_rfl) (by kernel_rfl) (by kernel_rfl) (by kernel_rfl) (fun _ _ _ h => h) (by rfl) (fun _ => hH) ?_ ?_
        rotate_left; · (intro w; go_simp; try with_reducible rfl)
        (try simp only [List.getElem_toArray, List.getElem_cons_succ, List.getElem_cons_zero, Act.put, List.setIfInBounds_toArray, List.set_cons_zero, List.set_cons_succ])
        refine AnyE.take0 4 (v := ?_) rfl (by decide) (by kernel_rfl) (by kernel_rfl) (by kernel_rfl) (by kernel_rfl) (fun _ _ _ h => h) (by rfl) (fun _ => hH) ?_ ?_
        rotate_left; · (intro w; go_simp; try with_reducible rfl)
        (try simp only [List.getElem_toArray, List.getElem_cons_succ, List.getElem_cons_zero, Act.put, List.setIfInBounds_toArray, List.set_cons_zero, List.set_cons_succ])
        refine AnyE.take 5 [10, 8, 5] (v := ?_) rfl (by decide) (by kernel_rfl) (by kernel_rfl) (by kernel_rfl) (by kernel_rfl) (by kernel_rfl) (by kernel_rfl) (fun _ _ _ h => h) (by rfl) hH ?_ ?_
        rotate_left; · (intro w hSw; simp only [List.getElem_toArray, List.getElem_cons_succ, List.getElem_cons_zero, Act.put, List.setIfInBounds_toArray, List.set_cons_zero, List.set_cons_succ]; refine exec_load_agg (x := .tmp 98) (b := g) (off := 0) ?_ ?_ Try.underlying64 rfl (info64' hl0) (fun k hk => hSw.row0 (by rwa [agc_size, hl0] at hk)); rfl; rfl)
        (try simp only [List.getElem_toArray, List.getElem_cons_succ, List.getElem_cons_zero, Act.put, List.setIfInBounds_toArray, List.set_cons_zero, List.set_cons_succ])
        refine AnyE.take0 6 (v := ?_) rfl (by decide) (by kernel_rfl) (by kernel_rfl) (by kernel_rfl) (by kernel_rfl) (fun _ _ _ h => h) (by rfl) (fun _ => hH) ?_ ?_
        rotate_left; · (intro w; go_simp; try with_reducible rfl)
        (try simp only [List.getElem_toArray, List.getElem_cons_succ, List.getElem_cons_zero, Act.put, List.setIfInBounds_toArray, List.set_cons_zero, List.set_cons_succ])
        refine AnyE.one 7 rfl (by kernel_rfl) (fun K hK => ?_)
        rw [if_pos (show _ = true by rfl)]
        go_simp
        go_at_call 120
        (with_reducible refine (hx1 _).mono ?_); rintro e wx ⟨rfl, rfl⟩
        refine hK.out _ _ (fun _ => hH) ?_
        clear hK K
        (try simp only [List.getElem_toArray, List.getElem_cons_succ, List.getElem_cons_zero, Act.put, List.setIfInBounds_toArray, List.set_cons_zero, List.set_cons_succ])
        refine AnyE.one 8 rfl (by kernel_rfl) (fun K hK => ?_)
        rw [if_pos (show _ = true by rfl)]
        go_simp
        go_at_call 119
        (with_reducible refine (times_any _ hl0 _).mono ?_); rintro e w8 ⟨rfl, hb8⟩
        replace hH := hH.below hb8
        replace hB := below_then2 hB hb8
        refine hK.out _ _ (fun _ => hH) ?_
        clear hK K
        (try simp only [List.getElem_toArray, List.getElem_cons_succ, List.getElem_cons_zero, Act.put, List.setIfInBounds_toArray, List.set_cons_zero, List.set_cons_succ])
        refine AnyE.take0 9 (v := ?_) rfl (by decide) (by kernel_rfl) (by kernel_rfl) (by kernel_rfl) (by kernel_rfl) (fun _ _ _ h => h) (by rfl) (fun _ => hH) ?_ ?_
        rotate_left; · (intro w; simp only [List.getElem_toArray, List.getElem_cons_succ, List.getElem_cons_zero, Act.put, List.setIfInBounds_toArray, List.set_cons_zero, List.set_cons_succ]; refine exec_bin (t2 := 64) (x := .tmp 96) (y := .tmp 102) (r := .bool false) hc1 (guard64 _ _ _ _ _) ?_ ?_ ?_; rfl; rfl; rfl)
        (try simp only [List.getElem_toArray, List.getElem_cons_succ, List.getElem_cons_zero, Act.put, List.setIfInBounds_toArray, List.set_cons_zero, List.set_cons_succ])
        refine AnyE.take0 10 (v := ?_) rfl (by decide) (by kernel_rfl) (by kernel_rfl) (by kernel_rfl) (by kernel_rfl) (fun _ _ _ h => h) (by rfl) (fun _ => hH) ?_ ?_
        rotate_left; · (intro w; go_simp; try with_reducible rfl)
        (try simp only [List.getElem_toArray, List.getElem_cons_succ, List.getElem_cons_zero, Act.put, List.setIfInBounds_toArray, List.set_cons_zero, List.set_cons_succ])
        refine AnyE.skip 11 rfl (by decide) (by kernel_rfl) (by kernel_rfl) (by kernel_rfl) (by kernel_rfl) (fun _ _ _ h => h) (by rfl) (fun _ => hH) ?_
        (try simp only [List.getElem_toArray, List.getElem_cons_succ, List.getElem_cons_zero, Act.put, List.setIfInBounds_toArray, List.set_cons_zero, List.set_cons_succ])
        refine AnyE.skip 12 rfl (by decide) (by kernel_rfl) (by kernel_rfl) (by kernel_rfl) (by kernel_rfl) (fun _ _ _ h => h) (by rfl) (fun _ => hH) ?_
        (try simp only [List.getElem_toArray, List.getElem_cons_succ, List.getElem_cons_zero, Act.put, List.setIfInBounds_toArray, List.set_cons_zero, List.set_cons_succ])
        refine AnyE.skip 13 rfl (by decide) (by kernel_rfl) (by kernel_rfl) (by kernel_rfl) (by kernel_rfl) (fun _ _ _ h => h) (by rfl) (fun _ => hH) ?_
        (try simp only [List.getElem_toArray, List.getElem_cons_succ, List.getElem_cons_zero, Act.put, List.setIfInBounds_toArray, List.set_cons_zero, List.set_cons_succ])
        refine AnyE.skip 14 rfl (by decide) (by kernel_rfl) (by kernel_rfl) (by kernel_rfl) (by kernel_rfl) (fun _ _ _ h => h) (by rfl) (fun _ => hH) ?_
        (try simp only [List.getElem_toArray, List.getElem_cons_succ, List.getElem_cons_zero, Act.put, List.setIfInBounds_toArray, List.set_cons_zero, List.set_cons_succ])
        refine AnyE.skip 15 rfl (by decide) (by kernel_rfl) (by kernel_rfl) (by kernel_rfl) (by kernel_rfl) (fun _ _ _ h => h) (by rfl) (fun _ => hH) ?_
        (try simp only [List.getElem_toArray, List.getElem_cons_succ, List.getElem_cons_zero, Act.put, List.setIfInBounds_toArray, List.set_cons_zero, List.set_cons_succ])
        refine AnyE.skip 16 rfl (by decide) (by kernel_rfl) (by kernel_rfl) (by kernel_rfl) (by kernel_rfl) (fun _ _ _ h => h) (by rfl) (fun _ => hH) ?_
        (try simp only [List.getElem_toArray, List.getElem_cons_succ, List.getElem_cons_zero, Act.put, List.setIfInBounds_toArray, List.set_cons_zero, List.set_cons_succ])
        refine AnyE.skip 17 rfl (by decide) (by kernel_rfl) (by kernel_rfl) (by kernel_rfl) (by kernel_rfl) (fun _ _ _ h => h) (by rfl) (fun _ => hH) ?_
        (try simp only [List.getElem_toArray, List.getElem_cons_succ, List.getElem_cons_zero, Act.put, List.setIfInBounds_toArray, List.set_cons_zero, List.set_cons_succ])
        refine AnyE.skip 18 rfl (by decide) (by kernel_rfl) (by kernel_rfl) (by kernel_rfl) (by kernel_rfl) (fun _ _ _ h => h) (by rfl) (fun _ => hH) ?_
        (try simp only [List.getElem_toArray, List.getElem_cons_succ, List.getElem_cons_zero, Act.put, List.setIfInBounds_toArray, List.set_cons_zero, List.set_cons_succ])
        refine AnyE.skip 19 rfl (by decide) (by kernel_rfl) (by kernel_rfl) (by kernel_rfl) (by kernel_rfl) (fun _ _ _ h => h) (by rfl) (fun _ => hH) ?_
        (try simp only [List.getElem_toArray, List.getElem_cons_succ, List.getElem_cons_zero, Act.put, List.setIfInBounds_toArray, List.set_cons_zero, List.set_cons_succ])
        refine AnyE.skip 20 rfl (by decide) (by kernel_rfl) (by kernel_rfl) (by kernel_rfl) (by kernel_rfl) (fun _ _ _ h => h) (by rfl) (fun _ => hH) ?_
        (try simp only [List.getElem_toArray, List.getElem_cons_succ, List.getElem_cons_zero, Act.put, List.setIfInBounds_toArray, List.set_cons_zero, List.set_cons_succ])
        refine AnyE.skip 21 rfl (by decide) (by kernel_rfl) (by kernel_rfl) (by kernel_rfl) (by kernel_rfl) (fun _ _ _ h => h) (by rfl) (fun _ => hH) ?_
        (try simp only [List.getElem_toArray, List.getElem_cons_succ, List.getElem_cons_zero, Act.put, List.setIfInBounds_toArray, List.set_cons_zero, List.set_cons_succ])
        refine AnyE.one 22 rfl (by kernel_rfl) (fun K hK => ?_)
        go_simp
        refine hK.out _ _ (fun e => Bool.noConfusion (show true = false from e)) ?_
        clear hK K
        (try simp only [List.getElem_toArray, List.getElem_cons_succ, List.getElem_cons_zero, Act.put, List.setIfInBounds_toArray, List.set_cons_zero, List.set_cons_succ])
        refine AnyE.done (by kernel_rfl) ?_ _
        go_wp2
        go_roundw
        case rel => exact ⟨i + 1, by omega, by go_num, hH, fun j hj => by
          rcases Nat.lt_succ_iff_lt_or_eq.1 hj with hj | rfl
          · exact hall.out j hj
          · exact hno.out, hB⟩
        case measure => simp [intOf]; omega
    · obtain rfl : i = n := by omega
      go_wp2
      go_ret2
      exact ⟨_, _, rfl, LocRes.many hs0.out hs12.out hall.out, hB⟩
set_option maxRecDepth 100000 in
set_option maxHeartbeats 4000000 in
theorem loc_001 (h4 : 4 ≤ wd) (h16 : wd ≤ 16) (hn : n = wd - 3) (h : Blks p w A wd c M) (h0 : mrow (synM M) 0 ≠ zeroL 8) (h1 : mrow (synM M) 1 ≠ zeroL 8) (h2 : mrow (synM M) 2 = zeroL 8) : Calls Try.prog 80 #[.slice A wd c] w fun e w' => ∃ r er, e = .returned (.tuple #[.int .i64 r, .int .i64 er]) ∧ LocRes n M r er ∧ Below w.heap.size w w' := by
  have e3 : (wd : Int) - 3 = (n : Int) := by omega
  have hn13 : n ≤ 13 := by omega
  have hl0 := synM_row M (j := 0) (by decide)
  have hr0 := fun w => eql64 hl0 z8 w
  rw [decide_eq_false h0] at hr0
  have hl1 := synM_row M (j := 1) (by decide)
  have hr1 := fun w => eql64 hl1 z8 w
  rw [decide_eq_false h1] at hr1
  have hl2 := synM_row M (j := 2) (by decide)
  have hr2 := fun w => eql64 hl2 z8 w
  rw [decide_eq_true h2] at hr2
  have hs0 := Lib.hid h0
  have hs1 := Lib.hid h1
  have hs2 := Lib.hid h2
  have hs12 := Lib.hid (show ¬ (mrow (synM M) 1 = zeroL 8 ∧ mrow (synM M) 2 = zeroL 8) from fun e => h1 e.1)
  clear h0 h1 h2
  replace hn := Lib.hid hn
  go_enter Try.func80, Try.ntmps80
  go_wp2_with (go_at_call 76; (with_reducible refine (syn_any h4 h16 h).mono ?_); rintro e w1 ⟨g, rfl, hg, hsy, hb1⟩)
  have hz1 := zero_row8 w1 64
  have hba : Below w1.heap.size w1 (w1.alloc (.cells #[.int .u8 0, .int .u8 0, .int .u8 0, .int .u8 0, .int .u8 0, .int .u8 0, .int .u8 0, .int .u8 0] 64)) := (Below.refl _ _).alloc (Nat.le_refl _) _
  have hS : SynAt (w1.alloc (.cells #[.int .u8 0, .int .u8 0, .int .u8 0, .int .u8 0, .int .u8 0, .int .u8 0, .int .u8 0, .int .u8 0] 64)) g w1.heap.size M := ⟨hsy.below hba, hz1⟩
  have hB := below_then2 hb1 hba
  obtain ⟨gz, hgz⟩ : ∃ gz, gz = w1.heap.size := ⟨_, rfl⟩
  obtain ⟨wa, hwa⟩ : ∃ wa, wa = w1.alloc (.cells #[.int .u8 0, .int .u8 0, .int .u8 0, .int .u8 0, .int .u8 0, .int .u8 0, .int .u8 0, .int .u8 0] 64) := ⟨_, rfl⟩
  rw [← hwa, ← hgz] at hS ⊢
  rw [← hwa] at hB
  clear hwa hgz hba hz1 hsy
  obtain ⟨e0, e1, e2, ez⟩ := hS.cells
  refine wp_region_quiet_lit (by kernel_rfl) (by kernel_rfl) ?_
  quiet_step (fail)
  quiet_step (fail)
  refine BigFrame.wpQuiet_want rfl (fun K hK => ?_)
  refine quiet_load_agg rfl rfl Try.underlying64 rfl (info64' hl0) (fun k hk => e0 k (by rwa [agc_size, hl0] at hk)) ?_
  refine hK _ ?_
  clear hK K
  simp only [Act.put, List.setIfInBounds_toArray, List.set_cons_zero, List.set_cons_succ]
  refine BigFrame.wpQuiet_want rfl (fun K hK => ?_)
  refine quiet_load_agg rfl rfl Try.underlying64 rfl (info64' z8) (fun k hk => ez k (by rwa [agc_size, z8] at hk)) ?_
  refine hK _ ?_
  clear hK K
  simp only [Act.put, List.setIfInBounds_toArray, List.set_cons_zero, List.set_cons_succ]
  refine BigFrame.wpQuiet_want rfl (fun K hK => ?_)
  refine quiet_bin rfl rfl rfl (guard64 _ _ _ _ _) hr0 ?_
  refine hK _ ?_
  clear hK K
  simp only [Act.put, List.setIfInBounds_toArray, List.set_cons_zero, List.set_cons_succ]
  quiet_step (fail)
  quiet_step (fail)
  quiet_step (fail)
  quiet_step (fail)
  quiet_step (fail)
  quiet_step (fail)
  quiet_step (fail)
  quiet_step (fail)
  quiet_step (fail)
  quiet_step (fail)
  quiet_step (fail)
  quiet_step (fail)
  quiet_step (fail)
  quiet_step (fail)
  quiet_step (fail)
  refine wpQuiet_nil ?_
  intro _ hw'
  obtain ⟨nq, hw''⟩ := hw'
  subst hw''
  skip
  obtain ⟨wq, hq⟩ : ∃ wq, wq = wa.drewN nq := ⟨_, rfl⟩
  replace hS := (show SynAt wq g gz M from hq ▸ hS.drewN nq)
  replace hB := (show Below w.heap.size w wq from hq ▸ below_drewN hB nq)
  rw [← hq]
  clear hq e0 e1 e2 ez
  obtain ⟨e0, e1, e2, ez⟩ := hS.cells
  obtain ⟨wq0, rfl⟩ : ∃ x : World, x = wq := ⟨_, rfl⟩
  go_wp2
  refine wp_region_quiet_lit (by kernel_rfl) (by kernel_rfl) ?_
  quiet_step (fail)
  quiet_step (fail)
  refine BigFrame.wpQuiet_want rfl (fun K hK => ?_)
  refine quiet_load_agg rfl rfl Try.underlying64 rfl (info64' hl1) (fun k hk => e1 k (by rwa [agc_size, hl1] at hk)) ?_
  refine hK _ ?_
  clear hK K
  simp only [Act.put, List.setIfInBounds_toArray, List.set_cons_zero, List.set_cons_succ]
  refine BigFrame.wpQuiet_want rfl (fun K hK => ?_)
  refine quiet_load_agg rfl rfl Try.underlying64 rfl (info64' z8) (fun k hk => ez k (by rwa [agc_size, z8] at hk)) ?_
  refine hK _ ?_
  clear hK K
  simp only [Act.put, List.setIfInBounds_toArray, List.set_cons_zero, List.set_cons_succ]
  refine BigFrame.wpQuiet_want rfl (fun K hK => ?_)
  refine quiet_bin rfl rfl rfl (guard64 _ _ _ _ _) hr1 ?_
  refine hK _ ?_
  clear hK K
  simp only [Act.put, List.setIfInBounds_toArray, List.set_cons_zero, List.set_cons_succ]
  quiet_step (fail)
  quiet_step (fail)
  quiet_step (fail)
  quiet_step (fail)
  quiet_step (fail)
  quiet_step (fail)
  quiet_step (fail)
  quiet_step (fail)
  refine wpQuiet_nil ?_
  intro _ hw'
  obtain ⟨nq, hw''⟩ := hw'
  subst hw''
  skip
  obtain ⟨wq, hq⟩ : ∃ wq, wq = wq0.drewN nq := ⟨_, rfl⟩
  replace hS := (show SynAt wq g gz M from hq ▸ hS.drewN nq)
  replace hB := (show Below w.heap.size w wq from hq ▸ below_drewN hB nq)
  rw [← hq]
  clear hq e0 e1 e2 ez
  obtain ⟨e0, e1, e2, ez⟩ := hS.cells
  obtain ⟨wq1, rfl⟩ : ∃ x : World, x = wq := ⟨_, rfl⟩
  go_wp2
  refine wp_region_quiet_lit (by kernel_rfl) (by kernel_rfl) ?_
  quiet_step (fail)
  quiet_step (fail)
  refine BigFrame.wpQuiet_want rfl (fun K hK => ?_)
  refine quiet_load_agg rfl rfl Try.underlying64 rfl (info64' hl0) (fun k hk => e0 k (by rwa [agc_size, hl0] at hk)) ?_
  refine hK _ ?_
  clear hK K
  simp only [Act.put, List.setIfInBounds_toArray, List.set_cons_zero, List.set_cons_succ]
  refine BigFrame.wpQuiet_want rfl (fun K hK => ?_)
  refine quiet_load_agg rfl rfl Try.underlying64 rfl (info64' z8) (fun k hk => ez k (by rwa [agc_size, z8] at hk)) ?_
  refine hK _ ?_
  clear hK K
  simp only [Act.put, List.setIfInBounds_toArray, List.set_cons_zero, List.set_cons_succ]
  refine BigFrame.wpQuiet_want rfl (fun K hK => ?_)
  refine quiet_bin rfl rfl rfl (guard64 _ _ _ _ _) hr0 ?_
  refine hK _ ?_
  clear hK K
  simp only [Act.put, List.setIfInBounds_toArray, List.set_cons_zero, List.set_cons_succ]
  quiet_step (fail)
  quiet_step (fail)
  quiet_step (fail)
  quiet_step (fail)
  quiet_step (fail)
  quiet_step (fail)
  quiet_step (fail)
  quiet_step (fail)
  refine wpQuiet_nil ?_
  intro _ hw'
  obtain ⟨nq, hw''⟩ := hw'
  subst hw''
  skip
  obtain ⟨wq, hq⟩ : ∃ wq, wq = wq1.drewN nq := ⟨_, rfl⟩
  replace hS := (show SynAt wq g gz M from hq ▸ hS.drewN nq)
  replace hB := (show Below w.heap.size w wq from hq ▸ below_drewN hB nq)
  rw [← hq]
  clear hq e0 e1 e2 ez
  obtain ⟨e0, e1, e2, ez⟩ := hS.cells
  obtain ⟨wq2, rfl⟩ : ∃ x : World, x = wq := ⟨_, rfl⟩
  go_wp2
  refine wp_region_quiet_lit (by kernel_rfl) (by kernel_rfl) ?_
  quiet_step (fail)
  quiet_step (fail)
  refine BigFrame.wpQuiet_want rfl (fun K hK => ?_)
  refine quiet_load_agg rfl rfl Try.underlying64 rfl (info64' hl0) (fun k hk => e0 k (by rwa [agc_size, hl0] at hk)) ?_
  refine hK _ ?_
  clear hK K
  simp only [Act.put, List.setIfInBounds_toArray, List.set_cons_zero, List.set_cons_succ]
  refine BigFrame.wpQuiet_want rfl (fun K hK => ?_)
  refine quiet_load_agg rfl rfl Try.underlying64 rfl (info64' z8) (fun k hk => ez k (by rwa [agc_size, z8] at hk)) ?_
  refine hK _ ?_
  clear hK K
  simp only [Act.put, List.setIfInBounds_toArray, List.set_cons_zero, List.set_cons_succ]
  refine BigFrame.wpQuiet_want rfl (fun K hK => ?_)
  refine quiet_bin rfl rfl rfl (guard64 _ _ _ _ _) hr0 ?_
  refine hK _ ?_
  clear hK K
  simp only [Act.put, List.setIfInBounds_toArray, List.set_cons_zero, List.set_cons_succ]
  quiet_step (fail)
  quiet_step (fail)
  quiet_step (fail)
  quiet_step (fail)
  quiet_step (fail)
  quiet_step (fail)
  quiet_step (fail)
  quiet_step (fail)
  refine wpQuiet_nil ?_
  intro _ hw'
  obtain ⟨nq, hw''⟩ := hw'
  subst hw''
  skip
  obtain ⟨wq, hq⟩ : ∃ wq, wq = wq2.drewN nq := ⟨_, rfl⟩
  replace hS := (show SynAt wq g gz M from hq ▸ hS.drewN nq)
  replace hB := (show Below w.heap.size w wq from hq ▸ below_drewN hB nq)
  rw [← hq]
  clear hq e0 e1 e2 ez
  obtain ⟨e0, e1, e2, ez⟩ := hS.cells
  obtain ⟨wq3, rfl⟩ : ∃ x : World, x = wq := ⟨_, rfl⟩
  go_wp2
  refine wp_region_quiet_lit (by kernel_rfl) (by kernel_rfl) ?_
  quiet_step (fail)
  quiet_step (fail)
  refine BigFrame.wpQuiet_want rfl (fun K hK => ?_)
  refine quiet_load_agg rfl rfl Try.underlying64 rfl (info64' hl0) (fun k hk => e0 k (by rwa [agc_size, hl0] at hk)) ?_
  refine hK _ ?_
  clear hK K
  simp only [Act.put, List.setIfInBounds_toArray, List.set_cons_zero, List.set_cons_succ]
  refine BigFrame.wpQuiet_want rfl (fun K hK => ?_)
  refine quiet_load_agg rfl rfl Try.underlying64 rfl (info64' z8) (fun k hk => ez k (by rwa [agc_size, z8] at hk)) ?_
  refine hK _ ?_
  clear hK K
  simp only [Act.put, List.setIfInBounds_toArray, List.set_cons_zero, List.set_cons_succ]
  refine BigFrame.wpQuiet_want rfl (fun K hK => ?_)
  refine quiet_bin rfl rfl rfl (guard64 _ _ _ _ _) hr0 ?_
  refine hK _ ?_
  clear hK K
  simp only [Act.put, List.setIfInBounds_toArray, List.set_cons_zero, List.set_cons_succ]
  quiet_step (fail)
  refine wpQuiet_nil ?_
  intro _ hw'
  obtain ⟨nq, hw''⟩ := hw'
  subst hw''
  skip
  obtain ⟨wq, hq⟩ : ∃ wq, wq = wq3.drewN nq := ⟨_, rfl⟩
  replace hS := (show SynAt wq g gz M from hq ▸ hS.drewN nq)
  replace hB := (show Below w.heap.size w wq from hq ▸ below_drewN hB nq)
  rw [← hq]
  clear hq e0 e1 e2 ez
  obtain ⟨e0, e1, e2, ez⟩ := hS.cells
  obtain ⟨wq4, rfl⟩ : ∃ x : World, x = wq := ⟨_, rfl⟩
  go_wp2
  go_loopw [91] (fun x wr => ∃ i : Nat, i ≤ n ∧ x = .int .i64 i ∧ SynAt wr g gz M ∧ (∀ j, j < i → locB M j = false) ∧ Below w.heap.size w wr) (fun x _ => n - (intOf x).toNat)
  case atStart => exact ⟨0, by omega, rfl, hS, fun j hj => absurd hj (Nat.not_lt_zero _), hB⟩
  case round =>
    obtain ⟨i, hi, rfl, hS, hall, hB⟩ := hrel
    replace hall := Lib.hid hall
    by_cases hlti : i < n
    · have d1 : (0 : Int) ≤ (i : Int) := Int.natCast_nonneg _
      have d2 : (i : Int) < (n : Int) := by omega
      have hx1 : ∀ w, Calls Try.prog 120 #[.int .i64 (i : Int)] w fun e w' => e = .returned (.int .u8 ((Gf.pow 2 i).toNat : Int)) ∧ w = w' := fun w => exp_any i (by omega) w
      have hx2 : ∀ w, Calls Try.prog 120 #[.int .i64 (IntKind.i64.wrap (2 * (i : Int)))] w fun e w' => e = .returned (.int .u8 ((Gf.pow 2 (2 * i)).toNat : Int)) ∧ w = w' := fun w => by rw [IntWalk.i64_in _ (by omega)]; have := exp_any (2 * i) (by omega) w; rwa [Int.natCast_mul] at this
      have hc1 := fun w => eql64 hl1 (sclB_length (Gf.pow 2 i) (mrow (synM M) 0)) w
      have hc2 := fun w => eql64 hl2 (sclB_length (Gf.pow 2 (2 * i)) (mrow (synM M) 0)) w
      by_cases k1 : mrow (synM M) 1 = sclB (Gf.pow 2 i) (mrow (synM M) 0)
      · rw [decide_eq_true k1] at hc1
        by_cases k2 : mrow (synM M) 2 = sclB (Gf.pow 2 (2 * i)) (mrow (synM M) 0)
        · rw [decide_eq_true k2] at hc2
          have hyes := Lib.hid (show locB M i = true by unfold locB; rw [decide_eq_true k1, decide_eq_true k2]; rfl)
          replace k1 := Lib.hid k1
          replace k2 := Lib.hid k2
          go_wp2
          refine AnyE.region (fun w' => SynAt w' g gz M) 22 (by kernel_rfl) ?_
          have hH : SynAt wr.drew g gz M := hS.drewN 1
          replace hB : Below w.heap.size w wr.drew := below_drewN hB 1
          refine AnyE.take0 0 (v := ?_) rfl (by decide) (by kernel_rfl) (by kernel_rfl) (by kernel_rfl) (by kernel_rfl) (fun _ _ _ h => h) (by rfl) (fun _ => hH) ?_ ?_
          rotate_left; · (intro w; go_simp; try with_reducible rfl)
          (try simp only [List.getElem_toArray, List.getElem_cons_succ, List.getElem_cons_zero, Act.put, List.setIfInBounds_toArray, List.set_cons_zero, List.set_cons_succ])
          refine AnyE.take0 1 (v := ?_) rfl (by decide) (by kernel_rfl) (by kernel_rfl) (by kernel_rfl) (by kernel_rfl) (fun _ _ _ h => h) (by rfl) (fun _ => hH) ?_ ?_
          rotate_left; · (intro w; go_simp; try with_reducible rfl)
          (try simp only [List.getElem_toArray, List.getElem_cons_succ, List.getElem_cons_zero, Act.put, List.setIfInBounds_toArray, List.set_cons_zero, List.set_cons_succ])
          refine AnyE.take 2 [10, 9, 2] (v := ?_) rfl (by decide) (by kernel_rfl) (by kernel_rfl) (by kernel_rfl) (by kernel_rfl) (by kernel_rfl) (by kernel_rfl) (fun _ _ _ h => h) (by rfl) hH ?_ ?_
          rotate_left; · (intro w hSw; simp only [List.getElem_toArray, List.getElem_cons_succ, List.getElem_cons_zero, Act.put, List.setIfInBounds_toArray, List.set_cons_zero, List.set_cons_succ]; refine exec_load_agg (x := .tmp 95) (b := g) (off := 8) ?_ ?_ Try.underlying64 rfl (info64' hl1) (fun k hk => hSw.row1 (by rwa [agc_size, hl1] at hk)); rfl; rfl)
          (try simp only [List.getElem_toArray, List.getElem_cons_succ, List.getElem_cons_zero, Act.put, List.setIfInBounds_toArray, List.set_cons_zero, List.set_cons_succ])
          refine AnyE.take0 3 (v := ?_) rfl (by decide) (by kernel_rfl) (by kernel_rfl) (by kernel_rfl) (by kernel_rfl) (fun _ _ _ h => h) (by rfl) (fun _ => hH) ?_ ?_
          rotate_left; · (intro w; go_simp; try with_reducible rfl)
          (try simp only [List.getElem_toArray, List.getElem_cons_succ, List.getElem_cons_zero, Act.put, List.setIfInBounds_toArray, List.set_cons_zero, List.set_cons_succ])
          refine AnyE.take0 4 (v := ?_) rfl (by decide) (by kernel_rfl) (by kernel_rfl) (by kernel_rfl) (by kernel_rfl) (fun _ _ _ h => h) (by rfl) (fun _ => hH) ?_ ?_
          rotate_left; · (intro w; go_simp; try with_reducible rfl)
          (try simp only [List.getElem_toArray, List.getElem_cons_succ, List.getElem_cons_zero, Act.put, List.setIfInBounds_toArray, List.set_cons_zero, List.set_cons_succ])
          refine AnyE.take 5 [10, 8, 5] (v := ?_) rfl (by decide) (by kernel_rfl) (by kernel_rfl) (by kernel_rfl) (by kernel_rfl) (by kernel_rfl) (by kernel_rfl) (fun _ _ _ h => h) (by rfl) hH ?_ ?_
          rotate_left; · (intro w hSw; simp only [List.getElem_toArray, List.getElem_cons_succ, List.getElem_cons_zero, Act.put, List.setIfInBounds_toArray, List.set_cons_zero, List.set_cons_succ]; refine exec_load_agg (x := .tmp 98) (b := g) (off := 0) ?_ ?_ Try.underlying64 rfl (info64' hl0) (fun k hk => hSw.row0 (by rwa [agc_size, hl0] at hk)); rfl; rfl)
          (try simp only [List.getElem_toArray, List.getElem_cons_succ, List.getElem_cons_zero, Act.put, List.setIfInBounds_toArray, List.set_cons_zero, List.set_cons_succ])
          refine AnyE.take0 6 (v := ?_) rfl (by decide) (by kernel_rfl) (by kernel_rfl) (by kernel_rfl) (by kernel_rfl) (fun _ _ _ h => h) (by rfl) (fun _ => hH) ?_ ?_
          rotate_left; · (intro w; go_simp; try with_reducible rfl)
          (try simp only [List.getElem_toArray, List.getElem_cons_succ, List.getElem_cons_zero, Act.put, List.setIfInBounds_toArray, List.set_cons_zero, List.set_cons_succ])
          refine AnyE.one 7 rfl (by kernel_rfl) (fun K hK => ?_)
          rw [if_pos (show _ = true by rfl)]
          go_simp
          go_at_call 120
          (with_reducible refine (hx1 _).mono ?_); rintro e wx ⟨rfl, rfl⟩
          refine hK.out _ _ (fun _ => hH) ?_
          clear hK K
          (try simp only [List.getElem_toArray, List.getElem_cons_succ, List.getElem_cons_zero, Act.put, List.setIfInBounds_toArray, List.set_cons_zero, List.set_cons_succ])
          refine AnyE.one 8 rfl (by kernel_rfl) (fun K hK => ?_)
          rw [if_pos (show _ = true by rfl)]
          go_simp
          go_at_call 119
          (with_reducible refine (times_any _ hl0 _).mono ?_); rintro e w8 ⟨rfl, hb8⟩
          replace hH := hH.below hb8
          replace hB := below_then2 hB hb8
          refine hK.out _ _ (fun _ => hH) ?_
          clear hK K
          (try simp only [List.getElem_toArray, List.getElem_cons_succ, List.getElem_cons_zero, Act.put, List.setIfInBounds_toArray, List.set_cons_zero, List.set_cons_succ])
          refine AnyE.take0 9 (v := ?_) rfl (by decide) (by kernel_rfl) (by kernel_rfl) (by kernel_rfl) (by kernel_rfl) (fun _ _ _ h => h) (by rfl) (fun _ => hH) ?_ ?_
          rotate_left; · (intro w; simp only [List.getElem_toArray, List.getElem_cons_succ, List.getElem_cons_zero, Act.put, List.setIfInBounds_toArray, List.set_cons_zero, List.set_cons_succ]; refine exec_bin (t2 := 64) (x := .tmp 96) (y := .tmp 102) (r := .bool true) hc1 (guard64 _ _ _ _ _) ?_ ?_ ?_; rfl; rfl; rfl)
          (try simp only [List.getElem_toArray, List.getElem_cons_succ, List.getElem_cons_zero, Act.put, List.setIfInBounds_toArray, List.set_cons_zero, List.set_cons_succ])
          refine AnyE.take0 10 (v := ?_) rfl (by decide) (by kernel_rfl) (by kernel_rfl) (by kernel_rfl) (by kernel_rfl) (fun _ _ _ h => h) (by rfl) (fun _ => hH) ?_ ?_
          rotate_left; · (intro w; go_simp; try with_reducible rfl)
          (try simp only [List.getElem_toArray, List.getElem_cons_succ, List.getElem_cons_zero, Act.put, List.setIfInBounds_toArray, List.set_cons_zero, List.set_cons_succ])
          refine AnyE.take0 11 (v := ?_) rfl (by decide) (by kernel_rfl) (by kernel_rfl) (by kernel_rfl) (by kernel_rfl) (fun _ _ _ h => h) (by rfl) (fun _ => hH) ?_ ?_
          rotate_left; · (intro w; go_simp; try with_reducible rfl)
          (try simp only [List.getElem_toArray, List.getElem_cons_succ, List.getElem_cons_zero, Act.put, List.setIfInBounds_toArray, List.set_cons_zero, List.set_cons_succ])
          refine AnyE.take0 12 (v := ?_) rfl (by decide) (by kernel_rfl) (by kernel_rfl) (by kernel_rfl) (by kernel_rfl) (fun _ _ _ h => h) (by rfl) (fun _ => hH) ?_ ?_
          rotate_left; · (intro w; go_simp; try with_reducible rfl)
          (try simp only [List.getElem_toArray, List.getElem_cons_succ, List.getElem_cons_zero, Act.put, List.setIfInBounds_toArray, List.set_cons_zero, List.set_cons_succ])
          refine AnyE.take 13 [21, 13] (v := ?_) rfl (by decide) (by kernel_rfl) (by kernel_rfl) (by kernel_rfl) (by kernel_rfl) (by kernel_rfl) (by kernel_rfl) (fun _ _ _ h => h) (by rfl) hH ?_ ?_
          rotate_left; · (intro w hSw; simp only [List.getElem_toArray, List.getElem_cons_succ, List.getElem_cons_zero, Act.put, List.setIfInBounds_toArray, List.set_cons_zero, List.set_cons_succ]; refine exec_load_agg (x := .tmp 106) (b := g) (off := 16) ?_ ?_ Try.underlying64 rfl (info64' hl2) (fun k hk => hSw.row2 (by rwa [agc_size, hl2] at hk)); rfl; rfl)
          (try simp only [List.getElem_toArray, List.getElem_cons_succ, List.getElem_cons_zero, Act.put, List.setIfInBounds_toArray, List.set_cons_zero, List.set_cons_succ])
          refine AnyE.take0 14 (v := ?_) rfl (by decide) (by kernel_rfl) (by kernel_rfl) (by kernel_rfl) (by kernel_rfl) (fun _ _ _ h => h) (by rfl) (fun _ => hH) ?_ ?_
          rotate_left; · (intro w; go_simp; try with_reducible rfl)
          (try simp only [List.getElem_toArray, List.getElem_cons_succ, List.getElem_cons_zero, Act.put, List.setIfInBounds_toArray, List.set_cons_zero, List.set_cons_succ])
          refine AnyE.take0 15 (v := ?_) rfl (by decide) (by kernel_rfl) (by kernel_rfl) (by kernel_rfl) (by kernel_rfl) (fun _ _ _ h => h) (by rfl) (fun _ => hH) ?_ ?_
          rotate_left; · (intro w; go_simp; try with_reducible rfl)
          (try simp only [List.getElem_toArray, List.getElem_cons_succ, List.getElem_cons_zero, Act.put, List.setIfInBounds_toArray, List.set_cons_zero, List.set_cons_succ])
          refine AnyE.take 16 [21, 20, 16] (v := ?_) rfl (by decide) (by kernel_rfl) (by kernel_rfl) (by kernel_rfl) (by kernel_rfl) (by kernel_rfl) (by kernel_rfl) (fun _ _ _ h => h) (by rfl) hH ?_ ?_
          rotate_left; · (intro w hSw; simp only [List.getElem_toArray, List.getElem_cons_succ, List.getElem_cons_zero, Act.put, List.setIfInBounds_toArray, List.set_cons_zero, List.set_cons_succ]; refine exec_load_agg (x := .tmp 109) (b := g) (off := 0) ?_ ?_ Try.underlying64 rfl (info64' hl0) (fun k hk => hSw.row0 (by rwa [agc_size, hl0] at hk)); rfl; rfl)
          (try simp only [List.getElem_toArray, List.getElem_cons_succ, List.getElem_cons_zero, Act.put, List.setIfInBounds_toArray, List.set_cons_zero, List.set_cons_succ])
          refine AnyE.take0 17 (v := ?_) rfl (by decide) (by kernel_rfl) (by kernel_rfl) (by kernel_rfl) (by kernel_rfl) (fun _ _ _ h => h) (by rfl) (fun _ => hH) ?_ ?_
          rotate_left; · (intro w; go_simp; try with_reducible rfl)
          (try simp only [List.getElem_toArray, List.getElem_cons_succ, List.getElem_cons_zero, Act.put, List.setIfInBounds_toArray, List.set_cons_zero, List.set_cons_succ])
          refine AnyE.take0 18 (v := ?_) rfl (by decide) (by kernel_rfl) (by kernel_rfl) (by kernel_rfl) (by kernel_rfl) (fun _ _ _ h => h) (by rfl) (fun _ => hH) ?_ ?_
          rotate_left; · (intro w; go_simp; try with_reducible rfl)
          (try simp only [List.getElem_toArray, List.getElem_cons_succ, List.getElem_cons_zero, Act.put, List.setIfInBounds_toArray, List.set_cons_zero, List.set_cons_succ])
          refine AnyE.one 19 rfl (by kernel_rfl) (fun K hK => ?_)
          rw [if_pos (show _ = true by rfl)]
          go_simp
          go_at_call 120
          (with_reducible refine (hx2 _).mono ?_); rintro e wx ⟨rfl, rfl⟩
          refine hK.out _ _ (fun _ => hH) ?_
          clear hK K
          (try simp only [List.getElem_toArray, List.getElem_cons_succ, List.getElem_cons_zero, Act.put, List.setIfInBounds_toArray, List.set_cons_zero, List.set_cons_succ])
          refine AnyE.one 20 rfl (by kernel_rfl) (fun K hK => ?_)
          rw [if_pos (show _ = true by rfl)]
          go_simp
          go_at_call 119
          (with_reducible refine (times_any _ hl0 _).mono ?_); rintro e w20 ⟨rfl, hb20⟩
          replace hH := hH.below hb20
          replace hB := below_then2 hB hb20
          refine hK.out _ _ (fun _ => hH) ?_
          clear hK K
          (try simp only [List.getElem_toArray, List.getElem_cons_succ, List.getElem_cons_zero, Act.put, List.setIfInBounds_toArray, List.set_cons_zero, List.set_cons_succ])
          refine AnyE.take0 21 (v := ?_) rfl (by decide) (by kernel_rfl) (by kernel_rfl) (by kernel_rfl) (by kernel_rfl) (fun _ _ _ h => h) (by rfl) (fun _ => hH) ?_ ?_
          rotate_left; · (intro w; simp only [List.getElem_toArray, List.getElem_cons_succ, List.getElem_cons_zero, Act.put, List.setIfInBounds_toArray, List.set_cons_zero, List.set_cons_succ]; refine exec_bin (t2 := 64) (x := .tmp 107) (y := .tmp 114) (r := .bool true) hc2 (guard64 _ _ _ _ _) ?_ ?_ ?_; rfl; rfl; rfl)
          (try simp only [List.getElem_toArray, List.getElem_cons_succ, List.getElem_cons_zero, Act.put, List.setIfInBounds_toArray, List.set_cons_zero, List.set_cons_succ])
          refine AnyE.one 22 rfl (by kernel_rfl) (fun K hK => ?_)
          go_simp
          refine hK.out _ _ (fun e => Bool.noConfusion (show true = false from e)) ?_
          clear hK K
          (try simp only [List.getElem_toArray, List.getElem_cons_succ, List.getElem_cons_zero, Act.put, List.setIfInBounds_toArray, List.set_cons_zero, List.set_cons_succ])
          refine AnyE.done (by kernel_rfl) ?_ _
          go_wp2
          go_ret2
          exact ⟨_, _, rfl, LocRes.found hs0.out hs12.out hlti hyes.out hall.out, hB⟩
        · rw [decide_eq_false k2] at hc2
          have hno := Lib.hid (show locB M i = false by unfold locB; rw [decide_eq_false k2, Bool.and_false])
          replace k1 := Lib.hid k1
          replace k2 := Lib.hid k2
          go_wp2
          refine AnyE.region (fun w' => SynAt w' g gz M) 22 (by kernel_rfl) ?_
          have hH : SynAt wr.drew g gz M := hS.drewN 1
          replace hB : Below w.heap.size w wr.drew := below_drewN hB 1
          refine AnyE.take0 0 (v := ?_) rfl (by decide) (by kernel_rfl) (by kernel_rfl) (by kernel_rfl) (by kernel_rfl) (fun _ _ _ h => h) (by rfl) (fun _ => hH) ?_ ?_
          rotate_left; · (intro w; go_simp; try with_reducible rfl)
          (try simp only [List.getElem_toArray, List.getElem_cons_succ, List.getElem_cons_zero, Act.put, List.setIfInBounds_toArray, List.set_cons_zero, List.set_cons_succ])
          refine AnyE.take0 1 (v := ?_) rfl (by decide) (by kernel_rfl) (by kernel_rfl) (by kernel_rfl) (by kernel_rfl) (fun _ _ _ h => h) (by rfl) (fun _ => hH) ?_ ?_
          rotate_left; · (intro w; go_simp; try with_reducible rfl)
          (try simp only [List.getElem_toArray, List.getElem_cons_succ, List.getElem_cons_zero, Act.put, List.setIfInBounds_toArray, List.set_cons_zero, List.set_cons_succ])
          refine AnyE.take 2 [10, 9, 2] (v := ?_) rfl (by decide) (by kernel_rfl) (by kernel_rfl) (by kernel_rfl) (by kernel_rfl) (by kernel_rfl) (by kernel_rfl) (fun _ _ _ h => h) (by rfl) hH ?_ ?_
          rotate_left; · (intro w hSw; simp only [List.getElem_toArray, List.getElem_cons_succ, List.getElem_cons_zero, Act.put, List.setIfInBounds_toArray, List.set_cons_zero, List.set_cons_succ]; refine exec_load_agg (x := .tmp 95) (b := g) (off := 8) ?_ ?_ Try.underlying64 rfl (info64' hl1) (fun k hk => hSw.row1 (by rwa [agc_size, hl1] at hk)); rfl; rfl)
          (try simp only [List.getElem_toArray, List.getElem_cons_succ, List.getElem_cons_zero, Act.put, List.setIfInBounds_toArray, List.set_cons_zero, List.set_cons_succ])
          refine AnyE.take0 3 (v := ?_) rfl (by decide) (by kernel_rfl) (by kernel_rfl) (by kernel_rfl) (by kernel_rfl) (fun _ _ _ h => h) (by rfl) (fun _ => hH) ?_ ?_
          rotate_left; · (intro w; go_simp; try with_reducible rfl)
          (try simp only [List.getElem_toArray, List.getElem_cons_succ, List.getElem_cons_zero, Act.put, List.setIfInBounds_toArray, List.set_cons_zero, List.set_cons_succ])
          refine AnyE.take0 4 (v := ?_) rfl (by decide) (by kernel_rfl) (by kernel_rfl) (by kernel_rfl) (by kernel_rfl) (fun _ _ _ h => h) (by rfl) (fun _ => hH) ?_ ?_
          rotate_left; · (intro w; go_simp; try with_reducible rfl)
          (try simp only [List.getElem_toArray, List.getElem_cons_succ, List.getElem_cons_zero, Act.put, List.setIfInBounds_toArray, List.set_cons_zero, List.set_cons_succ])
          refine AnyE.take 5 [10, 8, 5] (v := ?_) rfl (by decide) (by kernel_rfl) (by kernel_rfl) (by kernel_rfl) (by kernel_rfl) (by kernel_rfl) (by kernel_rfl) (fun _ _ _ h => h) (by rfl) hH ?_ ?_
          rotate_left; · (intro w hSw; simp only [List.getElem_toArray, List.getElem_cons_succ, List.getElem_cons_zero, Act.put, List.setIfInBounds_toArray, List.set_cons_zero, List.set_cons_succ]; refine exec_load_agg (x := .tmp 98) (b := g) (off := 0) ?_ ?_ Try.underlying64 rfl (info64' hl0) (fun k hk => hSw.row0 (by rwa [agc_size, hl0] at hk)); rfl; rfl)
          (try simp only [List.getElem_toArray, List.getElem_cons_succ, List.getElem_cons_zero, Act.put, List.setIfInBounds_toArray, List.set_cons_zero, List.set_cons_succ])
          refine AnyE.take0 6 (v := ?_) rfl (by decide) (by kernel_rfl) (by kernel_rfl) (by kernel_rfl) (by kernel_rfl) (fun _ _ _ h => h) (by rfl) (fun _ => hH) ?_ ?_
          rotate_left; · (intro w; go_simp; try with_reducible rfl)
          (try simp only [List.getElem_toArray, List.getElem_cons_succ, List.getElem_cons_zero, Act.put, List.setIfInBounds_toArray, List.set_cons_zero, List.set_cons_succ])
          refine AnyE.one 7 rfl (by kernel_rfl) (fun K hK => ?_)
          rw [if_pos (show _ = true by rfl)]
          go_simp
          go_at_call 120
          (with_reducible refine (hx1 _).mono ?_); rintro e wx ⟨rfl, rfl⟩
          refine hK.out _ _ (fun _ => hH) ?_
          clear hK K
          (try simp only [List.getElem_toArray, List.getElem_cons_succ, List.getElem_cons_zero, Act.put, List.setIfInBounds_toArray, List.set_cons_zero, List.set_cons_succ])
          refine AnyE.one 8 rfl (by kernel_rfl) (fun K hK => ?_)
          rw [if_pos (show _ = true by rfl)]
          go_simp
          go_at_call 119
          (with_reducible refine (times_any _ hl0 _).mono ?_); rintro e w8 ⟨rfl, hb8⟩
          replace hH := hH.below hb8
          replace hB := below_then2 hB hb8
          refine hK.out _ _ (fun _ => hH) ?_
          clear hK K
          (try simp only [List.getElem_toArray, List.getElem_cons_succ, List.getElem_cons_zero, Act.put, List.setIfInBounds_toArray, List.set_cons_zero, List.set_cons_succ])
          refine AnyE.take0 9 (v := ?_) rfl (by decide) (by kernel_rfl) (by kernel_rfl) (by kernel_rfl) (by kernel_rfl) (fun _ _ _ h => h) (by rfl) (fun _ => hH) ?_ ?_
          rotate_left; · (intro w; simp only [List.getElem_toArray, List.getElem_cons_succ, List.getElem_cons_zero, Act.put, List.setIfInBounds_toArray, List.set_cons_zero, List.set_cons_succ]; refine exec_bin (t2 := 64) (x := .tmp 96) (y := .tmp 102) (r := .bool true) hc1 (guard64 _ _ _ _ _) ?_ ?_ ?_; rfl; rfl; rfl)
          (try simp only [List.getElem_toArray, List.getElem_cons_succ, List.getElem_cons_zero, Act.put, List.setIfInBounds_toArray, List.set_cons_zero, List.set_cons_succ])
          refine AnyE.take0 10 (v := ?_) rfl (by decide) (by kernel_rfl) (by kernel_rfl) (by kernel_rfl) (by kernel_rfl) (fun _ _ _ h => h) (by rfl) (fun _ => hH) ?_ ?_
          rotate_left; · (intro w; go_simp; try with_reducible rfl)
          (try simp only [List.getElem_toArray, List.getElem_cons_succ, List.getElem_cons_zero, Act.put, List.setIfInBounds_toArray, List.set_cons_zero, List.set_cons_succ])
          refine AnyE.take0 11 (v := ?_) rfl (by decide) (by kernel_rfl) (by kernel_rfl) (by kernel_rfl) (by kernel_rfl) (fun _ _ _ h => h) (by rfl) (fun _ => hH) ?_ ?_
          rotate_left; · (intro w; go_simp; try with_reducible rfl)
          (try simp only [List.getElem_toArray, List.getElem_cons_succ, List.getElem_cons_zero, Act.put, List.setIfInBounds_toArray, List.set_cons_zero, List.set_cons_succ])
          refine AnyE.take0 12 (v := ?_) rfl (by decide) (by kernel_rfl) (by kernel_rfl) (by kernel_rfl) (by kernel_rfl) (fun _ _ _ h => h) (by rfl) (fun _ => hH) ?_ ?_
          rotate_left; · (intro w; go_simp; try with_reducible rfl)
          (try simp only [List.getElem_toArray, List.getElem_cons_succ, List.getElem_cons_zero, Act.put, List.setIfInBounds_toArray, List.set_cons_zero, List.set_cons_succ])
          refine AnyE.take 13 [21, 13] (v := ?_) rfl (by decide) (by kernel_rfl) (by kernel_rfl) (by kernel_rfl) (by kernel_rfl) (by kernel_rfl) (by kernel_rfl) (fun _ _ _ h => h) (by rfl) hH ?_ ?_
          rotate_left; · (intro w hSw; simp only [List.getElem_toArray, List.getElem_cons_succ, List.getElem_cons_zero, Act.put, List.setIfInBounds_toArray, List.set_cons_zero, List.set_cons_succ]; refine exec_load_agg (x := .tmp 106) (b := g) (off := 16) ?_ ?_ Try.underlying64 rfl (info64' hl2) (fun k hk => hSw.row2 (by rwa [agc_size, hl2] at hk)); rfl; rfl)
          (try simp only [List.getElem_toArray, List.getElem_cons_succ, List.getElem_cons_zero, Act.put, List.setIfInBounds_toArray, List.set_cons_zero, List.set_cons_succ])
          refine AnyE.take0 14 (v := ?_) rfl (by decide) (by kernel_rfl) (by kernel_rfl) (by kernel_rfl) (by kernel_rfl) (fun _ _ _ h => h) (by rfl) (fun _ => hH) ?_ ?_
          rotate_left; · (intro w; go_simp; try with_reducible rfl)
          (try simp only [List.getElem_toArray, List.getElem_cons_succ, List.getElem_cons_zero, Act.put, List.setIfInBounds_toArray, List.set_cons_zero, List.set_cons_succ])
          refine AnyE.take0 15 (v := ?_) rfl (by decide) (by kernel_rfl) (by kernel_rfl) (by kernel_rfl) (by kernel_rfl) (fun _ _ _ h => h) (by rfl) (fun _ => hH) ?_ ?_
          rotate_left; · (intro w; go_simp; try with_reducible rfl)
          (try simp only [List.getElem_toArray, List.getElem_cons_succ, List.getElem_cons_zero, Act.put, List.setIfInBounds_toArray, List.set_cons_zero, List.set_cons_succ])
          refine AnyE.take 16 [21, 20, 16] (v := ?_) rfl (by decide) (by kernel_rfl) (by kernel_rfl) (by kernel_rfl) (by kernel_rfl) (by kernel_rfl) (by kernel_rfl) (fun _ _ _ h => h) (by rfl) hH ?_ ?_
          rotate_left; · (intro w hSw; simp only [List.getElem_toArray, List.getElem_cons_succ, List.getElem_cons_zero, Act.put, List.setIfInBounds_toArray, List.set_cons_zero, List.set_cons_succ]; refine exec_load_agg (x := .tmp 109) (b := g) (off := 0) ?_ ?_ Try.underlying64 rfl (info64' hl0) (fun k hk => hSw.row0 (by rwa [agc_size, hl0] at hk)); rfl; rfl)
          (try simp only [List.getElem_toArray, List.getElem_cons_succ, List.getElem_cons_zero, Act.put, List.setIfInBounds_toArray, List.set_cons_zero, List.set_cons_succ])
          refine AnyE.take0 17 (v := ?_) rfl (by decide) (by kernel_rfl) (by kernel_rfl) (by kernel_rfl) (by kernel_rfl) (fun _ _ _ h => h) (by rfl) (fun _ => hH) ?_ ?_
          rotate_left; · (intro w; go_simp; try with_reducible rfl)
          (try simp only [List.getElem_toArray, List.getElem_cons_succ, List.getElem_cons_zero, Act.put, List.setIfInBounds_toArray, List.set_cons_zero, List.set_cons_succ])
          refine AnyE.take0 18 (v := ?_) rfl (by decide) (by kernel_rfl) (by kernel_rfl) (by kernel_rfl) (by kernel_rfl) (fun _ _ _ h => h) (by rfl) (fun _ => hH) ?_ ?_
          rotate_left; · (intro w; go_simp; try with_reducible rfl)
          (try simp only [List.getElem_toArray, List.getElem_cons_succ, List.getElem_cons_zero, Act.put, List.setIfInBounds_toArray, List.set_cons_zero, List.set_cons_succ])
          refine AnyE.one 19 rfl (by kernel_rfl) (fun K hK => ?_)
          rw [if_pos (show _ = true by rfl)]
          go_simp
          go_at_call 120
          (with_reducible refine (hx2 _).mono ?_); rintro e wx ⟨rfl, rfl⟩
          refine hK.out _ _ (fun _ => hH) ?_
          clear hK K
          (try simp only [List.getElem_toArray, List.getElem_cons_succ, List.getElem_cons_zero, Act.put, List.setIfInBounds_toArray, List.set_cons_zero, List.set_cons_succ])
          refine AnyE.one 20 rfl (by kernel_rfl) (fun K hK => ?_)
          rw [if_pos (show _ = true by rfl)]
          go_simp
          go_at_call 119
          (with_reducible refine (times_any _ hl0 _).mono ?_); rintro e w20 ⟨rfl, hb20⟩
          replace hH := hH.below hb20
          replace hB := below_then2 hB hb20
          refine hK.out _ _ (fun _ => hH) ?_
          clear hK K
          (try simp only [List.getElem_toArray, List.getElem_cons_succ, List.getElem_cons_zero, Act.put, List.setIfInBounds_toArray, List.set_cons_zero, List.set_cons_succ])
          refine AnyE.take0 21 (v := ?_) rfl (by decide) (by kernel_rfl) (by kernel_rfl) (by kernel_rfl) (by kernel_rfl) (fun _ _ _ h => h) (by rfl) (fun _ => hH) ?_ ?_
          rotate_left; · (intro w; simp only [List.getElem_toArray, List.getElem_cons_succ, List.getElem_cons_zero, Act.put, List.setIfInBounds_toArray, List.set_cons_zero, List.set_cons_succ]; refine exec_bin (t2 := 64) (x := .tmp 107) (y := .tmp 114) (r := .bool false) hc2 (guard64 _ _ _ _ _) ?_ ?_ ?_; rfl; rfl; rfl)
          (try simp only [List.getElem_toArray, List.getElem_cons_succ, List.getElem_cons_zero, Act.put, List.setIfInBounds_toArray, List.set_cons_zero, List.set_cons_succ])
          refine AnyE.one 22 rfl (by kernel_rfl) (fun K hK => ?_)
          go_simp
          refine hK.out _ _ (fun e => Bool.noConfusion (show true = false from e)) ?_
          clear hK K
          (try simp only [List.getElem_toArray, List.getElem_cons_succ, List.getElem_cons_zero, Act.put, List.setIfInBounds_toArray, List.set_cons_zero, List.set_cons_succ])
          refine AnyE.done (by kernel_rfl) ?_ _
          go_wp2
          go_roundw
          case rel => exact ⟨i + 1, by omega, by go_num, hH, fun j hj => by
            rcases Nat.lt_succ_iff_lt_or_eq.1 hj with hj | rfl
            · exact hall.out j hj
            · exact hno.out, hB⟩
          case measure => simp [intOf]; omega
      · rw [decide_eq_false k1] at hc1
        have hno := Lib.hid (show locB M i = false by unfold locB; rw [decide_eq_false k1, Bool.false_and])
        replace k1 := Lib.hid k1
        go_wp2
        refine AnyE.region (fun w' => SynAt w' g gz M) 22 (by kernel_rfl) ?_
        have hH : SynAt wr.drew g gz M := hS.drewN 1
        replace hB : Below w.heap.size w wr.drew := below_drewN hB 1
        refine AnyE.take0 0 (v := ?_) rfl (by decide) (by kernel_rfl) (by kernel_rfl) (by kernel_rfl) (by kernel_rfl) (fun _ _ _ h => h) (by rfl) (fun _ => hH) ?_ ?_
        rotate_left; · (intro w; go_simp; try with_reducible rfl)
        (try simp only [List.getElem_toArray, List.getElem_cons_succ, List.getElem_cons_zero, Act.put, List.setIfInBounds_toArray, List.set_cons_zero, List.set_cons_succ])
        refine AnyE.take0 1 (v := ?_) rfl (by decide) (by kernel_rfl) (by kernel_rfl) (by kernel_rfl) (by kernel_rfl) (fun _ _ _ h => h) (by rfl) (fun _ => hH) ?_ ?_
        rotate_left; · (intro w; go_simp; try with_reducible rfl)
        (try simp only [List.getElem_toArray, List.getElem_cons_succ, List.getElem_cons_zero, Act.put, List.setIfInBounds_toArray, List.set_cons_zero, List.set_cons_succ])
        refine AnyE.take 2 [10, 9, 2] (v := ?_) rfl (by decide) (by kernel_rfl) (by kernel_rfl) (by kernel_rfl) (by kernel_rfl) (by kernel_rfl) (by kernel_rfl) (fun _ _ _ h => h) (by rfl) hH ?_ ?_
        rotate_left; · (intro w hSw; simp only [List.getElem_toArray, List.getElem_cons_succ, List.getElem_cons_zero, Act.put, List.setIfInBounds_toArray, List.set_cons_zero, List.set_cons_succ]; refine exec_load_agg (x := .tmp 95) (b := g) (off := 8) ?_ ?_ Try.underlying64 rfl (info64' hl1) (fun k hk => hSw.row1 (by rwa [agc_size, hl1] at hk)); rfl; rfl)
        (try simp only [List.getElem_toArray, List.getElem_cons_succ, List.getElem_cons_zero, Act.put, List.setIfInBounds_toArray, List.set_cons_zero, List.set_cons_succ])
        refine AnyE.take0 3 (v := ?_) rfl (by decide) (by kernel_rfl) (by kernel_rfl) (by kernel_rfl) (by kernel_rfl) (fun _ _ _ h => h) (by rfl) (fun _ => hH) ?_ ?_
        rotate_left; · (intro w; go_simp; try with_reducible rfl)
        (try simp only [List.getElem_toArray, List.getElem_cons_succ, List.getElem_cons_zero, Act.put, List.setIfInBounds_toArray, List.set_cons_zero, List.set_cons_succ])
        refine AnyE.take0 4 (v := ?_) rfl (by decide) (by kernel_rfl) (by kernel_rfl) (by kernel_rfl) (by kernel_rfl) (fun _ _ _ h => h) (by rfl) (fun _ => hH) ?_ ?_
        rotate_left; · (intro w; go_simp; try with_reducible rfl)
        (try simp only [List.getElem_toArray, List.getElem_cons_succ, List.getElem_cons_zero, Act.put, List.setIfInBounds_toArray, List.set_cons_zero, List.set_cons_succ])
        refine AnyE.take 5 [10, 8, 5] (v := ?_) rfl (by decide) (by kernel_rfl) (by kernel_rfl) (by kernel_rfl) (by kernel_rfl) (by kernel_rfl) (by kernel_rfl) (fun _ _ _ h => h) (by rfl) hH ?_ ?_
        rotate_left; · (intro w hSw; simp only [List.getElem_toArray, List.getElem_cons_succ, List.getElem_cons_zero, Act.put, List.setIfInBounds_toArray, List.set_cons_zero, List.set_cons_succ]; refine exec_load_agg (x := .tmp 98) (b := g) (off := 0) ?_ ?_ Try.underlying64 rfl (info64' hl0) (fun k hk => hSw.row0 (by rwa [agc_size, hl0] at hk)); rfl; rfl)
        (try simp only [List.getElem_toArray, List.getElem_cons_succ, List.getElem_cons_zero, Act.put, List.setIfInBounds_toArray, List.set_cons_zero, List.set_cons_succ])
        refine AnyE.take0 6 (v := ?_) rfl (by decide) (by kernel_rfl) (by kernel_rfl) (by kernel_rfl) (by kernel_rfl) (fun _ _ _ h => h) (by rfl) (fun _ => hH) ?_ ?_
        rotate_left; · (intro w; go_simp; try with_reducible rfl)
        (try simp only [List.getElem_toArray, List.getElem_cons_succ, List.getElem_cons_zero, Act.put, List.setIfInBounds_toArray, List.set_cons_zero, List.set_cons_succ])
        refine AnyE.one 7 rfl (by kernel_rfl) (fun K hK => ?_)
        rw [if_pos (show _ = true by rfl)]
        go_simp
        go_at_call 120
        (with_reducible refine (hx1 _).mono ?_); rintro e wx ⟨rfl, rfl⟩
        refine hK.out _ _ (fun _ => hH) ?_
        clear hK K
        (try simp only [List.getElem_toArray, List.getElem_cons_succ, List.getElem_cons_zero, Act.put, List.setIfInBounds_toArray, List.set_cons_zero, List.set_cons_succ])
        refine AnyE.one 8 rfl (by kernel_rfl) (fun K hK => ?_)
        rw [if_pos (show _ = true by rfl)]
        go_simp
        go_at_call 119
        (with_reducible refine (times_any _ hl0 _).mono ?_); rintro e w8 ⟨rfl, hb8⟩
        replace hH := hH.below hb8
        replace hB := below_then2 hB hb8
        refine hK.out _ _ (fun _ => hH) ?_
        clear hK K
        (try simp only [List.getElem_toArray, List.getElem_cons_succ, List.getElem_cons_zero, Act.put, List.setIfInBounds_toArray, List.set_cons_zero, List.set_cons_succ])
        refine AnyE.take0 9 (v := ?_) rfl (by decide) (by kernel_rfl) (by kernel_rfl) (by kernel_rfl) (by kernel_rfl) (fun _ _ _ h => h) (by rfl) (fun _ => hH) ?_ ?_
        rotate_left; · (intro w; simp only [List.getElem_toArray, List.getElem_cons_succ, List.getElem_cons_zero, Act.put, List.setIfInBounds_toArray, List.set_cons_zero, List.set_cons_succ]; refine exec_bin (t2 := 64) (x := .tmp 96) (y := .tmp 102) (r := .bool false) hc1 (guard64 _ _ _ _ _) ?_ ?_ ?_; rfl; rfl; rfl)
        (try simp only [List.getElem_toArray, List.getElem_cons_succ, List.getElem_cons_zero, Act.put, List.setIfInBounds_toArray, List.set_cons_zero, List.set_cons_succ])
        refine AnyE.take0 10 (v := ?_) rfl (by decide) (by kernel_rfl) (by kernel_rfl) (by kernel_rfl) (by kernel_rfl) (fun _ _ _ h => h) (by rfl) (fun _ => hH) ?_ ?_
        rotate_left; · (intro w; go_simp; try with_reducible rfl)
        (try simp only [List.getElem_toArray, List.getElem_cons_succ, List.getElem_cons_zero, Act.put, List.setIfInBounds_toArray, List.set_cons_zero, List.set_cons_succ])
        refine AnyE.skip 11 rfl (by decide) (by kernel_rfl) (by kernel_rfl) (by kernel_rfl) (by kernel_rfl) (fun _ _ _ h => h) (by rfl) (fun _ => hH) ?_
        (try simp only [List.getElem_toArray, List.getElem_cons_succ, List.getElem_cons_zero, Act.put, List.setIfInBounds_toArray, List.set_cons_zero, List.set_cons_succ])
        refine AnyE.skip 12 rfl (by decide) (by kernel_rfl) (by kernel_rfl) (by kernel_rfl) (by kernel_rfl) (fun _ _ _ h => h) (by rfl) (fun _ => hH) ?_
        (try simp only [List.getElem_toArray, List.getElem_cons_succ, List.getElem_cons_zero, Act.put, List.setIfInBounds_toArray, List.set_cons_zero, List.set_cons_succ])
        refine AnyE.skip 13 rfl (by decide) (by kernel_rfl) (by kernel_rfl) (by kernel_rfl) (by kernel_rfl) (fun _ _ _ h => h) (by rfl) (fun _ => hH) ?_
        (try simp only [List.getElem_toArray, List.getElem_cons_succ, List.getElem_cons_zero, Act.put, List.setIfInBounds_toArray, List.set_cons_zero, List.set_cons_succ])
        refine AnyE.skip 14 rfl (by decide) (by kernel_rfl) (by kernel_rfl) (by kernel_rfl) (by kernel_rfl) (fun _ _ _ h => h) (by rfl) (fun _ => hH) ?_
        (try simp only [List.getElem_toArray, List.getElem_cons_succ, List.getElem_cons_zero, Act.put, List.setIfInBounds_toArray, List.set_cons_zero, List.set_cons_succ])
        refine AnyE.skip 15 rfl (by decide) (by kernel_rfl) (by kernel_rfl) (by kernel_rfl) (by kernel_rfl) (fun _ _ _ h => h) (by rfl) (fun _ => hH) ?_
        (try simp only [List.getElem_toArray, List.getElem_cons_succ, List.getElem_cons_zero, Act.put, List.setIfInBounds_toArray, List.set_cons_zero, List.set_cons_succ])
        refine AnyE.skip 16 rfl (by decide) (by kernel_rfl) (by kernel_rfl) (by kernel_rfl) (by kernel_rfl) (fun _ _ _ h => h) (by rfl) (fun _ => hH) ?_
        (try simp only [List.getElem_toArray, List.getElem_cons_succ, List.getElem_cons_zero, Act.put, List.setIfInBounds_toArray, List.set_cons_zero, List.set_cons_succ])
        refine AnyE.skip 17 rfl (by decide) (by kernel_rfl) (by kernel_rfl) (by kernel_rfl) (by kernel_rfl) (fun _ _ _ h => h) (by rfl) (fun _ => hH) ?_
        (try simp only [List.getElem_toArray, List.getElem_cons_succ, List.getElem_cons_zero, Act.put, List.setIfInBounds_toArray, List.set_cons_zero, List.set_cons_succ])
        refine AnyE.skip 18 rfl (by decide) (by kernel_rfl) (by kernel_rfl) (by kernel_rfl) (by kernel_rfl) (fun _ _ _ h => h) (by rfl) (fun _ => hH) ?_
        (try simp only [List.getElem_toArray, List.getElem_cons_succ, List.getElem_cons_zero, Act.put, List.setIfInBounds_toArray, List.set_cons_zero, List.set_cons_succ])
        refine AnyE.skip 19 rfl (by decide) (by kernel_rfl) (by kernel_rfl) (by kernel_rfl) (by kernel_rfl) (fun _ _ _ h => h) (by rfl) (fun _ => hH) ?_
        (try simp only [List.getElem_toArray, List.getElem_cons_succ, List.getElem_cons_zero, Act.put, List.setIfInBounds_toArray, List.set_cons_zero, List.set_cons_succ])
        refine AnyE.skip 20 rfl (by decide) (by kernel_rfl) (by kernel_rfl) (by kernel_rfl) (by kernel_rfl) (fun _ _ _ h => h) (by rfl) (fun _ => hH) ?_
        (try simp only [List.getElem_toArray, List.getElem_cons_succ, List.getElem_cons_zero, Act.put, List.setIfInBounds_toArray, List.set_cons_zero, List.set_cons_succ])
        refine AnyE.skip 21 rfl (by decide) (by kernel_rfl) (by kernel_rfl) (by kernel_rfl) (by kernel_rfl) (fun _ _ _ h => h) (by rfl) (fun _ => hH) ?_
        (try simp only [List.getElem_toArray, List.getElem_cons_succ, List.getElem_cons_zero, Act.put, List.setIfInBounds_toArray, List.set_cons_zero, List.set_cons_succ])
        refine AnyE.one 22 rfl (by kernel_rfl) (fun K hK => ?_)
        go_simp
        refine hK.out _ _ (fun e => Bool.noConfusion (show true = false from e)) ?_
        clear hK K
        (try simp only [List.getElem_toArray, List.getElem_cons_succ, List.getElem_cons_zero, Act.put, List.setIfInBounds_toArray, List.set_cons_zero, List.set_cons_succ])
        refine AnyE.done (by kernel_rfl) ?_ _
        go_wp2
        go_roundw
        case rel => exact ⟨i + 1, by omega, by go_num, hH, fun j hj => by
          rcases Nat.lt_succ_iff_lt_or_eq.1 hj with hj | rfl
          · exact hall.out j hj
          · exact hno.out, hB⟩
        case measure => simp [intOf]; omega
    · obtain rfl : i = n := by omega
      go_wp2
      go_ret2
      exact ⟨_, _, rfl, LocRes.many hs0.out hs12.out hall.out, hB⟩
end
end Go.Proofs.Ytifhjigkljdkmaa
