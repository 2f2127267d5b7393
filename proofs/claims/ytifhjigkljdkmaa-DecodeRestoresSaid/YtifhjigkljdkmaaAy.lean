/- decode.Locate, whole; tegulalaw04.awake (65) returns true. -/
import Derived.Test.YtifhjigkljdkmaaLp
namespace Go.Proofs.Ytifhjigkljdkmaa
open Go.RowKit
open Gf (F)
set_option linter.unusedSimpArgs false
set_option linter.unusedVariables false
section
variable {p q : Nat → Prop} {w : World} {A : Option Addr} {n c wd : Nat} {M : List (List F)}
set_option maxRecDepth 100000 in
set_option maxHeartbeats 4000000 in
theorem loc_000 (h4 : 4 ≤ wd) (h16 : wd ≤ 16) (hn : n = wd - 3) (h : Blks p w A wd c M) (h0 : mrow (synM M) 0 ≠ zeroL 8) (h1 : mrow (synM M) 1 ≠ zeroL 8) (h2 : mrow (synM M) 2 ≠ zeroL 8) : Calls Try.prog 80 #[.slice A wd c] w fun e w' => ∃ r er, e = .returned (.tuple #[.int .i64 r, .int .i64 er]) ∧ LocRes n M r er ∧ Below w.heap.size w w' := by
  have e3 : (wd : Int) - 3 = (n : Int) := by omega
  have hn13 : n ≤ 13 := by omega
  have hl0 := synM_row M (j := 0) (by decide)
  have hr0 := fun w => eql64 hl0 z8 w
  rw [decide_eq_false h0] at hr0
  have hl1 := synM_row M (j := 1) (by decide)
  have hr1 := fun w => eql64 hl1 z8 w
  rw [decide_eq_false h1] at hr1
  have hl2 := synM_row M (j := 2) (by decide)
  have hr2 := fun w => eql64 hl2 z8 w
  rw [decide_eq_false h2] at hr2
  have hs0 := Lib.hid h0
  have hs1 := Lib.hid h1
  have hs2 := Lib.hid h2
  have hs12 := Lib.hid (show ¬ (mrow (synM M) 1 = zeroL 8 ∧ mrow (synM M) 2 = zeroL 8) from fun e => h1 e.1)
  clear h0 h1 h2
  replace hn := Lib.hid hn
  go_enter Try.func80, Try.ntmps80
  go_wp2_with (go_at_call 76; (with_reducible refine (syn_any h4 h16 h).mono ?_); rintro e w1 ⟨g, rfl, hg, hsy, hb1⟩)
  have hz1 := zero_row8 w1 64
  have hba : Below w1.heap.size w1 (w1.alloc (.cells #[.int .u8 0, .int .u8 0, .int .u8 0, .int .u8 0, .int .u8 0, .int .u8 0, .int .u8 0, .int .u8 0] 64)) := (Below.refl _ _).alloc (Nat.le_refl _) _
  have hS : SynAt (w1.alloc (.cells #[.int .u8 0, .int .u8 0, .int .u8 0, .int .u8 0, .int .u8 0, .int .u8 0, .int .u8 0, .int .u8 0] 64)) g w1.heap.size M := ⟨hsy.below hba, hz1⟩
  have hB := below_then2 hb1 hba
  obtain ⟨gz, hgz⟩ : ∃ gz, gz = w1.heap.size := ⟨_, rfl⟩
  obtain ⟨wa, hwa⟩ : ∃ wa, wa = w1.alloc (.cells #[.int .u8 0, .int .u8 0, .int .u8 0, .int .u8 0, .int .u8 0, .int .u8 0, .int .u8 0, .int .u8 0] 64) := ⟨_, rfl⟩
  rw [← hwa, ← hgz] at hS ⊢
  rw [← hwa] at hB
  clear hwa hgz hba hz1 hsy
  obtain ⟨e0, e1, e2, ez⟩ := hS.cells
  refine wp_region_quiet_lit (by kernel_rfl) (by kernel_rfl) ?_
  quiet_step (fail)
  quiet_step (fail)
  refine BigFrame.wpQuiet_want rfl (fun K hK => ?_)
  refine quiet_load_agg rfl rfl Try.underlying64 rfl (info64' hl0) (fun k hk => e0 k (by rwa [agc_size, hl0] at hk)) ?_
  refine hK _ ?_
  clear hK K
  simp only [Act.put, List.setIfInBounds_toArray, List.set_cons_zero, List.set_cons_succ]
  refine BigFrame.wpQuiet_want rfl (fun K hK => ?_)
  refine quiet_load_agg rfl rfl Try.underlying64 rfl (info64' z8) (fun k hk => ez k (by rwa [agc_size, z8] at hk)) ?_
  refine hK _ ?_
  clear hK K
  simp only [Act.put, List.setIfInBounds_toArray, List.set_cons_zero, List.set_cons_succ]
  refine BigFrame.wpQuiet_want rfl (fun K hK => ?_)
  refine quiet_bin rfl rfl rfl (guard64 _ _ _ _ _) hr0 ?_
  refine hK _ ?_
  clear hK K
  simp only [Act.put, List.setIfInBounds_toArray, List.set_cons_zero, List.set_cons_succ]
  quiet_step (fail)
  quiet_step (fail)
  quiet_step (fail)
  quiet_step (fail)
  quiet_step (fail)
  quiet_step (fail)
  quiet_step (fail)
  quiet_step (fail)
  quiet_step (fail)
  quiet_step (fail)
  quiet_step (fail)
  quiet_step (fail)
  quiet_step (fail)
  quiet_step (fail)
  quiet_step (fail)
  refine wpQuiet_nil ?_
  intro _ hw'
  obtain ⟨nq, hw''⟩ := hw'
  subst hw''
  skip
  obtain ⟨wq, hq⟩ : ∃ wq, wq = wa.drewN nq := ⟨_, rfl⟩
  replace hS := (show SynAt wq g gz M from hq ▸ hS.drewN nq)
  replace hB := (show Below w.heap.size w wq from hq ▸ below_drewN hB nq)
  rw [← hq]
  clear hq e0 e1 e2 ez
  obtain ⟨e0, e1, e2, ez⟩ := hS.cells
  obtain ⟨wq0, rfl⟩ : ∃ x : World, x = wq := ⟨_, rfl⟩
  go_wp2
  refine wp_region_quiet_lit (by kernel_rfl) (by kernel_rfl) ?_
  quiet_step (fail)
  quiet_step (fail)
  refine BigFrame.wpQuiet_want rfl (fun K hK => ?_)
  refine quiet_load_agg rfl rfl Try.underlying64 rfl (info64' hl1) (fun k hk => e1 k (by rwa [agc_size, hl1] at hk)) ?_
  refine hK _ ?_
  clear hK K
  simp only [Act.put, List.setIfInBounds_toArray, List.set_cons_zero, List.set_cons_succ]
  refine BigFrame.wpQuiet_want rfl (fun K hK => ?_)
  refine quiet_load_agg rfl rfl Try.underlying64 rfl (info64' z8) (fun k hk => ez k (by rwa [agc_size, z8] at hk)) ?_
  refine hK _ ?_
  clear hK K
  simp only [Act.put, List.setIfInBounds_toArray, List.set_cons_zero, List.set_cons_succ]
  refine BigFrame.wpQuiet_want rfl (fun K hK => ?_)
  refine quiet_bin rfl rfl rfl (guard64 _ _ _ _ _) hr1 ?_
  refine hK _ ?_
  clear hK K
  simp only [Act.put, List.setIfInBounds_toArray, List.set_cons_zero, List.set_cons_succ]
  quiet_step (fail)
  quiet_step (fail)
  quiet_step (fail)
  quiet_step (fail)
  quiet_step (fail)
  quiet_step (fail)
  quiet_step (fail)
  quiet_step (fail)
  refine wpQuiet_nil ?_
  intro _ hw'
  obtain ⟨nq, hw''⟩ := hw'
  subst hw''
  skip
  obtain ⟨wq, hq⟩ : ∃ wq, wq = wq0.drewN nq := ⟨_, rfl⟩
  replace hS := (show SynAt wq g gz M from hq ▸ hS.drewN nq)
  replace hB := (show Below w.heap.size w wq from hq ▸ below_drewN hB nq)
  rw [← hq]
  clear hq e0 e1 e2 ez
  obtain ⟨e0, e1, e2, ez⟩ := hS.cells
  obtain ⟨wq1, rfl⟩ : ∃ x : World, x = wq := ⟨_, rfl⟩
  go_wp2
  refine wp_region_quiet_lit (by kernel_rfl) (by kernel_rfl) ?_
  quiet_step (fail)
  quiet_step (fail)
  refine BigFrame.wpQuiet_want rfl (fun K hK => ?_)
  refine quiet_load_agg rfl rfl Try.underlying64 rfl (info64' hl0) (fun k hk => e0 k (by rwa [agc_size, hl0] at hk)) ?_
  refine hK _ ?_
  clear hK K
  simp only [Act.put, List.setIfInBounds_toArray, List.set_cons_zero, List.set_cons_succ]
  refine BigFrame.wpQuiet_want rfl (fun K hK => ?_)
  refine quiet_load_agg rfl rfl Try.underlying64 rfl (info64' z8) (fun k hk => ez k (by rwa [agc_size, z8] at hk)) ?_
  refine hK _ ?_
  clear hK K
  simp only [Act.put, List.setIfInBounds_toArray, List.set_cons_zero, List.set_cons_succ]
  refine BigFrame.wpQuiet_want rfl (fun K hK => ?_)
  refine quiet_bin rfl rfl rfl (guard64 _ _ _ _ _) hr0 ?_
  refine hK _ ?_
  clear hK K
  simp only [Act.put, List.setIfInBounds_toArray, List.set_cons_zero, List.set_cons_succ]
  quiet_step (fail)
  quiet_step (fail)
  quiet_step (fail)
  quiet_step (fail)
  quiet_step (fail)
  quiet_step (fail)
  quiet_step (fail)
  quiet_step (fail)
  refine wpQuiet_nil ?_
  intro _ hw'
  obtain ⟨nq, hw''⟩ := hw'
  subst hw''
  skip
  obtain ⟨wq, hq⟩ : ∃ wq, wq = wq1.drewN nq := ⟨_, rfl⟩
  replace hS := (show SynAt wq g gz M from hq ▸ hS.drewN nq)
  replace hB := (show Below w.heap.size w wq from hq ▸ below_drewN hB nq)
  rw [← hq]
  clear hq e0 e1 e2 ez
  obtain ⟨e0, e1, e2, ez⟩ := hS.cells
  obtain ⟨wq2, rfl⟩ : ∃ x : World, x = wq := ⟨_, rfl⟩
  go_wp2
  refine wp_region_quiet_lit (by kernel_rfl) (by kernel_rfl) ?_
  quiet_step (fail)
  quiet_step (fail)
  refine BigFrame.wpQuiet_want rfl (fun K hK => ?_)
  refine quiet_load_agg rfl rfl Try.underlying64 rfl (info64' hl0) (fun k hk => e0 k (by rwa [agc_size, hl0] at hk)) ?_
  refine hK _ ?_
  clear hK K
  simp only [Act.put, List.setIfInBounds_toArray, List.set_cons_zero, List.set_cons_succ]
  refine BigFrame.wpQuiet_want rfl (fun K hK => ?_)
  refine quiet_load_agg rfl rfl Try.underlying64 rfl (info64' z8) (fun k hk => ez k (by rwa [agc_size, z8] at hk)) ?_
  refine hK _ ?_
  clear hK K
  simp only [Act.put, List.setIfInBounds_toArray, List.set_cons_zero, List.set_cons_succ]
  refine BigFrame.wpQuiet_want rfl (fun K hK => ?_)
  refine quiet_bin rfl rfl rfl (guard64 _ _ _ _ _) hr0 ?_
  refine hK _ ?_
  clear hK K
  simp only [Act.put, List.setIfInBounds_toArray, List.set_cons_zero, List.set_cons_succ]
  quiet_step (fail)
  quiet_step (fail)
  quiet_step (fail)
  quiet_step (fail)
  quiet_step (fail)
  quiet_step (fail)
  quiet_step (fail)
  quiet_step (fail)
  refine wpQuiet_nil ?_
  intro _ hw'
  obtain ⟨nq, hw''⟩ := hw'
  subst hw''
  skip
  obtain ⟨wq, hq⟩ : ∃ wq, wq = wq2.drewN nq := ⟨_, rfl⟩
  replace hS := (show SynAt wq g gz M from hq ▸ hS.drewN nq)
  replace hB := (show Below w.heap.size w wq from hq ▸ below_drewN hB nq)
  rw [← hq]
  clear hq e0 e1 e2 ez
  obtain ⟨e0, e1, e2, ez⟩ := hS.cells
  obtain ⟨wq3, rfl⟩ : ∃ x : World, x = wq := ⟨_, rfl⟩
  go_wp2
  refine wp_region_quiet_lit (by kernel_rfl) (by kernel_rfl) ?_
  quiet_step (fail)
  quiet_step (fail)
  refine BigFrame.wpQuiet_want rfl (fun K hK => ?_)
  refine quiet_load_agg rfl rfl Try.underlying64 rfl (info64' hl0) (fun k hk => e0 k (by rwa [agc_size, hl0] at hk)) ?_
  refine hK _ ?_
  clear hK K
  simp only [Act.put, List.setIfInBounds_toArray, List.set_cons_zero, List.set_cons_succ]
  refine BigFrame.wpQuiet_want rfl (fun K hK => ?_)
  refine quiet_load_agg rfl rfl Try.underlying64 rfl (info64' z8) (fun k hk => ez k (by rwa [agc_size, z8] at hk)) ?_
  refine hK _ ?_
  clear hK K
  simp only [Act.put, List.setIfInBounds_toArray, List.set_cons_zero, List.set_cons_succ]
  refine BigFrame.wpQuiet_want rfl (fun K hK => ?_)
  refine quiet_bin rfl rfl rfl (guard64 _ _ _ _ _) hr0 ?_
  refine hK _ ?_
  clear hK K
  simp only [Act.put, List.setIfInBounds_toArray, List.set_cons_zero, List.set_cons_succ]
  quiet_step (fail)
  refine wpQuiet_nil ?_
  intro _ hw'
  obtain ⟨nq, hw''⟩ := hw'
  subst hw''
  skip
  obtain ⟨wq, hq⟩ : ∃ wq, wq = wq3.drewN nq := ⟨_, rfl⟩
  replace hS := (show SynAt wq g gz M from hq ▸ hS.drewN nq)
  replace hB := (show Below w.heap.size w wq from hq ▸ below_drewN hB nq)
  rw [← hq]
  clear hq e0 e1 e2 ez
  obtain ⟨e0, e1, e2, ez⟩ := hS.cells
  obtain ⟨wq4, rfl⟩ : ∃ x : World, x = wq := ⟨_, rfl⟩
  go_wp2
  go_loopw [91] (fun x wr => ∃ i : Nat, i ≤ n ∧ x = .int .i64 i ∧ SynAt wr g gz M ∧ (∀ j, j < i → locB M j = false) ∧ Below w.heap.size w wr) (fun x _ => n - (intOf x).toNat)
  case atStart => exact ⟨0, by omega, rfl, hS, fun j hj => absurd hj (Nat.not_lt_zero _), hB⟩
  case round =>
    obtain ⟨i, hi, rfl, hS, hall, hB⟩ := hrel
    replace hall := Lib.hid hall
    by_cases hlti : i < n
    · have d1 : (0 : Int) ≤ (i : Int) := Int.natCast_nonneg _
      have d2 : (i : Int) < (n : Int) := by omega
      have hx1 : ∀ w, Calls Try.prog 120 #[.int .i64 (i : Int)] w fun e w' => e = .returned (.int .u8 ((Gf.pow 2 i).toNat : Int)) ∧ w = w' := fun w => exp_any i (by omega) w
      have hx2 : ∀ w, Calls Try.prog 120 #[.int .i64 (IntKind.i64.wrap (2 * (i : Int)))] w fun e w' => e = .returned (.int .u8 ((Gf.pow 2 (2 * i)).toNat : Int)) ∧ w = w' := fun w => by rw [IntWalk.i64_in _ (by omega)]; have := exp_any (2 * i) (by omega) w; rwa [Int.natCast_mul] at this
      have hc1 := fun w => eql64 hl1 (sclB_length (Gf.pow 2 i) (mrow (synM M) 0)) w
      have hc2 := fun w => eql64 hl2 (sclB_length (Gf.pow 2 (2 * i)) (mrow (synM M) 0)) w
      by_cases k1 : mrow (synM M) 1 = sclB (Gf.pow 2 i) (mrow (synM M) 0)
      · rw [decide_eq_true k1] at hc1
        by_cases k2 : mrow (synM M) 2 = sclB (Gf.pow 2 (2 * i)) (mrow (synM M) 0)
        · rw [decide_eq_true k2] at hc2
          have hyes := Lib.hid (show locB M i = true by unfold locB; rw [decide_eq_true k1, decide_eq_true k2]; rfl)
          replace k1 := Lib.hid k1
          replace k2 := Lib.hid k2
          go_wp2
          refine AnyE.region (fun w' => SynAt w' g gz M) 22 (by kernel_rfl) ?_
          have hH : SynAt wr.drew g gz M := hS.drewN 1
          replace hB : Below w.heap.size w wr.drew := below_drewN hB 1
          refine AnyE.take0 0 (v := ?_) rfl (by decide) (by kernel_rfl) (by kernel_rfl) (by kernel_rfl) (by kernel_rfl) (fun _ _ _ h => h) (by rfl) (fun _ => hH) ?_ ?_
          rotate_left; · (intro w; go_simp; try with_reducible rfl)
          (try simp only [List.getElem_toArray, List.getElem_cons_succ, List.getElem_cons_zero, Act.put, List.setIfInBounds_toArray, List.set_cons_zero, List.set_cons_succ])
          refine AnyE.take0 1 (v := ?_) rfl (by decide) (by kernel_rfl) (by kernel_rfl) (by kernel_rfl) (by kernel_rfl) (fun _ _ _ h => h) (by rfl) (fun _ => hH) ?_ ?_
          rotate_left; · (intro w; go_simp; try with_reducible rfl)
          (try simp only [List.getElem_toArray, List.getElem_cons_succ, List.getElem_cons_zero, Act.put, List.setIfInBounds_toArray, List.set_cons_zero, List.set_cons_succ])
          refine AnyE.take 2 [10, 9, 2] (v := ?_) rfl (by decide) (by kernel_rfl) (by kernel_rfl) (by kernel_rfl) (by kernel_rfl) (by kernel_rfl) (by kernel_rfl) (fun _ _ _ h => h) (by rfl) hH ?_ ?_
          rotate_left; · (intro w hSw; simp only [List.getElem_toArray, List.getElem_cons_succ, List.getElem_cons_zero, Act.put, List.setIfInBounds_toArray, List.set_cons_zero, List.set_cons_succ]; refine exec_load_agg (x := .tmp 95) (b := g) (off := 8) ?_ ?_ Try.underlying64 rfl (info64' hl1) (fun k hk => hSw.row1 (by rwa [agc_size, hl1] at hk)); rfl; rfl)
          (try simp only [List.getElem_toArray, List.getElem_cons_succ, List.getElem_cons_zero, Act.put, List.setIfInBounds_toArray, List.set_cons_zero, List.set_cons_succ])
          refine AnyE.take0 3 (v := ?_) rfl (by decide) (by kernel_rfl) (by kernel_rfl) (by kernel_rfl) (by kernel_rfl) (fun _ _ _ h => h) (by rfl) (fun _ => hH) ?_ ?_
          rotate_left; · (intro w; go_simp; try with_reducible rfl)
          (try simp only [List.getElem_toArray, List.getElem_cons_succ, List.getElem_cons_zero, Act.put, List.setIfInBounds_toArray, List.set_cons_zero, List.set_cons_succ])
          refine AnyE.take0 4 (v := ?_) rfl (by decide) (by kernel_rfl) (by kernel_rfl) (by kernel_rfl) (by kernel_rfl) (fun _ _ _ h => h) (by rfl) (fun _ => hH) ?_ ?_
          rotate_left; · (intro w; go_simp; try with_reducible rfl)
          (try simp only [List.getElem_toArray, List.getElem_cons_succ, List.getElem_cons_zero, Act.put, List.setIfInBounds_toArray, List.set_cons_zero, List.set_cons_succ])
          refine AnyE.take 5 [10, 8, 5] (v := ?_) rfl (by decide) (by kernel_rfl) (by kernel_rfl) (by kernel_rfl) (by kernel_rfl) (by kernel_rfl) (by kernel_rfl) (fun _ _ _ h => h) (by rfl) hH ?_ ?_
          rotate_left; · (intro w hSw; simp only [List.getElem_toArray, List.getElem_cons_succ, List.getElem_cons_zero, Act.put, List.setIfInBounds_toArray, List.set_cons_zero, List.set_cons_succ]; refine exec_load_agg (x := .tmp 98) (b := g) (off := 0) ?_ ?_ Try.underlying64 rfl (info64' hl0) (fun k hk => hSw.row0 (by rwa [agc_size, hl0] at hk)); rfl; rfl)
          (try simp only [List.getElem_toArray, List.getElem_cons_succ, List.getElem_cons_zero, Act.put, List.setIfInBounds_toArray, List.set_cons_zero, List.set_cons_succ])
          refine AnyE.take0 6 (v := ?_) rfl (by decide) (by kernel_rfl) (by kernel_rfl) (by kernel_rfl) (by kernel_rfl) (fun _ _ _ h => h) (by rfl) (fun _ => hH) ?_ ?_
          rotate_left; · (intro w; go_simp; try with_reducible rfl)
          (try simp only [List.getElem_toArray, List.getElem_cons_succ, List.getElem_cons_zero, Act.put, List.setIfInBounds_toArray, List.set_cons_zero, List.set_cons_succ])
          refine AnyE.one 7 rfl (by kernel_rfl) (fun K hK => ?_)
          rw [if_pos (show _ = true by rfl)]
          go_simp
          go_at_call 120
          (with_reducible refine (hx1 _).mono ?_); rintro e wx ⟨rfl, rfl⟩
          refine hK.out _ _ (fun _ => hH) ?_
          clear hK K
          (try simp only [List.getElem_toArray, List.getElem_cons_succ, List.getElem_cons_zero, Act.put, List.setIfInBounds_toArray, List.set_cons_zero, List.set_cons_succ])
          refine AnyE.one 8 rfl (by kernel_rfl) (fun K hK => ?_)
          rw [if_pos (show _ = true by rfl)]
          go_simp
          go_at_call 119
          (with_reducible refine (times_any _ hl0 _).mono ?_); rintro e w8 ⟨rfl, hb8⟩
          replace hH := hH.below hb8
          replace hB := below_then2 hB hb8
          refine hK.out _ _ (fun _ => hH) ?_
          clear hK K
          (try simp only [List.getElem_toArray, List.getElem_cons_succ, List.getElem_cons_zero, Act.put, List.setIfInBounds_toArray, List.set_cons_zero, List.set_cons_succ])
          refine AnyE.take0 9 (v := ?_) rfl (by decide) (by kernel_rfl) (by kernel_rfl) (by kernel_rfl) (by kernel_rfl) (fun _ _ _ h => h) (by rfl) (fun _ => hH) ?_ ?_
          rotate_left; · (intro w; simp only [List.getElem_toArray, List.getElem_cons_succ, List.getElem_cons_zero, Act.put, List.setIfInBounds_toArray, List.set_cons_zero, List.set_cons_succ]; refine exec_bin (t2 := 64) (x := .tmp 96) (y := .tmp 102) (r := .bool true) hc1 (guard64 _ _ _ _ _) ?_ ?_ ?_; rfl; rfl; rfl)
          (try simp only [List.getElem_toArray, List.getElem_cons_succ, List.getElem_cons_zero, Act.put, List.setIfInBounds_toArray, List.set_cons_zero, List.set_cons_succ])
          refine AnyE.take0 10 (v := ?_) rfl (by decide) (by kernel_rfl) (by kernel_rfl) (by kernel_rfl) (by kernel_rfl) (fun _ _ _ h => h) (by rfl) (fun _ => hH) ?_ ?_
          rotate_left; · (intro w; go_simp; try with_reducible rfl)
          (try simp only [List.getElem_toArray, List.getElem_cons_succ, List.getElem_cons_zero, Act.put, List.setIfInBounds_toArray, List.set_cons_zero, List.set_cons_succ])
          refine AnyE.take0 11 (v := ?_) rfl (by decide) (by kernel_rfl) (by kernel_rfl) (by kernel_rfl) (by kernel_rfl) (fun _ _ _ h => h) (by rfl) (fun _ => hH) ?_ ?_
          rotate_left; · (intro w; go_simp; try with_reducible rfl)
          (try simp only [List.getElem_toArray, List.getElem_cons_succ, List.getElem_cons_zero, Act.put, List.setIfInBounds_toArray, List.set_cons_zero, List.set_cons_succ])
          refine AnyE.take0 12 (v := ?_) rfl (by decide) (by kernel_rfl) (by kernel_rfl) (by kernel_rfl) (by kernel_rfl) (fun _ _ _ h => h) (by rfl) (fun _ => hH) ?_ ?_
          rotate_left; · (intro w; go_simp; try with_reducible rfl)
          (try simp only [List.getElem_toArray, List.getElem_cons_succ, List.getElem_cons_zero, Act.put, List.setIfInBounds_toArray, List.set_cons_zero, List.set_cons_succ])
          refine AnyE.take 13 [21, 13] (v := ?_) rfl (by decide) (by kernel_rfl) (by kernel_rfl) (by kernel_rfl) (by kernel_rfl) (by kernel_rfl) (by kernel_rfl) (fun _ _ _ h => h) (by rfl) hH ?_ ?_
          rotate_left; · (intro w hSw; simp only [List.getElem_toArray, List.getElem_cons_succ, List.getElem_cons_zero, Act.put, List.setIfInBounds_toArray, List.set_cons_zero, List.set_cons_succ]; refine exec_load_agg (x := .tmp 106) (b := g) (off := 16) ?_ ?_ Try.underlying64 rfl (info64' hl2) (fun k hk => hSw.row2 (by rwa [agc_size, hl2] at hk)); rfl; rfl)
          (try simp only [List.getElem_toArray, List.getElem_cons_succ, List.getElem_cons_zero, Act.put, List.setIfInBounds_toArray, List.set_cons_zero, List.set_cons_succ])
          refine AnyE.take0 14 (v := ?_) rfl (by decide) (by kernel_rfl) (by kernel_rfl) (by kernel_rfl) (by kernel_rfl) (fun _ _ _ h => h) (by rfl) (fun _ => hH) ?_ ?_
          rotate_left; · (intro w; go_simp; try with_reducible rfl)
          (try simp only [List.getElem_toArray, List.getElem_cons_succ, List.getElem_cons_zero, Act.put, List.setIfInBounds_toArray, List.set_cons_zero, List.set_cons_succ])
          refine AnyE.take0 15 (v := ?_) rfl (by decide) (by kernel_rfl) (by kernel_rfl) (by kernel_rfl) (by kernel_rfl) (fun _ _ _ h => h) (by rfl) (fun _ => hH) ?_ ?_
          rotate_left; · (intro w; go_simp; try with_reducible rfl)
          (try simp only [List.getElem_toArray, List.getElem_cons_succ, List.getElem_cons_zero, Act.put, List.setIfInBounds_toArray, List.set_cons_zero, List.set_cons_succ])
          refine AnyE.take 16 [21, 20, 16] (v := ?_) rfl (by decide) (by kernel_rfl) (by kernel_rfl) (by kernel_rfl) (by kernel_rfl) (by kernel_rfl) (by kernel_rfl) (fun _ _ _ h => h) (by rfl) hH ?_ ?_
          rotate_left; · (intro w hSw; simp only [List.getElem_toArray, List.getElem_cons_succ, List.getElem_cons_zero, Act.put, List.setIfInBounds_toArray, List.set_cons_zero, List.set_cons_succ]; refine exec_load_agg (x := .tmp 109) (b := g) (off := 0) ?_ ?_ Try.underlying64 rfl (info64' hl0) (fun k hk => hSw.row0 (by rwa [agc_size, hl0] at hk)); rfl; rfl)
          (try simp only [List.getElem_toArray, List.getElem_cons_succ, List.getElem_cons_zero, Act.put, List.setIfInBounds_toArray, List.set_cons_zero, List.set_cons_succ])
          refine AnyE.take0 17 (v := ?_) rfl (by decide) (by kernel_rfl) (by kernel_rfl) (by kernel_rfl) (by kernel_rfl) (fun _ _ _ h => h) (by rfl) (fun _ => hH) ?_ ?_
          rotate_left; · (intro w; go_simp; try with_reducible rfl)
          (try simp only [List.getElem_toArray, List.getElem_cons_succ, List.getElem_cons_zero, Act.put, List.setIfInBounds_toArray, List.set_cons_zero, List.set_cons_succ])
          refine AnyE.take0 18 (v := ?_) rfl (by decide) (by kernel_rfl) (by kernel_rfl) (by kernel_rfl) (by kernel_rfl) (fun _ _ _ h => h) (by rfl) (fun _ => hH) ?_ ?_
          rotate_left; · (intro w; go_simp; try with_reducible rfl)
          (try simp only [List.getElem_toArray, List.getElem_cons_succ, List.getElem_cons_zero, Act.put, List.setIfInBounds_toArray, List.set_cons_zero, List.set_cons_succ])
          refine AnyE.one 19 rfl (by kernel_rfl) (fun K hK => ?_)
          rw [if_pos (show _ = true by rfl)]
          go_simp
          go_at_call 120
          (with_reducible refine (hx2 _).mono ?_); rintro e wx ⟨rfl, rfl⟩
          refine hK.out _ _ (fun _ => hH) ?_
          clear hK K
          (try simp only [List.getElem_toArray, List.getElem_cons_succ, List.getElem_cons_zero, Act.put, List.setIfInBounds_toArray, List.set_cons_zero, List.set_cons_succ])
          refine AnyE.one 20 rfl (by kernel_rfl) (fun K hK => ?_)
          rw [if_pos (show _ = true by rfl)]
          go_simp
          go_at_call 119
          (with_reducible refine (times_any _ hl0 _).mono ?_); rintro e w20 ⟨rfl, hb20⟩
          replace hH := hH.below hb20
          replace hB := below_then2 hB hb20
          refine hK.out _ _ (fun _ => hH) ?_
          clear hK K
          (try simp only [List.getElem_toArray, List.getElem_cons_succ, List.getElem_cons_zero, Act.put, List.setIfInBounds_toArray, List.set_cons_zero, List.set_cons_succ])
          refine AnyE.take0 21 (v := ?_) rfl (by decide) (by kernel_rfl) (by kernel_rfl) (by kernel_rfl) (by kernel_rfl) (fun _ _ _ h => h) (by rfl) (fun _ => hH) ?_ ?_
          rotate_left; · (intro w; simp only [List.getElem_toArray, List.getElem_cons_succ, List.getElem_cons_zero, Act.put, List.setIfInBounds_toArray, List.set_cons_zero, List.set_cons_succ]; refine exec_bin (t2 := 64) (x := .tmp 107) (y := .tmp 114) (r := .bool true) hc2 (guard64 _ _ _ _ _) ?_ ?_ ?_; rfl; rfl; rfl)
          (try simp only [List.getElem_toArray, List.getElem_cons_succ, List.getElem_cons_zero, Act.put, List.setIfInBounds_toArray, List.set_cons_zero, List.set_cons_succ])
          refine AnyE.one 22 rfl (by kernel_rfl) (fun K hK => ?_)
          go_simp
          refine hK.out _ _ (fun e => Bool.noConfusion (show true = false from e)) ?_
          clear hK K
          (try simp only [List.getElem_toArray, List.getElem_cons_succ, List.getElem_cons_zero, Act.put, List.setIfInBounds_toArray, List.set_cons_zero, List.set_cons_succ])
          refine AnyE.done (by kernel_rfl) ?_ _
          go_wp2
          go_ret2
          exact ⟨_, _, rfl, LocRes.found hs0.out hs12.out hlti hyes.out hall.out, hB⟩
        · rw [decide_eq_false k2] at hc2
          have hno := Lib.hid (show locB M i = false by unfold locB; rw [decide_eq_false k2, Bool.and_false])
          replace k1 := Lib.hid k1
          replace k2 := Lib.hid k2
          go_wp2
          refine AnyE.region (fun w' => SynAt w' g gz M) 22 (by kernel_rfl) ?_
          have hH : SynAt wr.drew g gz M := hS.drewN 1
          replace hB : Below w.heap.size w wr.drew := below_drewN hB 1
          refine AnyE.take0 0 (v := ?_) rfl (by decide) (by kernel_rfl) (by kernel_rfl) (by kernel_rfl) (by kernel_rfl) (fun _ _ _ h => h) (by rfl) (fun _ => hH) ?_ ?_
          rotate_left; · (intro w; go_simp; try with_reducible rfl)
          (try simp only [List.getElem_toArray, List.getElem_cons_succ, List.getElem_cons_zero, Act.put, List.setIfInBounds_toArray, List.set_cons_zero, List.set_cons_succ])
          refine AnyE.take0 1 (v := ?_) rfl (by decide) (by kernel_rfl) (by kernel_rfl) (by kernel_rfl) (by kernel_rfl) (fun _ _ _ h => h) (by rfl) (fun _ => hH) ?_ ?_
          rotate_left; · (intro w; go_simp; try with_reducible rfl)
          (try simp only [List.getElem_toArray, List.getElem_cons_succ, List.getElem_cons_zero, Act.put, List.setIfInBounds_toArray, List.set_cons_zero, List.set_cons_succ])
          refine AnyE.take 2 [10, 9, 2] (v := ?_) rfl (by decide) (by kernel_rfl) (by kernel_rfl) (by kernel_rfl) (by kernel_rfl) (by kernel_rfl) (by kernel_rfl) (fun _ _ _ h => h) (by rfl) hH ?_ ?_
          rotate_left; · (intro w hSw; simp only [List.getElem_toArray, List.getElem_cons_succ, List.getElem_cons_zero, Act.put, List.setIfInBounds_toArray, List.set_cons_zero, List.set_cons_succ]; refine exec_load_agg (x := .tmp 95) (b := g) (off := 8) ?_ ?_ Try.underlying64 rfl (info64' hl1) (fun k hk => hSw.row1 (by rwa [agc_size, hl1] at hk)); rfl; rfl)
          (try simp only [List.getElem_toArray, List.getElem_cons_succ, List.getElem_cons_zero, Act.put, List.setIfInBounds_toArray, List.set_cons_zero, List.set_cons_succ])
          refine AnyE.take0 3 (v := ?_) rfl (by decide) (by kernel_rfl) (by kernel_rfl) (by kernel_rfl) (by kernel_rfl) (fun _ _ _ h => h) (by rfl) (fun _ => hH) ?_ ?_
          rotate_left; · (intro w; go_simp; try with_reducible rfl)
          (try simp only [List.getElem_toArray, List.getElem_cons_succ, List.getElem_cons_zero, Act.put, List.setIfInBounds_toArray, List.set_cons_zero, List.set_cons_succ])
          refine AnyE.take0 4 (v := ?_) rfl (by decide) (by kernel_rfl) (by kernel_rfl) (by kernel_rfl) (by kernel_rfl) (fun _ _ _ h => h) (by rfl) (fun _ => hH) ?_ ?_
          rotate_left; · (intro w; go_simp; try with_reducible rfl)
          (try simp only [List.getElem_toArray, List.getElem_cons_succ, List.getElem_cons_zero, Act.put, List.setIfInBounds_toArray, List.set_cons_zero, List.set_cons_succ])
          refine AnyE.take 5 [10, 8, 5] (v := ?_) rfl (by decide) (by kernel_rfl) (by kernel_rfl) (by kernel_rfl) (by kernel_rfl) (by kernel_rfl) (by kernel_rfl) (fun _ _ _ h => h) (by rfl) hH ?_ ?_
          rotate_left; · (intro w hSw; simp only [List.getElem_toArray, List.getElem_cons_succ, List.getElem_cons_zero, Act.put, List.setIfInBounds_toArray, List.set_cons_zero, List.set_cons_succ]; refine exec_load_agg (x := .tmp 98) (b := g) (off := 0) ?_ ?_ Try.underlying64 rfl (info64' hl0) (fun k hk => hSw.row0 (by rwa [agc_size, hl0] at hk)); rfl; rfl)
          (try simp only [List.getElem_toArray, List.getElem_cons_succ, List.getElem_cons_zero, Act.put, List.setIfInBounds_toArray, List.set_cons_zero, List.set_cons_succ])
          refine AnyE.take0 6 (v := ?_) rfl (by decide) (by kernel_rfl) (by kernel_rfl) (by kernel_rfl) (by kernel_rfl) (fun _ _ _ h => h) (by rfl) (fun _ => hH) ?_ ?_
          rotate_left; · (intro w; go_simp; try with_reducible rfl)
          (try simp only [List.getElem_toArray, List.getElem_cons_succ, List.getElem_cons_zero, Act.put, List.setIfInBounds_toArray, List.set_cons_zero, List.set_cons_succ])
          refine AnyE.one 7 rfl (by kernel_rfl) (fun K hK => ?_)
          rw [if_pos (show _ = true by rfl)]
          go_simp
          go_at_call 120
          (with_reducible refine (hx1 _).mono ?_); rintro e wx ⟨rfl, rfl⟩
          refine hK.out _ _ (fun _ => hH) ?_
          clear hK K
          (try simp only [List.getElem_toArray, List.getElem_cons_succ, List.getElem_cons_zero, Act.put, List.setIfInBounds_toArray, List.set_cons_zero, List.set_cons_succ])
          refine AnyE.one 8 rfl (by kernel_rfl) (fun K hK => ?_)
          rw [if_pos (show _ = true by rfl)]
          go_simp
          go_at_call 119
          (with_reducible refine (times_any _ hl0 _).mono ?_); rintro e w8 ⟨rfl, hb8⟩
          replace hH := hH.below hb8
          replace hB := below_then2 hB hb8
          refine hK.out _ _ (fun _ => hH) ?_
          clear hK K
          (try simp only [List.getElem_toArray, List.getElem_cons_succ, List.getElem_cons_zero, Act.put, List.setIfInBounds_toArray, List.set_cons_zero, List.set_cons_succ])
          refine AnyE.take0 9 (v := ?_) rfl (by decide) (by kernel_rfl) (by kernel_rfl) (by kernel_rfl) (by kernel_rfl) (fun _ _ _ h => h) (by rfl) (fun _ => hH) ?_ ?_
          rotate_left; · (intro w; simp only [List.getElem_toArray, List.getElem_cons_succ, List.getElem_cons_zero, Act.put, List.setIfInBounds_toArray, List.set_cons_zero, List.set_cons_succ]; refine exec_bin (t2 := 64) (x := .tmp 96) (y := .tmp 102) (r := .bool true) hc1 (guard64 _ _ _ _ _) ?_ ?_ ?_; rfl; rfl; rfl)
          (try simp only [List.getElem_toArray, List.getElem_cons_succ, List.getElem_cons_zero, Act.put, List.setIfInBounds_toArray, List.set_cons_zero, List.set_cons_succ])
          refine AnyE.take0 10 (v := ?_) rfl (by decide) (by kernel_rfl) (by kernel_rfl) (by kernel_rfl) (by kernel_rfl) (fun _ _ _ h => h) (by rfl) (fun _ => hH) ?_ ?_
          rotate_left; · (intro w; go_simp; try with_reducible rfl)
          (try simp only [List.getElem_toArray, List.getElem_cons_succ, List.getElem_cons_zero, Act.put, List.setIfInBounds_toArray, List.set_cons_zero, List.set_cons_succ])
          refine AnyE.take0 11 (v := ?_) rfl (by decide) (by kernel_rfl) (by kernel_rfl) (by kernel_rfl) (by kernel_rfl) (fun _ _ _ h => h) (by rfl) (fun _ => hH) ?_ ?_
          rotate_left; · (intro w; go_simp; try with_reducible rfl)
          (try simp only [List.getElem_toArray, List.getElem_cons_succ, List.getElem_cons_zero, Act.put, List.setIfInBounds_toArray, List.set_cons_zero, List.set_cons_succ])
          refine AnyE.take0 12 (v := ?_) rfl (by decide) (by kernel_rfl) (by kernel_rfl) (by kernel_rfl) (by kernel_rfl) (fun _ _ _ h => h) (by rfl) (fun _ => hH) ?_ ?_
          rotate_left; · (intro w; go_simp; try with_reducible rfl)
          (try simp only [List.getElem_toArray, List.getElem_cons_succ, List.getElem_cons_zero, Act.put, List.setIfInBounds_toArray, List.set_cons_zero, List.set_cons_succ])
          refine AnyE.take 13 [21, 13] (v := ?_) rfl (by decide) (by kernel_rfl) (by kernel_rfl) (by kernel_rfl) (by kernel_rfl) (by kernel_rfl) (by kernel_rfl) (fun _ _ _ h => h) (by rfl) hH ?_ ?_
          rotate_left; · (intro w hSw; simp only [List.getElem_toArray, List.getElem_cons_succ, List.getElem_cons_zero, Act.put, List.setIfInBounds_toArray, List.set_cons_zero, List.set_cons_succ]; refine exec_load_agg (x := .tmp 106) (b := g) (off := 16) ?_ ?_ Try.underlying64 rfl (info64' hl2) (fun k hk => hSw.row2 (by rwa [agc_size, hl2] at hk)); rfl; rfl)
          (try simp only [List.getElem_toArray, List.getElem_cons_succ, List.getElem_cons_zero, Act.put, List.setIfInBounds_toArray, List.set_cons_zero, List.set_cons_succ])
          refine AnyE.take0 14 (v := ?_) rfl (by decide) (by kernel_rfl) (by kernel_rfl) (by kernel_rfl) (by kernel_rfl) (fun _ _ _ h => h) (by rfl) (fun _ => hH) ?_ ?_
          rotate_left; · (intro w; go_simp; try with_reducible rfl)
          (try simp only [List.getElem_toArray, List.getElem_cons_succ, List.getElem_cons_zero, Act.put, List.setIfInBounds_toArray, List.set_cons_zero, List.set_cons_succ])
          refine AnyE.take0 15 (v := ?_) rfl (by decide) (by kernel_rfl) (by kernel_rfl) (by kernel_rfl) (by kernel_rfl) (fun _ _ _ h => h) (by rfl) (fun _ => hH) ?_ ?_
          rotate_left; · (intro w; go_simp; try with_reducible rfl)
          (try simp only [List.getElem_toArray, List.getElem_cons_succ, List.getElem_cons_zero, Act.put, List.setIfInBounds_toArray, List.set_cons_zero, List.set_cons_succ])
          refine AnyE.take 16 [21, 20, 16] (v := ?_) rfl (by decide) (by kernel_rfl) (by kernel_rfl) (by kernel_rfl) (by kernel_rfl) (by kernel_rfl) (by kernel_rfl) (fun _ _ _ h => h) (by rfl) hH ?_ ?_
          rotate_left; · (intro w hSw; simp only [List.getElem_toArray, List.getElem_cons_succ, List.getElem_cons_zero, Act.put, List.setIfInBounds_toArray, List.set_cons_zero, List.set_cons_succ]; refine exec_load_agg (x := .tmp 109) (b := g) (off := 0) ?_ ?_ Try.underlying64 rfl (info64' hl0) (fun k hk => hSw.row0 (by rwa [agc_size, hl0] at hk)); rfl; rfl)
          (try simp only [List.getElem_toArray, List.getElem_cons_succ, List.getElem_cons_zero, Act.put, List.setIfInBounds_toArray, List.set_cons_zero, List.set_cons_succ])
          refine AnyE.take0 17 (v := ?_) rfl (by decide) (by kernel_rfl) (by kernel_rfl) (by kernel_rfl) (by kernel_rfl) (fun _ _ _ h => h) (by rfl) (fun _ => hH) ?_ ?_
          rotate_left; · (intro w; go_simp; try with_reducible rfl)
          (try simp only [List.getElem_toArray, List.getElem_cons_succ, List.getElem_cons_zero, Act.put, List.setIfInBounds_toArray, List.set_cons_zero, List.set_cons_succ])
          refine AnyE.take0 18 (v := ?_) rfl (by decide) (by kernel_rfl) (by kernel_rfl) (by kernel_rfl) (by kernel_rfl) (fun _ _ _ h => h) (by rfl) (fun _ => hH) ?_ ?_
          rotate_left; · (intro w; go_simp; try with_reducible rfl)
          (try simp only [List.getElem_toArray, List.getElem_cons_succ, List.getElem_cons_zero, Act.put, List.setIfInBounds_toArray, List.set_cons_zero, List.set_cons_succ])
          refine AnyE.one 19 rfl (by kernel_rfl) (fun K hK => ?_)
          rw [if_pos (show _ = true by rfl)]
          go_simp
          go_at_call 120
          (with_reducible refine (hx2 _).mono ?_); rintro e wx ⟨rfl, rfl⟩
          refine hK.out _ _ (fun _ => hH) ?_
          clear hK K
          (try simp only [List.getElem_toArray, List.getElem_cons_succ, List.getElem_cons_zero, Act.put, List.setIfInBounds_toArray, List.set_cons_zero, List.set_cons_succ])
          refine AnyE.one 20 rfl (by kernel_rfl) (fun K hK => ?_)
          rw [if_pos (show _ = true by rfl)]
          go_simp
          go_at_call 119
          (with_reducible refine (times_any _ hl0 _).mono ?_); rintro e w20 ⟨rfl, hb20⟩
          replace hH := hH.below hb20
          replace hB := below_then2 hB hb20
          refine hK.out _ _ (fun _ => hH) ?_
          clear hK K
          (try simp only [List.getElem_toArray, List.getElem_cons_succ, List.getElem_cons_zero, Act.put, List.setIfInBounds_toArray, List.set_cons_zero, List.set_cons_succ])
          refine AnyE.take0 21 (v := ?_) rfl (by decide) (by kernel_rfl) (by kernel_rfl) (by kernel_rfl) (by kernel_rfl) (fun _ _ _ h => h) (by rfl) (fun _ => hH) ?_ ?_
          rotate_left; · (intro w; simp only [List.getElem_toArray, List.getElem_cons_succ, List.getElem_cons_zero, Act.put, List.setIfInBounds_toArray, List.set_cons_zero, List.set_cons_succ]; refine exec_bin (t2 := 64) (x := .tmp 107) (y := .tmp 114) (r := .bool false) hc2 (guard64 _ _ _ _ _) ?_ ?_ ?_; rfl; rfl; rfl)
          (try simp only [List.getElem_toArray, List.getElem_cons_succ, List.getElem_cons_zero, Act.put, List.setIfInBounds_toArray, List.set_cons_zero, List.set_cons_succ])
          refine AnyE.one 22 rfl (by kernel_rfl) (fun K hK => ?_)
          go_simp
          refine hK.out _ _ (fun e => Bool.noConfusion (show true = false from e)) ?_
          clear hK K
          (try simp only [List.getElem_toArray, List.getElem_cons_succ, List.getElem_cons_zero, Act.put, List.setIfInBounds_toArray, List.set_cons_zero, List.set_cons_succ])
          refine AnyE.done (by kernel_rfl) ?_ _
          go_wp2
          go_roundw
          case rel => exact ⟨i + 1, by omega, by go_num, hH, fun j hj => by
            rcases Nat.lt_succ_iff_lt_or_eq.1 hj with hj | rfl
            · exact hall.out j hj
            · exact hno.out, hB⟩
          case measure => simp [intOf]; omega
      · rw [decide_eq_false k1] at hc1
        have hno := Lib.hid (show locB M i = false by unfold locB; rw [decide_eq_false k1, Bool.false_and])
        replace k1 := Lib.hid k1
        go_wp2
        refine AnyE.region (fun w' => SynAt w' g gz M) 22 (by kernel_rfl) ?_
        have hH : SynAt wr.drew g gz M := hS.drewN 1
        replace hB : Below w.heap.size w wr.drew := below_drewN hB 1
        refine AnyE.take0 0 (v := ?_) rfl (by decide) (by kernel_rfl) (by kernel_rfl) (by kernel_rfl) (by kernel_rfl) (fun _ _ _ h => h) (by rfl) (fun _ => hH) ?_ ?_
        rotate_left; · (intro w; go_simp; try with_reducible rfl)
        (try simp only [List.getElem_toArray, List.getElem_cons_succ, List.getElem_cons_zero, Act.put, List.setIfInBounds_toArray, List.set_cons_zero, List.set_cons_succ])
        refine AnyE.take0 1 (v := ?_) rfl (by decide) (by kernel_rfl) (by kernel_rfl) (by kernel_rfl) (by kernel_rfl) (fun _ _ _ h => h) (by rfl) (fun _ => hH) ?_ ?_
        rotate_left; · (intro w; go_simp; try with_reducible rfl)
        (try simp only [List.getElem_toArray, List.getElem_cons_succ, List.getElem_cons_zero, Act.put, List.setIfInBounds_toArray, List.set_cons_zero, List.set_cons_succ])
        refine AnyE.take 2 [10, 9, 2] (v := ?_) rfl (by decide) (by kernel_rfl) (by kernel_rfl) (by kernel_rfl) (by kernel_rfl) (by kernel_rfl) (by kernel_rfl) (fun _ _ _ h => h) (by rfl) hH ?_ ?_
        rotate_left; · (intro w hSw; simp only [List.getElem_toArray, List.getElem_cons_succ, List.getElem_cons_zero, Act.put, List.setIfInBounds_toArray, List.set_cons_zero, List.set_cons_succ]; refine exec_load_agg (x := .tmp 95) (b := g) (off := 8) ?_ ?_ Try.underlying64 rfl (info64' hl1) (fun k hk => hSw.row1 (by rwa [agc_size, hl1] at hk)); rfl; rfl)
        (try simp only [List.getElem_toArray, List.getElem_cons_succ, List.getElem_cons_zero, Act.put, List.setIfInBounds_toArray, List.set_cons_zero, List.set_cons_succ])
        refine AnyE.take0 3 (v := ?_) rfl (by decide) (by kernel_rfl) (by kernel_rfl) (by kernel_rfl) (by kernel_rfl) (fun _ _ _ h => h) (by rfl) (fun _ => hH) ?_ ?_
        rotate_left; · (intro w; go_simp; try with_reducible rfl)
        (try simp only [List.getElem_toArray, List.getElem_cons_succ, List.getElem_cons_zero, Act.put, List.setIfInBounds_toArray, List.set_cons_zero, List.set_cons_succ])
        refine AnyE.take0 4 (v := ?_) rfl (by decide) (by kernel_rfl) (by kernel_rfl) (by kernel_rfl) (by kernel_rfl) (fun _ _ _ h => h) (by rfl) (fun _ => hH) ?_ ?_
        rotate_left; · (intro w; go_simp; try with_reducible rfl)
        (try simp only [List.getElem_toArray, List.getElem_cons_succ, List.getElem_cons_zero, Act.put, List.setIfInBounds_toArray, List.set_cons_zero, List.set_cons_succ])
        refine AnyE.take 5 [10, 8, 5] (v := ?_) rfl (by decide) (by kernel_rfl) (by kernel_rfl) (by kernel_rfl) (by kernel_rfl) (by kernel_rfl) (by kernel_rfl) (fun _ _ _ h => h) (by rfl) hH ?_ ?_
        rotate_left; · (intro w hSw; simp only [List.getElem_toArray, List.getElem_cons_succ, List.getElem_cons_zero, Act.put, List.setIfInBounds_toArray, List.set_cons_zero, List.set_cons_succ]; refine exec_load_agg (x := .tmp 98) (b := g) (off := 0) ?_ ?_ Try.underlying64 rfl (info64' hl0) (fun k hk => hSw.row0 (by rwa [agc_size, hl0] at hk)); rfl; rfl)
        (try simp only [List.getElem_toArray, List.getElem_cons_succ, List.getElem_cons_zero, Act.put, List.setIfInBounds_toArray, List.set_cons_zero, List.set_cons_succ])
        refine AnyE.take0 6 (v := ?_) rfl (by decide) (by kernel_rfl) (by kernel_rfl) (by kernel_rfl) (by kernel_rfl) (fun _ _ _ h => h) (by rfl) (fun _ => hH) ?_ ?_
        rotate_left; · (intro w; go_simp; try with_reducible rfl)
        (try simp only [List.getElem_toArray, List.getElem_cons_succ, List.getElem_cons_zero, Act.put, List.setIfInBounds_toArray, List.set_cons_zero, List.set_cons_succ])
        refine AnyE.one 7 rfl (by kernel_rfl) (fun K hK => ?_)
        rw [if_pos (show _ = true by rfl)]
        go_simp
        go_at_call 120
        (with_reducible refine (hx1 _).mono ?_); rintro e wx ⟨rfl, rfl⟩
        refine hK.out _ _ (fun _ => hH) ?_
        clear hK K
        (try simp only [List.getElem_toArray, List.getElem_cons_succ, List.getElem_cons_zero, Act.put, List.setIfInBounds_toArray, List.set_cons_zero, List.set_cons_succ])
        refine AnyE.one 8 rfl (by kernel_rfl) (fun K hK => ?_)
        rw [if_pos (show _ = true by rfl)]
        go_simp
        go_at_call 119
        (with_reducible refine (times_any _ hl0 _).mono ?_); rintro e w8 ⟨rfl, hb8⟩
        replace hH := hH.below hb8
        replace hB := below_then2 hB hb8
        refine hK.out _ _ (fun _ => hH) ?_
        clear hK K
        (try simp only [List.getElem_toArray, List.getElem_cons_succ, List.getElem_cons_zero, Act.put, List.setIfInBounds_toArray, List.set_cons_zero, List.set_cons_succ])
        refine AnyE.take0 9 (v := ?_) rfl (by decide) (by kernel_rfl) (by kernel_rfl) (by kernel_rfl) (by kernel_rfl) (fun _ _ _ h => h) (by rfl) (fun _ => hH) ?_ ?_
        rotate_left; · (intro w; simp only [List.getElem_toArray, List.getElem_cons_succ, List.getElem_cons_zero, Act.put, List.setIfInBounds_toArray, List.set_cons_zero, List.set_cons_succ]; refine exec_bin (t2 := 64) (x := .tmp 96) (y := .tmp 102) (r := .bool false) hc1 (guard64 _ _ _ _ _) ?_ ?_ ?_; rfl; rfl; rfl)
        (try simp only [List.getElem_toArray, List.getElem_cons_succ, List.getElem_cons_zero, Act.put, List.setIfInBounds_toArray, List.set_cons_zero, List.set_cons_succ])
        refine AnyE.take0 10 (v := ?_) rfl (by decide) (by kernel_rfl) (by kernel_rfl) (by kernel_rfl) (by kernel_rfl) (fun _ _ _ h => h) (by rfl) (fun _ => hH) ?_ ?_
        rotate_left; · (intro w; go_simp; try with_reducible rfl)
        (try simp only [List.getElem_toArray, List.getElem_cons_succ, List.getElem_cons_zero, Act.put, List.setIfInBounds_toArray, List.set_cons_zero, List.set_cons_succ])
        refine AnyE.skip 11 rfl (by decide) (by kernel_rfl) (by kernel_rfl) (by kernel_rfl) (by kernel_rfl) (fun _ _ _ h => h) (by rfl) (fun _ => hH) ?_
        (try simp only [List.getElem_toArray, List.getElem_cons_succ, List.getElem_cons_zero, Act.put, List.setIfInBounds_toArray, List.set_cons_zero, List.set_cons_succ])
        refine AnyE.skip 12 rfl (by decide) (by kernel_rfl) (by kernel_rfl) (by kernel_rfl) (by kernel_rfl) (fun _ _ _ h => h) (by rfl) (fun _ => hH) ?_
        (try simp only [List.getElem_toArray, List.getElem_cons_succ, List.getElem_cons_zero, Act.put, List.setIfInBounds_toArray, List.set_cons_zero, List.set_cons_succ])
        refine AnyE.skip 13 rfl (by decide) (by kernel_rfl) (by kernel_rfl) (by kernel_rfl) (by kernel_rfl) (fun _ _ _ h => h) (by rfl) (fun _ => hH) ?_
        (try simp only [List.getElem_toArray, List.getElem_cons_succ, List.getElem_cons_zero, Act.put, List.setIfInBounds_toArray, List.set_cons_zero, List.set_cons_succ])
        refine AnyE.skip 14 rfl (by decide) (by kernel_rfl) (by kernel_rfl) (by kernel_rfl) (by kernel_rfl) (fun _ _ _ h => h) (by rfl) (fun _ => hH) ?_
        (try simp only [List.getElem_toArray, List.getElem_cons_succ, List.getElem_cons_zero, Act.put, List.setIfInBounds_toArray, List.set_cons_zero, List.set_cons_succ])
        refine AnyE.skip 15 rfl (by decide) (by kernel_rfl) (by kernel_rfl) (by kernel_rfl) (by kernel_rfl) (fun _ _ _ h => h) (by rfl) (fun _ => hH) ?_
        (try simp only [List.getElem_toArray, List.getElem_cons_succ, List.getElem_cons_zero, Act.put, List.setIfInBounds_toArray, List.set_cons_zero, List.set_cons_succ])
        refine AnyE.skip 16 rfl (by decide) (by kernel_rfl) (by kernel_rfl) (by kernel_rfl) (by kernel_rfl) (fun _ _ _ h => h) (by rfl) (fun _ => hH) ?_
        (try simp only [List.getElem_toArray, List.getElem_cons_succ, List.getElem_cons_zero, Act.put, List.setIfInBounds_toArray, List.set_cons_zero, List.set_cons_succ])
        refine AnyE.skip 17 rfl (by decide) (by kernel_rfl) (by kernel_rfl) (by kernel_rfl) (by kernel_rfl) (fun _ _ _ h => h) (by rfl) (fun _ => hH) ?_
        (try simp only [List.getElem_toArray, List.getElem_cons_succ, List.getElem_cons_zero, Act.put, List.setIfInBounds_toArray, List.set_cons_zero, List.set_cons_succ])
        refine AnyE.skip 18 rfl (by decide) (by kernel_rfl) (by kernel_rfl) (by kernel_rfl) (by kernel_rfl) (fun _ _ _ h => h) (by rfl) (fun _ => hH) ?_
        (try simp only [List.getElem_toArray, List.getElem_cons_succ, List.getElem_cons_zero, Act.put, List.setIfInBounds_toArray, List.set_cons_zero, List.set_cons_succ])
        refine AnyE.skip 19 rfl (by decide) (by kernel_rfl) (by kernel_rfl) (by kernel_rfl) (by kernel_rfl) (fun _ _ _ h => h) (by rfl) (fun _ => hH) ?_
        (try simp only [List.getElem_toArray, List.getElem_cons_succ, List.getElem_cons_zero, Act.put, List.setIfInBounds_toArray, List.set_cons_zero, List.set_cons_succ])
        refine AnyE.skip 20 rfl (by decide) (by kernel_rfl) (by kernel_rfl) (by kernel_rfl) (by kernel_rfl) (fun _ _ _ h => h) (by rfl) (fun _ => hH) ?_
        (try simp only [List.getElem_toArray, List.getElem_cons_succ, List.getElem_cons_zero, Act.put, List.setIfInBounds_toArray, List.set_cons_zero, List.set_cons_succ])
        refine AnyE.skip 21 rfl (by decide) (by kernel_rfl) (by kernel_rfl) (by kernel_rfl) (by kernel_rfl) (fun _ _ _ h => h) (by rfl) (fun _ => hH) ?_
        (try simp only [List.getElem_toArray, List.getElem_cons_succ, List.getElem_cons_zero, Act.put, List.setIfInBounds_toArray, List.set_cons_zero, List.set_cons_succ])
        refine AnyE.one 22 rfl (by kernel_rfl) (fun K hK => ?_)
        go_simp
        refine hK.out _ _ (fun e => Bool.noConfusion (show true = false from e)) ?_
        clear hK K
        (try simp only [List.getElem_toArray, List.getElem_cons_succ, List.getElem_cons_zero, Act.put, List.setIfInBounds_toArray, List.set_cons_zero, List.set_cons_succ])
        refine AnyE.done (by kernel_rfl) ?_ _
        go_wp2
        go_roundw
        case rel => exact ⟨i + 1, by omega, by go_num, hH, fun j hj => by
          rcases Nat.lt_succ_iff_lt_or_eq.1 hj with hj | rfl
          · exact hall.out j hj
          · exact hno.out, hB⟩
        case measure => simp [intOf]; omega
    · obtain rfl : i = n := by omega
      go_wp2
      go_ret2
      exact ⟨_, _, rfl, LocRes.many hs0.out hs12.out hall.out, hB⟩
theorem locate_any (h4 : 4 ≤ wd) (h16 : wd ≤ 16) (h : Blks p w A wd c M) : Calls Try.prog 80 #[.slice A wd c] w fun e w' => ∃ r er, e = .returned (.tuple #[.int .i64 r, .int .i64 er]) ∧ LocRes (wd - 3) M r er ∧ Below w.heap.size w w' := by
  by_cases h0 : mrow (synM M) 0 = zeroL 8
  · by_cases h1 : mrow (synM M) 1 = zeroL 8
    · by_cases h2 : mrow (synM M) 2 = zeroL 8
      · exact loc_111 h4 h16 rfl h h0 h1 h2
      · exact loc_110 h4 h16 rfl h h0 h1 h2
    · by_cases h2 : mrow (synM M) 2 = zeroL 8
      · exact loc_101 h4 h16 rfl h h0 h1 h2
      · exact loc_100 h4 h16 rfl h h0 h1 h2
  · by_cases h1 : mrow (synM M) 1 = zeroL 8
    · by_cases h2 : mrow (synM M) 2 = zeroL 8
      · exact loc_011 h4 h16 rfl h h0 h1 h2
      · exact loc_010 h4 h16 rfl h h0 h1 h2
    · by_cases h2 : mrow (synM M) 2 = zeroL 8
      · exact loc_001 h4 h16 rfl h h0 h1 h2
      · exact loc_000 h4 h16 rfl h h0 h1 h2
end
end Go.Proofs.Ytifhjigkljdkmaa
namespace Go.Proofs.Ytifhjigkljdkmaa
open Go.RowKit
open Gf (F)
set_option linter.unusedSimpArgs false
set_option linter.unusedVariables false
theorem ints_newx (w : World) (l : List Int) (t : TypeId) (hl : l.length ≤ maxLen) : Ints (fun _ => True) (w.alloc (.cells (l.map (Value.int .i64)).toArray t)) (some ⟨w.heap.size, 0, none⟩) l.length l.length l := by
  have h := World.rowIs_alloc w (l.map (Value.int .i64)).toArray t (fun j => .int .i64 (nti l j)) (fun i hi => by
    simp only [List.size_toArray, List.length_map] at hi
    simp [hi, nti_of_lt hi])
  have e : (l.map (Value.int .i64)).toArray.size = l.length := by simp
  rw [e] at h
  exact ⟨rfl, Row.of_rowIs h trivial hl⟩
def bl (u : F) : List F := [u, 0, 0, 0, 0, 0, 0, 0]
def axG : List (List F) := [bl 3, bl 5, bl 6, bl 9, bl 23]
def axD : List (List F) := [bl 1, bl 1, bl 6, bl 9, bl 1]
def axL : List (List F) := [bl 3, bl 4, bl 6, bl 9, bl 23]
def axB : List Bool := [true, true, false, false, true]
theorem ax_w1 : wts 2 (fromF [1, 2]) 0 = [1, 1] := by decide +kernel
theorem ax_w2 : wts 2 (fromF [1, 3]) 0 = [2, 1] := by decide +kernel
theorem ax_lost : lostB 5 axB = false := by decide +kernel
theorem ax_dec : decI 5 axD axB 5 = axG := by decide +kernel
theorem ax_s0 : mrow (synM axL) 0 ≠ zeroL 8 := by decide +kernel
theorem ax_l0 : locB axL 0 = false := by decide +kernel
theorem ax_l1 : locB axL 1 = true := by decide +kernel
theorem ax_s1 : mrow (synM axL) 1 ≠ zeroL 8 := by decide +kernel
theorem ax_loc {r er : Int} (h : LocRes 2 axL r er) : r = 1 ∧ er = 0 := by
  cases h with
  | none h0 => exact absurd h0 ax_s0
  | p0 _ h1 => exact absurd h1 ax_s1
  | p1 h0 => exact absurd h0 ax_s0
  | p2 h0 => exact absurd h0 ax_s0
  | two h0 => exact absurd h0 ax_s0
  | @found i _ _ hi hl _ =>
    rcases (show i = 0 ∨ i = 1 by omega) with rfl | rfl
    · rw [ax_l0] at hl; cases hl
    · exact ⟨rfl, rfl⟩
  | many _ _ ha => have := ha 1 (by decide); rw [ax_l1] at this; cases this
theorem axG_new (w : World) : Blks (fun _ => True) (w.alloc (.cells #[.int .u8 3, .int .u8 0, .int .u8 0, .int .u8 0, .int .u8 0, .int .u8 0, .int .u8 0, .int .u8 0, .int .u8 5, .int .u8 0, .int .u8 0, .int .u8 0, .int .u8 0, .int .u8 0, .int .u8 0, .int .u8 0, .int .u8 6, .int .u8 0, .int .u8 0, .int .u8 0, .int .u8 0, .int .u8 0, .int .u8 0, .int .u8 0, .int .u8 9, .int .u8 0, .int .u8 0, .int .u8 0, .int .u8 0, .int .u8 0, .int .u8 0, .int .u8 0, .int .u8 23, .int .u8 0, .int .u8 0, .int .u8 0, .int .u8 0, .int .u8 0, .int .u8 0, .int .u8 0] 64)) (some ⟨w.heap.size, 0, none⟩) 5 5 axG := by
  have h := World.rowIs_alloc w #[.int .u8 3, .int .u8 0, .int .u8 0, .int .u8 0, .int .u8 0, .int .u8 0, .int .u8 0, .int .u8 0, .int .u8 5, .int .u8 0, .int .u8 0, .int .u8 0, .int .u8 0, .int .u8 0, .int .u8 0, .int .u8 0, .int .u8 6, .int .u8 0, .int .u8 0, .int .u8 0, .int .u8 0, .int .u8 0, .int .u8 0, .int .u8 0, .int .u8 9, .int .u8 0, .int .u8 0, .int .u8 0, .int .u8 0, .int .u8 0, .int .u8 0, .int .u8 0, .int .u8 23, .int .u8 0, .int .u8 0, .int .u8 0, .int .u8 0, .int .u8 0, .int .u8 0, .int .u8 0] 64 (fun idx => .int .u8 ((ent axG (idx / 8) (idx % 8)).toNat : Int)) (fun i hi => by
    have hi : i < 40 := hi
    have key : ∀ i : Fin 40, ((#[3, 0, 0, 0, 0, 0, 0, 0, 5, 0, 0, 0, 0, 0, 0, 0, 6, 0, 0, 0, 0, 0, 0, 0, 9, 0, 0, 0, 0, 0, 0, 0, 23, 0, 0, 0, 0, 0, 0, 0] : Array Int)[i.1]!) = ((ent axG (i.1 / 8) (i.1 % 8)).toNat : Int) := by decide +kernel
    have key2 : ∀ i : Fin 40, (#[.int .u8 3, .int .u8 0, .int .u8 0, .int .u8 0, .int .u8 0, .int .u8 0, .int .u8 0, .int .u8 0, .int .u8 5, .int .u8 0, .int .u8 0, .int .u8 0, .int .u8 0, .int .u8 0, .int .u8 0, .int .u8 0, .int .u8 6, .int .u8 0, .int .u8 0, .int .u8 0, .int .u8 0, .int .u8 0, .int .u8 0, .int .u8 0, .int .u8 9, .int .u8 0, .int .u8 0, .int .u8 0, .int .u8 0, .int .u8 0, .int .u8 0, .int .u8 0, .int .u8 23, .int .u8 0, .int .u8 0, .int .u8 0, .int .u8 0, .int .u8 0, .int .u8 0, .int .u8 0] : Array Value)[i.1]? = some (.int .u8 ((#[3, 0, 0, 0, 0, 0, 0, 0, 5, 0, 0, 0, 0, 0, 0, 0, 6, 0, 0, 0, 0, 0, 0, 0, 9, 0, 0, 0, 0, 0, 0, 0, 23, 0, 0, 0, 0, 0, 0, 0] : Array Int)[i.1]!)) := fun i => by
      obtain ⟨i, hi⟩ := i
      rcases i with _ | _ | _ | _ | _ | _ | _ | _ | _ | _ | _ | _ | _ | _ | _ | _ | _ | _ | _ | _ | _ | _ | _ | _ | _ | _ | _ | _ | _ | _ | _ | _ | _ | _ | _ | _ | _ | _ | _ | _ | i
      all_goals first | rfl | (exfalso; omega)
    rw [key2 ⟨i, hi⟩, key ⟨i, hi⟩])
  refine ⟨rfl, Elm.of_rowIs (n := 5) (s := 8) h trivial (by unfold maxLen; omega) (fun j hj => ?_) (fun j _ => agc_one _) (fun j hj k hk => ?_)⟩
  · rw [agc_size]
    have : ∀ j : Fin 5, (mrow axG j.1).length = 8 := by decide +kernel
    exact this ⟨j, hj⟩
  · rw [agc_at (by
      have : ∀ j : Fin 5, (mrow axG j.1).length = 8 := by decide +kernel
      rw [this ⟨j, hj⟩]; exact hk)]
    have e1 : (j * 8 + k) / 8 = j := by omega
    have e2 : (j * 8 + k) % 8 = k := by omega
    rw [e1, e2]
    rfl
theorem axD_new (w : World) : Blks (fun _ => True) (w.alloc (.cells #[.int .u8 1, .int .u8 0, .int .u8 0, .int .u8 0, .int .u8 0, .int .u8 0, .int .u8 0, .int .u8 0, .int .u8 1, .int .u8 0, .int .u8 0, .int .u8 0, .int .u8 0, .int .u8 0, .int .u8 0, .int .u8 0, .int .u8 6, .int .u8 0, .int .u8 0, .int .u8 0, .int .u8 0, .int .u8 0, .int .u8 0, .int .u8 0, .int .u8 9, .int .u8 0, .int .u8 0, .int .u8 0, .int .u8 0, .int .u8 0, .int .u8 0, .int .u8 0, .int .u8 1, .int .u8 0, .int .u8 0, .int .u8 0, .int .u8 0, .int .u8 0, .int .u8 0, .int .u8 0] 64)) (some ⟨w.heap.size, 0, none⟩) 5 5 axD := by
  have h := World.rowIs_alloc w #[.int .u8 1, .int .u8 0, .int .u8 0, .int .u8 0, .int .u8 0, .int .u8 0, .int .u8 0, .int .u8 0, .int .u8 1, .int .u8 0, .int .u8 0, .int .u8 0, .int .u8 0, .int .u8 0, .int .u8 0, .int .u8 0, .int .u8 6, .int .u8 0, .int .u8 0, .int .u8 0, .int .u8 0, .int .u8 0, .int .u8 0, .int .u8 0, .int .u8 9, .int .u8 0, .int .u8 0, .int .u8 0, .int .u8 0, .int .u8 0, .int .u8 0, .int .u8 0, .int .u8 1, .int .u8 0, .int .u8 0, .int .u8 0, .int .u8 0, .int .u8 0, .int .u8 0, .int .u8 0] 64 (fun idx => .int .u8 ((ent axD (idx / 8) (idx % 8)).toNat : Int)) (fun i hi => by
    have hi : i < 40 := hi
    have key : ∀ i : Fin 40, ((#[1, 0, 0, 0, 0, 0, 0, 0, 1, 0, 0, 0, 0, 0, 0, 0, 6, 0, 0, 0, 0, 0, 0, 0, 9, 0, 0, 0, 0, 0, 0, 0, 1, 0, 0, 0, 0, 0, 0, 0] : Array Int)[i.1]!) = ((ent axD (i.1 / 8) (i.1 % 8)).toNat : Int) := by decide +kernel
    have key2 : ∀ i : Fin 40, (#[.int .u8 1, .int .u8 0, .int .u8 0, .int .u8 0, .int .u8 0, .int .u8 0, .int .u8 0, .int .u8 0, .int .u8 1, .int .u8 0, .int .u8 0, .int .u8 0, .int .u8 0, .int .u8 0, .int .u8 0, .int .u8 0, .int .u8 6, .int .u8 0, .int .u8 0, .int .u8 0, .int .u8 0, .int .u8 0, .int .u8 0, .int .u8 0, .int .u8 9, .int .u8 0, .int .u8 0, .int .u8 0, .int .u8 0, .int .u8 0, .int .u8 0, .int .u8 0, .int .u8 1, .int .u8 0, .int .u8 0, .int .u8 0, .int .u8 0, .int .u8 0, .int .u8 0, .int .u8 0] : Array Value)[i.1]? = some (.int .u8 ((#[1, 0, 0, 0, 0, 0, 0, 0, 1, 0, 0, 0, 0, 0, 0, 0, 6, 0, 0, 0, 0, 0, 0, 0, 9, 0, 0, 0, 0, 0, 0, 0, 1, 0, 0, 0, 0, 0, 0, 0] : Array Int)[i.1]!)) := fun i => by
      obtain ⟨i, hi⟩ := i
      rcases i with _ | _ | _ | _ | _ | _ | _ | _ | _ | _ | _ | _ | _ | _ | _ | _ | _ | _ | _ | _ | _ | _ | _ | _ | _ | _ | _ | _ | _ | _ | _ | _ | _ | _ | _ | _ | _ | _ | _ | _ | i
      all_goals first | rfl | (exfalso; omega)
    rw [key2 ⟨i, hi⟩, key ⟨i, hi⟩])
  refine ⟨rfl, Elm.of_rowIs (n := 5) (s := 8) h trivial (by unfold maxLen; omega) (fun j hj => ?_) (fun j _ => agc_one _) (fun j hj k hk => ?_)⟩
  · rw [agc_size]
    have : ∀ j : Fin 5, (mrow axD j.1).length = 8 := by decide +kernel
    exact this ⟨j, hj⟩
  · rw [agc_at (by
      have : ∀ j : Fin 5, (mrow axD j.1).length = 8 := by decide +kernel
      rw [this ⟨j, hj⟩]; exact hk)]
    have e1 : (j * 8 + k) / 8 = j := by omega
    have e2 : (j * 8 + k) % 8 = k := by omega
    rw [e1, e2]
    rfl
theorem axL_new (w : World) : Blks (fun _ => True) (w.alloc (.cells #[.int .u8 3, .int .u8 0, .int .u8 0, .int .u8 0, .int .u8 0, .int .u8 0, .int .u8 0, .int .u8 0, .int .u8 4, .int .u8 0, .int .u8 0, .int .u8 0, .int .u8 0, .int .u8 0, .int .u8 0, .int .u8 0, .int .u8 6, .int .u8 0, .int .u8 0, .int .u8 0, .int .u8 0, .int .u8 0, .int .u8 0, .int .u8 0, .int .u8 9, .int .u8 0, .int .u8 0, .int .u8 0, .int .u8 0, .int .u8 0, .int .u8 0, .int .u8 0, .int .u8 23, .int .u8 0, .int .u8 0, .int .u8 0, .int .u8 0, .int .u8 0, .int .u8 0, .int .u8 0] 64)) (some ⟨w.heap.size, 0, none⟩) 5 5 axL := by
  have h := World.rowIs_alloc w #[.int .u8 3, .int .u8 0, .int .u8 0, .int .u8 0, .int .u8 0, .int .u8 0, .int .u8 0, .int .u8 0, .int .u8 4, .int .u8 0, .int .u8 0, .int .u8 0, .int .u8 0, .int .u8 0, .int .u8 0, .int .u8 0, .int .u8 6, .int .u8 0, .int .u8 0, .int .u8 0, .int .u8 0, .int .u8 0, .int .u8 0, .int .u8 0, .int .u8 9, .int .u8 0, .int .u8 0, .int .u8 0, .int .u8 0, .int .u8 0, .int .u8 0, .int .u8 0, .int .u8 23, .int .u8 0, .int .u8 0, .int .u8 0, .int .u8 0, .int .u8 0, .int .u8 0, .int .u8 0] 64 (fun idx => .int .u8 ((ent axL (idx / 8) (idx % 8)).toNat : Int)) (fun i hi => by
    have hi : i < 40 := hi
    have key : ∀ i : Fin 40, ((#[3, 0, 0, 0, 0, 0, 0, 0, 4, 0, 0, 0, 0, 0, 0, 0, 6, 0, 0, 0, 0, 0, 0, 0, 9, 0, 0, 0, 0, 0, 0, 0, 23, 0, 0, 0, 0, 0, 0, 0] : Array Int)[i.1]!) = ((ent axL (i.1 / 8) (i.1 % 8)).toNat : Int) := by decide +kernel
    have key2 : ∀ i : Fin 40, (#[.int .u8 3, .int .u8 0, .int .u8 0, .int .u8 0, .int .u8 0, .int .u8 0, .int .u8 0, .int .u8 0, .int .u8 4, .int .u8 0, .int .u8 0, .int .u8 0, .int .u8 0, .int .u8 0, .int .u8 0, .int .u8 0, .int .u8 6, .int .u8 0, .int .u8 0, .int .u8 0, .int .u8 0, .int .u8 0, .int .u8 0, .int .u8 0, .int .u8 9, .int .u8 0, .int .u8 0, .int .u8 0, .int .u8 0, .int .u8 0, .int .u8 0, .int .u8 0, .int .u8 23, .int .u8 0, .int .u8 0, .int .u8 0, .int .u8 0, .int .u8 0, .int .u8 0, .int .u8 0] : Array Value)[i.1]? = some (.int .u8 ((#[3, 0, 0, 0, 0, 0, 0, 0, 4, 0, 0, 0, 0, 0, 0, 0, 6, 0, 0, 0, 0, 0, 0, 0, 9, 0, 0, 0, 0, 0, 0, 0, 23, 0, 0, 0, 0, 0, 0, 0] : Array Int)[i.1]!)) := fun i => by
      obtain ⟨i, hi⟩ := i
      rcases i with _ | _ | _ | _ | _ | _ | _ | _ | _ | _ | _ | _ | _ | _ | _ | _ | _ | _ | _ | _ | _ | _ | _ | _ | _ | _ | _ | _ | _ | _ | _ | _ | _ | _ | _ | _ | _ | _ | _ | _ | i
      all_goals first | rfl | (exfalso; omega)
    rw [key2 ⟨i, hi⟩, key ⟨i, hi⟩])
  refine ⟨rfl, Elm.of_rowIs (n := 5) (s := 8) h trivial (by unfold maxLen; omega) (fun j hj => ?_) (fun j _ => agc_one _) (fun j hj k hk => ?_)⟩
  · rw [agc_size]
    have : ∀ j : Fin 5, (mrow axL j.1).length = 8 := by decide +kernel
    exact this ⟨j, hj⟩
  · rw [agc_at (by
      have : ∀ j : Fin 5, (mrow axL j.1).length = 8 := by decide +kernel
      rw [this ⟨j, hj⟩]; exact hk)]
    have e1 : (j * 8 + k) / 8 = j := by omega
    have e2 : (j * 8 + k) % 8 = k := by omega
    rw [e1, e2]
    rfl
theorem axB_new (w : World) : Bools (fun _ => True) (w.alloc (.cells #[.bool true, .bool true, .bool false, .bool false, .bool true] 4)) (some ⟨w.heap.size, 0, none⟩) 5 5 axB := by
  have h := World.rowIs_alloc w #[.bool true, .bool true, .bool false, .bool false, .bool true] 4 (fun j => .bool (ntb axB j)) (fun i hi => by
    have hi : i < 5 := hi
    rcases i with _ | _ | _ | _ | _ | i
    all_goals first | rfl | (exfalso; omega))
  exact ⟨rfl, Row.of_rowIs h trivial (by unfold maxLen; omega)⟩
theorem weights_at {p : Nat → Prop} {w : World} {A : Option Addr} {n c wd : Nat} {l : List Int} (t : Nat) (hwd : wd = n + 3) (h1n : 1 ≤ n) (h13 : n ≤ 13) (h : Ints p w A n c l) (ht : t < wd) (hk : HelpOk wd n l) : Calls Try.prog 66 #[.int .i64 (wd : Int), .slice A n c, .int .i64 (t : Int)] w fun e w' => ∃ A' c', e = .returned (.tuple #[.slice A' n c', .int .i64 0]) ∧ Byt (fun _ => True) w' A' n c' (wts n (fromF l) t) ∧ Below w.heap.size w w' := weights_ok hwd h1n h13 h ht hk
theorem axw1 (W : World) : Calls Try.prog 66 #[.int .i64 5, .slice (some ⟨W.heap.size, 0, none⟩) 2 2, .int .i64 0] (W.alloc (.cells #[.int .i64 1, .int .i64 2] 3)) fun e w' => ∃ A' c', e = .returned (.tuple #[.slice A' 2 c', .int .i64 0]) ∧ Byt (fun _ => True) w' A' 2 c' [1, 1] ∧ Below W.heap.size W w' := by
  have hb : Below W.heap.size W (W.alloc (.cells #[.int .i64 1, .int .i64 2] 3)) := (Below.refl _ _).alloc (Nat.le_refl _) _
  refine (weights_at (wd := 5) (n := 2) 0 rfl (by decide) (by decide) (ints_newx W [1, 2] 3 (by unfold maxLen; simp)) (by decide) (by intro j hj; rcases (show j = 0 ∨ j = 1 by omega) with rfl | rfl <;> decide)).mono fun e w' he => ?_
  obtain ⟨A', c', h1, h2, h3⟩ := he
  rw [ax_w1] at h2
  exact ⟨A', c', h1, h2, below_then2 hb h3⟩
theorem axw2 (W : World) : Calls Try.prog 66 #[.int .i64 5, .slice (some ⟨W.heap.size, 0, none⟩) 2 2, .int .i64 0] (W.alloc (.cells #[.int .i64 1, .int .i64 3] 3)) fun e w' => ∃ A' c', e = .returned (.tuple #[.slice A' 2 c', .int .i64 0]) ∧ Byt (fun _ => True) w' A' 2 c' [2, 1] ∧ Below W.heap.size W w' := by
  have hb : Below W.heap.size W (W.alloc (.cells #[.int .i64 1, .int .i64 3] 3)) := (Below.refl _ _).alloc (Nat.le_refl _) _
  refine (weights_at (wd := 5) (n := 2) 0 rfl (by decide) (by decide) (ints_newx W [1, 3] 3 (by unfold maxLen; simp)) (by decide) (by intro j hj; rcases (show j = 0 ∨ j = 1 by omega) with rfl | rfl <;> decide)).mono fun e w' he => ?_
  obtain ⟨A', c', h1, h2, h3⟩ := he
  rw [ax_w2] at h2
  exact ⟨A', c', h1, h2, below_then2 hb h3⟩
theorem axdec (W : World) {A B : Option Addr} (h : Blks (fun _ => True) W A 5 5 axD) (g : Bools (fun _ => True) W B 5 5 axB) : Calls Try.prog 73 #[.slice A 5 5, .slice B 5 5] W fun e w' => ∃ A' c', e = .returned (.tuple #[.slice A' 5 c', .int .i64 0]) ∧ Blks (fun _ => True) w' A' 5 c' axG ∧ Below W.heap.size W w' := by
  have := decode_any (wd := 5) (by decide) (by decide) h g (.inr ⟨ax_lost, rfl, rfl, rfl⟩)
  rw [ax_dec] at this
  exact this
theorem axloc (W : World) {A : Option Addr} (h : Blks (fun _ => True) W A 5 5 axL) : Calls Try.prog 80 #[.slice A 5 5] W fun e w' => e = .returned (.tuple #[.int .i64 1, .int .i64 0]) ∧ Below W.heap.size W w' := by
  refine (locate_any (wd := 5) (by decide) (by decide) h).mono fun e w' he => ?_
  obtain ⟨r, er, h1, h2, h3⟩ := he
  obtain ⟨rfl, rfl⟩ := ax_loc h2
  exact ⟨h1, h3⟩
end Go.Proofs.Ytifhjigkljdkmaa
namespace Go.Proofs.Ytifhjigkljdkmaa
open Go.RowKit
open Gf (F)
set_option linter.unusedSimpArgs false
set_option linter.unusedVariables false
theorem ax3 (W : World) : Blks (fun _ => True) (((W.alloc (.cells #[.int .u8 3, .int .u8 0, .int .u8 0, .int .u8 0, .int .u8 0, .int .u8 0, .int .u8 0, .int .u8 0, .int .u8 5, .int .u8 0, .int .u8 0, .int .u8 0, .int .u8 0, .int .u8 0, .int .u8 0, .int .u8 0, .int .u8 6, .int .u8 0, .int .u8 0, .int .u8 0, .int .u8 0, .int .u8 0, .int .u8 0, .int .u8 0, .int .u8 9, .int .u8 0, .int .u8 0, .int .u8 0, .int .u8 0, .int .u8 0, .int .u8 0, .int .u8 0, .int .u8 23, .int .u8 0, .int .u8 0, .int .u8 0, .int .u8 0, .int .u8 0, .int .u8 0, .int .u8 0] 64)).alloc (.cells #[.int .u8 1, .int .u8 0, .int .u8 0, .int .u8 0, .int .u8 0, .int .u8 0, .int .u8 0, .int .u8 0, .int .u8 1, .int .u8 0, .int .u8 0, .int .u8 0, .int .u8 0, .int .u8 0, .int .u8 0, .int .u8 0, .int .u8 6, .int .u8 0, .int .u8 0, .int .u8 0, .int .u8 0, .int .u8 0, .int .u8 0, .int .u8 0, .int .u8 9, .int .u8 0, .int .u8 0, .int .u8 0, .int .u8 0, .int .u8 0, .int .u8 0, .int .u8 0, .int .u8 1, .int .u8 0, .int .u8 0, .int .u8 0, .int .u8 0, .int .u8 0, .int .u8 0, .int .u8 0] 64)).alloc (.cells #[.bool true, .bool true, .bool false, .bool false, .bool true] 4)) (some ⟨W.heap.size, 0, none⟩) 5 5 axG ∧ Blks (fun _ => True) (((W.alloc (.cells #[.int .u8 3, .int .u8 0, .int .u8 0, .int .u8 0, .int .u8 0, .int .u8 0, .int .u8 0, .int .u8 0, .int .u8 5, .int .u8 0, .int .u8 0, .int .u8 0, .int .u8 0, .int .u8 0, .int .u8 0, .int .u8 0, .int .u8 6, .int .u8 0, .int .u8 0, .int .u8 0, .int .u8 0, .int .u8 0, .int .u8 0, .int .u8 0, .int .u8 9, .int .u8 0, .int .u8 0, .int .u8 0, .int .u8 0, .int .u8 0, .int .u8 0, .int .u8 0, .int .u8 23, .int .u8 0, .int .u8 0, .int .u8 0, .int .u8 0, .int .u8 0, .int .u8 0, .int .u8 0] 64)).alloc (.cells #[.int .u8 1, .int .u8 0, .int .u8 0, .int .u8 0, .int .u8 0, .int .u8 0, .int .u8 0, .int .u8 0, .int .u8 1, .int .u8 0, .int .u8 0, .int .u8 0, .int .u8 0, .int .u8 0, .int .u8 0, .int .u8 0, .int .u8 6, .int .u8 0, .int .u8 0, .int .u8 0, .int .u8 0, .int .u8 0, .int .u8 0, .int .u8 0, .int .u8 9, .int .u8 0, .int .u8 0, .int .u8 0, .int .u8 0, .int .u8 0, .int .u8 0, .int .u8 0, .int .u8 1, .int .u8 0, .int .u8 0, .int .u8 0, .int .u8 0, .int .u8 0, .int .u8 0, .int .u8 0] 64)).alloc (.cells #[.bool true, .bool true, .bool false, .bool false, .bool true] 4)) (some ⟨W.heap.size + 1, 0, none⟩) 5 5 axD ∧ Bools (fun _ => True) (((W.alloc (.cells #[.int .u8 3, .int .u8 0, .int .u8 0, .int .u8 0, .int .u8 0, .int .u8 0, .int .u8 0, .int .u8 0, .int .u8 5, .int .u8 0, .int .u8 0, .int .u8 0, .int .u8 0, .int .u8 0, .int .u8 0, .int .u8 0, .int .u8 6, .int .u8 0, .int .u8 0, .int .u8 0, .int .u8 0, .int .u8 0, .int .u8 0, .int .u8 0, .int .u8 9, .int .u8 0, .int .u8 0, .int .u8 0, .int .u8 0, .int .u8 0, .int .u8 0, .int .u8 0, .int .u8 23, .int .u8 0, .int .u8 0, .int .u8 0, .int .u8 0, .int .u8 0, .int .u8 0, .int .u8 0] 64)).alloc (.cells #[.int .u8 1, .int .u8 0, .int .u8 0, .int .u8 0, .int .u8 0, .int .u8 0, .int .u8 0, .int .u8 0, .int .u8 1, .int .u8 0, .int .u8 0, .int .u8 0, .int .u8 0, .int .u8 0, .int .u8 0, .int .u8 0, .int .u8 6, .int .u8 0, .int .u8 0, .int .u8 0, .int .u8 0, .int .u8 0, .int .u8 0, .int .u8 0, .int .u8 9, .int .u8 0, .int .u8 0, .int .u8 0, .int .u8 0, .int .u8 0, .int .u8 0, .int .u8 0, .int .u8 1, .int .u8 0, .int .u8 0, .int .u8 0, .int .u8 0, .int .u8 0, .int .u8 0, .int .u8 0] 64)).alloc (.cells #[.bool true, .bool true, .bool false, .bool false, .bool true] 4)) (some ⟨W.heap.size + 1 + 1, 0, none⟩) 5 5 axB ∧ Below W.heap.size W (((W.alloc (.cells #[.int .u8 3, .int .u8 0, .int .u8 0, .int .u8 0, .int .u8 0, .int .u8 0, .int .u8 0, .int .u8 0, .int .u8 5, .int .u8 0, .int .u8 0, .int .u8 0, .int .u8 0, .int .u8 0, .int .u8 0, .int .u8 0, .int .u8 6, .int .u8 0, .int .u8 0, .int .u8 0, .int .u8 0, .int .u8 0, .int .u8 0, .int .u8 0, .int .u8 9, .int .u8 0, .int .u8 0, .int .u8 0, .int .u8 0, .int .u8 0, .int .u8 0, .int .u8 0, .int .u8 23, .int .u8 0, .int .u8 0, .int .u8 0, .int .u8 0, .int .u8 0, .int .u8 0, .int .u8 0] 64)).alloc (.cells #[.int .u8 1, .int .u8 0, .int .u8 0, .int .u8 0, .int .u8 0, .int .u8 0, .int .u8 0, .int .u8 0, .int .u8 1, .int .u8 0, .int .u8 0, .int .u8 0, .int .u8 0, .int .u8 0, .int .u8 0, .int .u8 0, .int .u8 6, .int .u8 0, .int .u8 0, .int .u8 0, .int .u8 0, .int .u8 0, .int .u8 0, .int .u8 0, .int .u8 9, .int .u8 0, .int .u8 0, .int .u8 0, .int .u8 0, .int .u8 0, .int .u8 0, .int .u8 0, .int .u8 1, .int .u8 0, .int .u8 0, .int .u8 0, .int .u8 0, .int .u8 0, .int .u8 0, .int .u8 0] 64)).alloc (.cells #[.bool true, .bool true, .bool false, .bool false, .bool true] 4)) := by
  have g1 := axG_new W
  have g2 := axD_new (W.alloc (.cells #[.int .u8 3, .int .u8 0, .int .u8 0, .int .u8 0, .int .u8 0, .int .u8 0, .int .u8 0, .int .u8 0, .int .u8 5, .int .u8 0, .int .u8 0, .int .u8 0, .int .u8 0, .int .u8 0, .int .u8 0, .int .u8 0, .int .u8 6, .int .u8 0, .int .u8 0, .int .u8 0, .int .u8 0, .int .u8 0, .int .u8 0, .int .u8 0, .int .u8 9, .int .u8 0, .int .u8 0, .int .u8 0, .int .u8 0, .int .u8 0, .int .u8 0, .int .u8 0, .int .u8 23, .int .u8 0, .int .u8 0, .int .u8 0, .int .u8 0, .int .u8 0, .int .u8 0, .int .u8 0] 64))
  have g3 := axB_new ((W.alloc (.cells #[.int .u8 3, .int .u8 0, .int .u8 0, .int .u8 0, .int .u8 0, .int .u8 0, .int .u8 0, .int .u8 0, .int .u8 5, .int .u8 0, .int .u8 0, .int .u8 0, .int .u8 0, .int .u8 0, .int .u8 0, .int .u8 0, .int .u8 6, .int .u8 0, .int .u8 0, .int .u8 0, .int .u8 0, .int .u8 0, .int .u8 0, .int .u8 0, .int .u8 9, .int .u8 0, .int .u8 0, .int .u8 0, .int .u8 0, .int .u8 0, .int .u8 0, .int .u8 0, .int .u8 23, .int .u8 0, .int .u8 0, .int .u8 0, .int .u8 0, .int .u8 0, .int .u8 0, .int .u8 0] 64)).alloc (.cells #[.int .u8 1, .int .u8 0, .int .u8 0, .int .u8 0, .int .u8 0, .int .u8 0, .int .u8 0, .int .u8 0, .int .u8 1, .int .u8 0, .int .u8 0, .int .u8 0, .int .u8 0, .int .u8 0, .int .u8 0, .int .u8 0, .int .u8 6, .int .u8 0, .int .u8 0, .int .u8 0, .int .u8 0, .int .u8 0, .int .u8 0, .int .u8 0, .int .u8 9, .int .u8 0, .int .u8 0, .int .u8 0, .int .u8 0, .int .u8 0, .int .u8 0, .int .u8 0, .int .u8 1, .int .u8 0, .int .u8 0, .int .u8 0, .int .u8 0, .int .u8 0, .int .u8 0, .int .u8 0] 64))
  have b1 : Below W.heap.size W (W.alloc (.cells #[.int .u8 3, .int .u8 0, .int .u8 0, .int .u8 0, .int .u8 0, .int .u8 0, .int .u8 0, .int .u8 0, .int .u8 5, .int .u8 0, .int .u8 0, .int .u8 0, .int .u8 0, .int .u8 0, .int .u8 0, .int .u8 0, .int .u8 6, .int .u8 0, .int .u8 0, .int .u8 0, .int .u8 0, .int .u8 0, .int .u8 0, .int .u8 0, .int .u8 9, .int .u8 0, .int .u8 0, .int .u8 0, .int .u8 0, .int .u8 0, .int .u8 0, .int .u8 0, .int .u8 23, .int .u8 0, .int .u8 0, .int .u8 0, .int .u8 0, .int .u8 0, .int .u8 0, .int .u8 0] 64)) := (Below.refl _ _).alloc (Nat.le_refl _) _
  have b2 : Below (W.alloc (.cells #[.int .u8 3, .int .u8 0, .int .u8 0, .int .u8 0, .int .u8 0, .int .u8 0, .int .u8 0, .int .u8 0, .int .u8 5, .int .u8 0, .int .u8 0, .int .u8 0, .int .u8 0, .int .u8 0, .int .u8 0, .int .u8 0, .int .u8 6, .int .u8 0, .int .u8 0, .int .u8 0, .int .u8 0, .int .u8 0, .int .u8 0, .int .u8 0, .int .u8 9, .int .u8 0, .int .u8 0, .int .u8 0, .int .u8 0, .int .u8 0, .int .u8 0, .int .u8 0, .int .u8 23, .int .u8 0, .int .u8 0, .int .u8 0, .int .u8 0, .int .u8 0, .int .u8 0, .int .u8 0] 64)).heap.size (W.alloc (.cells #[.int .u8 3, .int .u8 0, .int .u8 0, .int .u8 0, .int .u8 0, .int .u8 0, .int .u8 0, .int .u8 0, .int .u8 5, .int .u8 0, .int .u8 0, .int .u8 0, .int .u8 0, .int .u8 0, .int .u8 0, .int .u8 0, .int .u8 6, .int .u8 0, .int .u8 0, .int .u8 0, .int .u8 0, .int .u8 0, .int .u8 0, .int .u8 0, .int .u8 9, .int .u8 0, .int .u8 0, .int .u8 0, .int .u8 0, .int .u8 0, .int .u8 0, .int .u8 0, .int .u8 23, .int .u8 0, .int .u8 0, .int .u8 0, .int .u8 0, .int .u8 0, .int .u8 0, .int .u8 0] 64)) ((W.alloc (.cells #[.int .u8 3, .int .u8 0, .int .u8 0, .int .u8 0, .int .u8 0, .int .u8 0, .int .u8 0, .int .u8 0, .int .u8 5, .int .u8 0, .int .u8 0, .int .u8 0, .int .u8 0, .int .u8 0, .int .u8 0, .int .u8 0, .int .u8 6, .int .u8 0, .int .u8 0, .int .u8 0, .int .u8 0, .int .u8 0, .int .u8 0, .int .u8 0, .int .u8 9, .int .u8 0, .int .u8 0, .int .u8 0, .int .u8 0, .int .u8 0, .int .u8 0, .int .u8 0, .int .u8 23, .int .u8 0, .int .u8 0, .int .u8 0, .int .u8 0, .int .u8 0, .int .u8 0, .int .u8 0] 64)).alloc (.cells #[.int .u8 1, .int .u8 0, .int .u8 0, .int .u8 0, .int .u8 0, .int .u8 0, .int .u8 0, .int .u8 0, .int .u8 1, .int .u8 0, .int .u8 0, .int .u8 0, .int .u8 0, .int .u8 0, .int .u8 0, .int .u8 0, .int .u8 6, .int .u8 0, .int .u8 0, .int .u8 0, .int .u8 0, .int .u8 0, .int .u8 0, .int .u8 0, .int .u8 9, .int .u8 0, .int .u8 0, .int .u8 0, .int .u8 0, .int .u8 0, .int .u8 0, .int .u8 0, .int .u8 1, .int .u8 0, .int .u8 0, .int .u8 0, .int .u8 0, .int .u8 0, .int .u8 0, .int .u8 0] 64)) := (Below.refl _ _).alloc (Nat.le_refl _) _
  have b3 : Below ((W.alloc (.cells #[.int .u8 3, .int .u8 0, .int .u8 0, .int .u8 0, .int .u8 0, .int .u8 0, .int .u8 0, .int .u8 0, .int .u8 5, .int .u8 0, .int .u8 0, .int .u8 0, .int .u8 0, .int .u8 0, .int .u8 0, .int .u8 0, .int .u8 6, .int .u8 0, .int .u8 0, .int .u8 0, .int .u8 0, .int .u8 0, .int .u8 0, .int .u8 0, .int .u8 9, .int .u8 0, .int .u8 0, .int .u8 0, .int .u8 0, .int .u8 0, .int .u8 0, .int .u8 0, .int .u8 23, .int .u8 0, .int .u8 0, .int .u8 0, .int .u8 0, .int .u8 0, .int .u8 0, .int .u8 0] 64)).alloc (.cells #[.int .u8 1, .int .u8 0, .int .u8 0, .int .u8 0, .int .u8 0, .int .u8 0, .int .u8 0, .int .u8 0, .int .u8 1, .int .u8 0, .int .u8 0, .int .u8 0, .int .u8 0, .int .u8 0, .int .u8 0, .int .u8 0, .int .u8 6, .int .u8 0, .int .u8 0, .int .u8 0, .int .u8 0, .int .u8 0, .int .u8 0, .int .u8 0, .int .u8 9, .int .u8 0, .int .u8 0, .int .u8 0, .int .u8 0, .int .u8 0, .int .u8 0, .int .u8 0, .int .u8 1, .int .u8 0, .int .u8 0, .int .u8 0, .int .u8 0, .int .u8 0, .int .u8 0, .int .u8 0] 64)).heap.size ((W.alloc (.cells #[.int .u8 3, .int .u8 0, .int .u8 0, .int .u8 0, .int .u8 0, .int .u8 0, .int .u8 0, .int .u8 0, .int .u8 5, .int .u8 0, .int .u8 0, .int .u8 0, .int .u8 0, .int .u8 0, .int .u8 0, .int .u8 0, .int .u8 6, .int .u8 0, .int .u8 0, .int .u8 0, .int .u8 0, .int .u8 0, .int .u8 0, .int .u8 0, .int .u8 9, .int .u8 0, .int .u8 0, .int .u8 0, .int .u8 0, .int .u8 0, .int .u8 0, .int .u8 0, .int .u8 23, .int .u8 0, .int .u8 0, .int .u8 0, .int .u8 0, .int .u8 0, .int .u8 0, .int .u8 0] 64)).alloc (.cells #[.int .u8 1, .int .u8 0, .int .u8 0, .int .u8 0, .int .u8 0, .int .u8 0, .int .u8 0, .int .u8 0, .int .u8 1, .int .u8 0, .int .u8 0, .int .u8 0, .int .u8 0, .int .u8 0, .int .u8 0, .int .u8 0, .int .u8 6, .int .u8 0, .int .u8 0, .int .u8 0, .int .u8 0, .int .u8 0, .int .u8 0, .int .u8 0, .int .u8 9, .int .u8 0, .int .u8 0, .int .u8 0, .int .u8 0, .int .u8 0, .int .u8 0, .int .u8 0, .int .u8 1, .int .u8 0, .int .u8 0, .int .u8 0, .int .u8 0, .int .u8 0, .int .u8 0, .int .u8 0] 64)) (((W.alloc (.cells #[.int .u8 3, .int .u8 0, .int .u8 0, .int .u8 0, .int .u8 0, .int .u8 0, .int .u8 0, .int .u8 0, .int .u8 5, .int .u8 0, .int .u8 0, .int .u8 0, .int .u8 0, .int .u8 0, .int .u8 0, .int .u8 0, .int .u8 6, .int .u8 0, .int .u8 0, .int .u8 0, .int .u8 0, .int .u8 0, .int .u8 0, .int .u8 0, .int .u8 9, .int .u8 0, .int .u8 0, .int .u8 0, .int .u8 0, .int .u8 0, .int .u8 0, .int .u8 0, .int .u8 23, .int .u8 0, .int .u8 0, .int .u8 0, .int .u8 0, .int .u8 0, .int .u8 0, .int .u8 0] 64)).alloc (.cells #[.int .u8 1, .int .u8 0, .int .u8 0, .int .u8 0, .int .u8 0, .int .u8 0, .int .u8 0, .int .u8 0, .int .u8 1, .int .u8 0, .int .u8 0, .int .u8 0, .int .u8 0, .int .u8 0, .int .u8 0, .int .u8 0, .int .u8 6, .int .u8 0, .int .u8 0, .int .u8 0, .int .u8 0, .int .u8 0, .int .u8 0, .int .u8 0, .int .u8 9, .int .u8 0, .int .u8 0, .int .u8 0, .int .u8 0, .int .u8 0, .int .u8 0, .int .u8 0, .int .u8 1, .int .u8 0, .int .u8 0, .int .u8 0, .int .u8 0, .int .u8 0, .int .u8 0, .int .u8 0] 64)).alloc (.cells #[.bool true, .bool true, .bool false, .bool false, .bool true] 4)) := (Below.refl _ _).alloc (Nat.le_refl _) _
  have g1' := (g1.below b2).below b3
  have g2' := g2.below b3
  rw [size_alloc1] at g2'
  rw [size_alloc1, size_alloc1] at g3
  exact ⟨g1', g2', g3, below_then2 (below_then2 b1 b2) b3⟩
theorem axdecW (W : World) : Calls Try.prog 73 #[.slice (some ⟨W.heap.size + 1, 0, none⟩) 5 5, .slice (some ⟨W.heap.size + 1 + 1, 0, none⟩) 5 5] (((W.alloc (.cells #[.int .u8 3, .int .u8 0, .int .u8 0, .int .u8 0, .int .u8 0, .int .u8 0, .int .u8 0, .int .u8 0, .int .u8 5, .int .u8 0, .int .u8 0, .int .u8 0, .int .u8 0, .int .u8 0, .int .u8 0, .int .u8 0, .int .u8 6, .int .u8 0, .int .u8 0, .int .u8 0, .int .u8 0, .int .u8 0, .int .u8 0, .int .u8 0, .int .u8 9, .int .u8 0, .int .u8 0, .int .u8 0, .int .u8 0, .int .u8 0, .int .u8 0, .int .u8 0, .int .u8 23, .int .u8 0, .int .u8 0, .int .u8 0, .int .u8 0, .int .u8 0, .int .u8 0, .int .u8 0] 64)).alloc (.cells #[.int .u8 1, .int .u8 0, .int .u8 0, .int .u8 0, .int .u8 0, .int .u8 0, .int .u8 0, .int .u8 0, .int .u8 1, .int .u8 0, .int .u8 0, .int .u8 0, .int .u8 0, .int .u8 0, .int .u8 0, .int .u8 0, .int .u8 6, .int .u8 0, .int .u8 0, .int .u8 0, .int .u8 0, .int .u8 0, .int .u8 0, .int .u8 0, .int .u8 9, .int .u8 0, .int .u8 0, .int .u8 0, .int .u8 0, .int .u8 0, .int .u8 0, .int .u8 0, .int .u8 1, .int .u8 0, .int .u8 0, .int .u8 0, .int .u8 0, .int .u8 0, .int .u8 0, .int .u8 0] 64)).alloc (.cells #[.bool true, .bool true, .bool false, .bool false, .bool true] 4)) fun e w' => ∃ A' c', e = .returned (.tuple #[.slice A' 5 c', .int .i64 0]) ∧ Blks (fun _ => True) w' A' 5 c' axG ∧ Blks (fun _ => True) w' (some ⟨W.heap.size, 0, none⟩) 5 5 axG ∧ Below W.heap.size W w' := by
  obtain ⟨f1, f2, f3, f4⟩ := ax3 W
  refine (axdec _ f2 f3).mono fun e w' he => ?_
  obtain ⟨A', c', h1, h2, h3⟩ := he
  exact ⟨A', c', h1, h2, f1.below h3, below_then2 f4 h3⟩
theorem axlocW (W : World) : Calls Try.prog 80 #[.slice (some ⟨W.heap.size, 0, none⟩) 5 5] (W.alloc (.cells #[.int .u8 3, .int .u8 0, .int .u8 0, .int .u8 0, .int .u8 0, .int .u8 0, .int .u8 0, .int .u8 0, .int .u8 4, .int .u8 0, .int .u8 0, .int .u8 0, .int .u8 0, .int .u8 0, .int .u8 0, .int .u8 0, .int .u8 6, .int .u8 0, .int .u8 0, .int .u8 0, .int .u8 0, .int .u8 0, .int .u8 0, .int .u8 0, .int .u8 9, .int .u8 0, .int .u8 0, .int .u8 0, .int .u8 0, .int .u8 0, .int .u8 0, .int .u8 0, .int .u8 23, .int .u8 0, .int .u8 0, .int .u8 0, .int .u8 0, .int .u8 0, .int .u8 0, .int .u8 0] 64)) fun e w' => e = .returned (.tuple #[.int .i64 1, .int .i64 0]) ∧ Below W.heap.size W w' := by
  have hb : Below W.heap.size W (W.alloc (.cells #[.int .u8 3, .int .u8 0, .int .u8 0, .int .u8 0, .int .u8 0, .int .u8 0, .int .u8 0, .int .u8 0, .int .u8 4, .int .u8 0, .int .u8 0, .int .u8 0, .int .u8 0, .int .u8 0, .int .u8 0, .int .u8 0, .int .u8 6, .int .u8 0, .int .u8 0, .int .u8 0, .int .u8 0, .int .u8 0, .int .u8 0, .int .u8 0, .int .u8 9, .int .u8 0, .int .u8 0, .int .u8 0, .int .u8 0, .int .u8 0, .int .u8 0, .int .u8 0, .int .u8 23, .int .u8 0, .int .u8 0, .int .u8 0, .int .u8 0, .int .u8 0, .int .u8 0, .int .u8 0] 64)) := (Below.refl _ _).alloc (Nat.le_refl _) _
  refine (axloc _ (axL_new W)).mono fun e w' he => ?_
  exact ⟨he.1, below_then2 hb he.2⟩
theorem bytes_new2 (W : World) (a b : F) : Byt (fun _ => True) (W.alloc (.cells #[.int .u8 (a.toNat : Int), .int .u8 (b.toNat : Int)] 5)) (some ⟨W.heap.size, 0, none⟩) 2 2 [a, b] := by
  have h := World.rowIs_alloc W #[.int .u8 (a.toNat : Int), .int .u8 (b.toNat : Int)] 5 (fun j => .int .u8 ((nth [a, b] j).toNat : Int)) (fun i hi => by
    have hi : i < 2 := hi
    rcases i with _ | _ | i
    all_goals first | rfl | (exfalso; omega))
  exact ⟨rfl, Row.of_rowIs h trivial (by unfold maxLen; omega)⟩
theorem axs1 (W : World) {A : Option Addr} {c : Nat} (h : Byt (fun _ => True) W A 2 c [1, 1]) : Calls Try.prog 43 #[.slice A 2 c, .slice (some ⟨W.heap.size, 0, none⟩) 2 2] (W.alloc (.cells #[.int .u8 1, .int .u8 1] 5)) fun e w' => e = .returned (.bool true) ∧ Below W.heap.size W w' := by
  have hb : Below W.heap.size W (W.alloc (.cells #[.int .u8 1, .int .u8 1] 5)) := (Below.refl _ _).alloc (Nat.le_refl _) _
  refine (same01_any (h.below hb) (bytes_new2 W 1 1)).mono fun e w' he => ?_
  obtain ⟨h1, rfl⟩ := he
  exact ⟨h1, hb⟩
theorem axs2 (W : World) {A : Option Addr} {c : Nat} (h : Byt (fun _ => True) W A 2 c [2, 1]) : Calls Try.prog 43 #[.slice A 2 c, .slice (some ⟨W.heap.size, 0, none⟩) 2 2] (W.alloc (.cells #[.int .u8 2, .int .u8 1] 5)) fun e w' => e = .returned (.bool true) ∧ Below W.heap.size W w' := by
  have hb : Below W.heap.size W (W.alloc (.cells #[.int .u8 2, .int .u8 1] 5)) := (Below.refl _ _).alloc (Nat.le_refl _) _
  refine (same01_any (h.below hb) (bytes_new2 W 2 1)).mono fun e w' he => ?_
  obtain ⟨h1, rfl⟩ := he
  exact ⟨h1, hb⟩
set_option maxRecDepth 100000 in
set_option maxHeartbeats 4000000 in
theorem awake04_any (w : World) : Calls Try.prog 65 #[] w fun e w' => e = .returned (.bool true) ∧ Below w.heap.size w w' := by
  go_enter Try.func65, Try.ntmps65
  go_wp2_with (first | (go_at_call 66; (with_reducible refine (axw1 _).mono ?_); rintro e w1 ⟨A1, k1, rfl, hy1, hb1⟩) | (go_at_call 66; (with_reducible refine (axw2 _).mono ?_); rintro e w2 ⟨A2, k2, rfl, hy2, hb2⟩; have hB2 := below_then2 hb1 hb2; have hy12 := hy1.below hb2) | (go_at_call 73; (with_reducible refine (axdecW w2).mono ?_); rintro e w3 ⟨A3, k3, rfl, hD3, hG3, hb3⟩; have hB3 := below_then2 hB2 hb3; have hy13 := hy12.below hb3; have hy23 := hy2.below hb3) | (go_at_call 80; (with_reducible refine (axlocW w3).mono ?_); rintro e w4 ⟨rfl, hb4⟩; have hB4 := below_then2 hB3 hb4; have hy14 := hy13.below hb4; have hy24 := hy23.below hb4; have hD4 := hD3.below hb4; have hG4 := hG3.below hb4) | (go_at_call 43; (with_reducible refine (axs1 _ hy14).mono ?_); rintro e w5 ⟨rfl, hb5⟩; have hB5 := below_then2 hB4 hb5; have hy25 := hy24.below hb5; have hD5 := hD4.below hb5; have hG5 := hG4.below hb5) | (go_at_call 43; (with_reducible refine (axs2 _ hy25).mono ?_); rintro e w6 ⟨rfl, hb6⟩; have hB6 := below_then2 hB5 hb6; have hD6 := hD5.below hb6; have hG6 := hG5.below hb6) | (go_at_call 74; (with_reducible refine (same03_any hD6 hG6).mono ?_); rw [show decide (axG = axG) = true from decide_eq_true rfl]; rintro e w7 ⟨rfl, nd, rfl⟩; have hB7 := below_drewN hB6 nd))
  go_ret
  exact ⟨rfl, hB7⟩
end Go.Proofs.Ytifhjigkljdkmaa
