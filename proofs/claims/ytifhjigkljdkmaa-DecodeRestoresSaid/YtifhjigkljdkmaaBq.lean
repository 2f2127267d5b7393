/- Laws of regions that draw their order and read whole elements; two blocks are compared. -/
import Derived.Test.YtifhjigkljdkmaaBl
namespace Go.Proofs.Ytifhjigkljdkmaa
open Go.RowKit
open Gf (F)
set_option linter.unusedSimpArgs false
set_option linter.unusedVariables false
section
variable {P : Program} {w : World} {o : Oper} {a : Act} {K : Act → Prop} {C : World → Prop}
theorem quiet_load_agg {ty : TypeId} {x : Operand} (ho : o.op = .load ty x) {b off : Nat} (hx : a.eval x = .pointer (some ⟨b, off, none⟩)) {cs : Array Value} {d : TypeDesc} (hu : P.underlying ty = some d) (hd : (match d with | .struct _ | .array _ _ => true | _ => false) = true) (hi : (P.info? ty).map (·.size) = some cs.size)
    (hc : ∀ k, k < cs.size → w.cell? ⟨b, off + k, none⟩ = cs[k]?) (hk : K (a.put o.dst (.agg cs))) : o.quiet P a (fun w' => ∃ n, w' = w.drewN n) K :=
  ⟨_, fun w' hw' => by
    obtain ⟨n, rfl⟩ := hw'
    have := run_loadVar_agg (P := P) (w := w.drewN n) (b := b) (o := off) hu hd hi (fun k hk => hc k hk)
    unfold Oper.quietAt execOp
    simp only [ho, hx, Instr.loadAt, Instr.sureAddr, Sem.run_bind, Sem.run_pure, Result.andThen_ok, this]
    exact ⟨rfl, rfl⟩, hk⟩
theorem quiet_bin {op : BinOp} {t t2 : TypeId} {x y : Operand} (ho : o.op = .binOp op t x y t2) {u v : Value} (hx : a.eval x = u) (hy : a.eval y = v) {r : Value} (hg : ∀ w : World, (eqGuard op t x y u v).run P w = .ok () w) (hr : ∀ w : World, (binOp op t u v).run P w = .ok r w) (hk : K (a.put o.dst r)) : o.quiet P a C K :=
  ⟨_, fun w' hw' => by
    unfold Oper.quietAt execOp
    simp only [ho, hx, hy, Sem.run_bind, Sem.run_pure, Result.andThen_ok, hg, hr]
    exact ⟨rfl, rfl⟩, hk⟩
end
theorem sizeOf5 (w : World) : (sizeOf 5).run Try.prog w = .ok 1 w := by kernel_rfl
theorem guard64 (op : BinOp) (x y : Operand) (u v : Array Value) (w : World) : (eqGuard op 64 x y (.agg u) (.agg v)).run Try.prog w = .ok () w := run_eqGuard_agg w op 64 x y u v (by kernel_rfl)
theorem neq64 {x y : List F} (hx : x.length = 8) (hy : y.length = 8) (w : World) : (binOp .neq 64 (.agg (agc x)) (.agg (agc y))).run Try.prog w = .ok (.bool (!decide (x = y))) w := by
  rw [run_neq_struct, show (10000 : Nat) = 9998 + 2 from rfl]
  unfold agc
  rw [run_equalIn_bytes w 9998 64 5 8 Try.underlying64 Try.underlying5 sizeOf5 x y hx hy]
  simp [Result.andThen]
  rw [Bool.eq_iff_iff]
  simp
theorem eql64 {x y : List F} (hx : x.length = 8) (hy : y.length = 8) (w : World) : (binOp .eql 64 (.agg (agc x)) (.agg (agc y))).run Try.prog w = .ok (.bool (decide (x = y))) w := by
  rw [run_eql_struct, show (10000 : Nat) = 9998 + 2 from rfl]
  unfold agc
  rw [run_equalIn_bytes w 9998 64 5 8 Try.underlying64 Try.underlying5 sizeOf5 x y hx hy]
  simp [Result.andThen]
  rw [Bool.eq_iff_iff]
  simp
section
variable {p q : Nat → Prop} {w : World} {A B : Option Addr} {n c m d : Nat} {M N : List (List F)}
set_option maxRecDepth 100000 in
set_option maxHeartbeats 1000000 in
theorem same03_any (h : Blks p w A n c M) (g : Blks q w B m d N) : Calls Try.prog 74 #[.slice A n c, .slice B m d] w fun e w' => e = .returned (.bool (decide (M = N))) ∧ ∃ m, w' = w.drewN m := by
  have hn := h.len
  have hm := g.len
  by_cases hne : n = m
  case neg =>
    have ht : ((n : Int) != (m : Int)) = true := by simp; exact fun e => hne (by omega)
    replace hne := Lib.hid hne
    go_enter Try.func74, Try.ntmps74
    go_wp2
    go_ret
    exact ⟨ret_bool (by rw [eq_comm, decide_eq_false_iff_not]; intro e; exact hne.out (by rw [← h.1, ← g.1, e])), 0, rfl⟩
  subst hne
  have ht : ((n : Int) != (n : Int)) = false := by simp
  go_enter Try.func74, Try.ntmps74
  go_wp2
  go_loopw [5] (fun i wr => ∃ i' m : Nat, i' ≤ n ∧ i = .int .i64 i' ∧ wr = w.drewN m ∧ ∀ j, j < i' → mrow M j = mrow N j) (fun i _ => n - (intOf i).toNat)
  case atStart => exact ⟨0, 0, by omega, rfl, rfl, fun j hj => absurd hj (Nat.not_lt_zero _)⟩
  case round =>
    obtain ⟨i, m, hk, rfl, rfl, hall⟩ := hrel
    replace hall := Lib.hid hall
    by_cases hlt : i < n
    · obtain ⟨b, o, rfl, _, _, hc⟩ := h.agg (by omega)
      obtain ⟨b', o', rfl, _, _, hc'⟩ := g.agg (by omega)
      have e1 : ∀ k, k < 8 → (w.drewN m).cell? ⟨b, o + i * 8 + k, none⟩ = (agc (mrow M i))[k]? := hc i hlt
      have e2 : ∀ k, k < 8 → (w.drewN m).cell? ⟨b', o' + i * 8 + k, none⟩ = (agc (mrow N i))[k]? := hc' i hlt
      clear hc hc'
      have hlx := h.row hlt
      have hly := g.row hlt
      have b1 : (0 : Int) ≤ (i : Int) := Int.natCast_nonneg _
      have b2 : (i : Int) < (n : Int) := by omega
      by_cases heq : mrow M i = mrow N i
      · have tok : True := trivial
        have hrun := fun w => neq64 hlx hly w
        rw [show (!decide (mrow M i = mrow N i)) = false by rw [decide_eq_true heq]; rfl] at hrun
        replace heq := Lib.hid heq
        go_wp2
        refine wp_region_quiet_lit (by kernel_rfl) (by kernel_rfl) ?_
        quiet_step (fail)
        quiet_step (fail)
        quiet_step (fail)
        refine BigFrame.wpQuiet_want rfl (fun K hK => ?_)
        refine quiet_load_agg rfl rfl Try.underlying64 rfl (info64' hlx) (fun k hk => e1 k (by rwa [agc_size, hlx] at hk)) ?_
        refine hK _ ?_
        clear hK K
        simp only [Act.put, List.setIfInBounds_toArray, List.set_cons_zero, List.set_cons_succ]
        quiet_step (fail)
        quiet_step (fail)
        quiet_step (fail)
        refine BigFrame.wpQuiet_want rfl (fun K hK => ?_)
        refine quiet_load_agg rfl rfl Try.underlying64 rfl (info64' hly) (fun k hk => e2 k (by rwa [agc_size, hly] at hk)) ?_
        refine hK _ ?_
        clear hK K
        simp only [Act.put, List.setIfInBounds_toArray, List.set_cons_zero, List.set_cons_succ]
        refine BigFrame.wpQuiet_want rfl (fun K hK => ?_)
        refine quiet_bin rfl rfl rfl (guard64 _ _ _ _ _) hrun ?_
        refine hK _ ?_
        clear hK K
        simp only [Act.put, List.setIfInBounds_toArray, List.set_cons_zero, List.set_cons_succ]
        refine wpQuiet_nil ?_
        intro _ hw'
        obtain ⟨nq, hw''⟩ := hw'
        subst hw''
        go_wp2
        go_roundw
        case rel => exact ⟨i + 1, _, by omega, by go_num, rfl, fun j hj => by
            rcases Nat.lt_succ_iff_lt_or_eq.1 hj with hj | rfl
            · exact hall.out j hj
            · exact heq.out⟩
        case measure => simp [intOf]; omega
      · have tok : True := trivial
        have hrun := fun w => neq64 hlx hly w
        rw [show (!decide (mrow M i = mrow N i)) = true by rw [decide_eq_false heq]; rfl] at hrun
        replace heq := Lib.hid heq
        go_wp2
        refine wp_region_quiet_lit (by kernel_rfl) (by kernel_rfl) ?_
        quiet_step (fail)
        quiet_step (fail)
        quiet_step (fail)
        refine BigFrame.wpQuiet_want rfl (fun K hK => ?_)
        refine quiet_load_agg rfl rfl Try.underlying64 rfl (info64' hlx) (fun k hk => e1 k (by rwa [agc_size, hlx] at hk)) ?_
        refine hK _ ?_
        clear hK K
        simp only [Act.put, List.setIfInBounds_toArray, List.set_cons_zero, List.set_cons_succ]
        quiet_step (fail)
        quiet_step (fail)
        quiet_step (fail)
        refine BigFrame.wpQuiet_want rfl (fun K hK => ?_)
        refine quiet_load_agg rfl rfl Try.underlying64 rfl (info64' hly) (fun k hk => e2 k (by rwa [agc_size, hly] at hk)) ?_
        refine hK _ ?_
        clear hK K
        simp only [Act.put, List.setIfInBounds_toArray, List.set_cons_zero, List.set_cons_succ]
        refine BigFrame.wpQuiet_want rfl (fun K hK => ?_)
        refine quiet_bin rfl rfl rfl (guard64 _ _ _ _ _) hrun ?_
        refine hK _ ?_
        clear hK K
        simp only [Act.put, List.setIfInBounds_toArray, List.set_cons_zero, List.set_cons_succ]
        refine wpQuiet_nil ?_
        intro _ hw'
        obtain ⟨nq, hw''⟩ := hw'
        subst hw''
        go_wp2
        go_ret
        exact ⟨ret_bool (by rw [eq_comm, decide_eq_false_iff_not]; intro e; exact heq.out (by rw [e])), _, World.drewN_drewN ..⟩
    · obtain rfl : i = n := by omega
      go_wp2
      go_ret
      exact ⟨ret_bool (by rw [eq_comm, decide_eq_true_eq]; exact mrow_ext (h.1.trans g.1.symm) (fun j hj => hall.out j (by rw [← h.1]; exact hj))), _, rfl⟩
set_option maxRecDepth 100000 in
set_option maxHeartbeats 1000000 in
theorem sameblocks_any (h : Blks p w A n c M) (g : Blks q w B m d N) : Calls Try.prog 52 #[.slice A n c, .slice B m d] w fun e w' => e = .returned (.bool (decide (M = N))) ∧ ∃ m, w' = w.drewN m := by
  have hn := h.len
  have hm := g.len
  by_cases hne : n = m
  case neg =>
    have ht : ((n : Int) != (m : Int)) = true := by simp; exact fun e => hne (by omega)
    replace hne := Lib.hid hne
    go_enter Try.func52, Try.ntmps52
    go_wp2
    go_ret
    exact ⟨ret_bool (by rw [eq_comm, decide_eq_false_iff_not]; intro e; exact hne.out (by rw [← h.1, ← g.1, e])), 0, rfl⟩
  subst hne
  have ht : ((n : Int) != (n : Int)) = false := by simp
  go_enter Try.func52, Try.ntmps52
  go_wp2
  go_loopw [5] (fun i wr => ∃ i' m : Nat, i' ≤ n ∧ i = .int .i64 i' ∧ wr = w.drewN m ∧ ∀ j, j < i' → mrow M j = mrow N j) (fun i _ => n - (intOf i).toNat)
  case atStart => exact ⟨0, 0, by omega, rfl, rfl, fun j hj => absurd hj (Nat.not_lt_zero _)⟩
  case round =>
    obtain ⟨i, m, hk, rfl, rfl, hall⟩ := hrel
    replace hall := Lib.hid hall
    by_cases hlt : i < n
    · obtain ⟨b, o, rfl, _, _, hc⟩ := h.agg (by omega)
      obtain ⟨b', o', rfl, _, _, hc'⟩ := g.agg (by omega)
      have e1 : ∀ k, k < 8 → (w.drewN m).cell? ⟨b, o + i * 8 + k, none⟩ = (agc (mrow M i))[k]? := hc i hlt
      have e2 : ∀ k, k < 8 → (w.drewN m).cell? ⟨b', o' + i * 8 + k, none⟩ = (agc (mrow N i))[k]? := hc' i hlt
      clear hc hc'
      have hlx := h.row hlt
      have hly := g.row hlt
      have b1 : (0 : Int) ≤ (i : Int) := Int.natCast_nonneg _
      have b2 : (i : Int) < (n : Int) := by omega
      by_cases heq : mrow M i = mrow N i
      · have tok : True := trivial
        have hrun := fun w => neq64 hlx hly w
        rw [show (!decide (mrow M i = mrow N i)) = false by rw [decide_eq_true heq]; rfl] at hrun
        replace heq := Lib.hid heq
        go_wp2
        refine wp_region_quiet_lit (by kernel_rfl) (by kernel_rfl) ?_
        quiet_step (fail)
        quiet_step (fail)
        quiet_step (fail)
        refine BigFrame.wpQuiet_want rfl (fun K hK => ?_)
        refine quiet_load_agg rfl rfl Try.underlying64 rfl (info64' hlx) (fun k hk => e1 k (by rwa [agc_size, hlx] at hk)) ?_
        refine hK _ ?_
        clear hK K
        simp only [Act.put, List.setIfInBounds_toArray, List.set_cons_zero, List.set_cons_succ]
        quiet_step (fail)
        quiet_step (fail)
        quiet_step (fail)
        refine BigFrame.wpQuiet_want rfl (fun K hK => ?_)
        refine quiet_load_agg rfl rfl Try.underlying64 rfl (info64' hly) (fun k hk => e2 k (by rwa [agc_size, hly] at hk)) ?_
        refine hK _ ?_
        clear hK K
        simp only [Act.put, List.setIfInBounds_toArray, List.set_cons_zero, List.set_cons_succ]
        refine BigFrame.wpQuiet_want rfl (fun K hK => ?_)
        refine quiet_bin rfl rfl rfl (guard64 _ _ _ _ _) hrun ?_
        refine hK _ ?_
        clear hK K
        simp only [Act.put, List.setIfInBounds_toArray, List.set_cons_zero, List.set_cons_succ]
        refine wpQuiet_nil ?_
        intro _ hw'
        obtain ⟨nq, hw''⟩ := hw'
        subst hw''
        go_wp2
        go_roundw
        case rel => exact ⟨i + 1, _, by omega, by go_num, rfl, fun j hj => by
            rcases Nat.lt_succ_iff_lt_or_eq.1 hj with hj | rfl
            · exact hall.out j hj
            · exact heq.out⟩
        case measure => simp [intOf]; omega
      · have tok : True := trivial
        have hrun := fun w => neq64 hlx hly w
        rw [show (!decide (mrow M i = mrow N i)) = true by rw [decide_eq_false heq]; rfl] at hrun
        replace heq := Lib.hid heq
        go_wp2
        refine wp_region_quiet_lit (by kernel_rfl) (by kernel_rfl) ?_
        quiet_step (fail)
        quiet_step (fail)
        quiet_step (fail)
        refine BigFrame.wpQuiet_want rfl (fun K hK => ?_)
        refine quiet_load_agg rfl rfl Try.underlying64 rfl (info64' hlx) (fun k hk => e1 k (by rwa [agc_size, hlx] at hk)) ?_
        refine hK _ ?_
        clear hK K
        simp only [Act.put, List.setIfInBounds_toArray, List.set_cons_zero, List.set_cons_succ]
        quiet_step (fail)
        quiet_step (fail)
        quiet_step (fail)
        refine BigFrame.wpQuiet_want rfl (fun K hK => ?_)
        refine quiet_load_agg rfl rfl Try.underlying64 rfl (info64' hly) (fun k hk => e2 k (by rwa [agc_size, hly] at hk)) ?_
        refine hK _ ?_
        clear hK K
        simp only [Act.put, List.setIfInBounds_toArray, List.set_cons_zero, List.set_cons_succ]
        refine BigFrame.wpQuiet_want rfl (fun K hK => ?_)
        refine quiet_bin rfl rfl rfl (guard64 _ _ _ _ _) hrun ?_
        refine hK _ ?_
        clear hK K
        simp only [Act.put, List.setIfInBounds_toArray, List.set_cons_zero, List.set_cons_succ]
        refine wpQuiet_nil ?_
        intro _ hw'
        obtain ⟨nq, hw''⟩ := hw'
        subst hw''
        go_wp2
        go_ret
        exact ⟨ret_bool (by rw [eq_comm, decide_eq_false_iff_not]; intro e; exact heq.out (by rw [e])), _, World.drewN_drewN ..⟩
    · obtain rfl : i = n := by omega
      go_wp2
      go_ret
      exact ⟨ret_bool (by rw [eq_comm, decide_eq_true_eq]; exact mrow_ext (h.1.trans g.1.symm) (fun j hj => hall.out j (by rw [← h.1]; exact hj))), _, rfl⟩
set_option maxRecDepth 100000 in
set_option maxHeartbeats 1000000 in
theorem equalblk_any (h : Blks p w A n c M) (g : Blks q w B m d N) : Calls Try.prog 133 #[.slice A n c, .slice B m d] w fun e w' => e = .returned (.bool (decide (M = N))) ∧ ∃ m, w' = w.drewN m := by
  have hn := h.len
  have hm := g.len
  by_cases hne : n = m
  case neg =>
    have ht : ((n : Int) != (m : Int)) = true := by simp; exact fun e => hne (by omega)
    replace hne := Lib.hid hne
    go_enter Try.func133, Try.ntmps133
    go_wp2
    go_ret
    exact ⟨ret_bool (by rw [eq_comm, decide_eq_false_iff_not]; intro e; exact hne.out (by rw [← h.1, ← g.1, e])), 0, rfl⟩
  subst hne
  have ht : ((n : Int) != (n : Int)) = false := by simp
  go_enter Try.func133, Try.ntmps133
  go_wp2
  go_loopw [5, 13] (fun _ i wr => ∃ i' m : Nat, i' ≤ n ∧ i = .int .i64 i' ∧ wr = w.drewN m ∧ ∀ j, j < i' → mrow M j = mrow N j) (fun _ i _ => n - (intOf i).toNat)
  case atStart => exact ⟨0, 0, by omega, rfl, rfl, fun j hj => absurd hj (Nat.not_lt_zero _)⟩
  case round =>
    obtain ⟨i, m, hk, rfl, rfl, hall⟩ := hrel
    replace hall := Lib.hid hall
    by_cases hlt : i < n
    · obtain ⟨b, o, rfl, _, _, hc⟩ := h.agg (by omega)
      obtain ⟨b', o', rfl, _, _, hc'⟩ := g.agg (by omega)
      have e1 : ∀ k, k < 8 → (w.drewN m).cell? ⟨b, o + i * 8 + k, none⟩ = (agc (mrow M i))[k]? := hc i hlt
      have e2 : ∀ k, k < 8 → (w.drewN m).cell? ⟨b', o' + i * 8 + k, none⟩ = (agc (mrow N i))[k]? := hc' i hlt
      clear hc hc'
      have hlx := h.row hlt
      have hly := g.row hlt
      have b1 : (0 : Int) ≤ (i : Int) := Int.natCast_nonneg _
      have b2 : (i : Int) < (n : Int) := by omega
      by_cases heq : mrow M i = mrow N i
      · have tok : True := trivial
        have hrun := fun w => neq64 hlx hly w
        rw [show (!decide (mrow M i = mrow N i)) = false by rw [decide_eq_true heq]; rfl] at hrun
        replace heq := Lib.hid heq
        go_wp2
        refine wp_region_quiet_lit (by kernel_rfl) (by kernel_rfl) ?_
        quiet_step (fail)
        quiet_step (fail)
        quiet_step (fail)
        refine BigFrame.wpQuiet_want rfl (fun K hK => ?_)
        refine quiet_load_agg rfl rfl Try.underlying64 rfl (info64' hlx) (fun k hk => e1 k (by rwa [agc_size, hlx] at hk)) ?_
        refine hK _ ?_
        clear hK K
        simp only [Act.put, List.setIfInBounds_toArray, List.set_cons_zero, List.set_cons_succ]
        quiet_step (fail)
        quiet_step (fail)
        quiet_step (fail)
        refine BigFrame.wpQuiet_want rfl (fun K hK => ?_)
        refine quiet_load_agg rfl rfl Try.underlying64 rfl (info64' hly) (fun k hk => e2 k (by rwa [agc_size, hly] at hk)) ?_
        refine hK _ ?_
        clear hK K
        simp only [Act.put, List.setIfInBounds_toArray, List.set_cons_zero, List.set_cons_succ]
        refine BigFrame.wpQuiet_want rfl (fun K hK => ?_)
        refine quiet_bin rfl rfl rfl (guard64 _ _ _ _ _) hrun ?_
        refine hK _ ?_
        clear hK K
        simp only [Act.put, List.setIfInBounds_toArray, List.set_cons_zero, List.set_cons_succ]
        refine wpQuiet_nil ?_
        intro _ hw'
        obtain ⟨nq, hw''⟩ := hw'
        subst hw''
        go_wp2
        go_roundw
        case rel => exact ⟨i + 1, _, by omega, by go_num, rfl, fun j hj => by
            rcases Nat.lt_succ_iff_lt_or_eq.1 hj with hj | rfl
            · exact hall.out j hj
            · exact heq.out⟩
        case measure => simp [intOf]; omega
      · have tok : True := trivial
        have hrun := fun w => neq64 hlx hly w
        rw [show (!decide (mrow M i = mrow N i)) = true by rw [decide_eq_false heq]; rfl] at hrun
        replace heq := Lib.hid heq
        go_wp2
        refine wp_region_quiet_lit (by kernel_rfl) (by kernel_rfl) ?_
        quiet_step (fail)
        quiet_step (fail)
        quiet_step (fail)
        refine BigFrame.wpQuiet_want rfl (fun K hK => ?_)
        refine quiet_load_agg rfl rfl Try.underlying64 rfl (info64' hlx) (fun k hk => e1 k (by rwa [agc_size, hlx] at hk)) ?_
        refine hK _ ?_
        clear hK K
        simp only [Act.put, List.setIfInBounds_toArray, List.set_cons_zero, List.set_cons_succ]
        quiet_step (fail)
        quiet_step (fail)
        quiet_step (fail)
        refine BigFrame.wpQuiet_want rfl (fun K hK => ?_)
        refine quiet_load_agg rfl rfl Try.underlying64 rfl (info64' hly) (fun k hk => e2 k (by rwa [agc_size, hly] at hk)) ?_
        refine hK _ ?_
        clear hK K
        simp only [Act.put, List.setIfInBounds_toArray, List.set_cons_zero, List.set_cons_succ]
        refine BigFrame.wpQuiet_want rfl (fun K hK => ?_)
        refine quiet_bin rfl rfl rfl (guard64 _ _ _ _ _) hrun ?_
        refine hK _ ?_
        clear hK K
        simp only [Act.put, List.setIfInBounds_toArray, List.set_cons_zero, List.set_cons_succ]
        refine wpQuiet_nil ?_
        intro _ hw'
        obtain ⟨nq, hw''⟩ := hw'
        subst hw''
        go_wp2
        go_ret
        exact ⟨ret_bool (by rw [eq_comm, decide_eq_false_iff_not]; intro e; exact heq.out (by rw [e])), _, World.drewN_drewN ..⟩
    · obtain rfl : i = n := by omega
      go_wp2
      go_ret
      exact ⟨ret_bool (by rw [eq_comm, decide_eq_true_eq]; exact mrow_ext (h.1.trans g.1.symm) (fun j hj => hall.out j (by rw [← h.1]; exact hj))), _, rfl⟩
end
end Go.Proofs.Ytifhjigkljdkmaa
