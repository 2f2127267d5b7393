/- tegularef24.Apply, whole. -/
import Derived.Test.YtifhjigkljdkmaaFr
import Derived.Test.YtifhjigkljdkmaaBs
namespace Go.Proofs.Ytifhjigkljdkmaa
open Go.RowKit
open Gf (F)
set_option linter.unusedSimpArgs false
set_option linter.unusedVariables false
section
variable {P : Program} {w : World}
theorem exec_load_agg {o : Oper} {ev : Operand → Value} {ty : TypeId} {x : Operand} (ho : o.op = .load ty x)
    {b off : Nat} (hx : ev x = .pointer (some ⟨b, off, none⟩)) {cs : Array Value} {d : TypeDesc} (hu : P.underlying ty = some d) (hd : (match d with | .struct _ | .array _ _ => true | _ => false) = true) (hi : (P.info? ty).map (·.size) = some cs.size)
    (hc : ∀ k, k < cs.size → w.cell? ⟨b, off + k, none⟩ = cs[k]?) : (execOp ev o).run P w = .ok (.value (.agg cs)) w := by
  unfold execOp
  simp only [ho, hx, Instr.loadAt, Instr.sureAddr, Sem.run_bind, Sem.run_pure, Result.andThen_ok, run_loadVar_agg hu hd hi hc]
end
section
variable {p q : Nat → Prop} {w w' : World} {A B : Option Addr} {n c m d : Nat} {M : List (List F)} {l : List Chg}
set_option maxRecDepth 100000 in
set_option maxHeartbeats 1000000 in
theorem rapply_arg (h : Blks p w A n c M) (g : Chgs q w B m d l) (hbad : conB M = false ∨ okC n l = false) : Calls Try.prog 51 #[.slice A n c, .slice B m d] w fun e w' => e = .returned (.tuple #[.slice none 0 0, .slice none 0 0, .int .i64 1]) ∧ Below w.heap.size w w' := by
  have hn := h.len
  have hl := Lib.hid h.1
  cases hw : wideB (n : Int) with
  | false =>
    clear hbad
    go_enter Try.func51, Try.ntmps51
    go_wp2_with (go_at_call 104; (with_reducible refine (wide24_any (n : Int) _).mono ?_); rw [hw]; rintro e w' ⟨rfl, rfl⟩)
    go_ret3
    exact ⟨rfl, Below.refl _ _⟩
  | true =>
    cases hc : conB M with
    | false =>
      clear hbad
      go_enter Try.func51, Try.ntmps51
      go_wp2_with (first | (go_at_call 104; (with_reducible refine (wide24_any (n : Int) _).mono ?_); rw [hw]; rintro e w' ⟨rfl, rfl⟩) | (go_at_call 55; (with_reducible refine (rcheck_any h).mono ?_); rw [hc]; rintro e w1 ⟨rfl, hb1⟩))
      go_ret3
      exact ⟨rfl, hb1⟩
    | true =>
      have hok : okC n l = false := by rcases hbad with h | h; · rw [hc] at h; cases h
                                       · exact h
      have hle := conB_len hc
      rw [hl.out] at hle
      clear hbad
      go_enter Try.func51, Try.ntmps51
      go_wp2_with (first | (go_at_call 104; (with_reducible refine (wide24_any (n : Int) _).mono ?_); rw [hw]; rintro e w' ⟨rfl, rfl⟩) | (go_at_call 55; (with_reducible refine (rcheck_any h).mono ?_); rw [hc]; rintro e w1 ⟨rfl, hb1⟩; have g1 := g.below hb1) | (go_at_call 105; (with_reducible refine (proper_any (wd := n) (by omega) g1).mono ?_); rw [hok]; rintro e w2 ⟨rfl, rfl⟩))
      go_ret3
      exact ⟨rfl, hb1⟩
set_option maxRecDepth 100000 in
set_option maxHeartbeats 4000000 in
theorem rapply_ok (h : Blks p w A n c M) (g : Chgs q w B m d l) (hc : conB M = true) (hok : okC n l = true) : Calls Try.prog 51 #[.slice A n c, .slice B m d] w (ApplyPost w n M l) := by
  have hn := h.len
  have hl := Lib.hid h.1
  have hgl := Lib.hid g.len
  have hm := g.elm.len
  have hle := conB_len hc
  rw [hl.out] at hle
  obtain ⟨h4, h16⟩ := hle
  have hw : wideB (n : Int) = true := by unfold wideB; simp; omega
  obtain ⟨b1, o1, rfl, _, hlt1, hc1⟩ := h.agg (by omega)
  replace hc1 := Lib.hid hc1
  have hcap := h.2.le
  have hcap2 := h.2.cap
  unfold maxLen at hcap2
  have hpre := h.pre (k := n - 3) (by omega)
  have hrow := fun j (hj : j < n - 3) => hpre.row hj
  have hlen := hpre.1
  replace hrow := Lib.hid hrow
  replace hlen := Lib.hid hlen
  have hat : Hid (∀ i, i < m → 0 ≤ (cget l i).1 ∧ (cget l i).1 < (n : Int) - 3) := fun i hi => okC_at hok (by rw [g.len]; exact hi)
  go_enter Try.func51, Try.ntmps51
  go_wp2_with (first | (go_at_call 104; (with_reducible refine (wide24_any (n : Int) _).mono ?_); rw [hw]; rintro e w' ⟨rfl, rfl⟩) | (go_at_call 55; (with_reducible refine (rcheck_any h).mono ?_); rw [hc]; rintro e w1 ⟨rfl, hb1⟩; have g1 := g.below hb1; have hp1 := hpre.below hb1; have hsz1 := hb1.size; have hown := World.ownsRow_made (base := w.heap.size) (e := 64) (size := 8) w1 #[] 0 hsz1 (Nat.zero_le _) rfl; have hb0 : Below w.heap.size w (w1.alloc (.cells #[] 64)) := hb1.alloc hsz1 _; have h0 := hpre.below hb0; have hsz := size_alloc1 w1 (.cells #[] 64)) | (go_at_call 105; (with_reducible refine (proper_any (wd := n) (by omega) g1).mono ?_); rw [hok]; rintro e w2 ⟨rfl, rfl⟩) | (at_builtin; refine wpl_append_elm rfl (sl := .tmp 31) (x := .tmp 35) rfl Try.underlying53 info64f rfl (by decide) rfl hown rfl h0.2 (by unfold maxLen; omega) (by omega) (by omega) ?_; intro v3 w3 hown3 hgr3 hne3; rw [Nat.zero_add, List.nil_append] at hown3; have hO3 : OwnB w3 w.heap.size v3 (n - 3) (M.take (n - 3)) := ⟨hlen.out, hrow.out, hown3⟩; have hB3 : Below w.heap.size w w3 := (hb0.grown hgr3 (by omega) (fun k e => by cases e; exact hsz1)); obtain ⟨g3, c3, e3, hg3, hg3l⟩ := hO3.form (by omega); subst e3))
  have hs3 := hB3.size
  go_loopw [9] (fun x wr => ∃ k : Nat, k ≤ m ∧ x = .int .i64 k ∧ OwnB wr w.heap.size (.slice (some ⟨g3, 0, none⟩) (n - 3) c3) (n - 3) (applyD (M.take (n - 3)) (l.take k)) ∧ Below w.heap.size w wr ∧ g3 < wr.heap.size) (fun x _ => m - (intOf x).toNat)
  case atStart => exact ⟨0, by omega, rfl, hO3, hB3, hg3l⟩
  case round =>
    obtain ⟨k, hk, rfl, hO, hbw, hgl3⟩ := hrel
    by_cases hltk : k < m
    · obtain ⟨b2, o2, rfl, _, hlt2, hc2⟩ := g.at_ (by omega)
      have hx := g.blk k hltk
      obtain ⟨ha1, ha2⟩ := hat.out k hltk
      obtain ⟨t, ht⟩ := Int.eq_ofNat_of_zero_le ha1
      have e0 : Hid (wr.cell? ⟨b2, o2 + k * 9, none⟩ = some (.int .i64 (t : Int))) := by
        show _ = _
        rw [← ht]
        exact (hbw.cell (p := ⟨b2, o2 + k * 9, none⟩) hlt2).trans (hc2 k hltk).1
      have e1 : Hid (∀ j, j < (agc (cget l k).2).size → wr.cell? ⟨b2, o2 + k * 9 + 1 + j, none⟩ = (agc (cget l k).2)[j]?) := fun j hj => (hbw.cell (by exact hlt2)).trans ((hc2 k hltk).2.1 j (by rwa [agc_size, hx] at hj))
      clear hc2
      have htn : t < n - 3 := by omega
      have d1 : (0 : Int) ≤ (k : Int) := Int.natCast_nonneg _
      have d2 : (k : Int) < (m : Int) := by omega
      have d3 : (0 : Int) ≤ (t : Int) := Int.natCast_nonneg _
      have d4 : (t : Int) < ((n - 3 : Nat) : Int) := by omega
      have hstep : Hid (applyD (M.take (n - 3)) (l.take (k + 1)) = (applyD (M.take (n - 3)) (l.take k)).set t (cget l k).2) := by
        show _ = _
        rw [applyD_take _ (by rw [hgl.out]; exact hltk), ht]
        rfl
      replace ht := Lib.hid ht
      have hOd : OwnB wr.drew w.heap.size (.slice (some ⟨g3, 0, none⟩) (n - 3) c3) (n - 3) (applyD (M.take (n - 3)) (l.take k)) := hO.below (show Below wr.heap.size wr wr.drew from below_drewN (Below.refl _ _) 1)
      have hbd : Below w.heap.size w wr.drew := below_drewN hbw 1
      replace hO := Lib.hid hO
      clear ha1 ha2
      go_wp2
      refine AnyE.region (fun w' => w'.cell? ⟨b2, o2 + k * 9, none⟩ = some (.int .i64 (t : Int)) ∧ (∀ j, j < (agc (cget l k).2).size → w'.cell? ⟨b2, o2 + k * 9 + 1 + j, none⟩ = (agc (cget l k).2)[j]?)) 12 (by kernel_rfl) ?_
      have hH := (show wr.drew.cell? ⟨b2, o2 + k * 9, none⟩ = some (.int .i64 (t : Int)) ∧ (∀ j, j < (agc (cget l k).2).size → wr.drew.cell? ⟨b2, o2 + k * 9 + 1 + j, none⟩ = (agc (cget l k).2)[j]?) from ⟨e0.out, e1.out⟩)
      refine AnyE.take0 0 (v := ?_) rfl (by decide) (by kernel_rfl) (by kernel_rfl) (by kernel_rfl) (by kernel_rfl) (fun _ _ _ h => h) (by rfl) (fun _ => hH) ?_ ?_
      rotate_left; · (intro w; go_simp; try with_reducible rfl)
      (try simp only [Act.put, List.setIfInBounds_toArray, List.set_cons_zero, List.set_cons_succ])
      refine AnyE.take0 1 (v := ?_) rfl (by decide) (by kernel_rfl) (by kernel_rfl) (by kernel_rfl) (by kernel_rfl) (fun _ _ _ h => h) (by rfl) (fun _ => hH) ?_ ?_
      rotate_left; · (intro w; go_simp; try with_reducible rfl)
      (try simp only [Act.put, List.setIfInBounds_toArray, List.set_cons_zero, List.set_cons_succ])
      refine AnyE.take0 2 (v := ?_) rfl (by decide) (by kernel_rfl) (by kernel_rfl) (by kernel_rfl) (by kernel_rfl) (fun _ _ _ h => h) (by rfl) (fun _ => hH) ?_ ?_
      rotate_left; · (intro w; go_simp; try with_reducible rfl)
      (try simp only [Act.put, List.setIfInBounds_toArray, List.set_cons_zero, List.set_cons_succ])
      refine AnyE.take0 3 (v := ?_) rfl (by decide) (by kernel_rfl) (by kernel_rfl) (by kernel_rfl) (by kernel_rfl) (fun _ _ _ h => h) (by rfl) (fun _ => hH) ?_ ?_
      rotate_left; · (intro w; go_simp; try with_reducible rfl)
      (try simp only [Act.put, List.setIfInBounds_toArray, List.set_cons_zero, List.set_cons_succ])
      refine AnyE.take0 4 (v := ?_) rfl (by decide) (by kernel_rfl) (by kernel_rfl) (by kernel_rfl) (by kernel_rfl) (fun _ _ _ h => h) (by rfl) (fun _ => hH) ?_ ?_
      rotate_left; · (intro w; go_simp; try with_reducible rfl)
      (try simp only [Act.put, List.setIfInBounds_toArray, List.set_cons_zero, List.set_cons_succ])
      refine AnyE.take 5 [5] (v := ?_) rfl (by decide) (by kernel_rfl) (by kernel_rfl) (by kernel_rfl) (by kernel_rfl) (by kernel_rfl) (by kernel_rfl) (fun _ _ _ h => h) (by rfl) hH ?_ ?_
      rotate_left; · (intro w hSw; replace hSw := hSw.1; go_simp; try with_reducible rfl)
      (try simp only [Act.put, List.setIfInBounds_toArray, List.set_cons_zero, List.set_cons_succ])
      refine AnyE.take0 6 (v := ?_) rfl (by decide) (by kernel_rfl) (by kernel_rfl) (by kernel_rfl) (by kernel_rfl) (fun _ _ _ h => h) (by rfl) (fun _ => hH) ?_ ?_
      rotate_left; · (intro w; go_simp; try with_reducible rfl)
      (try simp only [Act.put, List.setIfInBounds_toArray, List.set_cons_zero, List.set_cons_succ])
      refine AnyE.take0 7 (v := ?_) rfl (by decide) (by kernel_rfl) (by kernel_rfl) (by kernel_rfl) (by kernel_rfl) (fun _ _ _ h => h) (by rfl) (fun _ => hH) ?_ ?_
      rotate_left; · (intro w; go_simp; try with_reducible rfl)
      (try simp only [Act.put, List.setIfInBounds_toArray, List.set_cons_zero, List.set_cons_succ])
      refine AnyE.take0 8 (v := ?_) rfl (by decide) (by kernel_rfl) (by kernel_rfl) (by kernel_rfl) (by kernel_rfl) (fun _ _ _ h => h) (by rfl) (fun _ => hH) ?_ ?_
      rotate_left; · (intro w; go_simp; try with_reducible rfl)
      (try simp only [Act.put, List.setIfInBounds_toArray, List.set_cons_zero, List.set_cons_succ])
      refine AnyE.take0 9 (v := ?_) rfl (by decide) (by kernel_rfl) (by kernel_rfl) (by kernel_rfl) (by kernel_rfl) (fun _ _ _ h => h) (by rfl) (fun _ => hH) ?_ ?_
      rotate_left; · (intro w; go_simp; try with_reducible rfl)
      (try simp only [Act.put, List.setIfInBounds_toArray, List.set_cons_zero, List.set_cons_succ])
      refine AnyE.take 10 [10] (v := ?_) rfl (by decide) (by kernel_rfl) (by kernel_rfl) (by kernel_rfl) (by kernel_rfl) (by kernel_rfl) (by kernel_rfl) (fun _ _ _ h => h) (by rfl) hH ?_ ?_
      rotate_left; · (intro w hSw; simp only [List.getElem_toArray, List.getElem_cons_succ, List.getElem_cons_zero, Act.put, List.setIfInBounds_toArray, List.set_cons_zero, List.set_cons_succ]; refine exec_load_agg (x := .tmp 52) (b := b2) (off := o2 + k * 9 + 1) ?_ ?_ Try.underlying64 rfl (info64' hx) hSw.2; rfl; rfl)
      (try simp only [Act.put, List.setIfInBounds_toArray, List.set_cons_zero, List.set_cons_succ])
      refine AnyE.take0 11 (v := ?_) rfl (by decide) (by kernel_rfl) (by kernel_rfl) (by kernel_rfl) (by kernel_rfl) (fun _ _ _ h => h) (by rfl) (fun _ => hH) ?_ ?_
      rotate_left; · (intro w; go_simp; try with_reducible rfl)
      (try simp only [Act.put, List.setIfInBounds_toArray, List.set_cons_zero, List.set_cons_succ])
      refine AnyE.one 12 rfl (by kernel_rfl) (fun K hK => ?_)
      rw [if_pos (show _ = true by rfl)]
      simp only [List.getElem_toArray, List.getElem_cons_succ, List.getElem_cons_zero, Act.put, List.setIfInBounds_toArray, List.set_cons_zero, List.set_cons_succ]
      refine wp_store_own rfl hOd htn hx rfl rfl rfl ?_
      intro w5 hO5 hg5 hz5
      refine hK.out _ _ (fun e => Bool.noConfusion (show true = false from e)) ?_
      clear hK K
      (try simp only [Act.put, List.setIfInBounds_toArray, List.set_cons_zero, List.set_cons_succ])
      refine AnyE.done (by kernel_rfl) ?_ _
      go_wp2
      go_roundw
      case rel => exact ⟨k + 1, by omega, by go_num, by rw [hstep.out]; exact hO5, hbd.grown hg5 hbd.size (fun k e => by cases e; omega), by rw [hz5]; exact hgl3⟩
      case measure => simp [intOf]; omega
    · obtain rfl : k = m := by omega
      have etk : Hid (applyD (M.take (n - 3)) (l.take k) = applyD (M.take (M.length - 3)) l) := by
        show _ = _
        rw [show l.take k = l from List.take_of_length_le (by rw [hgl.out]; exact Nat.le_refl _), hl.out]
      rw [etk.out] at hO
      obtain ⟨A6, c6, e6, hD6⟩ := hO.blks
      cases e6
      have e33 : Hid (n - 3 + 3 = n) := by show _ = _; omega
      have hOeq : Hid (grpM (applyD (M.take (M.length - 3)) l) = appO M l) := rfl
      have hsw := hbw.size
      go_wp2_with (first | (go_at_call 106; (with_reducible refine (rencode_any hD6 (by omega) (by omega)).mono ?_); rintro e w5 ⟨g5, rfl, hp5, hb5⟩; have hO5 := hO.below hb5; have hB5 := below_then2 hbw hb5; have hs5 := hB5.size) | (at_builtin; refine wpl_append_elm rfl (sl := .tmp 60) (x := .tmp 61) rfl Try.underlying53 info64f rfl (by decide) rfl hO5.own rfl hp5.2 (by unfold maxLen; omega) (by omega) (by omega) ?_; intro v7 w7 hown7 hgr7 hne7; have hO7 : OwnB w7 w.heap.size v7 (n - 3 + 3) (grpM (applyD (M.take (M.length - 3)) l)) := hO5.app hp5 hown7; rw [e33.out, hOeq.out] at hO7; have hB7 := hB5.grown hgr7 hs5 (fun k e => ownge hO5 k e); obtain ⟨A7, c7, e7, hD7⟩ := hO7.blks; subst e7))
      obtain ⟨b7, o7, rfl, _, hlt7, hc7⟩ := hD7.agg (by omega)
      replace hc7 := Lib.hid hc7
      have hs7 := hB7.size
      obtain ⟨wo, rfl⟩ : ∃ wo : World, wo = wr := ⟨_, rfl⟩
      go_loopw [13, 14] (fun v x wr => ∃ i : Nat, i ≤ n ∧ x = .int .i64 i ∧ wr.ownsRow w7.heap.size 3 1 v (sel (diffP M (appO M l)) i).length ((sel (diffP M (appO M l)) i).map fun n => Value.int .i64 n) ∧ Below w7.heap.size w7 wr) (fun _ x _ => n - (intOf x).toNat)
      case atStart => exact ⟨0, by omega, rfl, World.ownsRow_nil _ _ _ _, Below.refl _ _⟩
      case round =>
        obtain ⟨i, hi, rfl, hown, hbi⟩ := hrel
        have hsz := hbi.size
        have hlen := sel_len (diffP M (appO M l)) i
        by_cases hlti : i < n
        · have e1 : ∀ k, k < 8 → wr.cell? ⟨b1, o1 + i * 8 + k, none⟩ = (agc (mrow M i))[k]? := fun k hk => (hbi.cell (p := ⟨b1, o1 + i * 8 + k, none⟩) (Nat.lt_of_lt_of_le hlt1 hs7)).trans ((hB7.cell (p := ⟨b1, o1 + i * 8 + k, none⟩) hlt1).trans (hc1.out i hlti k hk))
          have e2 : ∀ k, k < 8 → wr.cell? ⟨b7, o7 + i * 8 + k, none⟩ = (agc (mrow (appO M l) i))[k]? := fun k hk => (hbi.cell (p := ⟨b7, o7 + i * 8 + k, none⟩) hlt7).trans (hc7.out i hlti k hk)
          have hlx := h.row hlti
          have hly := hD7.row hlti
          have d1 : (0 : Int) ≤ (i : Int) := Int.natCast_nonneg _
          have d2 : (i : Int) < (n : Int) := by omega
          have hrun := fun w => neq64 hly hlx w
          cases hP : diffP M (appO M l) i with
          | true =>
            have hv : (!decide (mrow (appO M l) i = mrow M i)) = true := hP
            rw [hv] at hrun
            clear hv
            have s1 := sel_yes hP
            have s2 := congrArg List.length s1
            rw [List.length_append] at s2
            replace s1 := Lib.hid s1
            replace s2 := Lib.hid s2
            replace hP := Lib.hid hP
            go_wp2
            refine wp_region_quiet_lit (by kernel_rfl) (by kernel_rfl) ?_
            quiet_step (fail)
            quiet_step (fail)
            quiet_step (fail)
            refine BigFrame.wpQuiet_want rfl (fun K hK => ?_)
            refine quiet_load_agg rfl rfl Try.underlying64 rfl (info64' hly) (fun k hk => e2 k (by rwa [agc_size, hly] at hk)) ?_
            refine hK _ ?_
            clear hK K
            simp only [Act.put, List.setIfInBounds_toArray, List.set_cons_zero, List.set_cons_succ]
            quiet_step (fail)
            quiet_step (fail)
            quiet_step (fail)
            refine BigFrame.wpQuiet_want rfl (fun K hK => ?_)
            refine quiet_load_agg rfl rfl Try.underlying64 rfl (info64' hlx) (fun k hk => e1 k (by rwa [agc_size, hlx] at hk)) ?_
            refine hK _ ?_
            clear hK K
            simp only [Act.put, List.setIfInBounds_toArray, List.set_cons_zero, List.set_cons_succ]
            refine BigFrame.wpQuiet_want rfl (fun K hK => ?_)
            refine quiet_bin rfl rfl rfl (guard64 _ _ _ _ _) hrun ?_
            refine hK _ ?_
            clear hK K
            simp only [Act.put, List.setIfInBounds_toArray, List.set_cons_zero, List.set_cons_succ]
            refine wpQuiet_nil ?_
            intro _ hw'
            obtain ⟨nq, hw''⟩ := hw'
            subst hw''
            obtain ⟨wq, hq⟩ : ∃ wq, wq = wr.drewN nq := ⟨_, rfl⟩
            have hownq := (show ∀ v, wr.ownsRow w7.heap.size 3 1 v (sel (diffP M (appO M l)) i).length ((sel (diffP M (appO M l)) i).map fun n => Value.int .i64 n) → wq.ownsRow w7.heap.size 3 1 v (sel (diffP M (appO M l)) i).length ((sel (diffP M (appO M l)) i).map fun n => Value.int .i64 n) from fun v h => by rw [hq]; exact h) _ hown
            have hbq : Below w7.heap.size w7 wq := by rw [hq]; exact below_drewN hbi nq
            have hszq := hbq.size
            rw [← hq]
            clear hq
            go_wp2_with (at_builtin; refine wpl_append1 rfl (s := .tmp 77) (x := .tmp 79) rfl Try.underlying29 info3 rfl rfl hownq rfl rfl (by unfold maxLen; omega) (by omega) (by omega) ?_; intro v2 w9 hown2 hgr2 hne2)
            go_roundw
            case rel => exact ⟨i + 1, by omega, by go_num, by rw [s2.out, s1.out, ints_step]; exact hown2, hbq.grown hgr2 hszq (own_ge hownq)⟩
            case measure => simp [intOf]; omega
          | false =>
            have hv : (!decide (mrow (appO M l) i = mrow M i)) = false := hP
            rw [hv] at hrun
            clear hv
            have s1 := sel_no hP
            replace s1 := Lib.hid s1
            replace hP := Lib.hid hP
            go_wp2
            refine wp_region_quiet_lit (by kernel_rfl) (by kernel_rfl) ?_
            quiet_step (fail)
            quiet_step (fail)
            quiet_step (fail)
            refine BigFrame.wpQuiet_want rfl (fun K hK => ?_)
            refine quiet_load_agg rfl rfl Try.underlying64 rfl (info64' hly) (fun k hk => e2 k (by rwa [agc_size, hly] at hk)) ?_
            refine hK _ ?_
            clear hK K
            simp only [Act.put, List.setIfInBounds_toArray, List.set_cons_zero, List.set_cons_succ]
            quiet_step (fail)
            quiet_step (fail)
            quiet_step (fail)
            refine BigFrame.wpQuiet_want rfl (fun K hK => ?_)
            refine quiet_load_agg rfl rfl Try.underlying64 rfl (info64' hlx) (fun k hk => e1 k (by rwa [agc_size, hlx] at hk)) ?_
            refine hK _ ?_
            clear hK K
            simp only [Act.put, List.setIfInBounds_toArray, List.set_cons_zero, List.set_cons_succ]
            refine BigFrame.wpQuiet_want rfl (fun K hK => ?_)
            refine quiet_bin rfl rfl rfl (guard64 _ _ _ _ _) hrun ?_
            refine hK _ ?_
            clear hK K
            simp only [Act.put, List.setIfInBounds_toArray, List.set_cons_zero, List.set_cons_succ]
            refine wpQuiet_nil ?_
            intro _ hw'
            obtain ⟨nq, hw''⟩ := hw'
            subst hw''
            go_wp2
            go_roundw
            case rel => exact ⟨i + 1, by omega, by go_num, by rw [s1.out]; exact hown, below_drewN hbi nq⟩
            case measure => simp [intOf]; omega
        · obtain rfl : i = n := by omega
          obtain ⟨A', c', rfl, hints⟩ := own_ints hown
          have hD8 := hD7.below hbi
          have hB8 := below_then2 hB7 hbi
          have hdl : Hid (sel (diffP M (appO M l)) i = diffL M (appO M l)) := by
            show _ = _
            unfold diffL
            rw [hl.out]
          go_wp2
          go_ret3
          rw [hdl.out] at hints ⊢
          exact ⟨_, _, _, _, rfl, hD8.mono fun _ _ _ => trivial, hints.mono fun _ _ _ => trivial, hB8⟩
end
end Go.Proofs.Ytifhjigkljdkmaa
