/- group.Apply (49). -/
import Derived.Test.YtifhjigkljdkmaaCh
import Derived.Test.YtifhjigkljdkmaaBc
import Derived.Outline
namespace Go.Proofs.Ytifhjigkljdkmaa
open Go.RowKit
open Gf (F)
set_option linter.unusedSimpArgs false
set_option linter.unusedVariables false
/-- The data behind changes. -/
def applyD (D : List (List F)) (l : List Chg) : List (List F) := l.foldl (fun D c => D.set c.1.toNat c.2) D
theorem applyD_nil (D : List (List F)) : applyD D [] = D := rfl
theorem applyD_take {l : List Chg} {k : Nat} (D : List (List F)) (hk : k < l.length) : applyD D (l.take (k + 1)) = (applyD D (l.take k)).set (cget l k).1.toNat (cget l k).2 := by
  unfold applyD
  rw [List.take_succ_eq_append_getElem hk, List.foldl_append, cget_of_lt hk]
  rfl
theorem applyD_length (D : List (List F)) : ∀ l : List Chg, (applyD D l).length = D.length := by
  intro l
  unfold applyD
  induction l generalizing D with
  | nil => rfl
  | cons c l ih => rw [List.foldl_cons, ih, List.length_set]
/-- The group behind changes. -/
def appO (M : List (List F)) (l : List Chg) : List (List F) := grpM (applyD (M.take (M.length - 3)) l)
def diffP (M O : List (List F)) (i : Nat) : Bool := !decide (mrow O i = mrow M i)
def diffL (M O : List (List F)) : List Int := sel (diffP M O) M.length
def ApplyPost (w : World) (n : Nat) (M : List (List F)) (l : List Chg) (e : Ending) (w' : World) : Prop :=
  ∃ A' c' A2 c2, e = .returned (.tuple #[.slice A' n c', .slice A2 (diffL M (appO M l)).length c2, .int .i64 0]) ∧ Blks (fun _ => True) w' A' n c' (appO M l) ∧ Ints (fun _ => True) w' A2 (diffL M (appO M l)).length c2 (diffL M (appO M l)) ∧ Below w.heap.size w w'
section
variable {p q : Nat → Prop} {w w' : World} {A B : Option Addr} {n c m d : Nat} {M : List (List F)} {l : List Chg}
theorem OwnB.form {base : Nat} {v : Value} (h : OwnB w base v n M) (h0 : 0 < n) : ∃ g cap, v = .slice (some ⟨g, 0, none⟩) n cap ∧ base ≤ g ∧ g < w.heap.size := by
  obtain ⟨g, cap, f, e, hg, _, _, hr, _⟩ := row_of_own h.own h0 (fun j hj => by rw [agc_size, h.row j hj])
  exact ⟨g, cap, e, hg, hr.lt⟩
theorem conB_len (h : conB M = true) : 4 ≤ M.length ∧ M.length ≤ 16 := by
  unfold conB at h
  simp only [Bool.and_eq_true, decide_eq_true_eq] at h
  exact h.1
theorem zero_row9 (W : World) (t : TypeId) : ∃ f, (W.alloc (.cells #[.int .i64 0, .int .u8 0, .int .u8 0, .int .u8 0, .int .u8 0, .int .u8 0, .int .u8 0, .int .u8 0, .int .u8 0] t)).rowIs W.heap.size t 9 f :=
  ⟨fun i => (#[.int .i64 0, .int .u8 0, .int .u8 0, .int .u8 0, .int .u8 0, .int .u8 0, .int .u8 0, .int .u8 0, .int .u8 0] : Array Value).getD i undef, World.rowIs_alloc W _ t _ (fun i hi => by rw [Array.getD_eq_getD_getElem?, Array.getElem?_eq_getElem hi]; rfl)⟩
/-- The cells of a change that was stored whole. -/
theorem put_chg {W : World} {g : Nat} {t : TypeId} {f : Nat → Value} {x : Chg} (hx : x.2.length = 8) (h : W.rowIs g t 9 (putAt 0 (chgE x) f)) : W.cell? ⟨g, 0, none⟩ = some (.int .i64 x.1) ∧ (∀ k, k < (agc x.2).size → W.cell? ⟨g, 1 + k, none⟩ = (agc x.2)[k]?) ∧ ∀ k, k < (chgE x).size → W.cell? ⟨g, 0 + k, none⟩ = (chgE x)[k]? := by
  have hs := chgE_size hx
  have all : ∀ k, k < (chgE x).size → W.cell? ⟨g, k, none⟩ = (chgE x)[k]? := fun k hk => by
    have := putAt_in (o := 0) (cs := chgE x) (f := f) hk
    rw [Nat.zero_add] at this
    rw [h.cell (by omega), this]
    simp [Array.getD, hk]
  refine ⟨by rw [all 0 (by omega), chgE_num], fun k hk => ?_, fun k hk => by rw [Nat.zero_add]; exact all k hk⟩
  rw [agc_size, hx] at hk
  rw [all (1 + k) (by omega), chgE_blk]
set_option maxRecDepth 100000 in
set_option maxHeartbeats 1000000 in
theorem gapply_arg (h : Blks p w A n c M) (g : Chgs q w B m d l) (hbad : conB M = false ∨ okC n l = false) : Calls Try.prog 49 #[.slice A n c, .slice B m d] w fun e w' => e = .returned (.tuple #[.slice none 0 0, .slice none 0 0, .int .i64 1]) ∧ Below w.heap.size w w' := by
  have hn := h.len
  have hl := Lib.hid h.1
  cases hc : conB M with
  | false =>
    clear hbad
    go_enter Try.func49, Try.ntmps49
    go_wp2_with (go_at_call 100; (with_reducible refine (pcheck_any h).mono ?_); rw [hc]; rintro e w1 ⟨rfl, hb1⟩)
    go_ret3
    exact ⟨rfl, hb1⟩
  | true =>
    have hok : okC n l = false := hbad.resolve_left (by rw [hc]; decide)
    have hle := conB_len hc
    rw [hl.out] at hle
    clear hbad
    go_enter Try.func49, Try.ntmps49
    go_wp2_with (first | (go_at_call 100; (with_reducible refine (pcheck_any h).mono ?_); rw [hc]; rintro e w1 ⟨rfl, hb1⟩; have g1 := g.below hb1) | (go_at_call 101; (with_reducible refine (changes_any (wd := n) (by omega) g1).mono ?_); rw [hok]; rintro e w2 ⟨rfl, hb2⟩))
    go_ret3
    exact ⟨rfl, below_then2 hb1 hb2⟩
set_option maxRecDepth 100000 in
set_option maxHeartbeats 4000000 in
theorem gapply_ok (h : Blks p w A n c M) (g : Chgs q w B m d l) (hc : conB M = true) (hok : okC n l = true) : Calls Try.prog 49 #[.slice A n c, .slice B m d] w (ApplyPost w n M l) := by
  have hn := h.len
  have hl := Lib.hid h.1
  have hgl := Lib.hid g.len
  have hm := g.elm.len
  have hle := conB_len hc
  rw [hl.out] at hle
  obtain ⟨h4, h16⟩ := hle
  obtain ⟨b1, o1, rfl, _, hlt1, hc1⟩ := h.agg (by omega)
  replace hc1 := Lib.hid hc1
  have hcap := h.2.le
  have hcap2 := h.2.cap
  unfold maxLen at hcap2
  have hpre := h.pre (k := n - 3) (by omega)
  have hat : Hid (∀ i, i < m → 0 ≤ (cget l i).1 ∧ (cget l i).1 < (n : Int) - 3) := fun i hi => okC_at hok (by rw [g.len]; exact hi)
  go_enter Try.func49, Try.ntmps49
  go_wp2_with (first | (go_at_call 100; (with_reducible refine (pcheck_any h).mono ?_); rw [hc]; rintro e w1 ⟨rfl, hb1⟩; have g1 := g.below hb1; have hp1 := hpre.below hb1) | (go_at_call 101; (with_reducible refine (changes_any (wd := n) (by omega) g1).mono ?_); rw [hok]; rintro e w2 ⟨rfl, hb2⟩; have hB2 := below_then2 hb1 hb2; have hp2 := hp1.below hb2) | (go_at_call 102; (with_reducible refine (cloneb_any hp2 (by omega)).mono ?_); rintro e w3 ⟨A3, c3, rfl, hO3, hb3⟩; have hB3 := below_then2 hB2 hb3; obtain ⟨g3, cap3, e3, hg3, hg3l⟩ := hO3.form (by omega); have hO3' := hO3.lower hB2.size; cases e3))
  have hs2 := hB2.size
  have hs3 := hB3.size
  go_loopw [32] (fun x wr => ∃ k : Nat, k ≤ m ∧ x = .int .i64 k ∧ OwnB wr w.heap.size (.slice (some ⟨g3, 0, none⟩) (n - 3) c3) (n - 3) (applyD (M.take (n - 3)) (l.take k)) ∧ Below w.heap.size w wr ∧ g3 < wr.heap.size) (fun x _ => m - (intOf x).toNat)
  case atStart => exact ⟨0, by omega, rfl, hO3', hB3, hg3l⟩
  case round =>
    obtain ⟨k, hk, rfl, hO, hbw, hgl3⟩ := hrel
    by_cases hltk : k < m
    · obtain ⟨b2, o2, rfl, _, hlt2, hc2⟩ := g.at_ (by omega)
      have hx := g.blk k hltk
      have e1 : Hid (∀ j, j < (chgE (cget l k)).size → wr.cell? ⟨b2, o2 + k * 9 + j, none⟩ = (chgE (cget l k))[j]?) := fun j hj => (hbw.cell (by exact hlt2)).trans ((hc2 k hltk).2.2 j (by rwa [chgE_size hx] at hj))
      clear hc2
      obtain ⟨f9, hz9⟩ := zero_row9 wr 124
      obtain ⟨ha1, ha2⟩ := hat.out k hltk
      obtain ⟨t, ht⟩ := Int.eq_ofNat_of_zero_le ha1
      have htn : t < n - 3 := by omega
      have d1 : (0 : Int) ≤ (k : Int) := Int.natCast_nonneg _
      have d2 : (k : Int) < (m : Int) := by omega
      have d3 : (0 : Int) ≤ (t : Int) := Int.natCast_nonneg _
      have d4 : (t : Int) < ((n - 3 : Nat) : Int) := by omega
      have hstep : Hid (applyD (M.take (n - 3)) (l.take (k + 1)) = (applyD (M.take (n - 3)) (l.take k)).set t (cget l k).2) := by
        show _ = _
        rw [applyD_take _ (by rw [hgl.out]; exact hltk), ht]
        rfl
      replace ht := Lib.hid ht
      replace hO := Lib.hid hO
      clear ha1 ha2
      go_wp2_with (first | (with_reducible refine wpl_load_agg rfl rfl rfl Try.underlying124 rfl (info124 hx) e1.out ?_) | (with_reducible refine wpl_store_agg (t := 124) rfl rfl rfl rfl hz9 (info124 hx) (by rw [chgE_size hx]; decide) (chgE_one _) ?_; intro w4 hr4 hg4 hz4; have hb4 : Below wr.heap.size wr w4 := (((Below.refl _ wr).alloc (Nat.le_refl _) _).grown hg4 (by simp) (fun k e => by cases e; exact Nat.le_refl _)); obtain ⟨f0, f1, _⟩ := put_chg hx hr4; rw [ht.out] at f0; replace f1 := Lib.hid f1; have hO4 := hO.out.below hb4) | (with_reducible refine wpl_load_agg rfl rfl rfl Try.underlying64 rfl (info64' hx) f1.out ?_) | (with_reducible refine wpl_store_own rfl rfl hO4 htn hx rfl rfl rfl ?_; intro w5 hO5 hg5 hz5))
      go_roundw
      case rel => exact ⟨k + 1, by omega, by go_num, by rw [hstep.out]; exact hO5, (below_then2 hbw hb4).grown hg5 (by have := hb4.size; have := hbw.size; omega) (fun k e => by cases e; omega), by have := hb4.size; omega⟩
      case measure => simp [intOf]; omega
    · obtain rfl : k = m := by omega
      have etk : Hid (applyD (M.take (n - 3)) (l.take k) = applyD (M.take (M.length - 3)) l) := by
        show _ = _
        rw [show l.take k = l from List.take_of_length_le (by rw [hgl.out]; exact Nat.le_refl _), hl.out]
      rw [etk.out] at hO
      obtain ⟨A6, c6, e6, hD6⟩ := hO.blks
      cases e6
      have e33 : n - 3 + 3 = n := by omega
      have hcomp := complete_any hD6 (by omega) (by omega)
      rw [e33] at hcomp
      replace e33 := Lib.hid e33
      have hOeq : Hid (grpM (applyD (M.take (M.length - 3)) l) = appO M l) := rfl
      rw [hOeq.out] at hcomp
      clear hOeq
      go_wp2_with (go_at_call 103; (with_reducible refine hcomp.mono ?_); rintro e w7 ⟨A7, c7, rfl, hO7, hb7⟩; have hB7 := below_then2 hbw hb7; obtain ⟨A7', c7', e7, hD7⟩ := hO7.blks; cases e7)
      obtain ⟨b7, o7, rfl, _, hlt7, hc7⟩ := hD7.agg (by omega)
      replace hc7 := Lib.hid hc7
      have hs7 := hB7.size
      obtain ⟨wo, rfl⟩ : ∃ wo : World, wo = wr := ⟨_, rfl⟩
      go_loopw [12, 47] (fun v x wr => ∃ i : Nat, i ≤ n ∧ x = .int .i64 i ∧ wr.ownsRow w7.heap.size 3 1 v (sel (diffP M (appO M l)) i).length ((sel (diffP M (appO M l)) i).map fun n => Value.int .i64 n) ∧ Below w7.heap.size w7 wr) (fun _ x _ => n - (intOf x).toNat)
      case atStart => exact ⟨0, by omega, rfl, World.ownsRow_nil _ _ _ _, Below.refl _ _⟩
      case round =>
        obtain ⟨i, hi, rfl, hown, hbi⟩ := hrel
        have hsz := hbi.size
        have hlen := sel_len (diffP M (appO M l)) i
        by_cases hlti : i < n
        · have e1 : ∀ k, k < 8 → wr.cell? ⟨b1, o1 + i * 8 + k, none⟩ = (agc (mrow M i))[k]? := fun k hk => (hbi.cell (p := ⟨b1, o1 + i * 8 + k, none⟩) (Nat.lt_of_lt_of_le hlt1 hs7)).trans ((hB7.cell (p := ⟨b1, o1 + i * 8 + k, none⟩) hlt1).trans (hc1.out i hlti k hk))
          have e2 : ∀ k, k < 8 → wr.cell? ⟨b7, o7 + i * 8 + k, none⟩ = (agc (mrow (appO M l) i))[k]? := fun k hk => (hbi.cell (p := ⟨b7, o7 + i * 8 + k, none⟩) hlt7).trans (hc7.out i hlti k hk)
          have hlx := h.row hlti
          have hly := hD7.row hlti
          have d1 : (0 : Int) ≤ (i : Int) := Int.natCast_nonneg _
          have d2 : (i : Int) < (n : Int) := by omega
          have hrun := fun w => neq64 hly hlx w
          cases hP : diffP M (appO M l) i with
          | true =>
            have hv : (!decide (mrow (appO M l) i = mrow M i)) = true := hP
            rw [hv] at hrun
            clear hv
            have s1 := sel_yes hP
            have s2 := congrArg List.length s1
            rw [List.length_append] at s2
            replace s1 := Lib.hid s1
            replace s2 := Lib.hid s2
            replace hP := Lib.hid hP
            go_wp2
            refine wp_region_quiet_lit (by kernel_rfl) (by kernel_rfl) ?_
            quiet_step (fail)
            quiet_step (fail)
            quiet_step (fail)
            refine BigFrame.wpQuiet_want rfl (fun K hK => ?_)
            refine quiet_load_agg rfl rfl Try.underlying64 rfl (info64' hly) (fun k hk => e2 k (by rwa [agc_size, hly] at hk)) ?_
            refine hK _ ?_
            clear hK K
            simp only [Act.put, List.setIfInBounds_toArray, List.set_cons_zero, List.set_cons_succ]
            quiet_step (fail)
            quiet_step (fail)
            quiet_step (fail)
            refine BigFrame.wpQuiet_want rfl (fun K hK => ?_)
            refine quiet_load_agg rfl rfl Try.underlying64 rfl (info64' hlx) (fun k hk => e1 k (by rwa [agc_size, hlx] at hk)) ?_
            refine hK _ ?_
            clear hK K
            simp only [Act.put, List.setIfInBounds_toArray, List.set_cons_zero, List.set_cons_succ]
            refine BigFrame.wpQuiet_want rfl (fun K hK => ?_)
            refine quiet_bin rfl rfl rfl (guard64 _ _ _ _ _) hrun ?_
            refine hK _ ?_
            clear hK K
            simp only [Act.put, List.setIfInBounds_toArray, List.set_cons_zero, List.set_cons_succ]
            refine wpQuiet_nil ?_
            intro _ hw'
            obtain ⟨nq, hw''⟩ := hw'
            subst hw''
            obtain ⟨wq, hq⟩ : ∃ wq, wq = wr.drewN nq := ⟨_, rfl⟩
            have hownq := (show ∀ v, wr.ownsRow w7.heap.size 3 1 v (sel (diffP M (appO M l)) i).length ((sel (diffP M (appO M l)) i).map fun n => Value.int .i64 n) → wq.ownsRow w7.heap.size 3 1 v (sel (diffP M (appO M l)) i).length ((sel (diffP M (appO M l)) i).map fun n => Value.int .i64 n) from fun v h => by rw [hq]; exact h) _ hown
            have hbq : Below w7.heap.size w7 wq := by rw [hq]; exact below_drewN hbi nq
            have hszq := hbq.size
            rw [← hq]
            clear hq
            go_wp2_with (at_builtin; refine wpl_append1 rfl (s := .tmp 59) (x := .tmp 61) rfl Try.underlying29 info3 rfl rfl hownq rfl rfl (by unfold maxLen; omega) (by omega) (by omega) ?_; intro v2 w9 hown2 hgr2 hne2)
            go_roundw
            case rel => exact ⟨i + 1, by omega, by go_num, by rw [s2.out, s1.out, ints_step]; exact hown2, hbq.grown hgr2 hszq (own_ge hownq)⟩
            case measure => simp [intOf]; omega
          | false =>
            have hv : (!decide (mrow (appO M l) i = mrow M i)) = false := hP
            rw [hv] at hrun
            clear hv
            have s1 := sel_no hP
            replace s1 := Lib.hid s1
            replace hP := Lib.hid hP
            go_wp2
            refine wp_region_quiet_lit (by kernel_rfl) (by kernel_rfl) ?_
            quiet_step (fail)
            quiet_step (fail)
            quiet_step (fail)
            refine BigFrame.wpQuiet_want rfl (fun K hK => ?_)
            refine quiet_load_agg rfl rfl Try.underlying64 rfl (info64' hly) (fun k hk => e2 k (by rwa [agc_size, hly] at hk)) ?_
            refine hK _ ?_
            clear hK K
            simp only [Act.put, List.setIfInBounds_toArray, List.set_cons_zero, List.set_cons_succ]
            quiet_step (fail)
            quiet_step (fail)
            quiet_step (fail)
            refine BigFrame.wpQuiet_want rfl (fun K hK => ?_)
            refine quiet_load_agg rfl rfl Try.underlying64 rfl (info64' hlx) (fun k hk => e1 k (by rwa [agc_size, hlx] at hk)) ?_
            refine hK _ ?_
            clear hK K
            simp only [Act.put, List.setIfInBounds_toArray, List.set_cons_zero, List.set_cons_succ]
            refine BigFrame.wpQuiet_want rfl (fun K hK => ?_)
            refine quiet_bin rfl rfl rfl (guard64 _ _ _ _ _) hrun ?_
            refine hK _ ?_
            clear hK K
            simp only [Act.put, List.setIfInBounds_toArray, List.set_cons_zero, List.set_cons_succ]
            refine wpQuiet_nil ?_
            intro _ hw'
            obtain ⟨nq, hw''⟩ := hw'
            subst hw''
            go_wp2
            go_roundw
            case rel => exact ⟨i + 1, by omega, by go_num, by rw [s1.out]; exact hown, below_drewN hbi nq⟩
            case measure => simp [intOf]; omega
        · obtain rfl : i = n := by omega
          obtain ⟨A', c', rfl, hints⟩ := own_ints hown
          have hD8 := hD7.below hbi
          have hB8 := below_then2 hB7 hbi
          have hdl : Hid (sel (diffP M (appO M l)) i = diffL M (appO M l)) := by
            show _ = _
            unfold diffL
            rw [hl.out]
          go_wp2
          go_ret3
          rw [hdl.out] at hints ⊢
          exact ⟨_, _, _, _, rfl, hD8.mono fun _ _ _ => trivial, hints.mono fun _ _ _ => trivial, hB8⟩
end
end Go.Proofs.Ytifhjigkljdkmaa
