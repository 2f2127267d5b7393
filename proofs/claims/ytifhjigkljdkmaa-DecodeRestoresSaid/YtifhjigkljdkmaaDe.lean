/- decode.Decode. -/
import Derived.Test.YtifhjigkljdkmaaTw
import Derived.Test.YtifhjigkljdkmaaBc
import Derived.Test.YtifhjigkljdkmaaRa
namespace Go.Proofs.Ytifhjigkljdkmaa
open Go.RowKit
open Gf (F)
set_option linter.unusedSimpArgs false
set_option linter.unusedVariables false
/-- What Decode returns: the first k pieces are looked at. -/
def decI (wd : Nat) (M : List (List F)) (b : List Bool) : Nat → List (List F)
  | 0 => M
  | k + 1 => if ntb b k = true then (decI wd M b k).set k (comb (wts (wd - 3) (fromF (helpL wd b wd)) k) (helpB M (helpL wd b wd))) else decI wd M b k
def lostB (wd : Nat) (b : List Bool) : Bool := decide ((helpL wd b wd).length < wd - 3)
def DecRet (w : World) (r : Nat) (O : List (List F)) (er : Int) (e : Ending) (w' : World) : Prop :=
  ∃ A' c', e = .returned (.tuple #[.slice A' r c', .int .i64 er]) ∧ Blks (fun _ => True) w' A' r c' O ∧ Below w.heap.size w w'
def DecSpec (wd : Nat) (M : List (List F)) (b : List Bool) (r : Nat) (O : List (List F)) (er : Int) : Prop :=
  (lostB wd b = true ∧ r = 0 ∧ O = [] ∧ er = 12) ∨ (lostB wd b = false ∧ r = wd ∧ O = decI wd M b wd ∧ er = 0)
theorem blks_none0 (w : World) : Blks (fun _ => True) w none 0 0 [] := ⟨rfl, Nat.le_refl _, by decide, fun j hj => absurd hj (Nat.not_lt_zero _), fun j hj => absurd hj (Nat.not_lt_zero _), fun h => absurd h (Nat.lt_irrefl _)⟩
theorem help_zero (wd : Nat) (b : List Bool) : helpL wd b 0 = [] := by simp [helpL, sel]
theorem nti_app_lt {l m : List Int} {j : Nat} (h : j < l.length) : nti (l ++ m) j = nti l j := by
  unfold nti
  rw [List.getD_eq_getElem?_getD, List.getD_eq_getElem?_getD, List.getElem?_append_left h]
theorem nti_app_at (l : List Int) (x : Int) : nti (l ++ [x]) l.length = x := by
  unfold nti
  simp [List.getD_eq_getElem?_getD]
theorem sel_inc (P : Nat → Bool) : ∀ (k j : Nat), j + 1 < (sel P k).length → nti (sel P k) j < nti (sel P k) (j + 1)
  | 0, j, h => by simp [sel] at h
  | k + 1, j, h => by
    cases hP : P k with
    | false =>
      rw [sel_no hP] at h ⊢
      exact sel_inc P k j h
    | true =>
      rw [sel_yes hP] at h ⊢
      rw [List.length_append] at h
      simp only [List.length_cons, List.length_nil] at h
      by_cases e : j + 1 < (sel P k).length
      · rw [nti_app_lt (by omega), nti_app_lt e]
        exact sel_inc P k j e
      · have e2 : j + 1 = (sel P k).length := by omega
        rw [nti_app_lt (by omega), e2, nti_app_at]
        exact (sel_range P k j (by omega)).2
theorem help_ok {wd : Nat} {b : List Bool} (h : ¬ (helpL wd b wd).length < wd - 3) : (helpL wd b wd).length = wd - 3 ∧ HelpOk wd (wd - 3) (helpL wd b wd) := by
  have hl : (helpL wd b wd).length = wd - 3 := by
    have : (helpL wd b wd).length ≤ wd - 3 := by unfold helpL; rw [List.length_take]; omega
    omega
  refine ⟨hl, fun j hj => ?_⟩
  have hlen : wd - 3 ≤ (sel (goodP b) wd).length := by unfold helpL at hl; rw [List.length_take] at hl; omega
  have e : ∀ i, i < wd - 3 → nti (helpL wd b wd) i = nti (sel (goodP b) wd) i := fun i hi => nti_take hi
  have hr := sel_range (goodP b) wd j (by omega)
  rw [e j hj]
  refine ⟨hr.1, hr.2, fun h0 => ?_⟩
  rw [e (j - 1) (by omega)]
  have hs := sel_inc (goodP b) wd (j - 1) (by omega)
  rwa [Nat.sub_add_cancel h0] at hs
section
variable {p q : Nat → Prop} {w w' : World} {A B : Option Addr} {n c m d wd : Nat} {M : List (List F)} {b : List Bool}
set_option maxRecDepth 100000 in
set_option maxHeartbeats 1000000 in
theorem decode_arg (h : Blks p w A n c M) (g : Bools q w B m d b) (hbad : ¬ (wideB (n : Int) = true ∧ m = n)) : Calls Try.prog 73 #[.slice A n c, .slice B m d] w (DecRet w 0 [] 1) := by
  have hn := h.len
  have hm := g.row.len
  have fin : ∀ w : World, DecRet w 0 [] 1 (.returned (.tuple #[.slice none 0 0, .int .i64 1])) w := fun w => ⟨none, 0, rfl, blks_none0 _, Below.refl _ _⟩
  cases hw : wideB (n : Int) with
  | false =>
    clear hbad
    go_enter Try.func73, Try.ntmps73
    go_wp2_with (go_at_call 112; (with_reducible refine (possible_any (n : Int) _).mono ?_); rw [hw]; rintro e w' ⟨rfl, rfl⟩)
    go_ret2
    exact fin _
  | true =>
    have t1 : ((m : Int) != (n : Int)) = true := by simp; exact fun e => hbad ⟨hw, by omega⟩
    replace hbad := Lib.hid hbad
    go_enter Try.func73, Try.ntmps73
    go_wp2_with (go_at_call 112; (with_reducible refine (possible_any (n : Int) _).mono ?_); rw [hw]; rintro e w' ⟨rfl, rfl⟩)
    go_ret2
    exact fin _
set_option maxRecDepth 100000 in
set_option maxHeartbeats 4000000 in
theorem decode_any {r : Nat} {O : List (List F)} {er : Int} (h4 : 4 ≤ wd) (h16 : wd ≤ 16) (h : Blks p w A wd c M) (g : Bools q w B wd d b) (hs : DecSpec wd M b r O er) : Calls Try.prog 73 #[.slice A wd c, .slice B wd d] w (DecRet w r O er) := by
  replace hs := Lib.hid hs
  have hwb : wideB (wd : Int) = true := by unfold wideB; simp; omega
  have t1 : ((wd : Int) != (wd : Int)) = false := by simp
  have e3 : (wd : Int) - 3 = ((wd - 3 : Nat) : Int) := by omega
  have hga := fun i (hi : i < wd) => g.row.at_ (by omega : 0 < wd)
  go_enter Try.func73, Try.ntmps73
  go_wp2_with (go_at_call 112; (with_reducible refine (possible_any (wd : Int) _).mono ?_); rw [hwb]; rintro e w' ⟨rfl, rfl⟩)
  go_loopw [7, 8, 29] (fun u v x wr => ∃ (k : Nat) (A7 : Option Addr) (c7 : Nat) (A8 : Option Addr) (c8 : Nat), k ≤ wd ∧ u = .slice A7 (helpL wd b k).length c7 ∧ v = .slice A8 (helpL wd b k).length c8 ∧ x = .int .i64 k ∧ TwoOwn w wr u v (helpL wd b k).length (helpL wd b k).length (helpL wd b k) (helpB M (helpL wd b k))) (fun _ _ x _ => wd - (intOf x).toNat)
  case atStart => exact ⟨0, none, 0, none, 0, by omega, by rw [help_zero]; rfl, by rw [help_zero]; rfl, rfl, by rw [help_zero]; exact ⟨World.ownsRow_nil _ _ _ _, OwnB.nil _ _, .inl rfl, .inl rfl, Below.refl _ _⟩⟩
  case round =>
    obtain ⟨k, A7, c7, A8, c8, hk, rfl, rfl, rfl, hT0⟩ := hrel
    have hkl := help_len wd k b
    by_cases hlt : k < wd
    · obtain ⟨b1, o1, rfl, _, hlt1, hc1⟩ := h.agg (by omega)
      obtain ⟨b2, o2', rfl, _, hlt2, hc2⟩ := g.row.at_ (by omega)
      have hx := h.row hlt
      have hs8 : (agc (mrow M k)).size = 8 := by rw [agc_size, hx]
      have e2 : wr.cell? ⟨b2, o2' + k, none⟩ = some (.bool (ntb b k)) := (hT0.bel.cell (p := ⟨b2, o2' + k, none⟩) hlt2).trans (hc2 k hlt)
      have hS : ∀ W', Below w.heap.size w W' → ∀ j, j < (agc (mrow M k)).size → W'.cell? ⟨b1, o1 + k * 8 + j, none⟩ = (agc (mrow M k))[j]? := fun W' hW' j hj => (hW'.cell (p := ⟨b1, o1 + k * 8 + j, none⟩) hlt1).trans (hc1 k hlt j (by rwa [hs8] at hj))
      clear hc1 hc2
      have d1 : (0 : Int) ≤ (k : Int) := Int.natCast_nonneg _
      have d2 : (k : Int) < (wd : Int) := by omega
      cases hb : ntb b k with
      | true =>
        have hn := Lib.hid (help_no (wd := wd) (k := k) (b := b) (by unfold goodP; rw [hb]; rfl))
        rw [hb] at e2
        clear hS
        go_wp2
        go_roundw
        case rel => exact ⟨k + 1, A7, c7, A8, c8, by omega, by rw [hn.out], by rw [hn.out], by go_num, by rw [hn.out]; exact hT0⟩
        case measure => simp [intOf]; omega
      | false =>
        have hgd : goodP b k = true := by unfold goodP; rw [hb]; rfl
        rw [hb] at e2
        by_cases hfull : (helpL wd b k).length < wd - 3
        · have hy := Lib.hid (help_yes hgd hfull)
          have d3 : (((helpL wd b k).length : Nat) : Int) < (wd : Int) - 3 := by omega
          go_wp2
          refine AnyE.region (fun w' => ∀ j, j < (agc (mrow M k)).size → w'.cell? ⟨b1, o1 + k * 8 + j, none⟩ = (agc (mrow M k))[j]?) 12 (by kernel_rfl) ?_
          obtain ⟨W, hW⟩ : ∃ W, W = wr.drew := ⟨_, rfl⟩
          have hT : TwoOwn w W (Value.slice A7 (helpL wd b k).length c7) (Value.slice A8 (helpL wd b k).length c8) (helpL wd b k).length (helpL wd b k).length (helpL wd b k) (helpB M (helpL wd b k)) := by rw [hW]; exact hT0.below (show Below wr.heap.size wr wr.drew from below_drewN (Below.refl _ _) 1)
          rw [← hW]
          clear hW hT0
          have hH := hS _ hT.bel
          refine AnyE.take0 0 (v := ?_) rfl (by decide) (by kernel_rfl) (by kernel_rfl) (by kernel_rfl) (by kernel_rfl) (fun _ _ _ h => h) (by rfl) (fun _ => hH) ?_ ?_
          rotate_left; · (intro w; go_simp; try with_reducible rfl)
          (try simp only [Act.put, List.setIfInBounds_toArray, List.set_cons_zero, List.set_cons_succ])
          refine AnyE.take0 1 (v := ?_) rfl (by decide) (by kernel_rfl) (by kernel_rfl) (by kernel_rfl) (by kernel_rfl) (fun _ _ _ h => h) (by rfl) (fun _ => hH) ?_ ?_
          rotate_left; · (intro w; go_simp; try with_reducible rfl)
          (try simp only [Act.put, List.setIfInBounds_toArray, List.set_cons_zero, List.set_cons_succ])
          refine AnyE.take0 4 (v := ?_) rfl (by decide) (by kernel_rfl) (by kernel_rfl) (by kernel_rfl) (by kernel_rfl) (fun _ _ _ h => h) (by rfl) (fun _ => hH) ?_ ?_
          rotate_left; · (intro w; go_simp; try with_reducible rfl)
          (try simp only [Act.put, List.setIfInBounds_toArray, List.set_cons_zero, List.set_cons_succ])
          refine AnyE.take0 5 (v := ?_) rfl (by decide) (by kernel_rfl) (by kernel_rfl) (by kernel_rfl) (by kernel_rfl) (fun _ _ _ h => h) (by rfl) (fun _ => hH) ?_ ?_
          rotate_left; · (intro w; go_simp; try with_reducible rfl)
          (try simp only [Act.put, List.setIfInBounds_toArray, List.set_cons_zero, List.set_cons_succ])
          refine AnyE.take0 6 (v := ?_) rfl (by decide) (by kernel_rfl) (by kernel_rfl) (by kernel_rfl) (by kernel_rfl) (fun _ _ _ h => h) (by rfl) (fun _ => hH) ?_ ?_
          rotate_left; · (intro w; go_simp; try with_reducible rfl)
          (try simp only [Act.put, List.setIfInBounds_toArray, List.set_cons_zero, List.set_cons_succ])
          refine AnyE.take0 7 (v := ?_) rfl (by decide) (by kernel_rfl) (by kernel_rfl) (by kernel_rfl) (by kernel_rfl) (fun _ _ _ h => h) (by rfl) (fun _ => hH) ?_ ?_
          rotate_left; · (intro w; go_simp; try with_reducible rfl)
          (try simp only [Act.put, List.setIfInBounds_toArray, List.set_cons_zero, List.set_cons_succ])
          refine AnyE.take 8 [8] (v := ?_) rfl (by decide) (by kernel_rfl) (by kernel_rfl) (by kernel_rfl) (by kernel_rfl) (by kernel_rfl) (by kernel_rfl) (fun _ _ _ h => h) (by rfl) hH ?_ ?_
          rotate_left; · (intro w hSw; simp only [List.getElem_toArray, List.getElem_cons_succ, List.getElem_cons_zero, Act.put, List.setIfInBounds_toArray, List.set_cons_zero, List.set_cons_succ]; refine exec_load_agg (x := .tmp 50) (b := b1) (off := o1 + k * 8) ?_ ?_ Try.underlying64 rfl (info64' hx) hSw; rfl; rfl)
          (try simp only [Act.put, List.setIfInBounds_toArray, List.set_cons_zero, List.set_cons_succ])
          refine AnyE.both 2 9 rfl rfl (by kernel_rfl) (fun K hK => ?_) (fun K hK => ?_)
          · have b2 := (Below.refl W.heap.size W).alloc (Nat.le_refl _) (.cells #[.int .i64 (k : Int)] 3)
            have o2 : Row (fun bb => some bb ≠ (Value.slice A8 (helpL wd b k).length c8).ownBlock) _ _ 1 1 (fun _ => (.int .i64 (k : Int) : Value)) := (row_one (w := W) (.int .i64 (k : Int)) 3).mono (fun bb _ h => by rw [h]; exact hT.newB (Nat.le_refl _))
            replace hT := hT.below b2
            go_simp
            replace hH := hS _ hT.bel
            refine hK.out _ _ (fun _ => hH) ?_
            clear hK K
            (try simp only [List.getElem_toArray, List.getElem_cons_succ, List.getElem_cons_zero, Act.put, List.setIfInBounds_toArray, List.set_cons_zero, List.set_cons_succ])
            generalize hW2 : W.alloc (.cells #[.int .i64 (k : Int)] 3) = W2 at *
            clear hW2 b2
            refine AnyE.both 3 9 rfl rfl (by kernel_rfl) (fun K hK => ?_) (fun K hK => ?_)
            · refine step_append_row (by rfl) (by rfl) Try.underlying29 info3 rfl (by rfl) hT.ints (by rfl) o2 (fun _ _ => rfl) (by unfold maxLen; omega) (by omega) hT.size ?_
              intro v3 W3 own3 hgr3 hor3
              obtain ⟨A3, c3, rfl, _⟩ := own_slice own3
              replace hT := hT.pushI own3 hgr3 hor3
              replace hH := hS _ hT.bel
              refine hK.out _ _ (fun _ => hH) ?_
              clear hK K own3 hgr3 hor3
              (try simp only [List.getElem_toArray, List.getElem_cons_succ, List.getElem_cons_zero, Act.put, List.setIfInBounds_toArray, List.set_cons_zero, List.set_cons_succ])
              refine AnyE.one 9 rfl (by kernel_rfl) (fun K hK => ?_)
              have b9 := (Below.refl W3.heap.size W3).alloc (Nat.le_refl _) (.cells (agc (mrow M k)) 64)
              have o9 : Elm 8 (fun bb => some bb ≠ (Value.slice A3 ((helpL wd b k).length + 1) c3).ownBlock) _ _ 1 1 (fun _ => agc (mrow M k)) := (elm_one (w := W3) (agc (mrow M k)) 64 hs8 (agc_one _)).mono (fun bb _ h => by rw [h]; exact hT.newI (Nat.le_refl _))
              replace hT := hT.below b9
              refine step_build1_agg (by rfl) (by rfl) Try.underlying53 info64f (by decide) (by decide) (by rfl) hs8 ?_
              replace hH := hS _ hT.bel
              refine hK.out _ _ (fun _ => hH) ?_
              clear hK K
              (try simp only [List.getElem_toArray, List.getElem_cons_succ, List.getElem_cons_zero, Act.put, List.setIfInBounds_toArray, List.set_cons_zero, List.set_cons_succ])
              generalize hW9 : W3.alloc (.cells (agc (mrow M k)) 64) = W9 at *
              clear hW9 b9
              refine AnyE.one 10 rfl (by kernel_rfl) (fun K hK => ?_)
              refine step_append_elm (by rfl) (by rfl) Try.underlying53 info64f rfl (by decide) (by rfl) hT.blks.own (by rfl) o9 (by unfold maxLen; omega) (by omega) hT.size ?_
              intro v10 W10 own10 hgr10 hor10
              replace hT := hT.pushB hx own10 hgr10 hor10
              obtain ⟨A10, c10, rfl, _⟩ := hT.blks.blks
              replace hH := hS _ hT.bel
              refine hK.out _ _ (fun _ => hH) ?_
              clear hK K own10 hgr10 hor10
              (try simp only [List.getElem_toArray, List.getElem_cons_succ, List.getElem_cons_zero, Act.put, List.setIfInBounds_toArray, List.set_cons_zero, List.set_cons_succ])
              refine AnyE.take0 11 (v := ?_) rfl (by decide) (by kernel_rfl) (by kernel_rfl) (by kernel_rfl) (by kernel_rfl) (fun _ _ _ h => h) (by rfl) (fun _ => hH) ?_ ?_
              rotate_left; · (intro w; go_simp; try with_reducible rfl)
              (try simp only [Act.put, List.setIfInBounds_toArray, List.set_cons_zero, List.set_cons_succ])
              refine AnyE.one 12 rfl (by kernel_rfl) (fun K hK => ?_)
              go_simp
              refine hK.out _ _ (fun e => Bool.noConfusion (show true = false from e)) ?_
              clear hK K
              (try simp only [List.getElem_toArray, List.getElem_cons_succ, List.getElem_cons_zero, Act.put, List.setIfInBounds_toArray, List.set_cons_zero, List.set_cons_succ])
              refine AnyE.done (by kernel_rfl) ?_ _
              go_wp2
              go_roundw
              case rel => exact ⟨k + 1, A3, c3, A10, c10, by omega, by rw [hy.out, List.length_append]; rfl, by rw [hy.out, List.length_append]; rfl, by go_num, by rw [hy.out, helpB_push, List.length_append]; exact hT⟩
              case measure => simp [intOf]; omega
            · have b9 := (Below.refl W2.heap.size W2).alloc (Nat.le_refl _) (.cells (agc (mrow M k)) 64)
              have o9 : Elm 8 (fun bb => some bb ≠ (Value.slice A7 (helpL wd b k).length c7).ownBlock) _ _ 1 1 (fun _ => agc (mrow M k)) := (elm_one (w := W2) (agc (mrow M k)) 64 hs8 (agc_one _)).mono (fun bb _ h => by rw [h]; exact hT.newI (Nat.le_refl _))
              replace hT := hT.below b9
              replace o2 := o2.below b9
              refine step_build1_agg (by rfl) (by rfl) Try.underlying53 info64f (by decide) (by decide) (by rfl) hs8 ?_
              replace hH := hS _ hT.bel
              refine hK.out _ _ (fun _ => hH) ?_
              clear hK K
              (try simp only [List.getElem_toArray, List.getElem_cons_succ, List.getElem_cons_zero, Act.put, List.setIfInBounds_toArray, List.set_cons_zero, List.set_cons_succ])
              generalize hW9 : W2.alloc (.cells (agc (mrow M k)) 64) = W9 at *
              clear hW9 b9
              refine AnyE.one 3 rfl (by kernel_rfl) (fun K hK => ?_)
              refine step_append_row (by rfl) (by rfl) Try.underlying29 info3 rfl (by rfl) hT.ints (by rfl) o2 (fun _ _ => rfl) (by unfold maxLen; omega) (by omega) hT.size ?_
              intro v3 W3 own3 hgr3 hor3
              obtain ⟨A3, c3, rfl, _⟩ := own_slice own3
              replace o9 := (o9.keep (Keeps.grown hgr3 fun g e hp => hp e.symm)).mono (q := fun _ => True) fun _ _ _ => trivial
              replace hT := hT.pushI own3 hgr3 hor3
              replace hH := hS _ hT.bel
              refine hK.out _ _ (fun _ => hH) ?_
              clear hK K own3 hgr3 hor3
              (try simp only [List.getElem_toArray, List.getElem_cons_succ, List.getElem_cons_zero, Act.put, List.setIfInBounds_toArray, List.set_cons_zero, List.set_cons_succ])
              refine AnyE.one 10 rfl (by kernel_rfl) (fun K hK => ?_)
              refine step_append_elm (by rfl) (by rfl) Try.underlying53 info64f rfl (by decide) (by rfl) hT.blks.own (by rfl) o9 (by unfold maxLen; omega) (by omega) hT.size ?_
              intro v10 W10 own10 hgr10 hor10
              replace hT := hT.pushB hx own10 hgr10 hor10
              obtain ⟨A10, c10, rfl, _⟩ := hT.blks.blks
              replace hH := hS _ hT.bel
              refine hK.out _ _ (fun _ => hH) ?_
              clear hK K own10 hgr10 hor10
              (try simp only [List.getElem_toArray, List.getElem_cons_succ, List.getElem_cons_zero, Act.put, List.setIfInBounds_toArray, List.set_cons_zero, List.set_cons_succ])
              refine AnyE.take0 11 (v := ?_) rfl (by decide) (by kernel_rfl) (by kernel_rfl) (by kernel_rfl) (by kernel_rfl) (fun _ _ _ h => h) (by rfl) (fun _ => hH) ?_ ?_
              rotate_left; · (intro w; go_simp; try with_reducible rfl)
              (try simp only [Act.put, List.setIfInBounds_toArray, List.set_cons_zero, List.set_cons_succ])
              refine AnyE.one 12 rfl (by kernel_rfl) (fun K hK => ?_)
              go_simp
              refine hK.out _ _ (fun e => Bool.noConfusion (show true = false from e)) ?_
              clear hK K
              (try simp only [List.getElem_toArray, List.getElem_cons_succ, List.getElem_cons_zero, Act.put, List.setIfInBounds_toArray, List.set_cons_zero, List.set_cons_succ])
              refine AnyE.done (by kernel_rfl) ?_ _
              go_wp2
              go_roundw
              case rel => exact ⟨k + 1, A3, c3, A10, c10, by omega, by rw [hy.out, List.length_append]; rfl, by rw [hy.out, List.length_append]; rfl, by go_num, by rw [hy.out, helpB_push, List.length_append]; exact hT⟩
              case measure => simp [intOf]; omega
          · have b9 := (Below.refl W.heap.size W).alloc (Nat.le_refl _) (.cells (agc (mrow M k)) 64)
            have o9 : Elm 8 (fun bb => some bb ≠ (Value.slice A7 (helpL wd b k).length c7).ownBlock) _ _ 1 1 (fun _ => agc (mrow M k)) := (elm_one (w := W) (agc (mrow M k)) 64 hs8 (agc_one _)).mono (fun bb _ h => by rw [h]; exact hT.newI (Nat.le_refl _))
            replace hT := hT.below b9
            refine step_build1_agg (by rfl) (by rfl) Try.underlying53 info64f (by decide) (by decide) (by rfl) hs8 ?_
            replace hH := hS _ hT.bel
            refine hK.out _ _ (fun _ => hH) ?_
            clear hK K
            (try simp only [List.getElem_toArray, List.getElem_cons_succ, List.getElem_cons_zero, Act.put, List.setIfInBounds_toArray, List.set_cons_zero, List.set_cons_succ])
            generalize hW9 : W.alloc (.cells (agc (mrow M k)) 64) = W9 at *
            clear hW9 b9
            refine AnyE.one 2 rfl (by kernel_rfl) (fun K hK => ?_)
            have b2 := (Below.refl W9.heap.size W9).alloc (Nat.le_refl _) (.cells #[.int .i64 (k : Int)] 3)
            have o2 : Row (fun bb => some bb ≠ (Value.slice A8 (helpL wd b k).length c8).ownBlock) _ _ 1 1 (fun _ => (.int .i64 (k : Int) : Value)) := (row_one (w := W9) (.int .i64 (k : Int)) 3).mono (fun bb _ h => by rw [h]; exact hT.newB (Nat.le_refl _))
            replace hT := hT.below b2
            replace o9 := o9.below b2
            go_simp
            replace hH := hS _ hT.bel
            refine hK.out _ _ (fun _ => hH) ?_
            clear hK K
            (try simp only [List.getElem_toArray, List.getElem_cons_succ, List.getElem_cons_zero, Act.put, List.setIfInBounds_toArray, List.set_cons_zero, List.set_cons_succ])
            generalize hW2 : W9.alloc (.cells #[.int .i64 (k : Int)] 3) = W2 at *
            clear hW2 b2
            refine AnyE.one 3 rfl (by kernel_rfl) (fun K hK => ?_)
            refine step_append_row (by rfl) (by rfl) Try.underlying29 info3 rfl (by rfl) hT.ints (by rfl) o2 (fun _ _ => rfl) (by unfold maxLen; omega) (by omega) hT.size ?_
            intro v3 W3 own3 hgr3 hor3
            obtain ⟨A3, c3, rfl, _⟩ := own_slice own3
            replace o9 := (o9.keep (Keeps.grown hgr3 fun g e hp => hp e.symm)).mono (q := fun _ => True) fun _ _ _ => trivial
            replace hT := hT.pushI own3 hgr3 hor3
            replace hH := hS _ hT.bel
            refine hK.out _ _ (fun _ => hH) ?_
            clear hK K own3 hgr3 hor3
            (try simp only [List.getElem_toArray, List.getElem_cons_succ, List.getElem_cons_zero, Act.put, List.setIfInBounds_toArray, List.set_cons_zero, List.set_cons_succ])
            refine AnyE.one 10 rfl (by kernel_rfl) (fun K hK => ?_)
            refine step_append_elm (by rfl) (by rfl) Try.underlying53 info64f rfl (by decide) (by rfl) hT.blks.own (by rfl) o9 (by unfold maxLen; omega) (by omega) hT.size ?_
            intro v10 W10 own10 hgr10 hor10
            replace hT := hT.pushB hx own10 hgr10 hor10
            obtain ⟨A10, c10, rfl, _⟩ := hT.blks.blks
            replace hH := hS _ hT.bel
            refine hK.out _ _ (fun _ => hH) ?_
            clear hK K own10 hgr10 hor10
            (try simp only [List.getElem_toArray, List.getElem_cons_succ, List.getElem_cons_zero, Act.put, List.setIfInBounds_toArray, List.set_cons_zero, List.set_cons_succ])
            refine AnyE.take0 11 (v := ?_) rfl (by decide) (by kernel_rfl) (by kernel_rfl) (by kernel_rfl) (by kernel_rfl) (fun _ _ _ h => h) (by rfl) (fun _ => hH) ?_ ?_
            rotate_left; · (intro w; go_simp; try with_reducible rfl)
            (try simp only [Act.put, List.setIfInBounds_toArray, List.set_cons_zero, List.set_cons_succ])
            refine AnyE.one 12 rfl (by kernel_rfl) (fun K hK => ?_)
            go_simp
            refine hK.out _ _ (fun e => Bool.noConfusion (show true = false from e)) ?_
            clear hK K
            (try simp only [List.getElem_toArray, List.getElem_cons_succ, List.getElem_cons_zero, Act.put, List.setIfInBounds_toArray, List.set_cons_zero, List.set_cons_succ])
            refine AnyE.done (by kernel_rfl) ?_ _
            go_wp2
            go_roundw
            case rel => exact ⟨k + 1, A3, c3, A10, c10, by omega, by rw [hy.out, List.length_append]; rfl, by rw [hy.out, List.length_append]; rfl, by go_num, by rw [hy.out, helpB_push, List.length_append]; exact hT⟩
            case measure => simp [intOf]; omega
        · have hn := Lib.hid (help_full hgd hfull)
          have d3 : ¬ (((helpL wd b k).length : Nat) : Int) < (wd : Int) - 3 := by omega
          clear hS
          go_wp2
          go_roundw
          case rel => exact ⟨k + 1, A7, c7, A8, c8, by omega, by rw [hn.out], by rw [hn.out], by go_num, by rw [hn.out]; exact hT0⟩
          case measure => simp [intOf]; omega
    · obtain rfl : k = wd := by omega
      cases hlost : lostB k b with
      | true =>
        have hl : (helpL k b k).length < k - 3 := by unfold lostB at hlost; simpa using hlost
        have d3 : (((helpL k b k).length : Nat) : Int) < (k : Int) - 3 := by omega
        have hfin : Hid (r = 0 ∧ O = [] ∧ er = 12) := by
          rcases hs.out with ⟨_, h1, h2, h3⟩ | ⟨h0, _⟩
          · exact ⟨h1, h2, h3⟩
          · rw [hlost] at h0; cases h0
        go_wp2
        go_ret2
        obtain ⟨rfl, rfl, rfl⟩ := hfin.out
        exact ⟨none, 0, rfl, blks_none0 _, hT0.bel⟩
      | false =>
        have hl : ¬ (helpL k b k).length < k - 3 := by unfold lostB at hlost; simpa using hlost
        have hfin : Hid (r = k ∧ O = decI k M b k ∧ er = 0) := by
          rcases hs.out with ⟨h0, _⟩ | ⟨_, h1, h2, h3⟩
          · rw [hlost] at h0; cases h0
          · exact ⟨h1, h2, h3⟩
        obtain ⟨hlen, hok⟩ := help_ok hl
        replace hok := Lib.hid hok
        clear hl
        rw [hlen] at hT0 hkl ⊢
        obtain ⟨n, hn⟩ : ∃ n, n = k - 3 := ⟨_, rfl⟩
        have hkn : Hid (k = n + 3) := by show _ = _; omega
        rw [← hn] at hT0 hkl hok ⊢
        have d3 : ¬ ((n : Nat) : Int) < (k : Int) - 3 := by omega
        have h1n : 1 ≤ n := by omega
        have h13 : n ≤ 13 := by omega
        have hfw : Hid (∀ i, i < k → ntb b i = true → (decI k M b i).set i (comb (wts n (fromF (helpL k b k)) i) (helpB M (helpL k b k))) = decI k M b (i + 1)) := fun i _ hb => by
          rw [decI, if_pos hb, ← hn]
        have hfs : Hid (∀ i, ntb b i = false → decI k M b (i + 1) = decI k M b i) := fun i hb => by
          rw [decI, if_neg (by rw [hb]; decide)]
        obtain ⟨A7', c7', e7, hI⟩ := own_ints hT0.ints
        cases e7
        obtain ⟨A8', c8', e8, hB8⟩ := hT0.blks.blks
        cases e8
        have hMr := h.below hT0.bel
        have hbel := hT0.bel
        clear hT0
        have hszr := hbel.size
        replace hn := Lib.hid hn
        go_wp2_with (go_at_call 102; (with_reducible refine (cloneb_any hMr (by omega)).mono ?_); rintro e w9 ⟨A9, c9, rfl, hO9, hb9⟩; have hB9 := below_then2 hbel hb9; obtain ⟨g9, c9', e9, hg9, hg9l⟩ := hO9.form (by omega); cases e9)
        have hO9' := hO9.lower hszr
        have hI9 := (hI.mono (q := fun bb => bb ≠ g9) fun bb hb _ => by omega).below hb9
        have hB89 := (hB8.mono (q := fun bb => bb ≠ g9) fun bb hb _ => by omega).below hb9
        obtain ⟨wo, rfl⟩ : ∃ wo : World, wo = wr := ⟨_, rfl⟩
        go_loopw [64] (fun x ws => ∃ i : Nat, i ≤ k ∧ x = .int .i64 i ∧ OwnB ws w.heap.size (.slice (some ⟨g9, 0, none⟩) k c9) k (decI k M b i) ∧ Ints (fun bb => bb ≠ g9) ws A7 n c7 (helpL k b k) ∧ Blks (fun bb => bb ≠ g9) ws A8 n c8 (helpB M (helpL k b k)) ∧ Below w.heap.size w ws) (fun x _ => k - (intOf x).toNat)
        case atStart => exact ⟨0, by omega, rfl, hO9', hI9, hB89, hB9⟩
        case round =>
          obtain ⟨i, hi, rfl, hO, hIi, hBi, hbw⟩ := hrel
          by_cases hlti : i < k
          · obtain ⟨b2, o2, rfl, _, hlt2, hc2⟩ := g.row.at_ (by omega)
            have e2 : wr.cell? ⟨b2, o2 + i, none⟩ = some (.bool (ntb b i)) := (hbw.cell (p := ⟨b2, o2 + i, none⟩) hlt2).trans (hc2 i hlti)
            clear hc2
            have d1 : (0 : Int) ≤ (i : Int) := Int.natCast_nonneg _
            have d2 : (i : Int) < (k : Int) := by omega
            cases hb : ntb b i with
            | false =>
              have hst := Lib.hid (hfs.out i hb)
              rw [hb] at e2
              go_wp2
              go_roundw
              case rel => exact ⟨i + 1, by omega, by go_num, by rw [hst.out]; exact hO, hIi, hBi, hbw⟩
              case measure => simp [intOf]; omega
            | true =>
              have hst := Lib.hid (hfw.out i hlti hb)
              rw [hb] at e2
              have hcl := comb_length (wts n (fromF (helpL k b k)) i) (helpB M (helpL k b k))
              have hsw := hbw.size
              go_wp2_with (first | (go_at_call 66; (with_reducible refine (weights_ok hkn.out h1n h13 hIi hlti hok.out).mono ?_); rintro e w2 ⟨A2, c2, rfl, hW2, hb2⟩; have hB2 := below_then2 hbw hb2; have hO2 := hO.below hb2; have hI2 := hIi.below hb2; have hBB2 := hBi.below hb2) | (go_at_call 68; (with_reducible refine (combine_any hW2 hBB2 (by omega)).mono ?_); rintro e w3 ⟨rfl, hb3⟩; have hB3 := below_then2 hB2 hb3; have hO3 := hO2.below hb3; have hI3 := hI2.below hb3; have hBB3 := hBB2.below hb3) | (with_reducible refine wpl_store_own rfl rfl hO3 hlti hcl rfl rfl rfl ?_; intro w5 hO5 hg5 hz5))
              go_roundw
              case rel => exact ⟨i + 1, by omega, by go_num, by rw [← hst.out]; exact hO5, hI3.keep (Keeps.grown hg5 fun gg e hp => by cases e; exact hp rfl), hBB3.keep (Keeps.grown hg5 fun gg e hp => by cases e; exact hp rfl), hB3.grown hg5 hB3.size (fun kk e => by cases e; omega)⟩
              case measure => simp [intOf]; omega
          · obtain rfl : i = k := by omega
            go_wp2
            go_ret2
            obtain ⟨rfl, rfl, rfl⟩ := hfin.out
            obtain ⟨A', c', e', hD⟩ := hO.blks
            cases e'
            exact ⟨_, _, rfl, hD.mono fun _ _ _ => trivial, hbw⟩

end
end Go.Proofs.Ytifhjigkljdkmaa

