/- The law function GroupConsistent returns true. -/
import Derived.Test.YtifhjigkljdkmaaWh
namespace Go.Proofs.Ytifhjigkljdkmaa
open Go.RowKit
open Gf (F)
set_option linter.unusedSimpArgs false
set_option linter.unusedVariables false
theorem info4b : (Try.prog.info? 4).map (fun i => (i.zero, i.size, i.bytes)) = some (some (.bool false), 1, 1) := by kernel_rfl
def b0 : List F := [0, 0, 0, 0, 0, 0, 0, 0]
theorem eq0 (w : World) : (Op.equalIn 10000 64 (.agg #[.int .u8 0, .int .u8 0, .int .u8 0, .int .u8 0, .int .u8 0, .int .u8 0, .int .u8 0, .int .u8 0]) (.agg #[.int .u8 0, .int .u8 0, .int .u8 0, .int .u8 0, .int .u8 0, .int .u8 0, .int .u8 0, .int .u8 0])).run Try.prog w = .ok true w := run_equalIn_bytes w 9998 64 5 8 Try.underlying64 Try.underlying5 sizeOf5 b0 b0 rfl rfl
section
variable {p q : Nat → Prop} {w w' : World} {A B : Option Addr} {n c m d : Nat} {M D : List (List F)} {l : List Chg}
set_option maxRecDepth 100000 in
set_option maxHeartbeats 1000000 in
theorem law11_long (h : Blks p w A n c D) (g : Chgs q w B m d l) (z : Int) (hbig : 20 < m) : Calls Try.prog 11 #[.slice A n c, .slice B m d, .int .i64 z] w fun e w' => e = .returned (.bool true) ∧ Below w.heap.size w w' := by
  have hm := g.elm.len
  go_enter Try.func11, Try.ntmps11
  go_wp2_with (go_at_call 48; refine (awake24_any _).mono ?_; rintro e w1 ⟨rfl, hb1⟩)
  go_ret
  exact ⟨rfl, hb1⟩
theorem zero_nth : ∀ k : Fin 8, nth (zeroL 8) k.1 = 0 := by decide +kernel
theorem zcell {w : World} {b o n k : Nat} (h : w.cell? ⟨b, o + 0 * 8 + k, none⟩ = some (.int .u8 ((ent (zerosM n) 0 k).toNat : Int))) (hn : 0 < n := by omega) (hk : k < 8 := by decide) : w.cell? ⟨b, o + k, none⟩ = some (.int .u8 0) := by
  have e : ent (zerosM n) 0 k = 0 := by
    unfold ent
    rw [zerosM_row hn]
    exact zero_nth ⟨k, hk⟩
  rw [e, Nat.zero_mul, Nat.add_zero] at h
  exact h
set_option maxRecDepth 100000 in
set_option maxHeartbeats 2000000 in
theorem law11_no_lt {z : Int} (hz : z < 4) (h : Blks p w A n c D) (g : Chgs q w B m d l) (hs : ¬ 20 < m) (hbad : n < 1 ∨ 13 < n) : Calls Try.prog 11 #[.slice A n c, .slice B m d, .int .i64 z] w fun e w' => e = .returned (.bool true) ∧ Below w.heap.size w w' := by
  have hzw : wideB z = false := by unfold wideB; simp; omega
  have hm := g.elm.len
  replace hbad := Lib.hid hbad
  go_enter Try.func11, Try.ntmps11
  go_wp2_with (first | (go_at_call 48; refine (awake24_any _).mono ?_; rintro e w0 ⟨rfl, hb0⟩) | (go_at_call 54; (with_reducible refine (zero_no hzw _).mono ?_); rintro e w1 ⟨rfl, rfl⟩; have hB1 := hb0; have h1 := h.below hB1; have g1 := g.below hB1; have hsB1 := hB1.size) | (go_at_call 56; (with_reducible refine (whole_no h1 hbad.out).mono ?_); rintro e w2 ⟨rfl, rfl⟩))
  go_ret
  exact ⟨rfl, hB1⟩
set_option maxRecDepth 100000 in
set_option maxHeartbeats 2000000 in
theorem law11_bad_lt {z : Int} (hz : z < 4) (h : Blks p w A n c D) (g : Chgs q w B m d l) (hs : ¬ 20 < m) (h1n : 1 ≤ n) (h13 : n ≤ 13) (hok : okC ((n + 3 : Nat) : Int) l = false) : Calls Try.prog 11 #[.slice A n c, .slice B m d, .int .i64 z] w fun e w' => e = .returned (.bool true) ∧ Below w.heap.size w w' := by
  have hzw : wideB z = false := by unfold wideB; simp; omega
  have hm := g.elm.len
  have hspec : Hid (ApplySpec (n + 3) (grpM D) l 0 [] [] 1) := Lib.hid (.inl ⟨by unfold appB; rw [hok, Bool.and_false], rfl, rfl, rfl, rfl⟩)
  go_enter Try.func11, Try.ntmps11
  go_wp2_with (first | (go_at_call 48; refine (awake24_any _).mono ?_; rintro e w0 ⟨rfl, hb0⟩) | (go_at_call 54; (with_reducible refine (zero_no hzw _).mono ?_); rintro e w1 ⟨rfl, rfl⟩; have hB1 := hb0; have h1 := h.below hB1; have g1 := g.below hB1; have hsB1 := hB1.size) | (go_at_call 56; (with_reducible refine (whole_ok h1 h1n h13).mono ?_); rintro e w2 ⟨Ap, cp, rfl, hOp, hb2⟩; have hB2 := below_then2 hB1 hb2; obtain ⟨Ap', cp', ep, hP⟩ := hOp.blks; cases ep; have g2 := g.below hB2) | (go_at_call 50; (with_reducible refine (from24_any g2 (by omega)).mono ?_); rintro e w3 ⟨A3, c3, rfl, hf3, hb3⟩; have hB3 := below_then2 hB2 hb3; have hP3 := hP.below hb3) | (go_at_call 49; (with_reducible refine (gapply_any hP3 hf3 hspec.out).mono ?_); rintro e w4 ⟨A4, c4, A5, c5, rfl, hO4, hD4, hb4⟩; have hB4 := below_then2 hB3 hb4))
  go_ret
  exact ⟨rfl, hB4⟩
set_option maxRecDepth 100000 in
set_option maxHeartbeats 4000000 in
theorem law11_ok_lt {z : Int} (hz : z < 4) (h : Blks p w A n c D) (g : Chgs q w B m d l) (hs : ¬ 20 < m) (h1n : 1 ≤ n) (h13 : n ≤ 13) (hok : okC ((n + 3 : Nat) : Int) l = true) : Calls Try.prog 11 #[.slice A n c, .slice B m d, .int .i64 z] w fun e w' => e = .returned (.bool true) ∧ Below w.heap.size w w' := by
  have hzw : wideB z = false := by unfold wideB; simp; omega
  have hm := g.elm.len
  have hDl := Lib.hid h.1
  have hgl := Lib.hid g.len
  have hcon : ∀ l : List Chg, conB (grpM (applyD D l)) = true := fun l => conB_grp (by rw [applyD_length, h.1]; exact h1n) (by rw [applyD_length, h.1]; exact h13)
  have hc0 : conB (grpM D) = true := hcon []
  have hat : Hid (∀ i, i < m → 0 ≤ (cget l i).1 ∧ (cget l i).1 < (n : Int)) := fun i hi => by
    have := okC_at hok (i := i) (by rw [g.len]; exact hi)
    omega
  have hspec : Hid (ApplySpec (n + 3) (grpM D) l (n + 3) (grpM (applyD D l)) (diffL (grpM D) (grpM (applyD D l))) 0) := Lib.hid (.inr ⟨by unfold appB; rw [hok, hc0]; rfl, rfl, (appO_grp D l).symm, by rw [appO_grp], rfl⟩)
  have hmk1 : 1 * (n + 3) ≤ 281474976710656 := by omega
  have hmk2 : n + 3 ≤ 9223372036854775807 := by omega
  clear hc0
  have hcl := hcon l
  replace hcon := Lib.hid hcon
  go_enter Try.func11, Try.ntmps11
  go_wp2_with (first | (go_at_call 48; refine (awake24_any _).mono ?_; rintro e w0 ⟨rfl, hb0⟩) | (go_at_call 54; (with_reducible refine (zero_no hzw _).mono ?_); rintro e w1 ⟨rfl, rfl⟩; have hB1 := hb0; have h1 := h.below hB1; have g1 := g.below hB1; have hsB1 := hB1.size) | (go_at_call 56; (with_reducible refine (whole_ok h1 h1n h13).mono ?_); rintro e w2 ⟨Ap, cp, rfl, hOp, hb2⟩; have hB2 := below_then2 hB1 hb2; obtain ⟨Ap', cp', ep, hP⟩ := hOp.blks; cases ep; have g2 := g.below hB2) | (go_at_call 50; (with_reducible refine (from24_any g2 (by omega)).mono ?_); rintro e w3 ⟨A3, c3, rfl, hf3, hb3⟩; have hB3 := below_then2 hB2 hb3; have hP3 := hP.below hb3) | (go_at_call 49; (with_reducible refine (gapply_any hP3 hf3 hspec.out).mono ?_); rintro e w4 ⟨A4, c4, A5, c5, rfl, hO4, hD4, hb4⟩; have hB4 := below_then2 hB3 hb4; have hP4 := hP3.below hb4) | (at_make; refine wpl_make (n := n + 3) rfl rfl Try.underlying67 info4b rfl rfl rfl hmk1 hmk2 ?_; intro w5 gs hrow5 hb5 hg5; have hB5 := below_then2 hB4 hb5; have hP5 := hP4.below hb5; have hO5 := hO4.below hb5; have hz5 := hB5.size; have hgs := hrow5.lt))
  go_loopw [74] (fun x wr => ∃ k : Nat, k ≤ m ∧ x = .int .i64 k ∧ wr.rowIs gs 4 (n + 3) (fun j => .bool (seenB l k j)) ∧ (∀ i j, i < j → j < k → (cget l i).1.toNat ≠ (cget l j).1.toNat) ∧ Below w4.heap.size w4 wr) (fun x _ => m - (intOf x).toNat)
  case atStart => exact ⟨0, by omega, rfl, hrow5, fun i j _ hj => absurd hj (Nat.not_lt_zero _), hb5⟩
  case round =>
    obtain ⟨k, hk, rfl, hrow, hdist, hbw⟩ := hrel
    replace hdist := Lib.hid hdist
    have hsw := hbw.size
    have hBw := below_then2 hB4 hbw
    by_cases hltk : k < m
    · obtain ⟨b2, o2, rfl, _, hlt2, hc2⟩ := g.at_ (by omega)
      have hx := g.blk k hltk
      have e1 : Hid (∀ j, j < (chgE (cget l k)).size → wr.cell? ⟨b2, o2 + k * 9 + j, none⟩ = (chgE (cget l k))[j]?) := fun j hj => (hBw.cell (by exact hlt2)).trans ((hc2 k hltk).2.2 j (by rwa [chgE_size hx] at hj))
      clear hc2
      obtain ⟨f9, hz9⟩ := zero_row9 wr 69
      obtain ⟨ha1, ha2⟩ := hat.out k hltk
      obtain ⟨t, ht⟩ := Int.eq_ofNat_of_zero_le ha1
      have htn : t < n := by omega
      have d1 : (0 : Int) ≤ (k : Int) := Int.natCast_nonneg _
      have d2 : (k : Int) < (m : Int) := by omega
      have d3 : (0 : Int) ≤ (t : Int) := Int.natCast_nonneg _
      have d4 : (t : Int) < ((n + 3 : Nat) : Int) := by omega
      have htt : (cget l k).1.toNat = t := by rw [ht]; rfl
      replace ht := Lib.hid ht
      clear ha1 ha2
      have hgr : gs < wr.heap.size := hrow.lt
      cases hseen : seenB l k t with
      | true =>
        go_wp2_with (first | (with_reducible refine wpl_load_agg rfl rfl rfl Try.underlying69 rfl (info69 hx) e1.out ?_) | (with_reducible refine wpl_store_agg (t := 69) rfl rfl rfl rfl hz9 (info69 hx) (by rw [chgE_size hx]; decide) (chgE_one _) ?_; intro w7 hr7 hg7 hz7; have hb7 : Below wr.heap.size wr w7 := (((Below.refl _ wr).alloc (Nat.le_refl _) _).grown hg7 (by simp) (fun k e => by cases e; exact Nat.le_refl _)); obtain ⟨f0, f1, _⟩ := put_chg hx hr7; clear f1; rw [ht.out] at f0; have hrow7 := hrow.of_block (hb7.block gs hgr); have e7 : w7.cell? ⟨gs, t, none⟩ = some (.bool true) := (by rw [hrow7.cell (by omega), hseen]); have hB7 := below_then2 hBw hb7; have hO7 := hO4.below (below_then2 hbw hb7)) | (go_at_call 55; (with_reducible refine (rcheck_any hO7).mono ?_); rw [hcl]; rintro e w8 ⟨rfl, hb8⟩; have hB8 := below_then2 hB7 hb8))
        go_ret
        exact ⟨rfl, hB8⟩
      | false =>
        have hno := Lib.hid (seenB_no hseen)
        go_wp2_with (first | (with_reducible refine wpl_load_agg rfl rfl rfl Try.underlying69 rfl (info69 hx) e1.out ?_) | (with_reducible refine wpl_store_agg (t := 69) rfl rfl rfl rfl hz9 (info69 hx) (by rw [chgE_size hx]; decide) (chgE_one _) ?_; intro w7 hr7 hg7 hz7; have hb7 : Below wr.heap.size wr w7 := (((Below.refl _ wr).alloc (Nat.le_refl _) _).grown hg7 (by simp) (fun k e => by cases e; exact Nat.le_refl _)); obtain ⟨f0, f1, _⟩ := put_chg hx hr7; clear f1; rw [ht.out] at f0; have hrow7 := hrow.of_block (hb7.block gs hgr); have e7 : w7.cell? ⟨gs, t, none⟩ = some (.bool false) := (by rw [hrow7.cell (by omega), hseen]); have e8 : w7.frozen? ⟨gs, t, none⟩ = false := hrow7.frozen t; have hB7 := below_then2 hbw hb7))
        go_roundw
        case rel =>
          refine ⟨k + 1, by omega, by go_num, (hrow7.set t (.bool true)).congr fun j hj => ?_, fun i j hij hj => ?_, hB7.setCell hg5 _⟩
          · rw [seenB_succ, htt]
            by_cases e : j = t
            · rw [if_pos e, e]; simp
            · rw [if_neg e]; simp [Ne.symm e]
          · rcases Nat.lt_succ_iff_lt_or_eq.1 hj with hj | rfl
            · exact hdist.out i j hij hj
            · rw [htt]; exact hno.out i hij
        case measure => simp [intOf]; omega
    · obtain rfl : k = m := by omega
      have hrev : Hid (applyD D (revK l k) = applyD D l) := by
        show _ = _
        have e := revK_all l
        rw [hgl.out] at e
        rw [e]
        exact applyD_rev l D (pairs_of hgl.out hdist.out)
      have hPw := hP4.below hbw
      have hOw := hO4.below hbw
      go_wp2
      go_loopw [16, 17] (fun v x ws => ∃ (k2 : Nat) (A2 : Option Addr) (c2 : Nat) (z2 : Int), k2 ≤ k ∧ v = .slice A2 (n + 3) c2 ∧ x = .int .i64 z2 ∧ z2 = (k : Int) - k2 - 1 ∧ Blks (fun _ => True) ws A2 (n + 3) c2 (grpM (applyD D (revK l k2))) ∧ Below w4.heap.size w4 ws) (fun _ x _ => (intOf x + 1).toNat)
      case atStart => exact ⟨0, _, _, _, by omega, rfl, rfl, by omega, by rw [revK_zero]; exact hPw.mono fun _ _ _ => trivial, hbw⟩
      case round =>
        obtain ⟨k2, A2, c2, z2, hk2, rfl, rfl, hz2, hb2w, hbs⟩ := hrel
        have hBs := below_then2 hB4 hbs
        by_cases hlt2 : k2 < k
        · obtain ⟨i, hi⟩ : ∃ i : Nat, i = k - (k2 + 1) := ⟨_, rfl⟩
          have hik : i < k := by omega
          have hz2' : z2 = (i : Int) := by omega
          subst hz2'
          clear hz2
          obtain ⟨b2, o2, rfl, _, hltb, _⟩ := g.at_ (by omega)
          have gs1 := (g.below hBs).one hik
          have hdc := g.elm.le
          have hdm := g.elm.cap
          unfold maxLen at hdm
          have d1 : (0 : Int) ≤ (i : Int) := Int.natCast_nonneg _
          have d2 : (i : Int) < (k : Int) := by omega
          have d5 : (i : Int) ≤ (d : Int) := by omega
          have hstep : Hid (grpM (applyD (applyD D (revK l k2)) [cget l i]) = grpM (applyD D (revK l (k2 + 1)))) := by
            show _ = _
            rw [revK_step (by rw [hgl.out]; exact hlt2), hgl.out, ← hi, applyD_app]
          have hoki : okC ((n + 3 : Nat) : Int) [cget l i] = true := okC_yes fun j hj => by
            obtain rfl : j = 0 := by simpa using hj
            have := hat.out i hik
            show 0 ≤ (cget l i).1 ∧ (cget l i).1 < _
            omega
          have hspi : Hid (ApplySpec (n + 3) (grpM (applyD D (revK l k2))) [cget l i] (n + 3) (grpM (applyD (applyD D (revK l k2)) [cget l i])) (diffL (grpM (applyD D (revK l k2))) (grpM (applyD (applyD D (revK l k2)) [cget l i]))) 0) := Lib.hid (.inr ⟨by unfold appB; rw [hoki, hcon.out]; rfl, rfl, (appO_grp _ _).symm, by rw [appO_grp], rfl⟩)
          clear hoki
          replace hi := Lib.hid hi
          go_wp2_with (first | (go_at_call 50; (with_reducible refine (from24_any gs1 (by omega)).mono ?_); rintro e w7 ⟨A7, c7, rfl, hf7, hb7⟩; have hB7 := below_then2 hbs hb7; have hb2w7 := hb2w.below hb7) | (go_at_call 49; (with_reducible refine (gapply_any hb2w7 hf7 hspi.out).mono ?_); rintro e w8 ⟨A8, c8, A9, c9, rfl, hO8, hD8, hb8⟩; have hB8 := below_then2 hB7 hb8))
          go_roundw
          case rel => exact ⟨k2 + 1, _, _, _, by omega, rfl, rfl, by have := hi.out; omega, by rw [← hstep.out]; exact hO8, hB8⟩
          case measure => simp [intOf]
        · obtain rfl : k2 = k := by omega
          have hz2' : z2 = -1 := by omega
          subst hz2'
          clear hz2
          have hOs := hO4.below hbs
          have hb2r := hb2w
          rw [hrev.out] at hb2r
          go_wp2_with (first | (go_at_call 55; (with_reducible refine (rcheck_any hOs).mono ?_); rw [hcl]; rintro e w8 ⟨rfl, hb8⟩; have hB8 := below_then2 hBs hb8; have hOs8 := hOs.below hb8; have hb28 := hb2r.below hb8) | (go_at_call 52; (with_reducible refine (sameblocks_any hOs8 hb28).mono ?_); rw [show decide (grpM (applyD D l) = grpM (applyD D l)) = true from decide_eq_true rfl]; rintro e w9 ⟨rfl, nd, rfl⟩; have hB9 := below_drewN hB8 nd))
          go_ret
          exact ⟨rfl, hB9⟩
set_option maxRecDepth 100000 in
set_option maxHeartbeats 2000000 in
theorem law11_no_gt {z : Int} (hz0 : ¬ z < 4) (hz : 16 < z) (h : Blks p w A n c D) (g : Chgs q w B m d l) (hs : ¬ 20 < m) (hbad : n < 1 ∨ 13 < n) : Calls Try.prog 11 #[.slice A n c, .slice B m d, .int .i64 z] w fun e w' => e = .returned (.bool true) ∧ Below w.heap.size w w' := by
  have hzw : wideB z = false := by unfold wideB; simp; omega
  have hm := g.elm.len
  replace hbad := Lib.hid hbad
  go_enter Try.func11, Try.ntmps11
  go_wp2_with (first | (go_at_call 48; refine (awake24_any _).mono ?_; rintro e w0 ⟨rfl, hb0⟩) | (go_at_call 54; (with_reducible refine (zero_no hzw _).mono ?_); rintro e w1 ⟨rfl, rfl⟩; have hB1 := hb0; have h1 := h.below hB1; have g1 := g.below hB1; have hsB1 := hB1.size) | (go_at_call 56; (with_reducible refine (whole_no h1 hbad.out).mono ?_); rintro e w2 ⟨rfl, rfl⟩))
  go_ret
  exact ⟨rfl, hB1⟩
set_option maxRecDepth 100000 in
set_option maxHeartbeats 2000000 in
theorem law11_bad_gt {z : Int} (hz0 : ¬ z < 4) (hz : 16 < z) (h : Blks p w A n c D) (g : Chgs q w B m d l) (hs : ¬ 20 < m) (h1n : 1 ≤ n) (h13 : n ≤ 13) (hok : okC ((n + 3 : Nat) : Int) l = false) : Calls Try.prog 11 #[.slice A n c, .slice B m d, .int .i64 z] w fun e w' => e = .returned (.bool true) ∧ Below w.heap.size w w' := by
  have hzw : wideB z = false := by unfold wideB; simp; omega
  have hm := g.elm.len
  have hspec : Hid (ApplySpec (n + 3) (grpM D) l 0 [] [] 1) := Lib.hid (.inl ⟨by unfold appB; rw [hok, Bool.and_false], rfl, rfl, rfl, rfl⟩)
  go_enter Try.func11, Try.ntmps11
  go_wp2_with (first | (go_at_call 48; refine (awake24_any _).mono ?_; rintro e w0 ⟨rfl, hb0⟩) | (go_at_call 54; (with_reducible refine (zero_no hzw _).mono ?_); rintro e w1 ⟨rfl, rfl⟩; have hB1 := hb0; have h1 := h.below hB1; have g1 := g.below hB1; have hsB1 := hB1.size) | (go_at_call 56; (with_reducible refine (whole_ok h1 h1n h13).mono ?_); rintro e w2 ⟨Ap, cp, rfl, hOp, hb2⟩; have hB2 := below_then2 hB1 hb2; obtain ⟨Ap', cp', ep, hP⟩ := hOp.blks; cases ep; have g2 := g.below hB2) | (go_at_call 50; (with_reducible refine (from24_any g2 (by omega)).mono ?_); rintro e w3 ⟨A3, c3, rfl, hf3, hb3⟩; have hB3 := below_then2 hB2 hb3; have hP3 := hP.below hb3) | (go_at_call 49; (with_reducible refine (gapply_any hP3 hf3 hspec.out).mono ?_); rintro e w4 ⟨A4, c4, A5, c5, rfl, hO4, hD4, hb4⟩; have hB4 := below_then2 hB3 hb4))
  go_ret
  exact ⟨rfl, hB4⟩
set_option maxRecDepth 100000 in
set_option maxHeartbeats 4000000 in
theorem law11_ok_gt {z : Int} (hz0 : ¬ z < 4) (hz : 16 < z) (h : Blks p w A n c D) (g : Chgs q w B m d l) (hs : ¬ 20 < m) (h1n : 1 ≤ n) (h13 : n ≤ 13) (hok : okC ((n + 3 : Nat) : Int) l = true) : Calls Try.prog 11 #[.slice A n c, .slice B m d, .int .i64 z] w fun e w' => e = .returned (.bool true) ∧ Below w.heap.size w w' := by
  have hzw : wideB z = false := by unfold wideB; simp; omega
  have hm := g.elm.len
  have hDl := Lib.hid h.1
  have hgl := Lib.hid g.len
  have hcon : ∀ l : List Chg, conB (grpM (applyD D l)) = true := fun l => conB_grp (by rw [applyD_length, h.1]; exact h1n) (by rw [applyD_length, h.1]; exact h13)
  have hc0 : conB (grpM D) = true := hcon []
  have hat : Hid (∀ i, i < m → 0 ≤ (cget l i).1 ∧ (cget l i).1 < (n : Int)) := fun i hi => by
    have := okC_at hok (i := i) (by rw [g.len]; exact hi)
    omega
  have hspec : Hid (ApplySpec (n + 3) (grpM D) l (n + 3) (grpM (applyD D l)) (diffL (grpM D) (grpM (applyD D l))) 0) := Lib.hid (.inr ⟨by unfold appB; rw [hok, hc0]; rfl, rfl, (appO_grp D l).symm, by rw [appO_grp], rfl⟩)
  have hmk1 : 1 * (n + 3) ≤ 281474976710656 := by omega
  have hmk2 : n + 3 ≤ 9223372036854775807 := by omega
  clear hc0
  have hcl := hcon l
  replace hcon := Lib.hid hcon
  go_enter Try.func11, Try.ntmps11
  go_wp2_with (first | (go_at_call 48; refine (awake24_any _).mono ?_; rintro e w0 ⟨rfl, hb0⟩) | (go_at_call 54; (with_reducible refine (zero_no hzw _).mono ?_); rintro e w1 ⟨rfl, rfl⟩; have hB1 := hb0; have h1 := h.below hB1; have g1 := g.below hB1; have hsB1 := hB1.size) | (go_at_call 56; (with_reducible refine (whole_ok h1 h1n h13).mono ?_); rintro e w2 ⟨Ap, cp, rfl, hOp, hb2⟩; have hB2 := below_then2 hB1 hb2; obtain ⟨Ap', cp', ep, hP⟩ := hOp.blks; cases ep; have g2 := g.below hB2) | (go_at_call 50; (with_reducible refine (from24_any g2 (by omega)).mono ?_); rintro e w3 ⟨A3, c3, rfl, hf3, hb3⟩; have hB3 := below_then2 hB2 hb3; have hP3 := hP.below hb3) | (go_at_call 49; (with_reducible refine (gapply_any hP3 hf3 hspec.out).mono ?_); rintro e w4 ⟨A4, c4, A5, c5, rfl, hO4, hD4, hb4⟩; have hB4 := below_then2 hB3 hb4; have hP4 := hP3.below hb4) | (at_make; refine wpl_make (n := n + 3) rfl rfl Try.underlying67 info4b rfl rfl rfl hmk1 hmk2 ?_; intro w5 gs hrow5 hb5 hg5; have hB5 := below_then2 hB4 hb5; have hP5 := hP4.below hb5; have hO5 := hO4.below hb5; have hz5 := hB5.size; have hgs := hrow5.lt))
  go_loopw [74] (fun x wr => ∃ k : Nat, k ≤ m ∧ x = .int .i64 k ∧ wr.rowIs gs 4 (n + 3) (fun j => .bool (seenB l k j)) ∧ (∀ i j, i < j → j < k → (cget l i).1.toNat ≠ (cget l j).1.toNat) ∧ Below w4.heap.size w4 wr) (fun x _ => m - (intOf x).toNat)
  case atStart => exact ⟨0, by omega, rfl, hrow5, fun i j _ hj => absurd hj (Nat.not_lt_zero _), hb5⟩
  case round =>
    obtain ⟨k, hk, rfl, hrow, hdist, hbw⟩ := hrel
    replace hdist := Lib.hid hdist
    have hsw := hbw.size
    have hBw := below_then2 hB4 hbw
    by_cases hltk : k < m
    · obtain ⟨b2, o2, rfl, _, hlt2, hc2⟩ := g.at_ (by omega)
      have hx := g.blk k hltk
      have e1 : Hid (∀ j, j < (chgE (cget l k)).size → wr.cell? ⟨b2, o2 + k * 9 + j, none⟩ = (chgE (cget l k))[j]?) := fun j hj => (hBw.cell (by exact hlt2)).trans ((hc2 k hltk).2.2 j (by rwa [chgE_size hx] at hj))
      clear hc2
      obtain ⟨f9, hz9⟩ := zero_row9 wr 69
      obtain ⟨ha1, ha2⟩ := hat.out k hltk
      obtain ⟨t, ht⟩ := Int.eq_ofNat_of_zero_le ha1
      have htn : t < n := by omega
      have d1 : (0 : Int) ≤ (k : Int) := Int.natCast_nonneg _
      have d2 : (k : Int) < (m : Int) := by omega
      have d3 : (0 : Int) ≤ (t : Int) := Int.natCast_nonneg _
      have d4 : (t : Int) < ((n + 3 : Nat) : Int) := by omega
      have htt : (cget l k).1.toNat = t := by rw [ht]; rfl
      replace ht := Lib.hid ht
      clear ha1 ha2
      have hgr : gs < wr.heap.size := hrow.lt
      cases hseen : seenB l k t with
      | true =>
        go_wp2_with (first | (with_reducible refine wpl_load_agg rfl rfl rfl Try.underlying69 rfl (info69 hx) e1.out ?_) | (with_reducible refine wpl_store_agg (t := 69) rfl rfl rfl rfl hz9 (info69 hx) (by rw [chgE_size hx]; decide) (chgE_one _) ?_; intro w7 hr7 hg7 hz7; have hb7 : Below wr.heap.size wr w7 := (((Below.refl _ wr).alloc (Nat.le_refl _) _).grown hg7 (by simp) (fun k e => by cases e; exact Nat.le_refl _)); obtain ⟨f0, f1, _⟩ := put_chg hx hr7; clear f1; rw [ht.out] at f0; have hrow7 := hrow.of_block (hb7.block gs hgr); have e7 : w7.cell? ⟨gs, t, none⟩ = some (.bool true) := (by rw [hrow7.cell (by omega), hseen]); have hB7 := below_then2 hBw hb7; have hO7 := hO4.below (below_then2 hbw hb7)) | (go_at_call 55; (with_reducible refine (rcheck_any hO7).mono ?_); rw [hcl]; rintro e w8 ⟨rfl, hb8⟩; have hB8 := below_then2 hB7 hb8))
        go_ret
        exact ⟨rfl, hB8⟩
      | false =>
        have hno := Lib.hid (seenB_no hseen)
        go_wp2_with (first | (with_reducible refine wpl_load_agg rfl rfl rfl Try.underlying69 rfl (info69 hx) e1.out ?_) | (with_reducible refine wpl_store_agg (t := 69) rfl rfl rfl rfl hz9 (info69 hx) (by rw [chgE_size hx]; decide) (chgE_one _) ?_; intro w7 hr7 hg7 hz7; have hb7 : Below wr.heap.size wr w7 := (((Below.refl _ wr).alloc (Nat.le_refl _) _).grown hg7 (by simp) (fun k e => by cases e; exact Nat.le_refl _)); obtain ⟨f0, f1, _⟩ := put_chg hx hr7; clear f1; rw [ht.out] at f0; have hrow7 := hrow.of_block (hb7.block gs hgr); have e7 : w7.cell? ⟨gs, t, none⟩ = some (.bool false) := (by rw [hrow7.cell (by omega), hseen]); have e8 : w7.frozen? ⟨gs, t, none⟩ = false := hrow7.frozen t; have hB7 := below_then2 hbw hb7))
        go_roundw
        case rel =>
          refine ⟨k + 1, by omega, by go_num, (hrow7.set t (.bool true)).congr fun j hj => ?_, fun i j hij hj => ?_, hB7.setCell hg5 _⟩
          · rw [seenB_succ, htt]
            by_cases e : j = t
            · rw [if_pos e, e]; simp
            · rw [if_neg e]; simp [Ne.symm e]
          · rcases Nat.lt_succ_iff_lt_or_eq.1 hj with hj | rfl
            · exact hdist.out i j hij hj
            · rw [htt]; exact hno.out i hij
        case measure => simp [intOf]; omega
    · obtain rfl : k = m := by omega
      have hrev : Hid (applyD D (revK l k) = applyD D l) := by
        show _ = _
        have e := revK_all l
        rw [hgl.out] at e
        rw [e]
        exact applyD_rev l D (pairs_of hgl.out hdist.out)
      have hPw := hP4.below hbw
      have hOw := hO4.below hbw
      go_wp2
      go_loopw [16, 17] (fun v x ws => ∃ (k2 : Nat) (A2 : Option Addr) (c2 : Nat) (z2 : Int), k2 ≤ k ∧ v = .slice A2 (n + 3) c2 ∧ x = .int .i64 z2 ∧ z2 = (k : Int) - k2 - 1 ∧ Blks (fun _ => True) ws A2 (n + 3) c2 (grpM (applyD D (revK l k2))) ∧ Below w4.heap.size w4 ws) (fun _ x _ => (intOf x + 1).toNat)
      case atStart => exact ⟨0, _, _, _, by omega, rfl, rfl, by omega, by rw [revK_zero]; exact hPw.mono fun _ _ _ => trivial, hbw⟩
      case round =>
        obtain ⟨k2, A2, c2, z2, hk2, rfl, rfl, hz2, hb2w, hbs⟩ := hrel
        have hBs := below_then2 hB4 hbs
        by_cases hlt2 : k2 < k
        · obtain ⟨i, hi⟩ : ∃ i : Nat, i = k - (k2 + 1) := ⟨_, rfl⟩
          have hik : i < k := by omega
          have hz2' : z2 = (i : Int) := by omega
          subst hz2'
          clear hz2
          obtain ⟨b2, o2, rfl, _, hltb, _⟩ := g.at_ (by omega)
          have gs1 := (g.below hBs).one hik
          have hdc := g.elm.le
          have hdm := g.elm.cap
          unfold maxLen at hdm
          have d1 : (0 : Int) ≤ (i : Int) := Int.natCast_nonneg _
          have d2 : (i : Int) < (k : Int) := by omega
          have d5 : (i : Int) ≤ (d : Int) := by omega
          have hstep : Hid (grpM (applyD (applyD D (revK l k2)) [cget l i]) = grpM (applyD D (revK l (k2 + 1)))) := by
            show _ = _
            rw [revK_step (by rw [hgl.out]; exact hlt2), hgl.out, ← hi, applyD_app]
          have hoki : okC ((n + 3 : Nat) : Int) [cget l i] = true := okC_yes fun j hj => by
            obtain rfl : j = 0 := by simpa using hj
            have := hat.out i hik
            show 0 ≤ (cget l i).1 ∧ (cget l i).1 < _
            omega
          have hspi : Hid (ApplySpec (n + 3) (grpM (applyD D (revK l k2))) [cget l i] (n + 3) (grpM (applyD (applyD D (revK l k2)) [cget l i])) (diffL (grpM (applyD D (revK l k2))) (grpM (applyD (applyD D (revK l k2)) [cget l i]))) 0) := Lib.hid (.inr ⟨by unfold appB; rw [hoki, hcon.out]; rfl, rfl, (appO_grp _ _).symm, by rw [appO_grp], rfl⟩)
          clear hoki
          replace hi := Lib.hid hi
          go_wp2_with (first | (go_at_call 50; (with_reducible refine (from24_any gs1 (by omega)).mono ?_); rintro e w7 ⟨A7, c7, rfl, hf7, hb7⟩; have hB7 := below_then2 hbs hb7; have hb2w7 := hb2w.below hb7) | (go_at_call 49; (with_reducible refine (gapply_any hb2w7 hf7 hspi.out).mono ?_); rintro e w8 ⟨A8, c8, A9, c9, rfl, hO8, hD8, hb8⟩; have hB8 := below_then2 hB7 hb8))
          go_roundw
          case rel => exact ⟨k2 + 1, _, _, _, by omega, rfl, rfl, by have := hi.out; omega, by rw [← hstep.out]; exact hO8, hB8⟩
          case measure => simp [intOf]
        · obtain rfl : k2 = k := by omega
          have hz2' : z2 = -1 := by omega
          subst hz2'
          clear hz2
          have hOs := hO4.below hbs
          have hb2r := hb2w
          rw [hrev.out] at hb2r
          go_wp2_with (first | (go_at_call 55; (with_reducible refine (rcheck_any hOs).mono ?_); rw [hcl]; rintro e w8 ⟨rfl, hb8⟩; have hB8 := below_then2 hBs hb8; have hOs8 := hOs.below hb8; have hb28 := hb2r.below hb8) | (go_at_call 52; (with_reducible refine (sameblocks_any hOs8 hb28).mono ?_); rw [show decide (grpM (applyD D l) = grpM (applyD D l)) = true from decide_eq_true rfl]; rintro e w9 ⟨rfl, nd, rfl⟩; have hB9 := below_drewN hB8 nd))
          go_ret
          exact ⟨rfl, hB9⟩
set_option maxRecDepth 100000 in
set_option maxHeartbeats 2000000 in
theorem law11_no_ok {zn : Nat} (hz4 : 4 ≤ zn) (hz16 : zn ≤ 16) (h : Blks p w A n c D) (g : Chgs q w B m d l) (hs : ¬ 20 < m) (hbad : n < 1 ∨ 13 < n) : Calls Try.prog 11 #[.slice A n c, .slice B m d, .int .i64 (zn : Int)] w fun e w' => e = .returned (.bool true) ∧ Below w.heap.size w w' := by
  have hz1 : ¬ ((zn : Int) < 4) := by omega
  have hz2 : ¬ (16 < (zn : Int)) := by omega
  have hcz := conB_zeros zn (by omega) hz4
  have heq := eq0
  have hm := g.elm.len
  replace hbad := Lib.hid hbad
  go_enter Try.func11, Try.ntmps11
  go_wp2_with (first | (go_at_call 48; refine (awake24_any _).mono ?_; rintro e w0 ⟨rfl, hb0⟩) | (go_at_call 54; (with_reducible refine (zero_ok hz4 hz16 _).mono ?_); rintro e wz ⟨gz, rfl, hOz, hbz⟩; have hBz := below_then2 hb0 hbz; obtain ⟨Az, cz, ez, hZ⟩ := hOz.blks; cases ez) | (go_at_call 55; (with_reducible refine (rcheck_any hZ).mono ?_); rw [hcz]; rintro e w1 ⟨rfl, hbc⟩; have hB1 := below_then2 hBz hbc; have h1 := h.below hB1; have g1 := g.below hB1; have hsB1 := hB1.size; obtain ⟨qb, qo, qe, _, _, qc⟩ := (hZ.below hbc).at_ (by omega); cases qe; have q0 := zcell (qc 0 (by omega) 0 (by decide)); have q1 := zcell (qc 0 (by omega) 1 (by decide)); have q2 := zcell (qc 0 (by omega) 2 (by decide)); have q3 := zcell (qc 0 (by omega) 3 (by decide)); have q4 := zcell (qc 0 (by omega) 4 (by decide)); have q5 := zcell (qc 0 (by omega) 5 (by decide)); have q6 := zcell (qc 0 (by omega) 6 (by decide)); have q7 := zcell (qc 0 (by omega) 7 (by decide)); clear qc hcz) | (go_at_call 56; (with_reducible refine (whole_no h1 hbad.out).mono ?_); rintro e w2 ⟨rfl, rfl⟩))
  go_ret
  exact ⟨rfl, hB1⟩
set_option maxRecDepth 100000 in
set_option maxHeartbeats 2000000 in
theorem law11_bad_ok {zn : Nat} (hz4 : 4 ≤ zn) (hz16 : zn ≤ 16) (h : Blks p w A n c D) (g : Chgs q w B m d l) (hs : ¬ 20 < m) (h1n : 1 ≤ n) (h13 : n ≤ 13) (hok : okC ((n + 3 : Nat) : Int) l = false) : Calls Try.prog 11 #[.slice A n c, .slice B m d, .int .i64 (zn : Int)] w fun e w' => e = .returned (.bool true) ∧ Below w.heap.size w w' := by
  have hz1 : ¬ ((zn : Int) < 4) := by omega
  have hz2 : ¬ (16 < (zn : Int)) := by omega
  have hcz := conB_zeros zn (by omega) hz4
  have heq := eq0
  have hm := g.elm.len
  have hspec : Hid (ApplySpec (n + 3) (grpM D) l 0 [] [] 1) := Lib.hid (.inl ⟨by unfold appB; rw [hok, Bool.and_false], rfl, rfl, rfl, rfl⟩)
  go_enter Try.func11, Try.ntmps11
  go_wp2_with (first | (go_at_call 48; refine (awake24_any _).mono ?_; rintro e w0 ⟨rfl, hb0⟩) | (go_at_call 54; (with_reducible refine (zero_ok hz4 hz16 _).mono ?_); rintro e wz ⟨gz, rfl, hOz, hbz⟩; have hBz := below_then2 hb0 hbz; obtain ⟨Az, cz, ez, hZ⟩ := hOz.blks; cases ez) | (go_at_call 55; (with_reducible refine (rcheck_any hZ).mono ?_); rw [hcz]; rintro e w1 ⟨rfl, hbc⟩; have hB1 := below_then2 hBz hbc; have h1 := h.below hB1; have g1 := g.below hB1; have hsB1 := hB1.size; obtain ⟨qb, qo, qe, _, _, qc⟩ := (hZ.below hbc).at_ (by omega); cases qe; have q0 := zcell (qc 0 (by omega) 0 (by decide)); have q1 := zcell (qc 0 (by omega) 1 (by decide)); have q2 := zcell (qc 0 (by omega) 2 (by decide)); have q3 := zcell (qc 0 (by omega) 3 (by decide)); have q4 := zcell (qc 0 (by omega) 4 (by decide)); have q5 := zcell (qc 0 (by omega) 5 (by decide)); have q6 := zcell (qc 0 (by omega) 6 (by decide)); have q7 := zcell (qc 0 (by omega) 7 (by decide)); clear qc hcz) | (go_at_call 56; (with_reducible refine (whole_ok h1 h1n h13).mono ?_); rintro e w2 ⟨Ap, cp, rfl, hOp, hb2⟩; have hB2 := below_then2 hB1 hb2; obtain ⟨Ap', cp', ep, hP⟩ := hOp.blks; cases ep; have g2 := g.below hB2) | (go_at_call 50; (with_reducible refine (from24_any g2 (by omega)).mono ?_); rintro e w3 ⟨A3, c3, rfl, hf3, hb3⟩; have hB3 := below_then2 hB2 hb3; have hP3 := hP.below hb3) | (go_at_call 49; (with_reducible refine (gapply_any hP3 hf3 hspec.out).mono ?_); rintro e w4 ⟨A4, c4, A5, c5, rfl, hO4, hD4, hb4⟩; have hB4 := below_then2 hB3 hb4))
  go_ret
  exact ⟨rfl, hB4⟩
set_option maxRecDepth 100000 in
set_option maxHeartbeats 4000000 in
theorem law11_ok_ok {zn : Nat} (hz4 : 4 ≤ zn) (hz16 : zn ≤ 16) (h : Blks p w A n c D) (g : Chgs q w B m d l) (hs : ¬ 20 < m) (h1n : 1 ≤ n) (h13 : n ≤ 13) (hok : okC ((n + 3 : Nat) : Int) l = true) : Calls Try.prog 11 #[.slice A n c, .slice B m d, .int .i64 (zn : Int)] w fun e w' => e = .returned (.bool true) ∧ Below w.heap.size w w' := by
  have hz1 : ¬ ((zn : Int) < 4) := by omega
  have hz2 : ¬ (16 < (zn : Int)) := by omega
  have hcz := conB_zeros zn (by omega) hz4
  have heq := eq0
  have hm := g.elm.len
  have hDl := Lib.hid h.1
  have hgl := Lib.hid g.len
  have hcon : ∀ l : List Chg, conB (grpM (applyD D l)) = true := fun l => conB_grp (by rw [applyD_length, h.1]; exact h1n) (by rw [applyD_length, h.1]; exact h13)
  have hc0 : conB (grpM D) = true := hcon []
  have hat : Hid (∀ i, i < m → 0 ≤ (cget l i).1 ∧ (cget l i).1 < (n : Int)) := fun i hi => by
    have := okC_at hok (i := i) (by rw [g.len]; exact hi)
    omega
  have hspec : Hid (ApplySpec (n + 3) (grpM D) l (n + 3) (grpM (applyD D l)) (diffL (grpM D) (grpM (applyD D l))) 0) := Lib.hid (.inr ⟨by unfold appB; rw [hok, hc0]; rfl, rfl, (appO_grp D l).symm, by rw [appO_grp], rfl⟩)
  have hmk1 : 1 * (n + 3) ≤ 281474976710656 := by omega
  have hmk2 : n + 3 ≤ 9223372036854775807 := by omega
  clear hc0
  have hcl := hcon l
  replace hcon := Lib.hid hcon
  go_enter Try.func11, Try.ntmps11
  go_wp2_with (first | (go_at_call 48; refine (awake24_any _).mono ?_; rintro e w0 ⟨rfl, hb0⟩) | (go_at_call 54; (with_reducible refine (zero_ok hz4 hz16 _).mono ?_); rintro e wz ⟨gz, rfl, hOz, hbz⟩; have hBz := below_then2 hb0 hbz; obtain ⟨Az, cz, ez, hZ⟩ := hOz.blks; cases ez) | (go_at_call 55; (with_reducible refine (rcheck_any hZ).mono ?_); rw [hcz]; rintro e w1 ⟨rfl, hbc⟩; have hB1 := below_then2 hBz hbc; have h1 := h.below hB1; have g1 := g.below hB1; have hsB1 := hB1.size; obtain ⟨qb, qo, qe, _, _, qc⟩ := (hZ.below hbc).at_ (by omega); cases qe; have q0 := zcell (qc 0 (by omega) 0 (by decide)); have q1 := zcell (qc 0 (by omega) 1 (by decide)); have q2 := zcell (qc 0 (by omega) 2 (by decide)); have q3 := zcell (qc 0 (by omega) 3 (by decide)); have q4 := zcell (qc 0 (by omega) 4 (by decide)); have q5 := zcell (qc 0 (by omega) 5 (by decide)); have q6 := zcell (qc 0 (by omega) 6 (by decide)); have q7 := zcell (qc 0 (by omega) 7 (by decide)); clear qc hcz) | (go_at_call 56; (with_reducible refine (whole_ok h1 h1n h13).mono ?_); rintro e w2 ⟨Ap, cp, rfl, hOp, hb2⟩; have hB2 := below_then2 hB1 hb2; obtain ⟨Ap', cp', ep, hP⟩ := hOp.blks; cases ep; have g2 := g.below hB2) | (go_at_call 50; (with_reducible refine (from24_any g2 (by omega)).mono ?_); rintro e w3 ⟨A3, c3, rfl, hf3, hb3⟩; have hB3 := below_then2 hB2 hb3; have hP3 := hP.below hb3) | (go_at_call 49; (with_reducible refine (gapply_any hP3 hf3 hspec.out).mono ?_); rintro e w4 ⟨A4, c4, A5, c5, rfl, hO4, hD4, hb4⟩; have hB4 := below_then2 hB3 hb4; have hP4 := hP3.below hb4) | (at_make; refine wpl_make (n := n + 3) rfl rfl Try.underlying67 info4b rfl rfl rfl hmk1 hmk2 ?_; intro w5 gs hrow5 hb5 hg5; have hB5 := below_then2 hB4 hb5; have hP5 := hP4.below hb5; have hO5 := hO4.below hb5; have hz5 := hB5.size; have hgs := hrow5.lt))
  go_loopw [74] (fun x wr => ∃ k : Nat, k ≤ m ∧ x = .int .i64 k ∧ wr.rowIs gs 4 (n + 3) (fun j => .bool (seenB l k j)) ∧ (∀ i j, i < j → j < k → (cget l i).1.toNat ≠ (cget l j).1.toNat) ∧ Below w4.heap.size w4 wr) (fun x _ => m - (intOf x).toNat)
  case atStart => exact ⟨0, by omega, rfl, hrow5, fun i j _ hj => absurd hj (Nat.not_lt_zero _), hb5⟩
  case round =>
    obtain ⟨k, hk, rfl, hrow, hdist, hbw⟩ := hrel
    replace hdist := Lib.hid hdist
    have hsw := hbw.size
    have hBw := below_then2 hB4 hbw
    by_cases hltk : k < m
    · obtain ⟨b2, o2, rfl, _, hlt2, hc2⟩ := g.at_ (by omega)
      have hx := g.blk k hltk
      have e1 : Hid (∀ j, j < (chgE (cget l k)).size → wr.cell? ⟨b2, o2 + k * 9 + j, none⟩ = (chgE (cget l k))[j]?) := fun j hj => (hBw.cell (by exact hlt2)).trans ((hc2 k hltk).2.2 j (by rwa [chgE_size hx] at hj))
      clear hc2
      obtain ⟨f9, hz9⟩ := zero_row9 wr 69
      obtain ⟨ha1, ha2⟩ := hat.out k hltk
      obtain ⟨t, ht⟩ := Int.eq_ofNat_of_zero_le ha1
      have htn : t < n := by omega
      have d1 : (0 : Int) ≤ (k : Int) := Int.natCast_nonneg _
      have d2 : (k : Int) < (m : Int) := by omega
      have d3 : (0 : Int) ≤ (t : Int) := Int.natCast_nonneg _
      have d4 : (t : Int) < ((n + 3 : Nat) : Int) := by omega
      have htt : (cget l k).1.toNat = t := by rw [ht]; rfl
      replace ht := Lib.hid ht
      clear ha1 ha2
      have hgr : gs < wr.heap.size := hrow.lt
      cases hseen : seenB l k t with
      | true =>
        go_wp2_with (first | (with_reducible refine wpl_load_agg rfl rfl rfl Try.underlying69 rfl (info69 hx) e1.out ?_) | (with_reducible refine wpl_store_agg (t := 69) rfl rfl rfl rfl hz9 (info69 hx) (by rw [chgE_size hx]; decide) (chgE_one _) ?_; intro w7 hr7 hg7 hz7; have hb7 : Below wr.heap.size wr w7 := (((Below.refl _ wr).alloc (Nat.le_refl _) _).grown hg7 (by simp) (fun k e => by cases e; exact Nat.le_refl _)); obtain ⟨f0, f1, _⟩ := put_chg hx hr7; clear f1; rw [ht.out] at f0; have hrow7 := hrow.of_block (hb7.block gs hgr); have e7 : w7.cell? ⟨gs, t, none⟩ = some (.bool true) := (by rw [hrow7.cell (by omega), hseen]); have hB7 := below_then2 hBw hb7; have hO7 := hO4.below (below_then2 hbw hb7)) | (go_at_call 55; (with_reducible refine (rcheck_any hO7).mono ?_); rw [hcl]; rintro e w8 ⟨rfl, hb8⟩; have hB8 := below_then2 hB7 hb8))
        go_ret
        exact ⟨rfl, hB8⟩
      | false =>
        have hno := Lib.hid (seenB_no hseen)
        go_wp2_with (first | (with_reducible refine wpl_load_agg rfl rfl rfl Try.underlying69 rfl (info69 hx) e1.out ?_) | (with_reducible refine wpl_store_agg (t := 69) rfl rfl rfl rfl hz9 (info69 hx) (by rw [chgE_size hx]; decide) (chgE_one _) ?_; intro w7 hr7 hg7 hz7; have hb7 : Below wr.heap.size wr w7 := (((Below.refl _ wr).alloc (Nat.le_refl _) _).grown hg7 (by simp) (fun k e => by cases e; exact Nat.le_refl _)); obtain ⟨f0, f1, _⟩ := put_chg hx hr7; clear f1; rw [ht.out] at f0; have hrow7 := hrow.of_block (hb7.block gs hgr); have e7 : w7.cell? ⟨gs, t, none⟩ = some (.bool false) := (by rw [hrow7.cell (by omega), hseen]); have e8 : w7.frozen? ⟨gs, t, none⟩ = false := hrow7.frozen t; have hB7 := below_then2 hbw hb7))
        go_roundw
        case rel =>
          refine ⟨k + 1, by omega, by go_num, (hrow7.set t (.bool true)).congr fun j hj => ?_, fun i j hij hj => ?_, hB7.setCell hg5 _⟩
          · rw [seenB_succ, htt]
            by_cases e : j = t
            · rw [if_pos e, e]; simp
            · rw [if_neg e]; simp [Ne.symm e]
          · rcases Nat.lt_succ_iff_lt_or_eq.1 hj with hj | rfl
            · exact hdist.out i j hij hj
            · rw [htt]; exact hno.out i hij
        case measure => simp [intOf]; omega
    · obtain rfl : k = m := by omega
      have hrev : Hid (applyD D (revK l k) = applyD D l) := by
        show _ = _
        have e := revK_all l
        rw [hgl.out] at e
        rw [e]
        exact applyD_rev l D (pairs_of hgl.out hdist.out)
      have hPw := hP4.below hbw
      have hOw := hO4.below hbw
      go_wp2
      go_loopw [16, 17] (fun v x ws => ∃ (k2 : Nat) (A2 : Option Addr) (c2 : Nat) (z2 : Int), k2 ≤ k ∧ v = .slice A2 (n + 3) c2 ∧ x = .int .i64 z2 ∧ z2 = (k : Int) - k2 - 1 ∧ Blks (fun _ => True) ws A2 (n + 3) c2 (grpM (applyD D (revK l k2))) ∧ Below w4.heap.size w4 ws) (fun _ x _ => (intOf x + 1).toNat)
      case atStart => exact ⟨0, _, _, _, by omega, rfl, rfl, by omega, by rw [revK_zero]; exact hPw.mono fun _ _ _ => trivial, hbw⟩
      case round =>
        obtain ⟨k2, A2, c2, z2, hk2, rfl, rfl, hz2, hb2w, hbs⟩ := hrel
        have hBs := below_then2 hB4 hbs
        by_cases hlt2 : k2 < k
        · obtain ⟨i, hi⟩ : ∃ i : Nat, i = k - (k2 + 1) := ⟨_, rfl⟩
          have hik : i < k := by omega
          have hz2' : z2 = (i : Int) := by omega
          subst hz2'
          clear hz2
          obtain ⟨b2, o2, rfl, _, hltb, _⟩ := g.at_ (by omega)
          have gs1 := (g.below hBs).one hik
          have hdc := g.elm.le
          have hdm := g.elm.cap
          unfold maxLen at hdm
          have d1 : (0 : Int) ≤ (i : Int) := Int.natCast_nonneg _
          have d2 : (i : Int) < (k : Int) := by omega
          have d5 : (i : Int) ≤ (d : Int) := by omega
          have hstep : Hid (grpM (applyD (applyD D (revK l k2)) [cget l i]) = grpM (applyD D (revK l (k2 + 1)))) := by
            show _ = _
            rw [revK_step (by rw [hgl.out]; exact hlt2), hgl.out, ← hi, applyD_app]
          have hoki : okC ((n + 3 : Nat) : Int) [cget l i] = true := okC_yes fun j hj => by
            obtain rfl : j = 0 := by simpa using hj
            have := hat.out i hik
            show 0 ≤ (cget l i).1 ∧ (cget l i).1 < _
            omega
          have hspi : Hid (ApplySpec (n + 3) (grpM (applyD D (revK l k2))) [cget l i] (n + 3) (grpM (applyD (applyD D (revK l k2)) [cget l i])) (diffL (grpM (applyD D (revK l k2))) (grpM (applyD (applyD D (revK l k2)) [cget l i]))) 0) := Lib.hid (.inr ⟨by unfold appB; rw [hoki, hcon.out]; rfl, rfl, (appO_grp _ _).symm, by rw [appO_grp], rfl⟩)
          clear hoki
          replace hi := Lib.hid hi
          go_wp2_with (first | (go_at_call 50; (with_reducible refine (from24_any gs1 (by omega)).mono ?_); rintro e w7 ⟨A7, c7, rfl, hf7, hb7⟩; have hB7 := below_then2 hbs hb7; have hb2w7 := hb2w.below hb7) | (go_at_call 49; (with_reducible refine (gapply_any hb2w7 hf7 hspi.out).mono ?_); rintro e w8 ⟨A8, c8, A9, c9, rfl, hO8, hD8, hb8⟩; have hB8 := below_then2 hB7 hb8))
          go_roundw
          case rel => exact ⟨k2 + 1, _, _, _, by omega, rfl, rfl, by have := hi.out; omega, by rw [← hstep.out]; exact hO8, hB8⟩
          case measure => simp [intOf]
        · obtain rfl : k2 = k := by omega
          have hz2' : z2 = -1 := by omega
          subst hz2'
          clear hz2
          have hOs := hO4.below hbs
          have hb2r := hb2w
          rw [hrev.out] at hb2r
          go_wp2_with (first | (go_at_call 55; (with_reducible refine (rcheck_any hOs).mono ?_); rw [hcl]; rintro e w8 ⟨rfl, hb8⟩; have hB8 := below_then2 hBs hb8; have hOs8 := hOs.below hb8; have hb28 := hb2r.below hb8) | (go_at_call 52; (with_reducible refine (sameblocks_any hOs8 hb28).mono ?_); rw [show decide (grpM (applyD D l) = grpM (applyD D l)) = true from decide_eq_true rfl]; rintro e w9 ⟨rfl, nd, rfl⟩; have hB9 := below_drewN hB8 nd))
          go_ret
          exact ⟨rfl, hB9⟩
theorem law11 (h : Blks p w A n c D) (g : Chgs q w B m d l) (z : Int) : Calls Try.prog 11 #[.slice A n c, .slice B m d, .int .i64 z] w fun e w' => e = .returned (.bool true) ∧ Below w.heap.size w w' := by
  by_cases hs : 20 < m
  · exact law11_long h g z hs
  by_cases hz : z < 4
  · by_cases hn : n < 1 ∨ 13 < n
    · exact law11_no_lt hz h g hs hn
    · cases hok : okC ((n + 3 : Nat) : Int) l with
      | false => exact law11_bad_lt hz h g hs (by omega) (by omega) hok
      | true => exact law11_ok_lt hz h g hs (by omega) (by omega) hok
  by_cases hz2 : 16 < z
  · by_cases hn : n < 1 ∨ 13 < n
    · exact law11_no_gt hz hz2 h g hs hn
    · cases hok : okC ((n + 3 : Nat) : Int) l with
      | false => exact law11_bad_gt hz hz2 h g hs (by omega) (by omega) hok
      | true => exact law11_ok_gt hz hz2 h g hs (by omega) (by omega) hok
  obtain ⟨zn, rfl⟩ := Int.eq_ofNat_of_zero_le (a := z) (by omega)
  have z4 : 4 ≤ zn := by omega
  have z16 : zn ≤ 16 := by omega
  by_cases hn : n < 1 ∨ 13 < n
  · exact law11_no_ok z4 z16 h g hs hn
  · cases hok : okC ((n + 3 : Nat) : Int) l with
    | false => exact law11_bad_ok z4 z16 h g hs (by omega) (by omega) hok
    | true => exact law11_ok_ok z4 z16 h g hs (by omega) (by omega) hok
end
end Go.Proofs.Ytifhjigkljdkmaa
