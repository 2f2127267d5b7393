/- decode.Weights, where the arguments are valid. -/
import Derived.Test.YtifhjigkljdkmaaWe
namespace Go.Proofs.Ytifhjigkljdkmaa
open Go.RowKit
open Gf (F)
set_option linter.unusedSimpArgs false
set_option linter.unusedVariables false
theorem Mat.headA {p : Nat → Prop} {w : World} {n c m g : Nat} {R : Nat → Option Addr} {C : Nat → Nat} {a : List (List F)} (h : Mat p w (some ⟨g, 0, none⟩) n c R m C a) (hn : 0 < n) : w.cell? ⟨g, 0, none⟩ = some (.slice (R 0) m (C 0)) := by
  obtain ⟨_, _, e, _, _, hc⟩ := h.row.at_ hn
  cases e
  exact hc 0 hn
theorem own_ne_of_lt {w : World} {base : Nat} {e : TypeId} {v : Value} {n : Nat} {xs : List Value} (h : w.ownsRow base e 1 v n xs) {b : Nat} (hb : b < base) : some b ≠ v.ownBlock := fun e' => by
  have := (h.lt b e'.symm).1
  omega
theorem wts_row {n to : Nat} {f : Nat → Nat} {v : List (List F)} (h : invM (fromM n f) n = some v) : mrow (mulM 1 n n [genR n to] v) 0 = wts n f to := by
  unfold mulM wts
  rw [mrow_mkm _ (by decide), h]
  rfl
section
variable {p q : Nat → Prop} {w w' : World} {A B : Option Addr} {n c m d wd : Nat} {l : List Int}
set_option maxRecDepth 100000 in
set_option maxHeartbeats 4000000 in
theorem weights_ok {to : Nat} (hwd : wd = n + 3) (h1n : 1 ≤ n) (h13 : n ≤ 13) (h : Ints p w A n c l) (hto : to < wd) (hk : HelpOk wd n l) : Calls Try.prog 66 #[.int .i64 (wd : Int), .slice A n c, .int .i64 (to : Int)] w fun e w' => ∃ A' c', e = .returned (.tuple #[.slice A' n c', .int .i64 0]) ∧ Byt (fun _ => True) w' A' n c' (wts n (fromF l) to) ∧ Below w.heap.size w w' := by
  have hn := h.row.len
  have hwb : wideB (wd : Int) = true := by unfold wideB; simp; omega
  have t1 : ((n : Int) != (wd : Int) - 3) = false := by simp; omega
  have t2 : ¬ ((to : Int) < 0) := by omega
  have t3 : ¬ ((wd : Int) ≤ (to : Int)) := by omega
  have hfo : FromOk n (fromF l) := from_ok (by rw [← hwd]; exact hk)
  obtain ⟨v, hv, hvd, _, _⟩ := from_inv (by omega) hfo
  have hfd := fromM_dim n (fromF l)
  have hfv : Valid (fromM n (fromF l)) := hfd.valid h1n (by omega) h1n (by omega)
  have hvv : Valid v := hvd.valid h1n (by omega) h1n (by omega)
  have hwda : wd ≤ n + 3 := by omega
  have hwdb : n + 3 ≤ wd := by omega
  replace hwd := Lib.hid hwd
  replace hk := Lib.hid hk
  replace hfo := Lib.hid hfo
  replace hv := Lib.hid hv
  replace hvd := Lib.hid hvd
  replace hvv := Lib.hid hvv
  replace hfv := Lib.hid hfv
  replace hfd := Lib.hid hfd
  go_enter Try.func66, Try.ntmps66
  go_wp2_with (go_at_call 112; (with_reducible refine (possible_any (wd : Int) _).mono ?_); rw [hwb]; rintro e w' ⟨rfl, rfl⟩)
  go_loop [39] (fun i => ∃ k : Nat, k ≤ n ∧ i = .int .i64 k) (fun i => n - (intOf i).toNat)
  case atStart => exact ⟨0, by omega, rfl⟩
  case round =>
    obtain ⟨k, hkn, rfl⟩ := hrel
    by_cases hlt : k < n
    · obtain ⟨b1, o, rfl, _, _, hc⟩ := h.row.at_ (by omega)
      have e1 := hc k hlt
      obtain ⟨y0, y1, y2⟩ := hk.out k hlt
      obtain ⟨y, hy⟩ : ∃ y, y = nti l k := ⟨_, rfl⟩
      rw [← hy] at e1 y0 y1 y2
      have d1 : (0 : Int) ≤ (k : Int) := Int.natCast_nonneg _
      have d2 : (k : Int) < (n : Int) := by omega
      have y0' : ¬ y < 0 := by omega
      have y1' : ¬ (wd : Int) ≤ y := by omega
      by_cases k0 : k = 0
      · subst k0
        clear hc d1 d2 y2
        rw [Nat.add_zero] at e1
        have d2 : (0 : Int) < (n : Int) := by omega
        replace hy := Lib.hid hy
        go_wp2
        go_round
        case rel => exact ⟨1, by omega, by go_num⟩
        case measure => simp [intOf]; omega
      · have e2 := hc (k - 1) (by omega)
        obtain ⟨k', rfl⟩ : ∃ k', k = k' + 1 := ⟨k - 1, by omega⟩
        have y3 := y2 (by omega)
        rw [Nat.add_sub_cancel] at e2 y3
        clear hc y2
        obtain ⟨x, hx⟩ : ∃ x, x = nti l k' := ⟨_, rfl⟩
        rw [← hx] at e2 y3
        have d3 : (0 : Int) < ((k' + 1 : Nat) : Int) := by omega
        have d4 : ((k' + 1 : Nat) : Int) - 1 = (k' : Int) := by omega
        have d5 : (0 : Int) ≤ (k' : Int) := by omega
        have d6 : (k' : Int) < (n : Int) := by omega
        have hxy : ¬ y ≤ x := by omega
        replace hx := Lib.hid hx
        replace hy := Lib.hid hy
        go_wp2
        go_round
        case rel => exact ⟨k' + 1 + 1, by omega, by go_num⟩
        case measure => simp [intOf]; omega
    · obtain rfl : k = n := by omega
      go_wp2_with (go_at_call 113; (with_reducible refine (generator_any h1n h13 hwd.out _).mono ?_); rintro e wg ⟨Ag, cg, Rg, Cg, rfl, hG, hbg⟩)
      have hlg := h.below hbg
      have hsg := hbg.size
      go_loopw [11, 69] (fun v x wr => ∃ (i : Nat) (R' : Nat → Option Addr) (L' C' : Nat → Nat), i ≤ k ∧ x = .int .i64 i ∧ OwnA wr wg.heap.size (fun _ => True) v i R' L' C' (fun r => genR k (fromF l r)) ∧ Below wg.heap.size wg wr) (fun _ x _ => k - (intOf x).toNat)
      case atStart => exact ⟨0, _, _, _, by omega, rfl, (OwnA.start _ _ _).congr fun i hi => absurd hi (Nat.not_lt_zero _), Below.refl _ _⟩
      case round =>
        obtain ⟨i, R', L', C', hi, rfl, ho, hbw⟩ := hrel
        have hsz := hbw.size
        by_cases hlt2 : i < k
        · obtain ⟨b2, o2, rfl, _, hlt2b, hc2⟩ := hlg.row.at_ (by omega)
          obtain ⟨hr1, hr2, _⟩ := hk.out i hlt2
          have f2 : wr.cell? ⟨b2, o2 + i, none⟩ = some (.int .i64 (nti l i)) := (hbw.cell (by exact hlt2b)).trans (hc2 i hlt2)
          obtain ⟨t, ht⟩ := Int.eq_ofNat_of_zero_le hr1
          rw [ht] at f2 hr1 hr2
          have hft : Hid (genR k (fromF l i) = genR k t) := by
            show _ = _
            unfold fromF
            rw [ht]
            rfl
          replace ht := Lib.hid ht
          have htn : t < wd := by omega
          obtain ⟨b1, o1, rfl, _, hlt1, hc1⟩ := hG.row.at_ (by omega)
          have f1 : wr.cell? ⟨b1, o1 + t, none⟩ = some (.slice (Rg t) k (Cg t)) := (hbw.cell (by exact hlt1)).trans (hc1 t htn)
          have hrt := (hG.rows t htn)
          rw [genM_row (by omega)] at hrt
          clear hc1 hc2
          have d1 : (0 : Int) ≤ (i : Int) := Int.natCast_nonneg _
          have d2 : (i : Int) < (k : Int) := by omega
          have hnew := fun b (hb : b < wg.heap.size) => own_ne_of_lt ho.own hb
          replace hrt := Lib.hid hrt
          go_wp2_with (at_builtin; refine wpl_append1s rfl (s := .tmp 73) (x := .tmp 78) rfl Try.underlying22 info28 rfl rfl ho.own rfl rfl rfl (by unfold maxLen; omega) (by omega) hsz ?_; intro v2 w2 hown2 hgr2 hne2)
          go_roundw
          case rel =>
            refine ⟨i + 1, _, _, _, by omega, by go_num, (ho.push (((hrt.out.mono (q := fun b => b < wg.heap.size) fun b hb _ => hb).below hbw).mono fun b _ hp => ⟨trivial, hnew b hp⟩) hown2 hgr2 hne2).congr fun j _ => ?_, hbw.grown hgr2 hsz (own_ge ho.own)⟩
            by_cases e : j = i
            · subst e; simp [hft.out]
            · simp [e]
          case measure => simp [intOf]; omega
        · obtain rfl : i = k := by omega
          obtain ⟨A', c', rfl, hr'⟩ := ho.rag (M := fromM i (fromF l)) hfd.out.len (fun r hr => fromM_row _ hr)
          have hmat := hr'.mat (m := i) fun j hj => hfd.out.row j hj
          obtain ⟨b1, o1, rfl, _, hlt1, hc1⟩ := hG.row.at_ (by omega)
          have hc1t := hc1 to hto
          have hrt := hG.rows to hto
          rw [genM_row (by omega)] at hrt
          clear hc1
          have d1 : (0 : Int) ≤ (to : Int) := Int.natCast_nonneg _
          have d2 : (to : Int) < (wd : Int) := by omega
          replace hrt := Lib.hid hrt
          have hgv : Valid [genR i to] := ⟨by simp, by simp, by simp [mrow, genR_length]; omega, by simp [mrow, genR_length]; omega, fun j hj => by
            obtain rfl : j = 0 := by simpa using hj
            rfl⟩
          replace hgv := Lib.hid hgv
          have hBw := below_then2 hbg hbw
          go_wp2_with (first | (go_at_call 29; (with_reducible refine (inverse_ok hmat hfv.out).mono ?_); rintro e w2 ⟨hb2, _, h2⟩; obtain ⟨g2, R2, C2, rfl, hv2⟩ := h2 v hv.out; clear h2; have hB2 := below_then2 hbw hb2; have f1 : w2.cell? ⟨b1, o1 + to, none⟩ = some (.slice (Rg to) i (Cg to)) := (hB2.cell (p := ⟨b1, o1 + to, none⟩) hlt1).trans hc1t; have hal : Below w2.heap.size w2 (w2.alloc (.cells #[.slice (Rg to) i (Cg to)] 28)) := (Below.refl _ _).alloc (Nat.le_refl _) _; have hB3 := below_then2 (below_then2 hbg hB2) hal; have hv3 := hv2.below hal; have hrow3 := ((hrt.out.below hB2).below hal).any; have hone : Mat (fun _ => True) (w2.alloc (.cells #[.slice (Rg to) i (Cg to)] 28)) (some ⟨w2.heap.size, 0, none⟩) 1 1 (fun _ => Rg to) i (fun _ => Cg to) [genR i to] := ⟨rfl, (row_one _ _).mono fun _ _ _ => trivial, fun j hj => by obtain rfl : j = 0 := (by omega); exact hrow3⟩) | (go_at_call 45; (with_reducible refine (mul_ok hone hv3 hgv.out hvv.out).mono ?_); rintro e w4 ⟨g4, R4, C4, rfl, hm4, hb4⟩; have hB4 := below_then2 hB3 hb4; have f4 := hm4.headA (by decide)))
          go_ret2
          refine ⟨R4 0, C4 0, rfl, ?_, hB4⟩
          have h0 := (hm4.rows 0 (by decide)).any
          rwa [wts_row hv.out] at h0
end
end Go.Proofs.Ytifhjigkljdkmaa
