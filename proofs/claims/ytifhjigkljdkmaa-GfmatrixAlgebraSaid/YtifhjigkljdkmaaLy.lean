/- The law functions GfmatrixInverse and GfmatrixLeftInverse return true. -/
import Derived.Test.YtifhjigkljdkmaaLx
namespace Go.Proofs.Ytifhjigkljdkmaa
open Go.RowKit
open Gf (F)
set_option linter.unusedSimpArgs false
set_option linter.unusedVariables false
section
variable {p q : Nat → Prop} {w : World} {A B : Option Addr} {n c k d m : Nat} {R S : Nat → Option Addr} {L K C D : Nat → Nat} {x : List F} {a b : List (List F)}
theorem Mat.head0 {g : Nat} (h : Mat p w (some ⟨g, 0, none⟩) n c R m C a) (hn : 0 < n) : w.cell? ⟨g, 0, none⟩ = some (.slice (R 0) m (C 0)) := by
  obtain ⟨_, _, e, _, _, hc⟩ := h.row.at_ hn
  cases e
  exact hc 0 hn
set_option maxRecDepth 100000 in
set_option maxHeartbeats 2000000 in
theorem law3_full {b1 o1 : Nat} (ha : Rag p w (some ⟨b1, o1, none⟩) n c R L C a) (hm : Mat p w (some ⟨b1, o1, none⟩) n c R n C a) (hs : small a = true) (v : Valid a) (r1 : 1 ≤ n) (r2 : n ≤ 64) (hlt1 : b1 < w.heap.size)
    (e1 : w.cell? ⟨b1, o1, none⟩ = some (.slice (R 0) n (C 0))) {vv : List (List F)} (vvv : valid vv = true) (hinv : Hid (invM a n = some vv)) (hfull : Hid ((indep a).length = n)) (hd1 : Hid (decide (mulM n n n a vv = idm n) = true)) (hd2 : Hid (decide (mulM n n n vv a = idm n) = true)) :
    Calls Try.prog 3 #[.slice (some ⟨b1, o1, none⟩) n c] w fun e w' => e = .returned (.bool true) ∧ Below w.heap.size w w' := by
  have hv : valid a = true := decide_eq_true v
  go_enter Try.func3, Try.ntmps3
  go_wp2_with (first | (go_at_call 27; refine (awake_any _).mono ?_; rintro e w1 ⟨rfl, hb1⟩; have ha1 := ha.belowR hb1; have hm1 := hm.belowR hb1) | (go_at_call 28; refine (small_any ha1).mono ?_; rw [hs]; rintro e w2 ⟨rfl, rfl⟩) | (go_at_call 29; refine (inverse_ok hm1 v).mono ?_; rintro e w2 ⟨hb2, _, h2⟩; obtain ⟨g, R2, C2, rfl, hv2⟩ := h2 vv hinv.out; have ha2 := ha1.belowR hb2; have hm2 := hm1.belowR hb2; have hB2 := below_then2 hb1 hb2) | (go_at_call 30; refine (refvalid_any hv6.rag).mono ?_; rw [vvv]; rintro e w3 ⟨rfl, nd2, rfl⟩; have hB7 := below_drewN hB6 nd2; have hm7 := hm6.drewN nd2; have hv7 := hv6.drewN nd2; have f7 := hv7.head0 (by omega)) | (go_at_call 30; refine (refvalid_any ha2).mono ?_; rw [hv]; rintro e w3 ⟨rfl, nd, rfl⟩; have hB3 := below_drewN hB2 nd; have hm3 := hm2.drewN nd; have hv3 := hv2.drewN nd; have f3 := (hB3.cell (p := ⟨b1, o1, none⟩) hlt1).trans e1) | (go_at_call 31; refine (refindep_any hm3 r2 r2).mono ?_; rw [hfull.out]; rintro e w6 ⟨A6, c6, rfl, hi, hb6⟩; have hB6 := below_then2 hB3 hb6; have hm6 := hm3.belowR hb6; have hv6 := hv3.belowR hb6) | (go_at_call 33; refine (refmulmat_any hv10 hm10 (by omega) (by omega) (by omega)).mono ?_; rintro e w11 ⟨A11, c11, R11, C11, rfl, hp11, hb11⟩; have hB11 := below_then2 hB10 hb11) | (go_at_call 33; refine (refmulmat_any hm7 hv7 (by omega) (by omega) (by omega)).mono ?_; rintro e w8 ⟨A8, c8, R8, C8, rfl, hp8, hb8⟩; have hB8 := below_then2 hB7 hb8; have hm8 := hm7.belowR hb8; have hv8 := hv7.belowR hb8) | (go_at_call 34; have hB11' := hB11; refine (refid_any n (by omega) _).mono ?_; rintro e w12 ⟨A12, c12, R12, C12, rfl, hi12, hb12⟩; have hB12 := below_then2 hB11 hb12; have hp12 := hp11.belowR hb12) | (go_at_call 34; refine (refid_any n (by omega) _).mono ?_; rintro e w9 ⟨A9, c9, R9, C9, rfl, hi9, hb9⟩; have hB9 := below_then2 hB8 hb9; have hm9 := hm8.belowR hb9; have hv9 := hv8.belowR hb9; have hp9 := hp8.belowR hb9) | (go_at_call 32; refine (same_any hp12.rag hi12.rag).mono ?_; rw [hd2.out]; rintro e w13 ⟨rfl, nd4, rfl⟩; have hB13 := below_drewN hB12 nd4) | (go_at_call 32; refine (same_any hp9.rag hi9.rag).mono ?_; rw [hd1.out]; rintro e w10 ⟨rfl, nd3, rfl⟩; have hB10 := below_drewN hB9 nd3; have hm10 := hm9.drewN nd3; have hv10 := hv9.drewN nd3))
  go_ret
  exact ⟨by simp, hB13⟩
set_option maxRecDepth 100000 in
set_option maxHeartbeats 2000000 in
theorem law3 (ha : Rag p w A n c R L C a) : Calls Try.prog 3 #[.slice A n c] w fun e w' => e = .returned (.bool true) ∧ Below w.heap.size w w' := by
  cases hs : small a with
  | false =>
    go_enter Try.func3, Try.ntmps3
    go_wp2_with (first | (go_at_call 27; refine (awake_any _).mono ?_; rintro e w1 ⟨rfl, hb1⟩; have ha1 := ha.belowR hb1) | (go_at_call 28; refine (small_any ha1).mono ?_; rw [hs]; rintro e w2 ⟨rfl, rfl⟩))
    go_ret
    exact ⟨rfl, hb1⟩
  | true =>
    by_cases v : Valid a
    · have hv : valid a = true := decide_eq_true v
      obtain ⟨hm, r1, r2, r3, r4, hd, h0⟩ := ha.valid_mat v
      obtain ⟨b1, o1, rfl, _, hlt1, hc1⟩ := ha.row.at_ (by omega)
      have e1 : w.cell? ⟨b1, o1, none⟩ = some (.slice (R 0) (L 0) (C 0)) := hc1 0 (by omega)
      clear hc1
      by_cases hsq : n = L 0
      · rw [← hsq] at hm hd e1 h0
        have hle := indep_le hd.allRows
        by_cases hshort : (indep a).length < n
        · have hinv : Hid (invM a n = none) := by
            obtain ⟨x, hx, j, hj, hne⟩ := indep_short hd.allRows hshort
            exact inv_short (fun i hi => hx i (by rw [hd.len]; exact hi)) hj hne
          have hle' := Lib.hid hle
          clear hle h0 hsq hd
          go_enter Try.func3, Try.ntmps3
          go_wp2_with (first | (go_at_call 27; refine (awake_any _).mono ?_; rintro e w1 ⟨rfl, hb1⟩; have ha1 := ha.belowR hb1; have hm1 := hm.belowR hb1) | (go_at_call 28; refine (small_any ha1).mono ?_; rw [hs]; rintro e w2 ⟨rfl, rfl⟩) | (go_at_call 29; refine (inverse_ok hm1 v).mono ?_; rintro e w2 ⟨hb2, h2, _⟩; obtain rfl := h2 hinv.out; have ha2 := ha1.belowR hb2; have hm2 := hm1.belowR hb2; have hB2 := below_then2 hb1 hb2) | (go_at_call 30; refine (refvalid_any ha2).mono ?_; rw [hv]; rintro e w3 ⟨rfl, nd, rfl⟩; have hB3 := below_drewN hB2 nd; have hm3 := hm2.drewN nd; have f3 := (hB3.cell (p := ⟨b1, o1, none⟩) hlt1).trans e1) | (go_at_call 31; refine (refindep_any hm3 r2 r2).mono ?_; rintro e w6 ⟨A6, c6, rfl, hi, hb6⟩; have hB6 := below_then2 hB3 hb6))
          all_goals (go_ret; exact ⟨by simp, hB6⟩)
        · have hfull : (indep a).length = n := by omega
          obtain ⟨vv, hinv, hdv, hp1, hp2, _⟩ := inv_full (M := a) (n := n) (fun x hx j hj => indep_full hd.allRows hfull (fun i hi => hx i (by rw [← hd.len]; exact hi)) hj)
          exact law3_full ha hm hs v r1 r2 hlt1 e1 (decide_eq_true (hdv.valid r1 r2 r1 r2)) hinv hfull (decide_eq_true hp2) (decide_eq_true hp1)
      · have hbad : ¬ (Valid a ∧ a.length = (mrow a 0).length) := fun h => hsq (by have := h.2; rw [ha.len, h0] at this; exact this)
        have hsq1 : ¬ ((n : Int) = (L 0 : Int)) := by omega
        clear hm hd h0 hsq
        go_enter Try.func3, Try.ntmps3
        go_wp2_with (first | (go_at_call 27; refine (awake_any _).mono ?_; rintro e w1 ⟨rfl, hb1⟩; have ha1 := ha.belowR hb1) | (go_at_call 28; refine (small_any ha1).mono ?_; rw [hs]; rintro e w2 ⟨rfl, rfl⟩) | (go_at_call 29; refine (inverse_bad ha1 hbad).mono ?_; rintro e w2 ⟨rfl, rfl⟩) | (go_at_call 30; refine (refvalid_any ha1).mono ?_; rw [hv]; rintro e w3 ⟨rfl, nd, rfl⟩; have hB3 := below_drewN hb1 nd; have f3 := (hB3.cell (p := ⟨b1, o1, none⟩) hlt1).trans e1))
        all_goals (go_ret; exact ⟨by simp, hB3⟩)
    · have hv : valid a = false := by simpa [valid] using v
      go_enter Try.func3, Try.ntmps3
      go_wp2_with (first | (go_at_call 27; refine (awake_any _).mono ?_; rintro e w1 ⟨rfl, hb1⟩; have ha1 := ha.belowR hb1) | (go_at_call 28; refine (small_any ha1).mono ?_; rw [hs]; rintro e w2 ⟨rfl, rfl⟩) | (go_at_call 29; refine (inverse_bad ha1 (fun h => v h.1)).mono ?_; rintro e w2 ⟨rfl, rfl⟩) | (go_at_call 30; refine (refvalid_any ha1).mono ?_; rw [hv]; rintro e w3 ⟨rfl, nd, rfl⟩; have hB3 := below_drewN hb1 nd))
      all_goals (go_ret; exact ⟨by simp, hB3⟩)
set_option maxRecDepth 100000 in
set_option maxHeartbeats 2000000 in
theorem law4_full {b1 o1 : Nat} (ha : Rag p w (some ⟨b1, o1, none⟩) n c R L C a) (hm : Mat p w (some ⟨b1, o1, none⟩) n c R m C a) (hs : small a = true) (v : Valid a) (r1 : 1 ≤ n) (r2 : n ≤ 64) (r3 : 1 ≤ m) (r4 : m ≤ 64) (hlt1 : b1 < w.heap.size)
    (e1 : w.cell? ⟨b1, o1, none⟩ = some (.slice (R 0) m (C 0))) {vv : List (List F)} (vvv : valid vv = true) (hinv : Hid (invM (rowsM a (indep a)) m = some vv)) (hfull : Hid ((indep a).length = m)) (hd1 : Hid (decide (mulM m m m vv (rowsM a (indep a)) = idm m) = true))
    (hr : Hid (∀ j, j < m → 0 ≤ nti (indep a) j ∧ nti (indep a) j < n)) :
    Calls Try.prog 4 #[.slice (some ⟨b1, o1, none⟩) n c] w fun e w' => e = .returned (.bool true) ∧ Below w.heap.size w w' := by
  have hv : valid a = true := decide_eq_true v
  go_enter Try.func4, Try.ntmps4
  go_wp2_with (first | (go_at_call 27; refine (awake_any _).mono ?_; rintro e w1 ⟨rfl, hb1⟩; have ha1 := ha.belowR hb1; have hm1 := hm.belowR hb1) | (go_at_call 28; refine (small_any ha1).mono ?_; rw [hs]; rintro e w2 ⟨rfl, rfl⟩) | (go_at_call 35; refine (leftinv_ok hm1 v hfull.out).mono ?_; rintro e w2 ⟨hb2, _, h2⟩; obtain ⟨g, R2, C2, A2, c2, rfl, hv2, hi2⟩ := h2 vv hinv.out; have ha2 := ha1.belowR hb2; have hm2 := hm1.belowR hb2; have hB2 := below_then2 hb1 hb2) | (go_at_call 30; refine (refvalid_any hv7.rag).mono ?_; rw [vvv]; rintro e w3 ⟨rfl, nd3, rfl⟩; have hB8 := below_drewN hB6 (nd2 + nd3); have hm8 := hm6.drewN (nd2 + nd3); have hv8 := hv6.drewN (nd2 + nd3); have hi8 := hi6.drewN (nd2 + nd3); have f8 := hv8.head0 (by omega)) | (go_at_call 30; refine (refvalid_any ha2).mono ?_; rw [hv]; rintro e w3 ⟨rfl, nd, rfl⟩; have hB3 := below_drewN hB2 nd; have hm3 := hm2.drewN nd; have hv3 := hv2.drewN nd; have hi3 := hi2.drewN nd) | (go_at_call 31; refine (refindep_any hm3 r2 r4).mono ?_; rw [hfull.out]; rintro e w6 ⟨A6, c6, rfl, hi6, hb6⟩; have hB6 := below_then2 hB3 hb6; have hm6 := hm3.belowR hb6; have hv6 := hv3.belowR hb6; have hj6 := hi3.below hb6; have f6 := (hB6.cell (p := ⟨b1, o1, none⟩) hlt1).trans e1) | (go_at_call 36; refine (sameints_any hj6 hi6).mono ?_; rw [show decide (indep a = indep a) = true from decide_eq_true rfl]; rintro e w7 ⟨rfl, nd2, rfl⟩; have hv7 := hv6.drewN nd2) | (go_at_call 37; refine (rows_any hm8 hi8 (by omega) (by omega) hr.out).mono ?_; rintro e w8 ⟨A9, c9, R9, C9, rfl, hp9, hb9⟩; have hB9 := below_then2 hB8 hb9; have hv9 := hv8.belowR hb9) | (go_at_call 33; refine (refmulmat_any hv9 hp9 (by omega) (by omega) (by omega)).mono ?_; rintro e w10 ⟨A10, c10, R10, C10, rfl, hp10, hb10⟩; have hB10 := below_then2 hB9 hb10) | (go_at_call 34; refine (refid_any m (by omega) _).mono ?_; rintro e w11 ⟨A11, c11, R11, C11, rfl, hi11, hb11⟩; have hB11 := below_then2 hB10 hb11; have hp11 := hp10.belowR hb11) | (go_at_call 32; refine (same_any hp11.rag hi11.rag).mono ?_; rw [hd1.out]; rintro e w10 ⟨rfl, nd5, rfl⟩; have hB12 := below_drewN hB11 nd5))
  go_ret
  exact ⟨by simp, hB12⟩
theorem rows_dim {k : Nat} (hd : Dim n k a) (hfull : (indep a).length = k) (hr : ∀ j, j < k → 0 ≤ nti (indep a) j ∧ nti (indep a) j < n) : Dim k k (rowsM a (indep a)) :=
  ⟨by simp [rowsM, hfull], fun j hj => by
    rw [mrow_rowsM a (by rw [hfull]; exact hj)]
    obtain ⟨h1, h2⟩ := hr j hj
    exact hd.row _ (by omega)⟩
theorem indep_ranged (hl : a.length = n) (j : Nat) (hj : j < (indep a).length) : 0 ≤ nti (indep a) j ∧ nti (indep a) j < n := by
  have h2 := indI_range a a.length j hj
  have e : ((a.length : Nat) : Int) = n := by rw [hl]
  exact ⟨h2.1, by rw [← e]; exact h2.2⟩
theorem rows_ker {k : Nat} (hd : Dim n k a) (hfull : (indep a).length = k) (y : Nat → F) (hy : ∀ i, i < k → dot k (mrow (rowsM a (indep a)) i) y = 0) (j : Nat) (hj : j < k) : y j = 0 :=
  indep_rows hd.allRows hfull (fun z hz => by
    obtain ⟨t, ht, e⟩ := List.mem_iff_getElem.1 hz
    have := hy t (by omega)
    rw [mrow_rowsM a ht, nti_of_lt ht, e] at this
    exact this) hj
set_option maxRecDepth 100000 in
set_option maxHeartbeats 2000000 in
theorem law4 (ha : Rag p w A n c R L C a) : Calls Try.prog 4 #[.slice A n c] w fun e w' => e = .returned (.bool true) ∧ Below w.heap.size w w' := by
  cases hs : small a with
  | false =>
    go_enter Try.func4, Try.ntmps4
    go_wp2_with (first | (go_at_call 27; refine (awake_any _).mono ?_; rintro e w1 ⟨rfl, hb1⟩; have ha1 := ha.belowR hb1) | (go_at_call 28; refine (small_any ha1).mono ?_; rw [hs]; rintro e w2 ⟨rfl, rfl⟩))
    go_ret
    exact ⟨rfl, hb1⟩
  | true =>
    by_cases v : Valid a
    · have hv : valid a = true := decide_eq_true v
      obtain ⟨hm, r1, r2, r3, r4, hd, h0⟩ := ha.valid_mat v
      obtain ⟨b1, o1, rfl, _, hlt1, hc1⟩ := ha.row.at_ (by omega)
      have e1 : w.cell? ⟨b1, o1, none⟩ = some (.slice (R 0) (L 0) (C 0)) := hc1 0 (by omega)
      clear hc1
      have hle := indep_le hd.allRows
      by_cases hshort : (indep a).length < L 0
      · have hle' := Lib.hid hle
        clear hle h0 hd
        generalize L 0 = k at *
        go_enter Try.func4, Try.ntmps4
        go_wp2_with (first | (go_at_call 27; refine (awake_any _).mono ?_; rintro e w1 ⟨rfl, hb1⟩; have ha1 := ha.belowR hb1; have hm1 := hm.belowR hb1) | (go_at_call 28; refine (small_any ha1).mono ?_; rw [hs]; rintro e w2 ⟨rfl, rfl⟩) | (go_at_call 35; refine (leftinv_short hm1 v hshort).mono ?_; rintro e w2 ⟨rfl, hb2⟩; have ha2 := ha1.belowR hb2; have hm2 := hm1.belowR hb2; have hB2 := below_then2 hb1 hb2) | (go_at_call 30; refine (refvalid_any ha2).mono ?_; rw [hv]; rintro e w3 ⟨rfl, nd, rfl⟩; have hB3 := below_drewN hB2 nd; have hm3 := hm2.drewN nd) | (go_at_call 31; refine (refindep_any hm3 r2 r4).mono ?_; rintro e w6 ⟨A6, c6, rfl, hi, hb6⟩; have hB6 := below_then2 hB3 hb6; have f6 := (hB6.cell (p := ⟨b1, o1, none⟩) hlt1).trans e1))
        all_goals (go_ret; exact ⟨by simp, hB6⟩)
      · have hfull : (indep a).length = L 0 := by omega
        have hr : ∀ j, j < L 0 → 0 ≤ nti (indep a) j ∧ nti (indep a) j < n := fun j hj => indep_ranged ha.len j (by omega)
        obtain ⟨vv, hinv, hdv, hp1, hp2, _⟩ := inv_full (M := rowsM a (indep a)) (n := L 0) (fun x hx j hj => rows_ker hd hfull x hx j hj)
        exact law4_full ha hm hs v r1 r2 r3 r4 hlt1 e1 (decide_eq_true (hdv.valid r3 r4 r3 r4)) hinv hfull (decide_eq_true hp1) hr
    · have hv : valid a = false := by simpa [valid] using v
      go_enter Try.func4, Try.ntmps4
      go_wp2_with (first | (go_at_call 27; refine (awake_any _).mono ?_; rintro e w1 ⟨rfl, hb1⟩; have ha1 := ha.belowR hb1) | (go_at_call 28; refine (small_any ha1).mono ?_; rw [hs]; rintro e w2 ⟨rfl, rfl⟩) | (go_at_call 35; refine (leftinv_bad ha1 v).mono ?_; rintro e w2 ⟨rfl, rfl⟩) | (go_at_call 30; refine (refvalid_any ha1).mono ?_; rw [hv]; rintro e w3 ⟨rfl, nd, rfl⟩; have hB3 := below_drewN hb1 nd))
      all_goals (go_ret; exact ⟨by simp, hB3⟩)
end
end Go.Proofs.Ytifhjigkljdkmaa
