/- Contracts of the functions on matrices (fifth part): tegularef02.reduced, Independent. -/
import Derived.Test.YtifhjigkljdkmaaM4
import Derived.Test.YtifhjigkljdkmaaLa
namespace Go.Proofs.Ytifhjigkljdkmaa
open Go.RowKit
open Gf (F)
set_option linter.unusedSimpArgs false
set_option linter.unusedVariables false
theorem redR_succ {B : List (List F)} {x : List F} {n : Nat} (h : n < B.length) : redR (B.take (n + 1)) x = fuse (redR (B.take n) x) (mrow B n) (nth (redR (B.take n) x) (leadN (mrow B n))) := by
  unfold redR
  rw [List.take_succ_eq_append_getElem h, List.foldl_append, ← mrow_of_lt h]
  rfl
theorem lead_leadN {l : List F} (h : leadN l < l.length) : lead l = (leadN l : Int) := by unfold lead; rw [if_pos h]
section
variable {p q : Nat → Prop} {w : World} {A B : Option Addr} {n c k d m : Nat} {R S : Nat → Option Addr} {L K C D : Nat → Nat} {x : List F} {b : List (List F)}
set_option maxRecDepth 100000 in
set_option maxHeartbeats 1000000 in
theorem reduced_any (hx : Byt p w A m c x) (hb : Mat q w B k d S m D b) (hr : Red m b) (hm : m ≤ 4096) (hk : k ≤ 4096) : Calls Try.prog 93 #[.slice A m c, .slice B k d] w fun e w' =>
    ∃ A' c', e = .returned (.slice A' m c') ∧ Byt (fun b => w.heap.size ≤ b) w' A' m c' (redR b x) ∧ Below w.heap.size w w' := by
  go_enter Try.func93, Try.ntmps93
  go_wp2_with (at_builtin; refine wpl_append_row rfl rfl Try.underlying28 info5 rfl rfl (own_new 5 (Nat.le_refl _)) rfl (hx.row.keep (Keeps.alloc _ _)) (fun _ _ => rfl) (by unfold maxLen; omega) (by omega) (by simp) ?_; intro v1 w1 hown1 hgr1 _; simp only [Nat.zero_add, List.nil_append, map_bytes hx.len] at hown1; obtain ⟨A2, c2, rfl, hby⟩ := own_bytes hown1; have hb1 := below_own_new hgr1)
  go_loopw [5, 6] (fun v i wr => ∃ (n : Nat) (A' : Option Addr) (c' : Nat), n ≤ k ∧ i = .int .i64 n ∧ v = .slice A' m c' ∧ Byt (fun b => w.heap.size ≤ b) wr A' m c' (redR (b.take n) x) ∧ Below w.heap.size w wr) (fun _ i _ => k - (intOf i).toNat)
  case atStart => exact ⟨0, A2, c2, by omega, rfl, rfl, hby.mono fun _ _ h => h.1, hb1⟩
  case round =>
    obtain ⟨n, A', c', hn, rfl, rfl, hcur, hbw⟩ := hrel
    by_cases hlt : n < k
    · obtain ⟨b2, o2, rfl, _, hlt2, hc2⟩ := hb.row.at_ (by omega)
      have f1 : wr.cell? ⟨b2, o2 + n, none⟩ = some (.slice (S n) m (D n)) := (hbw.cell (by exact hlt2)).trans (hc2 n hlt)
      clear hc2
      have hnb : n < b.length := by rw [hb.len]; exact hlt
      have hl := hr.lead n hnb
      have hrow := (hb.rows n hlt).below hbw
      have hll := lead_leadN (l := mrow b n) (by rw [hrow.len]; exact hl)
      obtain ⟨t, ht⟩ : ∃ t, t = leadN (mrow b n) := ⟨_, rfl⟩
      rw [← ht] at hl hll
      obtain ⟨b3, o3, rfl, _, hlt3, hc3⟩ := hcur.at_ (by omega)
      have f2 := hc3 t hl
      clear hc3
      have hstep := redR_succ (x := x) hnb
      rw [← ht] at hstep
      replace hstep := Lib.hid hstep
      replace ht := Lib.hid ht
      have hsz := hbw.size
      have c1 : (0 : Int) ≤ (n : Int) := Int.natCast_nonneg _
      have c2' : (n : Int) < (k : Int) := by omega
      have c3 : (0 : Int) ≤ (t : Int) := Int.natCast_nonneg _
      have c4 : (t : Int) < (m : Int) := by omega
      have hb2' : b2 < wr.heap.size := by omega
      go_wp2
      go_region_held3 (fun w' => w'.cell? ⟨b2, o2 + n, none⟩ = some (.slice (S n) m (D n)) ∧ w'.cell? ⟨b3, o3 + t, none⟩ = some (.int .u8 ((nth (redR (b.take n) x) t).toNat : Int)))
        (first | exact ⟨(hb4.cell (by exact hb2')).trans f1, (hb4.cell (by exact hlt3)).trans f2⟩ | go_keep)
        (first | (go_at_call 94; refine (reflead_any hrow.drew).mono ?_; rintro e w4 ⟨rfl, rfl⟩; rw [hll]) | (go_at_call 96; refine (reffused_any _ _ hcur.drew hrow.drew (by omega)).mono ?_; rintro e w4 ⟨A4, c4', rfl, hby4, hb4⟩))
      go_wp2
      go_roundw
      case rel => exact ⟨n + 1, A4, c4', by omega, by go_num, rfl, by rw [hstep.out]; exact hby4.mono (fun _ _ h => Nat.le_trans hsz h), below_then hbw.drew hsz hb4⟩
      case measure => simp [intOf]; omega
    · obtain rfl : n = k := by omega
      rw [List.take_of_length_le (by rw [hb.len]; exact Nat.le_refl _)] at hcur
      go_wp2
      go_ret
      exact ⟨A', c', rfl, hcur, hbw⟩
end

/-! ### tegularef02.Independent -/
/-- The inner loop: the first t rows of B are done. -/
def elimP (B : List (List F)) (y : List F) (kk t j : Nat) : List F := if j < t then fuse (mrow B j) y (nth (mrow B j) kk) else mrow B j
theorem elimP_step (B : List (List F)) (y : List F) (kk t j : Nat) : (if j = t then fuse (elimP B y kk t t) y (nth (elimP B y kk t t) kk) else elimP B y kk t j) = elimP B y kk (t + 1) j := by
  unfold elimP
  by_cases e : j = t
  · subst e; simp
  · rw [if_neg e]
    by_cases h : j < t
    · rw [if_pos h, if_pos (by omega)]
    · rw [if_neg h, if_neg (by omega)]
theorem ints_step (l : List Int) (x : Int) : ((l ++ [x]).map fun n => Value.int .i64 n) = (l.map fun n => Value.int .i64 n) ++ [.int .i64 x] := by simp
theorem own_ints {w : World} {N : Nat} {v : Value} {n : Nat} {l : List Int} (h : w.ownsRow N 3 1 v n (l.map fun n => Value.int .i64 n)) : ∃ A c, v = .slice A n c ∧ Ints (fun b => N ≤ b ∧ some b = v.ownBlock) w A n c l := by
  obtain ⟨A, c, e, hr⟩ := own_slice h
  have hl : l.length = n := by simpa using h.1
  exact ⟨A, c, e, hl, hr.congr fun j hj => by rw [nti_of_lt (by omega), List.getD_eq_getElem?_getD]; simp [hl, hj]⟩
theorem indI_step {M B : List (List F)} {i : Nat} (h : addB (indI M i).1 (mrow M i) = some B) : indI M (i + 1) = (B, (indI M i).2 ++ [(i : Int)]) := by
  conv => lhs; unfold indI
  rw [h]
theorem indI_skip {M : List (List F)} {i : Nat} (h : addB (indI M i).1 (mrow M i) = none) : indI M (i + 1) = indI M i := by
  conv => lhs; unfold indI
  rw [h]
theorem own_below {w w' : World} {b e : Nat} {v : Value} {n : Nat} {xs : List Value} (h : w.ownsRow b e 1 v n xs) (k : Below w.heap.size w w') : w'.ownsRow b e 1 v n xs :=
  h.kept (row := none) ⟨k.os, k.tape, k.output, k.size, fun x hx _ => k.block x hx⟩ (by cases hv : v.ownBlock <;> simp)
theorem own_head {w : World} {b e : Nat} {A : Option Addr} {n c : Nat} {xs : List Value} (h : w.ownsRow b e 1 (.slice A n c) n xs) (hn : 0 < n) : ∃ g, A = some ⟨g, 0, none⟩ ∧ b ≤ g ∧ g < w.heap.size := by
  have h2 := h.2
  rcases h2 with ⟨e, rfl⟩ | ⟨g, cap, cur, e, hg, hh, _⟩
  · omega
  · injection e with e1 _ _
    subst e1
    exact ⟨g, rfl, hg, (h.lt g rfl).2⟩
theorem own_cell {w : World} {b e g c : Nat} {n : Nat} {f : Nat → Value} (h : w.ownsRow b e 1 (.slice (some ⟨g, 0, none⟩) n c) n ((List.range n).map f)) {j : Nat} (hj : j < n) : w.cell? ⟨g, j, none⟩ = some (f j) := by
  rw [h.cellAt j (by omega)]
  simp [hj]
theorem OwnA.drew {w : World} {N : Nat} {q : Nat → Prop} {v : Value} {k : Nat} {R : Nat → Option Addr} {L C : Nat → Nat} {f : Nat → List F} (h : OwnA w N q v k R L C f) : OwnA w.drew N q v k R L C f := ⟨h.own.drew, fun i hi => (h.row i hi).drew⟩
/-- A store into another slice of the call's own. -/
theorem own_other_cell {w : World} {b e : Nat} {v : Value} {n : Nat} {xs : List Value} {g : Nat} (h : w.ownsRow b e 1 v n xs) (hne : v.ownBlock = none ∨ v.ownBlock ≠ some g) (j : Nat) (u : Value) : (w.setCell ⟨g, j, none⟩ u).ownsRow b e 1 v n xs :=
  h.kept (row := some g) ⟨rfl, rfl, rfl, by simp, fun k hk hne' => Below.heap_setCell w _ u k (fun e => hne' (by rw [e]))⟩ hne
theorem elimP_len {B : List (List F)} {c : Nat} (hB : Red c B) {y : List F} (hy : y.length = c) {kk t j : Nat} (hj : j < B.length) : (elimP B y kk t j).length = c := by
  unfold elimP
  split
  · exact fuse_length _ (hB.len j hj) hy
  · exact hB.len j hj
theorem elimP_end {B : List (List F)} {y : List F} {kk j : Nat} (hj : j < B.length + 1) : (if j = B.length then y else elimP B y kk B.length j) = mrow (elimB B y kk ++ [y]) j := by
  by_cases e : j = B.length
  · subst e
    have := mrow_append_right (elimB B y kk) y
    rw [elimB_length] at this
    rw [if_pos rfl, this]
  · have hlt : j < B.length := by omega
    rw [if_neg e, mrow_append_left (by rw [elimB_length]; exact hlt), mrow_elimB _ _ hlt]
    unfold elimP
    rw [if_pos hlt]
section
variable {p q : Nat → Prop} {w : World} {A B : Option Addr} {n c k d m : Nat} {R S : Nat → Option Addr} {L K C D : Nat → Nat} {x : List F} {a b : List (List F)}
set_option maxRecDepth 100000 in
set_option maxHeartbeats 4000000 in
theorem refindep_any (ha : Mat p w A n c R m C a) (hn : n ≤ 64) (hm : m ≤ 64) : Calls Try.prog 31 #[.slice A n c] w fun e w' =>
    ∃ A' c', e = .returned (.slice A' (indep a).length c') ∧ Ints (fun _ => True) w' A' (indep a).length c' (indep a) ∧ Below w.heap.size w w' := by
  have hlen := ha.len
  have hrl : ∀ i, i < a.length → (mrow a i).length = m := fun i hi => (ha.rows i (by rw [← hlen]; exact hi)).len
  replace hlen := Lib.hid hlen
  replace hrl := Lib.hid hrl
  go_enter Try.func31, Try.ntmps31
  go_wp2
  go_loopw [3, 4, 5] (fun v3 v4 x wr => ∃ (i : Nat) (R' : Nat → Option Addr) (L' C' : Nat → Nat), i ≤ n ∧ x = .int .i64 i ∧ wr.ownsRow w.heap.size 3 1 v3 (indI a i).2.length ((indI a i).2.map fun n => Value.int .i64 n) ∧
      OwnA wr w.heap.size (fun b => some b ≠ v3.ownBlock) v4 (indI a i).1.length R' L' C' (mrow (indI a i).1) ∧ Below w.heap.size w wr) (fun _ _ x _ => n - (intOf x).toNat)
  case atStart => exact ⟨0, _, _, _, by omega, rfl, World.ownsRow_nil _ _ _ _, (OwnA.start _ _ _).congr fun i hi => absurd hi (Nat.not_lt_zero _), Below.refl _ _⟩
  case round =>
    obtain ⟨i, R', L', C', hi, rfl, ho3, ho4, hbw⟩ := hrel
    by_cases hlt : i < n
    · obtain ⟨hred, hl2, hle⟩ := indI_red hrl.out i (by rw [hlen.out]; omega)
      have hl3 : (indI a i).2.length ≤ i := by omega
      obtain ⟨b1, o1, rfl, _, hlt1, hc1⟩ := ha.row.at_ (by omega)
      have f1 : wr.cell? ⟨b1, o1 + i, none⟩ = some (.slice (R i) m (C i)) := (hbw.cell (by exact hlt1)).trans (hc1 i hlt)
      clear hc1
      have ra := (ha.rows i hlt).below hbw
      have hadd : addB (indI a i).1 (mrow a i) = if leadN (redR (indI a i).1 (mrow a i)) < (redR (indI a i).1 (mrow a i)).length then some (elimB (indI a i).1 (norm (redR (indI a i).1 (mrow a i))) (leadN (redR (indI a i).1 (mrow a i))) ++ [norm (redR (indI a i).1 (mrow a i))]) else none := rfl
      obtain ⟨hzl, hz2, _⟩ := redR_all hred ra.len
      have hz2' := Lib.hid hz2
      clear hz2
      have hstep := @indI_step a
      have hskip := @indI_skip a i
      obtain ⟨z, hz⟩ : ∃ z, z = redR (indI a i).1 (mrow a i) := ⟨_, rfl⟩
      rw [← hz] at hadd hzl hz2'
      replace hz := Lib.hid hz
      obtain ⟨A4, c4, rfl, hrag⟩ := ho4.rag rfl (fun _ _ => rfl)
      have hmat := hrag.mat hred.len
      have hsz := hbw.size
      by_cases hl : leadN z < z.length
      case neg =>
        have hlz : lead z = -1 := by unfold lead; rw [if_neg hl]
        rw [if_neg hl] at hadd
        have hfin := Lib.hid (hskip hadd)
        replace hlz := Lib.hid hlz
        clear hadd hstep hskip hl hl2 hz2'
        replace hzl := Lib.hid hzl
        go_wp2_with (first | (go_at_call 93; refine (reduced_any ra hmat hred (by omega) (by omega)).mono ?_; rintro e w1 ⟨A5, c5, rfl, hzb, hb1⟩; rw [← hz.out] at hzb) | (go_at_call 94; refine (reflead_any hzb).mono ?_; rintro e w4 ⟨rfl, rfl⟩; rw [hlz.out]))
        go_roundw
        case rel => exact ⟨i + 1, R', L', C', by omega, by go_num, by rw [hfin.out]; exact own_below ho3 hb1, by rw [hfin.out]; exact ho4.below hb1, below_then hbw hsz hb1⟩
        case measure => simp [intOf]; omega
      case pos =>
        have hlz := lead_leadN hl
        rw [if_pos hl] at hadd
        have hfin := Lib.hid (hstep hadd)
        obtain ⟨hnz, _⟩ := leadN_lt hl
        have hnorm : norm z = fuse (zeroL z.length) z (Gf.inv (nth z (leadN z))) := rfl
        rw [hzl] at hnorm hl
        obtain ⟨t, ht⟩ : ∃ t, t = leadN z := ⟨_, rfl⟩
        rw [← ht] at hnz hnorm hlz hl
        replace hlz := Lib.hid hlz
        replace hnorm := Lib.hid hnorm
        replace hnz := Lib.hid hnz
        replace ht := Lib.hid ht
        have hzl' := Lib.hid hzl
        clear hadd hstep hskip hl2 hzl
        have c3 : (0 : Int) ≤ (t : Int) := Int.natCast_nonneg _
        have c4' : (t : Int) < (m : Int) := by omega
        go_wp2_with (first | (go_at_call 93; refine (reduced_any ra hmat hred (by omega) (by omega)).mono ?_; rintro e w1 ⟨A5, c5, rfl, hzb, hb1⟩; rw [← hz.out] at hzb; obtain ⟨b5, o5, rfl, _, hlt5, hc5⟩ := hzb.at_ (by omega); have f5 := hc5 t hl; replace hc5 := Lib.hid hc5) | (go_at_call 94; refine (reflead_any hzb).mono ?_; rintro e w4 ⟨rfl, rfl⟩; rw [hlz.out]) | (go_at_call 95; refine (refinv_any _ hnz.out _).mono ?_; rintro e w4 ⟨rfl, rfl⟩) | (at_make; refine wpl_make rfl rfl Try.underlying28 info5 rfl rfl rfl (by omega) (by omega) ?_; intro w2 g2 hrow2 hb2 hg2; have hzero : Byt (fun _ => True) w2 (some ⟨g2, 0, none⟩) m m (zeroL m) := Byt.of_rowIs (hrow2.congr fun j _ => by rw [nth_zeroL]; rfl) (zeroL_length m) trivial (max_of (by omega))) | (go_at_call 96; refine (reffused_any _ _ hzero (hzb.below hb2) (by omega)).mono ?_; rintro e w3 ⟨A6, c6, rfl, hy, hb3⟩; rw [← hnorm.out] at hy))
        have hsz1 := hb1.size
        have hsz2 := hb2.size
        have hb13 := below_then2 (below_then2 hb1 hb2) hb3
        have ho3' := own_below ho3 hb13
        have ho4' := ho4.below hb13
        have hbw3 := below_then hbw hsz hb13
        have hsz13 := hb13.size
        have hy' : Byt (fun b => wr.heap.size ≤ b) w3 A6 m c6 (norm z) := hy.mono fun b _ h => by omega
        clear hzero hrow2 hb2 hy hrag hmat
        obtain ⟨wo, rfl⟩ : ∃ wo : World, wo = wr := ⟨_, rfl⟩
        go_loopw [10] (fun x ws => ∃ (t' : Nat) (R' : Nat → Option Addr) (L' C' : Nat → Nat), t' ≤ (indI a i).1.length ∧ x = .int .i64 t' ∧ ws.ownsRow w.heap.size 3 1 u3 (indI a i).2.length ((indI a i).2.map fun n => Value.int .i64 n) ∧
          OwnA ws w.heap.size (fun b => some b ≠ u3.ownBlock) (.slice A4 (indI a i).1.length c4) (indI a i).1.length R' L' C' (elimP (indI a i).1 (norm z) t t') ∧ Below w.heap.size w ws ∧
          Byt (fun b => wo.heap.size ≤ b) ws A6 m c6 (norm z) ∧ wo.heap.size ≤ ws.heap.size) (fun x _ => (indI a i).1.length - (intOf x).toNat)
        case atStart => exact ⟨0, _, _, _, by omega, rfl, ho3', ho4'.congr fun j _ => by unfold elimP; rw [if_neg (Nat.not_lt_zero _)], hbw3, hy', hsz13⟩
        case round =>
          obtain ⟨t', R', L', C', ht', rfl, hi3, hi4, hbs, hys, hszs⟩ := hrel
          by_cases hltt : t' < (indI a i).1.length
          · obtain ⟨g4, rfl, hg4, hg4l⟩ := own_head hi4.own (by omega)
            have hg4o : g4 < wo.heap.size := (ho4.own.lt g4 rfl).2
            have q1 := hi4.row t' hltt
            have hLm : L' t' = m := by rw [← q1.len]; exact elimP_len hred (by rw [norm_length]; exact hzl'.out) hltt
            rw [hLm] at q1
            have f4 : wr.cell? ⟨g4, t', none⟩ = some (.slice (R' t') (L' t') (C' t')) := own_cell hi4.own hltt
            rw [hLm] at f4
            have f4' := hi4.own.frozenAt t'
            obtain ⟨b7, o7, e7, _, hlt7, hc7⟩ := q1.at_ (by omega)
            rw [e7] at f4 q1
            have f7 := hc7 t hl
            replace hc7 := Lib.hid hc7
            replace e7 := Lib.hid e7
            replace hLm := Lib.hid hLm
            have d1 : (0 : Int) ≤ (t' : Int) := Int.natCast_nonneg _
            have d2 : (t' : Int) < ((indI a i).1.length : Int) := by omega
            go_wp2
            go_region_law (first | (go_simp; go_at_call 96; refine (reffused_any _ _ q1.drew hys.drew (by omega)).mono ?_; rintro e w7 ⟨A8, c8, rfl, hy8, hb8⟩; have hi8 := OwnA.below (OwnA.drew hi4) hb8; have f8 := (hb8.cell (p := ⟨g4, t', none⟩) (by exact hg4l)).trans f4; have f9 := hi8.own.frozenAt t'))
            all_goals
              go_wp2
              go_roundw
              case rel =>
                refine ⟨t' + 1, _, _, _, by omega, by go_num, own_other_cell (own_below (World.ownsRow.drew hi3) hb8) (own_types hi3 hi4.own (by omega)) t' _, (hi8.store (hy8.mono fun b _ hb => ⟨own_new_ne hi3 hb, own_new_ne hi4.own hb⟩) t').congr fun j _ => elimP_step .., (below_then hbs.drew hbs.size hb8).setCell hg4 _, (hys.drew.below hb8).keep (Keeps.setCell (by simp only; omega) _), ?_⟩
                have := hb8.size
                simp at this ⊢
                omega
              case measure => simp [intOf]; omega
          · obtain rfl : t' = (indI a i).1.length := by omega
            have hszb := hbs.size
            go_wp2_with (first | (at_builtin; (refine wpl_append1 rfl (s := .tmp 63) (x := .tmp 65) rfl Try.underlying22 info28 rfl rfl hi4.own rfl rfl (by unfold maxLen; omega) (by omega) (by omega) ?_); (intro v9 w9 hown9 hgr9 hne9; have hi3' := hi3.kept hgr9 (own_types hi3 hi4.own (by omega)); have hszx := hgr9.size)) | (at_builtin; refine wpl_append1 rfl (s := .tmp 67) (x := .tmp 69) rfl Try.underlying29 info3 rfl rfl hi3' rfl rfl (by unfold maxLen; omega) (by omega) (by omega) ?_; intro v10 w10 hown10 hgr10 hne10))
            go_roundw
            case rel =>
              have h4 := hi4.push (hys.mono fun b _ hb => ⟨own_new_ne ho3 hb, own_new_ne ho4.own hb⟩) hown9 hgr9 hne9
              have e4 : elimB (indI a i).1 (norm z) (leadN z) ++ [norm z] = (indI a (i + 1)).1 := by rw [hfin.out]
              have e3 : (indI a i).2 ++ [(i : Int)] = (indI a (i + 1)).2 := by rw [hfin.out]
              have l4 : (indI a (i + 1)).1.length = (indI a i).1.length + 1 := by rw [← e4]; simp [elimB_length]
              have l3 : (indI a (i + 1)).2.length = (indI a i).2.length + 1 := by rw [← e3]; simp
              have h5 := h4.mono (q' := fun b => some b ≠ u3.ownBlock ∧ some b ≠ v10.ownBlock) (fun b hb hp => ⟨hp, hne10 b hb hp⟩)
              have h6 := (h5.other hgr10 (fun _ h => h.1) (own_types h4.own hi3' (by omega))).mono (q' := fun b => some b ≠ v10.ownBlock) (fun b _ hp => hp.2)
              have h7 := h6.congr (g := mrow (indI a (i + 1)).1) fun j hj => by rw [← e4, ht.out]; exact elimP_end hj
              rw [← l4] at h7
              exact ⟨i + 1, _, _, _, by omega, by go_num, by rw [l3, ← e3, ints_step]; exact hown10, h7, (hbs.grown hgr9 hszb (own_ge hi4.own)).grown hgr10 (by omega) (own_ge hi3')⟩
            case measure => simp [intOf]; omega
    · obtain rfl : i = n := by omega
      have e : indI a i = indI a a.length := by rw [hlen.out]
      have e2 : (indI a i).2 = indep a := by rw [e]; rfl
      rw [e2] at ho3
      obtain ⟨A', c', rfl, hints⟩ := own_ints ho3
      replace e := Lib.hid e
      replace e2 := Lib.hid e2
      go_wp2
      go_ret
      exact ⟨A', c', rfl, hints.mono fun _ _ _ => trivial, hbw⟩
end
end Go.Proofs.Ytifhjigkljdkmaa
