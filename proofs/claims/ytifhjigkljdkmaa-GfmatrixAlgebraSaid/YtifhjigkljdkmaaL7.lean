/- The law function GfmatrixSolves returns true. -/
import Derived.Test.YtifhjigkljdkmaaLy
namespace Go.Proofs.Ytifhjigkljdkmaa
open Go.RowKit
open Gf (F)
set_option linter.unusedSimpArgs false
set_option linter.unusedVariables false
section
variable {p q r : Nat → Prop} {w : World} {A B X : Option Addr} {n c k d l f m : Nat} {R S : Nat → Option Addr} {L K C D : Nat → Nat} {x : List F} {a b : List (List F)}
theorem nth_take {l : List F} {k j : Nat} (h : j < k) : nth (l.take k) j = nth l j := by
  unfold nth
  rw [List.getD_eq_getElem?_getD, List.getD_eq_getElem?_getD, List.getElem?_take_of_lt h]
theorem Byt.pre (h : Byt p w A n c x) {k : Nat} (hk : k ≤ n) : Byt p w A k c (x.take k) :=
  ⟨by have := h.len; simp; omega, ⟨by have := h.row.le; omega, h.row.cap, fun h0 => by
    obtain ⟨b, o, e, hp, hlt, hc⟩ := h.at_ (by omega)
    exact ⟨b, o, e, hp, hlt, fun j hj => by rw [nth_take hj]; exact hc j (by omega)⟩⟩⟩
theorem solve_back {M v : List (List F)} (hl : ∀ y : Nat → F, ∀ i, i < m → sumF m (fun j => Gf.mul (ent v i j) (dot m (mrow M j) y)) = y i) (hx : x.length = m) {Y : List F} (hY : ∀ j, j < m → nth Y j = dot m (mrow M j) (nth x)) : appM m m v Y = x := by
  refine nth_ext (by unfold appM; rw [mkr_length, hx]) fun i hi => ?_
  unfold appM at hi ⊢
  rw [mkr_length] at hi
  rw [nth_mkr _ hi, ← hl (nth x) i hi]
  exact sumF_congr fun j hj => by rw [hY j hj]
/-- What is taken out of the product. -/
def takenY (n m : Nat) (a : List (List F)) (X : List F) : List F := mkr m fun i => nth (appM n m a X) (nti (indep a) i).toNat
theorem taken_back (hd : Dim n m a) (hfull : (indep a).length = m) (hr : ∀ j, j < m → 0 ≤ nti (indep a) j ∧ nti (indep a) j < n) {v : List (List F)} {X : List F} (hX : X.length = m)
    (hl : ∀ y : Nat → F, ∀ i, i < m → sumF m (fun j => Gf.mul (ent v i j) (dot m (mrow (rowsM a (indep a)) j) y)) = y i) : appM m m v (takenY n m a X) = X := by
  refine solve_back hl hX fun j hj => ?_
  unfold takenY
  obtain ⟨h1, h2⟩ := hr j hj
  rw [nth_mkr _ hj, mrow_rowsM a (by rw [hfull]; exact hj)]
  unfold appM
  rw [nth_mkr _ (by omega)]
  rfl
set_option maxRecDepth 100000 in
set_option maxHeartbeats 2000000 in
theorem law7_full {b1 o1 : Nat} {cs : Array Value} (ha : Rag p w (some ⟨b1, o1, none⟩) n c R L C a) (hm : Mat p w (some ⟨b1, o1, none⟩) n c R m C a) (hs : small a = true) (v : Valid a) (r1 : 1 ≤ n) (r2 : n ≤ 64) (r3 : 1 ≤ m) (r4 : m ≤ 8) (hlt1 : b1 < w.heap.size)
    (e1 : w.cell? ⟨b1, o1, none⟩ = some (.slice (R 0) m (C 0))) (hbox : Byt (fun b => w.heap.size ≤ b) (w.alloc (.cells cs 42)) (some ⟨w.heap.size, 0, none⟩) 8 8 x) {vv : List (List F)} (vvv : Valid vv) (hinv : Hid (invM (rowsM a (indep a)) m = some vv)) (hfull : Hid ((indep a).length = m))
    (hr : Hid (∀ j, j < m → 0 ≤ nti (indep a) j ∧ nti (indep a) j < n)) (hback : Hid (appM m m vv (takenY n m a (x.take m)) = x.take m)) :
    Calls Try.prog 7 #[.slice (some ⟨b1, o1, none⟩) n c, .agg cs] w fun e w' => e = .returned (.bool true) ∧ Below w.heap.size w w' := by
  have hv : valid a = true := decide_eq_true v
  have hb0 : Below w.heap.size w (w.alloc (.cells cs 42)) := (Below.refl _ _).alloc (Nat.le_refl _) _
  have r4' : (m : Int) ≤ 8 := by omega
  have r1' : (0 : Int) < (n : Int) := by omega
  have hYl : Hid ((takenY n m a (x.take m)).length = m) := mkr_length _ _
  go_enter Try.func7, Try.ntmps7
  go_wp2_with (first | (go_at_call 27; (with_reducible refine (awake_any _).mono ?_); rintro e w1 ⟨rfl, hb1⟩; have hB1 := below_then2 hb0 hb1; have ha1 := ha.belowR hB1; have hm1 := hm.belowR hB1; have hx1 := hbox.below hb1) | (go_at_call 28; (with_reducible refine (small_any ha1).mono ?_); rw [hs]; rintro e w2 ⟨rfl, rfl⟩) | (go_at_call 30; (with_reducible refine (refvalid_any ha1).mono ?_); rw [hv]; rintro e w2 ⟨rfl, nd, rfl⟩; have hB2 := below_drewN hB1 nd; have hm2 := hm1.drewN nd; have hx2 := hx1.drewN nd) | (go_at_call 35; (with_reducible refine (leftinv_ok hm2 v hfull.out).mono ?_); rintro e w3 ⟨hb3, _, h2⟩; obtain ⟨g, R2, C2, A2, c2, rfl, hv3, hi3⟩ := h2 vv hinv.out; have hB3 := below_then2 hB2 hb3; have hm3 := hm2.belowR hb3; have hx3 := hx2.below hb3; have f3 := (hB3.cell (p := ⟨b1, o1, none⟩) hlt1).trans e1; have hxp := hx3.pre r4; have hs3 := hB3.size; have f3a := (((Below.refl w3.heap.size w3).alloc (Nat.le_refl _) (.cells #[] 5)).cell (p := ⟨b1, o1, none⟩) (by simp only; omega)).trans f3; clear h2) | (at_builtin; refine wpl_append_row rfl (s := .tmp 35) (x := .tmp 40) rfl Try.underlying28 info5 rfl rfl (own_new 5 (Nat.le_refl _)) rfl (hxp.row.keep (Keeps.alloc _ _)) (fun _ _ => rfl) (by unfold maxLen; omega) (by omega) (by simp) ?_; intro v4 w4 hown4 hgr4 _; simp only [Nat.zero_add, List.nil_append, map_bytes hxp.len] at hown4; obtain ⟨A4, c4, rfl, hby4⟩ := (own_bytes hown4); have hb4 := below_own_new hgr4; have hB4 := below_then2 hB3 hb4; have hm4 := hm3.belowR hb4; have hv4 := hv3.belowR hb4; have hi4 := hi3.below hb4) | (go_at_call 42; (with_reducible refine (apply_ok hm4 hby4 v).mono ?_); rintro e w5 ⟨A5, c5, rfl, hy5, hb5⟩; have hB5 := below_then2 hB4 hb5; have hl5 := hby4.below hb5; have hv5 := hv4.belowR hb5; have hi5 := hi4.below hb5))
  have hsz5 := hB5.size
  go_loopw [11, 12] (fun v11 y wr => ∃ i : Nat, i ≤ m ∧ y = .int .i64 i ∧ wr.ownsRow w5.heap.size 5 1 v11 i (((takenY n m a (x.take m)).take i).map vb) ∧ Below w5.heap.size w5 wr) (fun _ y _ => m - (intOf y).toNat)
  case atStart => exact ⟨0, by omega, rfl, World.ownsRow_nil _ _ _ _, Below.refl _ _⟩
  case round =>
    obtain ⟨i, hi, rfl, hown, hbw⟩ := hrel
    have hsz := hbw.size
    by_cases hlt : i < m
    · obtain ⟨b2, o2, rfl, _, hlt2, hc2⟩ := hi5.row.at_ (by omega)
      have f2 : wr.cell? ⟨b2, o2 + i, none⟩ = some (.int .i64 (nti (indep a) i)) := (hbw.cell (by exact hlt2)).trans (hc2 i hlt)
      obtain ⟨hr1, hr2⟩ := hr.out i hlt
      have hy : Hid (nth (takenY n m a (x.take m)) i = nth (appM n m a (x.take m)) (nti (indep a) i).toNat) := nth_mkr _ hlt
      obtain ⟨t, ht⟩ := Int.eq_ofNat_of_zero_le hr1
      rw [ht] at f2 hr1 hr2 hy
      replace ht := Lib.hid ht
      simp only [Int.toNat_natCast] at hy
      have htn : t < n := by omega
      have hr3 : ¬ ((t : Int) < 0) := by omega
      obtain ⟨b3, o3, rfl, _, hlt3, hc3⟩ := hy5.at_ (by omega)
      have f3' : wr.cell? ⟨b3, o3 + t, none⟩ = some (.int .u8 ((nth (appM n m a (x.take m)) t).toNat : Int)) := (hbw.cell (by exact hlt3)).trans (hc3 t htn)
      rw [← hy.out] at f3'
      clear hc2 hc3
      go_wp2_with (at_builtin; refine wpl_append1 rfl (s := .tmp 68) (x := .tmp 76) rfl Try.underlying28 info5 rfl rfl hown rfl rfl (by unfold maxLen; omega) (by omega) (by omega) ?_; intro v2 w2 hown2 hgr2 hne2)
      go_roundw
      case rel => exact ⟨i + 1, by omega, by go_num, by rw [take_snoc_map vb (by rw [hYl.out]; exact hlt)]; exact hown2, hbw.grown hgr2 hsz (own_ge hown)⟩
      case measure => simp [intOf]; omega
    · obtain rfl : i = m := by omega
      obtain ⟨A', c', rfl, hby⟩ := own_bytes_take hown hYl.out
      have hv6 := hv5.belowR hbw
      have hl6 := hl5.below hbw
      have hB6 := below_then2 hB5 hbw
      go_wp2_with (first | (go_at_call 42; (with_reducible refine (apply_ok hv6 hby vvv).mono ?_); rw [hback.out]; rintro e w7 ⟨A7, c7, rfl, hy7, hb7⟩; have hl7 := hl6.below hb7; have hB7 := below_then2 hB6 hb7) | (go_at_call 43; (with_reducible refine (same01_any hy7 hl7).mono ?_); rw [show decide (x.take i = x.take i) = true from decide_eq_true rfl]; rintro e w8 ⟨rfl, rfl⟩))
      go_ret
      exact ⟨by simp, hB7⟩
/-- The cells of an array of 8 bytes. -/
structure Arr8 (cs : Array Value) (x : List F) : Prop where
  size : cs.size = 8
  len : x.length = 8
  cell : ∀ j, j < 8 → cs[j]? = some (.int .u8 ((nth x j).toNat : Int))
theorem Arr8.box {cs : Array Value} (h : Arr8 cs x) (w : World) (t : TypeId) : Byt (fun b => w.heap.size ≤ b) (w.alloc (.cells cs t)) (some ⟨w.heap.size, 0, none⟩) 8 8 x := by
  have hr : (w.alloc (.cells cs t)).rowIs w.heap.size t 8 fun j => .int .u8 ((nth x j).toNat : Int) := by
    rw [← h.size]
    exact World.rowIs_alloc w cs t _ fun i hi => h.cell i (by rw [← h.size]; exact hi)
  exact Byt.of_rowIs hr h.len (Nat.le_refl _) (by unfold maxLen; omega)
set_option maxRecDepth 100000 in
set_option maxHeartbeats 2000000 in
theorem law7 {cs : Array Value} (ha : Rag p w A n c R L C a) (hx : Arr8 cs x) : Calls Try.prog 7 #[.slice A n c, .agg cs] w fun e w' => e = .returned (.bool true) ∧ Below w.heap.size w w' := by
  have hb0 : Below w.heap.size w (w.alloc (.cells cs 42)) := (Below.refl _ _).alloc (Nat.le_refl _) _
  cases hs : small a with
  | false =>
    clear hx
    go_enter Try.func7, Try.ntmps7
    go_wp2_with (first | (go_at_call 27; (with_reducible refine (awake_any _).mono ?_); rintro e w1 ⟨rfl, hb1⟩; have hB1 := below_then2 hb0 hb1; have ha1 := ha.belowR hB1) | (go_at_call 28; (with_reducible refine (small_any ha1).mono ?_); rw [hs]; rintro e w2 ⟨rfl, rfl⟩))
    all_goals (go_ret; exact ⟨by simp, hB1⟩)
  | true =>
    by_cases v : Valid a
    · have hv : valid a = true := decide_eq_true v
      obtain ⟨hm, r1, r2, r3, r4, hd, h0⟩ := ha.valid_mat v
      have hs8 : L 0 ≤ 8 := by
        have h : Small a := of_decide_eq_true hs
        have := h.2 0 (by rw [ha.len]; omega)
        omega
      obtain ⟨b1, o1, rfl, _, hlt1, hc1⟩ := ha.row.at_ (by omega)
      have e1 : w.cell? ⟨b1, o1, none⟩ = some (.slice (R 0) (L 0) (C 0)) := hc1 0 (by omega)
      clear hc1
      have hle := indep_le hd.allRows
      by_cases hshort : (indep a).length < L 0
      · have hle' := Lib.hid hle
        clear hle h0 hd hx
        generalize L 0 = k at *
        go_enter Try.func7, Try.ntmps7
        go_wp2_with (first | (go_at_call 27; (with_reducible refine (awake_any _).mono ?_); rintro e w1 ⟨rfl, hb1⟩; have hB1 := below_then2 hb0 hb1; have ha1 := ha.belowR hB1; have hm1 := hm.belowR hB1) | (go_at_call 28; (with_reducible refine (small_any ha1).mono ?_); rw [hs]; rintro e w2 ⟨rfl, rfl⟩) | (go_at_call 30; (with_reducible refine (refvalid_any ha1).mono ?_); rw [hv]; rintro e w2 ⟨rfl, nd, rfl⟩; have hB2 := below_drewN hB1 nd; have hm2 := hm1.drewN nd) | (go_at_call 35; (with_reducible refine (leftinv_short hm2 v hshort).mono ?_); rintro e w3 ⟨rfl, hb3⟩; have hB3 := below_then2 hB2 hb3))
        all_goals (go_ret; exact ⟨by simp, hB3⟩)
      · have hfull : (indep a).length = L 0 := by omega
        have hr : ∀ j, j < L 0 → 0 ≤ nti (indep a) j ∧ nti (indep a) j < n := fun j hj => indep_ranged ha.len j (by omega)
        obtain ⟨vv, hinv, hdv, _, _, hl⟩ := inv_full (M := rowsM a (indep a)) (n := L 0) (fun x hx j hj => rows_ker hd hfull x hx j hj)
        have hxl : (x.take (L 0)).length = L 0 := by have := hx.len; simp; omega
        exact law7_full ha hm hs v r1 r2 r3 hs8 hlt1 e1 (hx.box w 42) (hdv.valid r3 r4 r3 r4) hinv hfull hr (taken_back hd hfull hr hxl hl)
    · have hv : valid a = false := by simpa [valid] using v
      clear hx
      go_enter Try.func7, Try.ntmps7
      go_wp2_with (first | (go_at_call 27; (with_reducible refine (awake_any _).mono ?_); rintro e w1 ⟨rfl, hb1⟩; have hB1 := below_then2 hb0 hb1; have ha1 := ha.belowR hB1) | (go_at_call 28; (with_reducible refine (small_any ha1).mono ?_); rw [hs]; rintro e w2 ⟨rfl, rfl⟩) | (go_at_call 30; (with_reducible refine (refvalid_any ha1).mono ?_); rw [hv]; rintro e w2 ⟨rfl, nd, rfl⟩; have hB2 := below_drewN hB1 nd))
      all_goals (go_ret; exact ⟨by simp, hB2⟩)
end
end Go.Proofs.Ytifhjigkljdkmaa
