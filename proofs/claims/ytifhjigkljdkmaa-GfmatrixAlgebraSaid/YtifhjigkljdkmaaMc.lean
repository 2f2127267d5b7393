import Derived.Test.YtifhjigkljdkmaaMb
import Derived.Test.YtifhjigkljdkmaaM9
namespace Go.Proofs.Ytifhjigkljdkmaa
open Go.RowKit
open Gf (F)
set_option linter.unusedSimpArgs false
set_option linter.unusedVariables false
theorem indI_range (M : List (List F)) : ∀ n j, j < (indI M n).2.length → 0 ≤ nti (indI M n).2 j ∧ nti (indI M n).2 j < n
  | 0, j, h => absurd h (Nat.not_lt_zero _)
  | n + 1, j, h => by
    cases e : addB (indI M n).1 (mrow M n) with
    | none =>
      rw [indI_skip e] at h ⊢
      have := indI_range M n j h
      omega
    | some B =>
      rw [indI_step e] at h ⊢
      simp only [List.length_append, List.length_cons, List.length_nil] at h
      by_cases hj : j < (indI M n).2.length
      · have := indI_range M n j hj
        have e2 : nti ((indI M n).2 ++ [(n : Int)]) j = nti (indI M n).2 j := by
          unfold nti
          rw [List.getD_eq_getElem?_getD, List.getD_eq_getElem?_getD, List.getElem?_append_left hj]
        rw [e2]
        omega
      · obtain rfl : j = (indI M n).2.length := by omega
        have e2 : nti ((indI M n).2 ++ [(n : Int)]) (indI M n).2.length = n := by
          unfold nti
          simp
        rw [e2]
        omega
section
variable {p q : Nat → Prop} {w : World} {A B : Option Addr} {n c k d m : Nat} {R S : Nat → Option Addr} {L K C D : Nat → Nat} {x : List F} {a b : List (List F)}
set_option maxRecDepth 100000 in
theorem leftinv_bad (ha : Rag p w A n c R L C a) (h : ¬ Valid a) : Calls Try.prog 35 #[.slice A n c] w fun e w' => e = .returned (.tuple #[.slice none 0 0, .slice none 0 0, .int .i64 1]) ∧ w = w' := by
  have va : valid a = false := by simpa [valid] using h
  go_enter Try.func35, Try.ntmps35
  go_wp2_with (go_at_call 39; (with_reducible refine (valid_any ha).mono ?_); rintro e w' ⟨rfl, rfl⟩)
  go_ret3
  exact ⟨rfl, rfl⟩
set_option maxRecDepth 100000 in
theorem leftinv_short (ha : Mat p w A n c R m C a) (v : Valid a) (hl : (indep a).length < m) : Calls Try.prog 35 #[.slice A n c] w fun e w' => e = .returned (.tuple #[.slice none 0 0, .slice none 0 0, .int .i64 3]) ∧ Below w.heap.size w w' := by
  obtain ⟨r1, r2, r3, r4⟩ := valid_dims ha v
  have va : valid a = true := decide_eq_true v
  clear v
  obtain ⟨b1, o1, rfl, _, hlt1, hc1⟩ := ha.row.at_ (by omega)
  have e1 : w.cell? ⟨b1, o1, none⟩ = some (.slice (R 0) m (C 0)) := hc1 0 (by omega)
  have d1 : ((indep a).length : Int) < (m : Int) := by omega
  replace hc1 := Lib.hid hc1
  go_enter Try.func35, Try.ntmps35
  go_wp2_with (first | (go_at_call 39; (with_reducible refine (valid_any ha.rag).mono ?_); rintro e w' ⟨rfl, rfl⟩) | (go_at_call 98; refine (independent_any ha r2 r4).mono ?_; rintro e w1 ⟨A', c', rfl, hi, hb1⟩; have e2 := (hb1.cell (p := ⟨b1, o1, none⟩) hlt1).trans e1))
  go_ret3
  exact ⟨rfl, hb1⟩
end
section
variable {p q : Nat → Prop} {w : World} {A B : Option Addr} {n c k d m : Nat} {R S : Nat → Option Addr} {L K C D : Nat → Nat} {x : List F} {a b : List (List F)}
def LinvPost (w : World) (m : Nat) (a : List (List F)) (e : Ending) (w' : World) : Prop :=
  Below w.heap.size w w' ∧ (invM (rowsM a (indep a)) m = none → e = .returned (.tuple #[.slice none 0 0, .slice none 0 0, .int .i64 3])) ∧
    ∀ v, invM (rowsM a (indep a)) m = some v → ∃ g R' C' A' c', e = .returned (.tuple #[.slice (some ⟨g, 0, none⟩) m m, .slice A' m c', .int .i64 0]) ∧ Mat (fun b => w.heap.size ≤ b) w' (some ⟨g, 0, none⟩) m m R' m C' v ∧ Ints (fun _ => True) w' A' m c' (indep a)
set_option maxRecDepth 100000 in
set_option maxHeartbeats 1000000 in
theorem leftinv_ok (ha : Mat p w A n c R m C a) (v : Valid a) (hl : (indep a).length = m) : Calls Try.prog 35 #[.slice A n c] w (LinvPost w m a) := by
  obtain ⟨r1, r2, r3, r4⟩ := valid_dims ha v
  have va : valid a = true := decide_eq_true v
  have hrange : ∀ j, j < m → 0 ≤ nti (indep a) j ∧ nti (indep a) j < n := fun j hj => by
    have h2 := indI_range a a.length j (by rw [← hl] at hj; exact hj)
    have e : ((a.length : Nat) : Int) = n := by rw [ha.len]
    exact ⟨h2.1, by rw [← e]; exact h2.2⟩
  clear v
  obtain ⟨b1, o1, rfl, _, hlt1, hc1⟩ := ha.row.at_ (by omega)
  have e1 : w.cell? ⟨b1, o1, none⟩ = some (.slice (R 0) m (C 0)) := hc1 0 (by omega)
  replace hl := Lib.hid hl
  go_enter Try.func35, Try.ntmps35
  go_wp2_with (first | (go_at_call 39; (with_reducible refine (valid_any ha.rag).mono ?_); rintro e w' ⟨rfl, rfl⟩) | (go_at_call 98; refine (independent_any ha r2 r4).mono ?_; rw [hl.out]; rintro e w1 ⟨A1, c1', rfl, hi, hb1⟩; have e2 := (hb1.cell (p := ⟨b1, o1, none⟩) hlt1).trans e1))
  go_loopw [6, 25] (fun v x wr => ∃ (i : Nat) (R' : Nat → Option Addr) (L' C' : Nat → Nat), i ≤ m ∧ x = .int .i64 i ∧ OwnA wr w1.heap.size (fun _ => True) v i R' L' C' (mrow (rowsM a (indep a))) ∧ Below w1.heap.size w1 wr) (fun _ x _ => m - (intOf x).toNat)
  case atStart => exact ⟨0, _, _, _, by omega, rfl, (OwnA.start _ _ _).congr fun i hi => absurd hi (Nat.not_lt_zero _), Below.refl _ _⟩
  case round =>
    obtain ⟨i, R', L', C', hi2, rfl, ho, hbw1⟩ := hrel
    have hbw := below_then2 hb1 hbw1
    have hs1 := hb1.size
    by_cases hlt : i < m
    · obtain ⟨b2, o2, rfl, _, hlt2, hc2⟩ := hi.row.at_ (by omega)
      have f2 : wr.cell? ⟨b2, o2 + i, none⟩ = some (.int .i64 (nti (indep a) i)) := (hbw1.cell (by exact hlt2)).trans (hc2 i hlt)
      clear hc2
      obtain ⟨hr1, hr2⟩ := hrange i hlt
      have hrow := mrow_rowsM a (l := indep a) (j := i) (by rw [hl.out]; exact hlt)
      obtain ⟨t, ht⟩ := Int.eq_ofNat_of_zero_le hr1
      rw [ht] at f2 hr1 hr2 hrow
      replace ht := Lib.hid ht
      simp only [Int.toNat_natCast] at hrow
      have htn : t < n := by omega
      have f1 : wr.cell? ⟨b1, o1 + t, none⟩ = some (.slice (R t) m (C t)) := (hbw.cell (by exact hlt1)).trans (hc1 t htn)
      have ra : Byt (fun b => True ∧ some b ≠ u6.ownBlock) wr (R t) m (C t) (mrow a t) := ((ha.rows t htn).mono (q := fun b => True ∧ some b ≠ u6.ownBlock) fun b hb _ => ⟨trivial, own_ne ho.own (Nat.lt_of_lt_of_le hb hs1)⟩).below hbw
      rw [← hrow] at ra
      replace hrow := Lib.hid hrow
      have hsz := hbw.size
      have hsz1 := hbw1.size
      go_wp2_with (at_builtin; refine wpl_append1 rfl (s := .tmp 29) (x := .tmp 34) rfl Try.underlying22 info28 rfl rfl ho.own rfl rfl (by unfold maxLen; omega) (by omega) (by omega) ?_; intro v2 w2 hown2 hgr2 hne2)
      go_roundw
      case rel =>
        exact ⟨i + 1, _, _, _, by omega, by go_num, (ho.push ra hown2 hgr2 hne2).congr fun j _ => by by_cases e : j = i <;> simp [e], hbw1.grown hgr2 hsz1 (own_ge ho.own)⟩
      case measure => simp [intOf]; omega
    · obtain rfl : i = m := by omega
      have hlen : (rowsM a (indep a)).length = i := by rw [← hl.out]; simp [rowsM]
      obtain ⟨A', c', rfl, hr'⟩ := ho.rag hlen (fun _ _ => rfl)
      have hrl : ∀ j, j < i → (mrow (rowsM a (indep a)) j).length = i := fun j hj => by
        rw [mrow_rowsM a (by rw [hl.out]; exact hj)]
        obtain ⟨h1, h2⟩ := hrange j hj
        exact (ha.rows (nti (indep a) j).toNat (by omega)).len
      have hM := hr'.mat hrl
      have hV : Valid (rowsM a (indep a)) := ⟨by omega, by omega, by rw [hrl 0 (by omega)]; omega, by rw [hrl 0 (by omega)]; omega, fun j hj => by rw [hrl j (by omega), hrl 0 (by omega)]⟩
      replace hrl := Lib.hid hrl
      replace hlen := Lib.hid hlen
      cases hinv : invM (rowsM a (indep a)) i with
      | none =>
        replace hinv := Lib.hid hinv
        go_wp2_with (go_at_call 29; refine (inverse_ok hM hV).mono ?_; rintro e w3 ⟨hb3, h3, _⟩; obtain rfl := h3 hinv.out)
        go_ret3
        exact ⟨below_then2 hbw hb3, fun _ => rfl, fun v hv => by rw [hinv.out] at hv; cases hv⟩
      | some M =>
        replace hinv := Lib.hid hinv
        go_wp2_with (go_at_call 29; refine (inverse_ok hM hV).mono ?_; rintro e w3 ⟨hb3, _, h3⟩; obtain ⟨g, R5, C5, rfl, hm5⟩ := h3 M hinv.out)
        go_ret3
        refine ⟨below_then2 hbw hb3, ?_, ?_⟩
        · intro h; rw [hinv.out] at h; cases h
        · intro v hv; rw [hinv.out] at hv; cases hv
          exact ⟨g, R5, C5, A1, c1', rfl, ⟨hm5.len, hm5.row.mono fun b _ h => Nat.le_trans hbw.size h, fun j hj => (hm5.rows j hj).mono fun b _ h => Nat.le_trans hbw.size h⟩, (hi.below hbw1).below hb3⟩
end
theorem aw1 : invM [[1, 1], [1, 2]] 2 = some [[245, 244], [244, 244]] := by decide +kernel
theorem aw2 : indep [[1, 1], [2, 2], [0, 3]] = [0, 2] := by decide +kernel
theorem aw3 : invM (rowsM [[1, 1], [2, 2], [0, 3]] (indep [[1, 1], [2, 2], [0, 3]])) 2 = some [[1, 244], [0, 244]] := by decide +kernel
theorem aw4 : Valid [[1, 1], [1, 2]] := by decide +kernel
theorem aw5 : Valid [[1, 1], [2, 2], [0, 3]] := by decide +kernel
section
variable {w : World}
theorem byt2 (x y : F) : Byt (fun b => b = w.heap.size) (w.alloc (.cells #[.int .u8 (x.toNat : Int), .int .u8 (y.toNat : Int)] 5)) (some ⟨w.heap.size, 0, none⟩) 2 2 [x, y] :=
  Byt.of_rowIs (World.rowIs_alloc w #[.int .u8 (x.toNat : Int), .int .u8 (y.toNat : Int)] 5 _ (fun i hi => by
    match i, hi with
    | 0, _ => rfl
    | 1, _ => rfl)) rfl rfl (by unfold maxLen; omega)
end
section
variable {w : World}
theorem below_alloc {B : Nat} {a w : World} (h : Below B a w) (hB : B ≤ w.heap.size) (o : Obj) : Below B a (w.alloc o) := h.alloc hB o
theorem mat2 (x0 y0 x1 y1 : F) : ∃ R C, Mat (fun b => w.heap.size ≤ b)
    (((w.alloc (.cells #[.int .u8 (x0.toNat : Int), .int .u8 (y0.toNat : Int)] 5)).alloc (.cells #[.int .u8 (x1.toNat : Int), .int .u8 (y1.toNat : Int)] 5)).alloc (.cells #[.slice (some ⟨w.heap.size, 0, none⟩) 2 2, .slice (some ⟨w.heap.size + 1, 0, none⟩) 2 2] 28))
    (some ⟨w.heap.size + 2, 0, none⟩) 2 2 R 2 C [[x0, y0], [x1, y1]] := by
  refine ⟨fun i => if i = 0 then some ⟨w.heap.size, 0, none⟩ else some ⟨w.heap.size + 1, 0, none⟩, fun _ => 2, rfl, ?_, fun j hj => ?_⟩
  · have h := World.rowIs_alloc ((w.alloc (.cells #[.int .u8 (x0.toNat : Int), .int .u8 (y0.toNat : Int)] 5)).alloc (.cells #[.int .u8 (x1.toNat : Int), .int .u8 (y1.toNat : Int)] 5)) #[.slice (some ⟨w.heap.size, 0, none⟩) 2 2, .slice (some ⟨w.heap.size + 1, 0, none⟩) 2 2] 28
      (fun j => .slice (if j = 0 then some ⟨w.heap.size, 0, none⟩ else some ⟨w.heap.size + 1, 0, none⟩) 2 2) (fun i hi => by
        match i, hi with
        | 0, _ => rfl
        | 1, _ => rfl)
    rw [show ((w.alloc (.cells #[.int .u8 (x0.toNat : Int), .int .u8 (y0.toNat : Int)] 5)).alloc (.cells #[.int .u8 (x1.toNat : Int), .int .u8 (y1.toNat : Int)] 5)).heap.size = w.heap.size + 2 from by simp] at h
    exact Row.of_rowIs h (by omega) (by unfold maxLen; omega)
  · match j, hj with
    | 0, _ => exact (((byt2 x0 y0).below ((Below.refl _ _).alloc (Nat.le_refl _) _)).below ((Below.refl _ _).alloc (Nat.le_refl _) _)).mono fun b _ h => by omega
    | 1, _ =>
      have h := byt2 (w := w.alloc (.cells #[.int .u8 (x0.toNat : Int), .int .u8 (y0.toNat : Int)] 5)) x1 y1
      rw [show (w.alloc (.cells #[.int .u8 (x0.toNat : Int), .int .u8 (y0.toNat : Int)] 5)).heap.size = w.heap.size + 1 from by simp] at h
      exact (h.below ((Below.refl _ _).alloc (Nat.le_refl _) _)).mono fun b _ h => by omega
theorem mat3 (x0 y0 x1 y1 x2 y2 : F) : ∃ R C, Mat (fun b => w.heap.size ≤ b)
    ((((w.alloc (.cells #[.int .u8 (x0.toNat : Int), .int .u8 (y0.toNat : Int)] 5)).alloc (.cells #[.int .u8 (x1.toNat : Int), .int .u8 (y1.toNat : Int)] 5)).alloc (.cells #[.int .u8 (x2.toNat : Int), .int .u8 (y2.toNat : Int)] 5)).alloc (.cells #[.slice (some ⟨w.heap.size, 0, none⟩) 2 2, .slice (some ⟨w.heap.size + 1, 0, none⟩) 2 2, .slice (some ⟨w.heap.size + 2, 0, none⟩) 2 2] 28))
    (some ⟨w.heap.size + 3, 0, none⟩) 3 3 R 2 C [[x0, y0], [x1, y1], [x2, y2]] := by
  refine ⟨fun i => if i = 0 then some ⟨w.heap.size, 0, none⟩ else if i = 1 then some ⟨w.heap.size + 1, 0, none⟩ else some ⟨w.heap.size + 2, 0, none⟩, fun _ => 2, rfl, ?_, fun j hj => ?_⟩
  · have h := World.rowIs_alloc (((w.alloc (.cells #[.int .u8 (x0.toNat : Int), .int .u8 (y0.toNat : Int)] 5)).alloc (.cells #[.int .u8 (x1.toNat : Int), .int .u8 (y1.toNat : Int)] 5)).alloc (.cells #[.int .u8 (x2.toNat : Int), .int .u8 (y2.toNat : Int)] 5)) #[.slice (some ⟨w.heap.size, 0, none⟩) 2 2, .slice (some ⟨w.heap.size + 1, 0, none⟩) 2 2, .slice (some ⟨w.heap.size + 2, 0, none⟩) 2 2] 28
      (fun j => .slice (if j = 0 then some ⟨w.heap.size, 0, none⟩ else if j = 1 then some ⟨w.heap.size + 1, 0, none⟩ else some ⟨w.heap.size + 2, 0, none⟩) 2 2) (fun i hi => by
        match i, hi with
        | 0, _ => rfl
        | 1, _ => rfl
        | 2, _ => rfl)
    rw [show (((w.alloc (.cells #[.int .u8 (x0.toNat : Int), .int .u8 (y0.toNat : Int)] 5)).alloc (.cells #[.int .u8 (x1.toNat : Int), .int .u8 (y1.toNat : Int)] 5)).alloc (.cells #[.int .u8 (x2.toNat : Int), .int .u8 (y2.toNat : Int)] 5)).heap.size = w.heap.size + 3 from by simp] at h
    exact Row.of_rowIs h (by omega) (by unfold maxLen; omega)
  · match j, hj with
    | 0, _ => exact ((((byt2 x0 y0).below ((Below.refl _ _).alloc (Nat.le_refl _) _)).below ((Below.refl _ _).alloc (Nat.le_refl _) _)).below ((Below.refl _ _).alloc (Nat.le_refl _) _)).mono fun b _ h => by omega
    | 1, _ =>
      have h := byt2 (w := w.alloc (.cells #[.int .u8 (x0.toNat : Int), .int .u8 (y0.toNat : Int)] 5)) x1 y1
      rw [show (w.alloc (.cells #[.int .u8 (x0.toNat : Int), .int .u8 (y0.toNat : Int)] 5)).heap.size = w.heap.size + 1 from by simp] at h
      exact ((h.below ((Below.refl _ _).alloc (Nat.le_refl _) _)).below ((Below.refl _ _).alloc (Nat.le_refl _) _)).mono fun b _ h => by omega
    | 2, _ =>
      have h := byt2 (w := (w.alloc (.cells #[.int .u8 (x0.toNat : Int), .int .u8 (y0.toNat : Int)] 5)).alloc (.cells #[.int .u8 (x1.toNat : Int), .int .u8 (y1.toNat : Int)] 5)) x2 y2
      rw [show ((w.alloc (.cells #[.int .u8 (x0.toNat : Int), .int .u8 (y0.toNat : Int)] 5)).alloc (.cells #[.int .u8 (x1.toNat : Int), .int .u8 (y1.toNat : Int)] 5)).heap.size = w.heap.size + 2 from by simp] at h
      exact (h.below ((Below.refl _ _).alloc (Nat.le_refl _) _)).mono fun b _ h => by omega
theorem ints2 {s : Nat} (hs : w.heap.size = s) : Ints (fun b => b = s) (w.alloc (.cells #[.int .i64 0, .int .i64 2] 3)) (some ⟨s, 0, none⟩) 2 2 [0, 2] := by
  subst hs
  exact ⟨rfl, Row.of_rowIs (World.rowIs_alloc w #[.int .i64 0, .int .i64 2] 3 _ (fun i hi => by
    match i, hi with
    | 0, _ => rfl
    | 1, _ => rfl)) rfl (by unfold maxLen; omega)⟩
theorem below_one (w : World) (o : Obj) : Below w.heap.size w (w.alloc o) := (Below.refl _ _).alloc (Nat.le_refl _) _
abbrev lit2 (w : World) (x0 y0 x1 y1 : F) : World := (((w.alloc (.cells #[.int .u8 (x0.toNat : Int), .int .u8 (y0.toNat : Int)] 5)).alloc (.cells #[.int .u8 (x1.toNat : Int), .int .u8 (y1.toNat : Int)] 5)).alloc (.cells #[.slice (some ⟨w.heap.size, 0, none⟩) 2 2, .slice (some ⟨w.heap.size + 1, 0, none⟩) 2 2] 28))
abbrev lit3 (w : World) (x0 y0 x1 y1 x2 y2 : F) : World := ((((w.alloc (.cells #[.int .u8 (x0.toNat : Int), .int .u8 (y0.toNat : Int)] 5)).alloc (.cells #[.int .u8 (x1.toNat : Int), .int .u8 (y1.toNat : Int)] 5)).alloc (.cells #[.int .u8 (x2.toNat : Int), .int .u8 (y2.toNat : Int)] 5)).alloc (.cells #[.slice (some ⟨w.heap.size, 0, none⟩) 2 2, .slice (some ⟨w.heap.size + 1, 0, none⟩) 2 2, .slice (some ⟨w.heap.size + 2, 0, none⟩) 2 2] 28))
theorem below_lit2 (w : World) (x0 y0 x1 y1 : F) : Below w.heap.size w (lit2 w x0 y0 x1 y1) := (((Below.refl _ _).alloc (Nat.le_refl _) _).alloc (by simp) _).alloc (by simp; omega) _
theorem below_lit3 (w : World) (x0 y0 x1 y1 x2 y2 : F) : Below w.heap.size w (lit3 w x0 y0 x1 y1 x2 y2) := ((((Below.refl _ _).alloc (Nat.le_refl _) _).alloc (by simp) _).alloc (by simp; omega) _).alloc (by simp; omega) _
end
set_option maxRecDepth 100000 in
set_option maxHeartbeats 1000000 in
theorem awake_any (w : World) : Calls Try.prog 27 #[] w fun e w' => e = .returned (.bool true) ∧ Below w.heap.size w w' := by
  obtain ⟨R, C, h1⟩ := mat2 (w := w) 1 1 1 2
  go_enter Try.func27, Try.ntmps27
  go_wp2_with (first | (go_at_call 29; go_loud (refine (inverse_ok h1 aw4).mono ?_; rintro e w1 ⟨hb1, _, h3⟩; obtain ⟨g1, R1, C1, rfl, hm1⟩ := h3 _ aw1; have hB1 := below_then2 (below_lit2 w 1 1 1 2) hb1; clear h3 hb1; obtain ⟨R2, C2, h2⟩ := mat3 (w := w1) 1 1 2 2 0 3)) | (go_at_call 40; go_loud (refine (rank_ok h2 aw5 (by omega) (by omega)).mono ?_; rw [aw2]; rintro e w2 ⟨rfl, hb2⟩; have hm2 := (hm1.keep (Keeps.below (below_lit3 w1 1 1 2 2 0 3))).keep (Keeps.below hb2); have h2' := h2.keep (Keeps.below hb2); have hB2 := below_then2 hB1 (below_then2 (below_lit3 w1 1 1 2 2 0 3) hb2); clear hb2)) | (go_at_call 35; go_loud (refine (leftinv_ok h2' aw5 (by rw [aw2]; rfl)).mono ?_; rintro e w3 ⟨hb3, _, h3⟩; obtain ⟨g3, R3, C3, A4, c4, rfl, hm3, hi3⟩ := h3 _ aw3; rw [aw2] at hi3; have hm2' := hm2.keep (Keeps.below hb3); have hB3 := below_then2 hB2 hb3; obtain ⟨R5, C5, h5⟩ := mat2 (w := w3) 245 244 244 244; have hm2'' := hm2'.keep (Keeps.below (below_lit2 w3 245 244 244 244)); have hm3' := hm3.keep (Keeps.below (below_lit2 w3 245 244 244 244)); have hi3' := hi3.keep (Keeps.below (below_lit2 w3 245 244 244 244)); have hB4 := below_then2 hB3 (below_lit2 w3 245 244 244 244); clear h3 hb3)) | (go_at_call 32; (refine (same_any hm8.rag h7.rag).mono ?_; rintro e w9 ⟨rfl, nd3, rfl⟩; have hB9 := below_drewN hB8 nd3)) | (go_at_call 32; go_loud (refine (same_any hm2''.rag h5.rag).mono ?_; rintro e w5 ⟨rfl, nd, rfl⟩; have hB5 := below_drewN hB4 nd; have hi5 := hi3'.drewN nd; have hm5 := hm3'.keep ((Keeps.refl _ _).drewN nd); have hs5 : ((lit2 w3 245 244 244 244).drewN nd).heap.size = w3.heap.size + 1 + 1 + 1 := (by simp); clear hm2'' h5 hm3' hi3' hB4 hm2' hm3 hi3 hB3; generalize (lit2 w3 245 244 244 244).drewN nd = W5 at *)) | (go_at_call 36; go_loud (have hb6 := below_one W5 (.cells #[.int .i64 0, .int .i64 2] 3); have hm6 := hm5.keep (Keeps.below hb6); have hB6 := below_then2 hB5 hb6; refine (sameints_any (hi5.below hb6) (ints2 hs5)).mono ?_; rintro e w6 ⟨rfl, nd2, rfl⟩; have hB7 := below_drewN hB6 nd2; have hm7 := hm6.keep ((Keeps.refl _ _).drewN nd2); clear hm6 hB6 hb6 hi5 hs5 hm5 hB5; generalize (W5.alloc (.cells #[.int .i64 0, .int .i64 2] 3)).drewN nd2 = W6 at *; obtain ⟨R7, C7, h7⟩ := mat2 (w := W6) 1 244 0 244; have hm8 := hm7.keep (Keeps.below (below_lit2 W6 1 244 0 244)); have hB8 := below_then2 hB7 (below_lit2 W6 1 244 0 244))))
  go_ret
  exact ⟨rfl, hB9⟩
end Go.Proofs.Ytifhjigkljdkmaa
