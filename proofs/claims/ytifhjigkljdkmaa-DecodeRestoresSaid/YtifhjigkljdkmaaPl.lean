/- Plain words on lists of field elements and on matrices: elements, rows, sums, the first element other than 0, small and valid matrices. No program is named here. -/
import Derived.Test.YtifhjigkljdkmaaGf
namespace Go.Proofs.Ytifhjigkljdkmaa
open Gf (F)
set_option linter.unusedSimpArgs false
set_option linter.unusedVariables false

/-! ### Sums -/
/-- The sum of the first n values. -/
def sumF : Nat → (Nat → F) → F
  | 0, _ => 0
  | n + 1, f => sumF n f ^^^ f n
theorem sumF_zero (f : Nat → F) : sumF 0 f = 0 := rfl
theorem sumF_succ (n : Nat) (f : Nat → F) : sumF (n + 1) f = sumF n f ^^^ f n := rfl
theorem sumF_congr {n : Nat} {f g : Nat → F} (h : ∀ k, k < n → f k = g k) : sumF n f = sumF n g := by
  induction n with
  | zero => rfl
  | succ n ih => rw [sumF_succ, sumF_succ, ih fun k hk => h k (by omega), h n (by omega)]

/-! ### Lists and matrices -/
/-- The j-th byte (0 behind the end). -/
def nth (l : List F) (j : Nat) : F := l.getD j 0
theorem nth_of_lt {l : List F} {j : Nat} (h : j < l.length) : nth l j = l[j] := by simp [nth, h]
theorem nth_ext {l m : List F} (h : l.length = m.length) (e : ∀ j, j < l.length → nth l j = nth m j) : l = m := by
  apply List.ext_getElem h
  intro j h1 h2
  rw [← nth_of_lt h1, ← nth_of_lt h2, e j h1]
/-- d + c s, element by element. -/
def fuse (d s : List F) (c : F) : List F := List.zipWith (fun x y => x ^^^ Gf.mul c y) d s
theorem fuse_length {d s : List F} {n : Nat} (c : F) (hd : d.length = n) (hs : s.length = n) : (fuse d s c).length = n := by simp [fuse, hd, hs]
theorem nth_fuse {d s : List F} {n k : Nat} (c : F) (hd : d.length = n) (hs : s.length = n) (hk : k < n) : nth (fuse d s c) k = nth d k ^^^ Gf.mul c (nth s k) := by
  rw [nth_of_lt (by rw [fuse_length c hd hs]; exact hk), nth_of_lt (by omega), nth_of_lt (by omega)]
  simp [fuse]
/-- Row j of a matrix (empty behind the end). -/
def mrow (M : List (List F)) (j : Nat) : List F := M.getD j []
theorem mrow_of_lt {M : List (List F)} {j : Nat} (h : j < M.length) : mrow M j = M[j] := by simp [mrow, h]
theorem mrow_ext {M N : List (List F)} (h : M.length = N.length) (e : ∀ j, j < M.length → mrow M j = mrow N j) : M = N := by
  apply List.ext_getElem h
  intro j h1 h2
  rw [← mrow_of_lt h1, ← mrow_of_lt h2, e j h1]
/-- The slice reads the numbers l. -/
def nti (l : List Int) (j : Nat) : Int := l.getD j 0
theorem nti_of_lt {l : List Int} {j : Nat} (h : j < l.length) : nti l j = l[j] := by simp [nti, h]
theorem nti_ext {l m : List Int} (h : l.length = m.length) (e : ∀ j, j < l.length → nti l j = nti m j) : l = m := by
  apply List.ext_getElem h
  intro j h1 h2
  rw [← nti_of_lt h1, ← nti_of_lt h2, e j h1]
def Small (M : List (List F)) : Prop := M.length ≤ 8 ∧ ∀ j, j < M.length → (mrow M j).length ≤ 8
instance (M : List (List F)) : Decidable (Small M) := by unfold Small; infer_instance
def small (M : List (List F)) : Bool := decide (Small M)
def Valid (M : List (List F)) : Prop := 1 ≤ M.length ∧ M.length ≤ 64 ∧ 1 ≤ (mrow M 0).length ∧ (mrow M 0).length ≤ 64 ∧ ∀ j, j < M.length → (mrow M j).length = (mrow M 0).length
instance (M : List (List F)) : Decidable (Valid M) := by unfold Valid; infer_instance
def valid (M : List (List F)) : Bool := decide (Valid M)
/-! ### The first element other than 0 -/
def leadN (l : List F) : Nat := l.findIdx (· != 0)
def lead (l : List F) : Int := if leadN l < l.length then (leadN l : Int) else -1
theorem leadN_of {l : List F} {k : Nat} (hk : k < l.length) (h : nth l k ≠ 0) (hz : ∀ j, j < k → nth l j = 0) : leadN l = k := by
  unfold leadN
  rw [List.findIdx_eq hk]
  rw [nth_of_lt hk] at h
  refine ⟨by simpa using h, fun j hj => ?_⟩
  have := hz j hj
  rw [nth_of_lt (by omega)] at this
  simp [this]
theorem lead_of {l : List F} {k : Nat} (hk : k < l.length) (h : nth l k ≠ 0) (hz : ∀ j, j < k → nth l j = 0) : lead l = k := by
  unfold lead
  rw [leadN_of hk h hz, if_pos hk]
theorem nth_ge {l : List F} {j : Nat} (h : l.length ≤ j) : nth l j = 0 := by simp [nth, h]
theorem lead_none {l : List F} (hz : ∀ j, j < l.length → nth l j = 0) : lead l = -1 := by
  unfold lead
  rw [if_neg]
  intro h
  have h2 := List.findIdx_getElem (w := h)
  have := hz _ h
  rw [nth_of_lt h] at this
  unfold leadN at this
  simp [this] at h2
theorem lead_cases (l : List F) : (lead l = -1 ∧ ∀ j, nth l j = 0) ∨ ∃ k, k < l.length ∧ lead l = (k : Int) ∧ leadN l = k ∧ nth l k ≠ 0 ∧ ∀ j, j < k → nth l j = 0 := by
  by_cases h : ∃ k, k < l.length ∧ nth l k ≠ 0
  · right
    have hh : leadN l < l.length := by
      obtain ⟨k, hk, h0⟩ := h
      unfold leadN
      rw [List.findIdx_lt_length]
      exact ⟨l[k], List.getElem_mem hk, by rw [nth_of_lt hk] at h0; simpa using h0⟩
    refine ⟨leadN l, hh, by unfold lead; rw [if_pos hh], rfl, ?_, fun j hj => ?_⟩
    · rw [nth_of_lt hh]
      have h2 := List.findIdx_getElem (w := hh)
      unfold leadN
      simpa using h2
    · rw [nth_of_lt (by omega)]
      have := List.not_of_lt_findIdx hj
      simpa using this
  · left
    have hz : ∀ j, j < l.length → nth l j = 0 := fun j hj => Classical.byContradiction fun h0 => h ⟨j, hj, h0⟩
    exact ⟨lead_none hz, fun j => by
      by_cases hj : j < l.length
      · exact hz j hj
      · exact nth_ge (by omega)⟩
/-! ### Made of functions -/
/-- The element in row i and column j. -/
def ent (M : List (List F)) (i j : Nat) : F := nth (mrow M i) j
def mkr (n : Nat) (f : Nat → F) : List F := (List.range n).map f
theorem mkr_length (n : Nat) (f : Nat → F) : (mkr n f).length = n := by simp [mkr]
theorem nth_mkr {n j : Nat} (f : Nat → F) (h : j < n) : nth (mkr n f) j = f j := by simp [nth, mkr, h]
theorem mkr_congr {n : Nat} {f g : Nat → F} (h : ∀ j, j < n → f j = g j) : mkr n f = mkr n g := by
  unfold mkr
  exact List.map_congr_left fun j hj => h j (List.mem_range.1 hj)
theorem fuse_mkr {n : Nat} {f : Nat → F} {s : List F} (c : F) (hs : s.length = n) : fuse (mkr n f) s c = mkr n fun j => f j ^^^ Gf.mul c (nth s j) := by
  refine nth_ext (by rw [fuse_length c (mkr_length _ _) hs, mkr_length]) fun j hj => ?_
  rw [fuse_length c (mkr_length _ _) hs] at hj
  rw [nth_fuse c (mkr_length _ _) hs hj, nth_mkr _ hj, nth_mkr _ hj]
theorem take_snoc_map {β : Type} {l : List F} {k : Nat} (f : F → β) (h : k < l.length) : (l.take (k + 1)).map f = (l.take k).map f ++ [f (nth l k)] := by
  rw [List.take_succ_eq_append_getElem h, List.map_append, nth_of_lt h]
  rfl
def mkm (r c : Nat) (f : Nat → Nat → F) : List (List F) := (List.range r).map fun i => mkr c (f i)
theorem mkm_length (r c : Nat) (f : Nat → Nat → F) : (mkm r c f).length = r := by simp [mkm]
theorem mrow_mkm {r c i : Nat} (f : Nat → Nat → F) (h : i < r) : mrow (mkm r c f) i = mkr c (f i) := by simp [mrow, mkm, h]
/-- The transposed matrix of one with r rows and c columns. -/
def trM (r c : Nat) (a : List (List F)) : List (List F) := mkm c r (fun i j => ent a j i)
end Go.Proofs.Ytifhjigkljdkmaa
