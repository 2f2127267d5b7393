/- Plain laws of the weights: the way by the inverse and the way by the equations give the same ones. No program is named here. -/
import Derived.Test.YtifhjigkljdkmaaDk
import Derived.Test.YtifhjigkljdkmaaLa3
import Derived.Test.YtifhjigkljdkmaaM2
namespace Go.Proofs.Ytifhjigkljdkmaa
open Gf (F)
set_option linter.unusedSimpArgs false
set_option linter.unusedVariables false
/-- The rows of the pieces that are read. -/
def fromM (n : Nat) (f : Nat → Nat) : List (List F) := (List.range n).map fun r => genR n (f r)
theorem fromM_row {n r : Nat} (f : Nat → Nat) (h : r < n) : mrow (fromM n f) r = genR n (f r) := by simp [mrow, fromM, h]
theorem fromM_dim (n : Nat) (f : Nat → Nat) : Dim n n (fromM n f) := ⟨by simp [fromM], fun i hi => by rw [fromM_row f hi, genR_length]⟩
/-- n of the n + 3 pieces, in increasing order. -/
structure FromOk (n : Nat) (f : Nat → Nat) : Prop where
  lt : ∀ r, r < n → f r < n + 3
  inc : ∀ r s, r < s → s < n → f r < f s
section
variable {n to : Nat} {f : Nat → Nat}
theorem from_inv (hn : n ≤ 16) (hf : FromOk n f) : ∃ v, invM (fromM n f) n = some v ∧ Dim n n v ∧ (∀ x : Nat → F, ∀ i, i < n → sumF n (fun j => Gf.mul (ent v i j) (dot n (genR n (f j)) x)) = x i) ∧
    ∀ i j, i < n → j < n → dot n (genR n (f i)) (fun t => ent v t j) = if i = j then 1 else 0 := by
  obtain ⟨v, h1, h2, _, h4, h5⟩ := inv_full (M := fromM n f) (n := n) fun x hx => ker_from hn hf.lt hf.inc fun r hr => by
    have := hx r hr
    rwa [fromM_row f hr] at this
  refine ⟨v, h1, h2, fun x i hi => ?_, fun i j hi hj => ?_⟩
  · rw [← h5 x i hi]
    exact sumF_congr fun j hj => by rw [fromM_row f hj]
  · have h6 := congrArg (fun M => ent M i j) h4
    simp only [ent_mkm _ hi hj] at h6
    rw [← h6]
    unfold dot
    refine sumF_congr fun t _ => ?_
    congr 1
    unfold ent
    rw [fromM_row f hi]
/-- The combination of the rows of f with the weights w is row to. -/
structure WP (n : Nat) (f : Nat → Nat) (to : Nat) (w : List F) : Prop where
  len : w.length = n
  eq : ∀ x : Nat → F, sumF n (fun r => Gf.mul (nth w r) (dot n (genR n (f r)) x)) = dot n (genR n to) x
theorem wp_nth (hn : n ≤ 16) (hf : FromOk n f) {w : List F} (h : WP n f to w) {v : List (List F)} (hv : ∀ i j, i < n → j < n → dot n (genR n (f i)) (fun t => ent v t j) = if i = j then 1 else 0) {k : Nat} (hk : k < n) : nth w k = dot n (genR n to) (fun t => ent v t k) := by
  rw [← h.eq, sumF_one hk fun r hr hne => by rw [hv r k hr hk, if_neg hne, Gf.mul_zero], hv k k hk hk, if_pos rfl, Gf.mul_one]
theorem wp_unique (hn : n ≤ 16) (hf : FromOk n f) {w u : List F} (h : WP n f to w) (h2 : WP n f to u) : w = u := by
  obtain ⟨v, _, _, _, hv⟩ := from_inv hn hf
  refine nth_ext (h.len.trans h2.len.symm) fun k hk => ?_
  rw [h.len] at hk
  rw [wp_nth hn hf h hv hk, wp_nth hn hf h2 hv hk]
/-- The weights by the inverse. -/
def wts (n : Nat) (f : Nat → Nat) (to : Nat) : List F := mkr n fun k => dot n (genR n to) fun t => ent ((invM (fromM n f) n).getD []) t k
theorem wts_wp (hn : n ≤ 16) (hf : FromOk n f) : WP n f to (wts n f to) := by
  obtain ⟨v, h1, h2, h3, _⟩ := from_inv hn hf
  refine ⟨mkr_length _ _, fun x => ?_⟩
  unfold wts
  rw [h1]
  have e : ∀ r, r < n → Gf.mul (nth (mkr n fun k => dot n (genR n to) fun t => ent v t k) r) (dot n (genR n (f r)) x) = sumF n fun t => Gf.mul (nth (genR n to) t) (Gf.mul (ent v t r) (dot n (genR n (f r)) x)) := fun r hr => by
    rw [nth_mkr _ hr]
    show Gf.mul (sumF n fun t => Gf.mul (nth (genR n to) t) (ent v t r)) _ = _
    rw [← sumF_mul_r]
    exact sumF_congr fun t _ => Gf.mul_assoc _ _ _
  show sumF n (fun r => Gf.mul (nth (mkr n fun k => dot n (genR n to) fun t => ent v t k) r) (dot n (genR n (f r)) x)) = _
  rw [sumF_congr e, sumF_swap]
  unfold dot
  refine sumF_congr fun t ht => ?_
  rw [sumF_mul]
  congr 1
  exact h3 x t ht
/-! ### The equations -/
/-- Equation i, with the right side behind it. -/
def eqS (n : Nat) (f : Nat → Nat) (to : Nat) (i j : Nat) : F := if j < n then nth (genR n (f j)) i else nth (genR n to) i
def gjW (n : Nat) (f : Nat → Nat) (to : Nat) : Nat → Nat → Nat → F
  | 0 => eqS n f to
  | c + 1 => stepS n c (gjW n f to c)
theorem eqS_row {z : Nat → F} {i : Nat} (hi : i < n) : rdot (n + 1) (eqS n f to) i z = (sumF n fun k => Gf.mul (nth (genR n (f k)) i) (z k)) ^^^ Gf.mul (nth (genR n to) i) (z n) := by
  unfold rdot
  rw [sumF_succ]
  congr 1
  · refine sumF_congr fun k hk => ?_
    unfold eqS
    rw [if_pos hk]
  · unfold eqS
    rw [if_neg (Nat.lt_irrefl n)]
/-- Sums over the equations are sums over the rows. -/
theorem eq_all {z : Nat → F} {b : Nat → F} (h : ∀ i, i < n → (sumF n fun k => Gf.mul (nth (genR n (f k)) i) (z k)) = b i) (x : Nat → F) : (sumF n fun k => Gf.mul (z k) (dot n (genR n (f k)) x)) = sumF n fun i => Gf.mul (b i) (x i) := by
  have e : ∀ k, k < n → Gf.mul (z k) (dot n (genR n (f k)) x) = sumF n fun i => Gf.mul (Gf.mul (nth (genR n (f k)) i) (z k)) (x i) := fun k _ => by
    unfold dot
    rw [← sumF_mul]
    refine sumF_congr fun i _ => ?_
    rw [← Gf.mul_assoc, Gf.mul_comm (z k)]
  rw [sumF_congr e, sumF_swap]
  refine sumF_congr fun i hi => ?_
  rw [sumF_mul_r, h i hi]
theorem gjW_pivot (hn : n ≤ 16) (hf : FromOk n f) {c : Nat} (hc : c < n) {st : Nat → Nat → F} (h1 : ∀ z, Kst n (n + 1) st z ↔ Kst n (n + 1) (eqS n f to) z) (h2 : Unit n c st) : leadN (colS st c n) < n - c := by
  refine Classical.byContradiction fun hl => ?_
  have hcol : ∀ i, c ≤ i → i < n → st i c = 0 := fun i hi hin => by
    have := leadN_ge (x := colS st c n) (by unfold colS at *; rw [mkr_length]; exact hl) (i - c)
    unfold colS at this
    rw [nth_mkr _ (by omega)] at this
    rw [show c + (i - c) = i by omega] at this
    exact this
  let z : Nat → F := fun p => (if p = c then 1 else 0) ^^^ (if p < c then st p c else 0)
  have hz : Kst n (n + 1) st z := fun i hi => by
    unfold rdot
    have e2 : ∀ p, p < n + 1 → Gf.mul (st i p) (z p) = Gf.mul (st i p) (if p = c then 1 else 0) ^^^ Gf.mul (st i p) (if p < c then st p c else 0) := fun p _ => Gf.mul_add _ _ _
    rw [sumF_congr e2, sumF_xor, sumF_one (show c < n + 1 by omega) fun k _ hne => by rw [if_neg hne, Gf.mul_zero], if_pos rfl, Gf.mul_one]
    by_cases hic : i < c
    · rw [sumF_one (show i < n + 1 by omega) fun k _ hne => by
        by_cases hk : k < c
        · rw [h2 i k hi hk, if_neg (Ne.symm hne), Gf.zero_mul]
        · rw [if_neg hk, Gf.mul_zero], h2 i i hi hic, if_pos rfl, if_pos hic, Gf.one_mul, x_self]
    · rw [hcol i (by omega) hi, zero_x]
      refine sumF_zero_of fun k _ => ?_
      by_cases hk : k < c
      · rw [h2 i k hi hk, if_neg (by omega), Gf.zero_mul]
      · rw [if_neg hk, Gf.mul_zero]
  have hk := (h1 z).1 hz
  have zn : z n = 0 := by
    show (if n = c then 1 else 0) ^^^ (if n < c then st n c else 0) = 0
    rw [if_neg (by omega), if_neg (by omega), x_zero]
  have hall : ∀ i, i < n → (sumF n fun k => Gf.mul (nth (genR n (f k)) i) (z k)) = 0 := fun i hi => by
    have := hk i hi
    rw [eqS_row hi, zn, Gf.mul_zero, x_zero] at this
    exact this
  obtain ⟨v, _, _, _, hv⟩ := from_inv hn hf
  have e := eq_all (b := fun _ => 0) hall (fun t => ent v t c)
  rw [sumF_zero_of (f := fun i => Gf.mul 0 (ent v i c)) (fun i _ => Gf.zero_mul _), sumF_one hc fun r hr hne => by rw [hv r c hr hc, if_neg hne, Gf.mul_zero], hv c c hc hc, if_pos rfl, Gf.mul_one] at e
  have zc : z c = 1 := by
    show (if c = c then 1 else 0) ^^^ (if c < c then st c c else 0) = (1 : F)
    rw [if_pos rfl, if_neg (Nat.lt_irrefl c), x_zero]
  rw [zc] at e
  exact absurd e (by decide)
theorem gjW_inv (hn : n ≤ 16) (hf : FromOk n f) : ∀ c, c ≤ n → (∀ z, Kst n (n + 1) (gjW n f to c) z ↔ Kst n (n + 1) (eqS n f to) z) ∧ Unit n c (gjW n f to c)
  | 0, _ => ⟨fun _ => Iff.rfl, fun _ j _ hj => absurd hj (Nat.not_lt_zero _)⟩
  | c + 1, hc => by
    obtain ⟨h1, h2⟩ := gjW_inv hn hf c (by omega)
    have hl := gjW_pivot hn hf (by omega) h1 h2
    exact ⟨fun z => (kst_step (by omega) hl).trans (h1 z), unit_step (by omega) hl h2⟩
theorem gjW_lead (hn : n ≤ 16) (hf : FromOk n f) {c : Nat} (hc : c < n) : leadN (colS (gjW n f to c) c n) < n - c := by
  obtain ⟨h1, h2⟩ := gjW_inv (to := to) hn hf c (by omega)
  exact gjW_pivot hn hf hc h1 h2
/-- The weights by the equations. -/
def refW (n : Nat) (f : Nat → Nat) (to : Nat) : List F := mkr n fun i => gjW n f to n i n
theorem refW_wp (hn : n ≤ 16) (hf : FromOk n f) : WP n f to (refW n f to) := by
  obtain ⟨h1, h2⟩ := gjW_inv (to := to) hn hf n (Nat.le_refl _)
  refine ⟨mkr_length _ _, fun x => ?_⟩
  let z : Nat → F := fun p => if p < n then gjW n f to n p n else 1
  have zn : z n = 1 := if_neg (Nat.lt_irrefl n)
  have za : ∀ p, p < n → z p = gjW n f to n p n := fun p hp => if_pos hp
  have hz : Kst n (n + 1) (gjW n f to n) z := fun i hi => by
    unfold rdot
    rw [sumF_succ, sumF_one hi fun k hk hne => by rw [h2 i k hi hk, if_neg (Ne.symm hne), Gf.zero_mul], h2 i i hi hi, if_pos rfl, Gf.one_mul, zn, Gf.mul_one, za i hi, x_self]
  have hk := (h1 z).1 hz
  have hall : ∀ i, i < n → (sumF n fun k => Gf.mul (nth (genR n (f k)) i) (z k)) = nth (genR n to) i := fun i hi => by
    have := hk i hi
    rw [eqS_row hi, zn, Gf.mul_one] at this
    exact x_eq_zero this
  have e := eq_all hall x
  unfold dot at e ⊢
  rw [← e]
  refine sumF_congr fun k hk => ?_
  unfold refW
  rw [nth_mkr _ hk, za k hk]
theorem refW_eq (hn : n ≤ 16) (hf : FromOk n f) : refW n f to = wts n f to := wp_unique hn hf (refW_wp hn hf) (wts_wp hn hf)
end
/-! ### Combinations of blocks -/
/-- The combination of the blocks B with the weights w. -/
def comb (w : List F) (B : List (List F)) : List F := mkr 8 fun k => sumF w.length fun i => Gf.mul (nth w i) (ent B i k)
theorem comb_length (w : List F) (B : List (List F)) : (comb w B).length = 8 := mkr_length _ _
/-- Any width - 3 pieces of a consistent group give every piece. -/
theorem comb_grp {D : List (List F)} {f : Nat → Nat} {to : Nat} {w : List F} {B : List (List F)} (hD : ∀ i, i < D.length → (mrow D i).length = 8) (hf : FromOk D.length f) (hw : WP D.length f to w) (ht : to < D.length + 3) (hB : ∀ r, r < D.length → mrow B r = mrow (grpM D) (f r)) : comb w B = mrow (grpM D) to := by
  have hl := grpM_rows hD to (by rw [grpM_length]; exact ht)
  refine nth_ext (by rw [comb_length, hl]) fun k hk => ?_
  rw [comb_length] at hk
  unfold comb
  rw [nth_mkr _ hk, hw.len]
  show _ = ent (grpM D) to k
  rw [grp_gen D ht hk, ← hw.eq]
  refine sumF_congr fun r hr => ?_
  rw [← grp_gen D (hf.lt r hr) hk]
  congr 1
  unfold ent
  rw [hB r hr]
end Go.Proofs.Ytifhjigkljdkmaa
