/- Plain laws of products of square matrices: the product is associative, the identity is neutral, transposing reverses products. No program is named here. -/
import Derived.Test.YtifhjigkljdkmaaLy
namespace Go.Proofs.Ytifhjigkljdkmaa
open Gf (F)
set_option linter.unusedSimpArgs false
set_option linter.unusedVariables false
theorem mulM_ent {r k m i j : Nat} (a b : List (List F)) (hi : i < r) (hj : j < m) : ent (mulM r k m a b) i j = sumF k fun t => Gf.mul (ent a i t) (ent b t j) := by
  unfold mulM
  exact ent_mkm _ hi hj
theorem mulM_dim (r k m : Nat) (a b : List (List F)) : Dim r m (mulM r k m a b) := Dim.mkm _ _ _
theorem mulM_assoc (n : Nat) (a b c : List (List F)) : mulM n n n (mulM n n n a b) c = mulM n n n a (mulM n n n b c) := by
  refine (mulM_dim _ _ _ _ _).ext (mulM_dim _ _ _ _ _) fun i j hi hj => ?_
  rw [mulM_ent _ _ hi hj, mulM_ent _ _ hi hj]
  have e1 : ∀ t, t < n → Gf.mul (ent (mulM n n n a b) i t) (ent c t j) = sumF n fun s => Gf.mul (Gf.mul (ent a i s) (ent b s t)) (ent c t j) := fun t ht => by
    rw [mulM_ent _ _ hi ht, ← sumF_mul_r]
  have e2 : ∀ s, s < n → Gf.mul (ent a i s) (ent (mulM n n n b c) s j) = sumF n fun t => Gf.mul (Gf.mul (ent a i s) (ent b s t)) (ent c t j) := fun s hs => by
    rw [mulM_ent _ _ hs hj, ← sumF_mul]
    exact sumF_congr fun t _ => (Gf.mul_assoc _ _ _).symm
  rw [sumF_congr e1, sumF_congr e2, sumF_swap]
theorem mulM_one {n : Nat} {a : List (List F)} (ha : Dim n n a) : mulM n n n a (idm n) = a := by
  refine (mulM_dim _ _ _ _ _).ext ha fun i j hi hj => ?_
  rw [mulM_ent _ _ hi hj, sumF_one hj fun t ht hne => by unfold idm; rw [ent_mkm _ ht hj, if_neg hne, Gf.mul_zero]]
  unfold idm
  rw [ent_mkm _ hj hj, if_pos rfl, Gf.mul_one]
theorem trM_ent {r c i j : Nat} (a : List (List F)) (hi : i < c) (hj : j < r) : ent (trM r c a) i j = ent a j i := by
  unfold trM
  exact ent_mkm _ hi hj
theorem trM_mulM (n : Nat) (a b : List (List F)) : trM n n (mulM n n n a b) = mulM n n n (trM n n b) (trM n n a) := by
  refine Dim.ext (r := n) (c := n) (Dim.mkm _ _ _) (mulM_dim _ _ _ _ _) fun i j hi hj => ?_
  rw [trM_ent _ hi hj, mulM_ent _ _ hj hi, mulM_ent _ _ hi hj]
  exact sumF_congr fun t ht => by rw [trM_ent _ hi ht, trM_ent _ ht hj, Gf.mul_comm]
end Go.Proofs.Ytifhjigkljdkmaa
