/- tegulalaw04.awake (65) returns true; its examples. -/
import Derived.Test.YtifhjigkljdkmaaLq
namespace Go.Proofs.Ytifhjigkljdkmaa
open Go.RowKit
open Gf (F)
set_option linter.unusedSimpArgs false
set_option linter.unusedVariables false
theorem ints_newx (w : World) (l : List Int) (t : TypeId) (hl : l.length ≤ maxLen) : Ints (fun _ => True) (w.alloc (.cells (l.map (Value.int .i64)).toArray t)) (some ⟨w.heap.size, 0, none⟩) l.length l.length l := by
  have h := World.rowIs_alloc w (l.map (Value.int .i64)).toArray t (fun j => .int .i64 (nti l j)) (fun i hi => by
    simp only [List.size_toArray, List.length_map] at hi
    simp [hi, nti_of_lt hi])
  have e : (l.map (Value.int .i64)).toArray.size = l.length := by simp
  rw [e] at h
  exact ⟨rfl, Row.of_rowIs h trivial hl⟩
def bl (u : F) : List F := [u, 0, 0, 0, 0, 0, 0, 0]
def axG : List (List F) := [bl 3, bl 5, bl 6, bl 9, bl 23]
def axD : List (List F) := [bl 1, bl 1, bl 6, bl 9, bl 1]
def axL : List (List F) := [bl 3, bl 4, bl 6, bl 9, bl 23]
def axB : List Bool := [true, true, false, false, true]
theorem ax_w1 : wts 2 (fromF [1, 2]) 0 = [1, 1] := by decide +kernel
theorem ax_w2 : wts 2 (fromF [1, 3]) 0 = [2, 1] := by decide +kernel
theorem ax_lost : lostB 5 axB = false := by decide +kernel
theorem ax_dec : decI 5 axD axB 5 = axG := by decide +kernel
theorem ax_s0 : mrow (synM axL) 0 ≠ zeroL 8 := by decide +kernel
theorem ax_l0 : locB axL 0 = false := by decide +kernel
theorem ax_l1 : locB axL 1 = true := by decide +kernel
theorem ax_s1 : mrow (synM axL) 1 ≠ zeroL 8 := by decide +kernel
theorem ax_loc {r er : Int} (h : LocRes 2 axL r er) : r = 1 ∧ er = 0 := by
  cases h with
  | none h0 => exact absurd h0 ax_s0
  | p0 _ h1 => exact absurd h1 ax_s1
  | p1 h0 => exact absurd h0 ax_s0
  | p2 h0 => exact absurd h0 ax_s0
  | two h0 => exact absurd h0 ax_s0
  | @found i _ _ hi hl _ =>
    rcases (show i = 0 ∨ i = 1 by omega) with rfl | rfl
    · rw [ax_l0] at hl; cases hl
    · exact ⟨rfl, rfl⟩
  | many _ _ ha => have := ha 1 (by decide); rw [ax_l1] at this; cases this
theorem axG_new (w : World) : Blks (fun _ => True) (w.alloc (.cells #[.int .u8 3, .int .u8 0, .int .u8 0, .int .u8 0, .int .u8 0, .int .u8 0, .int .u8 0, .int .u8 0, .int .u8 5, .int .u8 0, .int .u8 0, .int .u8 0, .int .u8 0, .int .u8 0, .int .u8 0, .int .u8 0, .int .u8 6, .int .u8 0, .int .u8 0, .int .u8 0, .int .u8 0, .int .u8 0, .int .u8 0, .int .u8 0, .int .u8 9, .int .u8 0, .int .u8 0, .int .u8 0, .int .u8 0, .int .u8 0, .int .u8 0, .int .u8 0, .int .u8 23, .int .u8 0, .int .u8 0, .int .u8 0, .int .u8 0, .int .u8 0, .int .u8 0, .int .u8 0] 64)) (some ⟨w.heap.size, 0, none⟩) 5 5 axG := by
  have h := World.rowIs_alloc w #[.int .u8 3, .int .u8 0, .int .u8 0, .int .u8 0, .int .u8 0, .int .u8 0, .int .u8 0, .int .u8 0, .int .u8 5, .int .u8 0, .int .u8 0, .int .u8 0, .int .u8 0, .int .u8 0, .int .u8 0, .int .u8 0, .int .u8 6, .int .u8 0, .int .u8 0, .int .u8 0, .int .u8 0, .int .u8 0, .int .u8 0, .int .u8 0, .int .u8 9, .int .u8 0, .int .u8 0, .int .u8 0, .int .u8 0, .int .u8 0, .int .u8 0, .int .u8 0, .int .u8 23, .int .u8 0, .int .u8 0, .int .u8 0, .int .u8 0, .int .u8 0, .int .u8 0, .int .u8 0] 64 (fun idx => .int .u8 ((ent axG (idx / 8) (idx % 8)).toNat : Int)) (fun i hi => by
    have hi : i < 40 := hi
    have key : ∀ i : Fin 40, ((#[3, 0, 0, 0, 0, 0, 0, 0, 5, 0, 0, 0, 0, 0, 0, 0, 6, 0, 0, 0, 0, 0, 0, 0, 9, 0, 0, 0, 0, 0, 0, 0, 23, 0, 0, 0, 0, 0, 0, 0] : Array Int)[i.1]!) = ((ent axG (i.1 / 8) (i.1 % 8)).toNat : Int) := by decide +kernel
    have key2 : ∀ i : Fin 40, (#[.int .u8 3, .int .u8 0, .int .u8 0, .int .u8 0, .int .u8 0, .int .u8 0, .int .u8 0, .int .u8 0, .int .u8 5, .int .u8 0, .int .u8 0, .int .u8 0, .int .u8 0, .int .u8 0, .int .u8 0, .int .u8 0, .int .u8 6, .int .u8 0, .int .u8 0, .int .u8 0, .int .u8 0, .int .u8 0, .int .u8 0, .int .u8 0, .int .u8 9, .int .u8 0, .int .u8 0, .int .u8 0, .int .u8 0, .int .u8 0, .int .u8 0, .int .u8 0, .int .u8 23, .int .u8 0, .int .u8 0, .int .u8 0, .int .u8 0, .int .u8 0, .int .u8 0, .int .u8 0] : Array Value)[i.1]? = some (.int .u8 ((#[3, 0, 0, 0, 0, 0, 0, 0, 5, 0, 0, 0, 0, 0, 0, 0, 6, 0, 0, 0, 0, 0, 0, 0, 9, 0, 0, 0, 0, 0, 0, 0, 23, 0, 0, 0, 0, 0, 0, 0] : Array Int)[i.1]!)) := fun i => by
      obtain ⟨i, hi⟩ := i
      rcases i with _ | _ | _ | _ | _ | _ | _ | _ | _ | _ | _ | _ | _ | _ | _ | _ | _ | _ | _ | _ | _ | _ | _ | _ | _ | _ | _ | _ | _ | _ | _ | _ | _ | _ | _ | _ | _ | _ | _ | _ | i
      all_goals first | rfl | (exfalso; omega)
    rw [key2 ⟨i, hi⟩, key ⟨i, hi⟩])
  refine ⟨rfl, Elm.of_rowIs (n := 5) (s := 8) h trivial (by unfold maxLen; omega) (fun j hj => ?_) (fun j _ => agc_one _) (fun j hj k hk => ?_)⟩
  · rw [agc_size]
    have : ∀ j : Fin 5, (mrow axG j.1).length = 8 := by decide +kernel
    exact this ⟨j, hj⟩
  · rw [agc_at (by
      have : ∀ j : Fin 5, (mrow axG j.1).length = 8 := by decide +kernel
      rw [this ⟨j, hj⟩]; exact hk)]
    have e1 : (j * 8 + k) / 8 = j := by omega
    have e2 : (j * 8 + k) % 8 = k := by omega
    rw [e1, e2]
    rfl
theorem axD_new (w : World) : Blks (fun _ => True) (w.alloc (.cells #[.int .u8 1, .int .u8 0, .int .u8 0, .int .u8 0, .int .u8 0, .int .u8 0, .int .u8 0, .int .u8 0, .int .u8 1, .int .u8 0, .int .u8 0, .int .u8 0, .int .u8 0, .int .u8 0, .int .u8 0, .int .u8 0, .int .u8 6, .int .u8 0, .int .u8 0, .int .u8 0, .int .u8 0, .int .u8 0, .int .u8 0, .int .u8 0, .int .u8 9, .int .u8 0, .int .u8 0, .int .u8 0, .int .u8 0, .int .u8 0, .int .u8 0, .int .u8 0, .int .u8 1, .int .u8 0, .int .u8 0, .int .u8 0, .int .u8 0, .int .u8 0, .int .u8 0, .int .u8 0] 64)) (some ⟨w.heap.size, 0, none⟩) 5 5 axD := by
  have h := World.rowIs_alloc w #[.int .u8 1, .int .u8 0, .int .u8 0, .int .u8 0, .int .u8 0, .int .u8 0, .int .u8 0, .int .u8 0, .int .u8 1, .int .u8 0, .int .u8 0, .int .u8 0, .int .u8 0, .int .u8 0, .int .u8 0, .int .u8 0, .int .u8 6, .int .u8 0, .int .u8 0, .int .u8 0, .int .u8 0, .int .u8 0, .int .u8 0, .int .u8 0, .int .u8 9, .int .u8 0, .int .u8 0, .int .u8 0, .int .u8 0, .int .u8 0, .int .u8 0, .int .u8 0, .int .u8 1, .int .u8 0, .int .u8 0, .int .u8 0, .int .u8 0, .int .u8 0, .int .u8 0, .int .u8 0] 64 (fun idx => .int .u8 ((ent axD (idx / 8) (idx % 8)).toNat : Int)) (fun i hi => by
    have hi : i < 40 := hi
    have key : ∀ i : Fin 40, ((#[1, 0, 0, 0, 0, 0, 0, 0, 1, 0, 0, 0, 0, 0, 0, 0, 6, 0, 0, 0, 0, 0, 0, 0, 9, 0, 0, 0, 0, 0, 0, 0, 1, 0, 0, 0, 0, 0, 0, 0] : Array Int)[i.1]!) = ((ent axD (i.1 / 8) (i.1 % 8)).toNat : Int) := by decide +kernel
    have key2 : ∀ i : Fin 40, (#[.int .u8 1, .int .u8 0, .int .u8 0, .int .u8 0, .int .u8 0, .int .u8 0, .int .u8 0, .int .u8 0, .int .u8 1, .int .u8 0, .int .u8 0, .int .u8 0, .int .u8 0, .int .u8 0, .int .u8 0, .int .u8 0, .int .u8 6, .int .u8 0, .int .u8 0, .int .u8 0, .int .u8 0, .int .u8 0, .int .u8 0, .int .u8 0, .int .u8 9, .int .u8 0, .int .u8 0, .int .u8 0, .int .u8 0, .int .u8 0, .int .u8 0, .int .u8 0, .int .u8 1, .int .u8 0, .int .u8 0, .int .u8 0, .int .u8 0, .int .u8 0, .int .u8 0, .int .u8 0] : Array Value)[i.1]? = some (.int .u8 ((#[1, 0, 0, 0, 0, 0, 0, 0, 1, 0, 0, 0, 0, 0, 0, 0, 6, 0, 0, 0, 0, 0, 0, 0, 9, 0, 0, 0, 0, 0, 0, 0, 1, 0, 0, 0, 0, 0, 0, 0] : Array Int)[i.1]!)) := fun i => by
      obtain ⟨i, hi⟩ := i
      rcases i with _ | _ | _ | _ | _ | _ | _ | _ | _ | _ | _ | _ | _ | _ | _ | _ | _ | _ | _ | _ | _ | _ | _ | _ | _ | _ | _ | _ | _ | _ | _ | _ | _ | _ | _ | _ | _ | _ | _ | _ | i
      all_goals first | rfl | (exfalso; omega)
    rw [key2 ⟨i, hi⟩, key ⟨i, hi⟩])
  refine ⟨rfl, Elm.of_rowIs (n := 5) (s := 8) h trivial (by unfold maxLen; omega) (fun j hj => ?_) (fun j _ => agc_one _) (fun j hj k hk => ?_)⟩
  · rw [agc_size]
    have : ∀ j : Fin 5, (mrow axD j.1).length = 8 := by decide +kernel
    exact this ⟨j, hj⟩
  · rw [agc_at (by
      have : ∀ j : Fin 5, (mrow axD j.1).length = 8 := by decide +kernel
      rw [this ⟨j, hj⟩]; exact hk)]
    have e1 : (j * 8 + k) / 8 = j := by omega
    have e2 : (j * 8 + k) % 8 = k := by omega
    rw [e1, e2]
    rfl
theorem axL_new (w : World) : Blks (fun _ => True) (w.alloc (.cells #[.int .u8 3, .int .u8 0, .int .u8 0, .int .u8 0, .int .u8 0, .int .u8 0, .int .u8 0, .int .u8 0, .int .u8 4, .int .u8 0, .int .u8 0, .int .u8 0, .int .u8 0, .int .u8 0, .int .u8 0, .int .u8 0, .int .u8 6, .int .u8 0, .int .u8 0, .int .u8 0, .int .u8 0, .int .u8 0, .int .u8 0, .int .u8 0, .int .u8 9, .int .u8 0, .int .u8 0, .int .u8 0, .int .u8 0, .int .u8 0, .int .u8 0, .int .u8 0, .int .u8 23, .int .u8 0, .int .u8 0, .int .u8 0, .int .u8 0, .int .u8 0, .int .u8 0, .int .u8 0] 64)) (some ⟨w.heap.size, 0, none⟩) 5 5 axL := by
  have h := World.rowIs_alloc w #[.int .u8 3, .int .u8 0, .int .u8 0, .int .u8 0, .int .u8 0, .int .u8 0, .int .u8 0, .int .u8 0, .int .u8 4, .int .u8 0, .int .u8 0, .int .u8 0, .int .u8 0, .int .u8 0, .int .u8 0, .int .u8 0, .int .u8 6, .int .u8 0, .int .u8 0, .int .u8 0, .int .u8 0, .int .u8 0, .int .u8 0, .int .u8 0, .int .u8 9, .int .u8 0, .int .u8 0, .int .u8 0, .int .u8 0, .int .u8 0, .int .u8 0, .int .u8 0, .int .u8 23, .int .u8 0, .int .u8 0, .int .u8 0, .int .u8 0, .int .u8 0, .int .u8 0, .int .u8 0] 64 (fun idx => .int .u8 ((ent axL (idx / 8) (idx % 8)).toNat : Int)) (fun i hi => by
    have hi : i < 40 := hi
    have key : ∀ i : Fin 40, ((#[3, 0, 0, 0, 0, 0, 0, 0, 4, 0, 0, 0, 0, 0, 0, 0, 6, 0, 0, 0, 0, 0, 0, 0, 9, 0, 0, 0, 0, 0, 0, 0, 23, 0, 0, 0, 0, 0, 0, 0] : Array Int)[i.1]!) = ((ent axL (i.1 / 8) (i.1 % 8)).toNat : Int) := by decide +kernel
    have key2 : ∀ i : Fin 40, (#[.int .u8 3, .int .u8 0, .int .u8 0, .int .u8 0, .int .u8 0, .int .u8 0, .int .u8 0, .int .u8 0, .int .u8 4, .int .u8 0, .int .u8 0, .int .u8 0, .int .u8 0, .int .u8 0, .int .u8 0, .int .u8 0, .int .u8 6, .int .u8 0, .int .u8 0, .int .u8 0, .int .u8 0, .int .u8 0, .int .u8 0, .int .u8 0, .int .u8 9, .int .u8 0, .int .u8 0, .int .u8 0, .int .u8 0, .int .u8 0, .int .u8 0, .int .u8 0, .int .u8 23, .int .u8 0, .int .u8 0, .int .u8 0, .int .u8 0, .int .u8 0, .int .u8 0, .int .u8 0] : Array Value)[i.1]? = some (.int .u8 ((#[3, 0, 0, 0, 0, 0, 0, 0, 4, 0, 0, 0, 0, 0, 0, 0, 6, 0, 0, 0, 0, 0, 0, 0, 9, 0, 0, 0, 0, 0, 0, 0, 23, 0, 0, 0, 0, 0, 0, 0] : Array Int)[i.1]!)) := fun i => by
      obtain ⟨i, hi⟩ := i
      rcases i with _ | _ | _ | _ | _ | _ | _ | _ | _ | _ | _ | _ | _ | _ | _ | _ | _ | _ | _ | _ | _ | _ | _ | _ | _ | _ | _ | _ | _ | _ | _ | _ | _ | _ | _ | _ | _ | _ | _ | _ | i
      all_goals first | rfl | (exfalso; omega)
    rw [key2 ⟨i, hi⟩, key ⟨i, hi⟩])
  refine ⟨rfl, Elm.of_rowIs (n := 5) (s := 8) h trivial (by unfold maxLen; omega) (fun j hj => ?_) (fun j _ => agc_one _) (fun j hj k hk => ?_)⟩
  · rw [agc_size]
    have : ∀ j : Fin 5, (mrow axL j.1).length = 8 := by decide +kernel
    exact this ⟨j, hj⟩
  · rw [agc_at (by
      have : ∀ j : Fin 5, (mrow axL j.1).length = 8 := by decide +kernel
      rw [this ⟨j, hj⟩]; exact hk)]
    have e1 : (j * 8 + k) / 8 = j := by omega
    have e2 : (j * 8 + k) % 8 = k := by omega
    rw [e1, e2]
    rfl
theorem axB_new (w : World) : Bools (fun _ => True) (w.alloc (.cells #[.bool true, .bool true, .bool false, .bool false, .bool true] 4)) (some ⟨w.heap.size, 0, none⟩) 5 5 axB := by
  have h := World.rowIs_alloc w #[.bool true, .bool true, .bool false, .bool false, .bool true] 4 (fun j => .bool (ntb axB j)) (fun i hi => by
    have hi : i < 5 := hi
    rcases i with _ | _ | _ | _ | _ | i
    all_goals first | rfl | (exfalso; omega))
  exact ⟨rfl, Row.of_rowIs h trivial (by unfold maxLen; omega)⟩
theorem weights_at {p : Nat → Prop} {w : World} {A : Option Addr} {n c wd : Nat} {l : List Int} (t : Nat) (hwd : wd = n + 3) (h1n : 1 ≤ n) (h13 : n ≤ 13) (h : Ints p w A n c l) (ht : t < wd) (hk : HelpOk wd n l) : Calls Try.prog 66 #[.int .i64 (wd : Int), .slice A n c, .int .i64 (t : Int)] w fun e w' => ∃ A' c', e = .returned (.tuple #[.slice A' n c', .int .i64 0]) ∧ Byt (fun _ => True) w' A' n c' (wts n (fromF l) t) ∧ Below w.heap.size w w' := weights_ok hwd h1n h13 h ht hk
theorem axw1 (W : World) : Calls Try.prog 66 #[.int .i64 5, .slice (some ⟨W.heap.size, 0, none⟩) 2 2, .int .i64 0] (W.alloc (.cells #[.int .i64 1, .int .i64 2] 3)) fun e w' => ∃ A' c', e = .returned (.tuple #[.slice A' 2 c', .int .i64 0]) ∧ Byt (fun _ => True) w' A' 2 c' [1, 1] ∧ Below W.heap.size W w' := by
  have hb : Below W.heap.size W (W.alloc (.cells #[.int .i64 1, .int .i64 2] 3)) := (Below.refl _ _).alloc (Nat.le_refl _) _
  refine (weights_at (wd := 5) (n := 2) 0 rfl (by decide) (by decide) (ints_newx W [1, 2] 3 (by unfold maxLen; simp)) (by decide) (by intro j hj; rcases (show j = 0 ∨ j = 1 by omega) with rfl | rfl <;> decide)).mono fun e w' he => ?_
  obtain ⟨A', c', h1, h2, h3⟩ := he
  rw [ax_w1] at h2
  exact ⟨A', c', h1, h2, below_then2 hb h3⟩
theorem axw2 (W : World) : Calls Try.prog 66 #[.int .i64 5, .slice (some ⟨W.heap.size, 0, none⟩) 2 2, .int .i64 0] (W.alloc (.cells #[.int .i64 1, .int .i64 3] 3)) fun e w' => ∃ A' c', e = .returned (.tuple #[.slice A' 2 c', .int .i64 0]) ∧ Byt (fun _ => True) w' A' 2 c' [2, 1] ∧ Below W.heap.size W w' := by
  have hb : Below W.heap.size W (W.alloc (.cells #[.int .i64 1, .int .i64 3] 3)) := (Below.refl _ _).alloc (Nat.le_refl _) _
  refine (weights_at (wd := 5) (n := 2) 0 rfl (by decide) (by decide) (ints_newx W [1, 3] 3 (by unfold maxLen; simp)) (by decide) (by intro j hj; rcases (show j = 0 ∨ j = 1 by omega) with rfl | rfl <;> decide)).mono fun e w' he => ?_
  obtain ⟨A', c', h1, h2, h3⟩ := he
  rw [ax_w2] at h2
  exact ⟨A', c', h1, h2, below_then2 hb h3⟩
theorem axdec (W : World) {A B : Option Addr} (h : Blks (fun _ => True) W A 5 5 axD) (g : Bools (fun _ => True) W B 5 5 axB) : Calls Try.prog 73 #[.slice A 5 5, .slice B 5 5] W fun e w' => ∃ A' c', e = .returned (.tuple #[.slice A' 5 c', .int .i64 0]) ∧ Blks (fun _ => True) w' A' 5 c' axG ∧ Below W.heap.size W w' := by
  have := decode_any (wd := 5) (by decide) (by decide) h g (.inr ⟨ax_lost, rfl, rfl, rfl⟩)
  rw [ax_dec] at this
  exact this
theorem axloc (W : World) {A : Option Addr} (h : Blks (fun _ => True) W A 5 5 axL) : Calls Try.prog 80 #[.slice A 5 5] W fun e w' => e = .returned (.tuple #[.int .i64 1, .int .i64 0]) ∧ Below W.heap.size W w' := by
  refine (locate_any (wd := 5) (by decide) (by decide) h).mono fun e w' he => ?_
  obtain ⟨r, er, h1, h2, h3⟩ := he
  obtain ⟨rfl, rfl⟩ := ax_loc h2
  exact ⟨h1, h3⟩
end Go.Proofs.Ytifhjigkljdkmaa
namespace Go.Proofs.Ytifhjigkljdkmaa
open Go.RowKit
open Gf (F)
set_option linter.unusedSimpArgs false
set_option linter.unusedVariables false
theorem ax3 (W : World) : Blks (fun _ => True) (((W.alloc (.cells #[.int .u8 3, .int .u8 0, .int .u8 0, .int .u8 0, .int .u8 0, .int .u8 0, .int .u8 0, .int .u8 0, .int .u8 5, .int .u8 0, .int .u8 0, .int .u8 0, .int .u8 0, .int .u8 0, .int .u8 0, .int .u8 0, .int .u8 6, .int .u8 0, .int .u8 0, .int .u8 0, .int .u8 0, .int .u8 0, .int .u8 0, .int .u8 0, .int .u8 9, .int .u8 0, .int .u8 0, .int .u8 0, .int .u8 0, .int .u8 0, .int .u8 0, .int .u8 0, .int .u8 23, .int .u8 0, .int .u8 0, .int .u8 0, .int .u8 0, .int .u8 0, .int .u8 0, .int .u8 0] 64)).alloc (.cells #[.int .u8 1, .int .u8 0, .int .u8 0, .int .u8 0, .int .u8 0, .int .u8 0, .int .u8 0, .int .u8 0, .int .u8 1, .int .u8 0, .int .u8 0, .int .u8 0, .int .u8 0, .int .u8 0, .int .u8 0, .int .u8 0, .int .u8 6, .int .u8 0, .int .u8 0, .int .u8 0, .int .u8 0, .int .u8 0, .int .u8 0, .int .u8 0, .int .u8 9, .int .u8 0, .int .u8 0, .int .u8 0, .int .u8 0, .int .u8 0, .int .u8 0, .int .u8 0, .int .u8 1, .int .u8 0, .int .u8 0, .int .u8 0, .int .u8 0, .int .u8 0, .int .u8 0, .int .u8 0] 64)).alloc (.cells #[.bool true, .bool true, .bool false, .bool false, .bool true] 4)) (some ⟨W.heap.size, 0, none⟩) 5 5 axG ∧ Blks (fun _ => True) (((W.alloc (.cells #[.int .u8 3, .int .u8 0, .int .u8 0, .int .u8 0, .int .u8 0, .int .u8 0, .int .u8 0, .int .u8 0, .int .u8 5, .int .u8 0, .int .u8 0, .int .u8 0, .int .u8 0, .int .u8 0, .int .u8 0, .int .u8 0, .int .u8 6, .int .u8 0, .int .u8 0, .int .u8 0, .int .u8 0, .int .u8 0, .int .u8 0, .int .u8 0, .int .u8 9, .int .u8 0, .int .u8 0, .int .u8 0, .int .u8 0, .int .u8 0, .int .u8 0, .int .u8 0, .int .u8 23, .int .u8 0, .int .u8 0, .int .u8 0, .int .u8 0, .int .u8 0, .int .u8 0, .int .u8 0] 64)).alloc (.cells #[.int .u8 1, .int .u8 0, .int .u8 0, .int .u8 0, .int .u8 0, .int .u8 0, .int .u8 0, .int .u8 0, .int .u8 1, .int .u8 0, .int .u8 0, .int .u8 0, .int .u8 0, .int .u8 0, .int .u8 0, .int .u8 0, .int .u8 6, .int .u8 0, .int .u8 0, .int .u8 0, .int .u8 0, .int .u8 0, .int .u8 0, .int .u8 0, .int .u8 9, .int .u8 0, .int .u8 0, .int .u8 0, .int .u8 0, .int .u8 0, .int .u8 0, .int .u8 0, .int .u8 1, .int .u8 0, .int .u8 0, .int .u8 0, .int .u8 0, .int .u8 0, .int .u8 0, .int .u8 0] 64)).alloc (.cells #[.bool true, .bool true, .bool false, .bool false, .bool true] 4)) (some ⟨W.heap.size + 1, 0, none⟩) 5 5 axD ∧ Bools (fun _ => True) (((W.alloc (.cells #[.int .u8 3, .int .u8 0, .int .u8 0, .int .u8 0, .int .u8 0, .int .u8 0, .int .u8 0, .int .u8 0, .int .u8 5, .int .u8 0, .int .u8 0, .int .u8 0, .int .u8 0, .int .u8 0, .int .u8 0, .int .u8 0, .int .u8 6, .int .u8 0, .int .u8 0, .int .u8 0, .int .u8 0, .int .u8 0, .int .u8 0, .int .u8 0, .int .u8 9, .int .u8 0, .int .u8 0, .int .u8 0, .int .u8 0, .int .u8 0, .int .u8 0, .int .u8 0, .int .u8 23, .int .u8 0, .int .u8 0, .int .u8 0, .int .u8 0, .int .u8 0, .int .u8 0, .int .u8 0] 64)).alloc (.cells #[.int .u8 1, .int .u8 0, .int .u8 0, .int .u8 0, .int .u8 0, .int .u8 0, .int .u8 0, .int .u8 0, .int .u8 1, .int .u8 0, .int .u8 0, .int .u8 0, .int .u8 0, .int .u8 0, .int .u8 0, .int .u8 0, .int .u8 6, .int .u8 0, .int .u8 0, .int .u8 0, .int .u8 0, .int .u8 0, .int .u8 0, .int .u8 0, .int .u8 9, .int .u8 0, .int .u8 0, .int .u8 0, .int .u8 0, .int .u8 0, .int .u8 0, .int .u8 0, .int .u8 1, .int .u8 0, .int .u8 0, .int .u8 0, .int .u8 0, .int .u8 0, .int .u8 0, .int .u8 0] 64)).alloc (.cells #[.bool true, .bool true, .bool false, .bool false, .bool true] 4)) (some ⟨W.heap.size + 1 + 1, 0, none⟩) 5 5 axB ∧ Below W.heap.size W (((W.alloc (.cells #[.int .u8 3, .int .u8 0, .int .u8 0, .int .u8 0, .int .u8 0, .int .u8 0, .int .u8 0, .int .u8 0, .int .u8 5, .int .u8 0, .int .u8 0, .int .u8 0, .int .u8 0, .int .u8 0, .int .u8 0, .int .u8 0, .int .u8 6, .int .u8 0, .int .u8 0, .int .u8 0, .int .u8 0, .int .u8 0, .int .u8 0, .int .u8 0, .int .u8 9, .int .u8 0, .int .u8 0, .int .u8 0, .int .u8 0, .int .u8 0, .int .u8 0, .int .u8 0, .int .u8 23, .int .u8 0, .int .u8 0, .int .u8 0, .int .u8 0, .int .u8 0, .int .u8 0, .int .u8 0] 64)).alloc (.cells #[.int .u8 1, .int .u8 0, .int .u8 0, .int .u8 0, .int .u8 0, .int .u8 0, .int .u8 0, .int .u8 0, .int .u8 1, .int .u8 0, .int .u8 0, .int .u8 0, .int .u8 0, .int .u8 0, .int .u8 0, .int .u8 0, .int .u8 6, .int .u8 0, .int .u8 0, .int .u8 0, .int .u8 0, .int .u8 0, .int .u8 0, .int .u8 0, .int .u8 9, .int .u8 0, .int .u8 0, .int .u8 0, .int .u8 0, .int .u8 0, .int .u8 0, .int .u8 0, .int .u8 1, .int .u8 0, .int .u8 0, .int .u8 0, .int .u8 0, .int .u8 0, .int .u8 0, .int .u8 0] 64)).alloc (.cells #[.bool true, .bool true, .bool false, .bool false, .bool true] 4)) := by
  have g1 := axG_new W
  have g2 := axD_new (W.alloc (.cells #[.int .u8 3, .int .u8 0, .int .u8 0, .int .u8 0, .int .u8 0, .int .u8 0, .int .u8 0, .int .u8 0, .int .u8 5, .int .u8 0, .int .u8 0, .int .u8 0, .int .u8 0, .int .u8 0, .int .u8 0, .int .u8 0, .int .u8 6, .int .u8 0, .int .u8 0, .int .u8 0, .int .u8 0, .int .u8 0, .int .u8 0, .int .u8 0, .int .u8 9, .int .u8 0, .int .u8 0, .int .u8 0, .int .u8 0, .int .u8 0, .int .u8 0, .int .u8 0, .int .u8 23, .int .u8 0, .int .u8 0, .int .u8 0, .int .u8 0, .int .u8 0, .int .u8 0, .int .u8 0] 64))
  have g3 := axB_new ((W.alloc (.cells #[.int .u8 3, .int .u8 0, .int .u8 0, .int .u8 0, .int .u8 0, .int .u8 0, .int .u8 0, .int .u8 0, .int .u8 5, .int .u8 0, .int .u8 0, .int .u8 0, .int .u8 0, .int .u8 0, .int .u8 0, .int .u8 0, .int .u8 6, .int .u8 0, .int .u8 0, .int .u8 0, .int .u8 0, .int .u8 0, .int .u8 0, .int .u8 0, .int .u8 9, .int .u8 0, .int .u8 0, .int .u8 0, .int .u8 0, .int .u8 0, .int .u8 0, .int .u8 0, .int .u8 23, .int .u8 0, .int .u8 0, .int .u8 0, .int .u8 0, .int .u8 0, .int .u8 0, .int .u8 0] 64)).alloc (.cells #[.int .u8 1, .int .u8 0, .int .u8 0, .int .u8 0, .int .u8 0, .int .u8 0, .int .u8 0, .int .u8 0, .int .u8 1, .int .u8 0, .int .u8 0, .int .u8 0, .int .u8 0, .int .u8 0, .int .u8 0, .int .u8 0, .int .u8 6, .int .u8 0, .int .u8 0, .int .u8 0, .int .u8 0, .int .u8 0, .int .u8 0, .int .u8 0, .int .u8 9, .int .u8 0, .int .u8 0, .int .u8 0, .int .u8 0, .int .u8 0, .int .u8 0, .int .u8 0, .int .u8 1, .int .u8 0, .int .u8 0, .int .u8 0, .int .u8 0, .int .u8 0, .int .u8 0, .int .u8 0] 64))
  have b1 : Below W.heap.size W (W.alloc (.cells #[.int .u8 3, .int .u8 0, .int .u8 0, .int .u8 0, .int .u8 0, .int .u8 0, .int .u8 0, .int .u8 0, .int .u8 5, .int .u8 0, .int .u8 0, .int .u8 0, .int .u8 0, .int .u8 0, .int .u8 0, .int .u8 0, .int .u8 6, .int .u8 0, .int .u8 0, .int .u8 0, .int .u8 0, .int .u8 0, .int .u8 0, .int .u8 0, .int .u8 9, .int .u8 0, .int .u8 0, .int .u8 0, .int .u8 0, .int .u8 0, .int .u8 0, .int .u8 0, .int .u8 23, .int .u8 0, .int .u8 0, .int .u8 0, .int .u8 0, .int .u8 0, .int .u8 0, .int .u8 0] 64)) := (Below.refl _ _).alloc (Nat.le_refl _) _
  have b2 : Below (W.alloc (.cells #[.int .u8 3, .int .u8 0, .int .u8 0, .int .u8 0, .int .u8 0, .int .u8 0, .int .u8 0, .int .u8 0, .int .u8 5, .int .u8 0, .int .u8 0, .int .u8 0, .int .u8 0, .int .u8 0, .int .u8 0, .int .u8 0, .int .u8 6, .int .u8 0, .int .u8 0, .int .u8 0, .int .u8 0, .int .u8 0, .int .u8 0, .int .u8 0, .int .u8 9, .int .u8 0, .int .u8 0, .int .u8 0, .int .u8 0, .int .u8 0, .int .u8 0, .int .u8 0, .int .u8 23, .int .u8 0, .int .u8 0, .int .u8 0, .int .u8 0, .int .u8 0, .int .u8 0, .int .u8 0] 64)).heap.size (W.alloc (.cells #[.int .u8 3, .int .u8 0, .int .u8 0, .int .u8 0, .int .u8 0, .int .u8 0, .int .u8 0, .int .u8 0, .int .u8 5, .int .u8 0, .int .u8 0, .int .u8 0, .int .u8 0, .int .u8 0, .int .u8 0, .int .u8 0, .int .u8 6, .int .u8 0, .int .u8 0, .int .u8 0, .int .u8 0, .int .u8 0, .int .u8 0, .int .u8 0, .int .u8 9, .int .u8 0, .int .u8 0, .int .u8 0, .int .u8 0, .int .u8 0, .int .u8 0, .int .u8 0, .int .u8 23, .int .u8 0, .int .u8 0, .int .u8 0, .int .u8 0, .int .u8 0, .int .u8 0, .int .u8 0] 64)) ((W.alloc (.cells #[.int .u8 3, .int .u8 0, .int .u8 0, .int .u8 0, .int .u8 0, .int .u8 0, .int .u8 0, .int .u8 0, .int .u8 5, .int .u8 0, .int .u8 0, .int .u8 0, .int .u8 0, .int .u8 0, .int .u8 0, .int .u8 0, .int .u8 6, .int .u8 0, .int .u8 0, .int .u8 0, .int .u8 0, .int .u8 0, .int .u8 0, .int .u8 0, .int .u8 9, .int .u8 0, .int .u8 0, .int .u8 0, .int .u8 0, .int .u8 0, .int .u8 0, .int .u8 0, .int .u8 23, .int .u8 0, .int .u8 0, .int .u8 0, .int .u8 0, .int .u8 0, .int .u8 0, .int .u8 0] 64)).alloc (.cells #[.int .u8 1, .int .u8 0, .int .u8 0, .int .u8 0, .int .u8 0, .int .u8 0, .int .u8 0, .int .u8 0, .int .u8 1, .int .u8 0, .int .u8 0, .int .u8 0, .int .u8 0, .int .u8 0, .int .u8 0, .int .u8 0, .int .u8 6, .int .u8 0, .int .u8 0, .int .u8 0, .int .u8 0, .int .u8 0, .int .u8 0, .int .u8 0, .int .u8 9, .int .u8 0, .int .u8 0, .int .u8 0, .int .u8 0, .int .u8 0, .int .u8 0, .int .u8 0, .int .u8 1, .int .u8 0, .int .u8 0, .int .u8 0, .int .u8 0, .int .u8 0, .int .u8 0, .int .u8 0] 64)) := (Below.refl _ _).alloc (Nat.le_refl _) _
  have b3 : Below ((W.alloc (.cells #[.int .u8 3, .int .u8 0, .int .u8 0, .int .u8 0, .int .u8 0, .int .u8 0, .int .u8 0, .int .u8 0, .int .u8 5, .int .u8 0, .int .u8 0, .int .u8 0, .int .u8 0, .int .u8 0, .int .u8 0, .int .u8 0, .int .u8 6, .int .u8 0, .int .u8 0, .int .u8 0, .int .u8 0, .int .u8 0, .int .u8 0, .int .u8 0, .int .u8 9, .int .u8 0, .int .u8 0, .int .u8 0, .int .u8 0, .int .u8 0, .int .u8 0, .int .u8 0, .int .u8 23, .int .u8 0, .int .u8 0, .int .u8 0, .int .u8 0, .int .u8 0, .int .u8 0, .int .u8 0] 64)).alloc (.cells #[.int .u8 1, .int .u8 0, .int .u8 0, .int .u8 0, .int .u8 0, .int .u8 0, .int .u8 0, .int .u8 0, .int .u8 1, .int .u8 0, .int .u8 0, .int .u8 0, .int .u8 0, .int .u8 0, .int .u8 0, .int .u8 0, .int .u8 6, .int .u8 0, .int .u8 0, .int .u8 0, .int .u8 0, .int .u8 0, .int .u8 0, .int .u8 0, .int .u8 9, .int .u8 0, .int .u8 0, .int .u8 0, .int .u8 0, .int .u8 0, .int .u8 0, .int .u8 0, .int .u8 1, .int .u8 0, .int .u8 0, .int .u8 0, .int .u8 0, .int .u8 0, .int .u8 0, .int .u8 0] 64)).heap.size ((W.alloc (.cells #[.int .u8 3, .int .u8 0, .int .u8 0, .int .u8 0, .int .u8 0, .int .u8 0, .int .u8 0, .int .u8 0, .int .u8 5, .int .u8 0, .int .u8 0, .int .u8 0, .int .u8 0, .int .u8 0, .int .u8 0, .int .u8 0, .int .u8 6, .int .u8 0, .int .u8 0, .int .u8 0, .int .u8 0, .int .u8 0, .int .u8 0, .int .u8 0, .int .u8 9, .int .u8 0, .int .u8 0, .int .u8 0, .int .u8 0, .int .u8 0, .int .u8 0, .int .u8 0, .int .u8 23, .int .u8 0, .int .u8 0, .int .u8 0, .int .u8 0, .int .u8 0, .int .u8 0, .int .u8 0] 64)).alloc (.cells #[.int .u8 1, .int .u8 0, .int .u8 0, .int .u8 0, .int .u8 0, .int .u8 0, .int .u8 0, .int .u8 0, .int .u8 1, .int .u8 0, .int .u8 0, .int .u8 0, .int .u8 0, .int .u8 0, .int .u8 0, .int .u8 0, .int .u8 6, .int .u8 0, .int .u8 0, .int .u8 0, .int .u8 0, .int .u8 0, .int .u8 0, .int .u8 0, .int .u8 9, .int .u8 0, .int .u8 0, .int .u8 0, .int .u8 0, .int .u8 0, .int .u8 0, .int .u8 0, .int .u8 1, .int .u8 0, .int .u8 0, .int .u8 0, .int .u8 0, .int .u8 0, .int .u8 0, .int .u8 0] 64)) (((W.alloc (.cells #[.int .u8 3, .int .u8 0, .int .u8 0, .int .u8 0, .int .u8 0, .int .u8 0, .int .u8 0, .int .u8 0, .int .u8 5, .int .u8 0, .int .u8 0, .int .u8 0, .int .u8 0, .int .u8 0, .int .u8 0, .int .u8 0, .int .u8 6, .int .u8 0, .int .u8 0, .int .u8 0, .int .u8 0, .int .u8 0, .int .u8 0, .int .u8 0, .int .u8 9, .int .u8 0, .int .u8 0, .int .u8 0, .int .u8 0, .int .u8 0, .int .u8 0, .int .u8 0, .int .u8 23, .int .u8 0, .int .u8 0, .int .u8 0, .int .u8 0, .int .u8 0, .int .u8 0, .int .u8 0] 64)).alloc (.cells #[.int .u8 1, .int .u8 0, .int .u8 0, .int .u8 0, .int .u8 0, .int .u8 0, .int .u8 0, .int .u8 0, .int .u8 1, .int .u8 0, .int .u8 0, .int .u8 0, .int .u8 0, .int .u8 0, .int .u8 0, .int .u8 0, .int .u8 6, .int .u8 0, .int .u8 0, .int .u8 0, .int .u8 0, .int .u8 0, .int .u8 0, .int .u8 0, .int .u8 9, .int .u8 0, .int .u8 0, .int .u8 0, .int .u8 0, .int .u8 0, .int .u8 0, .int .u8 0, .int .u8 1, .int .u8 0, .int .u8 0, .int .u8 0, .int .u8 0, .int .u8 0, .int .u8 0, .int .u8 0] 64)).alloc (.cells #[.bool true, .bool true, .bool false, .bool false, .bool true] 4)) := (Below.refl _ _).alloc (Nat.le_refl _) _
  have g1' := (g1.below b2).below b3
  have g2' := g2.below b3
  rw [size_alloc1] at g2'
  rw [size_alloc1, size_alloc1] at g3
  exact ⟨g1', g2', g3, below_then2 (below_then2 b1 b2) b3⟩
theorem axdecW (W : World) : Calls Try.prog 73 #[.slice (some ⟨W.heap.size + 1, 0, none⟩) 5 5, .slice (some ⟨W.heap.size + 1 + 1, 0, none⟩) 5 5] (((W.alloc (.cells #[.int .u8 3, .int .u8 0, .int .u8 0, .int .u8 0, .int .u8 0, .int .u8 0, .int .u8 0, .int .u8 0, .int .u8 5, .int .u8 0, .int .u8 0, .int .u8 0, .int .u8 0, .int .u8 0, .int .u8 0, .int .u8 0, .int .u8 6, .int .u8 0, .int .u8 0, .int .u8 0, .int .u8 0, .int .u8 0, .int .u8 0, .int .u8 0, .int .u8 9, .int .u8 0, .int .u8 0, .int .u8 0, .int .u8 0, .int .u8 0, .int .u8 0, .int .u8 0, .int .u8 23, .int .u8 0, .int .u8 0, .int .u8 0, .int .u8 0, .int .u8 0, .int .u8 0, .int .u8 0] 64)).alloc (.cells #[.int .u8 1, .int .u8 0, .int .u8 0, .int .u8 0, .int .u8 0, .int .u8 0, .int .u8 0, .int .u8 0, .int .u8 1, .int .u8 0, .int .u8 0, .int .u8 0, .int .u8 0, .int .u8 0, .int .u8 0, .int .u8 0, .int .u8 6, .int .u8 0, .int .u8 0, .int .u8 0, .int .u8 0, .int .u8 0, .int .u8 0, .int .u8 0, .int .u8 9, .int .u8 0, .int .u8 0, .int .u8 0, .int .u8 0, .int .u8 0, .int .u8 0, .int .u8 0, .int .u8 1, .int .u8 0, .int .u8 0, .int .u8 0, .int .u8 0, .int .u8 0, .int .u8 0, .int .u8 0] 64)).alloc (.cells #[.bool true, .bool true, .bool false, .bool false, .bool true] 4)) fun e w' => ∃ A' c', e = .returned (.tuple #[.slice A' 5 c', .int .i64 0]) ∧ Blks (fun _ => True) w' A' 5 c' axG ∧ Blks (fun _ => True) w' (some ⟨W.heap.size, 0, none⟩) 5 5 axG ∧ Below W.heap.size W w' := by
  obtain ⟨f1, f2, f3, f4⟩ := ax3 W
  refine (axdec _ f2 f3).mono fun e w' he => ?_
  obtain ⟨A', c', h1, h2, h3⟩ := he
  exact ⟨A', c', h1, h2, f1.below h3, below_then2 f4 h3⟩
theorem axlocW (W : World) : Calls Try.prog 80 #[.slice (some ⟨W.heap.size, 0, none⟩) 5 5] (W.alloc (.cells #[.int .u8 3, .int .u8 0, .int .u8 0, .int .u8 0, .int .u8 0, .int .u8 0, .int .u8 0, .int .u8 0, .int .u8 4, .int .u8 0, .int .u8 0, .int .u8 0, .int .u8 0, .int .u8 0, .int .u8 0, .int .u8 0, .int .u8 6, .int .u8 0, .int .u8 0, .int .u8 0, .int .u8 0, .int .u8 0, .int .u8 0, .int .u8 0, .int .u8 9, .int .u8 0, .int .u8 0, .int .u8 0, .int .u8 0, .int .u8 0, .int .u8 0, .int .u8 0, .int .u8 23, .int .u8 0, .int .u8 0, .int .u8 0, .int .u8 0, .int .u8 0, .int .u8 0, .int .u8 0] 64)) fun e w' => e = .returned (.tuple #[.int .i64 1, .int .i64 0]) ∧ Below W.heap.size W w' := by
  have hb : Below W.heap.size W (W.alloc (.cells #[.int .u8 3, .int .u8 0, .int .u8 0, .int .u8 0, .int .u8 0, .int .u8 0, .int .u8 0, .int .u8 0, .int .u8 4, .int .u8 0, .int .u8 0, .int .u8 0, .int .u8 0, .int .u8 0, .int .u8 0, .int .u8 0, .int .u8 6, .int .u8 0, .int .u8 0, .int .u8 0, .int .u8 0, .int .u8 0, .int .u8 0, .int .u8 0, .int .u8 9, .int .u8 0, .int .u8 0, .int .u8 0, .int .u8 0, .int .u8 0, .int .u8 0, .int .u8 0, .int .u8 23, .int .u8 0, .int .u8 0, .int .u8 0, .int .u8 0, .int .u8 0, .int .u8 0, .int .u8 0] 64)) := (Below.refl _ _).alloc (Nat.le_refl _) _
  refine (axloc _ (axL_new W)).mono fun e w' he => ?_
  exact ⟨he.1, below_then2 hb he.2⟩
theorem bytes_new2 (W : World) (a b : F) : Byt (fun _ => True) (W.alloc (.cells #[.int .u8 (a.toNat : Int), .int .u8 (b.toNat : Int)] 5)) (some ⟨W.heap.size, 0, none⟩) 2 2 [a, b] := by
  have h := World.rowIs_alloc W #[.int .u8 (a.toNat : Int), .int .u8 (b.toNat : Int)] 5 (fun j => .int .u8 ((nth [a, b] j).toNat : Int)) (fun i hi => by
    have hi : i < 2 := hi
    rcases i with _ | _ | i
    all_goals first | rfl | (exfalso; omega))
  exact ⟨rfl, Row.of_rowIs h trivial (by unfold maxLen; omega)⟩
theorem axs1 (W : World) {A : Option Addr} {c : Nat} (h : Byt (fun _ => True) W A 2 c [1, 1]) : Calls Try.prog 43 #[.slice A 2 c, .slice (some ⟨W.heap.size, 0, none⟩) 2 2] (W.alloc (.cells #[.int .u8 1, .int .u8 1] 5)) fun e w' => e = .returned (.bool true) ∧ Below W.heap.size W w' := by
  have hb : Below W.heap.size W (W.alloc (.cells #[.int .u8 1, .int .u8 1] 5)) := (Below.refl _ _).alloc (Nat.le_refl _) _
  refine (same01_any (h.below hb) (bytes_new2 W 1 1)).mono fun e w' he => ?_
  obtain ⟨h1, rfl⟩ := he
  exact ⟨h1, hb⟩
theorem axs2 (W : World) {A : Option Addr} {c : Nat} (h : Byt (fun _ => True) W A 2 c [2, 1]) : Calls Try.prog 43 #[.slice A 2 c, .slice (some ⟨W.heap.size, 0, none⟩) 2 2] (W.alloc (.cells #[.int .u8 2, .int .u8 1] 5)) fun e w' => e = .returned (.bool true) ∧ Below W.heap.size W w' := by
  have hb : Below W.heap.size W (W.alloc (.cells #[.int .u8 2, .int .u8 1] 5)) := (Below.refl _ _).alloc (Nat.le_refl _) _
  refine (same01_any (h.below hb) (bytes_new2 W 2 1)).mono fun e w' he => ?_
  obtain ⟨h1, rfl⟩ := he
  exact ⟨h1, hb⟩
set_option maxRecDepth 100000 in
set_option maxHeartbeats 4000000 in
theorem awake04_any (w : World) : Calls Try.prog 65 #[] w fun e w' => e = .returned (.bool true) ∧ Below w.heap.size w w' := by
  go_enter Try.func65, Try.ntmps65
  go_wp2_with (first | (go_at_call 66; (with_reducible refine (axw1 _).mono ?_); rintro e w1 ⟨A1, k1, rfl, hy1, hb1⟩) | (go_at_call 66; (with_reducible refine (axw2 _).mono ?_); rintro e w2 ⟨A2, k2, rfl, hy2, hb2⟩; have hB2 := below_then2 hb1 hb2; have hy12 := hy1.below hb2) | (go_at_call 73; (with_reducible refine (axdecW w2).mono ?_); rintro e w3 ⟨A3, k3, rfl, hD3, hG3, hb3⟩; have hB3 := below_then2 hB2 hb3; have hy13 := hy12.below hb3; have hy23 := hy2.below hb3) | (go_at_call 80; (with_reducible refine (axlocW w3).mono ?_); rintro e w4 ⟨rfl, hb4⟩; have hB4 := below_then2 hB3 hb4; have hy14 := hy13.below hb4; have hy24 := hy23.below hb4; have hD4 := hD3.below hb4; have hG4 := hG3.below hb4) | (go_at_call 43; (with_reducible refine (axs1 _ hy14).mono ?_); rintro e w5 ⟨rfl, hb5⟩; have hB5 := below_then2 hB4 hb5; have hy25 := hy24.below hb5; have hD5 := hD4.below hb5; have hG5 := hG4.below hb5) | (go_at_call 43; (with_reducible refine (axs2 _ hy25).mono ?_); rintro e w6 ⟨rfl, hb6⟩; have hB6 := below_then2 hB5 hb6; have hD6 := hD5.below hb6; have hG6 := hG5.below hb6) | (go_at_call 74; (with_reducible refine (same03_any hD6 hG6).mono ?_); rw [show decide (axG = axG) = true from decide_eq_true rfl]; rintro e w7 ⟨rfl, nd, rfl⟩; have hB7 := below_drewN hB6 nd))
  go_ret
  exact ⟨rfl, hB7⟩
end Go.Proofs.Ytifhjigkljdkmaa
