/- GfmatrixAlgebra: how its argument, an array of three arrays of bytes, is opened. -/
import Derived.Test.YtifhjigkljdkmaaL15
import Derived.Test.YtifhjigkljdkmaaOp
import Derived.OpenShut
namespace Go.Proofs.Ytifhjigkljdkmaa
open Go.RowKit Go.ChangeShapes Go.WideShapes Go.Deep
open Gf (F)
set_option linter.unusedSimpArgs false
set_option linter.unusedVariables false
set_option maxRecDepth 100000
structure ArrB (N : Nat) (cs : Array Value) (X : List F) : Prop where
  size : cs.size = N
  len : X.length = N
  cell : ∀ j, j < N → cs[j]? = some (.int .u8 ((nth X j).toNat : Int))
theorem ArrB.box {N : Nat} {cs : Array Value} {X : List F} (h : ArrB N cs X) (hN : N ≤ maxLen) (w : World) (t : TypeId) : Byt (fun _ => True) (w.alloc (.cells cs t)) (some ⟨w.heap.size, 0, none⟩) N N X := by
  have hr : (w.alloc (.cells cs t)).rowIs w.heap.size t N fun j => .int .u8 ((nth X j).toNat : Int) := by
    rw [← h.size]
    exact World.rowIs_alloc w cs t _ fun i hi => h.cell i (by rw [← h.size]; exact hi)
  exact Byt.of_rowIs hr h.len trivial hN
theorem cells5' : Try.prog.cellsOf 5 = 1 := by kernel_rfl
theorem cells77 : Try.prog.cellsOf 77 = 36 := by kernel_rfl
theorem cells78 : Try.prog.cellsOf 78 = 108 := by kernel_rfl
section
variable {H : Type} {enc : TypeId × Value → H} {W : World} {base : Nat} {spare : Nat → Bool} {held : Bool} {r : Reach} {b0 : Nat} {v : Value} {d : DataW H} {ps : List MemPlace}
theorem one_of_drop {l : List Value} {j : Nat} {u : Value} (h : (l.drop j).take 1 = [u]) : l[j]? = some u := by
  have h2 := congrArg (fun m : List Value => m[0]?) h
  simpa using h2
theorem open78 (hval : Value.okWide Try.prog W r b0 78 v) (hd : DataW.Trod enc Try.prog W base spare held 78 v d ps) : ∃ (cs : Array Value) (X : List F), v = .agg cs ∧ ArrB 108 cs X := by
  simp only [Value.okWide, Try.underlying78] at hval
  obtain ⟨cs, rfl, hsz, _⟩ := hval
  rw [cells78] at hsz
  obtain ⟨fuel, hf⟩ := hd
  have hcs : (Value.agg cs).cells = cs := rfl
  rw [hcs] at hf
  obtain ⟨xs, m, _, _, _, hl, hel⟩ := DataW.trod_array Try.underlying78 hf
  have each : ∀ t, t < 108 → ∃ z : Int, cs[t]? = some (.int .u8 z) ∧ (Lit.int .u8 z).wf = true := fun t ht => by
    have h := hel (t / 36) (by omega)
    rw [List.getElem?_eq_getElem (by omega), cells77] at h
    obtain ⟨ys, m2, _, _, _, hl2, hel2⟩ := DataW.trod_array Try.underlying77 h
    have h2 := hel2 (t % 36) (by omega)
    rw [List.getElem?_eq_getElem (by omega), cells5', Nat.mul_one] at h2
    obtain ⟨z, h3, _, h4⟩ := DataW.trod_int Try.underlying5 h2
    refine ⟨z, ?_, h4⟩
    have h5 := one_of_drop h3
    rw [List.getElem?_take_of_lt (by omega), List.getElem?_drop] at h5
    have e : t / 36 * 36 + t % 36 = t := by omega
    rw [e] at h5
    simpa using h5
  obtain ⟨z, hz⟩ := choose_lt each
  refine ⟨cs, mkr 108 fun j => byteOf (z j), rfl, hsz, mkr_length _ _, fun j hj => ?_⟩
  rw [nth_mkr _ hj, (hz j hj).1]
  unfold byteOf
  rw [u8_lit (hz j hj).2]
end
theorem law15_row {w : World} {z : Int} {cs : Array Value} {X : List F} (hw : (Lit.int .u8 z).wf = true) (h : ArrB 108 cs X) : Calls Try.prog 15 #[.int .u8 z, .agg cs] w fun e w' => e = .returned (.bool true) ∧ Below w.heap.size w w' := by
  obtain ⟨h1, h2⟩ := of_u8_wf hw
  obtain ⟨zn, rfl⟩ := Int.eq_ofNat_of_zero_le h1
  exact law15 zn (by omega) (h.box (by unfold maxLen; omega) w 78)
end Go.Proofs.Ytifhjigkljdkmaa
