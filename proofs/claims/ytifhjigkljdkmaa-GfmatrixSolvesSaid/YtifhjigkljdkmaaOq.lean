/- How an argument that is an array of bytes is opened. -/
import Derived.Test.YtifhjigkljdkmaaL7
import Derived.Test.YtifhjigkljdkmaaOp
import Derived.OpenShut
namespace Go.Proofs.Ytifhjigkljdkmaa
open Go.RowKit Go.ChangeShapes Go.WideShapes Go.Deep
open Gf (F)
set_option linter.unusedSimpArgs false
set_option linter.unusedVariables false
set_option maxRecDepth 100000
section
variable {H : Type} {enc : TypeId × Value → H} {W : World} {base : Nat} {spare : Nat → Bool} {held : Bool} {r : Reach} {b0 : Nat} {v : Value} {d : DataW H} {ps : List MemPlace}
theorem cells5 : Try.prog.cellsOf 5 = 1 := by kernel_rfl
/-- An array of N bytes: its cells. -/
theorem open_bytes_array {N : Nat} {t : TypeId} (ht : Try.prog.underlying t = some (.array N 5)) (hc : Try.prog.cellsOf t = N) (hval : Value.okWide Try.prog W r b0 t v) (hd : DataW.Trod enc Try.prog W base spare held t v d ps) :
    ∃ (cs : Array Value) (x : List F), v = .agg cs ∧ cs.size = N ∧ x.length = N ∧ ∀ j, j < N → cs[j]? = some (.int .u8 ((nth x j).toNat : Int)) := by
  simp only [Value.okWide, ht] at hval
  obtain ⟨cs, rfl, hsz, _⟩ := hval
  rw [hc] at hsz
  obtain ⟨fuel, hf⟩ := hd
  obtain ⟨xs, m, _, _, _, hl, hel⟩ := DataW.trod_array ht hf
  have each : ∀ j, j < N → ∃ z : Int, cs[j]? = some (.int .u8 z) ∧ (Lit.int .u8 z).wf = true := fun j hj => by
    have h := hel j hj
    rw [List.getElem?_eq_getElem (by omega), cells5, Nat.mul_one] at h
    obtain ⟨z, h1, _, h2⟩ := DataW.trod_int Try.underlying5 h
    refine ⟨z, ?_, h2⟩
    have h3 : ((Value.agg cs).cells.toList.drop j).take 1 = [.int .u8 z] := h1
    have h4 : cs.toList.drop j = cs[j] :: cs.toList.drop (j + 1) := by
      rw [List.drop_eq_getElem_cons (by simpa using (by omega : j < cs.size))]
      simp
    have h5 : (Value.agg cs).cells = cs := rfl
    rw [h5, h4] at h3
    simp only [List.take_succ_cons, List.take_zero, List.cons.injEq, and_true] at h3
    rw [Array.getElem?_eq_getElem (by omega), h3]
  obtain ⟨z, hz⟩ := choose_lt each
  refine ⟨cs, mkr N fun j => byteOf (z j), rfl, hsz, mkr_length _ _, fun j hj => ?_⟩
  rw [nth_mkr _ hj, (hz j hj).1]
  unfold byteOf
  rw [u8_lit (hz j hj).2]
theorem open42 (hval : Value.okWide Try.prog W r b0 42 v) (hd : DataW.Trod enc Try.prog W base spare held 42 v d ps) : ∃ cs x, v = .agg cs ∧ Arr8 cs x := by
  obtain ⟨cs, x, h1, h2, h3, h4⟩ := open_bytes_array Try.underlying42 (by kernel_rfl) hval hd
  exact ⟨cs, x, h1, h2, h3, h4⟩
end
end Go.Proofs.Ytifhjigkljdkmaa
