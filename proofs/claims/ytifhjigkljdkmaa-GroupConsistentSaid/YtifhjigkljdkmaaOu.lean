/- How a law's argument is opened: a list of changes. -/
import Derived.Test.YtifhjigkljdkmaaOt
namespace Go.Proofs.Ytifhjigkljdkmaa
open Go.RowKit Go.ChangeShapes Go.WideShapes Go.Deep
open Gf (F)
set_option linter.unusedSimpArgs false
set_option linter.unusedVariables false
set_option maxRecDepth 100000
section
variable {H : Type} {enc : TypeId × Value → H} {W : World} {base : Nat} {held : Bool} {r : Reach} {b0 : Nat} {v : Value} {d : DataW H} {ps : List MemPlace}
theorem cells_69 : Try.prog.cellsOf 69 = 9 := by kernel_rfl
theorem cells_3 : Try.prog.cellsOf 3 = 1 := by kernel_rfl
/-- The cells of a change. -/
theorem cells_chg {fuel : Nat} {spare : Nat → Bool} {cs : List Value} {x : DataW H × List MemPlace} (h : DataW.trod enc Try.prog W base spare held fuel 69 cs = some x) : ∃ c : Chg, c.2.length = 8 ∧ cs = (chgE c).toList := by
  obtain ⟨y0, y1, n, _, hl, h0, h1⟩ := trod_struct2 Try.underlying69 h
  rw [cells_69] at hl
  simp only [cells_3, cells_64] at h0 h1
  obtain ⟨z, hz, _, _⟩ := DataW.trod_int Try.underlying3 h0
  obtain ⟨B, hB, e⟩ := cells_blk h1
  refine ⟨(z, B), hB, ?_⟩
  match cs, hl with
  | v :: vs, hl =>
    simp only [List.drop_zero, List.take_succ_cons, List.take_zero, List.cons.injEq, and_true] at hz
    simp only [List.drop_succ_cons, List.drop_zero] at e
    rw [List.take_of_length_le (by simp at hl; omega)] at e
    subst hz
    simp [chgE, e]
theorem open54 (hval : Value.okWide Try.prog W r b0 54 v) (hd : DataW.Trod enc Try.prog W base (fun _ => true) held 54 v d ps) : ∃ A n c l, v = .slice A n c ∧ Chgs (fun _ => True) W A n c l := by
  obtain ⟨a0, len, cap, rfl⟩ := okWide_slice Try.underlying54 hval
  obtain ⟨fuel, hf⟩ := hd
  rcases open_slice Try.underlying54 hf with ⟨hcs, _⟩ | ⟨a, len', cap', m, n, D, Pl, hcs, _, hl, hm, hmm, _, hx⟩
  · simp [Value.cells] at hcs
    obtain ⟨rfl, rfl, rfl⟩ := hcs
    exact ⟨none, 0, 0, [], rfl, rfl, fun j hj => absurd hj (Nat.not_lt_zero _), Nat.le_refl _, Nat.zero_le _, fun j hj => absurd hj (Nat.not_lt_zero _), fun j hj => absurd hj (Nat.not_lt_zero _), fun h => absurd h (Nat.lt_irrefl _)⟩
  · simp [Value.cells] at hcs
    obtain ⟨rfl, rfl, rfl⟩ := hcs
    rw [cells_69] at hx
    have each : ∀ i, i < len → ∃ B : Chg, B.2.length = 8 ∧ ∀ k, k < 9 → W.cell? (a.add (i * 9 + k)) = (chgE B)[k]? := fun i hi => by
      obtain ⟨cs', h1, h2⟩ := hx i (by rw [hmm]; simp; omega)
      obtain ⟨B, hB, rfl⟩ := cells_chg h2
      obtain ⟨_, hlen, hcell⟩ := World.cells?_some h1
      refine ⟨B, hB, fun k hk => ?_⟩
      have := hcell k hk
      rw [add_add] at this
      rw [this, Array.getElem?_toList]
    obtain ⟨B, hB⟩ := choose_lt each
    have hg : ∀ j, j < len → cget ((List.range len).map B) j = B j := fun j hj => by simp [cget, hj]
    refine ⟨some a, len, cap, (List.range len).map B, rfl, by simp, fun j hj => by rw [hg j hj]; exact (hB j hj).1, hl, hm, fun j hj => ?_, fun j hj => chgE_one _, fun h0 => ?_⟩
    · rw [hg j hj]; exact chgE_size (hB j hj).1
    · obtain ⟨b, o, spot⟩ := a
      have h00 : W.cell? ⟨b, o + (0 * 9 + 0), spot⟩ = some (.int .i64 (B 0).1) := by
        have := (hB 0 h0).2 0 (by decide)
        rw [chgE_num] at this
        exact this
      have hs : spot = none := by simpa using World.cell?_spot h00
      subst hs
      refine ⟨b, o, rfl, trivial, World.block_lt_of_cell? _ _ h00, fun j hj k hk => ?_⟩
      have := (hB j hj).2 k hk
      rw [show (⟨b, o + j * 9 + k, none⟩ : Addr) = (⟨b, o, none⟩ : Addr).add (j * 9 + k) from by simp [Addr.add, Nat.add_assoc], this, hg j hj]
end
end Go.Proofs.Ytifhjigkljdkmaa
