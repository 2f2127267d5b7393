/- How a law's arguments are opened: a list of bools, of blocks, of changes. -/
import Derived.Test.YtifhjigkljdkmaaOp
import Derived.Test.YtifhjigkljdkmaaCh
import Derived.Deep.Grids
import Derived.OpenShut
namespace Go.Proofs.Ytifhjigkljdkmaa
open Go.RowKit Go.ChangeShapes Go.WideShapes Go.Deep
open Gf (F)
set_option linter.unusedSimpArgs false
set_option linter.unusedVariables false
set_option maxRecDepth 100000
section
variable {H : Type} {enc : TypeId × Value → H} {W : World} {base : Nat} {held : Bool} {r : Reach} {b0 : Nat} {v : Value} {d : DataW H} {ps : List MemPlace}
theorem open67 (hval : Value.okWide Try.prog W r b0 67 v) (hd : DataW.Trod enc Try.prog W base (fun _ => true) held 67 v d ps) : ∃ A n c l, v = .slice A n c ∧ Bools (fun _ => True) W A n c l := by
  obtain ⟨a0, len, cap, rfl⟩ := okWide_slice Try.underlying67 hval
  obtain ⟨fuel, hf⟩ := hd
  rcases open_bools Try.underlying67 Try.underlying4 (by kernel_rfl) hf with ⟨hcs, _⟩ | ⟨a, len', cap', B, hcs, _, hl, hm, _, hcell⟩
  · simp [Value.cells] at hcs
    obtain ⟨rfl, rfl, rfl⟩ := hcs
    exact ⟨none, 0, 0, [], rfl, rfl, Row.nil _ _ _ (Nat.zero_le _) _⟩
  · simp [Value.cells] at hcs
    obtain ⟨rfl, rfl, rfl⟩ := hcs
    refine ⟨some a, len, cap, (List.range len).map B, rfl, by simp, (row_of_cells hl hm fun j hj => hcell j (by omega)).congr fun j hj => ?_⟩
    unfold ntb
    simp [List.getD_eq_getElem?_getD, hj]
theorem cells_u8 : Try.prog.cellsOf 5 = 1 := by kernel_rfl
theorem cells_64 : Try.prog.cellsOf 64 = 8 := by kernel_rfl
/-- The cells of a block. -/
theorem cells_blk {fuel : Nat} {spare : Nat → Bool} {cs : List Value} {x : DataW H × List MemPlace} (h : DataW.trod enc Try.prog W base spare held fuel 64 cs = some x) : ∃ B : List F, B.length = 8 ∧ cs = (agc B).toList := by
  obtain ⟨xs, m, _, _, hcs, hl, hel⟩ := DataW.trod_array Try.underlying64 h
  rw [cells_64] at hcs
  have each : ∀ j, j < 8 → ∃ z : Int, cs[j]? = some (.int .u8 z) ∧ (Lit.int .u8 z).wf = true := fun j hj => by
    have h := hel j hj
    rw [List.getElem?_eq_getElem (by omega), cells_u8, Nat.mul_one] at h
    obtain ⟨z, h1, _, h2⟩ := DataW.trod_int Try.underlying5 h
    refine ⟨z, ?_, h2⟩
    have h3 := congrArg (fun m : List Value => m[0]?) h1
    simpa using h3
  obtain ⟨z, hz⟩ := choose_lt each
  refine ⟨mkr 8 fun j => byteOf (z j), mkr_length _ _, ?_⟩
  apply List.ext_getElem?
  intro j
  by_cases hj : j < 8
  · rw [(hz j hj).1, Array.getElem?_toList, agc_at (by rw [mkr_length]; exact hj), nth_mkr _ hj]
    unfold byteOf
    rw [u8_lit (hz j hj).2]
  · rw [List.getElem?_eq_none (by omega), List.getElem?_eq_none (by simp [agc, mkr_length]; omega)]
theorem open53 (hval : Value.okWide Try.prog W r b0 53 v) (hd : DataW.Trod enc Try.prog W base (fun _ => true) held 53 v d ps) : ∃ A n c M, v = .slice A n c ∧ Blks (fun _ => True) W A n c M := by
  obtain ⟨a0, len, cap, rfl⟩ := okWide_slice Try.underlying53 hval
  obtain ⟨fuel, hf⟩ := hd
  rcases open_slice Try.underlying53 hf with ⟨hcs, _⟩ | ⟨a, len', cap', m, n, D, Pl, hcs, _, hl, hm, hmm, _, hx⟩
  · simp [Value.cells] at hcs
    obtain ⟨rfl, rfl, rfl⟩ := hcs
    exact ⟨none, 0, 0, [], rfl, rfl, Nat.le_refl _, Nat.zero_le _, fun j hj => absurd hj (Nat.not_lt_zero _), fun j hj => absurd hj (Nat.not_lt_zero _), fun h => absurd h (Nat.lt_irrefl _)⟩
  · simp [Value.cells] at hcs
    obtain ⟨rfl, rfl, rfl⟩ := hcs
    rw [cells_64] at hx
    have each : ∀ i, i < len → ∃ B : List F, B.length = 8 ∧ ∀ k, k < 8 → W.cell? (a.add (i * 8 + k)) = (agc B)[k]? := fun i hi => by
      obtain ⟨cs', h1, h2⟩ := hx i (by rw [hmm]; simp; omega)
      obtain ⟨B, hB, rfl⟩ := cells_blk h2
      obtain ⟨_, hlen, hcell⟩ := World.cells?_some h1
      refine ⟨B, hB, fun k hk => ?_⟩
      have := hcell k hk
      rw [add_add] at this
      rw [this, Array.getElem?_toList]
    obtain ⟨B, hB⟩ := choose_lt each
    refine ⟨some a, len, cap, (List.range len).map B, rfl, by simp, hl, hm, fun j hj => ?_, fun j hj => agc_one _, fun h0 => ?_⟩
    · rw [agc_size]; simp [mrow, hj, (hB j hj).1]
    · obtain ⟨b, o, spot⟩ := a
      have h00 : W.cell? ⟨b, o + (0 * 8 + 0), spot⟩ = some (.int .u8 ((nth (B 0) 0).toNat : Int)) := by
        have := (hB 0 h0).2 0 (by decide)
        rw [agc_at (by rw [(hB 0 h0).1]; decide)] at this
        exact this
      have hs : spot = none := by simpa using World.cell?_spot h00
      subst hs
      refine ⟨b, o, rfl, trivial, World.block_lt_of_cell? _ _ h00, fun j hj k hk => ?_⟩
      have := (hB j hj).2 k hk
      rw [show (⟨b, o + j * 8 + k, none⟩ : Addr) = (⟨b, o, none⟩ : Addr).add (j * 8 + k) from by simp [Addr.add, Nat.add_assoc], this]
      simp [mrow, hj]
end
end Go.Proofs.Ytifhjigkljdkmaa
