/- How a law's argument is opened: an array of two lists of blocks; a number of 64 bits. -/
import Derived.Test.YtifhjigkljdkmaaOt
namespace Go.Proofs.Ytifhjigkljdkmaa
open Go.RowKit Go.ChangeShapes Go.WideShapes Go.Deep
open Gf (F)
set_option linter.unusedSimpArgs false
set_option linter.unusedVariables false
set_option maxRecDepth 100000
section
variable {H : Type} {enc : TypeId × Value → H} {W : World} {base : Nat} {held : Bool} {r : Reach} {b0 : Nat} {v : Value} {d : DataW H} {ps : List MemPlace}
theorem open53c {fuel : Nat} {cs : List Value} {x : DataW H × List MemPlace} (hf : DataW.trod enc Try.prog W base (fun _ => true) held fuel 53 cs = some x) : ∃ A n c M, cs = [.slice A n c] ∧ Blks (fun _ => True) W A n c M := by
  rcases open_slice Try.underlying53 hf with ⟨hcs, _⟩ | ⟨a, len', cap', m, n, D, Pl, hcs, _, hl, hm, hmm, _, hx⟩
  · subst hcs
    exact ⟨none, 0, 0, [], rfl, rfl, Nat.le_refl _, Nat.zero_le _, fun j hj => absurd hj (Nat.not_lt_zero _), fun j hj => absurd hj (Nat.not_lt_zero _), fun h => absurd h (Nat.lt_irrefl _)⟩
  · subst hcs
    rw [cells_64] at hx
    have each : ∀ i, i < len' → ∃ B : List F, B.length = 8 ∧ ∀ k, k < 8 → W.cell? (a.add (i * 8 + k)) = (agc B)[k]? := fun i hi => by
      obtain ⟨cs', h1, h2⟩ := hx i (by rw [hmm]; simp; omega)
      obtain ⟨B, hB, rfl⟩ := cells_blk h2
      obtain ⟨_, hlen, hcell⟩ := World.cells?_some h1
      refine ⟨B, hB, fun k hk => ?_⟩
      have := hcell k hk
      rw [add_add] at this
      rw [this, Array.getElem?_toList]
    obtain ⟨B, hB⟩ := choose_lt each
    refine ⟨some a, len', cap', (List.range len').map B, rfl, by simp, hl, hm, fun j hj => ?_, fun j hj => agc_one _, fun h0 => ?_⟩
    · rw [agc_size]; simp [mrow, hj, (hB j hj).1]
    · obtain ⟨b, o, spot⟩ := a
      have h00 : W.cell? ⟨b, o + (0 * 8 + 0), spot⟩ = some (.int .u8 ((nth (B 0) 0).toNat : Int)) := by
        have := (hB 0 h0).2 0 (by decide)
        rw [agc_at (by rw [(hB 0 h0).1]; decide)] at this
        exact this
      have hs : spot = none := by simpa using World.cell?_spot h00
      subst hs
      refine ⟨b, o, rfl, trivial, World.block_lt_of_cell? _ _ h00, fun j hj k hk => ?_⟩
      have := (hB j hj).2 k hk
      rw [show (⟨b, o + j * 8 + k, none⟩ : Addr) = (⟨b, o, none⟩ : Addr).add (j * 8 + k) from by simp [Addr.add, Nat.add_assoc], this]
      simp [mrow, hj]
theorem cells_53 : Try.prog.cellsOf 53 = 1 := by kernel_rfl
theorem cells_81 : Try.prog.cellsOf 81 = 2 := by kernel_rfl
theorem open81 (hval : Value.okWide Try.prog W r b0 81 v) (hd : DataW.Trod enc Try.prog W base (fun _ => true) held 81 v d ps) : ∃ A n c M B m k N, v = .agg #[.slice A n c, .slice B m k] ∧ Blks (fun _ => True) W A n c M ∧ Blks (fun _ => True) W B m k N := by
  simp only [Value.okWide, Try.underlying81] at hval
  obtain ⟨cs, rfl, hsz, _⟩ := hval
  rw [cells_81] at hsz
  obtain ⟨fuel, hf⟩ := hd
  have hcs : (Value.agg cs).cells = cs := rfl
  rw [hcs] at hf
  obtain ⟨xs, m, _, _, _, hl, hel⟩ := DataW.trod_array Try.underlying81 hf
  obtain ⟨cl⟩ := cs
  match cl, hsz with
  | [u0, u1], _ =>
    have h0 := hel 0 (by decide)
    have h1 := hel 1 (by decide)
    rw [List.getElem?_eq_getElem (by omega), cells_53] at h0 h1
    obtain ⟨A, n, c, M, e0, hM⟩ := open53c h0
    obtain ⟨B, m2, k, N, e1, hN⟩ := open53c h1
    have e0' : u0 = .slice A n c := by simpa using e0
    have e1' : u1 = .slice B m2 k := by simpa using e1
    subst e0' e1'
    exact ⟨A, n, c, M, B, m2, k, N, rfl, hM, hN⟩
end
end Go.Proofs.Ytifhjigkljdkmaa
