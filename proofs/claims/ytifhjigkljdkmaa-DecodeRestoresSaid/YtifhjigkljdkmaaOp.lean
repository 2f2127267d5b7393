/- How a law's arguments are opened: a matrix, a list of bytes, a list of numbers, as the walks read them. -/
import Derived.Test.YtifhjigkljdkmaaM1
import Derived.Deep.Matrix
namespace Go.Proofs.Ytifhjigkljdkmaa
open Go.RowKit Go.ChangeShapes Go.WideShapes Go.Deep
open Gf (F)
set_option linter.unusedSimpArgs false
set_option linter.unusedVariables false
theorem row_of_cells {W : World} {a : Addr} {n c : Nat} {f : Nat → Value} (hn : n ≤ c) (hc : c ≤ maxLen) (h : ∀ j, j < n → W.cell? (a.add j) = some (f j)) : Row (fun _ => True) W (some a) n c f := by
  refine ⟨hn, hc, fun h0 => ?_⟩
  obtain ⟨b, o, spot⟩ := a
  have hs : spot = none := by simpa [Addr.add] using World.cell?_spot (h 0 h0)
  subst hs
  exact ⟨b, o, rfl, trivial, by simpa [Addr.add] using World.block_lt_of_cell? _ _ (h 0 h0), fun j hj => by rw [← add_plain]; exact h j hj⟩
theorem of_u8_wf {n : Int} (h : (Lit.int .u8 n).wf = true) : 0 ≤ n ∧ n ≤ 255 := by
  simp only [Lit.wf, Bool.and_eq_true, decide_eq_true_eq] at h
  exact h
theorem u8_lit {n : Int} (h : (Lit.int .u8 n).wf = true) : ((UInt8.ofNat n.toNat).toNat : Int) = n := by
  have h2 : 0 ≤ n ∧ n ≤ 255 := of_u8_wf h
  rw [UInt8.toNat_ofNat']
  omega
def byteOf (z : Int) : F := UInt8.ofNat z.toNat
theorem byt_of {W : World} {a : Addr} {n c : Nat} {zs : List Int} (hn : n ≤ c) (hc : c ≤ maxLen) (hz : zs.length = c) (hw : ∀ x, x ∈ zs → (Lit.int .u8 x).wf = true) (h : ∀ j, j < c → W.cell? (a.add j) = some (.int .u8 (zs.getD j 0))) :
    Byt (fun _ => True) W (some a) n c (mkr n fun j => byteOf (zs.getD j 0)) :=
  ⟨mkr_length _ _, (row_of_cells hn hc fun j hj => h j (by omega)).congr fun j hj => by
    rw [nth_mkr _ hj]
    unfold byteOf
    rw [u8_lit]
    apply hw
    rw [List.getD_eq_getElem?_getD, List.getElem?_eq_getElem (by omega)]
    exact List.getElem_mem _⟩
section
variable {H : Type} {enc : TypeId × Value → H} {W : World} {base : Nat} {held : Bool} {r : Reach} {b0 : Nat} {v : Value} {d : DataW H} {ps : List MemPlace}
set_option maxRecDepth 100000 in
theorem open28 (hval : Value.okWide Try.prog W r b0 28 v) (hd : DataW.Trod enc Try.prog W base (fun _ => true) held 28 v d ps) : ∃ A n c l, v = .slice A n c ∧ Byt (fun _ => True) W A n c l := by
  obtain ⟨a0, len, cap, rfl⟩ := okWide_slice Try.underlying28 hval
  obtain ⟨fuel, hf⟩ := hd
  rcases open_ints Try.underlying28 Try.underlying5 (by kernel_rfl) hf with ⟨hcs, _⟩ | ⟨a, len', cap', zs, hcs, _, hl, hm, hz, _, hcell, hwz⟩
  · simp [Value.cells] at hcs
    obtain ⟨rfl, rfl, rfl⟩ := hcs
    exact ⟨none, 0, 0, [], rfl, rfl, Row.nil _ _ _ (Nat.zero_le _) _⟩
  · simp [Value.cells] at hcs
    obtain ⟨rfl, rfl, rfl⟩ := hcs
    simp only [if_true] at hz
    exact ⟨some a, len, cap, _, rfl, byt_of hl hm hz hwz fun j hj => hcell j (by omega)⟩
set_option maxRecDepth 100000 in
theorem open29 (hval : Value.okWide Try.prog W r b0 29 v) (hd : DataW.Trod enc Try.prog W base (fun _ => true) held 29 v d ps) : ∃ A n c l, v = .slice A n c ∧ Ints (fun _ => True) W A n c l := by
  obtain ⟨a0, len, cap, rfl⟩ := okWide_slice Try.underlying29 hval
  obtain ⟨fuel, hf⟩ := hd
  rcases open_ints Try.underlying29 Try.underlying3 (by kernel_rfl) hf with ⟨hcs, _⟩ | ⟨a, len', cap', zs, hcs, _, hl, hm, hz, _, hcell, hwz⟩
  · simp [Value.cells] at hcs
    obtain ⟨rfl, rfl, rfl⟩ := hcs
    exact ⟨none, 0, 0, [], rfl, rfl, Row.nil _ _ _ (Nat.zero_le _) _⟩
  · simp [Value.cells] at hcs
    obtain ⟨rfl, rfl, rfl⟩ := hcs
    simp only [if_true] at hz
    refine ⟨some a, len, cap, zs.take len, rfl, by simp; omega, (row_of_cells hl hm fun j hj => hcell j (by omega)).congr fun j hj => ?_⟩
    unfold nti
    rw [List.getD_eq_getElem?_getD, List.getD_eq_getElem?_getD, List.getElem?_take_of_lt hj]
set_option maxRecDepth 100000 in
theorem open22 (hval : Value.okWide Try.prog W r b0 22 v) (hd : DataW.Trod enc Try.prog W base (fun _ => true) held 22 v d ps) : ∃ A n c R L C M, v = .slice A n c ∧ Rag (fun _ => True) W A n c R L C M := by
  obtain ⟨a0, len, cap, rfl⟩ := okWide_slice Try.underlying22 hval
  obtain ⟨fuel, hf⟩ := hd
  rcases open_int_rows Try.underlying22 Try.underlying28 Try.underlying5 (by kernel_rfl) (by kernel_rfl) hf with ⟨hcs0, _⟩ | ⟨a, len', cap', A, L, C, Z, hcs0, _, hl, hm, _, hrows⟩
  · simp [Value.cells] at hcs0
    obtain ⟨rfl, rfl, rfl⟩ := hcs0
    exact ⟨none, 0, 0, fun _ => none, fun _ => 0, fun _ => 0, [], rfl, rfl, Row.nil _ _ _ (Nat.zero_le _) _, fun j hj => absurd hj (Nat.not_lt_zero _)⟩
  · simp [Value.cells] at hcs0
    obtain ⟨rfl, rfl, rfl⟩ := hcs0
    refine ⟨some a, len, cap, A, L, C, (List.range len).map fun r => mkr (L r) fun j => byteOf ((Z r).getD j 0), rfl, by simp, row_of_cells hl hm fun j hj => (hrows j (by omega)).1, fun j hj => ?_⟩
    obtain ⟨_, h1, h2, h3, h4, h5, h6⟩ := hrows j (by omega)
    have e : mrow ((List.range len).map fun r => mkr (L r) fun j => byteOf ((Z r).getD j 0)) j = mkr (L j) fun i => byteOf ((Z j).getD i 0) := by simp [mrow, hj]
    rw [e]
    cases hA : A j with
    | none =>
      have hc := h5 hA
      have hL : L j = 0 := by omega
      rw [hL, hc]
      exact ⟨rfl, Row.nil _ _ _ (Nat.zero_le _) _⟩
    | some a' => exact byt_of h1 h2 h3 h4 (h6 a' hA).2
end
end Go.Proofs.Ytifhjigkljdkmaa
