/- slices.Backward at lists of blocks: the iterator's contract. -/
import Derived.Test.YtifhjigkljdkmaaIn
import Derived.Test.YtifhjigkljdkmaaPm
namespace Go.Proofs.Ytifhjigkljdkmaa
open Go.RowKit Go.Shelf
open Gf (F)
set_option linter.unusedSimpArgs false
set_option linter.unusedVariables false
attribute [local go_sem] Oper.semAt_some
/-- What a round is handed: a number and a block of 8 bytes. -/
abbrev BlkI := Nat × {r : List F // r.length = 8}
def encB (x : BlkI) : Array Value := #[.int .i64 (x.1 : Int), .agg (agc x.2.1)]
def row8 (r : List F) : {r : List F // r.length = 8} := if h : r.length = 8 then ⟨r, h⟩ else ⟨zeroL 8, zeroL_length 8⟩
theorem row8_val {r : List F} (h : r.length = 8) : (row8 r).1 = r := by unfold row8; rw [dif_pos h]
/-- What has come behind k rounds: from the last to the first. -/
def comeB (M : List (List F)) (k : Nat) : List BlkI := (List.range k).map fun t => (M.length - 1 - t, row8 (mrow M (M.length - 1 - t)))
theorem comeB_succ (M : List (List F)) (k : Nat) : comeB M (k + 1) = comeB M k ++ [(M.length - 1 - k, row8 (mrow M (M.length - 1 - k)))] := by simp [comeB, List.range_succ]
theorem comeB_length (M : List (List F)) (k : Nat) : (comeB M k).length = k := by simp [comeB]
set_option maxRecDepth 100000 in
set_option maxHeartbeats 2000000 in
theorem back1_in (n : Nat) (l Bs : Nat) {p : Nat → Prop} {A : Option Addr} {len cap : Nat} {M : List (List F)} (hpos : 0 < len) (J Jx : List BlkI → World → Prop)
    (hY : ∀ pre x W, J pre W → pre.length < len → YieldAt Fence.wide (n - 1) Try.prog l (encB x) W fun e W' =>
      (e = .returned (.bool true) ∧ J (pre ++ [x]) W' ∧ Keeps p W W') ∨ (e = .returned (.bool false) ∧ Jx (pre ++ [x]) W'))
    (W : World) (hBs0 : p Bs) (hBs : W.cell? ⟨Bs, 0, none⟩ = some (.slice A len cap)) (hM : Blks p W A len cap M) (h0 : J [] W) :
    CallsIn Fence.wide n Try.prog 150 #[.func (.yield l) #[] #[], .pointer (some ⟨Bs, 0, none⟩)] W fun e W' => (∃ v, e = .returned v) ∧
      ((∃ ys, ys = comeB M len ∧ J ys W') ∨ (∃ pre : List BlkI, True ∧ Jx pre W')) := by
  have hlen := hM.len
  obtain ⟨b, off, rfl, hb, hbl, hc⟩ := hM.agg hpos
  have hBl : Bs < W.heap.size := World.block_lt_of_cell? _ _ hBs
  have hml : Hid (M.length = len) := hM.1
  replace hc := Lib.hid hc
  refine callsIn_of_wp Try.func150 rfl trivial ?_ rfl
  simp only [Try.ntmps150, List.size_toArray, List.length_cons, List.length_nil, Nat.reduceAdd, Nat.reduceSub, Array.replicate_succ, Array.replicate_zero, List.push_toArray, List.append_toArray, List.nil_append, List.cons_append]
  gi_wp2
  gi_loopw [3] (fun i wr => ∃ k : Nat, k ≤ len ∧ i = .int .i64 ((len : Int) - 1 - (k : Int)) ∧ J (comeB M k) wr ∧ Keeps p W wr) (fun i _ => (intOf i + 1).toNat)
  case atStart => exact ⟨0, Nat.zero_le _, by simp, h0, Keeps.refl _ _⟩
  case round =>
    obtain ⟨k, hk, rfl, hJs, hnx⟩ := hrel
    by_cases hlt : k < len
    · obtain ⟨t, ht⟩ : ∃ t : Nat, t = len - 1 - k := ⟨_, rfl⟩
      have hti : (len : Int) - 1 - (k : Int) = (t : Int) := by omega
      have htl : t < len := by omega
      have hrow := hM.row htl
      have hx : Hid (comeB M (k + 1) = comeB M k ++ [(t, row8 (mrow M t))]) := by
        show _ = _
        rw [comeB_succ, hml.out, ht]
      obtain ⟨fn, tmps, assign, body, hy, hR⟩ := hY _ (t, row8 (mrow M t)) wr hJs (by rw [comeB_length]; exact hlt)
      have he : encB (t, row8 (mrow M t)) = #[.int .i64 (t : Int), .agg (agc (mrow M t))] := by unfold encB; rw [row8_val hrow]
      rw [he] at hy
      clear he
      have e1 : wr.cell? ⟨Bs, 0, none⟩ = some (.slice (some ⟨b, off, none⟩) len cap) := (World.cell?_of_block (w := W) (a := ⟨Bs, 0, none⟩) (hnx.block Bs hBl hBs0)).trans hBs
      have e2 : ∀ k, k < (agc (mrow M t)).size → wr.cell? ⟨b, off + t * 8 + k, none⟩ = (agc (mrow M t))[k]? := fun k hk => (World.cell?_of_block (w := W) (a := ⟨b, off + t * 8 + k, none⟩) (hnx.block b hbl hb)).trans (hc.out t htl k (by rwa [agc_size, hrow] at hk))
      have hi := info64' hrow
      have d1 : (0 : Int) ≤ (t : Int) := Int.natCast_nonneg _
      have d2 : (t : Int) < (len : Int) := by omega
      rw [hti]
      replace ht := Lib.hid ht
      replace hti := Lib.hid hti
      replace hrow := Lib.hid hrow
      replace e2 := Lib.hid e2
      replace hi := Lib.hid hi
      gi_wp2_with (with_reducible refine wplIn_load_agg rfl rfl rfl Try.underlying64 rfl hi.out e2.out ?_)
      refine ⟨fun h => (by cases h), hR.mono ?_⟩
      rintro e W3 (⟨rfl, hJ3, hk3⟩ | ⟨rfl, hJx3⟩)
      · gi_wp2
        go_roundw
        case rel => exact ⟨k + 1, by omega, by (have := hti.out; first | (congr 1; omega) | simp), by rw [hx.out]; exact hJ3, hnx.trans hk3⟩
        case measure => simp [intOf]
      · gi_wp2
        refine bodyPost_ret (results_none rfl _ _ _) rfl ?_
        exact ⟨⟨_, rfl⟩, .inr ⟨_, trivial, hJx3⟩⟩
    · obtain rfl : k = len := by omega
      rw [show (k : Int) - 1 - (k : Int) = -1 by omega]
      gi_wp2
      go_end0
      exact ⟨⟨_, rfl⟩, .inl ⟨_, rfl, hJs⟩⟩
set_option maxRecDepth 100000 in
theorem back_any (A : Option Addr) (n c : Nat) (w : World) : Calls Try.prog 139 #[.slice A n c] w fun e w' => e = .returned (.func (.func 150) #[] #[.pointer (some ⟨w.heap.size, 0, none⟩)]) ∧ w' = w.alloc (.cells #[.slice A n c] 53) := by
  go_enter Try.func139, Try.ntmps139
  go_wp2
  go_ret
  exact ⟨rfl, rfl⟩
theorem back_stops (n Bs : Nat) {p : Nat → Prop} {A : Option Addr} {len cap : Nat} {M : List (List F)} (hpos : 0 < len) {w : World} (hBs0 : p Bs) (hc : w.cell? ⟨Bs, 0, none⟩ = some (.slice A len cap)) (hM : Blks p w A len cap M) :
    SeqStopsK Fence.wide n Try.prog 150 #[.pointer (some ⟨Bs, 0, none⟩)] encB (Keeps p) (fun ys => ys = comeB M len) (fun _ => True) len w := fun l J Jx W hW _ _ hY h0 =>
  back1_in n l Bs hpos J Jx hY W hBs0 ((hW.cell (p := ⟨Bs, 0, none⟩) (World.block_lt_of_cell? _ _ hc)).trans hc) (hM.below hW) h0
end Go.Proofs.Ytifhjigkljdkmaa
