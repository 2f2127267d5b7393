/- Contracts: slices.Clone of blocks, group.complete, parity.Check, group.Zero. -/
import Derived.Test.YtifhjigkljdkmaaBm
import Derived.Test.YtifhjigkljdkmaaEn
import Derived.Test.YtifhjigkljdkmaaGa
import Derived.WalkSpells
namespace Go.Proofs.Ytifhjigkljdkmaa
open Go.RowKit
open Gf (F)
set_option linter.unusedSimpArgs false
set_option linter.unusedVariables false
section
variable {p q : Nat → Prop} {w w' : World} {A : Option Addr} {n c : Nat} {M D : List (List F)}
theorem blks_nil (h : Blks p w none n c M) : n = 0 := by
  rcases Nat.eq_zero_or_pos n with e | e
  · exact e
  · obtain ⟨b, o, e, _⟩ := h.2.at_ e
    cases e
theorem blks_zero (h : Blks p w A 0 c M) : M = [] := List.eq_nil_of_length_eq_zero h.1
theorem flatB_zero (M : List (List F)) : flatB M 0 = [] := rfl
set_option maxRecDepth 100000 in
set_option maxHeartbeats 1000000 in
theorem cloneb_any (h : Blks p w A n c M) (hn : n ≤ 65536) : Calls Try.prog 102 #[.slice A n c] w fun e w' => ∃ A' c', e = .returned (.slice A' n c') ∧ OwnB w' w.heap.size (.slice A' n c') n M ∧ Below w.heap.size w w' := by
  cases A with
  | none =>
    obtain rfl := blks_nil h
    obtain rfl := blks_zero h
    clear h
    have hk := fun (w : World) (c : Nat) => Lib.run_eql_slice_nil (P := Try.prog) w 53 64 none 0 c 0 0 Try.underlying53
    go_enter Try.func102, Try.ntmps102
    go_wp2
    go_ret
    exact ⟨none, 0, rfl, OwnB.nil _ _, Below.refl _ _⟩
  | some a =>
    have hk := fun (w : World) (n c : Nat) => Lib.run_eql_slice_nil (P := Try.prog) w 53 64 (some a) n c 0 0 Try.underlying53
    have hown := World.ownsRow_made (base := w.heap.size) (e := 64) (size := 8) w #[] 0 (Nat.le_refl _) (Nat.zero_le _) rfl
    have hb0 : Below w.heap.size w (w.alloc (.cells #[] 64)) := (Below.refl _ _).alloc (Nat.le_refl _) _
    have h0 := h.below hb0
    have hsz := size_alloc1 w (.cells #[] 64)
    have hrow := fun j (hj : j < n) => h.row hj
    have hlen := h.1
    replace hrow := Lib.hid hrow
    replace hlen := Lib.hid hlen
    go_enter Try.func102, Try.ntmps102
    go_wp2_with (at_builtin; refine wpl_append_elm rfl (sl := .tmp 5) (x := .tmp 6) rfl Try.underlying53 info64f rfl (by decide) rfl hown rfl h0.2 (by unfold maxLen; omega) (by omega) (by omega) ?_; intro v2 w2 hown2 hgr2 hne2)
    rw [Nat.zero_add, List.nil_append] at hown2
    have hO : OwnB w2 w.heap.size v2 n M := ⟨hlen.out, hrow.out, hown2⟩
    obtain ⟨A', c', rfl, _⟩ := hO.blks
    go_wp2
    go_ret
    exact ⟨A', c', rfl, hO, hb0.grown hgr2 (by omega) (fun k e => by cases e; exact Nat.le_refl _)⟩
theorem OwnB.lower {base base' : Nat} {v : Value} (h : OwnB w base v n M) (hb : base' ≤ base) : OwnB w base' v n M := ⟨h.len, h.row, by
  obtain ⟨h1, h2⟩ := h.own
  refine ⟨h1, ?_⟩
  rcases h2 with hn | ⟨g, cap, cur, e, hg, rest⟩
  · exact .inl hn
  · exact .inr ⟨g, cap, cur, e, Nat.le_trans hb hg, rest⟩⟩
theorem ownge {base : Nat} {v : Value} (h : OwnB w base v n M) (k : Nat) (e : v.ownBlock = some k) : base ≤ k := (h.own.lt k e).1
set_option maxRecDepth 100000 in
set_option maxHeartbeats 1000000 in
theorem complete_any (h : Blks p w A n c D) (h1 : 1 ≤ n) (h13 : n ≤ 13) : Calls Try.prog 103 #[.slice A n c] w fun e w' => ∃ A' c', e = .returned (.slice A' (n + 3) c') ∧ OwnB w' w.heap.size (.slice A' (n + 3) c') (n + 3) (grpM D) ∧ Below w.heap.size w w' := by
  go_enter Try.func103, Try.ntmps103
  go_wp2_with (first | (go_at_call 117; (with_reducible refine (encode_any h h1 h13).mono ?_); rintro e w1 ⟨g1, rfl, hp1, hb1⟩; have h2 := h.below hb1) | (go_at_call 102; (with_reducible refine (cloneb_any h2 (by omega)).mono ?_); rintro e w2 ⟨A2, c2, rfl, hO2, hb2⟩; have hp2 := hp1.below hb2; have hB2 := below_then2 hb1 hb2; have hs1 := hb1.size; have hs2 := hb2.size) | (at_builtin; refine wpl_append_elm rfl (sl := .tmp 11) (x := .tmp 12) rfl Try.underlying53 info64f rfl (by decide) rfl hO2.own rfl hp2.2 (by unfold maxLen; omega) (by omega) hs2 ?_; intro v3 w3 hown3 hgr3 hne3))
  have hO3 : OwnB w3 w1.heap.size v3 (n + 3) (grpM D) := hO2.app hp2 hown3
  have hB3 := hB2.grown hgr3 (by omega) (fun k e => Nat.le_trans hs1 (ownge hO2 k e))
  obtain ⟨A3, c3, rfl, _⟩ := hO3.blks
  go_wp2
  go_ret
  exact ⟨A3, c3, rfl, hO3.lower hs1, hB3⟩
theorem conB_no (hl : M.length = n) (h : n < 4 ∨ 16 < n) : conB M = false := by
  unfold conB
  rcases h with h | h
  · rw [decide_eq_false (by omega)]; rfl
  · rw [decide_eq_false (show ¬ M.length ≤ 16 by omega), Bool.and_false]; rfl
set_option maxRecDepth 100000 in
set_option maxHeartbeats 1000000 in
theorem pcheck_any (h : Blks p w A n c M) : Calls Try.prog 100 #[.slice A n c] w fun e w' => e = .returned (.bool (conB M)) ∧ Below w.heap.size w w' := by
  have hn := h.len
  have hl := Lib.hid h.1
  by_cases hb : n < 4
  · have hc := Lib.hid (conB_no hl.out (.inl hb))
    go_enter Try.func100, Try.ntmps100
    go_wp2
    go_ret
    exact ⟨ret_bool hc.out.symm, Below.refl _ _⟩
  by_cases hb2 : 16 < n
  · have hc := Lib.hid (conB_no hl.out (.inr hb2))
    go_enter Try.func100, Try.ntmps100
    go_wp2
    go_ret
    exact ⟨ret_bool hc.out.symm, Below.refl _ _⟩
  obtain ⟨b, o, rfl, _, _, _⟩ := h.at_ (by omega)
  have hcap := h.2.le
  have hcap2 := h.2.cap
  unfold maxLen at hcap2
  have hpre := h.pre (k := n - 3) (by omega)
  have hfr := h.from_ (k := n - 3) (by omega)
  have e3 : n - (n - 3) = 3 := by omega
  rw [e3] at hfr
  have hc : Hid (conB M = decide (parM (M.take (n - 3)) = M.drop (n - 3))) := by
    show _ = _
    have h3 := con_drop (M := M) (by rw [hl.out]; omega)
    unfold conB
    rw [decide_eq_true (show 4 ≤ M.length by rw [hl.out]; omega), decide_eq_true (show M.length ≤ 16 by rw [hl.out]; omega)]
    simp only [Bool.true_and]
    rw [hl.out] at h3 ⊢
    rw [Bool.eq_iff_iff, decide_eq_true_iff, decide_eq_true_iff, h3]
    exact eq_comm
  have i1 : (n : Int) - 3 = ((n - 3 : Nat) : Int) := by omega
  replace i1 := Lib.hid i1
  replace e3 := Lib.hid e3
  go_enter Try.func100, Try.ntmps100
  go_wp2_with (first | (go_at_call 117; (with_reducible refine (encode_any hpre (by omega) (by omega)).mono ?_); rintro e w1 ⟨g1, rfl, hp1, hb1⟩; have hfr1 := hfr.below hb1) | (go_at_call 133; rw [e3.out]; (with_reducible refine (equalblk_any hp1 hfr1).mono ?_); rintro e w2 ⟨rfl, nd, rfl⟩))
  go_ret
  exact ⟨ret_bool (by rw [hc.out]), below_drewN hb1 nd⟩
set_option maxRecDepth 100000 in
set_option maxHeartbeats 1000000 in
theorem zero_no {z : Int} (hz : wideB z = false) (w : World) : Calls Try.prog 54 #[.int .i64 z] w fun e w' => e = .returned (.slice none 0 0) ∧ w = w' := by
  go_enter Try.func54, Try.ntmps54
  go_wp2_with (go_at_call 107; (with_reducible refine (validw_any z _).mono ?_); rw [hz]; rintro e w' ⟨rfl, rfl⟩)
  go_ret
  exact ⟨rfl, rfl⟩
set_option maxRecDepth 100000 in
set_option maxHeartbeats 1000000 in
theorem zero_ok {n : Nat} (h4 : 4 ≤ n) (h16 : n ≤ 16) (w : World) : Calls Try.prog 54 #[.int .i64 (n : Int)] w fun e w' => ∃ g, e = .returned (.slice (some ⟨g, 0, none⟩) n n) ∧ OwnB w' w.heap.size (.slice (some ⟨g, 0, none⟩) n n) n (zerosM n) ∧ Below w.heap.size w w' := by
  have hz : wideB (n : Int) = true := by unfold wideB; simp; omega
  go_enter Try.func54, Try.ntmps54
  go_wp2_with (first | (go_at_call 107; (with_reducible refine (validw_any (n : Int) _).mono ?_); rw [hz]; rintro e w' ⟨rfl, rfl⟩) | (at_make; refine wpl_make_blk rfl rfl rfl rfl (by omega) ?_; intro w1 g hO hb hg))
  go_ret
  exact ⟨g, rfl, hO, hb⟩
end
end Go.Proofs.Ytifhjigkljdkmaa
