/- GfmatrixAlgebra: the three matrices are laid out of the argument. -/
import Derived.Test.YtifhjigkljdkmaaL7
import Derived.Test.YtifhjigkljdkmaaLa4
import Derived.Test.YtifhjigkljdkmaaOd
namespace Go.Proofs.Ytifhjigkljdkmaa
open Go.RowKit
open Gf (F)
set_option linter.unusedSimpArgs false
set_option linter.unusedVariables false
theorem Byt.sub {p : Nat → Prop} {w : World} {b o n c : Nat} {l : List F} (h : Byt p w (some ⟨b, o, none⟩) n c l) {s len cap o' : Nat} (ho : o' = o + s) (h1 : len ≤ cap) (h2 : cap ≤ maxLen) (h3 : s + len ≤ n) : Byt p w (some ⟨b, o', none⟩) len cap (mkr len fun c => nth l (s + c)) :=
  ⟨mkr_length _ _, h1, h2, fun h0 => by
    obtain ⟨b', o2, e, hp, hlt, hc⟩ := h.at_ (by omega)
    simp only [Option.some.injEq, Addr.mk.injEq, and_true] at e
    obtain ⟨rfl, rfl⟩ := e
    exact ⟨b, o', rfl, hp, hlt, fun j hj => by rw [nth_mkr _ hj, ho, Nat.add_assoc]; exact hc (s + j) (by omega)⟩⟩
theorem grown_ne {W : World} {o : Obj} {v v' : Value} (h4 : v'.ownBlock = v.ownBlock ∨ v'.ownBlock = some (W.alloc o).heap.size) {b : Nat} (hb : b < W.heap.size) (hne : some b ≠ v.ownBlock) : some b ≠ v'.ownBlock := by
  rcases h4 with e' | e' <;> rw [e']
  · exact hne
  · intro h
    injection h with h
    simp at h
    omega
/-- The i-th matrix of the argument. -/
def matX (X : List F) (k i : Nat) : List (List F) := mkm k k fun r c => nth X (i * 36 + r * k + c)
def MatsTo (w : World) (gm k : Nat) (X : List F) (vals : Nat → Value) (q : Nat → Prop) (i : Nat) : Prop :=
  ∀ j, j < i → ∃ (A : Option Addr) (c : Nat) (R : Nat → Option Addr) (C : Nat → Nat), vals j = .slice A k c ∧ Mat (fun b => b ≠ gm ∧ q b) w A k c R k C (matX X k j)
/-- i matrices are whole, the others empty. -/
def Outer (w : World) (gm : Nat) (T : TypeId) (k : Nat) (X : List F) (i : Nat) : Prop :=
  ∃ vals : Nat → Value, w.rowIs gm T 3 vals ∧ MatsTo w gm k X vals (fun _ => True) i ∧ ∀ j, i ≤ j → j < 3 → vals j = .slice none 0 0
/-- .. and of the i-th the first r rows. -/
def Inner (w : World) (gm : Nat) (T : TypeId) (k : Nat) (X : List F) (i r : Nat) : Prop :=
  ∃ (vals : Nat → Value) (R : Nat → Option Addr) (L C : Nat → Nat), w.rowIs gm T 3 vals ∧ OwnA w (gm + 1) (fun b => b ≠ gm) (vals i) r R L C (mrow (matX X k i)) ∧ MatsTo w gm k X vals (fun b => some b ≠ (vals i).ownBlock) i ∧ ∀ j, i < j → j < 3 → vals j = .slice none 0 0
theorem MatsTo.mono {w : World} {gm k : Nat} {X : List F} {vals : Nat → Value} {q q' : Nat → Prop} {i : Nat} (h : MatsTo w gm k X vals q i) (hq : ∀ b, b < w.heap.size → q b → q' b) : MatsTo w gm k X vals q' i := fun j hj => by
  obtain ⟨A, c, R, C, e, hm⟩ := h j hj
  exact ⟨A, c, R, C, e, hm.mono fun b hb hp => ⟨hp.1, hq b hb hp.2⟩⟩
theorem MatsTo.keep {w w' : World} {gm k : Nat} {X : List F} {vals : Nat → Value} {q : Nat → Prop} {i : Nat} (h : MatsTo w gm k X vals q i) (hk : Keeps (fun b => b ≠ gm ∧ q b) w w') : MatsTo w' gm k X vals q i := fun j hj => by
  obtain ⟨A, c, R, C, e, hm⟩ := h j hj
  exact ⟨A, c, R, C, e, hm.keep hk⟩
theorem rowIs_block {w w' : World} {g n : Nat} {t : TypeId} {f : Nat → Value} (h : w.rowIs g t n f) (e : w'.heap[g]? = w.heap[g]?) : w'.rowIs g t n f := by
  obtain ⟨c, h1, h2⟩ := h
  exact ⟨c, e.trans h1, h2⟩
theorem Outer.inner {w : World} {gm k i : Nat} {T : TypeId} {X : List F} (h : Outer w gm T k X i) (hi : i < 3) : Inner w gm T k X i 0 := by
  obtain ⟨vals, h1, h2, h3⟩ := h
  have e := h3 i (Nat.le_refl _) hi
  refine ⟨vals, fun _ => none, fun _ => 0, fun _ => 0, h1, ?_, ?_, fun j hj h => h3 j (by omega) h⟩
  · rw [e]
    exact (OwnA.start _ _ _).congr fun i hi => absurd hi (Nat.not_lt_zero _)
  · rw [e]
    exact h2.mono fun b _ _ => fun h => by cases h
theorem Inner.outer {w : World} {gm k i : Nat} {T : TypeId} {X : List F} (h : Inner w gm T k X i k) : Outer w gm T k X (i + 1) := by
  obtain ⟨vals, R, L, C, h1, h2, h3, h4⟩ := h
  refine ⟨vals, h1, fun j hj => ?_, fun j hj h => h4 j (by omega) h⟩
  rcases Nat.lt_succ_iff_lt_or_eq.1 hj with hj | rfl
  · obtain ⟨A, c, R', C', e, hm⟩ := h3 j hj
    exact ⟨A, c, R', C', e, hm.mono fun b _ hp => ⟨hp.1, trivial⟩⟩
  · obtain ⟨A, c, hv, hr⟩ := own_slice h2.own
    have hlen : ∀ t, t < k → (mrow (matX X k j) t).length = k := fun t ht => by unfold matX; rw [mrow_mkm _ ht, mkr_length]
    refine ⟨A, c, R, C, hv, mkm_length _ _ _, (hr.congr fun t ht => ?_).mono fun b _ hp => ⟨by have := hp.1; omega, trivial⟩, fun t ht => ?_⟩
    · rw [List.getD_eq_getElem?_getD]
      have := (h2.row t ht).len
      rw [hlen t ht] at this
      rw [List.getElem?_map, List.getElem?_range ht]
      show Value.slice (R t) (L t) (C t) = _
      rw [← this]
    · have hb := h2.row t ht
      have e := hb.len
      rw [hlen t ht] at e
      rw [← e] at hb
      exact hb.mono fun b _ hp => ⟨hp.1, trivial⟩
theorem Inner.below {w w' : World} {gm k i r : Nat} {T : TypeId} {X : List F} (h : Inner w gm T k X i r) (hb : Below w.heap.size w w') : Inner w' gm T k X i r := by
  obtain ⟨vals, R, L, C, h1, h2, h3, h4⟩ := h
  exact ⟨vals, R, L, C, rowIs_block h1 (hb.block _ h1.lt), h2.below hb, h3.keep (Keeps.below hb), h4⟩
theorem Inner.step {w4 w5 : World} {gm k i r : Nat} {T : TypeId} {X : List F} {vals : Nat → Value} {R : Nat → Option Addr} {L C : Nat → Nat} (hi : i < 3) (hr : r < k) (h1 : w4.rowIs gm T 3 vals) (h2 : OwnA w4 (gm + 1) (fun b => b ≠ gm) (vals i) r R L C (mrow (matX X k i)))
    (h3 : MatsTo w4 gm k X vals (fun b => some b ≠ (vals i).ownBlock) i) (h4 : ∀ j, i < j → j < 3 → vals j = .slice none 0 0) {A1 : Option Addr} {c1 : Nat} {v' : Value} (hby : Byt (fun b => b ≠ gm ∧ some b ≠ (vals i).ownBlock) w4 A1 k c1 (mkr k fun c => nth X (i * 36 + r * k + c)))
    (own' : w5.ownsRow (gm + 1) 28 1 v' (r + 1) (((List.range r).map fun i => .slice (R i) (L i) (C i)) ++ [.slice A1 k c1])) (hgr : w4.grownBy w5 (vals i).ownBlock) (hne : ∀ b, b < w4.heap.size → some b ≠ (vals i).ownBlock → some b ≠ v'.ownBlock) :
    Inner (w5.setCell ⟨gm, i, none⟩ v') gm T k X i (r + 1) := by
  have hrow : (mkr k fun c => nth X (i * 36 + r * k + c)) = mrow (matX X k i) r := by unfold matX; rw [mrow_mkm _ hr]
  rw [hrow] at hby
  have hp := h2.push hby own' hgr hne
  have hgne : some gm ≠ (vals i).ownBlock := own_ne h2.own (Nat.lt_succ_self gm)
  have hgm' : v'.ownBlock = none ∨ v'.ownBlock ≠ some gm := Or.inr fun e => by
    have := (own'.lt gm e).1
    omega
  have h5 : w5.rowIs gm T 3 vals := rowIs_block h1 (hgr.block gm h1.lt hgne)
  have hp' := hp.congr (g := mrow (matX X k i)) fun j _ => by by_cases e : j = r <;> simp [e]
  have hO : OwnA (w5.setCell ⟨gm, i, none⟩ v') (gm + 1) (fun b => b ≠ gm) v' (r + 1) _ _ _ (mrow (matX X k i)) := ⟨own_other_cell hp'.own hgm' i v', fun t ht => (hp'.row t ht).keep (Keeps.setCell (fun h => h.1 rfl) _)⟩
  have ei : (if i = i then v' else vals i) = v' := if_pos rfl
  refine ⟨fun j => if j = i then v' else vals j, fun t => if t = r then A1 else R t, fun t => if t = r then k else L t, fun t => if t = r then c1 else C t, h5.set i v', ?_, ?_, fun j hj h => ?_⟩
  · show OwnA _ _ _ (if i = i then v' else vals i) _ _ _ _ _
    rw [ei]
    exact hO
  · show MatsTo _ _ _ _ _ (fun b => some b ≠ (if i = i then v' else vals i).ownBlock) _
    rw [ei]
    intro j hj
    have hji : j ≠ i := by omega
    have ej : (if j = i then v' else vals j) = vals j := if_neg hji
    show ∃ (A : Option Addr) (c : Nat) (R : Nat → Option Addr) (C : Nat → Nat), (if j = i then v' else vals j) = .slice A k c ∧ _
    rw [ej]
    have m1 : MatsTo w4 gm k X vals (fun b => b < w4.heap.size ∧ some b ≠ (vals i).ownBlock) i := h3.mono fun b hb h => ⟨hb, h⟩
    have m2 := m1.keep (w' := w5) ((Keeps.grown hgr (fun g e h => h e.symm)).mono fun b h => h.2.2)
    have m3 : MatsTo w5 gm k X vals (fun b => some b ≠ v'.ownBlock) i := m2.mono fun b _ h => hne b h.1 h.2
    have m4 := m3.keep (w' := w5.setCell ⟨gm, i, none⟩ v') (Keeps.setCell (fun h => h.1 rfl) _)
    exact m4 j hj
  · have hji : j ≠ i := by omega
    show (if j = i then v' else vals j) = _
    rw [if_neg hji]
    exact h4 j hj h
theorem mul_bounds {r k : Nat} (hr : r < k) (hk : k ≤ 6) : r * k + k ≤ 36 := by
  have h1 : (r + 1) * k ≤ k * k := Nat.mul_le_mul_right k hr
  have h2 : k * k ≤ 6 * 6 := Nat.mul_le_mul hk hk
  rw [Nat.succ_mul] at h1
  omega
theorem wrap_lo {r k : Nat} (hr : r < k) (hk : k ≤ 6) : IntKind.i64.wrap ((r : Int) * (k : Int)) = ((r * k : Nat) : Int) := by
  have := mul_bounds hr hk
  rw [← Int.natCast_mul]
  exact IntWalk.i64_in _ (by omega)
theorem wrap_hi {r k : Nat} (hr : r < k) (hk : k ≤ 6) : IntKind.i64.wrap (IntKind.i64.wrap ((r : Int) + 1) * (k : Int)) = ((r * k + k : Nat) : Int) := by
  have := mul_bounds hr hk
  have e : IntKind.i64.wrap ((r : Int) + 1) = ((r + 1 : Nat) : Int) := by
    have h : ((r : Int) + 1) = ((r + 1 : Nat) : Int) := by omega
    rw [h]
    exact IntWalk.i64_in _ (by omega)
  rw [e, ← Int.natCast_mul, Nat.succ_mul]
  exact IntWalk.i64_in _ (by omega)
set_option maxRecDepth 100000 in
set_option maxHeartbeats 1000000 in
theorem inv15 {Q : Exit → Act → World → Prop} {w3 : World} {gx gm N i r k lo hh : Nat} {p : Nat → Prop} {X : List F} {v : Value} {xs : List Value} (hi : i < 3) (hr : r < k) (hk : k ≤ 6) (hlo : lo + k ≤ 36) (e1 : IntKind.i64.wrap ((r : Int) * (k : Int)) = (lo : Int)) (e2 : IntKind.i64.wrap (IntKind.i64.wrap ((r : Int) + 1) * (k : Int)) = (hh : Int)) (hhe : hh = lo + k) (hx : Byt p w3 (some ⟨gx, 0, none⟩) 108 108 X) (hxl : gx < w3.heap.size) (hm : w3.cell? ⟨gm, i, none⟩ = some v) (hf : w3.frozen? ⟨gm, i, none⟩ = false) (hown : w3.ownsRow N 28 1 v r xs) (hN : N ≤ w3.heap.size) (hgm : gm < N)
    {u0 u1 u2 u4 u9 u10 u11 u12 u13 u14 u15 u16 u17 u18 u19 u20 u21 u22 u23 u24 u25 u26 u27 u28 u29 u30 u31 u32 u33 u34 u35 u36 u37 u38 u39 u40 u41 u42 u43 u44 u45 u46 u47 u48 u49 u50 u51 u52 u53 u54 u55 u56 u57 u58 u59 u60 u61 u62 u63 u64 u65 u66 u67 u68 u69 u70 u71 u72 u73 u74 u75 u76 u77 u78 u79 u80 u81 u82 u83 u84 u85 u86 u87 u88 u89 u90 u91 u92 u93 u94 u95 u96 u97 u98 u99 u100 u101 u102 u103 u104 u105 u106 u107 u108 u109 u110 u111 u112 u113 u114 u115 u116 u117 u118 u119 u120 u121 u122 u123 u124 u125 u126 u127 u128 u129 u130 u131 u132 u133 u134 u135 u136 u137 u138 u139 u140 u141 u142 u143 u144 u145 u146 u147 u148 u149 u150 u151 u152 u153 u154 u155 u156 u157 u158 u159 u160 u161 u162 u163 u164 u165 u166 u167 u168 u169 u170 u171 u172 u173 u174 u175 u176 u177 : Value}
    (hK : ∀ (x40 x41 x42 x43 x44 x45 x46 x47 x48 x49 x50 x51 x52 x53 x54 x55 x56 x57 x58 : Value) (w' : World), (∃ (A1 : Option Addr) (c1 : Nat) (v' : Value) (w4 w5 : World), Byt (fun b => w3.heap.size ≤ b) w4 A1 k c1 (mkr k fun c => nth X (i * 36 + lo + c)) ∧ Below w3.heap.size w3 w4 ∧ w5.ownsRow N 28 1 v' (r + 1) (xs ++ [.slice A1 k c1]) ∧ w4.grownBy w5 v.ownBlock ∧ (∀ b, b < w4.heap.size → some b ≠ v.ownBlock → some b ≠ v'.ownBlock) ∧ w' = w5.setCell ⟨gm, i, none⟩ v') → Q .normal ⟨List.toArray ((u0) :: (u1) :: (u2) :: (.pointer (some ⟨gx, 0, none⟩)) :: (u4) :: (.int .i64 (k : Int)) :: (.pointer (some ⟨gm, 0, none⟩)) :: (.int .i64 (i : Int)) :: (.int .i64 (r : Int)) :: (u9) :: (u10) :: (u11) :: (u12) :: (u13) :: (u14) :: (u15) :: (u16) :: (u17) :: (u18) :: (u19) :: (u20) :: (u21) :: (u22) :: (u23) :: (u24) :: (u25) :: (u26) :: (u27) :: (u28) :: (u29) :: (u30) :: (u31) :: (u32) :: (u33) :: (u34) :: (u35) :: (u36) :: (u37) :: (u38) :: (u39) :: (x40) :: (x41) :: (x42) :: (x43) :: (x44) :: (x45) :: (x46) :: (x47) :: (x48) :: (x49) :: (x50) :: (x51) :: (x52) :: (x53) :: (x54) :: (x55) :: (x56) :: (x57) :: (x58) :: (u59) :: (u60) :: (u61) :: (u62) :: (u63) :: (u64) :: (u65) :: (u66) :: (u67) :: (u68) :: (u69) :: (u70) :: (u71) :: (u72) :: (u73) :: (u74) :: (u75) :: (u76) :: (u77) :: (u78) :: (u79) :: (u80) :: (u81) :: (u82) :: (u83) :: (u84) :: (u85) :: (u86) :: (u87) :: (u88) :: (u89) :: (u90) :: (u91) :: (u92) :: (u93) :: (u94) :: (u95) :: (u96) :: (u97) :: (u98) :: (u99) :: (u100) :: (u101) :: (u102) :: (u103) :: (u104) :: (u105) :: (u106) :: (u107) :: (u108) :: (u109) :: (u110) :: (u111) :: (u112) :: (u113) :: (u114) :: (u115) :: (u116) :: (u117) :: (u118) :: (u119) :: (u120) :: (u121) :: (u122) :: (u123) :: (u124) :: (u125) :: (u126) :: (u127) :: (u128) :: (u129) :: (u130) :: (u131) :: (u132) :: (u133) :: (u134) :: (u135) :: (u136) :: (u137) :: (u138) :: (u139) :: (u140) :: (u141) :: (u142) :: (u143) :: (u144) :: (u145) :: (u146) :: (u147) :: (u148) :: (u149) :: (u150) :: (u151) :: (u152) :: (u153) :: (u154) :: (u155) :: (u156) :: (u157) :: (u158) :: (u159) :: (u160) :: (u161) :: (u162) :: (u163) :: (u164) :: (u165) :: (u166) :: (u167) :: (u168) :: (u169) :: (u170) :: (u171) :: (u172) :: (u173) :: (u174) :: (u175) :: (u176) :: (u177) :: []), []⟩ w') :
    (piece Try.f15 [1, 1, 1, 1, 0, 1, 0, 0, 1, 0, 0, 1, 0, 0, 1, 0, 0]).wp Try.prog Q ⟨List.toArray (u0 :: u1 :: u2 :: (.pointer (some ⟨gx, 0, none⟩)) :: u4 :: (.int .i64 (k : Int)) :: (.pointer (some ⟨gm, 0, none⟩)) :: (.int .i64 (i : Int)) :: (.int .i64 (r : Int)) :: u9 :: u10 :: u11 :: u12 :: u13 :: u14 :: u15 :: u16 :: u17 :: u18 :: u19 :: u20 :: u21 :: u22 :: u23 :: u24 :: u25 :: u26 :: u27 :: u28 :: u29 :: u30 :: u31 :: u32 :: u33 :: u34 :: u35 :: u36 :: u37 :: u38 :: u39 :: u40 :: u41 :: u42 :: u43 :: u44 :: u45 :: u46 :: u47 :: u48 :: u49 :: u50 :: u51 :: u52 :: u53 :: u54 :: u55 :: u56 :: u57 :: u58 :: u59 :: u60 :: u61 :: u62 :: u63 :: u64 :: u65 :: u66 :: u67 :: u68 :: u69 :: u70 :: u71 :: u72 :: u73 :: u74 :: u75 :: u76 :: u77 :: u78 :: u79 :: u80 :: u81 :: u82 :: u83 :: u84 :: u85 :: u86 :: u87 :: u88 :: u89 :: u90 :: u91 :: u92 :: u93 :: u94 :: u95 :: u96 :: u97 :: u98 :: u99 :: u100 :: u101 :: u102 :: u103 :: u104 :: u105 :: u106 :: u107 :: u108 :: u109 :: u110 :: u111 :: u112 :: u113 :: u114 :: u115 :: u116 :: u117 :: u118 :: u119 :: u120 :: u121 :: u122 :: u123 :: u124 :: u125 :: u126 :: u127 :: u128 :: u129 :: u130 :: u131 :: u132 :: u133 :: u134 :: u135 :: u136 :: u137 :: u138 :: u139 :: u140 :: u141 :: u142 :: u143 :: u144 :: u145 :: u146 :: u147 :: u148 :: u149 :: u150 :: u151 :: u152 :: u153 :: u154 :: u155 :: u156 :: u157 :: u158 :: u159 :: u160 :: u161 :: u162 :: u163 :: u164 :: u165 :: u166 :: u167 :: u168 :: u169 :: u170 :: u171 :: u172 :: u173 :: u174 :: u175 :: u176 :: u177 :: []), []⟩ w3 := by
  conv => arg 2; whnf
  refine wp_region_noPanic ?_
  have d1 : (0 : Int) ≤ (i : Int) := Int.natCast_nonneg _
  have d2 : (i : Int) < 3 := by omega
  have d3 : (0 : Int) ≤ (lo : Int) := Int.natCast_nonneg _
  have d4 : (hh : Int) ≤ 36 := by omega
  have d5 : (lo : Int) ≤ (hh : Int) := by omega
  have d6 : (0 : Int) ≤ (hh : Int) := Int.natCast_nonneg _
  have d7 : ¬ (36 = lo) := by omega
  have d8 : hh - lo = k := by omega
  have hgl : gm < w3.heap.size := by omega
  have hrow : Byt p w3 (some ⟨gx, i * 36 + lo, none⟩) k (36 - lo) (mkr k fun c => nth X (i * 36 + lo + c)) := hx.sub (by omega) (by omega) (by unfold maxLen; omega) (by omega)
  have hb4 : Below w3.heap.size w3 (w3.alloc (.cells #[] 5)).drew := ((Below.refl _ _).alloc (Nat.le_refl _) _).drew
  replace hhe := Lib.hid hhe
  refine AnyE.region (fun w' => w'.cell? ⟨gm, i, none⟩ = some v) 19 (by kernel_rfl) ?_
  have hH := hm
  refine AnyE.take0 0 (v := ?_) rfl (by decide) (by kernel_rfl) (by kernel_rfl) (by kernel_rfl) (by kernel_rfl) (fun _ _ _ h => h) (by rfl) (fun _ => hH) ?_ ?_
  rotate_left; · (intro w; go_simp; try with_reducible rfl)
  (try simp only [List.getElem_toArray, List.getElem_cons_zero, List.getElem_cons_succ, Act.put, List.setIfInBounds_toArray, List.set_cons_zero, List.set_cons_succ])
  refine AnyE.take0 1 (v := ?_) rfl (by decide) (by kernel_rfl) (by kernel_rfl) (by kernel_rfl) (by kernel_rfl) (fun _ _ _ h => h) (by rfl) (fun _ => hH) ?_ ?_
  rotate_left; · (intro w; go_simp; try with_reducible rfl)
  (try simp only [List.getElem_toArray, List.getElem_cons_zero, List.getElem_cons_succ, Act.put, List.setIfInBounds_toArray, List.set_cons_zero, List.set_cons_succ])
  refine AnyE.take0 2 (v := ?_) rfl (by decide) (by kernel_rfl) (by kernel_rfl) (by kernel_rfl) (by kernel_rfl) (fun _ _ _ h => h) (by rfl) (fun _ => hH) ?_ ?_
  rotate_left; · (intro w; go_simp; try with_reducible rfl)
  (try simp only [List.getElem_toArray, List.getElem_cons_zero, List.getElem_cons_succ, Act.put, List.setIfInBounds_toArray, List.set_cons_zero, List.set_cons_succ])
  refine AnyE.take 3 [3] (v := ?_) rfl (by decide) (by kernel_rfl) (by kernel_rfl) (by kernel_rfl) (by kernel_rfl) (by kernel_rfl) (by kernel_rfl) (fun _ _ _ h => h) (by rfl) hH ?_ ?_
  rotate_left; · (intro w hSw; (try dsimp only at hSw); go_simp; try with_reducible rfl)
  (try simp only [List.getElem_toArray, List.getElem_cons_zero, List.getElem_cons_succ, Act.put, List.setIfInBounds_toArray, List.set_cons_zero, List.set_cons_succ])
  refine AnyE.take0 5 (v := ?_) rfl (by decide) (by kernel_rfl) (by kernel_rfl) (by kernel_rfl) (by kernel_rfl) (fun _ _ _ h => h) (by rfl) (fun _ => hH) ?_ ?_
  rotate_left; · (intro w; go_simp; try with_reducible rfl)
  (try simp only [List.getElem_toArray, List.getElem_cons_zero, List.getElem_cons_succ, Act.put, List.setIfInBounds_toArray, List.set_cons_zero, List.set_cons_succ])
  refine AnyE.take0 6 (v := ?_) rfl (by decide) (by kernel_rfl) (by kernel_rfl) (by kernel_rfl) (by kernel_rfl) (fun _ _ _ h => h) (by rfl) (fun _ => hH) ?_ ?_
  rotate_left; · (intro w; go_simp; try with_reducible rfl)
  (try simp only [List.getElem_toArray, List.getElem_cons_zero, List.getElem_cons_succ, Act.put, List.setIfInBounds_toArray, List.set_cons_zero, List.set_cons_succ])
  refine AnyE.take0 7 (v := ?_) rfl (by decide) (by kernel_rfl) (by kernel_rfl) (by kernel_rfl) (by kernel_rfl) (fun _ _ _ h => h) (by rfl) (fun _ => hH) ?_ ?_
  rotate_left; · (intro w; go_simp; try with_reducible rfl)
  (try simp only [List.getElem_toArray, List.getElem_cons_zero, List.getElem_cons_succ, Act.put, List.setIfInBounds_toArray, List.set_cons_zero, List.set_cons_succ])
  refine AnyE.take0 8 (v := ?_) rfl (by decide) (by kernel_rfl) (by kernel_rfl) (by kernel_rfl) (by kernel_rfl) (fun _ _ _ h => h) (by rfl) (fun _ => hH) ?_ ?_
  rotate_left; · (intro w; go_simp; try with_reducible rfl)
  (try simp only [List.getElem_toArray, List.getElem_cons_zero, List.getElem_cons_succ, Act.put, List.setIfInBounds_toArray, List.set_cons_zero, List.set_cons_succ])
  refine AnyE.take0 9 (v := ?_) rfl (by decide) (by kernel_rfl) (by kernel_rfl) (by kernel_rfl) (by kernel_rfl) (fun _ _ _ h => h) (by rfl) (fun _ => hH) ?_ ?_
  rotate_left; · (intro w; go_simp; try with_reducible rfl)
  (try simp only [List.getElem_toArray, List.getElem_cons_zero, List.getElem_cons_succ, Act.put, List.setIfInBounds_toArray, List.set_cons_zero, List.set_cons_succ])
  refine AnyE.take0 10 (v := ?_) rfl (by decide) (by kernel_rfl) (by kernel_rfl) (by kernel_rfl) (by kernel_rfl) (fun _ _ _ h => h) (by rfl) (fun _ => hH) ?_ ?_
  rotate_left; · (intro w; go_simp; try with_reducible rfl)
  (try simp only [List.getElem_toArray, List.getElem_cons_zero, List.getElem_cons_succ, Act.put, List.setIfInBounds_toArray, List.set_cons_zero, List.set_cons_succ])
  refine AnyE.take0 11 (v := ?_) rfl (by decide) (by kernel_rfl) (by kernel_rfl) (by kernel_rfl) (by kernel_rfl) (fun _ _ _ h => h) (by rfl) (fun _ => hH) ?_ ?_
  rotate_left; · (intro w; go_simp; try with_reducible rfl)
  (try simp only [List.getElem_toArray, List.getElem_cons_zero, List.getElem_cons_succ, Act.put, List.setIfInBounds_toArray, List.set_cons_zero, List.set_cons_succ])
  refine AnyE.take0 12 (v := ?_) rfl (by decide) (by kernel_rfl) (by kernel_rfl) (by kernel_rfl) (by kernel_rfl) (fun _ _ _ h => h) (by rfl) (fun _ => hH) ?_ ?_
  rotate_left; · (intro w; go_simp; try with_reducible rfl)
  (try simp only [List.getElem_toArray, List.getElem_cons_zero, List.getElem_cons_succ, Act.put, List.setIfInBounds_toArray, List.set_cons_zero, List.set_cons_succ])
  refine AnyE.take0 13 (v := ?_) rfl (by decide) (by kernel_rfl) (by kernel_rfl) (by kernel_rfl) (by kernel_rfl) (fun _ _ _ h => h) (by rfl) (fun _ => hH) ?_ ?_
  rotate_left; · (intro w; go_simp; try with_reducible rfl)
  (try simp only [List.getElem_toArray, List.getElem_cons_zero, List.getElem_cons_succ, Act.put, List.setIfInBounds_toArray, List.set_cons_zero, List.set_cons_succ])
  refine AnyE.take0 14 (v := ?_) rfl (by decide) (by kernel_rfl) (by kernel_rfl) (by kernel_rfl) (by kernel_rfl) (fun _ _ _ h => h) (by rfl) (fun _ => hH) ?_ ?_
  rotate_left; · (intro w; go_simp; try with_reducible rfl)
  (try simp only [List.getElem_toArray, List.getElem_cons_zero, List.getElem_cons_succ, Act.put, List.setIfInBounds_toArray, List.set_cons_zero, List.set_cons_succ])
  refine AnyE.one 4 rfl (by kernel_rfl) (fun K hK => ?_)
  go_simp
  refine hK.out _ _ (fun _ => ((hb4.cell (p := ⟨gm, i, none⟩) hgl).trans hm)) ?_
  clear hK K
  (try simp only [List.getElem_toArray, List.getElem_cons_zero, List.getElem_cons_succ, Act.put, List.setIfInBounds_toArray, List.set_cons_zero, List.set_cons_succ])
  replace hH := ((hb4.cell (p := ⟨gm, i, none⟩) hgl).trans hm)
  refine AnyE.one 15 rfl (by kernel_rfl) (fun K hK => ?_)
  (refine step_append_row (by rfl) (by rfl) Try.underlying28 info5 rfl (by rfl) (own_new (w := w3.drew) 5 (Nat.le_refl _)) (by rfl) (hrow.row.below hb4) (fun _ _ => rfl) (by unfold maxLen; omega) (by omega) (by simp) ?_; intro v4 w4 hown4 hgr4 _; simp only [Nat.zero_add, List.nil_append, map_bytes hrow.len] at hown4; obtain ⟨A4, c4, rfl, hby4⟩ := (own_bytes hown4); have hb45 : Below w3.heap.size w3 w4 := hb4.grown hgr4 (by simp) (fun k hk => by have hk' : some w3.heap.size = some k := hk; cases hk'; exact Nat.le_refl _); have hown4b := own_below hown hb45; have hsz4 := hb45.size; have hc4 := (hb45.cell (p := ⟨gm, i, none⟩) hgl).trans hm; have hf4 : w4.frozen? ⟨gm, i, none⟩ = false := (hb45.frozen (p := ⟨gm, i, none⟩) hgl).trans hf; have hl4 : gm < w4.heap.size := Nat.lt_of_lt_of_le hgl hsz4)
  refine hK.out _ _ (fun _ => ((hb45.cell (p := ⟨gm, i, none⟩) hgl).trans hm)) ?_
  clear hK K
  (try simp only [List.getElem_toArray, List.getElem_cons_zero, List.getElem_cons_succ, Act.put, List.setIfInBounds_toArray, List.set_cons_zero, List.set_cons_succ])
  replace hH := ((hb45.cell (p := ⟨gm, i, none⟩) hgl).trans hm)
  refine AnyE.one 16 rfl (by kernel_rfl) (fun K hK => ?_)
  go_simp
  refine hK.out _ _ (fun _ => (((hb45.alloc hb45.size (.cells #[.slice A4 k c4] 28)).cell (p := ⟨gm, i, none⟩) hgl).trans hm)) ?_
  clear hK K
  (try simp only [List.getElem_toArray, List.getElem_cons_zero, List.getElem_cons_succ, Act.put, List.setIfInBounds_toArray, List.set_cons_zero, List.set_cons_succ])
  replace hH := (((hb45.alloc hb45.size (.cells #[.slice A4 k c4] 28)).cell (p := ⟨gm, i, none⟩) hgl).trans hm)
  refine AnyE.one 17 rfl (by kernel_rfl) (fun K hK => ?_)
  (refine step_append_row (by rfl) (by rfl) Try.underlying22 info28 rfl (by rfl) (hown4b.alloc _) (by rfl) (row_one (.slice A4 k c4) 28) (fun _ _ => rfl) (by unfold maxLen; omega) (by omega) (Nat.le_trans hN (Nat.le_trans hsz4 (by simp))) ?_; intro v5 w5 hown5 hgr5 hor5; obtain ⟨A5, c5, rfl, _⟩ := own_slice hown5; have hgr6 : w4.grownBy w5 v.ownBlock := ⟨hgr5.os, hgr5.tape, hgr5.output, Nat.le_trans (by simp) hgr5.size, fun k hk hne => (hgr5.block k (Nat.lt_of_lt_of_le hk (by simp)) hne).trans (Below.heap_alloc _ _ _ hk)⟩; have hne5 : ∀ b, b < w4.heap.size → some b ≠ v.ownBlock → some b ≠ (Value.slice A5 (r + 1) c5).ownBlock := fun b hb hne => grown_ne hor5 hb hne; have hc5 : w5.cell? ⟨gm, i, none⟩ = some v := hgr6.cell hc4 (own_ne hown4b hgm); have hf5 : w5.frozen? ⟨gm, i, none⟩ = false := (World.frozen?_of_block (w := w4) (hgr6.block gm hl4 (own_ne hown4b hgm))).trans hf4)
  refine hK.out _ _ (fun _ => hc5) ?_
  clear hK K
  (try simp only [List.getElem_toArray, List.getElem_cons_zero, List.getElem_cons_succ, Act.put, List.setIfInBounds_toArray, List.set_cons_zero, List.set_cons_succ])
  replace hH := hc5
  refine AnyE.take0 18 (v := ?_) rfl (by decide) (by kernel_rfl) (by kernel_rfl) (by kernel_rfl) (by kernel_rfl) (fun _ _ _ h => h) (by rfl) (fun _ => hH) ?_ ?_
  rotate_left; · (intro w; go_simp; try with_reducible rfl)
  (try simp only [List.getElem_toArray, List.getElem_cons_zero, List.getElem_cons_succ, Act.put, List.setIfInBounds_toArray, List.set_cons_zero, List.set_cons_succ])
  refine AnyE.one 19 rfl (by kernel_rfl) (fun K hK => ?_)
  go_simp
  refine hK.out _ _ (fun e => Bool.noConfusion (show true = false from e)) ?_
  clear hK K
  (try simp only [List.getElem_toArray, List.getElem_cons_zero, List.getElem_cons_succ, Act.put, List.setIfInBounds_toArray, List.set_cons_zero, List.set_cons_succ])
  refine AnyE.done (by kernel_rfl) ?_ _
  exact NoPanic.normal (hK _ _ _ _ _ _ _ _ _ _ _ _ _ _ _ _ _ _ _ _ ⟨A4, c4, .slice A5 (r + 1) c5, w4, w5, hby4.mono fun b _ h => h.1, hb45, by simpa using hown5, hgr6, hne5, rfl⟩)
set_option maxRecDepth 100000 in
set_option maxHeartbeats 1000000 in
theorem ib2 {Q : Exit → Act → World → Prop} {w2 w3 : World} {gx gm k i : Nat} {T : TypeId} {X : List F} (k1 : 1 ≤ k) (hk : k ≤ 6) (hx : Byt (fun _ => True) w2 (some ⟨gx, 0, none⟩) 108 108 X) (hgm : w2.heap.size ≤ gm) (hbw : Below w2.heap.size w2 w3) (hi : i < 3) (hin : Inner w3 gm T k X i 0)
    {u0 u1 u2 u4 u9 u10 u11 u12 u13 u14 u15 u16 u17 u18 u19 u20 u21 u22 u23 u24 u25 u26 u27 u28 u29 u30 u31 u32 u33 u34 u35 u36 u37 u38 u39 u40 u41 u42 u43 u44 u45 u46 u47 u48 u49 u50 u51 u52 u53 u54 u55 u56 u57 u58 u59 u60 u61 u62 u63 u64 u65 u66 u67 u68 u69 u70 u71 u72 u73 u74 u75 u76 u77 u78 u79 u80 u81 u82 u83 u84 u85 u86 u87 u88 u89 u90 u91 u92 u93 u94 u95 u96 u97 u98 u99 u100 u101 u102 u103 u104 u105 u106 u107 u108 u109 u110 u111 u112 u113 u114 u115 u116 u117 u118 u119 u120 u121 u122 u123 u124 u125 u126 u127 u128 u129 u130 u131 u132 u133 u134 u135 u136 u137 u138 u139 u140 u141 u142 u143 u144 u145 u146 u147 u148 u149 u150 u151 u152 u153 u154 u155 u156 u157 u158 u159 u160 u161 u162 u163 u164 u165 u166 u167 u168 u169 u170 u171 u172 u173 u174 u175 u176 u177 : Value}
    (hK : ∀ (x8 x35 x36 x37 x38 x39 x40 x41 x42 x43 x44 x45 x46 x47 x48 x49 x50 x51 x52 x53 x54 x55 x56 x57 x58 : Value) (w' : World), (Outer w' gm T k X (i + 1) ∧ Below w2.heap.size w2 w') → Q (.exit 2) ⟨List.toArray ((u0) :: (u1) :: (u2) :: (.pointer (some ⟨gx, 0, none⟩)) :: (u4) :: (.int .i64 (k : Int)) :: (.pointer (some ⟨gm, 0, none⟩)) :: (.int .i64 (i : Int)) :: (x8) :: (u9) :: (u10) :: (u11) :: (u12) :: (u13) :: (u14) :: (u15) :: (u16) :: (u17) :: (u18) :: (u19) :: (u20) :: (u21) :: (u22) :: (u23) :: (u24) :: (u25) :: (u26) :: (u27) :: (u28) :: (u29) :: (u30) :: (u31) :: (u32) :: (u33) :: (u34) :: (x35) :: (x36) :: (x37) :: (x38) :: (x39) :: (x40) :: (x41) :: (x42) :: (x43) :: (x44) :: (x45) :: (x46) :: (x47) :: (x48) :: (x49) :: (x50) :: (x51) :: (x52) :: (x53) :: (x54) :: (x55) :: (x56) :: (x57) :: (x58) :: (u59) :: (u60) :: (u61) :: (u62) :: (u63) :: (u64) :: (u65) :: (u66) :: (u67) :: (u68) :: (u69) :: (u70) :: (u71) :: (u72) :: (u73) :: (u74) :: (u75) :: (u76) :: (u77) :: (u78) :: (u79) :: (u80) :: (u81) :: (u82) :: (u83) :: (u84) :: (u85) :: (u86) :: (u87) :: (u88) :: (u89) :: (u90) :: (u91) :: (u92) :: (u93) :: (u94) :: (u95) :: (u96) :: (u97) :: (u98) :: (u99) :: (u100) :: (u101) :: (u102) :: (u103) :: (u104) :: (u105) :: (u106) :: (u107) :: (u108) :: (u109) :: (u110) :: (u111) :: (u112) :: (u113) :: (u114) :: (u115) :: (u116) :: (u117) :: (u118) :: (u119) :: (u120) :: (u121) :: (u122) :: (u123) :: (u124) :: (u125) :: (u126) :: (u127) :: (u128) :: (u129) :: (u130) :: (u131) :: (u132) :: (u133) :: (u134) :: (u135) :: (u136) :: (u137) :: (u138) :: (u139) :: (u140) :: (u141) :: (u142) :: (u143) :: (u144) :: (u145) :: (u146) :: (u147) :: (u148) :: (u149) :: (u150) :: (u151) :: (u152) :: (u153) :: (u154) :: (u155) :: (u156) :: (u157) :: (u158) :: (u159) :: (u160) :: (u161) :: (u162) :: (u163) :: (u164) :: (u165) :: (u166) :: (u167) :: (u168) :: (u169) :: (u170) :: (u171) :: (u172) :: (u173) :: (u174) :: (u175) :: (u176) :: (u177) :: []), []⟩ w') :
    (piece Try.f15 [1, 1, 1, 1, 0, 1, 0, 0, 1, 0, 0, 1, 0]).wp Try.prog Q ⟨List.toArray (u0 :: u1 :: u2 :: (.pointer (some ⟨gx, 0, none⟩)) :: u4 :: (.int .i64 (k : Int)) :: (.pointer (some ⟨gm, 0, none⟩)) :: (.int .i64 (i : Int)) :: (.int .i64 0) :: u9 :: u10 :: u11 :: u12 :: u13 :: u14 :: u15 :: u16 :: u17 :: u18 :: u19 :: u20 :: u21 :: u22 :: u23 :: u24 :: u25 :: u26 :: u27 :: u28 :: u29 :: u30 :: u31 :: u32 :: u33 :: u34 :: u35 :: u36 :: u37 :: u38 :: u39 :: u40 :: u41 :: u42 :: u43 :: u44 :: u45 :: u46 :: u47 :: u48 :: u49 :: u50 :: u51 :: u52 :: u53 :: u54 :: u55 :: u56 :: u57 :: u58 :: u59 :: u60 :: u61 :: u62 :: u63 :: u64 :: u65 :: u66 :: u67 :: u68 :: u69 :: u70 :: u71 :: u72 :: u73 :: u74 :: u75 :: u76 :: u77 :: u78 :: u79 :: u80 :: u81 :: u82 :: u83 :: u84 :: u85 :: u86 :: u87 :: u88 :: u89 :: u90 :: u91 :: u92 :: u93 :: u94 :: u95 :: u96 :: u97 :: u98 :: u99 :: u100 :: u101 :: u102 :: u103 :: u104 :: u105 :: u106 :: u107 :: u108 :: u109 :: u110 :: u111 :: u112 :: u113 :: u114 :: u115 :: u116 :: u117 :: u118 :: u119 :: u120 :: u121 :: u122 :: u123 :: u124 :: u125 :: u126 :: u127 :: u128 :: u129 :: u130 :: u131 :: u132 :: u133 :: u134 :: u135 :: u136 :: u137 :: u138 :: u139 :: u140 :: u141 :: u142 :: u143 :: u144 :: u145 :: u146 :: u147 :: u148 :: u149 :: u150 :: u151 :: u152 :: u153 :: u154 :: u155 :: u156 :: u157 :: u158 :: u159 :: u160 :: u161 :: u162 :: u163 :: u164 :: u165 :: u166 :: u167 :: u168 :: u169 :: u170 :: u171 :: u172 :: u173 :: u174 :: u175 :: u176 :: u177 :: []), []⟩ w3 := by
  conv => arg 2; whnf
  go_loopw [8] (fun x wr => ∃ r : Nat, r ≤ k ∧ x = .int .i64 r ∧ Inner wr gm T k X i r ∧ Below w2.heap.size w2 wr) (fun x _ => k - (intOf x).toNat)
  case atStart => exact ⟨0, by omega, rfl, hin, hbw⟩
  case round =>
    clear hin hbw
    obtain ⟨r, hr, rfl, hin, hbw⟩ := hrel
    by_cases hlt : r < k
    · obtain ⟨vals, R, L, C, h1, h2, h3, h4⟩ := hin
      have hxw := hx.below hbw
      have hxl : gx < wr.heap.size := by
        obtain ⟨_, _, e, _, hl, _⟩ := hxw.at_ (by omega)
        cases e
        exact hl
      have hgl := h1.lt
      have hsz := hbw.size
      have c1 := h1.cell hi
      have c2 := h1.frozen i
      replace h4 := Lib.hid h4
      go_wp2
      refine inv15 (p := fun _ => True) (lo := r * k) (hh := r * k + k) hi hlt hk (mul_bounds hlt hk) (wrap_lo hlt hk) (wrap_hi hlt hk) rfl hxw hxl c1 c2 h2.own (by omega) (Nat.lt_succ_self gm) (fun x40 x41 x42 x43 x44 x45 x46 x47 x48 x49 x50 x51 x52 x53 x54 x55 x56 x57 x58 w4 h5 => ?_)
      obtain ⟨A1, c1', v', w5, w6, hby, hb5, hown6, hgr6, hne6, rfl⟩ := h5
      have hsz5 := hb5.size
      have hI := Inner.step (T := T) hi hlt (rowIs_block h1 (hb5.block _ hgl)) (h2.below hb5) (h3.keep (Keeps.below hb5)) h4.out (hby.mono fun b _ hb => ⟨by omega, own_new_ne h2.own hb⟩) hown6 hgr6 hne6
      have hB : Below w2.heap.size w2 (w6.setCell ⟨gm, i, none⟩ v') := ((below_then hbw hsz hb5).grown hgr6 (by omega) (fun g e => by have := own_ge h2.own g e; omega)).setCell (p := ⟨gm, i, none⟩) hgm _
      go_wp2
      go_roundw
      case rel => exact ⟨r + 1, by omega, by go_num, hI, hB⟩
      case measure => simp [intOf]; omega
    · obtain rfl : r = k := by omega
      go_wp2
      exact ⟨hin.outer, hbw⟩
set_option maxRecDepth 100000 in
set_option maxHeartbeats 1000000 in
theorem ib0 {Q : Exit → Act → World → Prop} {w2 w3 : World} {gx gm k : Nat} {T : TypeId} {X : List F} (k1 : 1 ≤ k) (hk : k ≤ 6) (hx : Byt (fun _ => True) w2 (some ⟨gx, 0, none⟩) 108 108 X) (hgm : w2.heap.size ≤ gm) (hbw : Below w2.heap.size w2 w3) (ho : Outer w3 gm T k X 0)
    {u0 u1 u2 u4 u8 u9 u10 u11 u12 u13 u14 u15 u16 u17 u18 u19 u20 u21 u22 u23 u24 u25 u26 u27 u28 u29 u30 u31 u32 u33 u34 u35 u36 u37 u38 u39 u40 u41 u42 u43 u44 u45 u46 u47 u48 u49 u50 u51 u52 u53 u54 u55 u56 u57 u58 u59 u60 u61 u62 u63 u64 u65 u66 u67 u68 u69 u70 u71 u72 u73 u74 u75 u76 u77 u78 u79 u80 u81 u82 u83 u84 u85 u86 u87 u88 u89 u90 u91 u92 u93 u94 u95 u96 u97 u98 u99 u100 u101 u102 u103 u104 u105 u106 u107 u108 u109 u110 u111 u112 u113 u114 u115 u116 u117 u118 u119 u120 u121 u122 u123 u124 u125 u126 u127 u128 u129 u130 u131 u132 u133 u134 u135 u136 u137 u138 u139 u140 u141 u142 u143 u144 u145 u146 u147 u148 u149 u150 u151 u152 u153 u154 u155 u156 u157 u158 u159 u160 u161 u162 u163 u164 u165 u166 u167 u168 u169 u170 u171 u172 u173 u174 u175 u176 u177 : Value}
    (hK : ∀ (x7 x8 x31 x32 x33 x34 x35 x36 x37 x38 x39 x40 x41 x42 x43 x44 x45 x46 x47 x48 x49 x50 x51 x52 x53 x54 x55 x56 x57 x58 : Value) (w' : World), (Outer w' gm T k X 3 ∧ Below w2.heap.size w2 w') → Q (.exit 0) ⟨List.toArray ((u0) :: (u1) :: (u2) :: (.pointer (some ⟨gx, 0, none⟩)) :: (u4) :: (.int .i64 (k : Int)) :: (.pointer (some ⟨gm, 0, none⟩)) :: (x7) :: (x8) :: (u9) :: (u10) :: (u11) :: (u12) :: (u13) :: (u14) :: (u15) :: (u16) :: (u17) :: (u18) :: (u19) :: (u20) :: (u21) :: (u22) :: (u23) :: (u24) :: (u25) :: (u26) :: (u27) :: (u28) :: (u29) :: (u30) :: (x31) :: (x32) :: (x33) :: (x34) :: (x35) :: (x36) :: (x37) :: (x38) :: (x39) :: (x40) :: (x41) :: (x42) :: (x43) :: (x44) :: (x45) :: (x46) :: (x47) :: (x48) :: (x49) :: (x50) :: (x51) :: (x52) :: (x53) :: (x54) :: (x55) :: (x56) :: (x57) :: (x58) :: (u59) :: (u60) :: (u61) :: (u62) :: (u63) :: (u64) :: (u65) :: (u66) :: (u67) :: (u68) :: (u69) :: (u70) :: (u71) :: (u72) :: (u73) :: (u74) :: (u75) :: (u76) :: (u77) :: (u78) :: (u79) :: (u80) :: (u81) :: (u82) :: (u83) :: (u84) :: (u85) :: (u86) :: (u87) :: (u88) :: (u89) :: (u90) :: (u91) :: (u92) :: (u93) :: (u94) :: (u95) :: (u96) :: (u97) :: (u98) :: (u99) :: (u100) :: (u101) :: (u102) :: (u103) :: (u104) :: (u105) :: (u106) :: (u107) :: (u108) :: (u109) :: (u110) :: (u111) :: (u112) :: (u113) :: (u114) :: (u115) :: (u116) :: (u117) :: (u118) :: (u119) :: (u120) :: (u121) :: (u122) :: (u123) :: (u124) :: (u125) :: (u126) :: (u127) :: (u128) :: (u129) :: (u130) :: (u131) :: (u132) :: (u133) :: (u134) :: (u135) :: (u136) :: (u137) :: (u138) :: (u139) :: (u140) :: (u141) :: (u142) :: (u143) :: (u144) :: (u145) :: (u146) :: (u147) :: (u148) :: (u149) :: (u150) :: (u151) :: (u152) :: (u153) :: (u154) :: (u155) :: (u156) :: (u157) :: (u158) :: (u159) :: (u160) :: (u161) :: (u162) :: (u163) :: (u164) :: (u165) :: (u166) :: (u167) :: (u168) :: (u169) :: (u170) :: (u171) :: (u172) :: (u173) :: (u174) :: (u175) :: (u176) :: (u177) :: []), []⟩ w') :
    (piece Try.f15 [1, 1, 1, 1, 0, 1, 0]).wp Try.prog Q ⟨List.toArray (u0 :: u1 :: u2 :: (.pointer (some ⟨gx, 0, none⟩)) :: u4 :: (.int .i64 (k : Int)) :: (.pointer (some ⟨gm, 0, none⟩)) :: (.int .i64 0) :: u8 :: u9 :: u10 :: u11 :: u12 :: u13 :: u14 :: u15 :: u16 :: u17 :: u18 :: u19 :: u20 :: u21 :: u22 :: u23 :: u24 :: u25 :: u26 :: u27 :: u28 :: u29 :: u30 :: u31 :: u32 :: u33 :: u34 :: u35 :: u36 :: u37 :: u38 :: u39 :: u40 :: u41 :: u42 :: u43 :: u44 :: u45 :: u46 :: u47 :: u48 :: u49 :: u50 :: u51 :: u52 :: u53 :: u54 :: u55 :: u56 :: u57 :: u58 :: u59 :: u60 :: u61 :: u62 :: u63 :: u64 :: u65 :: u66 :: u67 :: u68 :: u69 :: u70 :: u71 :: u72 :: u73 :: u74 :: u75 :: u76 :: u77 :: u78 :: u79 :: u80 :: u81 :: u82 :: u83 :: u84 :: u85 :: u86 :: u87 :: u88 :: u89 :: u90 :: u91 :: u92 :: u93 :: u94 :: u95 :: u96 :: u97 :: u98 :: u99 :: u100 :: u101 :: u102 :: u103 :: u104 :: u105 :: u106 :: u107 :: u108 :: u109 :: u110 :: u111 :: u112 :: u113 :: u114 :: u115 :: u116 :: u117 :: u118 :: u119 :: u120 :: u121 :: u122 :: u123 :: u124 :: u125 :: u126 :: u127 :: u128 :: u129 :: u130 :: u131 :: u132 :: u133 :: u134 :: u135 :: u136 :: u137 :: u138 :: u139 :: u140 :: u141 :: u142 :: u143 :: u144 :: u145 :: u146 :: u147 :: u148 :: u149 :: u150 :: u151 :: u152 :: u153 :: u154 :: u155 :: u156 :: u157 :: u158 :: u159 :: u160 :: u161 :: u162 :: u163 :: u164 :: u165 :: u166 :: u167 :: u168 :: u169 :: u170 :: u171 :: u172 :: u173 :: u174 :: u175 :: u176 :: u177 :: []), []⟩ w3 := by
  conv => arg 2; whnf
  go_loopw [7] (fun x wr => ∃ i : Nat, i ≤ 3 ∧ x = .int .i64 i ∧ Outer wr gm T k X i ∧ Below w2.heap.size w2 wr) (fun x _ => 3 - (intOf x).toNat)
  case atStart => exact ⟨0, by omega, rfl, ho, hbw⟩
  case round =>
    clear ho hbw
    obtain ⟨i, hi, rfl, ho, hbw⟩ := hrel
    by_cases hlt : i < 3
    · go_wp2
      refine ib2 k1 hk hx hgm hbw hlt (ho.inner hlt) (fun x8 x35 x36 x37 x38 x39 x40 x41 x42 x43 x44 x45 x46 x47 x48 x49 x50 x51 x52 x53 x54 x55 x56 x57 x58 w4 h4 => ?_)
      obtain ⟨ho4, hb4⟩ := h4
      go_wp2
      go_roundw
      case rel => exact ⟨i + 1, by omega, by go_num, ho4, hb4⟩
      case measure => simp [intOf]; omega
    · obtain rfl : i = 3 := by omega
      go_wp2
      exact ⟨ho, hbw⟩
end Go.Proofs.Ytifhjigkljdkmaa
