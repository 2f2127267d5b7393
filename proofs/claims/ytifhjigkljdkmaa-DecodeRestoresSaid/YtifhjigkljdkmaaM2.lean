/- Contracts of the functions on lists of bytes and on matrices (second part). -/
import Derived.Test.YtifhjigkljdkmaaM1
namespace Go.Proofs.Ytifhjigkljdkmaa
open Go.RowKit
open Gf (F)
set_option linter.unusedSimpArgs false
set_option linter.unusedVariables false
theorem info28 : (Try.prog.info? 28).map (fun i => (i.zero, i.size, i.bytes)) = some (some (.slice none 0 0), 1, 24) := by kernel_rfl
theorem info3 : (Try.prog.info? 3).map (fun i => (i.zero, i.size, i.bytes)) = some (some (.int .i64 0), 1, 8) := by kernel_rfl
section
variable {P : Program} {w : World}
theorem own_ne {base : Nat} {e : TypeId} {v : Value} {n : Nat} {xs : List Value} (h : w.ownsRow base e 1 v n xs) {b : Nat} (hb : b < base) : some b ≠ v.ownBlock := fun e' => by
  have := (h.lt b e'.symm).1
  omega
theorem own_ge {base : Nat} {e : TypeId} {v : Value} {n : Nat} {xs : List Value} (h : w.ownsRow base e 1 v n xs) : ∀ k, v.ownBlock = some k → base ≤ k := fun k hk => (h.lt k hk).1
/-- append in a region that draws its order. -/
theorem step_append_row {ops : Array Oper} {o : Oper} {a : Act} {K : Act → World → Prop} {Q : Exit → Act → World → Prop} {E : Prop} (hgd : o.guard = none) {s x : Operand} {t : TypeId}
    (ho : o.op = .call { callee := .builtin .append, args := #[s, x], argTypes := #[t, t] })
    {base : Nat} {e : TypeId} {z : Value} {bytes : Nat} (ht : P.underlying t = some (.slice e)) (hinfo : (P.info? e).map (fun i => (i.zero, i.size, i.bytes)) = some (some z, 1, bytes)) (hz1 : z.cells = #[z])
    {v : Value} {n : Nat} {xs : List Value} (hs : a.eval s = v) (hown : w.ownsRow base e 1 v n xs)
    {p : Nat → Prop} {A : Option Addr} {m c : Nat} {f : Nat → Value} (hx : a.eval x = .slice A m c) (hr : Row p w A m c f) (h1 : ∀ j, j < m → (f j).oneCell' = true)
    (h63 : n + m ≤ maxLen) (hbytes : (n + m) * bytes ≤ 140737488355328) (hbase : base ≤ w.heap.size)
    (h : ∀ v' w', w'.ownsRow base e 1 v' (n + m) (xs ++ (List.range m).map f) → w.grownBy w' v.ownBlock → (v'.ownBlock = v.ownBlock ∨ v'.ownBlock = some w.heap.size) → K (a.put o.dst v') w') :
    if Region.wanted o (yielded ops a.tmps) = true then Oper.wp P o a w K Q else E := by
  have hw : Region.wanted o (yielded ops a.tmps) = true := by simp [Region.wanted, hgd]
  rw [if_pos hw]
  exact wp_append_row ho ht hinfo hz1 hs hown hx hr h1 h63 hbytes hbase h
/-- .. of one new cell, laid ahead of it. -/
theorem step_append1 {W : World} {ops : Array Oper} {o : Oper} {a : Act} {K : Act → World → Prop} {Q : Exit → Act → World → Prop} {E : Prop} (hgd : o.guard = none) {s x : Operand} {t : TypeId}
    (ho : o.op = .call { callee := .builtin .append, args := #[s, x], argTypes := #[t, t] })
    {base : Nat} {e : TypeId} {z : Value} {bytes : Nat} (ht : P.underlying t = some (.slice e)) (hinfo : (P.info? e).map (fun i => (i.zero, i.size, i.bytes)) = some (some z, 1, bytes)) (hz1 : z.cells = #[z])
    {v : Value} {n : Nat} {xs : List Value} (hs : a.eval s = v) (hown : W.ownsRow base e 1 v n xs)
    {u : Value} (hx : a.eval x = .slice (some ⟨W.heap.size, 0, none⟩) 1 1) (hu : u.oneCell' = true)
    (h63 : n + 1 ≤ maxLen) (hbytes : (n + 1) * bytes ≤ 140737488355328) (hbase : base ≤ W.heap.size)
    (h : ∀ v' w', w'.ownsRow base e 1 v' (n + 1) (xs ++ [u]) → W.grownBy w' v.ownBlock → (∀ b, b < W.heap.size → some b ≠ v.ownBlock → some b ≠ v'.ownBlock) → K (a.put o.dst v') w') :
    if Region.wanted o (yielded ops a.tmps) = true then Oper.wp P o a (W.alloc (.cells #[u] e)).drew K Q else E :=
  step_append_row hgd ho ht hinfo hz1 hs (hown.alloc _).drew hx ((row_one u e).keep (Keeps.refl _ _).drew) (fun _ _ => hu) h63 hbytes (by simp; omega) fun v' w' h2 h3 h4 =>
    h v' w' h2 ⟨h3.os, h3.tape, h3.output, by have := h3.size; simp at this; omega, fun k hk hne => (h3.block k (by simp; omega) hne).trans (Below.heap_alloc _ _ _ hk)⟩ (fun b hb hne => by
      rcases h4 with e' | e' <;> rw [e']
      · exact hne
      · simp; omega)
end
/-- The value of a byte. -/
def vb (u : F) : Value := .int .u8 (u.toNat : Int)
section
variable {p q : Nat → Prop} {w w' : World} {A1 A2 : Option Addr} {n c1 c2 m d : Nat}
set_option maxRecDepth 100000 in
set_option maxHeartbeats 400000 in
theorem reffused_any {d s : List F} (c : F) (w : World) (h1 : Byt p w A1 n c1 d) (h2 : Byt q w A2 n c2 s) (hn : n ≤ 65536) :
    Calls Try.prog 96 #[.slice A1 n c1, .slice A2 n c2, .int .u8 (c.toNat : Int)] w fun e w' => ∃ A' c', e = .returned (.slice A' n c') ∧ Byt (fun b => w.heap.size ≤ b) w' A' n c' (fuse d s c) ∧ Below w.heap.size w w' := by
  have hfl := Lib.hid (fuse_length c h1.len h2.len)
  go_enter Try.func96, Try.ntmps96
  go_wp2
  go_loopw [7, 8] (fun v i wr => ∃ k : Nat, k ≤ n ∧ i = .int .i64 k ∧ wr.ownsRow w.heap.size 5 1 v k (((fuse d s c).take k).map vb) ∧ Below w.heap.size w wr) (fun _ i _ => n - (intOf i).toNat)
  case atStart => exact ⟨0, by omega, rfl, World.ownsRow_nil _ _ _ _, Below.refl _ _⟩
  case round =>
    obtain ⟨k, hk, rfl, hown, hb⟩ := hrel
    by_cases hlt : k < n
    · obtain ⟨b1, o1, rfl, _, hlt1, hc1⟩ := h1.at_ (by omega)
      obtain ⟨b2, o2, rfl, _, hlt2, hc2⟩ := h2.at_ (by omega)
      have e1 : wr.cell? ⟨b1, o1 + k, none⟩ = some (.int .u8 ((nth d k).toNat : Int)) := (hb.cell (by exact hlt1)).trans (hc1 k hlt)
      have e2 : wr.cell? ⟨b2, o2 + k, none⟩ = some (.int .u8 ((nth s k).toNat : Int)) := (hb.cell (by exact hlt2)).trans (hc2 k hlt)
      have n1 := World.new_ne wr _ e1
      have n2 := World.new_ne wr _ e2
      have hx : bits .xor .u8 ((nth d k).toNat : Int) ((Gf.mul c (nth s k)).toNat : Int) = ((nth (fuse d s c) k).toNat : Int) := by rw [u8_xor_F, nth_fuse c h1.len h2.len hlt]
      have b1' : (0 : Int) ≤ (k : Int) := Int.natCast_nonneg _
      have b2' : (k : Int) < (n : Int) := by omega
      have hsz := hb.size
      clear hc1 hc2
      go_wp2
      go_region_held3 (fun w' => w'.cell? ⟨b1, o1 + k, none⟩ = some (.int .u8 ((nth d k).toNat : Int)) ∧ w'.cell? ⟨b2, o2 + k, none⟩ = some (.int .u8 ((nth s k).toNat : Int)))
        (first | exact ⟨hgr.cell e1 (own_ne hown hlt1), hgr.cell e2 (own_ne hown hlt2)⟩ | go_keep)
        (first | (go_at_call 97; refine (refmul_any _ _ _).mono ?_; rintro e w' ⟨rfl, rfl⟩) | (refine step_append1 (by rfl) (by rfl) Try.underlying28 info5 rfl (by rfl) hown (by rfl) (by rfl) (by unfold maxLen; omega) (by omega) hsz ?_; intro v' w1 hown' hgr hne))
      go_wp2
      go_roundw
      case rel =>
        exact ⟨k + 1, by omega, by go_num, by rw [take_snoc_map vb (by rw [hfl.out]; exact hlt)]; exact hown', hb.grown hgr hsz (own_ge hown)⟩
      case measure => simp [intOf]; omega
    · obtain rfl : k = n := by omega
      rw [List.take_of_length_le (by rw [hfl.out]; exact Nat.le_refl _)] at hown
      obtain ⟨A', c', rfl, hby⟩ := own_bytes hown
      go_wp2
      go_ret
      exact ⟨A', c', rfl, hby.mono (fun _ _ hx => hx.1), hb⟩
end

/-! ### Matrices of the call's own -/
structure Own2 (w : World) (N g : Nat) (G : Nat → Nat) (r c : Nat) (f : Nat → Nat → F) : Prop where
  top : w.rowIs g 28 r (fun i => .slice (some ⟨G i, 0, none⟩) c c)
  row : ∀ i, i < r → w.rowIs (G i) 5 c (fun j => vb (f i j))
  lo : N ≤ g
  gt : ∀ i, i < r → g < G i
  inj : ∀ i j, i < j → j < r → G i < G j
def upd (f : Nat → Nat → F) (i j : Nat) (u : F) (i' j' : Nat) : F := if i' = i ∧ j' = j then u else f i' j'
section
variable {w w' : World} {N g : Nat} {G : Nat → Nat} {r c : Nat} {f : Nat → Nat → F}
theorem Own2.ne (h : Own2 w N g G r c f) {i j : Nat} (hi : i < r) (hj : j < r) (hne : i ≠ j) : G i ≠ G j := by
  rcases Nat.lt_or_gt_of_ne hne with hlt | hlt
  · have := h.inj i j hlt hj; omega
  · have := h.inj j i hlt hi; omega
theorem Own2.keep (h : Own2 w N g G r c f) {p : Nat → Prop} (k : Keeps p w w') (hg : p g) (hG : ∀ i, i < r → p (G i)) : Own2 w' N g G r c f :=
  ⟨h.top.of_block (k.block g h.top.lt hg), fun i hi => (h.row i hi).of_block (k.block _ (h.row i hi).lt (hG i hi)), h.lo, h.gt, h.inj⟩
theorem Own2.below (h : Own2 w N g G r c f) (k : Below w.heap.size w w') : Own2 w' N g G r c f := h.keep (p := fun _ => True) (Keeps.below k) trivial fun _ _ => trivial
theorem Own2.drew (h : Own2 w N g G r c f) : Own2 w.drew N g G r c f := h.keep (p := fun _ => True) (Keeps.refl _ w).drew trivial fun _ _ => trivial
theorem Own2.topCell (h : Own2 w N g G r c f) {i : Nat} (hi : i < r) : w.cell? ⟨g, i, none⟩ = some (.slice (some ⟨G i, 0, none⟩) c c) := h.top.cell hi
theorem Own2.cell (h : Own2 w N g G r c f) {i j : Nat} (hi : i < r) (hj : j < c) : w.cell? ⟨G i, j, none⟩ = some (.int .u8 ((f i j).toNat : Int)) := (h.row i hi).cell hj
theorem Own2.frozen (h : Own2 w N g G r c f) {i : Nat} (hi : i < r) (j : Nat) : w.frozen? ⟨G i, j, none⟩ = false := (h.row i hi).frozen j
theorem Own2.low (h : Own2 w N g G r c f) {i : Nat} (hi : i < r) : N ≤ G i := by have := h.lo; have := h.gt i hi; omega
theorem Own2.set (h : Own2 w N g G r c f) {i j : Nat} (hi : i < r) (u : F) : Own2 (w.setCell ⟨G i, j, none⟩ (.int .u8 (u.toNat : Int))) N g G r c (upd f i j u) := by
  refine ⟨h.top.setOther (by have := h.gt i hi; show g ≠ G i; omega) _, fun i' hi' => ?_, h.lo, h.gt, h.inj⟩
  by_cases e : i' = i
  · subst e
    refine ((h.row i' hi').set j (vb u)).congr fun j' _ => ?_
    unfold upd
    by_cases e2 : j' = j <;> simp [e2]
  · refine ((h.row i' hi').setOther (show G i' ≠ G i from h.ne hi' hi e) _).congr fun j' _ => ?_
    unfold upd
    simp [e]
theorem Own2.congr {f' : Nat → Nat → F} (h : Own2 w N g G r c f) (e : ∀ i j, i < r → j < c → f i j = f' i j) : Own2 w N g G r c f' :=
  ⟨h.top, fun i hi => (h.row i hi).congr fun j hj => by rw [e i j hi hj], h.lo, h.gt, h.inj⟩
theorem Own2.mat (h : Own2 w N g G r c f) (hr : r ≤ maxLen) (hc : c ≤ maxLen) : Mat (fun b => N ≤ b) w (some ⟨g, 0, none⟩) r r (fun i => some ⟨G i, 0, none⟩) c (fun _ => c) (mkm r c f) :=
  ⟨mkm_length _ _ _, Row.of_rowIs h.top h.lo hr, fun i hi => by
    rw [mrow_mkm _ hi]
    exact ⟨mkr_length _ _, Row.of_rowIs ((h.row i hi).congr fun j hj => by rw [nth_mkr _ hj]; rfl) (h.low hi) hc⟩⟩
end
theorem max_of {n : Nat} (h : n ≤ 65536) : n ≤ maxLen := by unfold maxLen; omega
set_option maxHeartbeats 400000 in
theorem blank_any (r c : Nat) (hr : r ≤ 4096) (hc : c ≤ 4096) (w : World) : Calls Try.prog 87 #[.int .i64 (r : Int), .int .i64 (c : Int)] w fun e w' =>
    ∃ g G, e = .returned (.slice (some ⟨g, 0, none⟩) r r) ∧ Own2 w' w.heap.size g G r c (fun _ _ => 0) ∧ Below w.heap.size w w' := by
  go_enter Try.func87, Try.ntmps87
  go_wp2_with (at_make; refine wpl_make rfl rfl Try.underlying22 info28 rfl rfl rfl (by omega) (by omega) ?_; intro w1 g hrow hb1 hg)
  go_loopw [6, 11] (fun _ i wr => ∃ (k : Nat) (G : Nat → Nat), k ≤ r ∧ i = .int .i64 k ∧ wr.rowIs g 28 r (fun i => if i < k then .slice (some ⟨G i, 0, none⟩) c c else .slice none 0 0) ∧
      (∀ i, i < k → wr.rowIs (G i) 5 c (fun _ => vb 0)) ∧ (∀ i, i < k → g < G i) ∧ (∀ i j, i < j → j < k → G i < G j) ∧ Below w.heap.size w wr) (fun _ i _ => r - (intOf i).toNat)
  case atStart => exact ⟨0, fun _ => 0, by omega, rfl, hrow.congr fun j _ => by simp, fun i hi => absurd hi (Nat.not_lt_zero _), fun i hi => absurd hi (Nat.not_lt_zero _), fun i j _ hj => absurd hj (Nat.not_lt_zero _), hb1⟩
  case round =>
    obtain ⟨k, G, hk, rfl, htop, hrows, hgt, hinj, hb⟩ := hrel
    replace hrows := Lib.hid hrows
    replace hgt := Lib.hid hgt
    replace hinj := Lib.hid hinj
    by_cases hlt : k < r
    · go_wp2_with (at_make; refine wpl_make rfl rfl Try.underlying28 info5 rfl rfl rfl (by omega) (by omega) ?_; intro w2 g2 hrow2 hb2 hg2; have htop2 := htop.of_block (hb2.block g htop.lt); have e1 := htop2.cell hlt; have e2 := htop2.frozen k)
      go_roundw
      case rel =>
        have hgl := htop.lt
        refine ⟨k + 1, fun i => if i = k then g2 else G i, by omega, by go_num, (htop2.set k _).congr fun j _ => ?_, fun i hi => ?_, fun i hi => ?_, fun i j hij hj => ?_, (below_then hb hb.size hb2).setCell hg _⟩
        · by_cases hj : j = k
          · subst hj; simp
          · simp only [if_neg hj]
            by_cases hjk : j < k
            · rw [if_pos hjk, if_pos (by omega)]
            · rw [if_neg hjk, if_neg (by omega)]
        · dsimp only
          by_cases e : i = k
          · rw [if_pos e]
            exact hrow2.setOther (by show g2 ≠ g; omega) _
          · rw [if_neg e]
            have hr0 := hrows.out i (by omega)
            have := hgt.out i (by omega)
            exact (hr0.of_block (hb2.block _ hr0.lt)).setOther (by show G i ≠ g; omega) _
        · dsimp only
          by_cases e : i = k
          · rw [if_pos e]; omega
          · rw [if_neg e]; exact hgt.out i (by omega)
        · dsimp only
          rw [if_neg (by omega : i ≠ k)]
          by_cases e : j = k
          · rw [if_pos e]
            have := (hrows.out i (by omega)).lt
            omega
          · rw [if_neg e]; exact hinj.out i j hij (by omega)
      case measure => simp [intOf]; omega
    · obtain rfl : k = r := by omega
      go_wp2
      go_ret
      exact ⟨g, G, rfl, ⟨htop.congr fun j hj => by rw [if_pos hj], hrows.out, hg, hgt.out, hinj.out⟩, hb⟩
/-- The identity. -/
def idm (n : Nat) : List (List F) := mkm n n (fun i j => if i = j then 1 else 0)
theorem idm_step {k : Nat} (i j : Nat) : upd (fun i j => if i = j ∧ i < k then 1 else 0) k k 1 i j = if i = j ∧ i < k + 1 then 1 else 0 := by
  unfold upd
  by_cases e : i = k ∧ j = k
  · rw [if_pos e, if_pos ⟨by omega, by omega⟩]
  · rw [if_neg e]
    dsimp only
    by_cases e2 : i = j ∧ i < k
    · rw [if_pos e2, if_pos ⟨e2.1, by omega⟩]
    · rw [if_neg e2, if_neg (by omega)]
theorem idm_end {n i j : Nat} (hi : i < n) : (if i = j ∧ i < n then (1 : F) else 0) = if i = j then 1 else 0 := by
  by_cases e : i = j
  · rw [if_pos e, if_pos ⟨e, hi⟩]
  · rw [if_neg e, if_neg (fun h => e h.1)]
theorem identity_bad (n : Int) (h : n < 1 ∨ 64 < n) (w : World) : Calls Try.prog 38 #[.int .i64 n] w fun e w' => e = .returned (.tuple #[.slice none 0 0, .int .i64 1]) ∧ w = w' := by
  by_cases h1 : n < 1
  · go_enter Try.func38, Try.ntmps38
    go_wp2
    go_ret2
    exact ⟨rfl, rfl⟩
  · have h2 : 64 < n := by omega
    go_enter Try.func38, Try.ntmps38
    go_wp2
    go_ret2
    exact ⟨rfl, rfl⟩
set_option maxHeartbeats 400000 in
theorem identity_any (n : Nat) (h1 : 1 ≤ n) (h2 : n ≤ 64) (w : World) : Calls Try.prog 38 #[.int .i64 (n : Int)] w fun e w' =>
    ∃ g R C, e = .returned (.tuple #[.slice (some ⟨g, 0, none⟩) n n, .int .i64 0]) ∧ Mat (fun b => w.heap.size ≤ b) w' (some ⟨g, 0, none⟩) n n R n C (idm n) ∧ Below w.heap.size w w' := by
  go_enter Try.func38, Try.ntmps38
  go_wp2_with (go_at_call 87; refine (blank_any n n (by omega) (by omega) _).mono ?_; rintro e w1 ⟨g, G, rfl, hown, hb1⟩)
  go_loopw [5, 17] (fun _ i wr => ∃ k : Nat, k ≤ n ∧ i = .int .i64 k ∧ Own2 wr w.heap.size g G n n (fun i j => if i = j ∧ i < k then 1 else 0) ∧ Below w.heap.size w wr) (fun _ i _ => n - (intOf i).toNat)
  case atStart => exact ⟨0, by omega, rfl, hown.congr fun i j _ _ => by simp, hb1⟩
  case round =>
    obtain ⟨k, hk, rfl, ho, hb⟩ := hrel
    by_cases hlt : k < n
    · have e1 := ho.topCell hlt
      have e2 := ho.cell hlt hlt
      have e3 := ho.frozen hlt k
      go_wp2
      go_roundw
      case rel => exact ⟨k + 1, by omega, by go_num, (ho.set (j := k) hlt 1).congr fun i j hi hj => idm_step i j, hb.setCell (ho.low hlt) _⟩
      case measure => simp [intOf]; omega
    · obtain rfl : k = n := by omega
      go_wp2
      go_ret2
      exact ⟨g, _, _, rfl, (ho.congr fun i j hi hj => idm_end hi).mat (max_of (by omega)) (max_of (by omega)), hb⟩

/-! ### A matrix whose top row is the call's own, the rows elsewhere -/
structure OwnT (w : World) (N g : Nat) (R : Nat → Option Addr) (C : Nat → Nat) (r m : Nat) (f : Nat → List F) : Prop where
  top : w.rowIs g 28 r (fun i => .slice (R i) m (C i))
  row : ∀ i, i < r → Byt (fun b => N ≤ b ∧ b ≠ g) w (R i) m (C i) (f i)
  lo : N ≤ g
section
variable {w w' : World} {N g : Nat} {R : Nat → Option Addr} {C : Nat → Nat} {r m : Nat} {f : Nat → List F}
theorem OwnT.keep (h : OwnT w N g R C r m f) {p : Nat → Prop} (k : Keeps p w w') (hp : ∀ b, N ≤ b → p b) : OwnT w' N g R C r m f :=
  ⟨h.top.of_block (k.block g h.top.lt (hp g h.lo)), fun i hi => (h.row i hi).keep (k.mono (fun b hb => hp b hb.1)), h.lo⟩
theorem OwnT.below (h : OwnT w N g R C r m f) (k : Below w.heap.size w w') : OwnT w' N g R C r m f := h.keep (p := fun _ => True) (Keeps.below k) fun _ _ => trivial
theorem OwnT.drew (h : OwnT w N g R C r m f) : OwnT w.drew N g R C r m f := h.keep (p := fun _ => True) (Keeps.refl _ w).drew fun _ _ => trivial
theorem OwnT.cell (h : OwnT w N g R C r m f) {i : Nat} (hi : i < r) : w.cell? ⟨g, i, none⟩ = some (.slice (R i) m (C i)) := h.top.cell hi
theorem OwnT.frozen (h : OwnT w N g R C r m f) (i : Nat) : w.frozen? ⟨g, i, none⟩ = false := h.top.frozen i
theorem OwnT.set (h : OwnT w N g R C r m f) {A : Option Addr} {c : Nat} {l : List F} (hl : Byt (fun b => N ≤ b ∧ b ≠ g) w A m c l) (i : Nat) :
    OwnT (w.setCell ⟨g, i, none⟩ (.slice A m c)) N g (fun j => if j = i then A else R j) (fun j => if j = i then c else C j) r m (fun j => if j = i then l else f j) := by
  have k : Keeps (fun b => N ≤ b ∧ b ≠ g) w (w.setCell ⟨g, i, none⟩ (.slice A m c)) := Keeps.setCell (by simp) _
  refine ⟨(h.top.set i _).congr fun j _ => ?_, fun j hj => ?_, h.lo⟩
  · by_cases e : j = i <;> simp [e]
  · by_cases e : j = i
    · simp only [e, if_true]; exact hl.keep k
    · simp only [e, if_false]; exact (h.row j hj).keep k
theorem OwnT.congr {f' : Nat → List F} (h : OwnT w N g R C r m f) (e : ∀ i, i < r → f i = f' i) : OwnT w N g R C r m f' := ⟨h.top, fun i hi => by rw [← e i hi]; exact h.row i hi, h.lo⟩
theorem OwnT.mat {M : List (List F)} (h : OwnT w N g R C r m f) (hr : r ≤ maxLen) (hM : M.length = r) (e : ∀ i, i < r → mrow M i = f i) : Mat (fun b => N ≤ b) w (some ⟨g, 0, none⟩) r r R m C M :=
  ⟨hM, Row.of_rowIs h.top h.lo hr, fun i hi => by rw [e i hi]; exact (h.row i hi).mono fun _ _ hb => hb.1⟩
theorem Own2.ownT {G : Nat → Nat} {c : Nat} {f : Nat → Nat → F} (h : Own2 w N g G r c f) (hc : c ≤ maxLen) : OwnT w N g (fun i => some ⟨G i, 0, none⟩) (fun _ => c) r c (fun i => mkr c (f i)) :=
  ⟨h.top, fun i hi => ⟨mkr_length _ _, Row.of_rowIs ((h.row i hi).congr fun j hj => by rw [nth_mkr _ hj]; rfl) ⟨h.low hi, by have := h.gt i hi; omega⟩ hc⟩, h.lo⟩
end
theorem Byt.drew {p : Nat → Prop} {w : World} {A : Option Addr} {n c : Nat} {l : List F} (h : Byt p w A n c l) : Byt p w.drew A n c l := h.keep (Keeps.refl p w).drew
/-- Behind i rows, and t terms of each sum of row i. -/
def mulP (k : Nat) (a b : List (List F)) (i t i' j : Nat) : F := sumF (if i' < i then k else if i' = i then t else 0) fun t => Gf.mul (ent a i' t) (ent b t j)
theorem mulP_start (k : Nat) (a b : List (List F)) (i' j : Nat) : mulP k a b 0 0 i' j = 0 := by
  unfold mulP
  rw [if_neg (Nat.not_lt_zero _)]
  by_cases h : i' = 0 <;> simp [h, sumF]
theorem mulP_step {k m : Nat} (a b : List (List F)) (i t i' : Nat) (hb : (mrow b t).length = m) :
    (if i' = i then fuse (mkr m (mulP k a b i t i)) (mrow b t) (nth (mrow a i) t) else mkr m (mulP k a b i t i')) = mkr m (mulP k a b i (t + 1) i') := by
  by_cases e : i' = i
  · subst e
    rw [if_pos rfl, fuse_mkr _ hb]
    refine mkr_congr fun j _ => ?_
    unfold mulP
    simp only [Nat.lt_irrefl, if_false, if_true]
    rfl
  · rw [if_neg e]
    refine mkr_congr fun j _ => ?_
    unfold mulP
    simp only [if_neg e]
theorem mulP_next (k m : Nat) (a b : List (List F)) (i i' : Nat) : mkr m (mulP k a b i k i') = mkr m (mulP k a b (i + 1) 0 i') := by
  refine mkr_congr fun j _ => ?_
  unfold mulP
  congr 1
  by_cases e : i' < i
  · rw [if_pos e, if_pos (by omega)]
  · by_cases e2 : i' = i
    · rw [if_neg e, if_pos e2, if_pos (by omega)]
    · rw [if_neg e, if_neg e2, if_neg (by omega)]
      by_cases e3 : i' = i + 1 <;> simp [e3]
theorem mulP_end {k r : Nat} (a b : List (List F)) {i' : Nat} (h : i' < r) (j : Nat) : sumF k (fun t => Gf.mul (ent a i' t) (ent b t j)) = mulP k a b r 0 i' j := by
  unfold mulP
  rw [if_pos h]
/-- The product of an r by k and a k by m matrix. -/
def mulM (r k m : Nat) (a b : List (List F)) : List (List F) := mkm r m (fun i j => sumF k fun t => Gf.mul (ent a i t) (ent b t j))
section
variable {p q : Nat → Prop} {w : World} {A B : Option Addr} {n c m d : Nat} {R S : Nat → Option Addr} {L C K D : Nat → Nat} {a b : List (List F)}
set_option maxRecDepth 100000 in
set_option maxHeartbeats 1000000 in
theorem mul_ok {r k m : Nat} (ha : Mat p w A r c R k C a) (hb : Mat q w B k d S m D b) (va : Valid a) (vb : Valid b) : Calls Try.prog 45 #[.slice A r c, .slice B k d] w fun e w' =>
    ∃ g R' C', e = .returned (.tuple #[.slice (some ⟨g, 0, none⟩) r r, .int .i64 0]) ∧ Mat (fun b => w.heap.size ≤ b) w' (some ⟨g, 0, none⟩) r r R' m C' (mulM r k m a b) ∧ Below w.heap.size w w' := by
  have va' : valid a = true := decide_eq_true va
  have vb' : valid b = true := decide_eq_true vb
  have r1 : 1 ≤ r := by rw [← ha.len]; exact va.1
  have r2 : r ≤ 64 := by rw [← ha.len]; exact va.2.1
  have k1 : 1 ≤ k := by rw [← hb.len]; exact vb.1
  have k2 : k ≤ 64 := by rw [← hb.len]; exact vb.2.1
  have m1 : 1 ≤ m := by rw [← (hb.rows 0 (by omega)).len]; exact vb.2.2.1
  have m2 : m ≤ 64 := by rw [← (hb.rows 0 (by omega)).len]; exact vb.2.2.2.1
  clear va vb
  obtain ⟨b1, o1, rfl, _, hlt1, hc1⟩ := ha.row.at_ (by omega)
  obtain ⟨b2, o2, rfl, _, hlt2, hc2⟩ := hb.row.at_ (by omega)
  have e1 : w.cell? ⟨b1, o1, none⟩ = some (.slice (R 0) k (C 0)) := hc1 0 (by omega)
  have e2 : w.cell? ⟨b2, o2, none⟩ = some (.slice (S 0) m (D 0)) := hc2 0 (by omega)
  replace hc1 := Lib.hid hc1
  replace hc2 := Lib.hid hc2
  have ht : ((k : Int) != (k : Int)) = false := by simp
  go_enter Try.func45, Try.ntmps45
  go_wp2_with (first | (go_at_call 39; first | ((with_reducible refine (valid_any ha.rag).mono ?_); rintro e w' ⟨rfl, rfl⟩) | ((with_reducible refine (valid_any hb.rag).mono ?_); rintro e w' ⟨rfl, rfl⟩)) | (go_at_call 87; refine (blank_any r m (by omega) (by omega) _).mono ?_; rintro e w1 ⟨g, G, rfl, hown, hb1⟩))
  have hw1 := hb1.size
  have hown' := hown.ownT (max_of (by omega))
  clear hown
  go_loopw [37] (fun x wr => ∃ (i : Nat) (R' : Nat → Option Addr) (C' : Nat → Nat), i ≤ r ∧ x = .int .i64 i ∧ OwnT wr w.heap.size g R' C' r m (fun i' => mkr m (mulP k a b i 0 i')) ∧ Below w.heap.size w wr) (fun x _ => r - (intOf x).toNat)
  case atStart => exact ⟨0, _, _, by omega, rfl, hown'.congr fun i' _ => mkr_congr fun j _ => (mulP_start ..).symm, hb1⟩
  case round =>
    obtain ⟨i, R', C', hi, rfl, ho, hbw⟩ := hrel
    by_cases hlt : i < r
    · have ra := ha.rows i hlt
      obtain ⟨b3, o3, e3, _, hlt3, hc3⟩ := ra.at_ (by omega)
      have f1 : wr.cell? ⟨b1, o1 + i, none⟩ = some (.slice (R i) k (C i)) := (hbw.cell (by exact hlt1)).trans (hc1.out i hlt)
      rw [e3] at f1
      replace e3 := Lib.hid e3
      replace hc3 := Lib.hid hc3
      go_wp2
      obtain ⟨wo, rfl⟩ : ∃ wo : World, wo = wr := ⟨_, rfl⟩
      go_loopw [44] (fun x wr => ∃ (t : Nat) (R' : Nat → Option Addr) (C' : Nat → Nat), t ≤ k ∧ x = .int .i64 t ∧ OwnT wr w.heap.size g R' C' r m (fun i' => mkr m (mulP k a b i t i')) ∧ Below w.heap.size w wr) (fun x _ => k - (intOf x).toNat)
      case atStart => exact ⟨0, _, _, by omega, rfl, ho, hbw⟩
      case round =>
        obtain ⟨t, R', C', htk, rfl, ho, hbw⟩ := hrel
        by_cases hlt2' : t < k
        · have f2 : wr.cell? ⟨b3, o3 + t, none⟩ = some (.int .u8 ((nth (mrow a i) t).toNat : Int)) := (hbw.cell (by exact hlt3)).trans (hc3.out t hlt2')
          have f3 : wr.cell? ⟨b2, o2 + t, none⟩ = some (.slice (S t) m (D t)) := (hbw.cell (by exact hlt2)).trans (hc2.out t hlt2')
          have f4 := ho.cell hlt
          have f5 := ho.frozen i
          have q1 := ho.row i hlt
          have q2 := (hb.rows t hlt2').below hbw
          have c1 : (0 : Int) ≤ (i : Int) := Int.natCast_nonneg _
          have c2 : (i : Int) < (r : Int) := by omega
          have c3 : (0 : Int) ≤ (t : Int) := Int.natCast_nonneg _
          have c4 : (t : Int) < (k : Int) := by omega
          go_wp2
          go_region_law (first | (go_simp; go_at_call 91; refine (fused_any _ _ q1.drew q2.drew (by omega)).mono ?_; rintro e w2 ⟨g2, rfl, hg2, hrow2, hb2⟩; have ho2 := ho.drew.below hb2; have f6 := ho2.cell hlt; have f7 := ho2.frozen i))
          all_goals
            go_wp2
            go_roundw
            case rel =>
              have hgl : g < wr.heap.size := ho.top.lt
              have hsz := hbw.size
              refine ⟨t + 1, _, _, by omega, by go_num, (ho2.set (Byt.of_rowIs hrow2 ?_ ⟨?_, ?_⟩ (max_of (by omega))) i).congr fun i' _ => ?_, (below_then hbw.drew hsz hb2).setCell ho.lo _⟩
              · exact fuse_length _ (mkr_length _ _) (hb.rows t hlt2').len
              · have : wr.drew.heap.size = wr.heap.size := rfl
                omega
              · have : wr.drew.heap.size = wr.heap.size := rfl
                omega
              · exact mulP_step a b i t i' (hb.rows t hlt2').len
            case measure => simp [intOf]; omega
        · obtain rfl : t = k := by omega
          go_wp2
          go_roundw
          case rel => exact ⟨i + 1, _, _, by omega, by go_num, ho.congr fun i' _ => mulP_next .., hbw⟩
          case measure => simp [intOf]; omega
    · obtain rfl : i = r := by omega
      go_wp2
      go_ret2
      exact ⟨g, _, _, rfl, ho.mat (max_of (by omega)) (mkm_length _ _ _) fun i' hi' => by rw [mulM, mrow_mkm _ hi']; exact mkr_congr fun j _ => mulP_end _ _ hi' j, hbw⟩
end
end Go.Proofs.Ytifhjigkljdkmaa
