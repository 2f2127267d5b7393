/- What the walks say of memory: rows of cells that a slice reads, lists of bytes, matrices; how these facts are carried from one world to the next. -/
import Derived.Test.YtifhjigkljdkmaaB
import Derived.Test.YtifhjigkljdkmaaPl
import Derived.Deep.OwnRows
import Derived.Deep.Draws
import Derived.Below
import Derived.OwnWalk
import Derived.Maps.AppendAt
import Derived.Deep.RegionHeld3
import Derived.StillTailTactics
import Derived.Deep.QuietTactic
import Derived.BigQuiet
import Derived.Lib.SliceRun
import Derived.Deep.RegionLaw
namespace Go.Proofs.Ytifhjigkljdkmaa
open Go.RowKit
open Gf (F)
set_option linter.unusedSimpArgs false
set_option linter.unusedVariables false

/-! ### Worlds -/
/-- Only blocks that p names may have changed, of those that were there. -/
structure Keeps (p : Nat → Prop) (w w' : World) : Prop where
  size : w.heap.size ≤ w'.heap.size
  block : ∀ b, b < w.heap.size → p b → w'.heap[b]? = w.heap[b]?
theorem Keeps.refl (p : Nat → Prop) (w : World) : Keeps p w w := ⟨Nat.le_refl _, fun _ _ _ => rfl⟩
theorem Keeps.trans {p : Nat → Prop} {a b c : World} (h : Keeps p a b) (k : Keeps p b c) : Keeps p a c :=
  ⟨Nat.le_trans h.size k.size, fun x hx hp => (k.block x (Nat.lt_of_lt_of_le hx h.size) hp).trans (h.block x hx hp)⟩
theorem Keeps.mono {p q : Nat → Prop} {a b : World} (h : Keeps p a b) (hq : ∀ x, q x → p x) : Keeps q a b := ⟨h.size, fun x hx hp => h.block x hx (hq x hp)⟩
theorem Keeps.of_below {p : Nat → Prop} {w w' : World} {B : Nat} (h : Below B w w') (hB : ∀ x, x < w.heap.size → p x → x < B) : Keeps p w w' := ⟨h.size, fun x hx hp => h.block x (hB x hx hp)⟩
theorem Keeps.below {p : Nat → Prop} {w w' : World} (h : Below w.heap.size w w') : Keeps p w w' := .of_below h fun _ hx _ => hx
theorem Keeps.drew {p : Nat → Prop} {a w : World} (h : Keeps p a w) : Keeps p a w.drew := ⟨h.size, h.block⟩
theorem Keeps.drewN {p : Nat → Prop} {a w : World} (h : Keeps p a w) (n : Nat) : Keeps p a (w.drewN n) := ⟨h.size, h.block⟩
theorem Keeps.setCell {p : Nat → Prop} {w : World} {a : Addr} (ha : ¬ p a.block) (v : Value) : Keeps p w (w.setCell a v) :=
  ⟨by simp, fun x _ hp => Below.heap_setCell w a v x (fun e => ha (e ▸ hp))⟩
theorem Keeps.alloc {p : Nat → Prop} (w : World) (o : Obj) : Keeps p w (w.alloc o) := ⟨by simp, fun x hx _ => Below.heap_alloc w o x hx⟩
theorem Keeps.grown {p : Nat → Prop} {w w' : World} {row : Option Nat} (h : w.grownBy w' row) (hr : ∀ g, row = some g → ¬ p g) : Keeps p w w' :=
  ⟨h.size, fun x hx hp => h.block x hx (fun e => hr x e.symm hp)⟩
theorem below_drewN {B : Nat} {a w : World} (h : Below B a w) (n : Nat) : Below B a (w.drewN n) := ⟨h.os, h.tape, h.output, h.size, h.block⟩
theorem below_then {B : Nat} {a b c : World} (h : Below B a b) (hB : B ≤ b.heap.size) (k : Below b.heap.size b c) : Below B a c := h.trans (k.mono hB)
theorem below_then2 {a b c : World} (h : Below a.heap.size a b) (k : Below b.heap.size b c) : Below a.heap.size a c := below_then h h.size k

/-! ### Rows -/
/-- The slice '.slice A n c' reads f: element j is the one cell f j. -/
structure Row (p : Nat → Prop) (w : World) (A : Option Addr) (n c : Nat) (f : Nat → Value) : Prop where
  le : n ≤ c
  cap : c ≤ maxLen
  at_ : 0 < n → ∃ b o, A = some ⟨b, o, none⟩ ∧ p b ∧ b < w.heap.size ∧ ∀ j, j < n → w.cell? ⟨b, o + j, none⟩ = some (f j)
section
variable {p q : Nat → Prop} {w w' : World} {A : Option Addr} {n c : Nat} {f : Nat → Value}
theorem Row.keep (h : Row p w A n c f) (k : Keeps p w w') : Row p w' A n c f :=
  ⟨h.le, h.cap, fun hn => by
    obtain ⟨b, o, e, hp, hlt, hc⟩ := h.at_ hn
    exact ⟨b, o, e, hp, Nat.lt_of_lt_of_le hlt k.size, fun j hj => (World.cell?_of_block (w := w) (a := ⟨b, o + j, none⟩) (k.block b hlt hp)).trans (hc j hj)⟩⟩
theorem Row.below (h : Row p w A n c f) (k : Below w.heap.size w w') : Row p w' A n c f := h.keep (.below k)
theorem Row.mono (h : Row p w A n c f) (hq : ∀ b, b < w.heap.size → p b → q b) : Row q w A n c f :=
  ⟨h.le, h.cap, fun hn => by
    obtain ⟨b, o, e, hp, hlt, hc⟩ := h.at_ hn
    exact ⟨b, o, e, hq b hlt hp, hlt, hc⟩⟩
theorem Row.drew (h : Row p w A n c f) : Row p w.drew A n c f := h.keep (Keeps.refl p w).drew
theorem Row.congr {g : Nat → Value} (h : Row p w A n c f) (e : ∀ j, j < n → f j = g j) : Row p w A n c g :=
  ⟨h.le, h.cap, fun hn => by
    obtain ⟨b, o, e', hp, hlt, hc⟩ := h.at_ hn
    exact ⟨b, o, e', hp, hlt, fun j hj => by rw [hc j hj, e j hj]⟩⟩
theorem Row.nil (p : Nat → Prop) (w : World) (A : Option Addr) {c : Nat} (hc : c ≤ maxLen) (f : Nat → Value) : Row p w A 0 c f := ⟨Nat.zero_le _, hc, fun h => absurd h (Nat.lt_irrefl 0)⟩
theorem Row.len (h : Row p w A n c f) : n ≤ 9223372036854775807 := by
  have := h.le; have := h.cap; unfold maxLen at this; omega
theorem Row.of_rowIs {g : Nat} {t : TypeId} (h : w.rowIs g t n f) (hp : p g) (hn : n ≤ maxLen) : Row p w (some ⟨g, 0, none⟩) n n f :=
  ⟨Nat.le_refl _, hn, fun _ => ⟨g, 0, rfl, hp, h.lt, fun j hj => by rw [Nat.zero_add]; exact h.cell hj⟩⟩
/-- 's[k:]'. -/
theorem Row.from_ {b o k : Nat} (h : Row p w (some ⟨b, o, none⟩) n c f) (hk : k ≤ n) : Row p w (some ⟨b, o + k, none⟩) (n - k) (c - k) (fun j => f (k + j)) :=
  ⟨by have := h.le; omega, by have := h.cap; omega, fun hn => by
    obtain ⟨b', o', e, hp, hlt, hc⟩ := h.at_ (by omega)
    simp only [Option.some.injEq, Addr.mk.injEq, and_true] at e
    obtain ⟨rfl, rfl⟩ := e
    exact ⟨b, o + k, rfl, hp, hlt, fun j hj => by rw [Nat.add_assoc]; exact hc (k + j) (by omega)⟩⟩
end

/-! ### Bytes -/
/-- The slice reads the bytes l. -/
structure Byt (p : Nat → Prop) (w : World) (A : Option Addr) (n c : Nat) (l : List F) : Prop where
  len : l.length = n
  row : Row p w A n c fun j => .int .u8 ((nth l j).toNat : Int)
section
variable {p q : Nat → Prop} {w w' : World} {A : Option Addr} {n c : Nat} {l : List F}
theorem Byt.keep (h : Byt p w A n c l) (k : Keeps p w w') : Byt p w' A n c l := ⟨h.len, h.row.keep k⟩
theorem Byt.below (h : Byt p w A n c l) (k : Below w.heap.size w w') : Byt p w' A n c l := ⟨h.len, h.row.below k⟩
theorem Byt.mono (h : Byt p w A n c l) (hq : ∀ b, b < w.heap.size → p b → q b) : Byt q w A n c l := ⟨h.len, h.row.mono hq⟩
theorem Byt.any (h : Byt p w A n c l) : Byt (fun _ => True) w A n c l := h.mono fun _ _ _ => trivial
/-- Where there is an element: the block, and every cell. -/
theorem Byt.at_ (h : Byt p w A n c l) (hn : 0 < n) : ∃ b o, A = some ⟨b, o, none⟩ ∧ p b ∧ b < w.heap.size ∧ ∀ j, j < n → w.cell? ⟨b, o + j, none⟩ = some (.int .u8 ((nth l j).toNat : Int)) := h.row.at_ hn
theorem Byt.of_rowIs {g : Nat} {t : TypeId} (h : w.rowIs g t n fun j => .int .u8 ((nth l j).toNat : Int)) (hl : l.length = n) (hp : p g) (hn : n ≤ maxLen) : Byt p w (some ⟨g, 0, none⟩) n n l := ⟨hl, Row.of_rowIs h hp hn⟩
end

/-! ### Making -/
section
variable {P : Program}
/-- 'make([]T, n)', T of one cell: a new block of n zero values. -/
theorem wpl_make {w : World} {ops : Array Oper} {rest : List Oper} {o : Oper} {a : Act} {Q : Exit → Act → World → Prop}
    (hg : o.guard = none) {l c : Operand} {t : TypeId} (hop : o.op = Op.makeSlice t l c)
    {e : TypeId} {z : Value} {bytes : Nat} (ht : P.underlying t = some (.slice e)) (hinfo : (P.info? e).map (fun i => (i.zero, i.size, i.bytes)) = some (some z, 1, bytes)) (hz1 : z.cells = #[z])
    {n : Nat} (hl : a.eval l = .int .i64 (n : Int)) (hc : a.eval c = .int .i64 (n : Int)) (hbytes : bytes * n ≤ 281474976710656) (h63 : n ≤ 9223372036854775807)
    (hK : ∀ w1 g, w1.rowIs g e n (fun _ => z) → Below w.heap.size w w1 → w.heap.size ≤ g → wpList P ops Q rest (a.put o.dst (.slice (some ⟨g, 0, none⟩) n n)) w1) :
    wpList P ops Q (o :: rest) a w := by
  obtain ⟨i, hi, hzz⟩ := Option.map_eq_some_iff.1 hinfo
  simp only [Prod.mk.injEq] at hzz
  obtain ⟨hz, hs, hb⟩ := hzz
  exact wpList_make_row w hg l c t hop e i z ht hi hz hs hz1 .i64 .i64 n hl hc (by rw [hb]; exact hbytes) h63
    (hK _ _ (World.rowIs_made w z n e) ((Below.refl _ _).alloc (Nat.le_refl _) _) (Nat.le_refl _))
end
theorem info5 : (Try.prog.info? 5).map (fun i => (i.zero, i.size, i.bytes)) = some (some (.int .u8 0), 1, 1) := by kernel_rfl
theorem u8_xor_F (x y : F) : bits .xor .u8 (x.toNat : Int) (y.toNat : Int) = ((x ^^^ y).toNat : Int) := by
  rw [u8_xor_nat _ _ (Gf.lt x) (Gf.lt y), UInt8.toNat_xor]
/-- The first k cells have their last value, the others their first. -/
def upto (k : Nat) (f g : Nat → Value) (j : Nat) : Value := if j < k then f j else g j
theorem upto_set {k : Nat} {f g : Nat → Value} {v : Value} (h : f k = v) : (fun j => if j = k then v else upto k f g j) = upto (k + 1) f g := by
  funext j
  unfold upto
  by_cases hj : j = k
  · subst hj; simp [h]
  · by_cases hlt : j < k
    · rw [if_neg hj, if_pos hlt, if_pos (by omega)]
    · rw [if_neg hj, if_neg hlt, if_neg (by omega)]
theorem upto_zero (f g : Nat → Value) : upto 0 f g = g := by funext j; simp [upto]
theorem upto_at (k : Nat) (f g : Nat → Value) : upto k f g k = g k := by simp [upto]
theorem upto_lt {k j : Nat} (h : j < k) (f g : Nat → Value) : upto k f g j = f j := by simp [upto, h]
def bytes (l : List F) (j : Nat) : Value := .int .u8 ((nth l j).toNat : Int)
def zeros (_ : Nat) : Value := .int .u8 0
theorem rowIs_upto_set {w : World} {g k n : Nat} {t : TypeId} {f h : Nat → Value} {v : Value} (r : w.rowIs g t n (upto k f h)) (e : f k = v) : (w.setCell ⟨g, k, none⟩ v).rowIs g t n (upto (k + 1) f h) := by
  have := r.set k v
  rwa [upto_set e] at this
theorem cell_set_ne {w : World} {g k b o : Nat} {v u : Value} (h : b ≠ g) (e : w.cell? ⟨b, o, none⟩ = some u) : (w.setCell ⟨g, k, none⟩ v).cell? ⟨b, o, none⟩ = some u :=
  (World.cell?_setCell_other _ _ _ _ (fun e' => h (congrArg Addr.block e').symm)).trans e

/-! ### Slices that the call itself appends to -/
section
variable {P : Program} {w : World}
theorem own_slice {base : Nat} {e : TypeId} {v : Value} {n : Nat} {xs : List Value} (h : w.ownsRow base e 1 v n xs) :
    ∃ A c, v = .slice A n c ∧ Row (fun b => base ≤ b ∧ some b = v.ownBlock) w A n c (fun j => xs.getD j undef) := by
  have hl := h.1
  rcases h.2 with ⟨rfl, rfl⟩ | ⟨g, cap, cur, rfl, hg, hh, hn, hc, hs, ht⟩
  · exact ⟨none, 0, rfl, Row.nil _ _ _ (Nat.zero_le _) _⟩
  · refine ⟨some ⟨g, 0, none⟩, cap, rfl, hn, hc, fun _ => ⟨g, 0, rfl, ⟨hg, rfl⟩, ?_, fun j hj => ?_⟩⟩
    · exact (h.lt g rfl).2
    · rw [Nat.zero_add]
      have := h.cellAt j (by omega)
      rw [this, List.getD_eq_getElem?_getD, List.getElem?_eq_getElem (by omega)]
      rfl
theorem run_append_row (base : Nat) (t ty e : TypeId) {z : Value} {bytes : Nat} (ht : P.underlying t = some (.slice e)) (hinfo : (P.info? e).map (fun i => (i.zero, i.size, i.bytes)) = some (some z, 1, bytes)) (hz1 : z.cells = #[z])
    (v : Value) (n : Nat) (xs : List Value) (hown : w.ownsRow base e 1 v n xs)
    {p : Nat → Prop} (A : Option Addr) (m c : Nat) (f : Nat → Value) (hr : Row p w A m c f) (h1 : ∀ j, j < m → (f j).oneCell' = true)
    (h63 : n + m ≤ maxLen) (hbytes : (n + m) * bytes ≤ 140737488355328) (hbase : base ≤ w.heap.size) :
    ∃ v' w', (Builtin.append_ #[t, t] ty #[v, .slice A m c]).run P w = .ok v' w' ∧ w'.ownsRow base e 1 v' (n + m) (xs ++ (List.range m).map f) ∧ w.grownBy w' v.ownBlock ∧
      (v'.ownBlock = v.ownBlock ∨ v'.ownBlock = some w.heap.size) := by
  obtain ⟨i, hi, hzz⟩ := Option.map_eq_some_iff.1 hinfo
  simp only [Prod.mk.injEq] at hzz
  obtain ⟨hz, hs, hb⟩ := hzz
  have main : ∀ ad : Addr, (∀ j, j < m → w.cell? (ad.add j) = some (f j)) → ∃ v' w', (Builtin.append_ #[t, t] ty #[v, .slice (some ad) m c]).run P w = .ok v' w' ∧ w'.ownsRow base e 1 v' (n + m) (xs ++ (List.range m).map f) ∧ w.grownBy w' v.ownBlock ∧
      (v'.ownBlock = v.ownBlock ∨ v'.ownBlock = some w.heap.size) := by
    intro ad hc
    obtain ⟨v', w', hrun, h2, h3, _, h5⟩ := run_append_own_at (P := P) w base t ty e i z 1 bytes ht hi hz hs hb (by rw [hz1]; rfl) (by omega) v n xs hown ad m c ((List.range m).map f) (by simp)
      (fun j u hj => by
        rw [List.getElem?_map] at hj
        by_cases hjm : j < m
        · rw [List.getElem?_range hjm] at hj
          simp only [Option.map_some, Option.some.injEq] at hj
          subst hj
          exact hc j hjm
        · rw [List.getElem?_eq_none (by simp; omega)] at hj; simp at hj)
      (fun u hu => by
        obtain ⟨j, hj, rfl⟩ := List.mem_map.1 hu
        exact h1 j (List.mem_range.1 hj)) h63 hbytes hbase
    exact ⟨v', w', hrun, h2, h3, h5⟩
  by_cases hm : m = 0
  · subst hm
    cases A with
    | some ad => exact main ad (fun j hj => absurd hj (Nat.not_lt_zero _))
    | none =>
      refine ⟨v, w, ?_, by simpa using hown, World.grownBy.refl w _, .inl rfl⟩
      rcases hown.2 with ⟨rfl, rfl⟩ | ⟨g, cap, cur, rfl, _, _, hnc, _⟩
      · simp [Builtin.append_, run_underlying ht, sizeOf, typeInfo, hi, Builtin.lenOf, Builtin.firstCells]
      · simp [Builtin.append_, run_underlying ht, sizeOf, typeInfo, hi, Builtin.lenOf, Builtin.firstCells, hnc, storeCells]
  · obtain ⟨b, o, rfl, _, _, hc⟩ := hr.at_ (by omega)
    refine main _ (fun j hj => ?_)
    have := hc j hj
    unfold Addr.add
    split
    · rename_i h0; subst h0; exact this
    · exact this
/-- append of whatever a row reads onto a slice of the call's own. -/
theorem wp_append_row {o : Oper} {a : Act} {K : Act → World → Prop} {Q : Exit → Act → World → Prop} {s x : Operand} {t : TypeId}
    (ho : o.op = .call { callee := .builtin .append, args := #[s, x], argTypes := #[t, t] })
    {base : Nat} {e : TypeId} {z : Value} {bytes : Nat} (ht : P.underlying t = some (.slice e)) (hinfo : (P.info? e).map (fun i => (i.zero, i.size, i.bytes)) = some (some z, 1, bytes)) (hz1 : z.cells = #[z])
    {v : Value} {n : Nat} {xs : List Value} (hs : a.eval s = v) (hown : w.ownsRow base e 1 v n xs)
    {p : Nat → Prop} {A : Option Addr} {m c : Nat} {f : Nat → Value} (hx : a.eval x = .slice A m c) (hr : Row p w A m c f) (h1 : ∀ j, j < m → (f j).oneCell' = true)
    (h63 : n + m ≤ maxLen) (hbytes : (n + m) * bytes ≤ 140737488355328) (hbase : base ≤ w.heap.size)
    (h : ∀ v' w', w'.ownsRow base e 1 v' (n + m) (xs ++ (List.range m).map f) → w.grownBy w' v.ownBlock → (v'.ownBlock = v.ownBlock ∨ v'.ownBlock = some w.heap.size) → K (a.put o.dst v') w') : o.wp P a w K Q := by
  obtain ⟨v', w', hrun, h2, h3, h4⟩ := run_append_row (P := P) base t o.type e ht hinfo hz1 v n xs hown A m c f hr h1 h63 hbytes hbase
  unfold Oper.wp execOp
  simp only [ho, resolve, invoke, builtin, Sem.run_bind, Sem.run_pure, Result.andThen_ok, List.map_toArray, List.map_cons, List.map_nil, hs, hx, hrun]
  exact h v' w' h2 h3 h4
theorem wpl_append_row {ops : Array Oper} {rest : List Oper} {o : Oper} {a : Act} {Q : Exit → Act → World → Prop} (hgd : o.guard = none) {s x : Operand} {t : TypeId}
    (ho : o.op = .call { callee := .builtin .append, args := #[s, x], argTypes := #[t, t] })
    {base : Nat} {e : TypeId} {z : Value} {bytes : Nat} (ht : P.underlying t = some (.slice e)) (hinfo : (P.info? e).map (fun i => (i.zero, i.size, i.bytes)) = some (some z, 1, bytes)) (hz1 : z.cells = #[z])
    {v : Value} {n : Nat} {xs : List Value} (hs : a.eval s = v) (hown : w.ownsRow base e 1 v n xs)
    {p : Nat → Prop} {A : Option Addr} {m c : Nat} {f : Nat → Value} (hx : a.eval x = .slice A m c) (hr : Row p w A m c f) (h1 : ∀ j, j < m → (f j).oneCell' = true)
    (h63 : n + m ≤ maxLen) (hbytes : (n + m) * bytes ≤ 140737488355328) (hbase : base ≤ w.heap.size)
    (h : ∀ v' w', w'.ownsRow base e 1 v' (n + m) (xs ++ (List.range m).map f) → w.grownBy w' v.ownBlock → (v'.ownBlock = v.ownBlock ∨ v'.ownBlock = some w.heap.size) → wpList P ops Q rest (a.put o.dst v') w') : wpList P ops Q (o :: rest) a w :=
  wpList_plain hgd fun _ hK => wp_append_row ho ht hinfo hz1 hs hown hx hr h1 h63 hbytes hbase fun v' w' h2 h3 h4 => hK _ _ (h v' w' h2 h3 h4)
/-- The one new cell that 'append(s, x)' lays ahead. -/
theorem row_one {w : World} (x : Value) (e : TypeId) : Row (fun b => b = w.heap.size) (w.alloc (.cells #[x] e)) (some ⟨w.heap.size, 0, none⟩) 1 1 (fun _ => x) :=
  Row.of_rowIs (g := w.heap.size) (t := e) (World.rowIs_alloc w #[x] e (fun _ => x) (fun i hi => by
    have : i = 0 := by simpa using hi
    subst this; rfl)) rfl (by unfold maxLen; omega)
/-- 'append(s, x)', x one cell: s the call's own (or nil), the new cell laid ahead of it (world W). -/
theorem wpl_append1 {W : World} {ops : Array Oper} {rest : List Oper} {o : Oper} {a : Act} {Q : Exit → Act → World → Prop} (hgd : o.guard = none) {s x : Operand} {t : TypeId}
    (ho : o.op = .call { callee := .builtin .append, args := #[s, x], argTypes := #[t, t] })
    {base : Nat} {e : TypeId} {z : Value} {bytes : Nat} (ht : P.underlying t = some (.slice e)) (hinfo : (P.info? e).map (fun i => (i.zero, i.size, i.bytes)) = some (some z, 1, bytes)) (hz1 : z.cells = #[z])
    {v : Value} {n : Nat} {xs : List Value} (hs : a.eval s = v) (hown : W.ownsRow base e 1 v n xs)
    {u : Value} (hx : a.eval x = .slice (some ⟨W.heap.size, 0, none⟩) 1 1) (hu : u.oneCell' = true)
    (h63 : n + 1 ≤ maxLen) (hbytes : (n + 1) * bytes ≤ 140737488355328) (hbase : base ≤ W.heap.size)
    (h : ∀ v' w', w'.ownsRow base e 1 v' (n + 1) (xs ++ [u]) → W.grownBy w' v.ownBlock → (∀ b, b < W.heap.size → some b ≠ v.ownBlock → some b ≠ v'.ownBlock) → wpList P ops Q rest (a.put o.dst v') w') : wpList P ops Q (o :: rest) a (W.alloc (.cells #[u] e)) :=
  wpl_append_row hgd ho ht hinfo hz1 hs (hown.alloc _) hx (row_one u e) (fun _ _ => hu) h63 hbytes (by simp; omega) fun v' w' h2 h3 h4 =>
    h v' w' h2 ⟨h3.os, h3.tape, h3.output, by have := h3.size; simp at this; omega, fun k hk hne => (h3.block k (by simp; omega) hne).trans (Below.heap_alloc _ _ _ hk)⟩ (fun b hb hne => by
      rcases h4 with e' | e' <;> rw [e']
      · exact hne
      · simp; omega)
end
end Go.Proofs.Ytifhjigkljdkmaa
