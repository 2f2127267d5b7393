/- A list of numbers and a list of blocks, both the call's own; decode.Decode: what it keeps. -/
import Derived.Test.YtifhjigkljdkmaaWf
import Derived.Test.YtifhjigkljdkmaaFr
import Derived.Test.YtifhjigkljdkmaaGc
namespace Go.Proofs.Ytifhjigkljdkmaa
open Go.RowKit
open Gf (F)
set_option linter.unusedSimpArgs false
set_option linter.unusedVariables false
section
variable {P : Program} {w : World}
theorem AnyE.both {ops : Array Oper} {Q : Exit → Act → World → Prop} {md : Region.Mode} {S : World → Prop} {z : Nat} (i j : Nat) {o o' : Oper} {n : Nat} {l : Array Bool} {a : Act} {w : World} (ho : ops[i]? = some o) (ho' : ops[j]? = some o') (hr : Region.ready md ops l = [i, j])
    (h : ∀ K : Act → World → Prop, Shut (∀ a' w', ((l.setIfInBounds i true).getD z false = false → S w') → AnyE P md ops Q S z n (l.setIfInBounds i true) a' w' → K a' w') → if Region.wanted o (yielded ops a.tmps) = true then Oper.wp P o a w K Q else K (a.put o.dst undef) w)
    (h' : ∀ K : Act → World → Prop, Shut (∀ a' w', ((l.setIfInBounds j true).getD z false = false → S w') → AnyE P md ops Q S z n (l.setIfInBounds j true) a' w' → K a' w') → if Region.wanted o' (yielded ops a.tmps) = true then Oper.wp P o' a w K Q else K (a.put o'.dst undef) w) :
    AnyE P md ops Q S z (n + 1) l a w :=
  ⟨fun e => (by rw [hr] at e; cases e), fun x hx => by
    rw [hr] at hx
    rcases List.mem_cons.1 hx with rfl | hx
    · exact wpOp_step ho fun K' hK => h K' fun a' w' hs ha => hK a' w' ⟨hs, ha⟩
    · obtain rfl := List.mem_singleton.1 hx
      exact wpOp_step ho' fun K' hK => h' K' fun a' w' hs ha => hK a' w' ⟨hs, ha⟩⟩
theorem step_build1_agg {ops : Array Oper} {o : Oper} {a : Act} {K : Act → World → Prop} {Q : Exit → Act → World → Prop} {E : Prop} (hgd : o.guard = none) {t : TypeId} {x : Operand} (ho : o.op = .buildSlice t 1 #[(0, x)])
    {e : TypeId} {s : Nat} {z : Value} {bytes : Nat} (ht : P.underlying t = some (.slice e)) (hinfo : (P.info? e).map (fun i => (i.zero, i.size, i.bytes)) = some (some z, s, bytes)) (hs0 : 0 < s) (hs : s ≤ 2 ^ 24)
    {cs : Array Value} (hx : a.eval x = .agg cs) (hcs : cs.size = s)
    (h : K (a.put o.dst (.slice (some ⟨w.heap.size, 0, none⟩) 1 1)) (w.alloc (.cells cs e))) : if Region.wanted o (yielded ops a.tmps) = true then Oper.wp P o a w K Q else E := by
  have hw : Region.wanted o (yielded ops a.tmps) = true := by simp [Region.wanted, hgd]
  rw [if_pos hw]
  obtain ⟨i, hi, hzz⟩ := Option.map_eq_some_iff.1 hinfo
  simp only [Prod.mk.injEq] at hzz
  obtain ⟨hz, hsz, hb⟩ := hzz
  refine wp_buildSlice t e 1 _ ho cs i z ht hi hz (by rw [hsz]; omega) (by rw [hsz]; omega) ?_ h
  rw [hsz]
  have e1 : (#[(0, x)].map fun (x : Nat × Operand) => (x.1, a.eval x.2)).toList = [(0, Value.agg cs)] := by simp [hx]
  rw [e1]
  exact fill_one hs0 hcs (by simp)
theorem step_append_elm {ops : Array Oper} {o : Oper} {a : Act} {K : Act → World → Prop} {Q : Exit → Act → World → Prop} {E' : Prop} (hgd : o.guard = none) {sl x : Operand} {t : TypeId}
    (ho : o.op = .call { callee := .builtin .append, args := #[sl, x], argTypes := #[t, t] })
    {base : Nat} {e : TypeId} {s : Nat} {z : Value} {bytes : Nat} (ht : P.underlying t = some (.slice e)) (hinfo : (P.info? e).map (fun i => (i.zero, i.size, i.bytes)) = some (some z, s, bytes)) (hzs : z.cells.size = s) (hs0 : 0 < s)
    {v : Value} {n : Nat} {xs : List Value} (hs : a.eval sl = v) (hown : w.ownsRow base e s v n xs)
    {p : Nat → Prop} {A : Option Addr} {m c : Nat} {E : Nat → Array Value} (hx : a.eval x = .slice A m c) (hr : Elm s p w A m c E)
    (h63 : n + m ≤ maxLen) (hbytes : (n + m) * bytes ≤ 140737488355328) (hbase : base ≤ w.heap.size)
    (h : ∀ v' w', w'.ownsRow base e s v' (n + m) (xs ++ flatE E m) → w.grownBy w' v.ownBlock → (v'.ownBlock = v.ownBlock ∨ v'.ownBlock = some w.heap.size) → K (a.put o.dst v') w') : if Region.wanted o (yielded ops a.tmps) = true then Oper.wp P o a w K Q else E' := by
  have hw : Region.wanted o (yielded ops a.tmps) = true := by simp [Region.wanted, hgd]
  rw [if_pos hw]
  obtain ⟨v', w', hrun, h2, h3, h4⟩ := run_append_elm (P := P) base t o.type e ht hinfo hzs hs0 v n xs hown A m c E hr h63 hbytes hbase
  unfold Oper.wp execOp
  simp only [ho, resolve, invoke, builtin, Sem.run_bind, Sem.run_pure, Result.andThen_ok, List.map_toArray, List.map_cons, List.map_nil, hs, hx, hrun]
  exact h v' w' h2 h3 h4
end
/-- The two lists. -/
structure TwoOwn (w0 W : World) (vi vb : Value) (ki kb : Nat) (li : List Int) (B : List (List F)) : Prop where
  ints : W.ownsRow w0.heap.size 3 1 vi ki (li.map fun n => Value.int .i64 n)
  blks : OwnB W w0.heap.size vb kb B
  ne : vi.ownBlock = none ∨ vi.ownBlock ≠ vb.ownBlock
  nf : vb.ownBlock = none ∨ vb.ownBlock ≠ vi.ownBlock
  bel : Below w0.heap.size w0 W
section
variable {w0 W W' : World} {vi vb v' : Value} {ki kb : Nat} {li : List Int} {B : List (List F)}
theorem TwoOwn.size (h : TwoOwn w0 W vi vb ki kb li B) : w0.heap.size ≤ W.heap.size := h.bel.size
theorem TwoOwn.below (h : TwoOwn w0 W vi vb ki kb li B) (hb : Below W.heap.size W W') : TwoOwn w0 W' vi vb ki kb li B :=
  ⟨own_belowE h.ints hb, h.blks.below hb, h.ne, h.nf, below_then2 h.bel hb⟩
theorem TwoOwn.newI (h : TwoOwn w0 W vi vb ki kb li B) {b : Nat} (hb : W.heap.size ≤ b) : some b ≠ vi.ownBlock := fun e => by
  have := (h.ints.lt b e.symm).2
  omega
theorem TwoOwn.newB (h : TwoOwn w0 W vi vb ki kb li B) {b : Nat} (hb : W.heap.size ≤ b) : some b ≠ vb.ownBlock := fun e => by
  have := (h.blks.own.lt b e.symm).2
  omega
theorem TwoOwn.pushI (h : TwoOwn w0 W vi vb ki kb li B) {x : Int} (own' : W'.ownsRow w0.heap.size 3 1 v' (ki + 1) ((li.map fun n => Value.int .i64 n) ++ (List.range 1).map fun _ => Value.int .i64 x)) (hgr : W.grownBy W' vi.ownBlock) (hor : v'.ownBlock = vi.ownBlock ∨ v'.ownBlock = some W.heap.size) : TwoOwn w0 W' v' vb (ki + 1) kb (li ++ [x]) B := by
  have e : v'.ownBlock = none ∨ v'.ownBlock ≠ vb.ownBlock := by
    rcases hor with e | e
    · rw [e]; exact h.ne
    · rw [e]; exact .inr (h.newB (Nat.le_refl _))
  have e2 : vb.ownBlock = none ∨ vb.ownBlock ≠ v'.ownBlock := by
    rcases hor with e | e
    · rw [e]; exact h.nf
    · rw [e]; exact .inr (h.newB (Nat.le_refl _)).symm
  exact ⟨by rw [ints_step]; exact own', ⟨h.blks.len, h.blks.row, h.blks.own.kept hgr h.nf⟩, e, e2, h.bel.grown hgr h.bel.size (fun k e => (h.ints.lt k e).1)⟩
theorem TwoOwn.pushB (h : TwoOwn w0 W vi vb ki kb li B) {x : List F} (hx : x.length = 8) (own' : W'.ownsRow w0.heap.size 64 8 v' (kb + 1) (flatB B kb ++ flatE (fun _ => agc x) 1)) (hgr : W.grownBy W' vb.ownBlock) (hor : v'.ownBlock = vb.ownBlock ∨ v'.ownBlock = some W.heap.size) : TwoOwn w0 W' vi v' ki (kb + 1) li (B ++ [x]) := by
  have e : v'.ownBlock = none ∨ v'.ownBlock ≠ vi.ownBlock := by
    rcases hor with e | e
    · rw [e]; exact h.nf
    · rw [e]; exact .inr (h.newI (Nat.le_refl _))
  have e2 : vi.ownBlock = none ∨ vi.ownBlock ≠ v'.ownBlock := by
    rcases hor with e | e
    · rw [e]; exact h.ne
    · rw [e]; exact .inr (h.newI (Nat.le_refl _)).symm
  exact ⟨h.ints.kept hgr h.ne, h.blks.push hx (by rw [← flatE_single]; exact own'), e2, e, h.bel.grown hgr h.bel.size (fun k e => (h.blks.own.lt k e).1)⟩
end
/-! ### Which pieces help -/
def helpL (wd : Nat) (b : List Bool) (k : Nat) : List Int := (sel (goodP b) k).take (wd - 3)
def helpB (M : List (List F)) (l : List Int) : List (List F) := l.map fun z => mrow M z.toNat
theorem helpB_length (M : List (List F)) (l : List Int) : (helpB M l).length = l.length := by simp [helpB]
theorem helpB_push (M : List (List F)) (l : List Int) (k : Nat) : helpB M (l ++ [(k : Int)]) = helpB M l ++ [mrow M k] := by simp [helpB]
theorem help_yes {wd k : Nat} {b : List Bool} (hg : goodP b k = true) (hl : (helpL wd b k).length < wd - 3) : helpL wd b (k + 1) = helpL wd b k ++ [(k : Int)] := by
  unfold helpL at *
  rw [List.length_take] at hl
  have h1 : (sel (goodP b) k).length < wd - 3 := by omega
  rw [sel_yes hg, List.take_of_length_le (by simp; omega), List.take_of_length_le (by omega)]
theorem help_full {wd k : Nat} {b : List Bool} (hg : goodP b k = true) (hl : ¬ (helpL wd b k).length < wd - 3) : helpL wd b (k + 1) = helpL wd b k := by
  unfold helpL at *
  rw [List.length_take] at hl
  rw [sel_yes hg, List.take_append_of_le_length (by omega)]
theorem help_no {wd k : Nat} {b : List Bool} (hg : goodP b k = false) : helpL wd b (k + 1) = helpL wd b k := by
  unfold helpL
  rw [sel_no hg]
theorem help_len (wd k : Nat) (b : List Bool) : (helpL wd b k).length ≤ k := by
  have := sel_len (goodP b) k
  unfold helpL
  rw [List.length_take]
  omega
end Go.Proofs.Ytifhjigkljdkmaa
