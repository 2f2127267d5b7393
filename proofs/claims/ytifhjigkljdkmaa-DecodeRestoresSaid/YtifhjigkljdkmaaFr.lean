/- tegulalaw24.from: a list of changes, made anew. -/
import Derived.Test.YtifhjigkljdkmaaAp
import Derived.Great.BuildSlice
namespace Go.Proofs.Ytifhjigkljdkmaa
open Go.RowKit
open Gf (F)
set_option linter.unusedSimpArgs false
set_option linter.unusedVariables false
theorem fill_one {s : Nat} {cs cells : Array Value} (hs : 0 < s) (hcs : cs.size = s) (hc : cells.size = s) : Instr.fill (fun i => some (i * s, s)) cells [(0, .agg cs)] = some cs := by
  obtain ⟨r, hr, hsz, hk⟩ := Great.fill_dense hs [Value.agg cs] 0 cells (by simp; exact hcs) (by simp; omega)
  have e : (([Value.agg cs].zipIdx 0).map fun x => (x.2, x.1)) = [(0, Value.agg cs)] := rfl
  rw [e] at hr
  rw [hr]
  congr 1
  apply Array.ext_getElem?
  intro k
  rw [hk k]
  by_cases h : k < s
  · rw [if_pos (by simp; omega), Nat.div_eq_of_lt h, Nat.mod_eq_of_lt h]
    rfl
  · rw [if_neg (by simp; omega), Array.getElem?_eq_none (by omega), Array.getElem?_eq_none (by omega)]
section
variable {P : Program} {w : World}
/-- '[]T{x}', x of s cells. -/
theorem wpl_build1_agg {ops : Array Oper} {rest : List Oper} {o : Oper} {a : Act} {Q : Exit → Act → World → Prop} (hgd : o.guard = none) {t : TypeId} {x : Operand} (ho : o.op = .buildSlice t 1 #[(0, x)])
    {e : TypeId} {s : Nat} {z : Value} {bytes : Nat} (ht : P.underlying t = some (.slice e)) (hinfo : (P.info? e).map (fun i => (i.zero, i.size, i.bytes)) = some (some z, s, bytes)) (hs0 : 0 < s) (hs : s ≤ 2 ^ 24)
    {cs : Array Value} (hx : a.eval x = .agg cs) (hcs : cs.size = s)
    (h : wpList P ops Q rest (a.put o.dst (.slice (some ⟨w.heap.size, 0, none⟩) 1 1)) (w.alloc (.cells cs e))) : wpList P ops Q (o :: rest) a w := by
  obtain ⟨i, hi, hzz⟩ := Option.map_eq_some_iff.1 hinfo
  simp only [Prod.mk.injEq] at hzz
  obtain ⟨hz, hsz, hb⟩ := hzz
  refine wpList_buildSlice hgd t e 1 _ ho cs i z ht hi hz (by rw [hsz]; omega) (by rw [hsz]; omega) ?_ h
  rw [hsz]
  have e1 : (#[(0, x)].map fun (x : Nat × Operand) => (x.1, a.eval x.2)).toList = [(0, Value.agg cs)] := by simp [hx]
  rw [e1]
  exact fill_one hs0 hcs (by simp)
end
theorem own_belowE {w w' : World} {base : Nat} {e : TypeId} {s n : Nat} {v : Value} {xs : List Value} (h : w.ownsRow base e s v n xs) (hb : Below w.heap.size w w') : w'.ownsRow base e s v n xs := by
  obtain ⟨h1, h2⟩ := h
  refine ⟨h1, ?_⟩
  rcases h2 with hn | ⟨g, cap, cur, e, hg, hh, rest⟩
  · exact .inl hn
  · exact .inr ⟨g, cap, cur, e, hg, (hb.block g (Array.getElem?_eq_some_iff.1 hh).1).trans hh, rest⟩
theorem info124f : (Try.prog.info? 124).map (fun i => (i.zero, i.size, i.bytes)) = some (some (.agg #[.int .i64 0, .int .u8 0, .int .u8 0, .int .u8 0, .int .u8 0, .int .u8 0, .int .u8 0, .int .u8 0, .int .u8 0]), 9, 16) := by kernel_rfl
def chgF (l : List Chg) (n : Nat) : List Value := flatE (fun i => chgE (cget l i)) n
section
variable {p q : Nat → Prop} {w w' : World} {A B : Option Addr} {n c m d : Nat} {M : List (List F)} {l : List Chg}
set_option maxRecDepth 100000 in
set_option maxHeartbeats 1000000 in
theorem from24_any (h : Chgs p w A n c l) (hn : n ≤ 40) : Calls Try.prog 50 #[.slice A n c] w fun e w' => ∃ A' c', e = .returned (.slice A' n c') ∧ Chgs (fun _ => True) w' A' n c' l ∧ Below w.heap.size w w' := by
  have hl := Lib.hid h.len
  have hblk := Lib.hid h.blk
  go_enter Try.func50, Try.ntmps50
  go_wp2
  go_loopw [3, 8] (fun v x wr => ∃ k : Nat, k ≤ n ∧ x = .int .i64 k ∧ wr.ownsRow w.heap.size 124 9 v k (chgF l k) ∧ Below w.heap.size w wr) (fun _ x _ => n - (intOf x).toNat)
  case atStart => exact ⟨0, by omega, rfl, World.ownsRow_nil _ _ _ _, Below.refl _ _⟩
  case round =>
    obtain ⟨k, hk, rfl, hown, hbw⟩ := hrel
    have hsz := hbw.size
    by_cases hltk : k < n
    · obtain ⟨b2, o2, rfl, _, hlt2, hc2⟩ := h.at_ (by omega)
      have hx := h.blk k hltk
      have e1 : Hid (∀ j, j < (chgE (cget l k)).size → wr.cell? ⟨b2, o2 + k * 9 + j, none⟩ = (chgE (cget l k))[j]?) := fun j hj => (hbw.cell (by exact hlt2)).trans ((hc2 k hltk).2.2 j (by rwa [chgE_size hx] at hj))
      clear hc2
      obtain ⟨f9, hz9⟩ := zero_row9 wr 69
      have d1 : (0 : Int) ≤ (k : Int) := Int.natCast_nonneg _
      have d2 : (k : Int) < (n : Int) := by omega
      have hsx := chgE_size hx
      go_wp2_with (first | (with_reducible refine wpl_load_agg rfl rfl rfl Try.underlying69 rfl (info69 hx) e1.out ?_) | (with_reducible refine wpl_store_agg (t := 69) rfl rfl rfl rfl hz9 (info69 hx) (by rw [chgE_size hx]; decide) (chgE_one _) ?_; intro w4 hr4 hg4 hz4; have hb4 : Below wr.heap.size wr w4 := (((Below.refl _ wr).alloc (Nat.le_refl _) _).grown hg4 (by simp) (fun k e => by cases e; exact Nat.le_refl _)); obtain ⟨f0, f1, f2⟩ := put_chg hx hr4; clear f0 f1; replace f2 := Lib.hid f2; have hB4 := below_then2 hbw hb4; have hs4 := hB4.size; have hown4 := own_belowE hown hb4) | (with_reducible refine wpl_load_agg rfl rfl rfl Try.underlying69 rfl (info69 hx) f2.out ?_) | (with_reducible refine wpl_build1_agg rfl rfl Try.underlying57 info124f (by decide) (by decide) rfl hsx ?_) | (at_builtin; refine wpl_append_elm1 rfl (sl := .tmp 12) (x := .tmp 14) rfl Try.underlying57 info124f rfl (by decide) rfl hown4 rfl hsx (chgE_one _) (by unfold maxLen; omega) (by omega) (by omega) ?_; intro v2 w6 hown2 hgr2 hne2))
      go_roundw
      case rel => exact ⟨k + 1, by omega, by go_num, by rw [chgF, flatE_succ]; exact hown2, hB4.grown hgr2 hs4 (fun b e => (hown.lt b e).1)⟩
      case measure => simp [intOf]; omega
    · obtain rfl : k = n := by omega
      obtain ⟨A', c', rfl, he⟩ := own_elm (E := fun i => chgE (cget l i)) hown (fun j hj => chgE_size (hblk.out j hj)) (fun j _ => chgE_one _)
      go_wp2
      go_ret
      exact ⟨A', c', rfl, ⟨hl.out, hblk.out, he.mono fun _ _ _ => trivial⟩, hbw⟩
end
end Go.Proofs.Ytifhjigkljdkmaa
