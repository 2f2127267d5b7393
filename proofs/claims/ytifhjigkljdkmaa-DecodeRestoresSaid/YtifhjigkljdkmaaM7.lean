import Derived.Test.YtifhjigkljdkmaaM6
import Derived.Test.YtifhjigkljdkmaaOd
import Derived.Laws.CopyOwn
namespace Go.Proofs.Ytifhjigkljdkmaa
open Go.RowKit
open Gf (F)
set_option linter.unusedSimpArgs false
set_option linter.unusedVariables false
section
variable {P : Program} {w : World}
/-- Is the next operation a copy? -/
theorem guard_copy {ops : Array Oper} {rest : List Oper} {a : Act} {Q : Exit → Act → World → Prop} {dst : Option Tmp} {d s : Operand} {dT sT ty : TypeId} {ps : String} {af : Array Edge} {gd : Option (Nat × Bool)}
    (h : wpList P ops Q (⟨dst, .call ⟨.builtin .copy, #[d, s], #[dT, sT]⟩, ty, ps, af, gd⟩ :: rest) a w) : wpList P ops Q (⟨dst, .call ⟨.builtin .copy, #[d, s], #[dT, sT]⟩, ty, ps, af, gd⟩ :: rest) a w := h
/-- copy into the head of a row of the call's own. -/
theorem wpl_copy_head {ops : Array Oper} {rest : List Oper} {o : Oper} {a : Act} {Q : Exit → Act → World → Prop} (hgd : o.guard = none) {d s : Operand} {dT sT : TypeId}
    (ho : o.op = .call { callee := .builtin .copy, args := #[d, s], argTypes := #[dT, sT] }) {elem : TypeId} (hu : P.underlying dT = some (.slice elem)) (hsz : (P.info? elem).map (·.size) = some 1)
    {g dLen dCap : Nat} {t : TypeId} {f : Nat → Value} (hd : a.eval d = .slice (some ⟨g, 0, none⟩) dLen dCap) (hrow : w.rowIs g t dLen f)
    {p : Nat → Prop} {A : Option Addr} {n c : Nat} {h : Nat → Value} (hs : a.eval s = .slice A n c) (hr : Row p w A n c h) (hn : 0 < n) (hle : n ≤ dLen) (h1 : ∀ j, j < n → (h j).oneCell' = true)
    (hK : ∀ w', w'.rowIs g t dLen (fun j => if j < n then h j else f j) → w.grownBy w' (some g) → wpList P ops Q rest (a.put o.dst (.int .i64 (n : Int))) w') : wpList P ops Q (o :: rest) a w := by
  obtain ⟨b, off, rfl, _, _, hc⟩ := hr.at_ hn
  obtain ⟨cur, hg, hcs, hcf⟩ := hrow
  have hlen : ((List.range n).map h).length = n := by simp
  have e := wpList_copy_own (P := P) (w := w) (ops := ops) (rest := rest) (o := o) (a := a) (Q := Q) hgd d s dT sT ho elem hu hsz g 0 dLen dCap ⟨b, off, none⟩ n c hd hs cur t hg ((List.range n).map h)
    (by rw [hlen]; exact (Nat.min_eq_left hle).symm)
    (fun j v hj => by
      rw [List.getElem?_map] at hj
      by_cases hjm : j < n
      · rw [List.getElem?_range hjm] at hj
        simp only [Option.map_some, Option.some.injEq] at hj
        subst hj
        have := hc j hjm
        unfold Addr.add
        split
        · rename_i h0; subst h0; exact this
        · exact this
      · rw [List.getElem?_eq_none (by simp; omega)] at hj; simp at hj)
    (by rw [hlen]; omega)
    (fun v hv => by
      obtain ⟨j, hj, rfl⟩ := List.mem_map.1 hv
      exact h1 j (List.mem_range.1 hj))
  apply e
  rw [hlen]
  refine hK _ ⟨_, setRow_heap w g _ _ t _ hg, by simp; omega, fun i hi => ?_⟩ ⟨rfl, rfl, rfl, by simp, fun k _ hne => setRow_other w g k _ (fun e => hne (by rw [e]))⟩
  have hmap : ∀ k, k < n → ((List.range n).map h)[k]? = some (h k) := fun k hk => by simp [hk]
  simp only [List.take_zero, List.nil_append, Nat.zero_add, List.getElem?_toArray]
  by_cases hin : i < n
  · rw [if_pos hin, List.getElem?_append_left (by rw [hlen]; exact hin), hmap i hin]
  · rw [if_neg hin, List.getElem?_append_right (by rw [hlen]; omega), hlen, List.getElem?_drop, show n + (i - n) = i by omega, ← hcf i hi]
    simp
end
theorem Own2.replace {w w' : World} {N g : Nat} {G : Nat → Nat} {r c : Nat} {f : Nat → Nat → F} (h : Own2 w N g G r c f) {i : Nat} (hi : i < r) {y : Nat → F} (hw : w.grownBy w' (some (G i))) (hr : w'.rowIs (G i) 5 c (fun j => vb (y j))) :
    Own2 w' N g G r c (fun i' j => if i' = i then y j else f i' j) := by
  refine ⟨h.top.of_block (hw.block g h.top.lt (by have := h.gt i hi; simp; omega)), fun i' hi' => ?_, h.lo, h.gt, h.inj⟩
  by_cases e : i' = i
  · subst e
    exact hr.congr fun j _ => by simp
  · have := h.ne hi' hi e
    exact ((h.row i' hi').of_block (hw.block _ (h.row i' hi').lt (by simp; exact this))).congr fun j _ => by simp [e]
section
variable {P : Program} {w : World}
theorem step_make1 {ops : Array Oper} {o : Oper} {a : Act} {K : Act → World → Prop} {Q : Exit → Act → World → Prop} {E : Prop}
    (hg : o.guard = none) {l c : Operand} {t : TypeId} (hop : o.op = Op.makeSlice t l c)
    {e : TypeId} {z : Value} {bytes : Nat} (ht : P.underlying t = some (.slice e)) (hinfo : (P.info? e).map (fun i => (i.zero, i.size, i.bytes)) = some (some z, 1, bytes)) (hz1 : z.cells = #[z])
    {n : Nat} {L M : Int} (hl : a.eval l = .int .i64 L) (hc : a.eval c = .int .i64 M) (hL : L = (n : Int)) (hM : M = (n : Int)) (hbytes : bytes * n ≤ 281474976710656) (h63 : n ≤ 9223372036854775807)
    (hK : ∀ w1 g, w1.rowIs g e n (fun _ => z) → Below w.heap.size w w1 → w.heap.size ≤ g → K (a.put o.dst (.slice (some ⟨g, 0, none⟩) n n)) w1) :
    if Region.wanted o (yielded ops a.tmps) = true then Oper.wp P o a w K Q else E := by
  have hw : Region.wanted o (yielded ops a.tmps) = true := by simp [Region.wanted, hg]
  rw [if_pos hw]
  subst hL hM
  obtain ⟨i, hi, hzz⟩ := Option.map_eq_some_iff.1 hinfo
  simp only [Prod.mk.injEq] at hzz
  obtain ⟨hz, hs, hb⟩ := hzz
  have hrun := run_make_row (P := P) t e i z ht hi hz hs hz1 .i64 .i64 n (by rw [hb]; exact hbytes) h63 w
  unfold Oper.wp
  simp [execOp, hop, hl, hc, hrun, Result.andThen]
  exact hK _ _ (World.rowIs_made w z n e) ((Below.refl _ _).alloc (Nat.le_refl _) _) (Nat.le_refl _)
end
theorem size5 : (Try.prog.info? 5).map (·.size) = some 1 := by kernel_rfl
section
variable {p q : Nat → Prop} {w : World} {A B : Option Addr} {n c k d m : Nat} {R S : Nat → Option Addr} {L K C D : Nat → Nat} {x : List F} {a b : List (List F)}
theorem inverse_bad (ha : Rag p w A n c R L C a) (h : ¬ (Valid a ∧ a.length = (mrow a 0).length)) : Calls Try.prog 29 #[.slice A n c] w fun e w' => e = .returned (.tuple #[.slice none 0 0, .int .i64 1]) ∧ w = w' := by
  by_cases va : valid a = true
  · have v1 : Valid a := of_decide_eq_true va
    have n1 : 0 < n := by have := v1.1; have := ha.len; omega
    obtain ⟨b1, o1, rfl, _, hlt1, hc1⟩ := ha.row.at_ n1
    have e1 : w.cell? ⟨b1, o1, none⟩ = some (.slice (R 0) (L 0) (C 0)) := hc1 0 n1
    have hne : n ≠ L 0 := fun e => h ⟨v1, by rw [ha.lens n1, ha.len]; exact e⟩
    have ht : ((n : Int) != (L 0 : Int)) = true := by simp; exact fun e => hne (by omega)
    replace hne := Lib.hid hne
    clear hc1 v1
    go_enter Try.func29, Try.ntmps29
    go_wp2_with (go_at_call 39; (with_reducible refine (valid_any ha).mono ?_); rintro e w' ⟨rfl, rfl⟩)
    go_ret2
    exact ⟨rfl, rfl⟩
  · have va : valid a = false := by simpa using va
    go_enter Try.func29, Try.ntmps29
    go_wp2_with (go_at_call 39; (with_reducible refine (valid_any ha).mono ?_); rintro e w' ⟨rfl, rfl⟩)
    go_ret2
    exact ⟨rfl, rfl⟩
def InvPost (w : World) (n : Nat) (r : Option (List (List F))) (e : Ending) (w' : World) : Prop :=
  Below w.heap.size w w' ∧ (r = none → e = .returned (.tuple #[.slice none 0 0, .int .i64 3])) ∧
    ∀ v, r = some v → ∃ g R' C', e = .returned (.tuple #[.slice (some ⟨g, 0, none⟩) n n, .int .i64 0]) ∧ Mat (fun b => w.heap.size ≤ b) w' (some ⟨g, 0, none⟩) n n R' n C' v
theorem aug_step {M : List (List F)} {n i : Nat} (x : Nat → F) (hx : ∀ j, j < n → x j = ent M i j) (i' j : Nat) :
    upd (fun i' j => if i' = i then (if j < n then x j else 0) else if i' < i then augS M n i' j else 0) i (n + i) 1 i' j = if i' < i + 1 then augS M n i' j else 0 := by
  unfold upd
  dsimp only
  by_cases e : i' = i
  · subst e
    rw [if_pos (show i' < i' + 1 by omega)]
    unfold augS
    by_cases e2 : j = n + i'
    · rw [if_pos ⟨rfl, e2⟩, if_neg (show ¬ j < n by omega), if_pos e2]
    · rw [if_neg (fun h => e2 h.2), if_pos rfl]
      by_cases e3 : j < n
      · rw [if_pos e3, if_pos e3, hx j e3]
      · rw [if_neg e3, if_neg e3, if_neg e2]
  · rw [if_neg (fun h => e h.1), if_neg e]
    by_cases e3 : i' < i
    · rw [if_pos e3, if_pos (show i' < i + 1 by omega)]
    · rw [if_neg e3, if_neg (show ¬ i' < i + 1 by omega)]
theorem swap_eq (st : Nat → Nat → F) (cc q m j : Nat) : (if j = q then mkr m (st cc) else if j = cc then mkr m (st q) else mkr m (st j)) = mkr m (swapS st cc q j) := by
  unfold swapS
  by_cases e1 : j = q
  · by_cases e2 : j = cc
    · subst e1; subst e2; simp
    · subst e1; rw [if_pos rfl, if_neg e2, if_pos rfl]
  · rw [if_neg e1]
    by_cases e2 : j = cc
    · rw [if_pos e2, if_pos e2]
    · rw [if_neg e2, if_neg e2, if_neg e1]
theorem OwnT.colRow {w : World} {N g : Nat} {R : Nat → Option Addr} {C : Nat → Nat} {r m : Nat} {f : Nat → List F} (h : OwnT w N g R C r m f) (hr : r ≤ maxLen) {cc : Nat} (hc : cc ≤ r) :
    Row (fun b => N ≤ b) w (some ⟨g, cc, none⟩) (r - cc) (r - cc) (fun j => .slice (R (cc + j)) m (C (cc + j))) := by
  have := (Row.of_rowIs h.top h.lo hr).from_ hc
  rwa [Nat.zero_add] at this
theorem scale_eq (st : Nat → Nat → F) (cc m j : Nat) : (if j = cc then fuse (zeroL m) (mkr m (st cc)) (Gf.inv (st cc cc)) else mkr m (st j)) = mkr m (scaleS st cc j) := by
  unfold scaleS
  by_cases e : j = cc
  · subst e
    simp only [if_pos]
    refine nth_ext (by rw [fuse_length _ (zeroL_length _) (mkr_length _ _), mkr_length]) fun t ht => ?_
    rw [fuse_length _ (zeroL_length _) (mkr_length _ _)] at ht
    rw [nth_fuse _ (zeroL_length _) (mkr_length _ _) ht, nth_mkr _ ht, nth_mkr _ ht, nth_zeroL]
    simp
  · simp only [if_neg e]
theorem elim_eq (S : Nat → Nat → F) {cc k : Nat} (hk : k ≠ cc) (m j : Nat) :
    (if j = k then fuse (mkr m (elimS S cc k k)) (mkr m (elimS S cc k cc)) (elimS S cc k k cc) else mkr m (elimS S cc k j)) = mkr m (elimS S cc (k + 1) j) := by
  by_cases e : j = k
  · subst e
    rw [if_pos rfl, fuse_mkr _ (mkr_length _ _)]
    refine mkr_congr fun t ht => ?_
    rw [nth_mkr _ ht]
    unfold elimS
    simp [hk]
  · rw [if_neg e]
    refine mkr_congr fun t ht => ?_
    unfold elimS
    by_cases e2 : j < k
    · by_cases e3 : j = cc
      · simp [e3]
      · rw [if_pos ⟨e2, e3⟩, if_pos ⟨by omega, e3⟩]
    · rw [if_neg (fun h => e2 h.1), if_neg (fun h => by omega)]
theorem elim_skip (S : Nat → Nat → F) (cc m j : Nat) : mkr m (elimS S cc cc j) = mkr m (elimS S cc (cc + 1) j) := by
  refine mkr_congr fun t _ => ?_
  unfold elimS
  by_cases e2 : j < cc
  · rw [if_pos ⟨e2, by omega⟩, if_pos ⟨by omega, by omega⟩]
  · rw [if_neg (fun h => e2 h.1), if_neg (fun h => by omega)]
theorem elim_zero (S : Nat → Nat → F) (cc m j : Nat) : mkr m (S j) = mkr m (elimS S cc 0 j) := by
  refine mkr_congr fun t _ => ?_
  unfold elimS
  rw [if_neg (fun h => Nat.not_lt_zero _ h.1)]
end
end Go.Proofs.Ytifhjigkljdkmaa
