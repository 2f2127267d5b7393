/- Contracts of the functions on matrices (fourth part): matrices that are built by append: tegularef02.Identity, Mul, Apply, Rows; copied. -/
import Derived.Test.YtifhjigkljdkmaaM3
namespace Go.Proofs.Ytifhjigkljdkmaa
open Go.RowKit
open Gf (F)
set_option linter.unusedSimpArgs false
set_option linter.unusedVariables false
/-- A list of rows that the call itself appends to. -/
structure OwnA (w : World) (N : Nat) (q : Nat → Prop) (v : Value) (k : Nat) (R : Nat → Option Addr) (L C : Nat → Nat) (f : Nat → List F) : Prop where
  own : w.ownsRow N 28 1 v k ((List.range k).map fun i => .slice (R i) (L i) (C i))
  row : ∀ i, i < k → Byt (fun b => q b ∧ some b ≠ v.ownBlock) w (R i) (L i) (C i) (f i)
section
variable {w w' : World} {N : Nat} {q : Nat → Prop} {v : Value} {k : Nat} {R : Nat → Option Addr} {L C : Nat → Nat} {f : Nat → List F}
theorem own_new_ne {w : World} {base : Nat} {e : TypeId} {v : Value} {n : Nat} {xs : List Value} (h : w.ownsRow base e 1 v n xs) {b : Nat} (hb : w.heap.size ≤ b) : some b ≠ v.ownBlock := fun e' => by
  have := (h.lt b e'.symm).2
  omega
theorem below_own_new {w w1 : World} {e : TypeId} (hg : (w.alloc (.cells #[] e)).grownBy w1 (Value.slice (some ⟨w.heap.size, 0, none⟩) 0 0).ownBlock) : Below w.heap.size w w1 :=
  ((Below.refl _ _).alloc (Nat.le_refl _) _).grown hg (by simp) (fun k hk => by
    have hk' : some w.heap.size = some k := hk
    cases hk'
    exact Nat.le_refl _)
theorem OwnA.start (w : World) (N : Nat) (q : Nat → Prop) : OwnA w N q (.slice none 0 0) 0 (fun _ => none) (fun _ => 0) (fun _ => 0) (fun _ => []) := ⟨World.ownsRow_nil _ _ _ _, fun _ hi => absurd hi (Nat.not_lt_zero _)⟩
theorem OwnA.below (h : OwnA w N q v k R L C f) (b : Below w.heap.size w w') : OwnA w' N q v k R L C f :=
  ⟨h.own.kept (row := none) ⟨b.os, b.tape, b.output, b.size, fun x hx _ => b.block x hx⟩ (by cases hv : v.ownBlock <;> simp), fun i hi => (h.row i hi).below b⟩
theorem OwnA.congr {g : Nat → List F} (h : OwnA w N q v k R L C f) (e : ∀ i, i < k → f i = g i) : OwnA w N q v k R L C g := ⟨h.own, fun i hi => by rw [← e i hi]; exact h.row i hi⟩
theorem OwnA.push {A : Option Addr} {l c : Nat} {fl : List F} {v' : Value} (h : OwnA w N q v k R L C f) (hrow : Byt (fun b => q b ∧ some b ≠ v.ownBlock) w A l c fl)
    (own' : w'.ownsRow N 28 1 v' (k + 1) (((List.range k).map fun i => .slice (R i) (L i) (C i)) ++ [.slice A l c])) (hgr : w.grownBy w' v.ownBlock) (hne : ∀ b, b < w.heap.size → some b ≠ v.ownBlock → some b ≠ v'.ownBlock) :
    OwnA w' N q v' (k + 1) (fun i => if i = k then A else R i) (fun i => if i = k then l else L i) (fun i => if i = k then c else C i) (fun i => if i = k then fl else f i) := by
  have kp : Keeps (fun b => some b ≠ v.ownBlock) w w' := Keeps.grown hgr (fun g e h => h e.symm)
  refine ⟨?_, fun i hi => ?_⟩
  · rw [List.range_succ, List.map_append]
    simp only [List.map_cons, List.map_nil, if_true]
    rw [List.map_congr_left (g := fun i => Value.slice (R i) (L i) (C i)) (fun i hi => by
      have : i ≠ k := by have := List.mem_range.1 hi; omega
      simp [this])]
    exact own'
  · by_cases e : i = k
    · simp only [e, if_true]
      exact ((hrow.mono (q := fun b => b < w.heap.size ∧ q b ∧ some b ≠ v.ownBlock) fun b hb hp => ⟨hb, hp⟩).keep (kp.mono fun b hb => hb.2.2)).mono fun b _ hp => ⟨hp.2.1, hne b hp.1 hp.2.2⟩
    · simp only [e, if_false]
      exact (((h.row i (by omega)).mono (q := fun b => b < w.heap.size ∧ q b ∧ some b ≠ v.ownBlock) fun b hb hp => ⟨hb, hp⟩).keep (kp.mono fun b hb => hb.2.2)).mono fun b _ hp => ⟨hp.2.1, hne b hp.1 hp.2.2⟩
theorem OwnA.rag {M : List (List F)} (h : OwnA w N q v k R L C f) (hM : M.length = k) (e : ∀ i, i < k → mrow M i = f i) : ∃ A c, v = .slice A k c ∧ Rag (fun _ => True) w A k c R L C M := by
  obtain ⟨A, c, hv, hr⟩ := own_slice h.own
  refine ⟨A, c, hv, hM, (hr.congr fun j hj => ?_).mono fun _ _ _ => trivial, fun i hi => by rw [e i hi]; exact (h.row i hi).any⟩
  rw [List.getD_eq_getElem?_getD]
  simp [hj]
theorem OwnA.mono {q' : Nat → Prop} (h : OwnA w N q v k R L C f) (hq : ∀ b, b < w.heap.size → q b → q' b) : OwnA w N q' v k R L C f :=
  ⟨h.own, fun i hi => (h.row i hi).mono fun b hb hp => ⟨hq b hb hp.1, hp.2⟩⟩
/-- An append to another slice of the call's own. -/
theorem OwnA.other {row : Option Nat} (h : OwnA w N q v k R L C f) (hgr : w.grownBy w' row) (hne : ∀ b, q b → some b ≠ row) (ho : v.ownBlock = none ∨ v.ownBlock ≠ row) : OwnA w' N q v k R L C f :=
  ⟨h.own.kept hgr ho, fun i hi => (h.row i hi).keep (Keeps.grown hgr fun g e hp => hne g hp.1 e.symm)⟩
/-- A store into the list itself. -/
theorem OwnA.store {A : Option Addr} {l c g cap : Nat} {fl : List F} (h : OwnA w N q (.slice (some ⟨g, 0, none⟩) k cap) k R L C f) (hrow : Byt (fun b => q b ∧ some b ≠ some g) w A l c fl) (j : Nat) :
    OwnA (w.setCell ⟨g, j, none⟩ (.slice A l c)) N q (.slice (some ⟨g, 0, none⟩) k cap) k (fun i => if i = j then A else R i) (fun i => if i = j then l else L i) (fun i => if i = j then c else C i) (fun i => if i = j then fl else f i) := by
  have kp : Keeps (fun b => q b ∧ some b ≠ some g) w (w.setCell ⟨g, j, none⟩ (.slice A l c)) := Keeps.setCell (fun h => h.2 rfl) _
  refine ⟨?_, fun i hi => ?_⟩
  · have e : ((List.range k).map fun i => Value.slice (if i = j then A else R i) (if i = j then l else L i) (if i = j then c else C i)) = ((List.range k).map fun i => Value.slice (R i) (L i) (C i)).set j (.slice A l c) := by
      apply List.ext_getElem (by simp)
      intro i h1 h2
      rw [List.getElem_set]
      by_cases e : j = i
      · subst e; simp
      · rw [if_neg e]
        simp [Ne.symm e]
    rw [e]
    exact (h.own.stored j _).1
  · by_cases e : i = j
    · simp only [e, if_true]
      exact hrow.keep kp
    · simp only [e, if_false]
      exact (h.row i hi).keep kp
theorem own_types {b b' e e' s s' : Nat} {v v' : Value} {n n' : Nat} {xs xs' : List Value} (h : w.ownsRow b e s v n xs) (h' : w.ownsRow b' e' s' v' n' xs') (hne : e ≠ e') : v.ownBlock = none ∨ v.ownBlock ≠ v'.ownBlock := by
  rcases h.2 with ⟨rfl, _⟩ | ⟨g, cap, cur, rfl, _, hh, _⟩
  · exact Or.inl rfl
  · right
    rcases h'.2 with ⟨rfl, _⟩ | ⟨g', cap', cur', rfl, _, hh', _⟩
    · intro e; cases e
    · intro e2
      have e3 : some g = some g' := e2
      cases e3
      rw [hh] at hh'
      injection hh' with h1
      injection h1 with _ h2 _
      exact hne h2
end
theorem Rag.mat_of {w : World} {A : Option Addr} {n c m : Nat} {R : Nat → Option Addr} {L C : Nat → Nat} {M : List (List F)} (h : Rag (fun _ => True) w A n c R L C M) (e : ∀ j, j < n → (mrow M j).length = m) : Mat (fun _ => True) w A n c R m C M := h.mat e
theorem list_by_rows {M : List (List F)} {n : Nat} (h : M.length = n) : ∃ f : Nat → List F, ∀ i, i < n → mrow M i = f i := by
  subst h
  exact ⟨_, fun _ _ => rfl⟩
section
variable {p q : Nat → Prop} {w : World} {A B : Option Addr} {n c k d m : Nat} {R S : Nat → Option Addr} {L K C D : Nat → Nat} {a b : List (List F)}
set_option maxRecDepth 100000 in
set_option maxHeartbeats 1000000 in
/-- append([]byte{}, m[i]...) of each row. -/
theorem copied_any (ha : Rag p w A n c R L C a) (hn : n ≤ 4096) (hL : ∀ i, i < n → L i ≤ 4096) : Calls Try.prog 44 #[.slice A n c] w fun e w' =>
    ∃ A' c' R' C', e = .returned (.slice A' n c') ∧ Rag (fun _ => True) w' A' n c' R' L C' a ∧ Below w.heap.size w w' := by
  go_enter Try.func44, Try.ntmps44
  go_wp2
  go_loopw [3, 4] (fun v x wr => ∃ (i : Nat) (R' : Nat → Option Addr) (L' C' : Nat → Nat), i ≤ n ∧ x = .int .i64 i ∧ OwnA wr w.heap.size (fun _ => True) v i R' L' C' (mrow a) ∧ Below w.heap.size w wr) (fun _ x _ => n - (intOf x).toNat)
  case atStart => exact ⟨0, _, _, _, by omega, rfl, (OwnA.start _ _ _).congr fun i hi => absurd hi (Nat.not_lt_zero _), Below.refl _ _⟩
  case round =>
    obtain ⟨i, R', L', C', hi, rfl, ho, hbw⟩ := hrel
    by_cases hlt : i < n
    · obtain ⟨b1, o1, rfl, _, hlt1, hc1⟩ := ha.row.at_ (by omega)
      have f1 : wr.cell? ⟨b1, o1 + i, none⟩ = some (.slice (R i) (L i) (C i)) := (hbw.cell (by exact hlt1)).trans (hc1 i hlt)
      clear hc1
      have ra := (ha.rows i hlt).below hbw
      have hl2 := hL i hlt
      have hsz := hbw.size
      have n1 : b1 < wr.heap.size := by omega
      go_wp2_with (first | (at_builtin; refine wpl_append_row rfl (s := .tmp 12) (x := .tmp 16) rfl Try.underlying28 info5 rfl rfl (own_new 5 (Nat.le_refl _)) rfl (ra.row.keep (Keeps.alloc _ _)) (fun _ _ => rfl) (by unfold maxLen; omega) (by omega) (by simp) ?_; intro v1 w1 hown1 hgr1 _; simp only [Nat.zero_add, List.nil_append, map_bytes ra.len] at hown1; obtain ⟨A2, c2, rfl, hby⟩ := (own_bytes hown1); have hb1 := below_own_new hgr1; have ho1 := ho.below hb1; have hsz1 := hb1.size) | (at_builtin; refine wpl_append1 rfl (s := .tmp 11) (x := .tmp 18) rfl Try.underlying22 info28 rfl rfl ho1.own rfl rfl (by unfold maxLen; omega) (by omega) (by omega) ?_; intro v2 w2 hown2 hgr2 hne2))
      go_roundw
      case rel =>
        exact ⟨i + 1, _, _, _, by omega, by go_num, (ho1.push (hby.mono fun b _ hb => ⟨trivial, own_new_ne ho.own hb.1⟩) hown2 hgr2 hne2).congr fun j _ => by by_cases e : j = i <;> simp [e], (below_then hbw hsz hb1).grown hgr2 (by omega) (own_ge ho1.own)⟩
      case measure => simp [intOf]; omega
    · obtain rfl : i = n := by omega
      obtain ⟨A', c', rfl, hr⟩ := ho.rag ha.len (fun _ _ => rfl)
      go_wp2
      go_ret
      exact ⟨A', c', R', C', rfl, ⟨hr.len, hr.row.congr fun j hj => by rw [← hr.lens hj, ha.lens hj], fun j hj => by rw [← ha.lens hj, hr.lens hj]; exact hr.rows j hj⟩, hbw⟩
end

/-! ### tegularef02.Rows, Identity, Mul, Apply -/
/-- The rows of a that l names. -/
def rowsM (a : List (List F)) (l : List Int) : List (List F) := l.map fun i => mrow a i.toNat
theorem mrow_rowsM (a : List (List F)) {l : List Int} {j : Nat} (h : j < l.length) : mrow (rowsM a l) j = mrow a (nti l j).toNat := by
  rw [mrow_of_lt (by simpa [rowsM] using h), nti_of_lt h]
  simp [rowsM]
section
variable {P : Program} {w : World}
/-- As wpl_append1, the new cell's block under another name. -/
theorem wpl_append1s {W : World} {ops : Array Oper} {rest : List Oper} {o : Oper} {a : Act} {Q : Exit → Act → World → Prop} (hgd : o.guard = none) {s x : Operand} {t : TypeId}
    (ho : o.op = .call { callee := .builtin .append, args := #[s, x], argTypes := #[t, t] })
    {base : Nat} {e : TypeId} {z : Value} {bytes : Nat} (ht : P.underlying t = some (.slice e)) (hinfo : (P.info? e).map (fun i => (i.zero, i.size, i.bytes)) = some (some z, 1, bytes)) (hz1 : z.cells = #[z])
    {v : Value} {n : Nat} {xs : List Value} (hs : a.eval s = v) (hown : W.ownsRow base e 1 v n xs)
    {u : Value} {g0 : Nat} (hx : a.eval x = .slice (some ⟨g0, 0, none⟩) 1 1) (hg0 : W.heap.size = g0) (hu : u.oneCell' = true)
    (h63 : n + 1 ≤ maxLen) (hbytes : (n + 1) * bytes ≤ 140737488355328) (hbase : base ≤ W.heap.size)
    (h : ∀ v' w', w'.ownsRow base e 1 v' (n + 1) (xs ++ [u]) → W.grownBy w' v.ownBlock → (∀ b, b < W.heap.size → some b ≠ v.ownBlock → some b ≠ v'.ownBlock) → wpList P ops Q rest (a.put o.dst v') w') : wpList P ops Q (o :: rest) a (W.alloc (.cells #[u] e)) :=
  wpl_append1 hgd ho ht hinfo hz1 hs hown (by rw [hx, hg0]) hu h63 hbytes hbase h
end
section
variable {p q : Nat → Prop} {w : World} {A B : Option Addr} {n c k d m : Nat} {R S : Nat → Option Addr} {L K C D : Nat → Nat} {a b : List (List F)}
set_option maxRecDepth 100000 in
set_option maxHeartbeats 1000000 in
theorem rows_any {l : List Int} (ha : Mat p w A n c R m C a) (hl : Ints q w B k d l) (hk : k ≤ 4096) (hm : m ≤ 4096) (hr : ∀ j, j < k → 0 ≤ nti l j ∧ nti l j < n) : Calls Try.prog 37 #[.slice A n c, .slice B k d] w fun e w' =>
    ∃ A' c' R' C', e = .returned (.slice A' k c') ∧ Mat (fun _ => True) w' A' k c' R' m C' (rowsM a l) ∧ Below w.heap.size w w' := by
  go_enter Try.func37, Try.ntmps37
  go_wp2
  go_loopw [5, 6] (fun v x wr => ∃ (i : Nat) (R' : Nat → Option Addr) (L' C' : Nat → Nat), i ≤ k ∧ x = .int .i64 i ∧ OwnA wr w.heap.size (fun _ => True) v i R' L' C' (mrow (rowsM a l)) ∧ Below w.heap.size w wr) (fun _ x _ => k - (intOf x).toNat)
  case atStart => exact ⟨0, _, _, _, by omega, rfl, (OwnA.start _ _ _).congr fun i hi => absurd hi (Nat.not_lt_zero _), Below.refl _ _⟩
  case round =>
    obtain ⟨i, R', L', C', hi, rfl, ho, hbw⟩ := hrel
    by_cases hlt : i < k
    · obtain ⟨b2, o2, rfl, _, hlt2, hc2⟩ := hl.row.at_ (by omega)
      have f2 : wr.cell? ⟨b2, o2 + i, none⟩ = some (.int .i64 (nti l i)) := (hbw.cell (by exact hlt2)).trans (hc2 i hlt)
      clear hc2
      obtain ⟨hr1, hr2⟩ := hr i hlt
      have hrow := mrow_rowsM a (l := l) (j := i) (by rw [hl.len]; exact hlt)
      obtain ⟨t, ht⟩ := Int.eq_ofNat_of_zero_le hr1
      rw [ht] at f2 hr1 hr2 hrow
      replace ht := Lib.hid ht
      simp only [Int.toNat_natCast] at hrow
      have htn : t < n := by omega
      obtain ⟨b1, o1, rfl, _, hlt1, hc1⟩ := ha.row.at_ (by omega)
      have f1 : wr.cell? ⟨b1, o1 + t, none⟩ = some (.slice (R t) m (C t)) := (hbw.cell (by exact hlt1)).trans (hc1 t htn)
      clear hc1
      have ra := (ha.rows t htn).below hbw
      rw [← hrow] at ra
      replace hrow := Lib.hid hrow
      have hsz := hbw.size
      have n1 : b1 < wr.heap.size := by omega
      have n2 : b2 < wr.heap.size := by omega
      go_wp2_with (first | (at_builtin; refine wpl_append_row rfl (s := .tmp 14) (x := .tmp 21) rfl Try.underlying28 info5 rfl rfl (own_new 5 (Nat.le_refl _)) rfl (ra.row.keep (Keeps.alloc _ _)) (fun _ _ => rfl) (by unfold maxLen; omega) (by omega) (by simp) ?_; intro v1 w1 hown1 hgr1 _; simp only [Nat.zero_add, List.nil_append, map_bytes ra.len] at hown1; obtain ⟨A2, c2, rfl, hby⟩ := own_bytes hown1; have hb1 := below_own_new hgr1; have ho1 := ho.below hb1; have hsz1 := hb1.size) | (at_builtin; refine wpl_append1 rfl (s := .tmp 13) (x := .tmp 23) rfl Try.underlying22 info28 rfl rfl ho1.own rfl rfl (by unfold maxLen; omega) (by omega) (by omega) ?_; intro v2 w2 hown2 hgr2 hne2))
      go_roundw
      case rel =>
        exact ⟨i + 1, _, _, _, by omega, by go_num, (ho1.push (hby.mono fun b _ hb => ⟨trivial, own_new_ne ho.own hb.1⟩) hown2 hgr2 hne2).congr fun j _ => by by_cases e : j = i <;> simp [e], (below_then hbw hsz hb1).grown hgr2 (by omega) (own_ge ho1.own)⟩
      case measure => simp [intOf]; omega
    · obtain rfl : i = k := by omega
      have hlen : (rowsM a l).length = i := by rw [← hl.len]; simp [rowsM]
      obtain ⟨A', c', rfl, hr'⟩ := ho.rag hlen (fun _ _ => rfl)
      go_wp2
      go_ret
      refine ⟨A', c', R', C', rfl, hr'.mat fun j hj => ?_, hbw⟩
      rw [mrow_rowsM a (by rw [hl.len]; exact hj)]
      obtain ⟨h1, h2⟩ := hr j hj
      exact (ha.rows (nti l j).toNat (by omega)).len
set_option maxRecDepth 100000 in
set_option maxHeartbeats 1000000 in
theorem refid_any (n : Nat) (hn : n ≤ 4096) (w : World) : Calls Try.prog 34 #[.int .i64 (n : Int)] w fun e w' =>
    ∃ A' c' R' C', e = .returned (.slice A' n c') ∧ Mat (fun _ => True) w' A' n c' R' n C' (idm n) ∧ Below w.heap.size w w' := by
  go_enter Try.func34, Try.ntmps34
  go_wp2
  go_loopw [3, 4] (fun v x wr => ∃ (i : Nat) (R' : Nat → Option Addr) (L' C' : Nat → Nat), i ≤ n ∧ x = .int .i64 i ∧ OwnA wr w.heap.size (fun _ => True) v i R' L' C' (mrow (idm n)) ∧ Below w.heap.size w wr) (fun _ x _ => n - (intOf x).toNat)
  case atStart => exact ⟨0, _, _, _, by omega, rfl, (OwnA.start _ _ _).congr fun i hi => absurd hi (Nat.not_lt_zero _), Below.refl _ _⟩
  case round =>
    obtain ⟨i, R', L', C', hi, rfl, ho, hbw⟩ := hrel
    by_cases hlt : i < n
    · have hsz := hbw.size
      go_wp2_with (first | (at_make; refine wpl_make rfl rfl Try.underlying28 info5 rfl rfl rfl (by omega) (by omega) ?_; intro w1 g hrow hb1 hg; have g1 := hrow.cell hlt; have g2 := hrow.frozen i; have hsz1 := hb1.size; have hb2 : Below wr.heap.size wr (w1.setCell ⟨g, i, none⟩ (.int .u8 1)) := hb1.setCell hg _; have ho1 := ho.below hb2; have hrow1 := hrow.set i (.int .u8 1)) | (at_builtin; refine wpl_append1s rfl (s := .tmp 16) (x := .tmp 18) rfl Try.underlying22 info28 rfl rfl ho1.own rfl (by simp) rfl (by unfold maxLen; omega) (by omega) (by simp; omega) ?_; intro v2 w2 hown2 hgr2 hne2))
      go_roundw
      case rel =>
        refine ⟨i + 1, _, _, _, by omega, by go_num, (ho1.push (Byt.of_rowIs (l := mrow (idm n) i) (hrow1.congr fun j hj => ?_) ?_ ⟨trivial, own_new_ne ho.own hg⟩ (max_of (by omega))) hown2 hgr2 hne2).congr fun j _ => ?_, (below_then hbw hsz hb2).grown hgr2 (by simp; omega) (own_ge ho1.own)⟩
        · rw [idm, mrow_mkm _ hlt, nth_mkr _ hj]
          by_cases e : i = j
          · subst e; simp
          · rw [if_neg (Ne.symm e), if_neg e]; rfl
        · rw [idm, mrow_mkm _ hlt, mkr_length]
        · by_cases e : j = i <;> simp [e]
      case measure => simp [intOf]; omega
    · obtain rfl : i = n := by omega
      obtain ⟨A', c', rfl, hr'⟩ := ho.rag (mkm_length _ _ _) (fun _ _ => rfl)
      go_wp2
      go_ret
      exact ⟨A', c', R', C', rfl, hr'.mat fun j hj => (show (mrow (idm i) j).length = i by rw [idm, mrow_mkm _ hj, mkr_length]), hbw⟩
theorem own_bytes_take {w : World} {N : Nat} {v : Value} {l : List F} {j : Nat} (h : w.ownsRow N 5 1 v j ((l.take j).map vb)) (hl : l.length = j) : ∃ A c, v = .slice A j c ∧ Byt (fun b => N ≤ b ∧ some b = v.ownBlock) w A j c l := by
  rw [List.take_of_length_le (by omega)] at h
  exact own_bytes h
set_option maxRecDepth 100000 in
set_option maxHeartbeats 1000000 in
theorem refapply_any {r : Nat} {v : List F} (ha : Mat p w A r c R m C a) (hv : Byt q w B m d v) (hr : r ≤ 4096) : Calls Try.prog 46 #[.slice A r c, .slice B m d] w fun e w' =>
    ∃ A' c', e = .returned (.slice A' r c') ∧ Byt (fun b => w.heap.size ≤ b) w' A' r c' (appM r m a v) ∧ Below w.heap.size w w' := by
  have hm := hv.row.len
  have hlen : (appM r m a v).length = r := mkr_length _ _
  replace hlen := Lib.hid hlen
  go_enter Try.func46, Try.ntmps46
  go_wp2
  go_loopw [5, 6] (fun v5 x wr => ∃ i : Nat, i ≤ r ∧ x = .int .i64 i ∧ wr.ownsRow w.heap.size 5 1 v5 i (((appM r m a v).take i).map vb) ∧ Below w.heap.size w wr) (fun _ x _ => r - (intOf x).toNat)
  case atStart => exact ⟨0, by omega, rfl, World.ownsRow_nil _ _ _ _, Below.refl _ _⟩
  case round =>
    obtain ⟨i, hi, rfl, hown, hbw⟩ := hrel
    by_cases hlt : i < r
    · have hsz := hbw.size
      have hfin : Hid (nth (appM r m a v) i = sumF m fun t => Gf.mul (ent a i t) (nth v t)) := nth_mkr _ hlt
      go_wp2
      obtain ⟨wo, rfl⟩ : ∃ wo : World, wo = wr := ⟨_, rfl⟩
      go_loopw [7, 8] (fun x7 x8 wr => ∃ t nd : Nat, t ≤ m ∧ x8 = .int .i64 t ∧ x7 = .int .u8 ((sumF t fun t => Gf.mul (ent a i t) (nth v t)).toNat : Int) ∧ wr = wo.drewN nd) (fun _ x _ => m - (intOf x).toNat)
      case atStart => exact ⟨0, 0, by omega, rfl, rfl, rfl⟩
      case round =>
        obtain ⟨t, nd, htk, rfl, rfl, rfl⟩ := hrel
        by_cases hlt2' : t < m
        · obtain ⟨b1, o1, rfl, _, hlt1, hc1⟩ := ha.row.at_ (by omega)
          obtain ⟨b2, o2, rfl, _, hlt2, hc2⟩ := hv.at_ (by omega)
          obtain ⟨b3, o3, e3, _, hlt3, hc3⟩ := (ha.rows i hlt).at_ (by omega)
          have f1 : wo.cell? ⟨b1, o1 + i, none⟩ = some (.slice (R i) m (C i)) := (hbw.cell (by exact hlt1)).trans (hc1 i hlt)
          rw [e3] at f1
          have f2 : wo.cell? ⟨b3, o3 + t, none⟩ = some (.int .u8 ((nth (mrow a i) t).toNat : Int)) := (hbw.cell (by exact hlt3)).trans (hc3 t hlt2')
          have f3 : wo.cell? ⟨b2, o2 + t, none⟩ = some (.int .u8 ((nth v t).toNat : Int)) := (hbw.cell (by exact hlt2)).trans (hc2 t hlt2')
          replace e3 := Lib.hid e3
          clear hc1 hc2 hc3
          obtain ⟨s, hs⟩ : ∃ s, s = sumF t fun t => Gf.mul (ent a i t) (nth v t) := ⟨_, rfl⟩
          rw [← hs]
          have hx := u8_xor_F s (Gf.mul (nth (mrow a i) t) (nth v t))
          replace hs := Lib.hid hs
          have c1 : (0 : Int) ≤ (i : Int) := Int.natCast_nonneg _
          have c2 : (i : Int) < (r : Int) := by omega
          have c3 : (0 : Int) ≤ (t : Int) := Int.natCast_nonneg _
          have c4 : (t : Int) < (m : Int) := by omega
          go_wp2
          go_quiet ((go_at_call 97; exact quiet_add_left (refmul_any _ _ _)))
          go_wp2
          go_roundw
          case rel => exact ⟨t + 1, _, by omega, by go_num, by rw [sumF_succ, ← hs.out, UInt8.toNat_xor]; rfl, rfl⟩
          case measure => simp [intOf]; omega
        · obtain rfl : t = m := by omega
          have hfin' : Hid ((sumF t fun t => Gf.mul (ent a i t) (nth v t)) = nth (appM r t a v) i) := hfin.out.symm
          rw [hfin'.out]
          clear hfin'
          go_wp2_with (at_builtin; refine wpl_append1 rfl (s := .tmp 35) (x := .tmp 37) rfl Try.underlying28 info5 rfl rfl hown rfl rfl (by unfold maxLen; omega) (by omega) (by simp; omega) ?_; intro v2 w2 hown2 hgr2 hne2)
          go_roundw
          case rel => exact ⟨i + 1, by omega, by go_num, by rw [take_snoc_map vb (by rw [hlen.out]; exact hlt)]; exact hown2, (below_drewN hbw nd).grown hgr2 (by simp; omega) (own_ge hown)⟩
          case measure => simp [intOf]; omega
    · obtain rfl : i = r := by omega
      obtain ⟨A', c', rfl, hby⟩ := own_bytes_take hown hlen.out
      go_wp2
      go_ret
      exact ⟨A', c', rfl, hby.mono (fun _ _ hx => hx.1), hbw⟩
end
end Go.Proofs.Ytifhjigkljdkmaa
