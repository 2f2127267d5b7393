import Derived.Deep.Cut
import Derived.Deep.RegionHeld3
namespace Go.Proofs.Ytifhjigkljdkmaa
set_option linter.unusedSimpArgs false
set_option linter.unusedVariables false

/-! ### A region that draws: a condition on the world that its last operation z, a store, may break -/
section
variable {P : Program} {ops : Array Oper} {Q : Exit → Act → World → Prop} {md : Region.Mode} {S : World → Prop} {z : Nat}
/-- Whatever order: S holds behind each operation till z has come up. -/
def AnyE (P : Program) (md : Region.Mode) (ops : Array Oper) (Q : Exit → Act → World → Prop) (S : World → Prop) (z : Nat) : Nat → Array Bool → Act → World → Prop
  | 0, l, a, w => Region.ready md ops l = [] ∧ Q .normal a w
  | n + 1, l, a, w => (Region.ready md ops l = [] → Q .normal a w) ∧
    ∀ i ∈ Region.ready md ops l, wpOp P ops Q i (fun a' w' => ((l.setIfInBounds i true).getD z false = false → S w') ∧ AnyE P md ops Q S z n (l.setIfInBounds i true) a' w') a w
theorem AnyE.any : ∀ (n : Nat) (l : Array Bool) (a : Act) (w : World), AnyE P md ops Q S z n l a w → wpAny P md ops Q n l a w
  | 0, _, _, _, h => h
  | n + 1, _, _, _, h => ⟨h.1, fun i hi => wpOp_mono (fun a' w' h' => AnyE.any n _ a' w' h'.2) (h.2 i hi)⟩
/-- Whatever has come up, what it waits for has. -/
def Closed (md : Region.Mode) (ops : Array Oper) (l : Array Bool) : Prop :=
  ∀ j oj, ops[j]? = some oj → l.getD j false = true → ∀ e ∈ oj.after, Region.binds md e = true → l.getD e.on false = true
def closedB (md : Region.Mode) (ops : Array Oper) (l : Array Bool) : Bool :=
  (List.range ops.size).all fun j => !(l.getD j false) || (match ops[j]? with | some o => o.after.all fun e => !(Region.binds md e) || l.getD e.on false | none => true)
theorem closed_of {l : Array Bool} (h : closedB md ops l = true) : Closed md ops l := fun j oj hj hl e he hb => by
  have h1 := List.all_eq_true.1 h j (List.mem_range.2 (Array.getElem?_eq_some_iff.1 hj).1)
  simp only [hj, hl, Bool.not_true, Bool.false_or] at h1
  have h2 := Array.all_eq_true_iff_forall_mem.1 h1 e he
  simpa [hb] using h2
theorem Closed.push {l : Array Bool} {j : Nat} (h : Closed md ops l) (hj : j ∈ Region.ready md ops l) : Closed md ops (l.setIfInBounds j true) := fun k ok hk hl e he hb => by
  by_cases ekj : k = j
  · subst ekj
    obtain ⟨_, o, ho, hall⟩ := mem_ready.1 hj
    rw [ho] at hk
    cases hk
    exact getD_set_true (hall e he hb)
  · rw [getD_set_ne false (Ne.symm ekj)] at hl
    exact getD_set_true (h k ok hk hl e he hb)
/-- Does j wait for the first, this for the next, and so on? -/
def waysB (md : Region.Mode) (ops : Array Oper) : Nat → List Nat → Bool
  | _, [] => true
  | j, k :: r => (match ops[j]? with | some o => o.after.any fun e => Region.binds md e && e.on == k | none => false) && waysB md ops k r
theorem ways_listed {l : Array Bool} (hc : Closed md ops l) : ∀ (p : List Nat) (j : Nat), waysB md ops j p = true → (∀ oj, ops[j]? = some oj → ∀ e ∈ oj.after, Region.binds md e = true → l.getD e.on false = true) → ∀ k ∈ p, l.getD k false = true
  | [], _, _, _ => fun k hk => by cases hk
  | x :: r, j, h, ha => by
    unfold waysB at h
    rw [Bool.and_eq_true] at h
    have hx : l.getD x false = true := by
      cases ho : ops[j]? with
      | none => rw [ho] at h; simp at h
      | some o =>
        rw [ho] at h
        obtain ⟨e, he, hb⟩ := Array.any_eq_true'.1 h.1
        simp only [Bool.and_eq_true, beq_iff_eq] at hb
        have := ha o ho e he hb.1
        rwa [hb.2] at this
    intro k hk
    rcases List.mem_cons.1 hk with rfl | hk
    · exact hx
    · exact ways_listed hc r x h.2 (fun ox hox e he hb => hc x ox hox hx e he hb) k hk
theorem ready_unlisted {i : Nat} {l : Array Bool} (h : i ∈ Region.ready md ops l) (h' : l.getD i false = true) : False := by
  have h0 := (mem_ready.1 h).1
  rcases Nat.lt_or_ge i l.size with h1 | h1
  · simp [h1] at h0 h'; rw [h0] at h'; cases h'
  · simp [Array.getElem?_eq_none h1] at h'
theorem AnyE.first {T : World → Prop} {i : Nat} {oi : Oper} {v : Value} (hi : ops[i]? = some oi) (hiz : i ≠ z) (hsel : Region.noSelect ops = true)
    (hT : ∀ (l : Array Bool) (w : World), Closed md ops l → i ∈ Region.ready md ops l → (l.getD z false = false → S w) → T w) (hQ : ∀ c a w, Q (.panic c) (a.put oi.dst v) w → Q (.panic c) a w) (n : Nat) :
    ∀ (l : Array Bool) (a : Act) (w : World), Closed md ops l →
      (∀ j oj, ops[j]? = some oj → j ≠ i → l.getD j true = false → (∀ e ∈ oj.after, Region.binds md e = true → e.on ≠ i) → oi.apart ops oj = true) →
      i ∈ Region.ready md ops l → YieldsIf P ops T oi v a → (l.getD z false = false → S w) → AnyE P md ops Q S z n (l.setIfInBounds i true) (a.put oi.dst v) w → AnyE P md ops Q S z (n + 1) l a w := by
  have sel := Region.noSelect_spec hsel
  have own : ∀ (n : Nat) (l : Array Bool) (a : Act) (w : World), Closed md ops l → i ∈ Region.ready md ops l → YieldsIf P ops T oi v a → (l.getD z false = false → S w) → AnyE P md ops Q S z n (l.setIfInBounds i true) (a.put oi.dst v) w →
      wpOp P ops Q i (fun a' w' => ((l.setIfInBounds i true).getD z false = false → S w') ∧ AnyE P md ops Q S z n (l.setIfInBounds i true) a' w') a w :=
    fun n l a w hc hr hy hS H => hy.wpOp hi (hT l w hc hr hS) ⟨fun e => hS (by rwa [getD_set_ne false hiz] at e), H⟩
  induction n with
  | zero =>
    intro l a w hc _ hr hy hS H
    refine ⟨fun e => absurd (e ▸ hr) (by simp), fun j hj => ?_⟩
    by_cases e : j = i
    · subst e; exact own 0 l a w hc hr hy hS H
    · exact absurd (ready_mono hj e) (by rw [H.1]; simp)
  | succ n ih =>
    intro l a w hc hap hr hy hS H
    refine ⟨fun e => absurd (e ▸ hr) (by simp), fun j hj => ?_⟩
    by_cases e : j = i
    · subst e; exact own _ l a w hc hr hy hS H
    · obtain ⟨hun, oj, hoj, hall⟩ := mem_ready.1 hj
      have hno : ∀ x ∈ oj.after, Region.binds md x = true → x.on ≠ i := fun x hx hb hxi => ready_unlisted hr (hxi ▸ hall x hx hb)
      refine wpOp_mono (fun a' w' h => ?_) (wpOp_putIf hoj (hap j oj hoj e hun hno) (fun cs b => sel i oi cs b hi) (fun cs b => sel j oj cs b hoj) hQ hy (H.2 j (ready_mono hj e)))
      have hS' : (l.setIfInBounds j true).getD z false = false → S w' := fun ez => h.2.1 (by rwa [Array.setIfInBounds_comm _ _ (Ne.symm e), getD_set_ne false hiz])
      refine ⟨hS', ih _ a' w' (hc.push hj) (fun k ok hk hki hkl hkn => hap k ok hk hki ?_ hkn) (ready_mono hr (Ne.symm e)) h.1 hS' ?_⟩
      · by_cases ejk : j = k
        · subst ejk; exact hun
        · rwa [getD_set_ne true ejk] at hkl
      · rw [Array.setIfInBounds_comm _ _ e]
        exact h.2.2
theorem unlisted_last {i : Nat} {p : List Nat} (hp : waysB md ops z p = true) (hip : i ∈ p) {l : Array Bool} (hc : Closed md ops l) (hr : i ∈ Region.ready md ops l) : l.getD z false = false := by
  cases e : l.getD z false with
  | false => rfl
  | true =>
    exact (ready_unlisted hr (ways_listed hc p z hp (fun oz hoz x hx hb => hc z oz hoz e x hx hb) i hip)).elim
/-- What reads the world (z waits for it, by the way p). -/
theorem AnyE.take (i : Nat) (p : List Nat) {oi : Oper} {v : Value} {n : Nat} {l : Array Bool} {a : Act} {w : World} (hi : ops[i]? = some oi) (hiz : i ≠ z) (hsel : Region.noSelect ops = true)
    (hp : waysB md ops z p = true) (hip : p.contains i = true) (hc : closedB md ops l = true) (hf : Region.free md ops l i = true) (hr : (Region.ready md ops l).contains i = true)
    (hQ : ∀ c a w, Q (.panic c) (a.put oi.dst v) w → Q (.panic c) a w) (hw : Region.wanted oi (yielded ops a.tmps) = true) (hS : S w) (hy : ∀ w, S w → (execOp a.eval oi).run P w = .ok (.value v) w)
    (h : AnyE P md ops Q S z n (l.setIfInBounds i true) (a.put oi.dst v) w) : AnyE P md ops Q S z (n + 1) l a w :=
  AnyE.first hi hiz hsel (fun l w hc hr hS => hS (unlisted_last hp (by simpa using hip) hc hr)) hQ n l a w (closed_of hc) (Region.free_spec hi hf) (by simpa using hr) (Or.inl ⟨hw, hy⟩) (fun _ => hS) h
/-- What does not read it. -/
theorem AnyE.take0 (i : Nat) {oi : Oper} {v : Value} {n : Nat} {l : Array Bool} {a : Act} {w : World} (hi : ops[i]? = some oi) (hiz : i ≠ z) (hsel : Region.noSelect ops = true)
    (hc : closedB md ops l = true) (hf : Region.free md ops l i = true) (hr : (Region.ready md ops l).contains i = true)
    (hQ : ∀ c a w, Q (.panic c) (a.put oi.dst v) w → Q (.panic c) a w) (hw : Region.wanted oi (yielded ops a.tmps) = true) (hS : l.getD z false = false → S w) (hy : ∀ w, (execOp a.eval oi).run P w = .ok (.value v) w)
    (h : AnyE P md ops Q S z n (l.setIfInBounds i true) (a.put oi.dst v) w) : AnyE P md ops Q S z (n + 1) l a w :=
  AnyE.first (T := fun _ => True) hi hiz hsel (fun _ _ _ _ _ => trivial) hQ n l a w (closed_of hc) (Region.free_spec hi hf) (by simpa using hr) (Or.inl ⟨hw, fun w _ => hy w⟩) hS h
/-- The only one that may come up. -/
theorem AnyE.one (i : Nat) {o : Oper} {n : Nat} {l : Array Bool} {a : Act} {w : World} (ho : ops[i]? = some o) (hr : Region.ready md ops l = [i])
    (h : ∀ K : Act → World → Prop, Shut (∀ a' w', ((l.setIfInBounds i true).getD z false = false → S w') → AnyE P md ops Q S z n (l.setIfInBounds i true) a' w' → K a' w') → if Region.wanted o (yielded ops a.tmps) = true then Oper.wp P o a w K Q else K (a.put o.dst undef) w) :
    AnyE P md ops Q S z (n + 1) l a w :=
  ⟨fun e => (by rw [hr] at e; cases e), fun j hj => by
    rw [hr] at hj
    obtain rfl := List.mem_singleton.1 hj
    exact wpOp_step ho fun K' hK => h K' fun a' w' hs ha => hK a' w' ⟨hs, ha⟩⟩
theorem AnyE.done {l : Array Bool} {a : Act} {w : World} (hr : Region.ready md ops l = []) (h : Q .normal a w) : ∀ n, AnyE P md ops Q S z n l a w
  | 0 => ⟨hr, h⟩
  | _ + 1 => ⟨fun _ => h, by rw [hr]; simp⟩
theorem AnyE.region (S : World → Prop) (z : Nat) {id : Nat} {a : Act} {w : World} (hm : P.follows .mixedOrders = true) (h : AnyE P .any ops Q S z ops.size (Array.replicate ops.size false) a w.drew) : (Code.region id ops true).wp P Q a w :=
  wp_region_any hm (AnyE.any _ _ _ _ h)
end
/-! ### A piece of a function's code, by its way from the body -/
def part : Code → List Nat → Code
  | .seq a _, 0 :: r => part a r
  | .seq _ b, _ :: r => part b r
  | .cond _ a _, 0 :: r => part a r
  | .cond _ _ b, _ :: r => part b r
  | .block _ c, _ :: r => part c r
  | .loop c, _ :: r => part c r
  | .scope c, _ :: r => part c r
  | c, _ => c
noncomputable def piece (f : Func) (p : List Nat) : Code := part (f.body.getD .skip) p
end Go.Proofs.Ytifhjigkljdkmaa
