import Derived.Test.YtifhjigkljdkmaaMa
namespace Go.Proofs.Ytifhjigkljdkmaa
open Go.RowKit
open Gf (F)
set_option linter.unusedSimpArgs false
set_option linter.unusedVariables false
theorem own_keep {p : Nat → Prop} {w w' : World} {b e : Nat} {v : Value} {n : Nat} {xs : List Value} (h : w.ownsRow b e 1 v n xs) (k : Keeps p w w') (hp : ∀ g, v.ownBlock = some g → p g) : w'.ownsRow b e 1 v n xs := by
  refine ⟨h.1, ?_⟩
  rcases h.2 with h2 | ⟨g, cap, cur, rfl, hg, hh, hr⟩
  · exact .inl h2
  · exact .inr ⟨g, cap, cur, rfl, hg, (k.block g (h.lt g rfl).2 (hp g rfl)).trans hh, hr⟩
section
variable {E E' : Nat → Prop} {w w' : World} {N gB : Nat} {v3 v4 : Value} {k : Nat} {ls : List Nat} {R : Nat → Option Addr} {L C : Nat → Nat} {f g : Nat → List F}
theorem BasG.mono (h : BasG E w N gB v3 v4 k ls R L C f) (hE : ∀ b, b < w.heap.size → E b → E' b) (hn : ¬ E' gB) : BasG E' w N gB v3 v4 k ls R L C f :=
  ⟨h.f0, h.z0, h.f1, h.z1, h.lo, h.n3, h.n4, h.lead, h.rows.mono fun b hb hp => ⟨hE b hb hp.1, hp.2⟩, hn⟩
/-- Another slice of the caller's own is appended to. -/
theorem BasG.grown {u : Value} (h : BasG E w N gB v3 v4 k ls R L C f) (hgr : w.grownBy w' u.ownBlock) (hB : some gB ≠ u.ownBlock) (h3 : v3.ownBlock = none ∨ v3.ownBlock ≠ u.ownBlock) (h4 : v4.ownBlock = none ∨ v4.ownBlock ≠ u.ownBlock) (hE : ∀ b, E b → some b ≠ u.ownBlock) :
    BasG E w' N gB v3 v4 k ls R L C f :=
  ⟨hgr.cell h.f0 hB, (World.frozen?_of_block (w := w) (hgr.block gB h.lt hB)).trans h.z0, hgr.cell h.f1 hB, (World.frozen?_of_block (w := w) (hgr.block gB h.lt hB)).trans h.z1, h.lo, h.n3, h.n4, h.lead.kept hgr h3, h.rows.other hgr (fun b hp => hE b hp.1) h4, h.nE⟩
end
section
variable {p q : Nat → Prop} {w : World} {A B : Option Addr} {n c k d m : Nat} {R S : Nat → Option Addr} {L K C D : Nat → Nat} {x : List F} {a b : List (List F)}
set_option maxRecDepth 100000 in
set_option maxHeartbeats 1000000 in
theorem independent_any (ha : Mat p w A n c R m C a) (hn : n ≤ 64) (hm : m ≤ 64) : Calls Try.prog 98 #[.slice A n c] w fun e w' =>
    ∃ A' c', e = .returned (.slice A' (indep a).length c') ∧ Ints (fun _ => True) w' A' (indep a).length c' (indep a) ∧ Below w.heap.size w w' := by
  have hlen := ha.len
  have hrl : ∀ i, i < a.length → (mrow a i).length = m := fun i hi => (ha.rows i (by rw [← hlen]; exact hi)).len
  replace hlen := Lib.hid hlen
  replace hrl := Lib.hid hrl
  go_enter Try.func98, Try.ntmps98
  go_wp2
  go_loopw [4, 11] (fun v x wr => ∃ (i : Nat) (v3 v4 : Value) (R' : Nat → Option Addr) (L' C' : Nat → Nat), i ≤ n ∧ x = .int .i64 i ∧ BasG (fun b => b ≠ w.heap.size ∧ some b ≠ v.ownBlock) wr w.heap.size w.heap.size v3 v4 (indI a i).1.length ((indI a i).1.map leadN) R' L' C' (mrow (indI a i).1) ∧
      wr.ownsRow w.heap.size 3 1 v (indI a i).2.length ((indI a i).2.map fun n => Value.int .i64 n) ∧ (v.ownBlock = none ∨ v.ownBlock ≠ v3.ownBlock) ∧ some w.heap.size ≠ v.ownBlock ∧ Below w.heap.size w wr) (fun _ x _ => n - (intOf x).toNat)
  case atStart =>
    refine ⟨0, .slice none 0 0, .slice none 0 0, fun _ => none, fun _ => 0, fun _ => 0, by omega, rfl, ⟨by simp, by simp, by simp, by simp, Nat.le_refl _, by simp [Value.ownBlock], by simp [Value.ownBlock], World.ownsRow_nil _ _ _ _, ?_, fun h => h.1 rfl⟩, World.ownsRow_nil _ _ _ _, .inl rfl, by simp [Value.ownBlock], (Below.refl _ _).alloc (Nat.le_refl _) _⟩
    exact ⟨World.ownsRow_nil _ _ _ _, fun _ hi => absurd hi (Nat.not_lt_zero _)⟩
  case round =>
    obtain ⟨i, v3, v4, R', L', C', hi, rfl, hB, ho, hne3, hneB, hbw⟩ := hrel
    by_cases hlt : i < n
    · obtain ⟨hred, hl2, hle⟩ := indI_red hrl.out i (by rw [hlen.out]; omega)
      obtain ⟨b1, o1, rfl, _, hlt1, hc1⟩ := ha.row.at_ (by omega)
      have f1 : wr.cell? ⟨b1, o1 + i, none⟩ = some (.slice (R i) m (C i)) := (hbw.cell (by exact hlt1)).trans (hc1 i hlt)
      clear hc1
      have ra := (ha.rows i hlt).below hbw
      have hsz := hbw.size
      have hEE : ∀ b, wr.heap.size ≤ b → b ≠ w.heap.size ∧ some b ≠ u4.ownBlock := fun b hb => ⟨by have := hB.lt; omega, own_new_ne ho hb⟩
      cases hadd : addB (indI a i).1 (mrow a i) with
      | none =>
        have hnx := Lib.hid (indI_skip hadd)
        replace hadd := Lib.hid hadd
        go_wp2_with (go_at_call 132; refine (add_any hB hred ra (by omega) (by omega) (Nat.le_of_lt hB.lt) hEE).mono ?_; rintro e w1 ⟨v3', v4', R2, L2, C2, rfl, hB2, hbl, hkp, ho3, ho4⟩; rw [hadd.out] at hB2 ⊢)
        go_roundw
        case rel =>
          have hoo := own_keep ho hkp fun g hg => ⟨fun e => hneB (by rw [← e, hg]), fun e => by rcases hne3 with h | h; (rw [hg] at h; cases h); exact h (by rw [hg, e]), fun e => by rcases own_types ho hB.rows.own (by omega) with h | h; (rw [hg] at h; cases h); exact h (by rw [hg, e])⟩
          refine ⟨i + 1, v3', v4', R2, L2, C2, by omega, by go_num, by rw [hnx.out]; exact hB2, by rw [hnx.out]; exact hoo, ?_, hneB, hbw.trans hbl⟩
          cases hv : u4.ownBlock with
          | none => exact .inl rfl
          | some g => exact .inr (hv ▸ ho3 g (ho.lt g hv).2 (by rcases hne3 with h | h; (rw [hv] at h; cases h); exact hv ▸ h))
        case measure => simp [intOf]; omega
      | some B' =>
        have hnx := Lib.hid (indI_step hadd)
        have hlenB := (addB_red hred ra.len hadd).2.1
        replace hadd := Lib.hid hadd
        go_wp2_with (first | (go_at_call 132; refine (add_any hB hred ra (by omega) (by omega) (Nat.le_of_lt hB.lt) hEE).mono ?_; rintro e w1 ⟨v3', v4', R2, L2, C2, rfl, hB2, hbl, hkp, ho3, ho4⟩; rw [hadd.out] at hB2 ⊢; have hoo := own_keep ho hkp fun g hg => ⟨fun e => hneB (by rw [← e, hg]), fun e => by rcases hne3 with h | h; (rw [hg] at h; cases h); exact h (by rw [hg, e]), fun e => by rcases own_types ho hB.rows.own (by omega) with h | h; (rw [hg] at h; cases h); exact h (by rw [hg, e])⟩; have hsz1 := hkp.size) | (at_builtin; refine wpl_append1 rfl (s := .tmp 19) (x := .tmp 21) rfl Try.underlying29 info3 rfl rfl hoo rfl rfl (by unfold maxLen; omega) (by omega) (by omega) ?_; intro v10 w10 hown10 hgr10 hne10))
        go_roundw
        case rel =>
          have e3 : (indI a i).2 ++ [(i : Int)] = (indI a (i + 1)).2 := by rw [hnx.out]
          have l3 : (indI a (i + 1)).2.length = (indI a i).2.length + 1 := by rw [← e3]; simp
          have h3 : ∀ g, v3'.ownBlock = some g → some g ≠ u4.ownBlock := fun g hg e => (by
            rcases hne3 with h | h
            · rw [h] at e; cases e
            · exact ho3 g (ho.lt g e.symm).2 (fun e' => h (by rw [← e', e])) hg.symm)
          have hB3 := hB2.mono (E' := fun b => (b ≠ w.heap.size ∧ some b ≠ u4.ownBlock) ∧ some b ≠ v10.ownBlock) (fun b hb h => ⟨h, hne10 b hb h.2⟩) (fun h => h.1.1 rfl)
          have hG := ((hB3.grown (u := u4) hgr10 hneB (by cases hv : v3'.ownBlock with | none => exact .inl rfl | some g => exact .inr (h3 g hv)) (own_types hB2.rows.own hoo (by omega)) (fun b h => h.1.2)).mono (E' := fun b => b ≠ w.heap.size ∧ some b ≠ v10.ownBlock) (fun b _ h => ⟨h.1.1, h.2⟩) (fun h => h.1 rfl))
          refine ⟨i + 1, v3', v4', R2, L2, C2, by omega, by go_num, ?_, by rw [l3, ← e3, ints_step]; exact hown10, ?_, hne10 _ (by have := hB2.lt; omega) hneB, (hbw.trans hbl).grown hgr10 (by omega) (own_ge hoo)⟩
          · rw [hnx.out]
            exact hG
          · cases hv : v3'.ownBlock with
            | none => cases hv2 : v10.ownBlock with
              | none => exact .inl rfl
              | some g => exact .inr (by simp)
            | some g => exact .inr (fun e => hne10 g (hB2.lead.lt g hv).2 (h3 g hv) e.symm)
        case measure => simp [intOf]; omega
    · obtain rfl : i = n := by omega
      have e : indI a i = indI a a.length := by rw [hlen.out]
      have e2 : (indI a i).2 = indep a := by rw [e]; rfl
      rw [e2] at ho
      obtain ⟨A', c', rfl, hints⟩ := own_ints ho
      replace e := Lib.hid e
      replace e2 := Lib.hid e2
      go_wp2
      go_ret
      exact ⟨A', c', rfl, hints.mono fun _ _ _ => trivial, hbw⟩
end
section
variable {p q : Nat → Prop} {w : World} {A B : Option Addr} {n c k d m : Nat} {R S : Nat → Option Addr} {L K C D : Nat → Nat} {x : List F} {a b : List (List F)}
set_option maxRecDepth 100000 in
theorem rank_bad (ha : Rag p w A n c R L C a) (h : ¬ Valid a) : Calls Try.prog 40 #[.slice A n c] w fun e w' => e = .returned (.tuple #[.int .i64 0, .int .i64 1]) ∧ w = w' := by
  have va : valid a = false := by simpa [valid] using h
  go_enter Try.func40, Try.ntmps40
  go_wp2_with (go_at_call 39; (with_reducible refine (valid_any ha).mono ?_); rintro e w' ⟨rfl, rfl⟩)
  go_ret2
  exact ⟨rfl, rfl⟩
set_option maxRecDepth 100000 in
theorem rank_ok (ha : Mat p w A n c R m C a) (v : Valid a) (hm : m ≤ 64) (hn : n ≤ 64) : Calls Try.prog 40 #[.slice A n c] w fun e w' => e = .returned (.tuple #[.int .i64 ((indep a).length : Int), .int .i64 0]) ∧ Below w.heap.size w w' := by
  have va : valid a = true := decide_eq_true v
  clear v
  go_enter Try.func40, Try.ntmps40
  go_wp2_with (first | (go_at_call 39; (with_reducible refine (valid_any ha.rag).mono ?_); rintro e w' ⟨rfl, rfl⟩) | (go_at_call 98; refine (independent_any ha hn hm).mono ?_; rintro e w1 ⟨A', c', rfl, hi, hb1⟩))
  go_ret2
  exact ⟨rfl, hb1⟩
end
end Go.Proofs.Ytifhjigkljdkmaa
