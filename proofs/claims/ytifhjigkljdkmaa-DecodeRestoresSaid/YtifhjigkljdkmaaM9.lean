import Derived.Test.YtifhjigkljdkmaaM8
namespace Go.Proofs.Ytifhjigkljdkmaa
open Go.RowKit
open Gf (F)
set_option linter.unusedSimpArgs false
set_option linter.unusedVariables false
section
variable {p q : Nat → Prop} {w : World} {A B : Option Addr} {n c k d m : Nat} {R S : Nat → Option Addr} {L K C D : Nat → Nat} {x : List F} {a b : List (List F)}
set_option maxRecDepth 100000 in
set_option maxHeartbeats 4000000 in
theorem inverse_ok (ha : Mat p w A n c R n C a) (va : Valid a) : Calls Try.prog 29 #[.slice A n c] w (InvPost w n (invM a n)) := by
  have va' : valid a = true := decide_eq_true va
  obtain ⟨r1, r2, _, _⟩ := valid_dims ha va
  clear va
  obtain ⟨b1, o1, rfl, _, hlt1, hc1⟩ := ha.row.at_ (by omega)
  have e1 : w.cell? ⟨b1, o1, none⟩ = some (.slice (R 0) n (C 0)) := hc1 0 (by omega)
  replace hc1 := Lib.hid hc1
  have ht : ((n : Int) != (n : Int)) = false := by simp
  go_enter Try.func29, Try.ntmps29
  go_wp2_with (first | (go_at_call 39; (with_reducible refine (valid_any ha.rag).mono ?_); rintro e w' ⟨rfl, rfl⟩) | (go_at_call 87; rw [show (2 * (n : Int)) = ((2 * n : Nat) : Int) from by omega]; refine (blank_any n (2 * n) (by omega) (by omega) _).mono ?_; rintro e w1 ⟨g, G, rfl, hown, hb1⟩))
  go_loopw [35] (fun x wr => ∃ i : Nat, i ≤ n ∧ x = .int .i64 i ∧ Own2 wr w.heap.size g G n (2 * n) (fun i' j => if i' < i then augS a n i' j else 0) ∧ Below w.heap.size w wr) (fun x _ => n - (intOf x).toNat)
  case atStart => exact ⟨0, by omega, rfl, hown.congr fun i j _ _ => by rw [if_neg (Nat.not_lt_zero _)], hb1⟩
  case round =>
    obtain ⟨i, hi, rfl, ho, hbw⟩ := hrel
    by_cases hlt : i < n
    · have ra := (ha.rows i hlt).below hbw
      have f1 : wr.cell? ⟨b1, o1 + i, none⟩ = some (.slice (R i) n (C i)) := (hbw.cell (by exact hlt1)).trans (hc1.out i hlt)
      have f2 := ho.topCell hlt
      have f3 := ho.row i hlt
      have hxx : ∀ j, j < n → nth (mrow a i) j = ent a i j := fun _ _ => rfl
      go_wp2_with ((with_reducible refine guard_copy ?_); refine wpl_copy_head rfl rfl Try.underlying28 size5 rfl f3 rfl ra.row (by omega) (by omega) (fun _ _ => rfl) ?_; intro w2 hrow2 hg2; have ho2 := ho.replace (y := fun j => if j < n then nth (mrow a i) j else 0) hlt hg2 (hrow2.congr fun j _ => by by_cases e : j < n <;> simp [e, vb]); have f4 := ho2.topCell hlt; have f5 := ho2.cell (j := n + i) hlt (by omega); have f6 := ho2.frozen hlt (n + i))
      go_roundw
      case rel => exact ⟨i + 1, by omega, by go_num, (ho2.set (j := n + i) hlt 1).congr fun i' j _ _ => aug_step _ hxx i' j, (hbw.grown hg2 hbw.size (fun k hk => by cases hk; exact ho.low hlt)).setCell (ho.low hlt) _⟩
      case measure => simp [intOf]; omega
    · obtain rfl : i = n := by omega
      have hot := (ho.congr (f' := augS a i) fun i' j h _ => by rw [if_pos h]).ownT (max_of (by omega))
      clear ho
      go_wp2
      go_loopw [56] (fun x wr => ∃ (c : Nat) (st : Nat → Nat → F) (R' : Nat → Option Addr) (C' : Nat → Nat), c ≤ i ∧ x = .int .i64 c ∧ Hid (gjS a i c = some st) ∧ OwnT wr w.heap.size g R' C' i (2 * i) (fun k => mkr (2 * i) (st k)) ∧ Below w.heap.size w wr) (fun x _ => i - (intOf x).toNat)
      case atStart => exact ⟨0, _, _, _, by omega, rfl, rfl, hot, hbw⟩
      case round =>
        obtain ⟨cc, st, R', C', hcc, rfl, hst, ho, hbw⟩ := hrel
        by_cases hltc : cc < i
        · go_wp2_with fail
          have ho1 : OwnT (wr.alloc (.cells #[.int .i64 (cc : Int)] 3)) w.heap.size g R' C' i (2 * i) (fun k => mkr (2 * i) (st k)) := ho.keep (Keeps.alloc (p := fun _ => True) _ _) (fun _ _ => trivial)
          have hc0 : (wr.alloc (.cells #[.int .i64 (cc : Int)] 3)).cell? ⟨wr.heap.size, 0, none⟩ = some (.int .i64 (cc : Int)) := by simp
          have hbW := hbw.alloc hbw.size (.cells #[.int .i64 (cc : Int)] 3)
          have hgc : w.heap.size ≤ wr.heap.size := hbw.size
          have hgg : g < wr.heap.size := ho.top.lt
          clear ho hbw
          generalize wr.alloc (.cells #[.int .i64 (cc : Int)] 3) = w1 at *
          generalize wr.heap.size = gc at *
          refine (findrow_any (ho1.colRow (max_of (by omega)) (Nat.le_of_lt hltc)) (fun j hj => ho1.row (cc + j) (by omega)) hc0 (by omega)).mono ?_
          rintro e w2 ⟨rfl, rfl⟩
          rw [mkr_congr (g := fun k => st (cc + k) cc) (fun j hj => nth_mkr _ (by omega)), show mkr (i - cc) (fun k => st (cc + k) cc) = colS st cc i from rfl]
          by_cases hp : leadN (colS st cc i) < i - cc
          case neg =>
            have hlz : lead (colS st cc i) = -1 := by unfold lead; rw [if_neg (by rw [colS, mkr_length]; exact hp)]
            have hno : Hid (invM a i = none) := by
              show _ = _
              have := gjS_succ hst.out
              rw [if_neg hp] at this
              unfold invM
              rw [gjS_mono this i hltc]
              rfl
            rw [hlz]
            replace hlz := Lib.hid hlz
            go_wp2
            go_ret2
            exact ⟨hbW, fun _ => rfl, fun v hv => by rw [hno.out] at hv; cases hv⟩
          case pos =>
            have hlz : lead (colS st cc i) = (leadN (colS st cc i) : Int) := lead_leadN (by rw [colS, mkr_length]; exact hp)
            have hst2 : Hid (gjS a i (cc + 1) = some (stepS i cc st)) := by
              show _ = _
              rw [gjS_succ hst.out, if_pos hp]
            unfold stepS at hst2
            rw [hlz]
            obtain ⟨pp, hpp⟩ : ∃ pp, pp = leadN (colS st cc i) := ⟨_, rfl⟩
            rw [← hpp] at hp hst2 ⊢
            have hpiv : swapS st cc (cc + pp) cc cc ≠ 0 := by
              have h2 := (leadN_lt (x := colS st cc i) (by rw [← hpp, colS, mkr_length]; exact hp)).1
              rw [← hpp] at h2
              unfold colS at h2
              rw [nth_mkr _ hp] at h2
              unfold swapS
              rwa [if_pos rfl]
            replace hpiv := Lib.hid hpiv
            replace hlz := Lib.hid hlz
            replace hpp := Lib.hid hpp
            clear hst
            have hq : cc + pp < i := by omega
            have t1 := ho1.cell hltc
            have t2 := ho1.cell hq
            have t3 := ho1.frozen cc
            have t4 := ho1.frozen (cc + pp)
            have hs1 := ho1.set (ho1.row (cc + pp) hq) cc
            have t5 := hs1.top.cell hq
            have d1 : (0 : Int) ≤ (cc : Int) := Int.natCast_nonneg _
            have d2 : (cc : Int) < (i : Int) := by omega
            have d3 : (0 : Int) ≤ (cc : Int) + (pp : Int) := by omega
            have d4 : (cc : Int) + (pp : Int) < (i : Int) := by omega
            go_wp2
            go_region
            have hs2 := (hs1.set ((ho1.row cc hltc).keep (p := fun b => w.heap.size ≤ b ∧ b ≠ g) (Keeps.setCell (by simp) _)) (cc + pp)).drew.congr fun j _ => swap_eq st cc (cc + pp) (2 * i) j
            have hbS := ((hbW.setCell (p := ⟨g, cc, none⟩) ho1.lo (.slice (R' (cc + pp)) (2 * i) (C' (cc + pp)))).setCell (p := ⟨g, cc + pp, none⟩) ho1.lo (.slice (R' cc) (2 * i) (C' cc))).drew
            have hcS : (((w1.setCell ⟨g, cc, none⟩ (.slice (R' (cc + pp)) (2 * i) (C' (cc + pp)))).setCell ⟨g, cc + pp, none⟩ (.slice (R' cc) (2 * i) (C' cc))).drew).cell? ⟨gc, 0, none⟩ = some (.int .i64 (cc : Int)) := cell_set_ne (by omega) (cell_set_ne (by omega) hc0)
            have hgS : gc < (((w1.setCell ⟨g, cc, none⟩ (.slice (R' (cc + pp)) (2 * i) (C' (cc + pp)))).setCell ⟨g, cc + pp, none⟩ (.slice (R' cc) (2 * i) (C' cc))).drew).heap.size := World.block_lt_of_cell? _ _ hcS
            clear hs1 ho1 hbW hc0 t1 t2 t3 t4 t5
            generalize (((w1.setCell ⟨g, cc, none⟩ (.slice (R' (cc + pp)) (2 * i) (C' (cc + pp)))).setCell ⟨g, cc + pp, none⟩ (.slice (R' cc) (2 * i) (C' cc))).drew) = w2 at *
            generalize swapS st cc (cc + pp) = s2 at *
            revert hs2
            generalize (fun j => if j = cc + pp then R' cc else if j = cc then R' (cc + pp) else R' j) = R2
            generalize (fun j => if j = cc + pp then C' cc else if j = cc then C' (cc + pp) else C' j) = C2
            intro hs2
            have t1 := hs2.cell hltc
            have q1 := hs2.row cc hltc
            obtain ⟨b3, o3, e3, hb3, hlt3, hc3⟩ := q1.at_ (by omega)
            have t3 := hc3 cc (by omega)
            rw [nth_mkr _ (by omega)] at t3
            replace e3 := Lib.hid e3
            replace hc3 := Lib.hid hc3
            rw [e3.out] at t1
            go_wp2
            go_quiet ((go_at_call 90; exact quiet_left (inv_any _ hpiv.out _)))
            have hs3 : OwnT (w2.drewN nq) w.heap.size g R2 C2 i (2 * i) (fun k => mkr (2 * i) (s2 k)) := hs2.keep ((Keeps.refl (fun _ => True) w2).drewN nq) (fun _ _ => trivial)
            have hb3' := below_drewN hbS nq
            have hc3' : (w2.drewN nq).cell? ⟨gc, 0, none⟩ = some (.int .i64 (cc : Int)) := hcS
            clear hs2 hbS hcS hgS q1 t1 t3
            generalize w2.drewN nq = w3 at *
            have t1 := hs3.cell hltc
            rw [e3.out] at t1
            have q3 := hs3.row cc hltc
            rw [e3.out] at q3
            have hg3 : g < w3.heap.size := hs3.top.lt
            have hgc3 : gc < w3.heap.size := World.block_lt_of_cell? _ _ hc3'
            have hgcg : g < gc := hgg
            have hw2 : IntKind.i64.wrap (2 * (i : Int)) = 2 * (i : Int) := IntWalk.i64_in _ (by omega)
            go_upto_region 19 with fail
            refine inv19 hltc r2 hs3 e3.out hb3' hc3' hgcg (fun x95 x96 x97 x98 x99 x100 x101 x102 x103 x104 x105 x106 x107 x108 x109 w4 h4 => ?_)
            obtain ⟨R3, C3, ho3, hcc3, hb3⟩ := h4
            clear hs3 hb3' hc3' t1 q3 hg3 hgc3 e3 hc3
            generalize scaleS s2 cc = S at *
            go_wp2
            refine inv4 hltc r2 ho3 hb3 hcc3 hgcg (fun x12 x112 x113 x114 x115 x116 x117 x118 x119 x120 x121 x122 x123 x124 x125 x126 x127 x128 x129 x130 x131 x132 x133 x134 x135 x136 x137 x138 x139 x140 w5 h5 => ?_)
            obtain ⟨R5, C5, ho5, hcc5, hb5⟩ := h5
            go_wp2
            go_roundw
            case rel => exact ⟨cc + 1, _, R5, C5, by omega, by go_num, hst2, ho5, hb5⟩
            case measure => simp [intOf]; omega
        · obtain rfl : cc = i := by omega
          have hno : Hid (invM a cc = some (mkm cc cc fun r j => st r (cc + j))) := by
            show _ = _
            unfold invM
            rw [hst.out]
            rfl
          clear hst va' hc1 e1 ht hown hot
          go_wp2_with (refine wpl_make rfl rfl Try.underlying22 info28 rfl (by rfl) (by rfl) (by omega) (by omega) ?_; intro w6 g6 hrow6 hb6 hg6)
          refine inv6 r1 r2 ho hbw hb6 hg6 hrow6 (fun x14 x146 x147 x148 x149 x150 x151 x152 x153 x154 x155 x156 x157 x158 x159 w7 h7 => ?_)
          obtain ⟨R5, C5, hm5, hb7⟩ := h7
          go_wp2
          go_ret2
          refine ⟨hb7, ?_, ?_⟩
          · intro h; rw [hno.out] at h; cases h
          · intro v hv; rw [hno.out] at hv; cases hv; exact ⟨_, R5, C5, rfl, hm5⟩
end
end Go.Proofs.Ytifhjigkljdkmaa
