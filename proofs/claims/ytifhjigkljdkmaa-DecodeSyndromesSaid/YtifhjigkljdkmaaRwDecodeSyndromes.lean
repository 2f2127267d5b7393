/- The law DecodeSyndromes of the given program returns true for every input, and each argument reads behind the call as it read before. No condition. -/
import Derived.Test.YtifhjigkljdkmaaOt
import Derived.Test.YtifhjigkljdkmaaRows
import Derived.Test.YtifhjigkljdkmaaGu
import Derived.Test.YtifhjigkljdkmaaFa
namespace Go.Proofs.Ytifhjigkljdkmaa.decodeSyndromes
open Go.ChangeShapes Go.WideShapes Go.ChangeAt Go.RowKit
theorem own : ownKnob Try.prog.godebug = none := by kernel_rfl
set_option maxRecDepth 100000 in
set_option maxHeartbeats 1000000 in
theorem lifted (os : Os) (started : os.Started) (H : Type) (enc : TypeId × Value → H) :
    ReturnsInHanded {} Try.checked os 22 .any (Rows.decodeSyndromesSpec.pre6 enc Try.prog Try.f22 Rows.decodeSyndromesRow.domain false) (Rows.decodeSyndromesSpec.post enc Try.prog Try.f22 false true false false) := by
  refine returnsInHanded_of_change (C := Try.checked) own started (by kernel_rfl) Try.func22
    (ChangeSpec.witness6 (enc := enc) (C := Try.checked) false ⟨#[], #[.slice none 0 0, .slice none 0 0], []⟩ 8 (by kernel_rfl) (by kernel_rfl) (by kernel_rfl) (by kernel_rfl)) ?_
  intro W base args ds gs before hval0 hW hcnd _
  have hval : ∀ (j : Nat) t v, Try.f22.params[j]? = some t → args[j]? = some v → Value.okWide Try.prog W .any base t v := hval0
  have hW' := hW
  obtain ⟨p, q, hA0, hV, rfl, hfz, hnd⟩ := hW
  have hA : DataW.TrodAll enc Try.prog W 0 (fun _ => true) true Try.f22.params.toList args.toList ds p := hA0
  rw [Try.params22] at hA hval
  obtain ⟨v0, vs0, d0, ds0, p0, q0, hargs, rfl, rfl, h0, r0⟩ := trodAll_cons hA
  obtain ⟨v1, vs1, d1, ds1, p1, q1, rfl, rfl, rfl, h1, r1⟩ := trodAll_cons r0
  obtain ⟨rfl, rfl, rfl⟩ := trodAll_nil r1
  obtain rfl : args = #[v0, v1] := by cases args; simp_all
  obtain ⟨rfl, rfl⟩ := trodVars_none hV
  obtain ⟨A0, n0, c0, M0, rfl, m0⟩ := open53 (hval 0 53 v0 rfl rfl) h0
  obtain ⟨A1, n1, c1, M1, rfl, m1⟩ := open53 (hval 1 53 v1 rfl rfl) h1
  clear hA0 hval0 hval hcnd
  have hlt := hW'.lt
  refine (law22 m0 m1).mono fun e W' ⟨he, hb⟩ => ?_
  subst he
  exact ⟨_, rfl, post_of_below (pv := []) hW' (fun _ _ _ => (trodAll_cons_mk (shut_bool Try.underlying4 _) trodAll_mk0)) (fun sp hs => (trodAll_cons_mk (WideElems.Trod_stays laidOut (by kernel_rfl) (of_decide_eq_true (by kernel_rfl)) h0 (fun x hx => hb.same (hlt x (by simp [hx]))) (fun x hx => hs x (by simp [hx]))) (trodAll_cons_mk (WideElems.Trod_stays laidOut (by kernel_rfl) (of_decide_eq_true (by kernel_rfl)) h1 (fun x hx => hb.same (hlt x (by simp [hx]))) (fun x hx => hs x (by simp [hx]))) trodAll_mk0))) (fun _ _ => rfl) rfl hb (ok_one (by kernel_rfl) rfl (okWide_bool_mk Try.underlying4 _))⟩
set_option maxRecDepth 100000 in
theorem closed : joinedFacts Try.prog 22 Try.f22 Rows.decodeSyndromesSpec Rows.decodeSyndromesRow = true := by
  unfold joinedFacts
  rw [f_enter, show (Rows.decodeSyndromesRow.lifted == Try.prog.liftsFinal) = true by rw [f_lifts]; rfl, show (Try.prog.make == some Rows.decodeSyndromesRow.make) = true by rw [f_make]; rfl]
  kernel_rfl
theorem over : Rows.decodeSyndromesRow.holds Try.pinned (OpenSpec.ofChange Rows.decodeSyndromesSpec) :=
  OpenClaim.holds_of_wide 22 Try.f22 rfl rfl rfl rfl rfl rfl rfl ⟨rfl, rfl, rfl, rfl, rfl⟩ rfl rfl rfl rfl rfl (by kernel_rfl) Try.func22 closed
    (of_decide_eq_true (by kernel_rfl)) (by unfold Func.isWrapper; first | (rw [if_pos (by decide +kernel)]; kernel_rfl) | (rw [if_neg (by decide +kernel)]; exact ⟨rfl, rfl⟩))
    (fun os started H enc _ => lifted os started H enc)
/-- The statement. -/
theorem proved : Rows.DecodeSyndromesSaid := over
#print axioms proved
end Go.Proofs.Ytifhjigkljdkmaa.decodeSyndromes
