/-
  No cell of these rows narrows 'for every input' (looked for: loops, veiled, ifaces, maps, wideKeys, modest, calm, conditions, laid).
  DERIVED. THE GIVEN ROWS OF THIS SEAT. 24 by the template 'for every input the law returns true; each argument reads behind the call as it read before'; 0 by the template 'total and deterministic' (their statements: YtifhjigkljdkmaaTotals.lean).
  GIVEN WITH THE SEED: the statements are not yours to turn. If you find one false, say at which input.
  Laid BY PROGRAM, IN A SANDBOX (cutbox-rows.mjs): the forced cells as the released guide's own fill.sh prints them over the translation e9d01c44ce5d43a1… (all of the seat's roots in one cut). By AI agents, Wed Nov 11 2026. No macro, syntax, notation, axiom, sorry.
-/
import Derived.Test.YtifhjigkljdkmaaChecked
import GoSem.Claim
import GoSem.ClaimJoined
import GoSem.ClaimMapViews
import Derived.JoinedTies
import Derived.KernelRfl
namespace Go.Proofs.Ytifhjigkljdkmaa
/- THE CELL 'sum', in the pinned program and in every row, IS THE sha256 OF THE DUMP (.gsa) THAT YtifhjigkljdkmaaProg.lean LOADS. Nothing in Lean hashes anything: it is a label: what it is worth is what the hold of that sum in a sandbox is worth. -/
noncomputable def Try.pinned : Pinned := { name := "ytifhjigkljdkmaa", sum := "e9d01c44ce5d43a1db372de780d64f13c48c0213391d4bfcbb03516b3404c801", checked := Try.checked }
namespace Rows
def none {H : Type} : Left H := { results := [], args := [] }

/-- 'tegulalaw02.GfmatrixInverse': WHATEVER THE INPUT: true; the input reads as it did. -/
def gfmatrixInverseSpec : ChangeSpec := { name := "gfmatrixInverse", fn := fun _ => fun
  | [d] => { results := [.lit (.bool true)], args := [d] }
  | _ => none }
def gfmatrixInverseRow : OpenClaim := { program := "ytifhjigkljdkmaa", sum := "e9d01c44ce5d43a1db372de780d64f13c48c0213391d4bfcbb03516b3404c801", func := "tegula/tegulalaw02.GfmatrixInverse", spec := "gfmatrixInverse", unfollowed := true, recurses := true, apart := false }
def GfmatrixInverseSaid : Prop := gfmatrixInverseRow.holds Try.pinned (OpenSpec.ofChange gfmatrixInverseSpec)

/-- ITS FALSE NEIGHBOUR: 'it returns false'. Refute it at one input. -/
def gfmatrixInverseWrong : ChangeSpec := { name := "gfmatrixInverse", fn := fun _ => fun
  | [d] => { results := [.lit (.bool false)], args := [d] }
  | _ => none }
def GfmatrixInverseWrongFalsely : Prop := gfmatrixInverseRow.holds Try.pinned (OpenSpec.ofChange gfmatrixInverseWrong)

/-- 'tegulalaw02.GfmatrixLeftInverse': WHATEVER THE INPUT: true; the input reads as it did. -/
def gfmatrixLeftInverseSpec : ChangeSpec := { name := "gfmatrixLeftInverse", fn := fun _ => fun
  | [d] => { results := [.lit (.bool true)], args := [d] }
  | _ => none }
def gfmatrixLeftInverseRow : OpenClaim := { program := "ytifhjigkljdkmaa", sum := "e9d01c44ce5d43a1db372de780d64f13c48c0213391d4bfcbb03516b3404c801", func := "tegula/tegulalaw02.GfmatrixLeftInverse", spec := "gfmatrixLeftInverse", unfollowed := true, recurses := true, apart := false }
def GfmatrixLeftInverseSaid : Prop := gfmatrixLeftInverseRow.holds Try.pinned (OpenSpec.ofChange gfmatrixLeftInverseSpec)

/-- ITS FALSE NEIGHBOUR: 'it returns false'. Refute it at one input. -/
def gfmatrixLeftInverseWrong : ChangeSpec := { name := "gfmatrixLeftInverse", fn := fun _ => fun
  | [d] => { results := [.lit (.bool false)], args := [d] }
  | _ => none }
def GfmatrixLeftInverseWrongFalsely : Prop := gfmatrixLeftInverseRow.holds Try.pinned (OpenSpec.ofChange gfmatrixLeftInverseWrong)

/-- 'tegulalaw02.GfmatrixValid': WHATEVER THE INPUT: true; the input reads as it did. -/
def gfmatrixValidSpec : ChangeSpec := { name := "gfmatrixValid", fn := fun _ => fun
  | [d1, d2] => { results := [.lit (.bool true)], args := [d1, d2] }
  | _ => none }
def gfmatrixValidRow : OpenClaim := { program := "ytifhjigkljdkmaa", sum := "e9d01c44ce5d43a1db372de780d64f13c48c0213391d4bfcbb03516b3404c801", func := "tegula/tegulalaw02.GfmatrixValid", spec := "gfmatrixValid", unfollowed := true, recurses := true, apart := false }
def GfmatrixValidSaid : Prop := gfmatrixValidRow.holds Try.pinned (OpenSpec.ofChange gfmatrixValidSpec)

/-- ITS FALSE NEIGHBOUR: 'it returns false'. Refute it at one input. -/
def gfmatrixValidWrong : ChangeSpec := { name := "gfmatrixValid", fn := fun _ => fun
  | [d1, d2] => { results := [.lit (.bool false)], args := [d1, d2] }
  | _ => none }
def GfmatrixValidWrongFalsely : Prop := gfmatrixValidRow.holds Try.pinned (OpenSpec.ofChange gfmatrixValidWrong)

/-- 'tegulalaw02.GfmatrixRank': WHATEVER THE INPUT: true; the input reads as it did. -/
def gfmatrixRankSpec : ChangeSpec := { name := "gfmatrixRank", fn := fun _ => fun
  | [d] => { results := [.lit (.bool true)], args := [d] }
  | _ => none }
def gfmatrixRankRow : OpenClaim := { program := "ytifhjigkljdkmaa", sum := "e9d01c44ce5d43a1db372de780d64f13c48c0213391d4bfcbb03516b3404c801", func := "tegula/tegulalaw02.GfmatrixRank", spec := "gfmatrixRank", unfollowed := true, recurses := true, apart := false }
def GfmatrixRankSaid : Prop := gfmatrixRankRow.holds Try.pinned (OpenSpec.ofChange gfmatrixRankSpec)

/-- ITS FALSE NEIGHBOUR: 'it returns false'. Refute it at one input. -/
def gfmatrixRankWrong : ChangeSpec := { name := "gfmatrixRank", fn := fun _ => fun
  | [d] => { results := [.lit (.bool false)], args := [d] }
  | _ => none }
def GfmatrixRankWrongFalsely : Prop := gfmatrixRankRow.holds Try.pinned (OpenSpec.ofChange gfmatrixRankWrong)

/-- 'tegulalaw02.GfmatrixSolves': WHATEVER THE INPUT: true; the input reads as it did. -/
def gfmatrixSolvesSpec : ChangeSpec := { name := "gfmatrixSolves", fn := fun _ => fun
  | [d1, d2] => { results := [.lit (.bool true)], args := [d1, d2] }
  | _ => none }
def gfmatrixSolvesRow : OpenClaim := { program := "ytifhjigkljdkmaa", sum := "e9d01c44ce5d43a1db372de780d64f13c48c0213391d4bfcbb03516b3404c801", func := "tegula/tegulalaw02.GfmatrixSolves", spec := "gfmatrixSolves", unfollowed := true, recurses := true, apart := false }
def GfmatrixSolvesSaid : Prop := gfmatrixSolvesRow.holds Try.pinned (OpenSpec.ofChange gfmatrixSolvesSpec)

/-- ITS FALSE NEIGHBOUR: 'it returns false'. Refute it at one input. -/
def gfmatrixSolvesWrong : ChangeSpec := { name := "gfmatrixSolves", fn := fun _ => fun
  | [d1, d2] => { results := [.lit (.bool false)], args := [d1, d2] }
  | _ => none }
def GfmatrixSolvesWrongFalsely : Prop := gfmatrixSolvesRow.holds Try.pinned (OpenSpec.ofChange gfmatrixSolvesWrong)

/-- 'tegulalaw02.GfmatrixProducts': WHATEVER THE INPUT: true; the input reads as it did. -/
def gfmatrixProductsSpec : ChangeSpec := { name := "gfmatrixProducts", fn := fun _ => fun
  | [d1, d2, d3] => { results := [.lit (.bool true)], args := [d1, d2, d3] }
  | _ => none }
def gfmatrixProductsRow : OpenClaim := { program := "ytifhjigkljdkmaa", sum := "e9d01c44ce5d43a1db372de780d64f13c48c0213391d4bfcbb03516b3404c801", func := "tegula/tegulalaw02.GfmatrixProducts", spec := "gfmatrixProducts", unfollowed := true, recurses := true, apart := false }
def GfmatrixProductsSaid : Prop := gfmatrixProductsRow.holds Try.pinned (OpenSpec.ofChange gfmatrixProductsSpec)

/-- ITS FALSE NEIGHBOUR: 'it returns false'. Refute it at one input. -/
def gfmatrixProductsWrong : ChangeSpec := { name := "gfmatrixProducts", fn := fun _ => fun
  | [d1, d2, d3] => { results := [.lit (.bool false)], args := [d1, d2, d3] }
  | _ => none }
def GfmatrixProductsWrongFalsely : Prop := gfmatrixProductsRow.holds Try.pinned (OpenSpec.ofChange gfmatrixProductsWrong)

/-- 'tegulalaw02.GfmatrixSelect': WHATEVER THE INPUT: true; the input reads as it did. -/
def gfmatrixSelectSpec : ChangeSpec := { name := "gfmatrixSelect", fn := fun _ => fun
  | [d1, d2, d3] => { results := [.lit (.bool true)], args := [d1, d2, d3] }
  | _ => none }
def gfmatrixSelectRow : OpenClaim := { program := "ytifhjigkljdkmaa", sum := "e9d01c44ce5d43a1db372de780d64f13c48c0213391d4bfcbb03516b3404c801", func := "tegula/tegulalaw02.GfmatrixSelect", spec := "gfmatrixSelect", unfollowed := true, recurses := true, apart := false }
def GfmatrixSelectSaid : Prop := gfmatrixSelectRow.holds Try.pinned (OpenSpec.ofChange gfmatrixSelectSpec)

/-- ITS FALSE NEIGHBOUR: 'it returns false'. Refute it at one input. -/
def gfmatrixSelectWrong : ChangeSpec := { name := "gfmatrixSelect", fn := fun _ => fun
  | [d1, d2, d3] => { results := [.lit (.bool false)], args := [d1, d2, d3] }
  | _ => none }
def GfmatrixSelectWrongFalsely : Prop := gfmatrixSelectRow.holds Try.pinned (OpenSpec.ofChange gfmatrixSelectWrong)

/-- 'tegulalaw24.GroupApply': WHATEVER THE INPUT: true; the input reads as it did. -/
def groupApplySpec : ChangeSpec := { name := "groupApply", fn := fun _ => fun
  | [d1, d2] => { results := [.lit (.bool true)], args := [d1, d2] }
  | _ => none }
def groupApplyRow : OpenClaim := { program := "ytifhjigkljdkmaa", sum := "e9d01c44ce5d43a1db372de780d64f13c48c0213391d4bfcbb03516b3404c801", func := "tegula/tegulalaw24.GroupApply", spec := "groupApply", unfollowed := true, recurses := true, apart := false }
def GroupApplySaid : Prop := groupApplyRow.holds Try.pinned (OpenSpec.ofChange groupApplySpec)

/-- ITS FALSE NEIGHBOUR: 'it returns false'. Refute it at one input. -/
def groupApplyWrong : ChangeSpec := { name := "groupApply", fn := fun _ => fun
  | [d1, d2] => { results := [.lit (.bool false)], args := [d1, d2] }
  | _ => none }
def GroupApplyWrongFalsely : Prop := groupApplyRow.holds Try.pinned (OpenSpec.ofChange groupApplyWrong)

/-- 'tegulalaw24.GroupConsistent': WHATEVER THE INPUT: true; the input reads as it did. -/
def groupConsistentSpec : ChangeSpec := { name := "groupConsistent", fn := fun _ => fun
  | [d1, d2, d3] => { results := [.lit (.bool true)], args := [d1, d2, d3] }
  | _ => none }
def groupConsistentRow : OpenClaim := { program := "ytifhjigkljdkmaa", sum := "e9d01c44ce5d43a1db372de780d64f13c48c0213391d4bfcbb03516b3404c801", func := "tegula/tegulalaw24.GroupConsistent", spec := "groupConsistent", unfollowed := true, recurses := true, apart := false }
def GroupConsistentSaid : Prop := groupConsistentRow.holds Try.pinned (OpenSpec.ofChange groupConsistentSpec)

/-- ITS FALSE NEIGHBOUR: 'it returns false'. Refute it at one input. -/
def groupConsistentWrong : ChangeSpec := { name := "groupConsistent", fn := fun _ => fun
  | [d1, d2, d3] => { results := [.lit (.bool false)], args := [d1, d2, d3] }
  | _ => none }
def GroupConsistentWrongFalsely : Prop := groupConsistentRow.holds Try.pinned (OpenSpec.ofChange groupConsistentWrong)

/-- 'tegulalaw24.GroupReads': WHATEVER THE INPUT: true; the input reads as it did. -/
def groupReadsSpec : ChangeSpec := { name := "groupReads", fn := fun _ => fun
  | [d1, d2, d3] => { results := [.lit (.bool true)], args := [d1, d2, d3] }
  | _ => none }
def groupReadsRow : OpenClaim := { program := "ytifhjigkljdkmaa", sum := "e9d01c44ce5d43a1db372de780d64f13c48c0213391d4bfcbb03516b3404c801", func := "tegula/tegulalaw24.GroupReads", spec := "groupReads", unfollowed := true, recurses := true, apart := false }
def GroupReadsSaid : Prop := groupReadsRow.holds Try.pinned (OpenSpec.ofChange groupReadsSpec)

/-- ITS FALSE NEIGHBOUR: 'it returns false'. Refute it at one input. -/
def groupReadsWrong : ChangeSpec := { name := "groupReads", fn := fun _ => fun
  | [d1, d2, d3] => { results := [.lit (.bool false)], args := [d1, d2, d3] }
  | _ => none }
def GroupReadsWrongFalsely : Prop := groupReadsRow.holds Try.pinned (OpenSpec.ofChange groupReadsWrong)

/-- 'tegulalaw24.GroupFewest': WHATEVER THE INPUT: true; the input reads as it did. -/
def groupFewestSpec : ChangeSpec := { name := "groupFewest", fn := fun _ => fun
  | [d1, d2, d3] => { results := [.lit (.bool true)], args := [d1, d2, d3] }
  | _ => none }
def groupFewestRow : OpenClaim := { program := "ytifhjigkljdkmaa", sum := "e9d01c44ce5d43a1db372de780d64f13c48c0213391d4bfcbb03516b3404c801", func := "tegula/tegulalaw24.GroupFewest", spec := "groupFewest", unfollowed := true, recurses := true, apart := false }
def GroupFewestSaid : Prop := groupFewestRow.holds Try.pinned (OpenSpec.ofChange groupFewestSpec)

/-- ITS FALSE NEIGHBOUR: 'it returns false'. Refute it at one input. -/
def groupFewestWrong : ChangeSpec := { name := "groupFewest", fn := fun _ => fun
  | [d1, d2, d3] => { results := [.lit (.bool false)], args := [d1, d2, d3] }
  | _ => none }
def GroupFewestWrongFalsely : Prop := groupFewestRow.holds Try.pinned (OpenSpec.ofChange groupFewestWrong)

/-- 'tegulalaw24.GroupFewer': WHATEVER THE INPUT: true; the input reads as it did. -/
def groupFewerSpec : ChangeSpec := { name := "groupFewer", fn := fun _ => fun
  | [d1, d2] => { results := [.lit (.bool true)], args := [d1, d2] }
  | _ => none }
def groupFewerRow : OpenClaim := { program := "ytifhjigkljdkmaa", sum := "e9d01c44ce5d43a1db372de780d64f13c48c0213391d4bfcbb03516b3404c801", func := "tegula/tegulalaw24.GroupFewer", spec := "groupFewer", unfollowed := true, recurses := true, apart := false }
def GroupFewerSaid : Prop := groupFewerRow.holds Try.pinned (OpenSpec.ofChange groupFewerSpec)

/-- ITS FALSE NEIGHBOUR: 'it returns false'. Refute it at one input. -/
def groupFewerWrong : ChangeSpec := { name := "groupFewer", fn := fun _ => fun
  | [d1, d2] => { results := [.lit (.bool false)], args := [d1, d2] }
  | _ => none }
def GroupFewerWrongFalsely : Prop := groupFewerRow.holds Try.pinned (OpenSpec.ofChange groupFewerWrong)

/-- 'tegulalaw02.GfmatrixAlgebra': WHATEVER THE INPUT: true; the input reads as it did. -/
def gfmatrixAlgebraSpec : ChangeSpec := { name := "gfmatrixAlgebra", fn := fun _ => fun
  | [d1, d2] => { results := [.lit (.bool true)], args := [d1, d2] }
  | _ => none }
def gfmatrixAlgebraRow : OpenClaim := { program := "ytifhjigkljdkmaa", sum := "e9d01c44ce5d43a1db372de780d64f13c48c0213391d4bfcbb03516b3404c801", func := "tegula/tegulalaw02.GfmatrixAlgebra", spec := "gfmatrixAlgebra", unfollowed := true, recurses := true, apart := false }
def GfmatrixAlgebraSaid : Prop := gfmatrixAlgebraRow.holds Try.pinned (OpenSpec.ofChange gfmatrixAlgebraSpec)

/-- ITS FALSE NEIGHBOUR: 'it returns false'. Refute it at one input. -/
def gfmatrixAlgebraWrong : ChangeSpec := { name := "gfmatrixAlgebra", fn := fun _ => fun
  | [d1, d2] => { results := [.lit (.bool false)], args := [d1, d2] }
  | _ => none }
def GfmatrixAlgebraWrongFalsely : Prop := gfmatrixAlgebraRow.holds Try.pinned (OpenSpec.ofChange gfmatrixAlgebraWrong)

/-- 'tegulalaw24.GroupWrites': WHATEVER THE INPUT: true; the input reads as it did. -/
def groupWritesSpec : ChangeSpec := { name := "groupWrites", fn := fun _ => fun
  | [d1, d2, d3, d4] => { results := [.lit (.bool true)], args := [d1, d2, d3, d4] }
  | _ => none }
def groupWritesRow : OpenClaim := { program := "ytifhjigkljdkmaa", sum := "e9d01c44ce5d43a1db372de780d64f13c48c0213391d4bfcbb03516b3404c801", func := "tegula/tegulalaw24.GroupWrites", spec := "groupWrites", unfollowed := true, recurses := true, apart := false }
def GroupWritesSaid : Prop := groupWritesRow.holds Try.pinned (OpenSpec.ofChange groupWritesSpec)

/-- ITS FALSE NEIGHBOUR: 'it returns false'. Refute it at one input. -/
def groupWritesWrong : ChangeSpec := { name := "groupWrites", fn := fun _ => fun
  | [d1, d2, d3, d4] => { results := [.lit (.bool false)], args := [d1, d2, d3, d4] }
  | _ => none }
def GroupWritesWrongFalsely : Prop := groupWritesRow.holds Try.pinned (OpenSpec.ofChange groupWritesWrong)

/-- 'tegulalaw04.DecodeWeights': WHATEVER THE INPUT: true; the input reads as it did. -/
def decodeWeightsSpec : ChangeSpec := { name := "decodeWeights", fn := fun _ => fun
  | [d1, d2, d3] => { results := [.lit (.bool true)], args := [d1, d2, d3] }
  | _ => none }
def decodeWeightsRow : OpenClaim := { program := "ytifhjigkljdkmaa", sum := "e9d01c44ce5d43a1db372de780d64f13c48c0213391d4bfcbb03516b3404c801", func := "tegula/tegulalaw04.DecodeWeights", spec := "decodeWeights", unfollowed := true, recurses := true, apart := false }
def DecodeWeightsSaid : Prop := decodeWeightsRow.holds Try.pinned (OpenSpec.ofChange decodeWeightsSpec)

/-- ITS FALSE NEIGHBOUR: 'it returns false'. Refute it at one input. -/
def decodeWeightsWrong : ChangeSpec := { name := "decodeWeights", fn := fun _ => fun
  | [d1, d2, d3] => { results := [.lit (.bool false)], args := [d1, d2, d3] }
  | _ => none }
def DecodeWeightsWrongFalsely : Prop := decodeWeightsRow.holds Try.pinned (OpenSpec.ofChange decodeWeightsWrong)

/-- 'tegulalaw04.DecodeCombines': WHATEVER THE INPUT: true; the input reads as it did. -/
def decodeCombinesSpec : ChangeSpec := { name := "decodeCombines", fn := fun _ => fun
  | [d1, d2] => { results := [.lit (.bool true)], args := [d1, d2] }
  | _ => none }
def decodeCombinesRow : OpenClaim := { program := "ytifhjigkljdkmaa", sum := "e9d01c44ce5d43a1db372de780d64f13c48c0213391d4bfcbb03516b3404c801", func := "tegula/tegulalaw04.DecodeCombines", spec := "decodeCombines", unfollowed := true, recurses := true, apart := false }
def DecodeCombinesSaid : Prop := decodeCombinesRow.holds Try.pinned (OpenSpec.ofChange decodeCombinesSpec)

/-- ITS FALSE NEIGHBOUR: 'it returns false'. Refute it at one input. -/
def decodeCombinesWrong : ChangeSpec := { name := "decodeCombines", fn := fun _ => fun
  | [d1, d2] => { results := [.lit (.bool false)], args := [d1, d2] }
  | _ => none }
def DecodeCombinesWrongFalsely : Prop := decodeCombinesRow.holds Try.pinned (OpenSpec.ofChange decodeCombinesWrong)

/-- 'tegulalaw04.DecodeAnyHelpers': WHATEVER THE INPUT: true; the input reads as it did. -/
def decodeAnyHelpersSpec : ChangeSpec := { name := "decodeAnyHelpers", fn := fun _ => fun
  | [d1, d2, d3] => { results := [.lit (.bool true)], args := [d1, d2, d3] }
  | _ => none }
def decodeAnyHelpersRow : OpenClaim := { program := "ytifhjigkljdkmaa", sum := "e9d01c44ce5d43a1db372de780d64f13c48c0213391d4bfcbb03516b3404c801", func := "tegula/tegulalaw04.DecodeAnyHelpers", spec := "decodeAnyHelpers", unfollowed := true, recurses := true, apart := false }
def DecodeAnyHelpersSaid : Prop := decodeAnyHelpersRow.holds Try.pinned (OpenSpec.ofChange decodeAnyHelpersSpec)

/-- ITS FALSE NEIGHBOUR: 'it returns false'. Refute it at one input. -/
def decodeAnyHelpersWrong : ChangeSpec := { name := "decodeAnyHelpers", fn := fun _ => fun
  | [d1, d2, d3] => { results := [.lit (.bool false)], args := [d1, d2, d3] }
  | _ => none }
def DecodeAnyHelpersWrongFalsely : Prop := decodeAnyHelpersRow.holds Try.pinned (OpenSpec.ofChange decodeAnyHelpersWrong)

/-- 'tegulalaw04.DecodeMatchesReference': WHATEVER THE INPUT: true; the input reads as it did. -/
def decodeMatchesReferenceSpec : ChangeSpec := { name := "decodeMatchesReference", fn := fun _ => fun
  | [d1, d2] => { results := [.lit (.bool true)], args := [d1, d2] }
  | _ => none }
def decodeMatchesReferenceRow : OpenClaim := { program := "ytifhjigkljdkmaa", sum := "e9d01c44ce5d43a1db372de780d64f13c48c0213391d4bfcbb03516b3404c801", func := "tegula/tegulalaw04.DecodeMatchesReference", spec := "decodeMatchesReference", unfollowed := true, recurses := true, apart := false }
def DecodeMatchesReferenceSaid : Prop := decodeMatchesReferenceRow.holds Try.pinned (OpenSpec.ofChange decodeMatchesReferenceSpec)

/-- ITS FALSE NEIGHBOUR: 'it returns false'. Refute it at one input. -/
def decodeMatchesReferenceWrong : ChangeSpec := { name := "decodeMatchesReference", fn := fun _ => fun
  | [d1, d2] => { results := [.lit (.bool false)], args := [d1, d2] }
  | _ => none }
def DecodeMatchesReferenceWrongFalsely : Prop := decodeMatchesReferenceRow.holds Try.pinned (OpenSpec.ofChange decodeMatchesReferenceWrong)

/-- 'tegulalaw04.DecodeRestores': WHATEVER THE INPUT: true; the input reads as it did. -/
def decodeRestoresSpec : ChangeSpec := { name := "decodeRestores", fn := fun _ => fun
  | [d1, d2, d3] => { results := [.lit (.bool true)], args := [d1, d2, d3] }
  | _ => none }
def decodeRestoresRow : OpenClaim := { program := "ytifhjigkljdkmaa", sum := "e9d01c44ce5d43a1db372de780d64f13c48c0213391d4bfcbb03516b3404c801", func := "tegula/tegulalaw04.DecodeRestores", spec := "decodeRestores", unfollowed := true, recurses := true, apart := false }
def DecodeRestoresSaid : Prop := decodeRestoresRow.holds Try.pinned (OpenSpec.ofChange decodeRestoresSpec)

/-- ITS FALSE NEIGHBOUR: 'it returns false'. Refute it at one input. -/
def decodeRestoresWrong : ChangeSpec := { name := "decodeRestores", fn := fun _ => fun
  | [d1, d2, d3] => { results := [.lit (.bool false)], args := [d1, d2, d3] }
  | _ => none }
def DecodeRestoresWrongFalsely : Prop := decodeRestoresRow.holds Try.pinned (OpenSpec.ofChange decodeRestoresWrong)

/-- 'tegulalaw04.DecodeSyndromes': WHATEVER THE INPUT: true; the input reads as it did. -/
def decodeSyndromesSpec : ChangeSpec := { name := "decodeSyndromes", fn := fun _ => fun
  | [d1, d2] => { results := [.lit (.bool true)], args := [d1, d2] }
  | _ => none }
def decodeSyndromesRow : OpenClaim := { program := "ytifhjigkljdkmaa", sum := "e9d01c44ce5d43a1db372de780d64f13c48c0213391d4bfcbb03516b3404c801", func := "tegula/tegulalaw04.DecodeSyndromes", spec := "decodeSyndromes", unfollowed := true, recurses := true, apart := false }
def DecodeSyndromesSaid : Prop := decodeSyndromesRow.holds Try.pinned (OpenSpec.ofChange decodeSyndromesSpec)

/-- ITS FALSE NEIGHBOUR: 'it returns false'. Refute it at one input. -/
def decodeSyndromesWrong : ChangeSpec := { name := "decodeSyndromes", fn := fun _ => fun
  | [d1, d2] => { results := [.lit (.bool false)], args := [d1, d2] }
  | _ => none }
def DecodeSyndromesWrongFalsely : Prop := decodeSyndromesRow.holds Try.pinned (OpenSpec.ofChange decodeSyndromesWrong)

/-- 'tegulalaw04.DecodeLocates': WHATEVER THE INPUT: true; the input reads as it did. -/
def decodeLocatesSpec : ChangeSpec := { name := "decodeLocates", fn := fun _ => fun
  | [d1, d2, d3] => { results := [.lit (.bool true)], args := [d1, d2, d3] }
  | _ => none }
def decodeLocatesRow : OpenClaim := { program := "ytifhjigkljdkmaa", sum := "e9d01c44ce5d43a1db372de780d64f13c48c0213391d4bfcbb03516b3404c801", func := "tegula/tegulalaw04.DecodeLocates", spec := "decodeLocates", unfollowed := true, recurses := true, apart := false }
def DecodeLocatesSaid : Prop := decodeLocatesRow.holds Try.pinned (OpenSpec.ofChange decodeLocatesSpec)

/-- ITS FALSE NEIGHBOUR: 'it returns false'. Refute it at one input. -/
def decodeLocatesWrong : ChangeSpec := { name := "decodeLocates", fn := fun _ => fun
  | [d1, d2, d3] => { results := [.lit (.bool false)], args := [d1, d2, d3] }
  | _ => none }
def DecodeLocatesWrongFalsely : Prop := decodeLocatesRow.holds Try.pinned (OpenSpec.ofChange decodeLocatesWrong)

/-- 'tegulalaw04.DecodeCorrects': WHATEVER THE INPUT: true; the input reads as it did. -/
def decodeCorrectsSpec : ChangeSpec := { name := "decodeCorrects", fn := fun _ => fun
  | [d] => { results := [.lit (.bool true)], args := [d] }
  | _ => none }
def decodeCorrectsRow : OpenClaim := { program := "ytifhjigkljdkmaa", sum := "e9d01c44ce5d43a1db372de780d64f13c48c0213391d4bfcbb03516b3404c801", func := "tegula/tegulalaw04.DecodeCorrects", spec := "decodeCorrects", unfollowed := true, recurses := true, apart := false }
def DecodeCorrectsSaid : Prop := decodeCorrectsRow.holds Try.pinned (OpenSpec.ofChange decodeCorrectsSpec)

/-- ITS FALSE NEIGHBOUR: 'it returns false'. Refute it at one input. -/
def decodeCorrectsWrong : ChangeSpec := { name := "decodeCorrects", fn := fun _ => fun
  | [d] => { results := [.lit (.bool false)], args := [d] }
  | _ => none }
def DecodeCorrectsWrongFalsely : Prop := decodeCorrectsRow.holds Try.pinned (OpenSpec.ofChange decodeCorrectsWrong)

/-- 'tegulalaw24.GroupCompute': WHATEVER THE INPUT: true; the input reads as it did. -/
def groupComputeSpec : ChangeSpec := { name := "groupCompute", fn := fun _ => fun
  | [d] => { results := [.lit (.bool true)], args := [d] }
  | _ => none }
def groupComputeRow : OpenClaim := { program := "ytifhjigkljdkmaa", sum := "e9d01c44ce5d43a1db372de780d64f13c48c0213391d4bfcbb03516b3404c801", func := "tegula/tegulalaw24.GroupCompute", spec := "groupCompute", unfollowed := true, recurses := true, apart := false }
def GroupComputeSaid : Prop := groupComputeRow.holds Try.pinned (OpenSpec.ofChange groupComputeSpec)

/-- ITS FALSE NEIGHBOUR: 'it returns false'. Refute it at one input. -/
def groupComputeWrong : ChangeSpec := { name := "groupCompute", fn := fun _ => fun
  | [d] => { results := [.lit (.bool false)], args := [d] }
  | _ => none }
def GroupComputeWrongFalsely : Prop := groupComputeRow.holds Try.pinned (OpenSpec.ofChange groupComputeWrong)

/-- 'tegulalaw24.GroupPartial': WHATEVER THE INPUT: true; the input reads as it did. -/
def groupPartialSpec : ChangeSpec := { name := "groupPartial", fn := fun _ => fun
  | [d1, d2, d3] => { results := [.lit (.bool true)], args := [d1, d2, d3] }
  | _ => none }
def groupPartialRow : OpenClaim := { program := "ytifhjigkljdkmaa", sum := "e9d01c44ce5d43a1db372de780d64f13c48c0213391d4bfcbb03516b3404c801", func := "tegula/tegulalaw24.GroupPartial", spec := "groupPartial", unfollowed := true, recurses := true, apart := false }
def GroupPartialSaid : Prop := groupPartialRow.holds Try.pinned (OpenSpec.ofChange groupPartialSpec)

/-- ITS FALSE NEIGHBOUR: 'it returns false'. Refute it at one input. -/
def groupPartialWrong : ChangeSpec := { name := "groupPartial", fn := fun _ => fun
  | [d1, d2, d3] => { results := [.lit (.bool false)], args := [d1, d2, d3] }
  | _ => none }
def GroupPartialWrongFalsely : Prop := groupPartialRow.holds Try.pinned (OpenSpec.ofChange groupPartialWrong)

/- THE SECOND FORM. 'bulk': how many values and letters a reading holds, each counted each time it is reached (what is shared counts as often as it is met; a slice's spare places count too). A statement '..UptoSaid' is the law's where the arguments, and the package variables that the reading takes, are together of bulk at most 1048576: NARROWER than '..Said'. Prove '..Said' where nothing that the law and all that it calls make is longer than what came in: it says more and counts as full. Else prove '..UptoSaid'. A law counts once. -/
mutual
def uptoBulk {H : Type} : DataW H → Nat
  | .lit (.string bytes) => bytes.length + 1
  | .lit _ => 1
  | .nil => 1
  | .ptr d => uptoBulk d + 1
  | .slice elems spare => uptoBulkAll elems + uptoBulkAll spare + 1
  | .agg parts => uptoBulkAll parts + 1
  | .iface _ d => uptoBulk d + 1
  | .map entries => uptoBulkEntries entries + 1
  | .held _ => 1
def uptoBulkAll {H : Type} : List (DataW H) → Nat
  | [] => 0
  | d :: r => uptoBulk d + uptoBulkAll r
def uptoBulkEntries {H : Type} : List (Lit × DataW H) → Nat
  | [] => 0
  | x :: r => uptoBulkEntry x + uptoBulkEntries r
def uptoBulkEntry {H : Type} : Lit × DataW H → Nat
  | (.string bytes, d) => bytes.length + uptoBulk d + 1
  | (_, d) => uptoBulk d + 1
 end
def uptoSmall : (H : Type) → List (DataW H) → Bool := fun _ ds => decide (uptoBulkAll ds ≤ 1048576)
def OpenSpec.upto (s : _root_.Go.ChangeSpec) : _root_.Go.OpenSpec := { _root_.Go.OpenSpec.ofChange s with cond := some uptoSmall }

/-- 'tegulalaw02.GfmatrixInverse', WHERE WHAT IT READS IS OF BULK AT MOST 1048576: true; the input reads as it did. -/
def gfmatrixInverseUptoRow : OpenClaim := { program := "ytifhjigkljdkmaa", sum := "e9d01c44ce5d43a1db372de780d64f13c48c0213391d4bfcbb03516b3404c801", func := "tegula/tegulalaw02.GfmatrixInverse", spec := "gfmatrixInverse", unfollowed := true, recurses := true, apart := false, narrowed := true }
def GfmatrixInverseUptoSaid : Prop := gfmatrixInverseUptoRow.holds Try.pinned (OpenSpec.upto gfmatrixInverseSpec)

/-- 'tegulalaw02.GfmatrixLeftInverse', WHERE WHAT IT READS IS OF BULK AT MOST 1048576: true; the input reads as it did. -/
def gfmatrixLeftInverseUptoRow : OpenClaim := { program := "ytifhjigkljdkmaa", sum := "e9d01c44ce5d43a1db372de780d64f13c48c0213391d4bfcbb03516b3404c801", func := "tegula/tegulalaw02.GfmatrixLeftInverse", spec := "gfmatrixLeftInverse", unfollowed := true, recurses := true, apart := false, narrowed := true }
def GfmatrixLeftInverseUptoSaid : Prop := gfmatrixLeftInverseUptoRow.holds Try.pinned (OpenSpec.upto gfmatrixLeftInverseSpec)

/-- 'tegulalaw02.GfmatrixValid', WHERE WHAT IT READS IS OF BULK AT MOST 1048576: true; the input reads as it did. -/
def gfmatrixValidUptoRow : OpenClaim := { program := "ytifhjigkljdkmaa", sum := "e9d01c44ce5d43a1db372de780d64f13c48c0213391d4bfcbb03516b3404c801", func := "tegula/tegulalaw02.GfmatrixValid", spec := "gfmatrixValid", unfollowed := true, recurses := true, apart := false, narrowed := true }
def GfmatrixValidUptoSaid : Prop := gfmatrixValidUptoRow.holds Try.pinned (OpenSpec.upto gfmatrixValidSpec)

/-- 'tegulalaw02.GfmatrixRank', WHERE WHAT IT READS IS OF BULK AT MOST 1048576: true; the input reads as it did. -/
def gfmatrixRankUptoRow : OpenClaim := { program := "ytifhjigkljdkmaa", sum := "e9d01c44ce5d43a1db372de780d64f13c48c0213391d4bfcbb03516b3404c801", func := "tegula/tegulalaw02.GfmatrixRank", spec := "gfmatrixRank", unfollowed := true, recurses := true, apart := false, narrowed := true }
def GfmatrixRankUptoSaid : Prop := gfmatrixRankUptoRow.holds Try.pinned (OpenSpec.upto gfmatrixRankSpec)

/-- 'tegulalaw02.GfmatrixSolves', WHERE WHAT IT READS IS OF BULK AT MOST 1048576: true; the input reads as it did. -/
def gfmatrixSolvesUptoRow : OpenClaim := { program := "ytifhjigkljdkmaa", sum := "e9d01c44ce5d43a1db372de780d64f13c48c0213391d4bfcbb03516b3404c801", func := "tegula/tegulalaw02.GfmatrixSolves", spec := "gfmatrixSolves", unfollowed := true, recurses := true, apart := false, narrowed := true }
def GfmatrixSolvesUptoSaid : Prop := gfmatrixSolvesUptoRow.holds Try.pinned (OpenSpec.upto gfmatrixSolvesSpec)

/-- 'tegulalaw02.GfmatrixProducts', WHERE WHAT IT READS IS OF BULK AT MOST 1048576: true; the input reads as it did. -/
def gfmatrixProductsUptoRow : OpenClaim := { program := "ytifhjigkljdkmaa", sum := "e9d01c44ce5d43a1db372de780d64f13c48c0213391d4bfcbb03516b3404c801", func := "tegula/tegulalaw02.GfmatrixProducts", spec := "gfmatrixProducts", unfollowed := true, recurses := true, apart := false, narrowed := true }
def GfmatrixProductsUptoSaid : Prop := gfmatrixProductsUptoRow.holds Try.pinned (OpenSpec.upto gfmatrixProductsSpec)

/-- 'tegulalaw02.GfmatrixSelect', WHERE WHAT IT READS IS OF BULK AT MOST 1048576: true; the input reads as it did. -/
def gfmatrixSelectUptoRow : OpenClaim := { program := "ytifhjigkljdkmaa", sum := "e9d01c44ce5d43a1db372de780d64f13c48c0213391d4bfcbb03516b3404c801", func := "tegula/tegulalaw02.GfmatrixSelect", spec := "gfmatrixSelect", unfollowed := true, recurses := true, apart := false, narrowed := true }
def GfmatrixSelectUptoSaid : Prop := gfmatrixSelectUptoRow.holds Try.pinned (OpenSpec.upto gfmatrixSelectSpec)

/-- 'tegulalaw24.GroupApply', WHERE WHAT IT READS IS OF BULK AT MOST 1048576: true; the input reads as it did. -/
def groupApplyUptoRow : OpenClaim := { program := "ytifhjigkljdkmaa", sum := "e9d01c44ce5d43a1db372de780d64f13c48c0213391d4bfcbb03516b3404c801", func := "tegula/tegulalaw24.GroupApply", spec := "groupApply", unfollowed := true, recurses := true, apart := false, narrowed := true }
def GroupApplyUptoSaid : Prop := groupApplyUptoRow.holds Try.pinned (OpenSpec.upto groupApplySpec)

/-- 'tegulalaw24.GroupConsistent', WHERE WHAT IT READS IS OF BULK AT MOST 1048576: true; the input reads as it did. -/
def groupConsistentUptoRow : OpenClaim := { program := "ytifhjigkljdkmaa", sum := "e9d01c44ce5d43a1db372de780d64f13c48c0213391d4bfcbb03516b3404c801", func := "tegula/tegulalaw24.GroupConsistent", spec := "groupConsistent", unfollowed := true, recurses := true, apart := false, narrowed := true }
def GroupConsistentUptoSaid : Prop := groupConsistentUptoRow.holds Try.pinned (OpenSpec.upto groupConsistentSpec)

/-- 'tegulalaw24.GroupReads', WHERE WHAT IT READS IS OF BULK AT MOST 1048576: true; the input reads as it did. -/
def groupReadsUptoRow : OpenClaim := { program := "ytifhjigkljdkmaa", sum := "e9d01c44ce5d43a1db372de780d64f13c48c0213391d4bfcbb03516b3404c801", func := "tegula/tegulalaw24.GroupReads", spec := "groupReads", unfollowed := true, recurses := true, apart := false, narrowed := true }
def GroupReadsUptoSaid : Prop := groupReadsUptoRow.holds Try.pinned (OpenSpec.upto groupReadsSpec)

/-- 'tegulalaw24.GroupFewest', WHERE WHAT IT READS IS OF BULK AT MOST 1048576: true; the input reads as it did. -/
def groupFewestUptoRow : OpenClaim := { program := "ytifhjigkljdkmaa", sum := "e9d01c44ce5d43a1db372de780d64f13c48c0213391d4bfcbb03516b3404c801", func := "tegula/tegulalaw24.GroupFewest", spec := "groupFewest", unfollowed := true, recurses := true, apart := false, narrowed := true }
def GroupFewestUptoSaid : Prop := groupFewestUptoRow.holds Try.pinned (OpenSpec.upto groupFewestSpec)

/-- 'tegulalaw24.GroupFewer', WHERE WHAT IT READS IS OF BULK AT MOST 1048576: true; the input reads as it did. -/
def groupFewerUptoRow : OpenClaim := { program := "ytifhjigkljdkmaa", sum := "e9d01c44ce5d43a1db372de780d64f13c48c0213391d4bfcbb03516b3404c801", func := "tegula/tegulalaw24.GroupFewer", spec := "groupFewer", unfollowed := true, recurses := true, apart := false, narrowed := true }
def GroupFewerUptoSaid : Prop := groupFewerUptoRow.holds Try.pinned (OpenSpec.upto groupFewerSpec)

/-- 'tegulalaw02.GfmatrixAlgebra', WHERE WHAT IT READS IS OF BULK AT MOST 1048576: true; the input reads as it did. -/
def gfmatrixAlgebraUptoRow : OpenClaim := { program := "ytifhjigkljdkmaa", sum := "e9d01c44ce5d43a1db372de780d64f13c48c0213391d4bfcbb03516b3404c801", func := "tegula/tegulalaw02.GfmatrixAlgebra", spec := "gfmatrixAlgebra", unfollowed := true, recurses := true, apart := false, narrowed := true }
def GfmatrixAlgebraUptoSaid : Prop := gfmatrixAlgebraUptoRow.holds Try.pinned (OpenSpec.upto gfmatrixAlgebraSpec)

/-- 'tegulalaw24.GroupWrites', WHERE WHAT IT READS IS OF BULK AT MOST 1048576: true; the input reads as it did. -/
def groupWritesUptoRow : OpenClaim := { program := "ytifhjigkljdkmaa", sum := "e9d01c44ce5d43a1db372de780d64f13c48c0213391d4bfcbb03516b3404c801", func := "tegula/tegulalaw24.GroupWrites", spec := "groupWrites", unfollowed := true, recurses := true, apart := false, narrowed := true }
def GroupWritesUptoSaid : Prop := groupWritesUptoRow.holds Try.pinned (OpenSpec.upto groupWritesSpec)

/-- 'tegulalaw04.DecodeWeights', WHERE WHAT IT READS IS OF BULK AT MOST 1048576: true; the input reads as it did. -/
def decodeWeightsUptoRow : OpenClaim := { program := "ytifhjigkljdkmaa", sum := "e9d01c44ce5d43a1db372de780d64f13c48c0213391d4bfcbb03516b3404c801", func := "tegula/tegulalaw04.DecodeWeights", spec := "decodeWeights", unfollowed := true, recurses := true, apart := false, narrowed := true }
def DecodeWeightsUptoSaid : Prop := decodeWeightsUptoRow.holds Try.pinned (OpenSpec.upto decodeWeightsSpec)

/-- 'tegulalaw04.DecodeCombines', WHERE WHAT IT READS IS OF BULK AT MOST 1048576: true; the input reads as it did. -/
def decodeCombinesUptoRow : OpenClaim := { program := "ytifhjigkljdkmaa", sum := "e9d01c44ce5d43a1db372de780d64f13c48c0213391d4bfcbb03516b3404c801", func := "tegula/tegulalaw04.DecodeCombines", spec := "decodeCombines", unfollowed := true, recurses := true, apart := false, narrowed := true }
def DecodeCombinesUptoSaid : Prop := decodeCombinesUptoRow.holds Try.pinned (OpenSpec.upto decodeCombinesSpec)

/-- 'tegulalaw04.DecodeAnyHelpers', WHERE WHAT IT READS IS OF BULK AT MOST 1048576: true; the input reads as it did. -/
def decodeAnyHelpersUptoRow : OpenClaim := { program := "ytifhjigkljdkmaa", sum := "e9d01c44ce5d43a1db372de780d64f13c48c0213391d4bfcbb03516b3404c801", func := "tegula/tegulalaw04.DecodeAnyHelpers", spec := "decodeAnyHelpers", unfollowed := true, recurses := true, apart := false, narrowed := true }
def DecodeAnyHelpersUptoSaid : Prop := decodeAnyHelpersUptoRow.holds Try.pinned (OpenSpec.upto decodeAnyHelpersSpec)

/-- 'tegulalaw04.DecodeMatchesReference', WHERE WHAT IT READS IS OF BULK AT MOST 1048576: true; the input reads as it did. -/
def decodeMatchesReferenceUptoRow : OpenClaim := { program := "ytifhjigkljdkmaa", sum := "e9d01c44ce5d43a1db372de780d64f13c48c0213391d4bfcbb03516b3404c801", func := "tegula/tegulalaw04.DecodeMatchesReference", spec := "decodeMatchesReference", unfollowed := true, recurses := true, apart := false, narrowed := true }
def DecodeMatchesReferenceUptoSaid : Prop := decodeMatchesReferenceUptoRow.holds Try.pinned (OpenSpec.upto decodeMatchesReferenceSpec)

/-- 'tegulalaw04.DecodeRestores', WHERE WHAT IT READS IS OF BULK AT MOST 1048576: true; the input reads as it did. -/
def decodeRestoresUptoRow : OpenClaim := { program := "ytifhjigkljdkmaa", sum := "e9d01c44ce5d43a1db372de780d64f13c48c0213391d4bfcbb03516b3404c801", func := "tegula/tegulalaw04.DecodeRestores", spec := "decodeRestores", unfollowed := true, recurses := true, apart := false, narrowed := true }
def DecodeRestoresUptoSaid : Prop := decodeRestoresUptoRow.holds Try.pinned (OpenSpec.upto decodeRestoresSpec)

/-- 'tegulalaw04.DecodeSyndromes', WHERE WHAT IT READS IS OF BULK AT MOST 1048576: true; the input reads as it did. -/
def decodeSyndromesUptoRow : OpenClaim := { program := "ytifhjigkljdkmaa", sum := "e9d01c44ce5d43a1db372de780d64f13c48c0213391d4bfcbb03516b3404c801", func := "tegula/tegulalaw04.DecodeSyndromes", spec := "decodeSyndromes", unfollowed := true, recurses := true, apart := false, narrowed := true }
def DecodeSyndromesUptoSaid : Prop := decodeSyndromesUptoRow.holds Try.pinned (OpenSpec.upto decodeSyndromesSpec)

/-- 'tegulalaw04.DecodeLocates', WHERE WHAT IT READS IS OF BULK AT MOST 1048576: true; the input reads as it did. -/
def decodeLocatesUptoRow : OpenClaim := { program := "ytifhjigkljdkmaa", sum := "e9d01c44ce5d43a1db372de780d64f13c48c0213391d4bfcbb03516b3404c801", func := "tegula/tegulalaw04.DecodeLocates", spec := "decodeLocates", unfollowed := true, recurses := true, apart := false, narrowed := true }
def DecodeLocatesUptoSaid : Prop := decodeLocatesUptoRow.holds Try.pinned (OpenSpec.upto decodeLocatesSpec)

/-- 'tegulalaw04.DecodeCorrects', WHERE WHAT IT READS IS OF BULK AT MOST 1048576: true; the input reads as it did. -/
def decodeCorrectsUptoRow : OpenClaim := { program := "ytifhjigkljdkmaa", sum := "e9d01c44ce5d43a1db372de780d64f13c48c0213391d4bfcbb03516b3404c801", func := "tegula/tegulalaw04.DecodeCorrects", spec := "decodeCorrects", unfollowed := true, recurses := true, apart := false, narrowed := true }
def DecodeCorrectsUptoSaid : Prop := decodeCorrectsUptoRow.holds Try.pinned (OpenSpec.upto decodeCorrectsSpec)

/-- 'tegulalaw24.GroupCompute', WHERE WHAT IT READS IS OF BULK AT MOST 1048576: true; the input reads as it did. -/
def groupComputeUptoRow : OpenClaim := { program := "ytifhjigkljdkmaa", sum := "e9d01c44ce5d43a1db372de780d64f13c48c0213391d4bfcbb03516b3404c801", func := "tegula/tegulalaw24.GroupCompute", spec := "groupCompute", unfollowed := true, recurses := true, apart := false, narrowed := true }
def GroupComputeUptoSaid : Prop := groupComputeUptoRow.holds Try.pinned (OpenSpec.upto groupComputeSpec)

/-- 'tegulalaw24.GroupPartial', WHERE WHAT IT READS IS OF BULK AT MOST 1048576: true; the input reads as it did. -/
def groupPartialUptoRow : OpenClaim := { program := "ytifhjigkljdkmaa", sum := "e9d01c44ce5d43a1db372de780d64f13c48c0213391d4bfcbb03516b3404c801", func := "tegula/tegulalaw24.GroupPartial", spec := "groupPartial", unfollowed := true, recurses := true, apart := false, narrowed := true }
def GroupPartialUptoSaid : Prop := groupPartialUptoRow.holds Try.pinned (OpenSpec.upto groupPartialSpec)

end Rows
end Go.Proofs.Ytifhjigkljdkmaa
