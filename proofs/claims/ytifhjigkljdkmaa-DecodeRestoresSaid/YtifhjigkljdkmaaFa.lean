/- Closed facts of the program that every row asks for: the list of the roots as signs, and what is read off it. -/
import Derived.Test.YtifhjigkljdkmaaRw
import Derived.Test.YtifhjigkljdkmaaRows
namespace Go.Proofs.Ytifhjigkljdkmaa
open Go.RowKit Go.WideShapes Go.ChangeShapes
set_option linter.unusedSimpArgs false
set_option linter.unusedVariables false
set_option maxRecDepth 100000
/-- The signs of the cut's order. -/
def signs : List Char := [104, 97, 114, 110, 101, 115, 115, 32, 50, 48, 52, 50, 48, 52, 50, 57, 102, 48, 97, 57, 102, 48, 97, 99, 55, 49, 102, 97, 53, 53, 55, 52, 50, 53, 101, 102, 50, 100, 52, 50, 97, 48, 50, 56, 55, 102, 100, 55, 99, 54, 101, 55, 55, 52, 53, 100, 53, 98, 57, 102,
  98, 98, 52, 101, 102, 53, 100, 53, 101, 56, 57, 98, 32, 99, 117, 116, 32, 97, 116, 32, 116, 101, 103, 117, 108, 97, 47, 116, 101, 103, 117, 108, 97, 108, 97, 119, 48, 50, 46, 71, 102, 109, 97, 116, 114, 105, 120, 73, 110, 118, 101, 114, 115, 101, 32, 116, 101, 103, 117, 108,
  97, 47, 116, 101, 103, 117, 108, 97, 108, 97, 119, 48, 50, 46, 71, 102, 109, 97, 116, 114, 105, 120, 76, 101, 102, 116, 73, 110, 118, 101, 114, 115, 101, 32, 116, 101, 103, 117, 108, 97, 47, 116, 101, 103, 117, 108, 97, 108, 97, 119, 48, 50, 46, 71, 102, 109, 97, 116, 114, 105,
  120, 86, 97, 108, 105, 100, 32, 116, 101, 103, 117, 108, 97, 47, 116, 101, 103, 117, 108, 97, 108, 97, 119, 48, 50, 46, 71, 102, 109, 97, 116, 114, 105, 120, 82, 97, 110, 107, 32, 116, 101, 103, 117, 108, 97, 47, 116, 101, 103, 117, 108, 97, 108, 97, 119, 48, 50, 46, 71, 102,
  109, 97, 116, 114, 105, 120, 83, 111, 108, 118, 101, 115, 32, 116, 101, 103, 117, 108, 97, 47, 116, 101, 103, 117, 108, 97, 108, 97, 119, 48, 50, 46, 71, 102, 109, 97, 116, 114, 105, 120, 80, 114, 111, 100, 117, 99, 116, 115, 32, 116, 101, 103, 117, 108, 97, 47, 116, 101, 103, 117,
  108, 97, 108, 97, 119, 48, 50, 46, 71, 102, 109, 97, 116, 114, 105, 120, 83, 101, 108, 101, 99, 116, 32, 116, 101, 103, 117, 108, 97, 47, 116, 101, 103, 117, 108, 97, 108, 97, 119, 50, 52, 46, 71, 114, 111, 117, 112, 65, 112, 112, 108, 121, 32, 116, 101, 103, 117, 108, 97, 47,
  116, 101, 103, 117, 108, 97, 108, 97, 119, 50, 52, 46, 71, 114, 111, 117, 112, 67, 111, 110, 115, 105, 115, 116, 101, 110, 116, 32, 116, 101, 103, 117, 108, 97, 47, 116, 101, 103, 117, 108, 97, 108, 97, 119, 50, 52, 46, 71, 114, 111, 117, 112, 82, 101, 97, 100, 115, 32, 116, 101,
  103, 117, 108, 97, 47, 116, 101, 103, 117, 108, 97, 108, 97, 119, 50, 52, 46, 71, 114, 111, 117, 112, 70, 101, 119, 101, 115, 116, 32, 116, 101, 103, 117, 108, 97, 47, 116, 101, 103, 117, 108, 97, 108, 97, 119, 50, 52, 46, 71, 114, 111, 117, 112, 70, 101, 119, 101, 114, 32, 116,
  101, 103, 117, 108, 97, 47, 116, 101, 103, 117, 108, 97, 108, 97, 119, 48, 50, 46, 71, 102, 109, 97, 116, 114, 105, 120, 65, 108, 103, 101, 98, 114, 97, 32, 116, 101, 103, 117, 108, 97, 47, 116, 101, 103, 117, 108, 97, 108, 97, 119, 50, 52, 46, 71, 114, 111, 117, 112, 87, 114,
  105, 116, 101, 115, 32, 116, 101, 103, 117, 108, 97, 47, 116, 101, 103, 117, 108, 97, 108, 97, 119, 48, 52, 46, 68, 101, 99, 111, 100, 101, 87, 101, 105, 103, 104, 116, 115, 32, 116, 101, 103, 117, 108, 97, 47, 116, 101, 103, 117, 108, 97, 108, 97, 119, 48, 52, 46, 68, 101, 99,
  111, 100, 101, 67, 111, 109, 98, 105, 110, 101, 115, 32, 116, 101, 103, 117, 108, 97, 47, 116, 101, 103, 117, 108, 97, 108, 97, 119, 48, 52, 46, 68, 101, 99, 111, 100, 101, 65, 110, 121, 72, 101, 108, 112, 101, 114, 115, 32, 116, 101, 103, 117, 108, 97, 47, 116, 101, 103, 117, 108,
  97, 108, 97, 119, 48, 52, 46, 68, 101, 99, 111, 100, 101, 77, 97, 116, 99, 104, 101, 115, 82, 101, 102, 101, 114, 101, 110, 99, 101, 32, 116, 101, 103, 117, 108, 97, 47, 116, 101, 103, 117, 108, 97, 108, 97, 119, 48, 52, 46, 68, 101, 99, 111, 100, 101, 82, 101, 115, 116, 111,
  114, 101, 115, 32, 116, 101, 103, 117, 108, 97, 47, 116, 101, 103, 117, 108, 97, 108, 97, 119, 48, 52, 46, 68, 101, 99, 111, 100, 101, 83, 121, 110, 100, 114, 111, 109, 101, 115, 32, 116, 101, 103, 117, 108, 97, 47, 116, 101, 103, 117, 108, 97, 108, 97, 119, 48, 52, 46, 68, 101,
  99, 111, 100, 101, 76, 111, 99, 97, 116, 101, 115, 32, 116, 101, 103, 117, 108, 97, 47, 116, 101, 103, 117, 108, 97, 108, 97, 119, 48, 52, 46, 68, 101, 99, 111, 100, 101, 67, 111, 114, 114, 101, 99, 116, 115, 32, 116, 101, 103, 117, 108, 97, 47, 116, 101, 103, 117, 108, 97, 108,
  97, 119, 50, 52, 46, 71, 114, 111, 117, 112, 67, 111, 109, 112, 117, 116, 101, 32, 116, 101, 103, 117, 108, 97, 47, 116, 101, 103, 117, 108, 97, 108, 97, 119, 50, 52, 46, 71, 114, 111, 117, 112, 80, 97, 114, 116, 105, 97, 108].map Char.ofNat
theorem signs_eq : Try.prog.initOrder = String.ofList signs := by kernel_rfl
theorem signs_list : Try.prog.initOrder.toList = signs := (congrArg String.toList signs_eq).trans String.toList_ofList
theorem g1 : (behindMainWord (wordsSigns signs)).head? = some ([99, 117, 116].map Char.ofNat) := by kernel_rfl
theorem g1b : ((some ([99, 117, 116].map Char.ofNat) : Option (List Char)) == some "carried".toList) = false := by
  rw [show "carried".toList = [99, 97, 114, 114, 105, 101, 100].map Char.ofNat from (congrArg String.toList (show "carried" = String.ofList ([99, 97, 114, 114, 105, 101, 100].map Char.ofNat) by kernel_rfl)).trans String.toList_ofList]
  decide +kernel
theorem g2 : ((stripLifts liftWords (behindMainWord (wordsSigns signs))).2.head? == some "cut".toList) = true := by kernel_rfl
theorem g3 : ((stripLifts liftWords (behindMainWord (wordsSigns signs))).1.contains "finals") = false := by kernel_rfl
theorem f_lifts : Try.prog.liftsFinal = false := by
  have h : Try.prog.headLifts.contains "finals" = false := by
    unfold Program.headLifts
    rw [signs_list]
    show (if _ then _ else _ : List String).contains _ = false
    rw [if_pos g2, g3]
  unfold Program.liftsFinal
  rw [signs_list]
  show ((_ && _) || _) = false
  rw [g1, g1b, h]
  rfl

theorem e1 : Try.prog.laysLater = false := by kernel_rfl
theorem e2 : Try.prog.bearsReflect = false := by kernel_rfl
theorem e3 : Try.prog.doorRows = [] := by kernel_rfl
theorem g4 : (stripLifts liftWords (behindMainWord (wordsSigns signs))).1 = [] := by kernel_rfl
theorem enter_of {P : Program} {l : List (List Char)} (hl : behindMainWord (wordsSigns P.initOrder.toList) = l) (h1 : ((stripLifts liftWords l).2.head? == some "cut".toList) = true) (h2 : (stripLifts liftWords l).1 = []) (h3 : P.laysLater = false) (h4 : P.bearsReflect = false) (h5 : P.doorRows = []) : P.mayEnter = true := by
  have hd : P.doorFits [] = true := by
    unfold Program.doorFits
    rw [h5]
    rfl
  unfold Program.mayEnter
  rw [hl]
  cases l with
  | nil => exact absurd h1 (by decide +kernel)
  | cons c rest =>
    show ((_ || _) || (((((stripLifts liftWords (c :: rest)).2.head? == some "cut".toList) && _) && _) && _) && _) = true
    rw [h1, h2, h3, h4, hd]
    simp
theorem f_enter : Try.prog.mayEnter = true := enter_of (by rw [signs_list]) g2 g4 e1 e2 e3
theorem g5 : (([99, 117, 116].map Char.ofNat == "gc".toList) || ([99, 117, 116].map Char.ofNat == "spec".toList)) = false := by kernel_rfl
theorem g6 : ([99, 117, 116].map Char.ofNat == "cut".toList) = true := by kernel_rfl
theorem make_of {P : Program} {l : List (List Char)} (hl : behindMainWord (wordsSigns P.initOrder.toList) = l) (h1 : l.head? = some ([99, 117, 116].map Char.ofNat)) : P.make = some .cut := by
  cases l with
  | nil => cases h1
  | cons c rest =>
    have hc : c = [99, 117, 116].map Char.ofNat := Option.some.inj h1
    unfold Program.make
    rw [hl]
    subst hc
    show (if (_ || _) = true then _ else if (_ || _) = true then _ else _) = _
    rw [g5, g6]
    rfl
theorem f_make : Try.prog.make = some .cut := make_of (by rw [signs_list]) g1
end Go.Proofs.Ytifhjigkljdkmaa
