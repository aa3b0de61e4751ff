/-
  NARROWER THAN 'FOR EVERY INPUT', by the rows' own cells (each row's printed sentence says how): FiniteKeeps: laid · FiniteSound: laid.
  DERIVED. THE GIVEN ROWS OF THIS SEAT. 2 by the template 'for every input the law returns true; each argument reads behind the call as it read before'; 0 by the template 'total and deterministic' (their statements: YtehekppkicjimaaDoorTotals.lean).
  GIVEN WITH THE SEED: the statements are not yours to turn. If you find one false, say at which input.
  Laid BY PROGRAM, IN A SANDBOX (cutbox-rows.mjs): the forced cells as the released guide's own fill.sh prints them over the translation a07abefab5a35c71… (all of the seat's roots in one cut). By AI agents, Wed Nov 11 2026. No macro, syntax, notation, axiom, sorry.
-/
import Derived.Test.YtehekppkicjimaaDoorChecked
import GoSem.Claim
import GoSem.ClaimJoined
import GoSem.ClaimMapViews
import Derived.JoinedTies
import Derived.KernelRfl
namespace Go.Proofs.YtehekppkicjimaaDoor
/- THE CELL 'sum', in the pinned program and in every row, IS THE sha256 OF THE DUMP (.gsa) THAT YtehekppkicjimaaDoorProg.lean LOADS. Nothing in Lean hashes anything: it is a label: what it is worth is what the hold of that sum in a sandbox is worth. -/
noncomputable def Tryd.pinned : Pinned := { name := "ytehekppkicjimaadoor", sum := "a07abefab5a35c713e088d518424d42c9005bf5a0d21a5d4ab9e49d5ce308562", checked := Tryd.checked }
namespace Rows
def none {H : Type} : Left H := { results := [], args := [] }

/- WHAT THE LISTED PACKAGE-LEVEL VARIABLES READ AS WHEN THE CALL BEGINS. Each datum BY PROGRAM (the guide's laid-datum.mjs) off the statement by which the dump's own 'gosem.cut.vars' lays the variable. In a bare row this is a premise. The card (YtehekppkicjimaaDoorCards.lean) ties it to the program's text. -/
def laid_errors_errorType {H : Type} : DataW H := .iface "internal/reflectlite.rtype" (.agg [.ptr (.lit (.string [101, 114, 114, 111, 114]))])
def laid_optima_api_ErrText {H : Type} : DataW H := .iface "*errors.errorString" (.ptr (.agg [.lit (.string [111, 112, 116, 105, 109, 97, 58, 32, 116, 101, 120, 116])]))
def laid_optima_api_ErrBound {H : Type} : DataW H := .iface "*errors.errorString" (.ptr (.agg [.lit (.string [111, 112, 116, 105, 109, 97, 58, 32, 98, 111, 117, 110, 100])]))
def laid_optima_api_ErrZero {H : Type} : DataW H := .iface "*errors.errorString" (.ptr (.agg [.lit (.string [111, 112, 116, 105, 109, 97, 58, 32, 122, 101, 114, 111])]))
def laid_optima_api_ErrShape {H : Type} : DataW H := .iface "*errors.errorString" (.ptr (.agg [.lit (.string [111, 112, 116, 105, 109, 97, 58, 32, 115, 104, 97, 112, 101])]))
def laid_optima_api_ErrSingular {H : Type} : DataW H := .iface "*errors.errorString" (.ptr (.agg [.lit (.string [111, 112, 116, 105, 109, 97, 58, 32, 115, 105, 110, 103, 117, 108, 97, 114])]))
def laid_optima_api_ErrSense {H : Type} : DataW H := .iface "*errors.errorString" (.ptr (.agg [.lit (.string [111, 112, 116, 105, 109, 97, 58, 32, 115, 101, 110, 115, 101])]))
def laid_optima_api_ErrName {H : Type} : DataW H := .iface "*errors.errorString" (.ptr (.agg [.lit (.string [111, 112, 116, 105, 109, 97, 58, 32, 110, 97, 109, 101])]))
def laid_optima_api_ErrNumber {H : Type} : DataW H := .iface "*errors.errorString" (.ptr (.agg [.lit (.string [111, 112, 116, 105, 109, 97, 58, 32, 110, 117, 109, 98, 101, 114])]))
def laid_optima_api_ErrBasis {H : Type} : DataW H := .iface "*errors.errorString" (.ptr (.agg [.lit (.string [111, 112, 116, 105, 109, 97, 58, 32, 98, 97, 115, 105, 115])]))
def laid_optima_api_ErrOpen {H : Type} : DataW H := .iface "*errors.errorString" (.ptr (.agg [.lit (.string [111, 112, 116, 105, 109, 97, 58, 32, 111, 112, 101, 110])]))

/-- 'optimalaw3.FiniteKeeps': WHATEVER THE INPUT: true; the input reads as it did. -/
def finiteKeepsSpec : ChangeSpec := { name := "finiteKeeps", fn := fun _ => fun
  | [d1, d2] => { results := [.lit (.bool true)], args := [d1, d2] }
  | _ => none }
def finiteKeepsRow : OpenClaim := { program := "ytehekppkicjimaadoor", sum := "a07abefab5a35c713e088d518424d42c9005bf5a0d21a5d4ab9e49d5ce308562", func := "optima/optimalaw3.FiniteKeeps", spec := "finiteKeeps", inPlace := ["internal/reflectlite.TypeOf", "internal/reflectlite.ValueOf", "(internal/reflectlite.Value).Type", "(internal/reflectlite.Value).IsNil", "(internal/reflectlite.Value).Elem", "(internal/reflectlite.Value).Set"], unfollowed := true, recurses := true, named := ["optima/api.ErrShape", "optima/api.ErrBound", "optima/api.ErrText", "optima/api.ErrZero", "optima/api.ErrSingular", "optima/api.ErrSense", "optima/api.ErrName", "optima/api.ErrNumber", "optima/api.ErrBasis", "optima/api.ErrOpen", "errors.errorType"], apart := false, laid := [("errors.errorType", laid_errors_errorType), ("optima/api.ErrText", laid_optima_api_ErrText), ("optima/api.ErrBound", laid_optima_api_ErrBound), ("optima/api.ErrZero", laid_optima_api_ErrZero), ("optima/api.ErrShape", laid_optima_api_ErrShape), ("optima/api.ErrSingular", laid_optima_api_ErrSingular), ("optima/api.ErrSense", laid_optima_api_ErrSense), ("optima/api.ErrName", laid_optima_api_ErrName), ("optima/api.ErrNumber", laid_optima_api_ErrNumber), ("optima/api.ErrBasis", laid_optima_api_ErrBasis), ("optima/api.ErrOpen", laid_optima_api_ErrOpen)] }
def FiniteKeepsSaid : Prop := finiteKeepsRow.holds Tryd.pinned (OpenSpec.ofChange finiteKeepsSpec)

/-- ITS FALSE NEIGHBOUR: 'it returns false'. Refute it at one input. -/
def finiteKeepsWrong : ChangeSpec := { name := "finiteKeeps", fn := fun _ => fun
  | [d1, d2] => { results := [.lit (.bool false)], args := [d1, d2] }
  | _ => none }
def FiniteKeepsWrongFalsely : Prop := finiteKeepsRow.holds Tryd.pinned (OpenSpec.ofChange finiteKeepsWrong)

/-- 'optimalaw3.FiniteSound': WHATEVER THE INPUT: true; the input reads as it did. -/
def finiteSoundSpec : ChangeSpec := { name := "finiteSound", fn := fun _ => fun
  | [d1, d2] => { results := [.lit (.bool true)], args := [d1, d2] }
  | _ => none }
def finiteSoundRow : OpenClaim := { program := "ytehekppkicjimaadoor", sum := "a07abefab5a35c713e088d518424d42c9005bf5a0d21a5d4ab9e49d5ce308562", func := "optima/optimalaw3.FiniteSound", spec := "finiteSound", unfollowed := true, recurses := true, named := ["optima/api.ErrBound", "optima/api.ErrShape"], apart := false, laid := [("optima/api.ErrBound", laid_optima_api_ErrBound), ("optima/api.ErrShape", laid_optima_api_ErrShape)] }
def FiniteSoundSaid : Prop := finiteSoundRow.holds Tryd.pinned (OpenSpec.ofChange finiteSoundSpec)

/-- ITS FALSE NEIGHBOUR: 'it returns false'. Refute it at one input. -/
def finiteSoundWrong : ChangeSpec := { name := "finiteSound", fn := fun _ => fun
  | [d1, d2] => { results := [.lit (.bool false)], args := [d1, d2] }
  | _ => none }
def FiniteSoundWrongFalsely : Prop := finiteSoundRow.holds Tryd.pinned (OpenSpec.ofChange finiteSoundWrong)

/- THE SECOND FORM. 'bulk': how many values and letters a reading holds, each counted each time it is reached (what is shared counts as often as it is met; a slice's spare places count too). A statement '..UptoSaid' is the law's where the arguments, and the package variables that the reading takes, are together of bulk at most 1048576: NARROWER than '..Said'. Prove '..Said' where nothing that the law and all that it calls make is longer than what came in: it says more and counts as full. Else prove '..UptoSaid'. A law counts once. -/
mutual
def uptoBulk {H : Type} : DataW H → Nat
  | .lit (.string bytes) => bytes.length + 1
  | .lit _ => 1
  | .nil => 1
  | .ptr d => uptoBulk d + 1
  | .slice elems spare => uptoBulkAll elems + uptoBulkAll spare + 1
  | .agg parts => uptoBulkAll parts + 1
  | .iface _ d => uptoBulk d + 1
  | .map entries => uptoBulkEntries entries + 1
  | .held _ => 1
def uptoBulkAll {H : Type} : List (DataW H) → Nat
  | [] => 0
  | d :: r => uptoBulk d + uptoBulkAll r
def uptoBulkEntries {H : Type} : List (Lit × DataW H) → Nat
  | [] => 0
  | x :: r => uptoBulkEntry x + uptoBulkEntries r
def uptoBulkEntry {H : Type} : Lit × DataW H → Nat
  | (.string bytes, d) => bytes.length + uptoBulk d + 1
  | (_, d) => uptoBulk d + 1
 end
def uptoSmall : (H : Type) → List (DataW H) → Bool := fun _ ds => decide (uptoBulkAll ds ≤ 1048576)
def OpenSpec.upto (s : _root_.Go.ChangeSpec) : _root_.Go.OpenSpec := { _root_.Go.OpenSpec.ofChange s with cond := some uptoSmall }

/-- 'optimalaw3.FiniteKeeps', WHERE WHAT IT READS IS OF BULK AT MOST 1048576: true; the input reads as it did. -/
def finiteKeepsUptoRow : OpenClaim := { program := "ytehekppkicjimaadoor", sum := "a07abefab5a35c713e088d518424d42c9005bf5a0d21a5d4ab9e49d5ce308562", func := "optima/optimalaw3.FiniteKeeps", spec := "finiteKeeps", inPlace := ["internal/reflectlite.TypeOf", "internal/reflectlite.ValueOf", "(internal/reflectlite.Value).Type", "(internal/reflectlite.Value).IsNil", "(internal/reflectlite.Value).Elem", "(internal/reflectlite.Value).Set"], unfollowed := true, recurses := true, named := ["optima/api.ErrShape", "optima/api.ErrBound", "optima/api.ErrText", "optima/api.ErrZero", "optima/api.ErrSingular", "optima/api.ErrSense", "optima/api.ErrName", "optima/api.ErrNumber", "optima/api.ErrBasis", "optima/api.ErrOpen", "errors.errorType"], apart := false, laid := [("errors.errorType", laid_errors_errorType), ("optima/api.ErrText", laid_optima_api_ErrText), ("optima/api.ErrBound", laid_optima_api_ErrBound), ("optima/api.ErrZero", laid_optima_api_ErrZero), ("optima/api.ErrShape", laid_optima_api_ErrShape), ("optima/api.ErrSingular", laid_optima_api_ErrSingular), ("optima/api.ErrSense", laid_optima_api_ErrSense), ("optima/api.ErrName", laid_optima_api_ErrName), ("optima/api.ErrNumber", laid_optima_api_ErrNumber), ("optima/api.ErrBasis", laid_optima_api_ErrBasis), ("optima/api.ErrOpen", laid_optima_api_ErrOpen)], narrowed := true }
def FiniteKeepsUptoSaid : Prop := finiteKeepsUptoRow.holds Tryd.pinned (OpenSpec.upto finiteKeepsSpec)

/-- 'optimalaw3.FiniteSound', WHERE WHAT IT READS IS OF BULK AT MOST 1048576: true; the input reads as it did. -/
def finiteSoundUptoRow : OpenClaim := { program := "ytehekppkicjimaadoor", sum := "a07abefab5a35c713e088d518424d42c9005bf5a0d21a5d4ab9e49d5ce308562", func := "optima/optimalaw3.FiniteSound", spec := "finiteSound", unfollowed := true, recurses := true, named := ["optima/api.ErrBound", "optima/api.ErrShape"], apart := false, laid := [("optima/api.ErrBound", laid_optima_api_ErrBound), ("optima/api.ErrShape", laid_optima_api_ErrShape)], narrowed := true }
def FiniteSoundUptoSaid : Prop := finiteSoundUptoRow.holds Tryd.pinned (OpenSpec.upto finiteSoundSpec)

end Rows
end Go.Proofs.YtehekppkicjimaaDoor
