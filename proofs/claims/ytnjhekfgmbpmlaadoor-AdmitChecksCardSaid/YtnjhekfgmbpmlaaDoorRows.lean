/-
  NARROWER THAN 'FOR EVERY INPUT', by the rows' own cells (each row's printed sentence says how): AdmitChecks: laid · AdmitHolds: laid · AdmitOrder: laid · AdmitOne: laid.
  DERIVED. THE GIVEN ROWS OF THIS SEAT. 4 by the template 'for every input the law returns true; each argument reads behind the call as it read before'; 0 by the template 'total and deterministic' (their statements: YtnjhekfgmbpmlaaDoorTotals.lean).
  GIVEN WITH THE SEED: the statements are not yours to turn. If you find one false, say at which input.
  Laid BY PROGRAM, IN A SANDBOX (cutbox-rows.mjs): the forced cells as the released guide's own fill.sh prints them over the translation d34f0193799500e6… (all of the seat's roots in one cut). By AI agents, Wed Nov 11 2026. No macro, syntax, notation, axiom, sorry.
-/
import Derived.Test.YtnjhekfgmbpmlaaDoorChecked
import GoSem.Claim
import GoSem.ClaimJoined
import GoSem.ClaimMapViews
import Derived.JoinedTies
import Derived.KernelRfl
namespace Go.Proofs.YtnjhekfgmbpmlaaDoor
/- THE CELL 'sum', in the pinned program and in every row, IS THE sha256 OF THE DUMP (.gsa) THAT YtnjhekfgmbpmlaaDoorProg.lean LOADS. Nothing in Lean hashes anything: it is a label: what it is worth is what the hold of that sum in a sandbox is worth. -/
noncomputable def Tryd.pinned : Pinned := { name := "ytnjhekfgmbpmlaadoor", sum := "d34f0193799500e6a20f6f3dadacdf3004960edce545d272842d0856d56f781d", checked := Tryd.checked }
namespace Rows
def none {H : Type} : Left H := { results := [], args := [] }

/- WHAT THE LISTED PACKAGE-LEVEL VARIABLES READ AS WHEN THE CALL BEGINS. Each datum BY PROGRAM (the guide's laid-datum.mjs) off the statement by which the dump's own 'gosem.cut.vars' lays the variable. In a bare row this is a premise. The card (YtnjhekfgmbpmlaaDoorCards.lean) ties it to the program's text. -/
def laid_bulkhead_admit_nowhere {H : Type} : DataW H := .agg [.lit (.int .i64 (-1)), .lit (.int .i64 (-1))]
def laid_bulkhead_admit_fine {H : Type} : DataW H := .agg [.lit (.int .i64 0), .agg [.lit (.int .i64 0), .lit (.int .i64 0)]]

/-- 'bulkheadlaw16.AdmitChecks': WHATEVER THE INPUT: true; the input reads as it did. -/
def admitChecksSpec : ChangeSpec := { name := "admitChecks", fn := fun _ => fun
  | [d1, d2] => { results := [.lit (.bool true)], args := [d1, d2] }
  | _ => none }
def admitChecksRow : OpenClaim := { program := "ytnjhekfgmbpmlaadoor", sum := "d34f0193799500e6a20f6f3dadacdf3004960edce545d272842d0856d56f781d", func := "bulkhead/bulkheadlaw16.AdmitChecks", spec := "admitChecks", unfollowed := true, recurses := true, named := ["bulkhead/admit.fine", "bulkhead/admit.nowhere"], apart := false, laid := [("bulkhead/admit.nowhere", laid_bulkhead_admit_nowhere), ("bulkhead/admit.fine", laid_bulkhead_admit_fine)] }
def AdmitChecksSaid : Prop := admitChecksRow.holds Tryd.pinned (OpenSpec.ofChange admitChecksSpec)

/-- ITS FALSE NEIGHBOUR: 'it returns false'. Refute it at one input. -/
def admitChecksWrong : ChangeSpec := { name := "admitChecks", fn := fun _ => fun
  | [d1, d2] => { results := [.lit (.bool false)], args := [d1, d2] }
  | _ => none }
def AdmitChecksWrongFalsely : Prop := admitChecksRow.holds Tryd.pinned (OpenSpec.ofChange admitChecksWrong)

/-- 'bulkheadlaw16.AdmitHolds': WHATEVER THE INPUT: true; the input reads as it did. -/
def admitHoldsSpec : ChangeSpec := { name := "admitHolds", fn := fun _ => fun
  | [d] => { results := [.lit (.bool true)], args := [d] }
  | _ => none }
def admitHoldsRow : OpenClaim := { program := "ytnjhekfgmbpmlaadoor", sum := "d34f0193799500e6a20f6f3dadacdf3004960edce545d272842d0856d56f781d", func := "bulkhead/bulkheadlaw16.AdmitHolds", spec := "admitHolds", unfollowed := true, recurses := true, named := ["bulkhead/admit.fine", "bulkhead/admit.nowhere"], apart := false, laid := [("bulkhead/admit.nowhere", laid_bulkhead_admit_nowhere), ("bulkhead/admit.fine", laid_bulkhead_admit_fine)] }
def AdmitHoldsSaid : Prop := admitHoldsRow.holds Tryd.pinned (OpenSpec.ofChange admitHoldsSpec)

/-- ITS FALSE NEIGHBOUR: 'it returns false'. Refute it at one input. -/
def admitHoldsWrong : ChangeSpec := { name := "admitHolds", fn := fun _ => fun
  | [d] => { results := [.lit (.bool false)], args := [d] }
  | _ => none }
def AdmitHoldsWrongFalsely : Prop := admitHoldsRow.holds Tryd.pinned (OpenSpec.ofChange admitHoldsWrong)

/-- 'bulkheadlaw16.AdmitOrder': WHATEVER THE INPUT: true; the input reads as it did. -/
def admitOrderSpec : ChangeSpec := { name := "admitOrder", fn := fun _ => fun
  | [d1, d2, d3] => { results := [.lit (.bool true)], args := [d1, d2, d3] }
  | _ => none }
def admitOrderRow : OpenClaim := { program := "ytnjhekfgmbpmlaadoor", sum := "d34f0193799500e6a20f6f3dadacdf3004960edce545d272842d0856d56f781d", func := "bulkhead/bulkheadlaw16.AdmitOrder", spec := "admitOrder", unfollowed := true, recurses := true, named := ["bulkhead/admit.fine", "bulkhead/admit.nowhere"], apart := false, laid := [("bulkhead/admit.nowhere", laid_bulkhead_admit_nowhere), ("bulkhead/admit.fine", laid_bulkhead_admit_fine)] }
def AdmitOrderSaid : Prop := admitOrderRow.holds Tryd.pinned (OpenSpec.ofChange admitOrderSpec)

/-- ITS FALSE NEIGHBOUR: 'it returns false'. Refute it at one input. -/
def admitOrderWrong : ChangeSpec := { name := "admitOrder", fn := fun _ => fun
  | [d1, d2, d3] => { results := [.lit (.bool false)], args := [d1, d2, d3] }
  | _ => none }
def AdmitOrderWrongFalsely : Prop := admitOrderRow.holds Tryd.pinned (OpenSpec.ofChange admitOrderWrong)

/-- 'bulkheadlaw16.AdmitOne': WHATEVER THE INPUT: true; the input reads as it did. -/
def admitOneSpec : ChangeSpec := { name := "admitOne", fn := fun _ => fun
  | [d] => { results := [.lit (.bool true)], args := [d] }
  | _ => none }
def admitOneRow : OpenClaim := { program := "ytnjhekfgmbpmlaadoor", sum := "d34f0193799500e6a20f6f3dadacdf3004960edce545d272842d0856d56f781d", func := "bulkhead/bulkheadlaw16.AdmitOne", spec := "admitOne", unfollowed := true, recurses := true, named := ["bulkhead/admit.fine", "bulkhead/admit.nowhere"], apart := false, laid := [("bulkhead/admit.nowhere", laid_bulkhead_admit_nowhere), ("bulkhead/admit.fine", laid_bulkhead_admit_fine)] }
def AdmitOneSaid : Prop := admitOneRow.holds Tryd.pinned (OpenSpec.ofChange admitOneSpec)

/-- ITS FALSE NEIGHBOUR: 'it returns false'. Refute it at one input. -/
def admitOneWrong : ChangeSpec := { name := "admitOne", fn := fun _ => fun
  | [d] => { results := [.lit (.bool false)], args := [d] }
  | _ => none }
def AdmitOneWrongFalsely : Prop := admitOneRow.holds Tryd.pinned (OpenSpec.ofChange admitOneWrong)

/- THE SECOND FORM. 'bulk': how many values and letters a reading holds, each counted each time it is reached (what is shared counts as often as it is met; a slice's spare places count too). A statement '..UptoSaid' is the law's where the arguments, and the package variables that the reading takes, are together of bulk at most 1048576: NARROWER than '..Said'. Prove '..Said' where nothing that the law and all that it calls make is longer than what came in: it says more and counts as full. Else prove '..UptoSaid'. A law counts once. -/
mutual
def uptoBulk {H : Type} : DataW H → Nat
  | .lit (.string bytes) => bytes.length + 1
  | .lit _ => 1
  | .nil => 1
  | .ptr d => uptoBulk d + 1
  | .slice elems spare => uptoBulkAll elems + uptoBulkAll spare + 1
  | .agg parts => uptoBulkAll parts + 1
  | .iface _ d => uptoBulk d + 1
  | .map entries => uptoBulkEntries entries + 1
  | .held _ => 1
def uptoBulkAll {H : Type} : List (DataW H) → Nat
  | [] => 0
  | d :: r => uptoBulk d + uptoBulkAll r
def uptoBulkEntries {H : Type} : List (Lit × DataW H) → Nat
  | [] => 0
  | x :: r => uptoBulkEntry x + uptoBulkEntries r
def uptoBulkEntry {H : Type} : Lit × DataW H → Nat
  | (.string bytes, d) => bytes.length + uptoBulk d + 1
  | (_, d) => uptoBulk d + 1
 end
def uptoSmall : (H : Type) → List (DataW H) → Bool := fun _ ds => decide (uptoBulkAll ds ≤ 1048576)
def OpenSpec.upto (s : _root_.Go.ChangeSpec) : _root_.Go.OpenSpec := { _root_.Go.OpenSpec.ofChange s with cond := some uptoSmall }

/-- 'bulkheadlaw16.AdmitChecks', WHERE WHAT IT READS IS OF BULK AT MOST 1048576: true; the input reads as it did. -/
def admitChecksUptoRow : OpenClaim := { program := "ytnjhekfgmbpmlaadoor", sum := "d34f0193799500e6a20f6f3dadacdf3004960edce545d272842d0856d56f781d", func := "bulkhead/bulkheadlaw16.AdmitChecks", spec := "admitChecks", unfollowed := true, recurses := true, named := ["bulkhead/admit.fine", "bulkhead/admit.nowhere"], apart := false, laid := [("bulkhead/admit.nowhere", laid_bulkhead_admit_nowhere), ("bulkhead/admit.fine", laid_bulkhead_admit_fine)], narrowed := true }
def AdmitChecksUptoSaid : Prop := admitChecksUptoRow.holds Tryd.pinned (OpenSpec.upto admitChecksSpec)

/-- 'bulkheadlaw16.AdmitHolds', WHERE WHAT IT READS IS OF BULK AT MOST 1048576: true; the input reads as it did. -/
def admitHoldsUptoRow : OpenClaim := { program := "ytnjhekfgmbpmlaadoor", sum := "d34f0193799500e6a20f6f3dadacdf3004960edce545d272842d0856d56f781d", func := "bulkhead/bulkheadlaw16.AdmitHolds", spec := "admitHolds", unfollowed := true, recurses := true, named := ["bulkhead/admit.fine", "bulkhead/admit.nowhere"], apart := false, laid := [("bulkhead/admit.nowhere", laid_bulkhead_admit_nowhere), ("bulkhead/admit.fine", laid_bulkhead_admit_fine)], narrowed := true }
def AdmitHoldsUptoSaid : Prop := admitHoldsUptoRow.holds Tryd.pinned (OpenSpec.upto admitHoldsSpec)

/-- 'bulkheadlaw16.AdmitOrder', WHERE WHAT IT READS IS OF BULK AT MOST 1048576: true; the input reads as it did. -/
def admitOrderUptoRow : OpenClaim := { program := "ytnjhekfgmbpmlaadoor", sum := "d34f0193799500e6a20f6f3dadacdf3004960edce545d272842d0856d56f781d", func := "bulkhead/bulkheadlaw16.AdmitOrder", spec := "admitOrder", unfollowed := true, recurses := true, named := ["bulkhead/admit.fine", "bulkhead/admit.nowhere"], apart := false, laid := [("bulkhead/admit.nowhere", laid_bulkhead_admit_nowhere), ("bulkhead/admit.fine", laid_bulkhead_admit_fine)], narrowed := true }
def AdmitOrderUptoSaid : Prop := admitOrderUptoRow.holds Tryd.pinned (OpenSpec.upto admitOrderSpec)

/-- 'bulkheadlaw16.AdmitOne', WHERE WHAT IT READS IS OF BULK AT MOST 1048576: true; the input reads as it did. -/
def admitOneUptoRow : OpenClaim := { program := "ytnjhekfgmbpmlaadoor", sum := "d34f0193799500e6a20f6f3dadacdf3004960edce545d272842d0856d56f781d", func := "bulkhead/bulkheadlaw16.AdmitOne", spec := "admitOne", unfollowed := true, recurses := true, named := ["bulkhead/admit.fine", "bulkhead/admit.nowhere"], apart := false, laid := [("bulkhead/admit.nowhere", laid_bulkhead_admit_nowhere), ("bulkhead/admit.fine", laid_bulkhead_admit_fine)], narrowed := true }
def AdmitOneUptoSaid : Prop := admitOneUptoRow.holds Tryd.pinned (OpenSpec.upto admitOneSpec)

end Rows
end Go.Proofs.YtnjhekfgmbpmlaaDoor
