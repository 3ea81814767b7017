/-
  NARROWER THAN 'FOR EVERY INPUT', by the rows' own cells (each row's printed sentence says how): DeviceMany: laid · DeviceHears: laid · DeviceNone: laid.
  DERIVED. THE GIVEN ROWS OF THIS SEAT. 3 by the template 'for every input the law returns true; each argument reads behind the call as it read before'; 0 by the template 'total and deterministic' (their statements: YtjdmhijaanmccaaDoorTotals.lean).
  GIVEN WITH THE SEED: the statements are not yours to turn. If you find one false, say at which input.
  Laid BY PROGRAM, IN A SANDBOX (cutbox-rows.mjs): the forced cells as the released guide's own fill.sh prints them over the translation 193da8a3a52c9b07… (all of the seat's roots in one cut). By AI agents, Wed Nov 11 2026. No macro, syntax, notation, axiom, sorry.
-/
import Derived.Test.YtjdmhijaanmccaaDoorChecked
import GoSem.Claim
import GoSem.ClaimJoined
import GoSem.ClaimMapViews
import Derived.JoinedTies
import Derived.KernelRfl
namespace Go.Proofs.YtjdmhijaanmccaaDoor
/- THE CELL 'sum', in the pinned program and in every row, IS THE sha256 OF THE DUMP (.gsa) THAT YtjdmhijaanmccaaDoorProg.lean LOADS. Nothing in Lean hashes anything: it is a label: what it is worth is what the hold of that sum in a sandbox is worth. -/
noncomputable def Tryd.pinned : Pinned := { name := "ytjdmhijaanmccaadoor", sum := "193da8a3a52c9b075460ff123070b6e823a768ff3cb00c4fa50ceb7bb7a14992", checked := Tryd.checked }
namespace Rows
def none {H : Type} : Left H := { results := [], args := [] }

/- WHAT THE LISTED PACKAGE-LEVEL VARIABLES READ AS WHEN THE CALL BEGINS. Each datum BY PROGRAM (the guide's laid-datum.mjs) off the statement by which the dump's own 'gosem.cut.vars' lays the variable. In a bare row this is a premise. The card (YtjdmhijaanmccaaDoorCards.lean) ties it to the program's text. -/
def laid_bulkhead_admit_nowhere {H : Type} : DataW H := .agg [.lit (.int .i64 (-1)), .lit (.int .i64 (-1))]
def laid_bulkhead_admit_fine {H : Type} : DataW H := .agg [.lit (.int .i64 0), .agg [.lit (.int .i64 0), .lit (.int .i64 0)]]

/-- 'bulkheadlaw22.DeviceMany': WHATEVER THE INPUT: true; the input reads as it did. -/
def deviceManySpec : ChangeSpec := { name := "deviceMany", fn := fun _ => fun
  | [d1, d2] => { results := [.lit (.bool true)], args := [d1, d2] }
  | _ => none }
def deviceManyRow : OpenClaim := { program := "ytjdmhijaanmccaadoor", sum := "193da8a3a52c9b075460ff123070b6e823a768ff3cb00c4fa50ceb7bb7a14992", func := "bulkhead/bulkheadlaw22.DeviceMany", spec := "deviceMany", unfollowed := true, recurses := true, named := ["bulkhead/admit.fine", "bulkhead/admit.nowhere"], plainKeys := false, apart := false, laid := [("bulkhead/admit.nowhere", laid_bulkhead_admit_nowhere), ("bulkhead/admit.fine", laid_bulkhead_admit_fine)] }
def DeviceManySaid : Prop := deviceManyRow.holds Tryd.pinned (OpenSpec.ofChange deviceManySpec)

/-- ITS FALSE NEIGHBOUR: 'it returns false'. Refute it at one input. -/
def deviceManyWrong : ChangeSpec := { name := "deviceMany", fn := fun _ => fun
  | [d1, d2] => { results := [.lit (.bool false)], args := [d1, d2] }
  | _ => none }
def DeviceManyWrongFalsely : Prop := deviceManyRow.holds Tryd.pinned (OpenSpec.ofChange deviceManyWrong)

/-- 'bulkheadlaw22.DeviceHears': WHATEVER THE INPUT: true; the input reads as it did. -/
def deviceHearsSpec : ChangeSpec := { name := "deviceHears", fn := fun _ => fun
  | [d1, d2, d3, d4] => { results := [.lit (.bool true)], args := [d1, d2, d3, d4] }
  | _ => none }
def deviceHearsRow : OpenClaim := { program := "ytjdmhijaanmccaadoor", sum := "193da8a3a52c9b075460ff123070b6e823a768ff3cb00c4fa50ceb7bb7a14992", func := "bulkhead/bulkheadlaw22.DeviceHears", spec := "deviceHears", unfollowed := true, recurses := true, named := ["bulkhead/admit.fine", "bulkhead/admit.nowhere"], plainKeys := false, apart := false, laid := [("bulkhead/admit.nowhere", laid_bulkhead_admit_nowhere), ("bulkhead/admit.fine", laid_bulkhead_admit_fine)] }
def DeviceHearsSaid : Prop := deviceHearsRow.holds Tryd.pinned (OpenSpec.ofChange deviceHearsSpec)

/-- ITS FALSE NEIGHBOUR: 'it returns false'. Refute it at one input. -/
def deviceHearsWrong : ChangeSpec := { name := "deviceHears", fn := fun _ => fun
  | [d1, d2, d3, d4] => { results := [.lit (.bool false)], args := [d1, d2, d3, d4] }
  | _ => none }
def DeviceHearsWrongFalsely : Prop := deviceHearsRow.holds Tryd.pinned (OpenSpec.ofChange deviceHearsWrong)

/-- 'bulkheadlaw22.DeviceNone': WHATEVER THE INPUT: true; the input reads as it did. -/
def deviceNoneSpec : ChangeSpec := { name := "deviceNone", fn := fun _ => fun
  | [] => { results := [.lit (.bool true)], args := [] }
  | _ => none }
def deviceNoneRow : OpenClaim := { program := "ytjdmhijaanmccaadoor", sum := "193da8a3a52c9b075460ff123070b6e823a768ff3cb00c4fa50ceb7bb7a14992", func := "bulkhead/bulkheadlaw22.DeviceNone", spec := "deviceNone", unfollowed := true, recurses := true, named := ["bulkhead/admit.fine", "bulkhead/admit.nowhere"], plainKeys := false, apart := false, laid := [("bulkhead/admit.nowhere", laid_bulkhead_admit_nowhere), ("bulkhead/admit.fine", laid_bulkhead_admit_fine)] }
def DeviceNoneSaid : Prop := deviceNoneRow.holds Tryd.pinned (OpenSpec.ofChange deviceNoneSpec)

/-- ITS FALSE NEIGHBOUR: 'it returns false'. Refute it at one input. -/
def deviceNoneWrong : ChangeSpec := { name := "deviceNone", fn := fun _ => fun
  | [] => { results := [.lit (.bool false)], args := [] }
  | _ => none }
def DeviceNoneWrongFalsely : Prop := deviceNoneRow.holds Tryd.pinned (OpenSpec.ofChange deviceNoneWrong)

/- THE SECOND FORM. 'bulk': how many values and letters a reading holds, each counted each time it is reached (what is shared counts as often as it is met; a slice's spare places count too). A statement '..UptoSaid' is the law's where the arguments, and the package variables that the reading takes, are together of bulk at most 1048576: NARROWER than '..Said'. Prove '..Said' where nothing that the law and all that it calls make is longer than what came in: it says more and counts as full. Else prove '..UptoSaid'. A law counts once. -/
mutual
def uptoBulk {H : Type} : DataW H → Nat
  | .lit (.string bytes) => bytes.length + 1
  | .lit _ => 1
  | .nil => 1
  | .ptr d => uptoBulk d + 1
  | .slice elems spare => uptoBulkAll elems + uptoBulkAll spare + 1
  | .agg parts => uptoBulkAll parts + 1
  | .iface _ d => uptoBulk d + 1
  | .map entries => uptoBulkEntries entries + 1
  | .held _ => 1
def uptoBulkAll {H : Type} : List (DataW H) → Nat
  | [] => 0
  | d :: r => uptoBulk d + uptoBulkAll r
def uptoBulkEntries {H : Type} : List (Lit × DataW H) → Nat
  | [] => 0
  | x :: r => uptoBulkEntry x + uptoBulkEntries r
def uptoBulkEntry {H : Type} : Lit × DataW H → Nat
  | (.string bytes, d) => bytes.length + uptoBulk d + 1
  | (_, d) => uptoBulk d + 1
 end
def uptoSmall : (H : Type) → List (DataW H) → Bool := fun _ ds => decide (uptoBulkAll ds ≤ 1048576)
def OpenSpec.upto (s : _root_.Go.ChangeSpec) : _root_.Go.OpenSpec := { _root_.Go.OpenSpec.ofChange s with cond := some uptoSmall }

/-- 'bulkheadlaw22.DeviceMany', WHERE WHAT IT READS IS OF BULK AT MOST 1048576: true; the input reads as it did. -/
def deviceManyUptoRow : OpenClaim := { program := "ytjdmhijaanmccaadoor", sum := "193da8a3a52c9b075460ff123070b6e823a768ff3cb00c4fa50ceb7bb7a14992", func := "bulkhead/bulkheadlaw22.DeviceMany", spec := "deviceMany", unfollowed := true, recurses := true, named := ["bulkhead/admit.fine", "bulkhead/admit.nowhere"], plainKeys := false, apart := false, laid := [("bulkhead/admit.nowhere", laid_bulkhead_admit_nowhere), ("bulkhead/admit.fine", laid_bulkhead_admit_fine)], narrowed := true }
def DeviceManyUptoSaid : Prop := deviceManyUptoRow.holds Tryd.pinned (OpenSpec.upto deviceManySpec)

/-- 'bulkheadlaw22.DeviceHears', WHERE WHAT IT READS IS OF BULK AT MOST 1048576: true; the input reads as it did. -/
def deviceHearsUptoRow : OpenClaim := { program := "ytjdmhijaanmccaadoor", sum := "193da8a3a52c9b075460ff123070b6e823a768ff3cb00c4fa50ceb7bb7a14992", func := "bulkhead/bulkheadlaw22.DeviceHears", spec := "deviceHears", unfollowed := true, recurses := true, named := ["bulkhead/admit.fine", "bulkhead/admit.nowhere"], plainKeys := false, apart := false, laid := [("bulkhead/admit.nowhere", laid_bulkhead_admit_nowhere), ("bulkhead/admit.fine", laid_bulkhead_admit_fine)], narrowed := true }
def DeviceHearsUptoSaid : Prop := deviceHearsUptoRow.holds Tryd.pinned (OpenSpec.upto deviceHearsSpec)

/-- 'bulkheadlaw22.DeviceNone', WHERE WHAT IT READS IS OF BULK AT MOST 1048576: true; the input reads as it did. -/
def deviceNoneUptoRow : OpenClaim := { program := "ytjdmhijaanmccaadoor", sum := "193da8a3a52c9b075460ff123070b6e823a768ff3cb00c4fa50ceb7bb7a14992", func := "bulkhead/bulkheadlaw22.DeviceNone", spec := "deviceNone", unfollowed := true, recurses := true, named := ["bulkhead/admit.fine", "bulkhead/admit.nowhere"], plainKeys := false, apart := false, laid := [("bulkhead/admit.nowhere", laid_bulkhead_admit_nowhere), ("bulkhead/admit.fine", laid_bulkhead_admit_fine)], narrowed := true }
def DeviceNoneUptoSaid : Prop := deviceNoneUptoRow.holds Tryd.pinned (OpenSpec.upto deviceNoneSpec)

end Rows
end Go.Proofs.YtjdmhijaanmccaaDoor
