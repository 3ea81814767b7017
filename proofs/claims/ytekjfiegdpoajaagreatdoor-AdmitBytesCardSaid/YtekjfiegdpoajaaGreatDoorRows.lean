/-
  NARROWER THAN 'FOR EVERY INPUT', by the rows' own cells (each row's printed sentence says how): AdmitReads: laid · AdmitBytes: laid.
  DERIVED. THE GIVEN ROWS OF THIS SEAT. 2 by the template 'for every input the law returns true; each argument reads behind the call as it read before'; 0 by the template 'total and deterministic' (their statements: YtekjfiegdpoajaaGreatDoorTotals.lean).
  GIVEN WITH THE SEED: the statements are not yours to turn. If you find one false, say at which input.
  Laid BY PROGRAM, IN A SANDBOX (cutbox-rows.mjs): the forced cells as the released guide's own fill.sh prints them over the translation 2839167457ad57ba… (all of the seat's roots in one cut). By AI agents, Wed Nov 11 2026. No macro, syntax, notation, axiom, sorry.
-/
import Derived.Test.YtekjfiegdpoajaaGreatDoorChecked
import GoSem.Claim
import GoSem.ClaimJoined
import GoSem.ClaimMapViews
import Derived.JoinedTies
import Derived.KernelRfl
namespace Go.Proofs.YtekjfiegdpoajaaGreatDoor
/- THE CELL 'sum', in the pinned program and in every row, IS THE sha256 OF THE DUMP (.gsa) THAT YtekjfiegdpoajaaGreatDoorProg.lean LOADS. Nothing in Lean hashes anything: it is a label: what it is worth is what the hold of that sum in a sandbox is worth. -/
noncomputable def Tryz.pinned : Pinned := { name := "ytekjfiegdpoajaagreatdoor", sum := "2839167457ad57ba43e748e881ad2bf76b2cdee49198b8152a5bfa4b7ac907f5", checked := Tryz.checked }
namespace Rows
def none {H : Type} : Left H := { results := [], args := [] }

/- WHAT THE LISTED PACKAGE-LEVEL VARIABLES READ AS WHEN THE CALL BEGINS. Each datum BY PROGRAM (the guide's laid-datum.mjs) off the statement by which the dump's own 'gosem.cut.vars' lays the variable. In a bare row this is a premise. The card (YtekjfiegdpoajaaGreatDoorCards.lean) ties it to the program's text. -/
def laid_bulkhead_admit_nowhere {H : Type} : DataW H := .agg [.lit (.int .i64 (-1)), .lit (.int .i64 (-1))]
def laid_bulkhead_admit_fine {H : Type} : DataW H := .agg [.lit (.int .i64 0), .agg [.lit (.int .i64 0), .lit (.int .i64 0)]]

/-- 'bulkheadlaw16.AdmitReads': WHATEVER THE INPUT: true; the input reads as it did. -/
def admitReadsSpec : ChangeSpec := { name := "admitReads", fn := fun _ => fun
  | [d] => { results := [.lit (.bool true)], args := [d] }
  | _ => none }
def admitReadsRow : OpenClaim := { program := "ytekjfiegdpoajaagreatdoor", sum := "2839167457ad57ba43e748e881ad2bf76b2cdee49198b8152a5bfa4b7ac907f5", func := "bulkhead/bulkheadlaw16.AdmitReads", spec := "admitReads", unfollowed := true, recurses := true, named := ["bulkhead/admit.fine", "bulkhead/admit.nowhere"], apart := false, laid := [("bulkhead/admit.nowhere", laid_bulkhead_admit_nowhere), ("bulkhead/admit.fine", laid_bulkhead_admit_fine)] }
def AdmitReadsSaid : Prop := admitReadsRow.holds Tryz.pinned (OpenSpec.ofChange admitReadsSpec)

/-- ITS FALSE NEIGHBOUR: 'it returns false'. Refute it at one input. -/
def admitReadsWrong : ChangeSpec := { name := "admitReads", fn := fun _ => fun
  | [d] => { results := [.lit (.bool false)], args := [d] }
  | _ => none }
def AdmitReadsWrongFalsely : Prop := admitReadsRow.holds Tryz.pinned (OpenSpec.ofChange admitReadsWrong)

/-- 'bulkheadlaw16.AdmitBytes': WHATEVER THE INPUT: true; the input reads as it did. -/
def admitBytesSpec : ChangeSpec := { name := "admitBytes", fn := fun _ => fun
  | [d1, d2, d3] => { results := [.lit (.bool true)], args := [d1, d2, d3] }
  | _ => none }
def admitBytesRow : OpenClaim := { program := "ytekjfiegdpoajaagreatdoor", sum := "2839167457ad57ba43e748e881ad2bf76b2cdee49198b8152a5bfa4b7ac907f5", func := "bulkhead/bulkheadlaw16.AdmitBytes", spec := "admitBytes", unfollowed := true, recurses := true, named := ["bulkhead/admit.fine", "bulkhead/admit.nowhere"], apart := false, laid := [("bulkhead/admit.nowhere", laid_bulkhead_admit_nowhere), ("bulkhead/admit.fine", laid_bulkhead_admit_fine)] }
def AdmitBytesSaid : Prop := admitBytesRow.holds Tryz.pinned (OpenSpec.ofChange admitBytesSpec)

/-- ITS FALSE NEIGHBOUR: 'it returns false'. Refute it at one input. -/
def admitBytesWrong : ChangeSpec := { name := "admitBytes", fn := fun _ => fun
  | [d1, d2, d3] => { results := [.lit (.bool false)], args := [d1, d2, d3] }
  | _ => none }
def AdmitBytesWrongFalsely : Prop := admitBytesRow.holds Tryz.pinned (OpenSpec.ofChange admitBytesWrong)

/- THE SECOND FORM. 'bulk': how many values and letters a reading holds, each counted each time it is reached (what is shared counts as often as it is met; a slice's spare places count too). A statement '..UptoSaid' is the law's where the arguments, and the package variables that the reading takes, are together of bulk at most 1048576: NARROWER than '..Said'. Prove '..Said' where nothing that the law and all that it calls make is longer than what came in: it says more and counts as full. Else prove '..UptoSaid'. A law counts once. -/
mutual
def uptoBulk {H : Type} : DataW H → Nat
  | .lit (.string bytes) => bytes.length + 1
  | .lit _ => 1
  | .nil => 1
  | .ptr d => uptoBulk d + 1
  | .slice elems spare => uptoBulkAll elems + uptoBulkAll spare + 1
  | .agg parts => uptoBulkAll parts + 1
  | .iface _ d => uptoBulk d + 1
  | .map entries => uptoBulkEntries entries + 1
  | .held _ => 1
def uptoBulkAll {H : Type} : List (DataW H) → Nat
  | [] => 0
  | d :: r => uptoBulk d + uptoBulkAll r
def uptoBulkEntries {H : Type} : List (Lit × DataW H) → Nat
  | [] => 0
  | x :: r => uptoBulkEntry x + uptoBulkEntries r
def uptoBulkEntry {H : Type} : Lit × DataW H → Nat
  | (.string bytes, d) => bytes.length + uptoBulk d + 1
  | (_, d) => uptoBulk d + 1
 end
def uptoSmall : (H : Type) → List (DataW H) → Bool := fun _ ds => decide (uptoBulkAll ds ≤ 1048576)
def OpenSpec.upto (s : _root_.Go.ChangeSpec) : _root_.Go.OpenSpec := { _root_.Go.OpenSpec.ofChange s with cond := some uptoSmall }

/-- 'bulkheadlaw16.AdmitReads', WHERE WHAT IT READS IS OF BULK AT MOST 1048576: true; the input reads as it did. -/
def admitReadsUptoRow : OpenClaim := { program := "ytekjfiegdpoajaagreatdoor", sum := "2839167457ad57ba43e748e881ad2bf76b2cdee49198b8152a5bfa4b7ac907f5", func := "bulkhead/bulkheadlaw16.AdmitReads", spec := "admitReads", unfollowed := true, recurses := true, named := ["bulkhead/admit.fine", "bulkhead/admit.nowhere"], apart := false, laid := [("bulkhead/admit.nowhere", laid_bulkhead_admit_nowhere), ("bulkhead/admit.fine", laid_bulkhead_admit_fine)], narrowed := true }
def AdmitReadsUptoSaid : Prop := admitReadsUptoRow.holds Tryz.pinned (OpenSpec.upto admitReadsSpec)

/-- 'bulkheadlaw16.AdmitBytes', WHERE WHAT IT READS IS OF BULK AT MOST 1048576: true; the input reads as it did. -/
def admitBytesUptoRow : OpenClaim := { program := "ytekjfiegdpoajaagreatdoor", sum := "2839167457ad57ba43e748e881ad2bf76b2cdee49198b8152a5bfa4b7ac907f5", func := "bulkhead/bulkheadlaw16.AdmitBytes", spec := "admitBytes", unfollowed := true, recurses := true, named := ["bulkhead/admit.fine", "bulkhead/admit.nowhere"], apart := false, laid := [("bulkhead/admit.nowhere", laid_bulkhead_admit_nowhere), ("bulkhead/admit.fine", laid_bulkhead_admit_fine)], narrowed := true }
def AdmitBytesUptoSaid : Prop := admitBytesUptoRow.holds Tryz.pinned (OpenSpec.upto admitBytesSpec)

end Rows
end Go.Proofs.YtekjfiegdpoajaaGreatDoor
