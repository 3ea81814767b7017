/-
  NARROWER THAN 'FOR EVERY INPUT', by the rows' own cells (each row's printed sentence says how): HealthEnds: laid · HealthBack: laid · HealthWalls: laid.
  DERIVED. THE GIVEN ROWS OF THIS SEAT. 3 by the template 'for every input the law returns true; each argument reads behind the call as it read before'; 0 by the template 'total and deterministic' (their statements: YtlccogilgegnfaaDoorTotals.lean).
  GIVEN WITH THE SEED: the statements are not yours to turn. If you find one false, say at which input.
  Laid BY PROGRAM, IN A SANDBOX (cutbox-rows.mjs): the forced cells as the released guide's own fill.sh prints them over the translation 432103d5264edadb… (all of the seat's roots in one cut). By AI agents, Wed Nov 11 2026. No macro, syntax, notation, axiom, sorry.
-/
import Derived.Test.YtlccogilgegnfaaDoorChecked
import GoSem.Claim
import GoSem.ClaimJoined
import GoSem.ClaimMapViews
import Derived.JoinedTies
import Derived.KernelRfl
namespace Go.Proofs.YtlccogilgegnfaaDoor
/- THE CELL 'sum', in the pinned program and in every row, IS THE sha256 OF THE DUMP (.gsa) THAT YtlccogilgegnfaaDoorProg.lean LOADS. Nothing in Lean hashes anything: it is a label: what it is worth is what the hold of that sum in a sandbox is worth. -/
noncomputable def Tryd.pinned : Pinned := { name := "ytlccogilgegnfaadoor", sum := "432103d5264edadb055dc12e0d52be1eeabbb2c1f576cd94daafda86de13c124", checked := Tryd.checked }
namespace Rows
def none {H : Type} : Left H := { results := [], args := [] }

/- WHAT THE LISTED PACKAGE-LEVEL VARIABLES READ AS WHEN THE CALL BEGINS. Each datum BY PROGRAM (the guide's laid-datum.mjs) off the statement by which the dump's own 'gosem.cut.vars' lays the variable. In a bare row this is a premise. The card (YtlccogilgegnfaaDoorCards.lean) ties it to the program's text. -/
def laid_bulkhead_admit_nowhere {H : Type} : DataW H := .agg [.lit (.int .i64 (-1)), .lit (.int .i64 (-1))]
def laid_bulkhead_admit_fine {H : Type} : DataW H := .agg [.lit (.int .i64 0), .agg [.lit (.int .i64 0), .lit (.int .i64 0)]]

/-- 'bulkheadlaw23.HealthEnds': WHATEVER THE INPUT: true; the input reads as it did. -/
def healthEndsSpec : ChangeSpec := { name := "healthEnds", fn := fun _ => fun
  | [d1, d2, d3] => { results := [.lit (.bool true)], args := [d1, d2, d3] }
  | _ => none }
def healthEndsRow : OpenClaim := { program := "ytlccogilgegnfaadoor", sum := "432103d5264edadb055dc12e0d52be1eeabbb2c1f576cd94daafda86de13c124", func := "bulkhead/bulkheadlaw23.HealthEnds", spec := "healthEnds", unfollowed := true, recurses := true, named := ["bulkhead/admit.fine", "bulkhead/admit.nowhere"], apart := false, laid := [("bulkhead/admit.nowhere", laid_bulkhead_admit_nowhere), ("bulkhead/admit.fine", laid_bulkhead_admit_fine)] }
def HealthEndsSaid : Prop := healthEndsRow.holds Tryd.pinned (OpenSpec.ofChange healthEndsSpec)

/-- ITS FALSE NEIGHBOUR: 'it returns false'. Refute it at one input. -/
def healthEndsWrong : ChangeSpec := { name := "healthEnds", fn := fun _ => fun
  | [d1, d2, d3] => { results := [.lit (.bool false)], args := [d1, d2, d3] }
  | _ => none }
def HealthEndsWrongFalsely : Prop := healthEndsRow.holds Tryd.pinned (OpenSpec.ofChange healthEndsWrong)

/-- 'bulkheadlaw23.HealthBack': WHATEVER THE INPUT: true; the input reads as it did. -/
def healthBackSpec : ChangeSpec := { name := "healthBack", fn := fun _ => fun
  | [d1, d2, d3] => { results := [.lit (.bool true)], args := [d1, d2, d3] }
  | _ => none }
def healthBackRow : OpenClaim := { program := "ytlccogilgegnfaadoor", sum := "432103d5264edadb055dc12e0d52be1eeabbb2c1f576cd94daafda86de13c124", func := "bulkhead/bulkheadlaw23.HealthBack", spec := "healthBack", unfollowed := true, recurses := true, named := ["bulkhead/admit.fine", "bulkhead/admit.nowhere"], apart := false, laid := [("bulkhead/admit.nowhere", laid_bulkhead_admit_nowhere), ("bulkhead/admit.fine", laid_bulkhead_admit_fine)] }
def HealthBackSaid : Prop := healthBackRow.holds Tryd.pinned (OpenSpec.ofChange healthBackSpec)

/-- ITS FALSE NEIGHBOUR: 'it returns false'. Refute it at one input. -/
def healthBackWrong : ChangeSpec := { name := "healthBack", fn := fun _ => fun
  | [d1, d2, d3] => { results := [.lit (.bool false)], args := [d1, d2, d3] }
  | _ => none }
def HealthBackWrongFalsely : Prop := healthBackRow.holds Tryd.pinned (OpenSpec.ofChange healthBackWrong)

/-- 'bulkheadlaw23.HealthWalls': WHATEVER THE INPUT: true; the input reads as it did. -/
def healthWallsSpec : ChangeSpec := { name := "healthWalls", fn := fun _ => fun
  | [d1, d2, d3] => { results := [.lit (.bool true)], args := [d1, d2, d3] }
  | _ => none }
def healthWallsRow : OpenClaim := { program := "ytlccogilgegnfaadoor", sum := "432103d5264edadb055dc12e0d52be1eeabbb2c1f576cd94daafda86de13c124", func := "bulkhead/bulkheadlaw23.HealthWalls", spec := "healthWalls", unfollowed := true, recurses := true, named := ["bulkhead/admit.fine", "bulkhead/admit.nowhere"], apart := false, laid := [("bulkhead/admit.nowhere", laid_bulkhead_admit_nowhere), ("bulkhead/admit.fine", laid_bulkhead_admit_fine)] }
def HealthWallsSaid : Prop := healthWallsRow.holds Tryd.pinned (OpenSpec.ofChange healthWallsSpec)

/-- ITS FALSE NEIGHBOUR: 'it returns false'. Refute it at one input. -/
def healthWallsWrong : ChangeSpec := { name := "healthWalls", fn := fun _ => fun
  | [d1, d2, d3] => { results := [.lit (.bool false)], args := [d1, d2, d3] }
  | _ => none }
def HealthWallsWrongFalsely : Prop := healthWallsRow.holds Tryd.pinned (OpenSpec.ofChange healthWallsWrong)

/- THE SECOND FORM. 'bulk': how many values and letters a reading holds, each counted each time it is reached (what is shared counts as often as it is met; a slice's spare places count too). A statement '..UptoSaid' is the law's where the arguments, and the package variables that the reading takes, are together of bulk at most 1048576: NARROWER than '..Said'. Prove '..Said' where nothing that the law and all that it calls make is longer than what came in: it says more and counts as full. Else prove '..UptoSaid'. A law counts once. -/
mutual
def uptoBulk {H : Type} : DataW H → Nat
  | .lit (.string bytes) => bytes.length + 1
  | .lit _ => 1
  | .nil => 1
  | .ptr d => uptoBulk d + 1
  | .slice elems spare => uptoBulkAll elems + uptoBulkAll spare + 1
  | .agg parts => uptoBulkAll parts + 1
  | .iface _ d => uptoBulk d + 1
  | .map entries => uptoBulkEntries entries + 1
  | .held _ => 1
def uptoBulkAll {H : Type} : List (DataW H) → Nat
  | [] => 0
  | d :: r => uptoBulk d + uptoBulkAll r
def uptoBulkEntries {H : Type} : List (Lit × DataW H) → Nat
  | [] => 0
  | x :: r => uptoBulkEntry x + uptoBulkEntries r
def uptoBulkEntry {H : Type} : Lit × DataW H → Nat
  | (.string bytes, d) => bytes.length + uptoBulk d + 1
  | (_, d) => uptoBulk d + 1
 end
def uptoSmall : (H : Type) → List (DataW H) → Bool := fun _ ds => decide (uptoBulkAll ds ≤ 1048576)
def OpenSpec.upto (s : _root_.Go.ChangeSpec) : _root_.Go.OpenSpec := { _root_.Go.OpenSpec.ofChange s with cond := some uptoSmall }

/-- 'bulkheadlaw23.HealthEnds', WHERE WHAT IT READS IS OF BULK AT MOST 1048576: true; the input reads as it did. -/
def healthEndsUptoRow : OpenClaim := { program := "ytlccogilgegnfaadoor", sum := "432103d5264edadb055dc12e0d52be1eeabbb2c1f576cd94daafda86de13c124", func := "bulkhead/bulkheadlaw23.HealthEnds", spec := "healthEnds", unfollowed := true, recurses := true, named := ["bulkhead/admit.fine", "bulkhead/admit.nowhere"], apart := false, laid := [("bulkhead/admit.nowhere", laid_bulkhead_admit_nowhere), ("bulkhead/admit.fine", laid_bulkhead_admit_fine)], narrowed := true }
def HealthEndsUptoSaid : Prop := healthEndsUptoRow.holds Tryd.pinned (OpenSpec.upto healthEndsSpec)

/-- 'bulkheadlaw23.HealthBack', WHERE WHAT IT READS IS OF BULK AT MOST 1048576: true; the input reads as it did. -/
def healthBackUptoRow : OpenClaim := { program := "ytlccogilgegnfaadoor", sum := "432103d5264edadb055dc12e0d52be1eeabbb2c1f576cd94daafda86de13c124", func := "bulkhead/bulkheadlaw23.HealthBack", spec := "healthBack", unfollowed := true, recurses := true, named := ["bulkhead/admit.fine", "bulkhead/admit.nowhere"], apart := false, laid := [("bulkhead/admit.nowhere", laid_bulkhead_admit_nowhere), ("bulkhead/admit.fine", laid_bulkhead_admit_fine)], narrowed := true }
def HealthBackUptoSaid : Prop := healthBackUptoRow.holds Tryd.pinned (OpenSpec.upto healthBackSpec)

/-- 'bulkheadlaw23.HealthWalls', WHERE WHAT IT READS IS OF BULK AT MOST 1048576: true; the input reads as it did. -/
def healthWallsUptoRow : OpenClaim := { program := "ytlccogilgegnfaadoor", sum := "432103d5264edadb055dc12e0d52be1eeabbb2c1f576cd94daafda86de13c124", func := "bulkhead/bulkheadlaw23.HealthWalls", spec := "healthWalls", unfollowed := true, recurses := true, named := ["bulkhead/admit.fine", "bulkhead/admit.nowhere"], apart := false, laid := [("bulkhead/admit.nowhere", laid_bulkhead_admit_nowhere), ("bulkhead/admit.fine", laid_bulkhead_admit_fine)], narrowed := true }
def HealthWallsUptoSaid : Prop := healthWallsUptoRow.holds Tryd.pinned (OpenSpec.upto healthWallsSpec)

end Rows
end Go.Proofs.YtlccogilgegnfaaDoor
