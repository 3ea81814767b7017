/-
  NARROWER THAN 'FOR EVERY INPUT', by the rows' own cells (each row's printed sentence says how): CoreNames: laid · CoreWalls: laid · CoreBlind: laid · CoreCosts: laid.
  DERIVED. THE GIVEN ROWS OF THIS SEAT. 4 by the template 'for every input the law returns true; each argument reads behind the call as it read before'; 0 by the template 'total and deterministic' (their statements: YtjdkigkknhefpaaDoorTotals.lean).
  GIVEN WITH THE SEED: the statements are not yours to turn. If you find one false, say at which input.
  Laid BY PROGRAM, IN A SANDBOX (cutbox-rows.mjs): the forced cells as the released guide's own fill.sh prints them over the translation 224159defe58edfb… (all of the seat's roots in one cut). By AI agents, Wed Nov 11 2026. No macro, syntax, notation, axiom, sorry.
-/
import Derived.Test.YtjdkigkknhefpaaDoorChecked
import GoSem.Claim
import GoSem.ClaimJoined
import GoSem.ClaimMapViews
import Derived.JoinedTies
import Derived.KernelRfl
namespace Go.Proofs.YtjdkigkknhefpaaDoor
/- THE CELL 'sum', in the pinned program and in every row, IS THE sha256 OF THE DUMP (.gsa) THAT YtjdkigkknhefpaaDoorProg.lean LOADS. Nothing in Lean hashes anything: it is a label: what it is worth is what the hold of that sum in a sandbox is worth. -/
noncomputable def Tryd.pinned : Pinned := { name := "ytjdkigkknhefpaadoor", sum := "224159defe58edfb8dc451a4d6f1a8d10d6af62fd8e12de80360bf10856b1554", checked := Tryd.checked }
namespace Rows
def none {H : Type} : Left H := { results := [], args := [] }

/- WHAT THE LISTED PACKAGE-LEVEL VARIABLES READ AS WHEN THE CALL BEGINS. Each datum BY PROGRAM (the guide's laid-datum.mjs) off the statement by which the dump's own 'gosem.cut.vars' lays the variable. In a bare row this is a premise. The card (YtjdkigkknhefpaaDoorCards.lean) ties it to the program's text. -/
def laid_bulkhead_isa_rows {H : Type} : DataW H := .agg [.agg [.lit (.string []), .lit (.int .i64 0), .lit (.int .i64 0)], .agg [.lit (.string [110, 111, 112]), .lit (.int .i64 1), .lit (.int .i64 1)], .agg [.lit (.string [109, 111, 118]), .lit (.int .i64 3), .lit (.int .i64 1)], .agg [.lit (.string [108, 105]), .lit (.int .i64 5), .lit (.int .i64 1)], .agg [.lit (.string [104, 105]), .lit (.int .i64 5), .lit (.int .i64 1)], .agg [.lit (.string [97, 100, 100]), .lit (.int .i64 4), .lit (.int .i64 1)], .agg [.lit (.string [115, 117, 98]), .lit (.int .i64 4), .lit (.int .i64 1)], .agg [.lit (.string [109, 117, 108]), .lit (.int .i64 4), .lit (.int .i64 3)], .agg [.lit (.string [100, 105, 118]), .lit (.int .i64 4), .lit (.int .i64 8)], .agg [.lit (.string [114, 101, 109]), .lit (.int .i64 4), .lit (.int .i64 8)], .agg [.lit (.string [97, 110, 100]), .lit (.int .i64 4), .lit (.int .i64 1)], .agg [.lit (.string [111, 114]), .lit (.int .i64 4), .lit (.int .i64 1)], .agg [.lit (.string [120, 111, 114]), .lit (.int .i64 4), .lit (.int .i64 1)], .agg [.lit (.string [115, 104, 108]), .lit (.int .i64 4), .lit (.int .i64 1)], .agg [.lit (.string [115, 104, 114]), .lit (.int .i64 4), .lit (.int .i64 1)], .agg [.lit (.string [115, 97, 114]), .lit (.int .i64 4), .lit (.int .i64 1)], .agg [.lit (.string [115, 108, 116]), .lit (.int .i64 4), .lit (.int .i64 1)], .agg [.lit (.string [115, 108, 116, 117]), .lit (.int .i64 4), .lit (.int .i64 1)], .agg [.lit (.string [97, 100, 100, 105]), .lit (.int .i64 6), .lit (.int .i64 1)], .agg [.lit (.string [108, 100]), .lit (.int .i64 6), .lit (.int .i64 1)], .agg [.lit (.string [115, 116]), .lit (.int .i64 6), .lit (.int .i64 1)], .agg [.lit (.string [98, 101, 113]), .lit (.int .i64 6), .lit (.int .i64 1)], .agg [.lit (.string [98, 110, 101]), .lit (.int .i64 6), .lit (.int .i64 1)], .agg [.lit (.string [98, 108, 116]), .lit (.int .i64 6), .lit (.int .i64 1)], .agg [.lit (.string [98, 103, 101]), .lit (.int .i64 6), .lit (.int .i64 1)], .agg [.lit (.string [98, 108, 116, 117]), .lit (.int .i64 6), .lit (.int .i64 1)], .agg [.lit (.string [106, 109, 112]), .lit (.int .i64 7), .lit (.int .i64 1)], .agg [.lit (.string [106, 97, 108]), .lit (.int .i64 5), .lit (.int .i64 1)], .agg [.lit (.string [106, 114]), .lit (.int .i64 2), .lit (.int .i64 1)], .agg [.lit (.string [99, 121, 99]), .lit (.int .i64 2), .lit (.int .i64 1)], .agg [.lit (.string [104, 121, 112]), .lit (.int .i64 7), .lit (.int .i64 24)]]

/-- 'bulkheadlaw10.CoreNames': WHATEVER THE INPUT: true; the input reads as it did. -/
def coreNamesSpec : ChangeSpec := { name := "coreNames", fn := fun _ => fun
  | [] => { results := [.lit (.bool true)], args := [] }
  | _ => none }
def coreNamesRow : OpenClaim := { program := "ytjdkigkknhefpaadoor", sum := "224159defe58edfb8dc451a4d6f1a8d10d6af62fd8e12de80360bf10856b1554", func := "bulkhead/bulkheadlaw10.CoreNames", spec := "coreNames", unfollowed := true, recurses := true, named := ["bulkhead/isa.rows"], apart := false, laid := [("bulkhead/isa.rows", laid_bulkhead_isa_rows)] }
def CoreNamesSaid : Prop := coreNamesRow.holds Tryd.pinned (OpenSpec.ofChange coreNamesSpec)

/-- ITS FALSE NEIGHBOUR: 'it returns false'. Refute it at one input. -/
def coreNamesWrong : ChangeSpec := { name := "coreNames", fn := fun _ => fun
  | [] => { results := [.lit (.bool false)], args := [] }
  | _ => none }
def CoreNamesWrongFalsely : Prop := coreNamesRow.holds Tryd.pinned (OpenSpec.ofChange coreNamesWrong)

/-- 'bulkheadlaw10.CoreWalls': WHATEVER THE INPUT: true; the input reads as it did. -/
def coreWallsSpec : ChangeSpec := { name := "coreWalls", fn := fun _ => fun
  | [d1, d2, d3, d4] => { results := [.lit (.bool true)], args := [d1, d2, d3, d4] }
  | _ => none }
def coreWallsRow : OpenClaim := { program := "ytjdkigkknhefpaadoor", sum := "224159defe58edfb8dc451a4d6f1a8d10d6af62fd8e12de80360bf10856b1554", func := "bulkhead/bulkheadlaw10.CoreWalls", spec := "coreWalls", unfollowed := true, recurses := true, named := ["bulkhead/isa.rows"], apart := false, laid := [("bulkhead/isa.rows", laid_bulkhead_isa_rows)] }
def CoreWallsSaid : Prop := coreWallsRow.holds Tryd.pinned (OpenSpec.ofChange coreWallsSpec)

/-- ITS FALSE NEIGHBOUR: 'it returns false'. Refute it at one input. -/
def coreWallsWrong : ChangeSpec := { name := "coreWalls", fn := fun _ => fun
  | [d1, d2, d3, d4] => { results := [.lit (.bool false)], args := [d1, d2, d3, d4] }
  | _ => none }
def CoreWallsWrongFalsely : Prop := coreWallsRow.holds Tryd.pinned (OpenSpec.ofChange coreWallsWrong)

/-- 'bulkheadlaw10.CoreBlind': WHATEVER THE INPUT: true; the input reads as it did. -/
def coreBlindSpec : ChangeSpec := { name := "coreBlind", fn := fun _ => fun
  | [d1, d2, d3, d4, d5] => { results := [.lit (.bool true)], args := [d1, d2, d3, d4, d5] }
  | _ => none }
def coreBlindRow : OpenClaim := { program := "ytjdkigkknhefpaadoor", sum := "224159defe58edfb8dc451a4d6f1a8d10d6af62fd8e12de80360bf10856b1554", func := "bulkhead/bulkheadlaw10.CoreBlind", spec := "coreBlind", unfollowed := true, recurses := true, named := ["bulkhead/isa.rows"], apart := false, laid := [("bulkhead/isa.rows", laid_bulkhead_isa_rows)] }
def CoreBlindSaid : Prop := coreBlindRow.holds Tryd.pinned (OpenSpec.ofChange coreBlindSpec)

/-- ITS FALSE NEIGHBOUR: 'it returns false'. Refute it at one input. -/
def coreBlindWrong : ChangeSpec := { name := "coreBlind", fn := fun _ => fun
  | [d1, d2, d3, d4, d5] => { results := [.lit (.bool false)], args := [d1, d2, d3, d4, d5] }
  | _ => none }
def CoreBlindWrongFalsely : Prop := coreBlindRow.holds Tryd.pinned (OpenSpec.ofChange coreBlindWrong)

/-- 'bulkheadlaw10.CoreCosts': WHATEVER THE INPUT: true; the input reads as it did. -/
def coreCostsSpec : ChangeSpec := { name := "coreCosts", fn := fun _ => fun
  | [d1, d2, d3, d4, d5] => { results := [.lit (.bool true)], args := [d1, d2, d3, d4, d5] }
  | _ => none }
def coreCostsRow : OpenClaim := { program := "ytjdkigkknhefpaadoor", sum := "224159defe58edfb8dc451a4d6f1a8d10d6af62fd8e12de80360bf10856b1554", func := "bulkhead/bulkheadlaw10.CoreCosts", spec := "coreCosts", unfollowed := true, recurses := true, named := ["bulkhead/isa.rows"], apart := false, laid := [("bulkhead/isa.rows", laid_bulkhead_isa_rows)] }
def CoreCostsSaid : Prop := coreCostsRow.holds Tryd.pinned (OpenSpec.ofChange coreCostsSpec)

/-- ITS FALSE NEIGHBOUR: 'it returns false'. Refute it at one input. -/
def coreCostsWrong : ChangeSpec := { name := "coreCosts", fn := fun _ => fun
  | [d1, d2, d3, d4, d5] => { results := [.lit (.bool false)], args := [d1, d2, d3, d4, d5] }
  | _ => none }
def CoreCostsWrongFalsely : Prop := coreCostsRow.holds Tryd.pinned (OpenSpec.ofChange coreCostsWrong)

/- THE SECOND FORM. 'bulk': how many values and letters a reading holds, each counted each time it is reached (what is shared counts as often as it is met; a slice's spare places count too). A statement '..UptoSaid' is the law's where the arguments, and the package variables that the reading takes, are together of bulk at most 1048576: NARROWER than '..Said'. Prove '..Said' where nothing that the law and all that it calls make is longer than what came in: it says more and counts as full. Else prove '..UptoSaid'. A law counts once. -/
mutual
def uptoBulk {H : Type} : DataW H → Nat
  | .lit (.string bytes) => bytes.length + 1
  | .lit _ => 1
  | .nil => 1
  | .ptr d => uptoBulk d + 1
  | .slice elems spare => uptoBulkAll elems + uptoBulkAll spare + 1
  | .agg parts => uptoBulkAll parts + 1
  | .iface _ d => uptoBulk d + 1
  | .map entries => uptoBulkEntries entries + 1
  | .held _ => 1
def uptoBulkAll {H : Type} : List (DataW H) → Nat
  | [] => 0
  | d :: r => uptoBulk d + uptoBulkAll r
def uptoBulkEntries {H : Type} : List (Lit × DataW H) → Nat
  | [] => 0
  | x :: r => uptoBulkEntry x + uptoBulkEntries r
def uptoBulkEntry {H : Type} : Lit × DataW H → Nat
  | (.string bytes, d) => bytes.length + uptoBulk d + 1
  | (_, d) => uptoBulk d + 1
 end
def uptoSmall : (H : Type) → List (DataW H) → Bool := fun _ ds => decide (uptoBulkAll ds ≤ 1048576)
def OpenSpec.upto (s : _root_.Go.ChangeSpec) : _root_.Go.OpenSpec := { _root_.Go.OpenSpec.ofChange s with cond := some uptoSmall }

/-- 'bulkheadlaw10.CoreNames', WHERE WHAT IT READS IS OF BULK AT MOST 1048576: true; the input reads as it did. -/
def coreNamesUptoRow : OpenClaim := { program := "ytjdkigkknhefpaadoor", sum := "224159defe58edfb8dc451a4d6f1a8d10d6af62fd8e12de80360bf10856b1554", func := "bulkhead/bulkheadlaw10.CoreNames", spec := "coreNames", unfollowed := true, recurses := true, named := ["bulkhead/isa.rows"], apart := false, laid := [("bulkhead/isa.rows", laid_bulkhead_isa_rows)], narrowed := true }
def CoreNamesUptoSaid : Prop := coreNamesUptoRow.holds Tryd.pinned (OpenSpec.upto coreNamesSpec)

/-- 'bulkheadlaw10.CoreWalls', WHERE WHAT IT READS IS OF BULK AT MOST 1048576: true; the input reads as it did. -/
def coreWallsUptoRow : OpenClaim := { program := "ytjdkigkknhefpaadoor", sum := "224159defe58edfb8dc451a4d6f1a8d10d6af62fd8e12de80360bf10856b1554", func := "bulkhead/bulkheadlaw10.CoreWalls", spec := "coreWalls", unfollowed := true, recurses := true, named := ["bulkhead/isa.rows"], apart := false, laid := [("bulkhead/isa.rows", laid_bulkhead_isa_rows)], narrowed := true }
def CoreWallsUptoSaid : Prop := coreWallsUptoRow.holds Tryd.pinned (OpenSpec.upto coreWallsSpec)

/-- 'bulkheadlaw10.CoreBlind', WHERE WHAT IT READS IS OF BULK AT MOST 1048576: true; the input reads as it did. -/
def coreBlindUptoRow : OpenClaim := { program := "ytjdkigkknhefpaadoor", sum := "224159defe58edfb8dc451a4d6f1a8d10d6af62fd8e12de80360bf10856b1554", func := "bulkhead/bulkheadlaw10.CoreBlind", spec := "coreBlind", unfollowed := true, recurses := true, named := ["bulkhead/isa.rows"], apart := false, laid := [("bulkhead/isa.rows", laid_bulkhead_isa_rows)], narrowed := true }
def CoreBlindUptoSaid : Prop := coreBlindUptoRow.holds Tryd.pinned (OpenSpec.upto coreBlindSpec)

/-- 'bulkheadlaw10.CoreCosts', WHERE WHAT IT READS IS OF BULK AT MOST 1048576: true; the input reads as it did. -/
def coreCostsUptoRow : OpenClaim := { program := "ytjdkigkknhefpaadoor", sum := "224159defe58edfb8dc451a4d6f1a8d10d6af62fd8e12de80360bf10856b1554", func := "bulkhead/bulkheadlaw10.CoreCosts", spec := "coreCosts", unfollowed := true, recurses := true, named := ["bulkhead/isa.rows"], apart := false, laid := [("bulkhead/isa.rows", laid_bulkhead_isa_rows)], narrowed := true }
def CoreCostsUptoSaid : Prop := coreCostsUptoRow.holds Tryd.pinned (OpenSpec.upto coreCostsSpec)

end Rows
end Go.Proofs.YtjdkigkknhefpaaDoor
