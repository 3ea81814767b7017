/-
  No cell of these rows narrows 'for every input' (looked for: loops, veiled, ifaces, maps, wideKeys, modest, calm, conditions, laid).
  DERIVED. THE GIVEN ROWS OF THIS SEAT. 4 by the template 'for every input the law returns true; each argument reads behind the call as it read before'; 0 by the template 'total and deterministic' (their statements: YtnccbkmpoadeoaaTotals.lean).
  GIVEN WITH THE SEED: the statements are not yours to turn. If you find one false, say at which input.
  Laid BY PROGRAM, IN A SANDBOX (cutbox-rows.mjs): the forced cells as the released guide's own fill.sh prints them over the translation 3af1e2bb62b37154… (all of the seat's roots in one cut). By AI agents, Wed Nov 11 2026. No macro, syntax, notation, axiom, sorry.
-/
import Derived.Test.YtnccbkmpoadeoaaChecked
import GoSem.Claim
import GoSem.ClaimJoined
import GoSem.ClaimMapViews
import Derived.JoinedTies
import Derived.KernelRfl
namespace Go.Proofs.Ytnccbkmpoadeoaa
/- THE CELL 'sum', in the pinned program and in every row, IS THE sha256 OF THE DUMP (.gsa) THAT YtnccbkmpoadeoaaProg.lean LOADS. Nothing in Lean hashes anything: it is a label: what it is worth is what the hold of that sum in a sandbox is worth. -/
noncomputable def Try.pinned : Pinned := { name := "ytnccbkmpoadeoaa", sum := "3af1e2bb62b37154a0b7ad824e3b73dcdba16304ba6828ffa3de83b070ace611", checked := Try.checked }
namespace Rows
def none {H : Type} : Left H := { results := [], args := [] }

/-- 'bulkheadlaw13.FlowNames': WHATEVER THE INPUT: true; the input reads as it did. -/
def flowNamesSpec : ChangeSpec := { name := "flowNames", fn := fun _ => fun
  | [] => { results := [.lit (.bool true)], args := [] }
  | _ => none }
def flowNamesRow : OpenClaim := { program := "ytnccbkmpoadeoaa", sum := "3af1e2bb62b37154a0b7ad824e3b73dcdba16304ba6828ffa3de83b070ace611", func := "bulkhead/bulkheadlaw13.FlowNames", spec := "flowNames", plainKeys := false, apart := false }
def FlowNamesSaid : Prop := flowNamesRow.holds Try.pinned (OpenSpec.ofChange flowNamesSpec)

/-- ITS FALSE NEIGHBOUR: 'it returns false'. Refute it at one input. -/
def flowNamesWrong : ChangeSpec := { name := "flowNames", fn := fun _ => fun
  | [] => { results := [.lit (.bool false)], args := [] }
  | _ => none }
def FlowNamesWrongFalsely : Prop := flowNamesRow.holds Try.pinned (OpenSpec.ofChange flowNamesWrong)

/-- 'bulkheadlaw13.FlowExact': WHATEVER THE INPUT: true; the input reads as it did. -/
def flowExactSpec : ChangeSpec := { name := "flowExact", fn := fun _ => fun
  | [d1, d2] => { results := [.lit (.bool true)], args := [d1, d2] }
  | _ => none }
def flowExactRow : OpenClaim := { program := "ytnccbkmpoadeoaa", sum := "3af1e2bb62b37154a0b7ad824e3b73dcdba16304ba6828ffa3de83b070ace611", func := "bulkhead/bulkheadlaw13.FlowExact", spec := "flowExact", unfollowed := true, recurses := true, plainKeys := false, apart := false }
def FlowExactSaid : Prop := flowExactRow.holds Try.pinned (OpenSpec.ofChange flowExactSpec)

/-- ITS FALSE NEIGHBOUR: 'it returns false'. Refute it at one input. -/
def flowExactWrong : ChangeSpec := { name := "flowExact", fn := fun _ => fun
  | [d1, d2] => { results := [.lit (.bool false)], args := [d1, d2] }
  | _ => none }
def FlowExactWrongFalsely : Prop := flowExactRow.holds Try.pinned (OpenSpec.ofChange flowExactWrong)

/-- 'bulkheadlaw13.FlowWays': WHATEVER THE INPUT: true; the input reads as it did. -/
def flowWaysSpec : ChangeSpec := { name := "flowWays", fn := fun _ => fun
  | [d] => { results := [.lit (.bool true)], args := [d] }
  | _ => none }
def flowWaysRow : OpenClaim := { program := "ytnccbkmpoadeoaa", sum := "3af1e2bb62b37154a0b7ad824e3b73dcdba16304ba6828ffa3de83b070ace611", func := "bulkhead/bulkheadlaw13.FlowWays", spec := "flowWays", unfollowed := true, recurses := true, plainKeys := false, apart := false }
def FlowWaysSaid : Prop := flowWaysRow.holds Try.pinned (OpenSpec.ofChange flowWaysSpec)

/-- ITS FALSE NEIGHBOUR: 'it returns false'. Refute it at one input. -/
def flowWaysWrong : ChangeSpec := { name := "flowWays", fn := fun _ => fun
  | [d] => { results := [.lit (.bool false)], args := [d] }
  | _ => none }
def FlowWaysWrongFalsely : Prop := flowWaysRow.holds Try.pinned (OpenSpec.ofChange flowWaysWrong)

/-- 'bulkheadlaw13.FlowMore': WHATEVER THE INPUT: true; the input reads as it did. -/
def flowMoreSpec : ChangeSpec := { name := "flowMore", fn := fun _ => fun
  | [d1, d2, d3] => { results := [.lit (.bool true)], args := [d1, d2, d3] }
  | _ => none }
def flowMoreRow : OpenClaim := { program := "ytnccbkmpoadeoaa", sum := "3af1e2bb62b37154a0b7ad824e3b73dcdba16304ba6828ffa3de83b070ace611", func := "bulkhead/bulkheadlaw13.FlowMore", spec := "flowMore", unfollowed := true, recurses := true, plainKeys := false, apart := false }
def FlowMoreSaid : Prop := flowMoreRow.holds Try.pinned (OpenSpec.ofChange flowMoreSpec)

/-- ITS FALSE NEIGHBOUR: 'it returns false'. Refute it at one input. -/
def flowMoreWrong : ChangeSpec := { name := "flowMore", fn := fun _ => fun
  | [d1, d2, d3] => { results := [.lit (.bool false)], args := [d1, d2, d3] }
  | _ => none }
def FlowMoreWrongFalsely : Prop := flowMoreRow.holds Try.pinned (OpenSpec.ofChange flowMoreWrong)

/- THE SECOND FORM. 'bulk': how many values and letters a reading holds, each counted each time it is reached (what is shared counts as often as it is met; a slice's spare places count too). A statement '..UptoSaid' is the law's where the arguments, and the package variables that the reading takes, are together of bulk at most 1048576: NARROWER than '..Said'. Prove '..Said' where nothing that the law and all that it calls make is longer than what came in: it says more and counts as full. Else prove '..UptoSaid'. A law counts once. -/
mutual
def uptoBulk {H : Type} : DataW H → Nat
  | .lit (.string bytes) => bytes.length + 1
  | .lit _ => 1
  | .nil => 1
  | .ptr d => uptoBulk d + 1
  | .slice elems spare => uptoBulkAll elems + uptoBulkAll spare + 1
  | .agg parts => uptoBulkAll parts + 1
  | .iface _ d => uptoBulk d + 1
  | .map entries => uptoBulkEntries entries + 1
  | .held _ => 1
def uptoBulkAll {H : Type} : List (DataW H) → Nat
  | [] => 0
  | d :: r => uptoBulk d + uptoBulkAll r
def uptoBulkEntries {H : Type} : List (Lit × DataW H) → Nat
  | [] => 0
  | x :: r => uptoBulkEntry x + uptoBulkEntries r
def uptoBulkEntry {H : Type} : Lit × DataW H → Nat
  | (.string bytes, d) => bytes.length + uptoBulk d + 1
  | (_, d) => uptoBulk d + 1
 end
def uptoSmall : (H : Type) → List (DataW H) → Bool := fun _ ds => decide (uptoBulkAll ds ≤ 1048576)
def OpenSpec.upto (s : _root_.Go.ChangeSpec) : _root_.Go.OpenSpec := { _root_.Go.OpenSpec.ofChange s with cond := some uptoSmall }

/-- 'bulkheadlaw13.FlowNames', WHERE WHAT IT READS IS OF BULK AT MOST 1048576: true; the input reads as it did. -/
def flowNamesUptoRow : OpenClaim := { program := "ytnccbkmpoadeoaa", sum := "3af1e2bb62b37154a0b7ad824e3b73dcdba16304ba6828ffa3de83b070ace611", func := "bulkhead/bulkheadlaw13.FlowNames", spec := "flowNames", plainKeys := false, apart := false, narrowed := true }
def FlowNamesUptoSaid : Prop := flowNamesUptoRow.holds Try.pinned (OpenSpec.upto flowNamesSpec)

/-- 'bulkheadlaw13.FlowExact', WHERE WHAT IT READS IS OF BULK AT MOST 1048576: true; the input reads as it did. -/
def flowExactUptoRow : OpenClaim := { program := "ytnccbkmpoadeoaa", sum := "3af1e2bb62b37154a0b7ad824e3b73dcdba16304ba6828ffa3de83b070ace611", func := "bulkhead/bulkheadlaw13.FlowExact", spec := "flowExact", unfollowed := true, recurses := true, plainKeys := false, apart := false, narrowed := true }
def FlowExactUptoSaid : Prop := flowExactUptoRow.holds Try.pinned (OpenSpec.upto flowExactSpec)

/-- 'bulkheadlaw13.FlowWays', WHERE WHAT IT READS IS OF BULK AT MOST 1048576: true; the input reads as it did. -/
def flowWaysUptoRow : OpenClaim := { program := "ytnccbkmpoadeoaa", sum := "3af1e2bb62b37154a0b7ad824e3b73dcdba16304ba6828ffa3de83b070ace611", func := "bulkhead/bulkheadlaw13.FlowWays", spec := "flowWays", unfollowed := true, recurses := true, plainKeys := false, apart := false, narrowed := true }
def FlowWaysUptoSaid : Prop := flowWaysUptoRow.holds Try.pinned (OpenSpec.upto flowWaysSpec)

/-- 'bulkheadlaw13.FlowMore', WHERE WHAT IT READS IS OF BULK AT MOST 1048576: true; the input reads as it did. -/
def flowMoreUptoRow : OpenClaim := { program := "ytnccbkmpoadeoaa", sum := "3af1e2bb62b37154a0b7ad824e3b73dcdba16304ba6828ffa3de83b070ace611", func := "bulkhead/bulkheadlaw13.FlowMore", spec := "flowMore", unfollowed := true, recurses := true, plainKeys := false, apart := false, narrowed := true }
def FlowMoreUptoSaid : Prop := flowMoreUptoRow.holds Try.pinned (OpenSpec.upto flowMoreSpec)

end Rows
end Go.Proofs.Ytnccbkmpoadeoaa
