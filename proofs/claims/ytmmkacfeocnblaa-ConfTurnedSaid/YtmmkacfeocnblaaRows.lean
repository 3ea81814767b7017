/-
  No cell of these rows narrows 'for every input' (looked for: loops, veiled, ifaces, maps, wideKeys, modest, calm, conditions, laid).
  DERIVED. THE GIVEN ROWS OF THIS SEAT. 8 by the template 'for every input the law returns true; each argument reads behind the call as it read before'; 0 by the template 'total and deterministic' (their statements: YtmmkacfeocnblaaTotals.lean).
  GIVEN WITH THE SEED: the statements are not yours to turn. If you find one false, say at which input.
  Laid BY PROGRAM, IN A SANDBOX (cutbox-rows.mjs): the forced cells as the released guide's own fill.sh prints them over the translation 3fafd22c8eb1db47… (all of the seat's roots in one cut). By AI agents, Wed Nov 11 2026. No macro, syntax, notation, axiom, sorry.
-/
import Derived.Test.YtmmkacfeocnblaaChecked
import GoSem.Claim
import GoSem.ClaimJoined
import GoSem.ClaimMapViews
import Derived.JoinedTies
import Derived.KernelRfl
namespace Go.Proofs.Ytmmkacfeocnblaa
/- THE CELL 'sum', in the pinned program and in every row, IS THE sha256 OF THE DUMP (.gsa) THAT YtmmkacfeocnblaaProg.lean LOADS. Nothing in Lean hashes anything: it is a label: what it is worth is what the hold of that sum in a sandbox is worth. -/
noncomputable def Try.pinned : Pinned := { name := "ytmmkacfeocnblaa", sum := "3fafd22c8eb1db4780a4e9ac20439a4fe803af2b94e7345754e5469ea5ae9817", checked := Try.checked }
namespace Rows
def none {H : Type} : Left H := { results := [], args := [] }

/-- 'bulkheadlaw11.ConfWrites': WHATEVER THE INPUT: true; the input reads as it did. -/
def confWritesSpec : ChangeSpec := { name := "confWrites", fn := fun _ => fun
  | [d] => { results := [.lit (.bool true)], args := [d] }
  | _ => none }
def confWritesRow : OpenClaim := { program := "ytmmkacfeocnblaa", sum := "3fafd22c8eb1db4780a4e9ac20439a4fe803af2b94e7345754e5469ea5ae9817", func := "bulkhead/bulkheadlaw11.ConfWrites", spec := "confWrites", unfollowed := true, recurses := true, apart := false }
def ConfWritesSaid : Prop := confWritesRow.holds Try.pinned (OpenSpec.ofChange confWritesSpec)

/-- ITS FALSE NEIGHBOUR: 'it returns false'. Refute it at one input. -/
def confWritesWrong : ChangeSpec := { name := "confWrites", fn := fun _ => fun
  | [d] => { results := [.lit (.bool false)], args := [d] }
  | _ => none }
def ConfWritesWrongFalsely : Prop := confWritesRow.holds Try.pinned (OpenSpec.ofChange confWritesWrong)

/-- 'bulkheadlaw11.ConfNames': WHATEVER THE INPUT: true; the input reads as it did. -/
def confNamesSpec : ChangeSpec := { name := "confNames", fn := fun _ => fun
  | [] => { results := [.lit (.bool true)], args := [] }
  | _ => none }
def confNamesRow : OpenClaim := { program := "ytmmkacfeocnblaa", sum := "3fafd22c8eb1db4780a4e9ac20439a4fe803af2b94e7345754e5469ea5ae9817", func := "bulkhead/bulkheadlaw11.ConfNames", spec := "confNames", unfollowed := true, recurses := true, apart := false }
def ConfNamesSaid : Prop := confNamesRow.holds Try.pinned (OpenSpec.ofChange confNamesSpec)

/-- ITS FALSE NEIGHBOUR: 'it returns false'. Refute it at one input. -/
def confNamesWrong : ChangeSpec := { name := "confNames", fn := fun _ => fun
  | [] => { results := [.lit (.bool false)], args := [] }
  | _ => none }
def ConfNamesWrongFalsely : Prop := confNamesRow.holds Try.pinned (OpenSpec.ofChange confNamesWrong)

/-- 'bulkheadlaw11.ConfReads': WHATEVER THE INPUT: true; the input reads as it did. -/
def confReadsSpec : ChangeSpec := { name := "confReads", fn := fun _ => fun
  | [d] => { results := [.lit (.bool true)], args := [d] }
  | _ => none }
def confReadsRow : OpenClaim := { program := "ytmmkacfeocnblaa", sum := "3fafd22c8eb1db4780a4e9ac20439a4fe803af2b94e7345754e5469ea5ae9817", func := "bulkhead/bulkheadlaw11.ConfReads", spec := "confReads", unfollowed := true, recurses := true, apart := false }
def ConfReadsSaid : Prop := confReadsRow.holds Try.pinned (OpenSpec.ofChange confReadsSpec)

/-- ITS FALSE NEIGHBOUR: 'it returns false'. Refute it at one input. -/
def confReadsWrong : ChangeSpec := { name := "confReads", fn := fun _ => fun
  | [d] => { results := [.lit (.bool false)], args := [d] }
  | _ => none }
def ConfReadsWrongFalsely : Prop := confReadsRow.holds Try.pinned (OpenSpec.ofChange confReadsWrong)

/-- 'bulkheadlaw11.ConfBack': WHATEVER THE INPUT: true; the input reads as it did. -/
def confBackSpec : ChangeSpec := { name := "confBack", fn := fun _ => fun
  | [d] => { results := [.lit (.bool true)], args := [d] }
  | _ => none }
def confBackRow : OpenClaim := { program := "ytmmkacfeocnblaa", sum := "3fafd22c8eb1db4780a4e9ac20439a4fe803af2b94e7345754e5469ea5ae9817", func := "bulkhead/bulkheadlaw11.ConfBack", spec := "confBack", unfollowed := true, recurses := true, apart := false }
def ConfBackSaid : Prop := confBackRow.holds Try.pinned (OpenSpec.ofChange confBackSpec)

/-- ITS FALSE NEIGHBOUR: 'it returns false'. Refute it at one input. -/
def confBackWrong : ChangeSpec := { name := "confBack", fn := fun _ => fun
  | [d] => { results := [.lit (.bool false)], args := [d] }
  | _ => none }
def ConfBackWrongFalsely : Prop := confBackRow.holds Try.pinned (OpenSpec.ofChange confBackWrong)

/-- 'bulkheadlaw11.ConfOne': WHATEVER THE INPUT: true; the input reads as it did. -/
def confOneSpec : ChangeSpec := { name := "confOne", fn := fun _ => fun
  | [d] => { results := [.lit (.bool true)], args := [d] }
  | _ => none }
def confOneRow : OpenClaim := { program := "ytmmkacfeocnblaa", sum := "3fafd22c8eb1db4780a4e9ac20439a4fe803af2b94e7345754e5469ea5ae9817", func := "bulkhead/bulkheadlaw11.ConfOne", spec := "confOne", unfollowed := true, recurses := true, apart := false }
def ConfOneSaid : Prop := confOneRow.holds Try.pinned (OpenSpec.ofChange confOneSpec)

/-- ITS FALSE NEIGHBOUR: 'it returns false'. Refute it at one input. -/
def confOneWrong : ChangeSpec := { name := "confOne", fn := fun _ => fun
  | [d] => { results := [.lit (.bool false)], args := [d] }
  | _ => none }
def ConfOneWrongFalsely : Prop := confOneRow.holds Try.pinned (OpenSpec.ofChange confOneWrong)

/-- 'bulkheadlaw11.ConfTurned': WHATEVER THE INPUT: true; the input reads as it did. -/
def confTurnedSpec : ChangeSpec := { name := "confTurned", fn := fun _ => fun
  | [d1, d2, d3] => { results := [.lit (.bool true)], args := [d1, d2, d3] }
  | _ => none }
def confTurnedRow : OpenClaim := { program := "ytmmkacfeocnblaa", sum := "3fafd22c8eb1db4780a4e9ac20439a4fe803af2b94e7345754e5469ea5ae9817", func := "bulkhead/bulkheadlaw11.ConfTurned", spec := "confTurned", unfollowed := true, recurses := true, apart := false }
def ConfTurnedSaid : Prop := confTurnedRow.holds Try.pinned (OpenSpec.ofChange confTurnedSpec)

/-- ITS FALSE NEIGHBOUR: 'it returns false'. Refute it at one input. -/
def confTurnedWrong : ChangeSpec := { name := "confTurned", fn := fun _ => fun
  | [d1, d2, d3] => { results := [.lit (.bool false)], args := [d1, d2, d3] }
  | _ => none }
def ConfTurnedWrongFalsely : Prop := confTurnedRow.holds Try.pinned (OpenSpec.ofChange confTurnedWrong)

/-- 'bulkheadlaw11.ConfCut': WHATEVER THE INPUT: true; the input reads as it did. -/
def confCutSpec : ChangeSpec := { name := "confCut", fn := fun _ => fun
  | [d1, d2, d3] => { results := [.lit (.bool true)], args := [d1, d2, d3] }
  | _ => none }
def confCutRow : OpenClaim := { program := "ytmmkacfeocnblaa", sum := "3fafd22c8eb1db4780a4e9ac20439a4fe803af2b94e7345754e5469ea5ae9817", func := "bulkhead/bulkheadlaw11.ConfCut", spec := "confCut", unfollowed := true, recurses := true, apart := false }
def ConfCutSaid : Prop := confCutRow.holds Try.pinned (OpenSpec.ofChange confCutSpec)

/-- ITS FALSE NEIGHBOUR: 'it returns false'. Refute it at one input. -/
def confCutWrong : ChangeSpec := { name := "confCut", fn := fun _ => fun
  | [d1, d2, d3] => { results := [.lit (.bool false)], args := [d1, d2, d3] }
  | _ => none }
def ConfCutWrongFalsely : Prop := confCutRow.holds Try.pinned (OpenSpec.ofChange confCutWrong)

/-- 'bulkheadlaw11.ConfKeeps': WHATEVER THE INPUT: true; the input reads as it did. -/
def confKeepsSpec : ChangeSpec := { name := "confKeeps", fn := fun _ => fun
  | [d] => { results := [.lit (.bool true)], args := [d] }
  | _ => none }
def confKeepsRow : OpenClaim := { program := "ytmmkacfeocnblaa", sum := "3fafd22c8eb1db4780a4e9ac20439a4fe803af2b94e7345754e5469ea5ae9817", func := "bulkhead/bulkheadlaw11.ConfKeeps", spec := "confKeeps", unfollowed := true, recurses := true, apart := false }
def ConfKeepsSaid : Prop := confKeepsRow.holds Try.pinned (OpenSpec.ofChange confKeepsSpec)

/-- ITS FALSE NEIGHBOUR: 'it returns false'. Refute it at one input. -/
def confKeepsWrong : ChangeSpec := { name := "confKeeps", fn := fun _ => fun
  | [d] => { results := [.lit (.bool false)], args := [d] }
  | _ => none }
def ConfKeepsWrongFalsely : Prop := confKeepsRow.holds Try.pinned (OpenSpec.ofChange confKeepsWrong)

/- THE SECOND FORM. 'bulk': how many values and letters a reading holds, each counted each time it is reached (what is shared counts as often as it is met; a slice's spare places count too). A statement '..UptoSaid' is the law's where the arguments, and the package variables that the reading takes, are together of bulk at most 1048576: NARROWER than '..Said'. Prove '..Said' where nothing that the law and all that it calls make is longer than what came in: it says more and counts as full. Else prove '..UptoSaid'. A law counts once. -/
mutual
def uptoBulk {H : Type} : DataW H → Nat
  | .lit (.string bytes) => bytes.length + 1
  | .lit _ => 1
  | .nil => 1
  | .ptr d => uptoBulk d + 1
  | .slice elems spare => uptoBulkAll elems + uptoBulkAll spare + 1
  | .agg parts => uptoBulkAll parts + 1
  | .iface _ d => uptoBulk d + 1
  | .map entries => uptoBulkEntries entries + 1
  | .held _ => 1
def uptoBulkAll {H : Type} : List (DataW H) → Nat
  | [] => 0
  | d :: r => uptoBulk d + uptoBulkAll r
def uptoBulkEntries {H : Type} : List (Lit × DataW H) → Nat
  | [] => 0
  | x :: r => uptoBulkEntry x + uptoBulkEntries r
def uptoBulkEntry {H : Type} : Lit × DataW H → Nat
  | (.string bytes, d) => bytes.length + uptoBulk d + 1
  | (_, d) => uptoBulk d + 1
 end
def uptoSmall : (H : Type) → List (DataW H) → Bool := fun _ ds => decide (uptoBulkAll ds ≤ 1048576)
def OpenSpec.upto (s : _root_.Go.ChangeSpec) : _root_.Go.OpenSpec := { _root_.Go.OpenSpec.ofChange s with cond := some uptoSmall }

/-- 'bulkheadlaw11.ConfWrites', WHERE WHAT IT READS IS OF BULK AT MOST 1048576: true; the input reads as it did. -/
def confWritesUptoRow : OpenClaim := { program := "ytmmkacfeocnblaa", sum := "3fafd22c8eb1db4780a4e9ac20439a4fe803af2b94e7345754e5469ea5ae9817", func := "bulkhead/bulkheadlaw11.ConfWrites", spec := "confWrites", unfollowed := true, recurses := true, apart := false, narrowed := true }
def ConfWritesUptoSaid : Prop := confWritesUptoRow.holds Try.pinned (OpenSpec.upto confWritesSpec)

/-- 'bulkheadlaw11.ConfNames', WHERE WHAT IT READS IS OF BULK AT MOST 1048576: true; the input reads as it did. -/
def confNamesUptoRow : OpenClaim := { program := "ytmmkacfeocnblaa", sum := "3fafd22c8eb1db4780a4e9ac20439a4fe803af2b94e7345754e5469ea5ae9817", func := "bulkhead/bulkheadlaw11.ConfNames", spec := "confNames", unfollowed := true, recurses := true, apart := false, narrowed := true }
def ConfNamesUptoSaid : Prop := confNamesUptoRow.holds Try.pinned (OpenSpec.upto confNamesSpec)

/-- 'bulkheadlaw11.ConfReads', WHERE WHAT IT READS IS OF BULK AT MOST 1048576: true; the input reads as it did. -/
def confReadsUptoRow : OpenClaim := { program := "ytmmkacfeocnblaa", sum := "3fafd22c8eb1db4780a4e9ac20439a4fe803af2b94e7345754e5469ea5ae9817", func := "bulkhead/bulkheadlaw11.ConfReads", spec := "confReads", unfollowed := true, recurses := true, apart := false, narrowed := true }
def ConfReadsUptoSaid : Prop := confReadsUptoRow.holds Try.pinned (OpenSpec.upto confReadsSpec)

/-- 'bulkheadlaw11.ConfBack', WHERE WHAT IT READS IS OF BULK AT MOST 1048576: true; the input reads as it did. -/
def confBackUptoRow : OpenClaim := { program := "ytmmkacfeocnblaa", sum := "3fafd22c8eb1db4780a4e9ac20439a4fe803af2b94e7345754e5469ea5ae9817", func := "bulkhead/bulkheadlaw11.ConfBack", spec := "confBack", unfollowed := true, recurses := true, apart := false, narrowed := true }
def ConfBackUptoSaid : Prop := confBackUptoRow.holds Try.pinned (OpenSpec.upto confBackSpec)

/-- 'bulkheadlaw11.ConfOne', WHERE WHAT IT READS IS OF BULK AT MOST 1048576: true; the input reads as it did. -/
def confOneUptoRow : OpenClaim := { program := "ytmmkacfeocnblaa", sum := "3fafd22c8eb1db4780a4e9ac20439a4fe803af2b94e7345754e5469ea5ae9817", func := "bulkhead/bulkheadlaw11.ConfOne", spec := "confOne", unfollowed := true, recurses := true, apart := false, narrowed := true }
def ConfOneUptoSaid : Prop := confOneUptoRow.holds Try.pinned (OpenSpec.upto confOneSpec)

/-- 'bulkheadlaw11.ConfTurned', WHERE WHAT IT READS IS OF BULK AT MOST 1048576: true; the input reads as it did. -/
def confTurnedUptoRow : OpenClaim := { program := "ytmmkacfeocnblaa", sum := "3fafd22c8eb1db4780a4e9ac20439a4fe803af2b94e7345754e5469ea5ae9817", func := "bulkhead/bulkheadlaw11.ConfTurned", spec := "confTurned", unfollowed := true, recurses := true, apart := false, narrowed := true }
def ConfTurnedUptoSaid : Prop := confTurnedUptoRow.holds Try.pinned (OpenSpec.upto confTurnedSpec)

/-- 'bulkheadlaw11.ConfCut', WHERE WHAT IT READS IS OF BULK AT MOST 1048576: true; the input reads as it did. -/
def confCutUptoRow : OpenClaim := { program := "ytmmkacfeocnblaa", sum := "3fafd22c8eb1db4780a4e9ac20439a4fe803af2b94e7345754e5469ea5ae9817", func := "bulkhead/bulkheadlaw11.ConfCut", spec := "confCut", unfollowed := true, recurses := true, apart := false, narrowed := true }
def ConfCutUptoSaid : Prop := confCutUptoRow.holds Try.pinned (OpenSpec.upto confCutSpec)

/-- 'bulkheadlaw11.ConfKeeps', WHERE WHAT IT READS IS OF BULK AT MOST 1048576: true; the input reads as it did. -/
def confKeepsUptoRow : OpenClaim := { program := "ytmmkacfeocnblaa", sum := "3fafd22c8eb1db4780a4e9ac20439a4fe803af2b94e7345754e5469ea5ae9817", func := "bulkhead/bulkheadlaw11.ConfKeeps", spec := "confKeeps", unfollowed := true, recurses := true, apart := false, narrowed := true }
def ConfKeepsUptoSaid : Prop := confKeepsUptoRow.holds Try.pinned (OpenSpec.upto confKeepsSpec)

end Rows
end Go.Proofs.Ytmmkacfeocnblaa
