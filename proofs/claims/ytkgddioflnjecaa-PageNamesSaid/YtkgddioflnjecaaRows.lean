/-
  No cell of these rows narrows 'for every input' (looked for: loops, veiled, ifaces, maps, wideKeys, modest, calm, conditions, laid).
  DERIVED. THE GIVEN ROWS OF THIS SEAT. 5 by the template 'for every input the law returns true; each argument reads behind the call as it read before'; 0 by the template 'total and deterministic' (their statements: YtkgddioflnjecaaTotals.lean).
  GIVEN WITH THE SEED: the statements are not yours to turn. If you find one false, say at which input.
  Laid BY PROGRAM, IN A SANDBOX (cutbox-rows.mjs): the forced cells as the released guide's own fill.sh prints them over the translation b8cc9daaee63c4eb… (all of the seat's roots in one cut). By AI agents, Wed Nov 11 2026. No macro, syntax, notation, axiom, sorry.
-/
import Derived.Test.YtkgddioflnjecaaChecked
import GoSem.Claim
import GoSem.ClaimJoined
import GoSem.ClaimMapViews
import Derived.JoinedTies
import Derived.KernelRfl
namespace Go.Proofs.Ytkgddioflnjecaa
/- THE CELL 'sum', in the pinned program and in every row, IS THE sha256 OF THE DUMP (.gsa) THAT YtkgddioflnjecaaProg.lean LOADS. Nothing in Lean hashes anything: it is a label: what it is worth is what the hold of that sum in a sandbox is worth. -/
noncomputable def Try.pinned : Pinned := { name := "ytkgddioflnjecaa", sum := "b8cc9daaee63c4ebf808179749d2a4c64e749bc1c68edc70325380a949602b01", checked := Try.checked }
namespace Rows
def none {H : Type} : Left H := { results := [], args := [] }

/-- 'bulkheadlaw09.PageNames': WHATEVER THE INPUT: true; the input reads as it did. -/
def pageNamesSpec : ChangeSpec := { name := "pageNames", fn := fun _ => fun
  | [] => { results := [.lit (.bool true)], args := [] }
  | _ => none }
def pageNamesRow : OpenClaim := { program := "ytkgddioflnjecaa", sum := "b8cc9daaee63c4ebf808179749d2a4c64e749bc1c68edc70325380a949602b01", func := "bulkhead/bulkheadlaw09.PageNames", spec := "pageNames", apart := false }
def PageNamesSaid : Prop := pageNamesRow.holds Try.pinned (OpenSpec.ofChange pageNamesSpec)

/-- ITS FALSE NEIGHBOUR: 'it returns false'. Refute it at one input. -/
def pageNamesWrong : ChangeSpec := { name := "pageNames", fn := fun _ => fun
  | [] => { results := [.lit (.bool false)], args := [] }
  | _ => none }
def PageNamesWrongFalsely : Prop := pageNamesRow.holds Try.pinned (OpenSpec.ofChange pageNamesWrong)

/-- 'bulkheadlaw09.PageEntries': WHATEVER THE INPUT: true; the input reads as it did. -/
def pageEntriesSpec : ChangeSpec := { name := "pageEntries", fn := fun _ => fun
  | [d1, d2, d3] => { results := [.lit (.bool true)], args := [d1, d2, d3] }
  | _ => none }
def pageEntriesRow : OpenClaim := { program := "ytkgddioflnjecaa", sum := "b8cc9daaee63c4ebf808179749d2a4c64e749bc1c68edc70325380a949602b01", func := "bulkhead/bulkheadlaw09.PageEntries", spec := "pageEntries", apart := false }
def PageEntriesSaid : Prop := pageEntriesRow.holds Try.pinned (OpenSpec.ofChange pageEntriesSpec)

/-- ITS FALSE NEIGHBOUR: 'it returns false'. Refute it at one input. -/
def pageEntriesWrong : ChangeSpec := { name := "pageEntries", fn := fun _ => fun
  | [d1, d2, d3] => { results := [.lit (.bool false)], args := [d1, d2, d3] }
  | _ => none }
def PageEntriesWrongFalsely : Prop := pageEntriesRow.holds Try.pinned (OpenSpec.ofChange pageEntriesWrong)

/-- 'bulkheadlaw09.PageLive': WHATEVER THE INPUT: true; the input reads as it did. -/
def pageLiveSpec : ChangeSpec := { name := "pageLive", fn := fun _ => fun
  | [d1, d2, d3] => { results := [.lit (.bool true)], args := [d1, d2, d3] }
  | _ => none }
def pageLiveRow : OpenClaim := { program := "ytkgddioflnjecaa", sum := "b8cc9daaee63c4ebf808179749d2a4c64e749bc1c68edc70325380a949602b01", func := "bulkhead/bulkheadlaw09.PageLive", spec := "pageLive", unfollowed := true, recurses := true, apart := false }
def PageLiveSaid : Prop := pageLiveRow.holds Try.pinned (OpenSpec.ofChange pageLiveSpec)

/-- ITS FALSE NEIGHBOUR: 'it returns false'. Refute it at one input. -/
def pageLiveWrong : ChangeSpec := { name := "pageLive", fn := fun _ => fun
  | [d1, d2, d3] => { results := [.lit (.bool false)], args := [d1, d2, d3] }
  | _ => none }
def PageLiveWrongFalsely : Prop := pageLiveRow.holds Try.pinned (OpenSpec.ofChange pageLiveWrong)

/-- 'bulkheadlaw09.PageExact': WHATEVER THE INPUT: true; the input reads as it did. -/
def pageExactSpec : ChangeSpec := { name := "pageExact", fn := fun _ => fun
  | [d1, d2] => { results := [.lit (.bool true)], args := [d1, d2] }
  | _ => none }
def pageExactRow : OpenClaim := { program := "ytkgddioflnjecaa", sum := "b8cc9daaee63c4ebf808179749d2a4c64e749bc1c68edc70325380a949602b01", func := "bulkhead/bulkheadlaw09.PageExact", spec := "pageExact", unfollowed := true, recurses := true, apart := false }
def PageExactSaid : Prop := pageExactRow.holds Try.pinned (OpenSpec.ofChange pageExactSpec)

/-- ITS FALSE NEIGHBOUR: 'it returns false'. Refute it at one input. -/
def pageExactWrong : ChangeSpec := { name := "pageExact", fn := fun _ => fun
  | [d1, d2] => { results := [.lit (.bool false)], args := [d1, d2] }
  | _ => none }
def PageExactWrongFalsely : Prop := pageExactRow.holds Try.pinned (OpenSpec.ofChange pageExactWrong)

/-- 'bulkheadlaw09.PageMaps': WHATEVER THE INPUT: true; the input reads as it did. -/
def pageMapsSpec : ChangeSpec := { name := "pageMaps", fn := fun _ => fun
  | [d1, d2, d3] => { results := [.lit (.bool true)], args := [d1, d2, d3] }
  | _ => none }
def pageMapsRow : OpenClaim := { program := "ytkgddioflnjecaa", sum := "b8cc9daaee63c4ebf808179749d2a4c64e749bc1c68edc70325380a949602b01", func := "bulkhead/bulkheadlaw09.PageMaps", spec := "pageMaps", unfollowed := true, recurses := true, apart := false }
def PageMapsSaid : Prop := pageMapsRow.holds Try.pinned (OpenSpec.ofChange pageMapsSpec)

/-- ITS FALSE NEIGHBOUR: 'it returns false'. Refute it at one input. -/
def pageMapsWrong : ChangeSpec := { name := "pageMaps", fn := fun _ => fun
  | [d1, d2, d3] => { results := [.lit (.bool false)], args := [d1, d2, d3] }
  | _ => none }
def PageMapsWrongFalsely : Prop := pageMapsRow.holds Try.pinned (OpenSpec.ofChange pageMapsWrong)

/- THE SECOND FORM. 'bulk': how many values and letters a reading holds, each counted each time it is reached (what is shared counts as often as it is met; a slice's spare places count too). A statement '..UptoSaid' is the law's where the arguments, and the package variables that the reading takes, are together of bulk at most 1048576: NARROWER than '..Said'. Prove '..Said' where nothing that the law and all that it calls make is longer than what came in: it says more and counts as full. Else prove '..UptoSaid'. A law counts once. -/
mutual
def uptoBulk {H : Type} : DataW H → Nat
  | .lit (.string bytes) => bytes.length + 1
  | .lit _ => 1
  | .nil => 1
  | .ptr d => uptoBulk d + 1
  | .slice elems spare => uptoBulkAll elems + uptoBulkAll spare + 1
  | .agg parts => uptoBulkAll parts + 1
  | .iface _ d => uptoBulk d + 1
  | .map entries => uptoBulkEntries entries + 1
  | .held _ => 1
def uptoBulkAll {H : Type} : List (DataW H) → Nat
  | [] => 0
  | d :: r => uptoBulk d + uptoBulkAll r
def uptoBulkEntries {H : Type} : List (Lit × DataW H) → Nat
  | [] => 0
  | x :: r => uptoBulkEntry x + uptoBulkEntries r
def uptoBulkEntry {H : Type} : Lit × DataW H → Nat
  | (.string bytes, d) => bytes.length + uptoBulk d + 1
  | (_, d) => uptoBulk d + 1
 end
def uptoSmall : (H : Type) → List (DataW H) → Bool := fun _ ds => decide (uptoBulkAll ds ≤ 1048576)
def OpenSpec.upto (s : _root_.Go.ChangeSpec) : _root_.Go.OpenSpec := { _root_.Go.OpenSpec.ofChange s with cond := some uptoSmall }

/-- 'bulkheadlaw09.PageNames', WHERE WHAT IT READS IS OF BULK AT MOST 1048576: true; the input reads as it did. -/
def pageNamesUptoRow : OpenClaim := { program := "ytkgddioflnjecaa", sum := "b8cc9daaee63c4ebf808179749d2a4c64e749bc1c68edc70325380a949602b01", func := "bulkhead/bulkheadlaw09.PageNames", spec := "pageNames", apart := false, narrowed := true }
def PageNamesUptoSaid : Prop := pageNamesUptoRow.holds Try.pinned (OpenSpec.upto pageNamesSpec)

/-- 'bulkheadlaw09.PageEntries', WHERE WHAT IT READS IS OF BULK AT MOST 1048576: true; the input reads as it did. -/
def pageEntriesUptoRow : OpenClaim := { program := "ytkgddioflnjecaa", sum := "b8cc9daaee63c4ebf808179749d2a4c64e749bc1c68edc70325380a949602b01", func := "bulkhead/bulkheadlaw09.PageEntries", spec := "pageEntries", apart := false, narrowed := true }
def PageEntriesUptoSaid : Prop := pageEntriesUptoRow.holds Try.pinned (OpenSpec.upto pageEntriesSpec)

/-- 'bulkheadlaw09.PageLive', WHERE WHAT IT READS IS OF BULK AT MOST 1048576: true; the input reads as it did. -/
def pageLiveUptoRow : OpenClaim := { program := "ytkgddioflnjecaa", sum := "b8cc9daaee63c4ebf808179749d2a4c64e749bc1c68edc70325380a949602b01", func := "bulkhead/bulkheadlaw09.PageLive", spec := "pageLive", unfollowed := true, recurses := true, apart := false, narrowed := true }
def PageLiveUptoSaid : Prop := pageLiveUptoRow.holds Try.pinned (OpenSpec.upto pageLiveSpec)

/-- 'bulkheadlaw09.PageExact', WHERE WHAT IT READS IS OF BULK AT MOST 1048576: true; the input reads as it did. -/
def pageExactUptoRow : OpenClaim := { program := "ytkgddioflnjecaa", sum := "b8cc9daaee63c4ebf808179749d2a4c64e749bc1c68edc70325380a949602b01", func := "bulkhead/bulkheadlaw09.PageExact", spec := "pageExact", unfollowed := true, recurses := true, apart := false, narrowed := true }
def PageExactUptoSaid : Prop := pageExactUptoRow.holds Try.pinned (OpenSpec.upto pageExactSpec)

/-- 'bulkheadlaw09.PageMaps', WHERE WHAT IT READS IS OF BULK AT MOST 1048576: true; the input reads as it did. -/
def pageMapsUptoRow : OpenClaim := { program := "ytkgddioflnjecaa", sum := "b8cc9daaee63c4ebf808179749d2a4c64e749bc1c68edc70325380a949602b01", func := "bulkhead/bulkheadlaw09.PageMaps", spec := "pageMaps", unfollowed := true, recurses := true, apart := false, narrowed := true }
def PageMapsUptoSaid : Prop := pageMapsUptoRow.holds Try.pinned (OpenSpec.upto pageMapsSpec)

end Rows
end Go.Proofs.Ytkgddioflnjecaa
