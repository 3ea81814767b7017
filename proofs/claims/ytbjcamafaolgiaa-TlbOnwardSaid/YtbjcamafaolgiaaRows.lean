/-
  No cell of these rows narrows 'for every input' (looked for: loops, veiled, ifaces, maps, wideKeys, modest, calm, conditions, laid).
  DERIVED. THE GIVEN ROWS OF THIS SEAT. 4 by the template 'for every input the law returns true; each argument reads behind the call as it read before'; 0 by the template 'total and deterministic' (their statements: YtbjcamafaolgiaaTotals.lean).
  GIVEN WITH THE SEED: the statements are not yours to turn. If you find one false, say at which input.
  Laid BY PROGRAM, IN A SANDBOX (cutbox-rows.mjs): the forced cells as the released guide's own fill.sh prints them over the translation 6d95fa3d524dfe49… (all of the seat's roots in one cut). By AI agents, Wed Nov 11 2026. No macro, syntax, notation, axiom, sorry.
-/
import Derived.Test.YtbjcamafaolgiaaChecked
import GoSem.Claim
import GoSem.ClaimJoined
import GoSem.ClaimMapViews
import Derived.JoinedTies
import Derived.KernelRfl
namespace Go.Proofs.Ytbjcamafaolgiaa
/- THE CELL 'sum', in the pinned program and in every row, IS THE sha256 OF THE DUMP (.gsa) THAT YtbjcamafaolgiaaProg.lean LOADS. Nothing in Lean hashes anything: it is a label: what it is worth is what the hold of that sum in a sandbox is worth. -/
noncomputable def Try.pinned : Pinned := { name := "ytbjcamafaolgiaa", sum := "6d95fa3d524dfe49be0e6e7a838f96b569b40d38ffc4e85c207cbd0159fe85da", checked := Try.checked }
namespace Rows
def none {H : Type} : Left H := { results := [], args := [] }

/-- 'bulkheadlaw08.TlbLast': WHATEVER THE INPUT: true; the input reads as it did. -/
def tlbLastSpec : ChangeSpec := { name := "tlbLast", fn := fun _ => fun
  | [d] => { results := [.lit (.bool true)], args := [d] }
  | _ => none }
def tlbLastRow : OpenClaim := { program := "ytbjcamafaolgiaa", sum := "6d95fa3d524dfe49be0e6e7a838f96b569b40d38ffc4e85c207cbd0159fe85da", func := "bulkhead/bulkheadlaw08.TlbLast", spec := "tlbLast", unfollowed := true, recurses := true, apart := false }
def TlbLastSaid : Prop := tlbLastRow.holds Try.pinned (OpenSpec.ofChange tlbLastSpec)

/-- ITS FALSE NEIGHBOUR: 'it returns false'. Refute it at one input. -/
def tlbLastWrong : ChangeSpec := { name := "tlbLast", fn := fun _ => fun
  | [d] => { results := [.lit (.bool false)], args := [d] }
  | _ => none }
def TlbLastWrongFalsely : Prop := tlbLastRow.holds Try.pinned (OpenSpec.ofChange tlbLastWrong)

/-- 'bulkheadlaw08.TlbPlays': WHATEVER THE INPUT: true; the input reads as it did. -/
def tlbPlaysSpec : ChangeSpec := { name := "tlbPlays", fn := fun _ => fun
  | [d] => { results := [.lit (.bool true)], args := [d] }
  | _ => none }
def tlbPlaysRow : OpenClaim := { program := "ytbjcamafaolgiaa", sum := "6d95fa3d524dfe49be0e6e7a838f96b569b40d38ffc4e85c207cbd0159fe85da", func := "bulkhead/bulkheadlaw08.TlbPlays", spec := "tlbPlays", unfollowed := true, recurses := true, apart := false }
def TlbPlaysSaid : Prop := tlbPlaysRow.holds Try.pinned (OpenSpec.ofChange tlbPlaysSpec)

/-- ITS FALSE NEIGHBOUR: 'it returns false'. Refute it at one input. -/
def tlbPlaysWrong : ChangeSpec := { name := "tlbPlays", fn := fun _ => fun
  | [d] => { results := [.lit (.bool false)], args := [d] }
  | _ => none }
def TlbPlaysWrongFalsely : Prop := tlbPlaysRow.holds Try.pinned (OpenSpec.ofChange tlbPlaysWrong)

/-- 'bulkheadlaw08.TlbOnward': WHATEVER THE INPUT: true; the input reads as it did. -/
def tlbOnwardSpec : ChangeSpec := { name := "tlbOnward", fn := fun _ => fun
  | [d1, d2] => { results := [.lit (.bool true)], args := [d1, d2] }
  | _ => none }
def tlbOnwardRow : OpenClaim := { program := "ytbjcamafaolgiaa", sum := "6d95fa3d524dfe49be0e6e7a838f96b569b40d38ffc4e85c207cbd0159fe85da", func := "bulkhead/bulkheadlaw08.TlbOnward", spec := "tlbOnward", unfollowed := true, recurses := true, apart := false }
def TlbOnwardSaid : Prop := tlbOnwardRow.holds Try.pinned (OpenSpec.ofChange tlbOnwardSpec)

/-- ITS FALSE NEIGHBOUR: 'it returns false'. Refute it at one input. -/
def tlbOnwardWrong : ChangeSpec := { name := "tlbOnward", fn := fun _ => fun
  | [d1, d2] => { results := [.lit (.bool false)], args := [d1, d2] }
  | _ => none }
def TlbOnwardWrongFalsely : Prop := tlbOnwardRow.holds Try.pinned (OpenSpec.ofChange tlbOnwardWrong)

/-- 'bulkheadlaw08.TlbNil': WHATEVER THE INPUT: true; the input reads as it did. -/
def tlbNilSpec : ChangeSpec := { name := "tlbNil", fn := fun _ => fun
  | [d] => { results := [.lit (.bool true)], args := [d] }
  | _ => none }
def tlbNilRow : OpenClaim := { program := "ytbjcamafaolgiaa", sum := "6d95fa3d524dfe49be0e6e7a838f96b569b40d38ffc4e85c207cbd0159fe85da", func := "bulkhead/bulkheadlaw08.TlbNil", spec := "tlbNil", unfollowed := true, recurses := true, apart := false }
def TlbNilSaid : Prop := tlbNilRow.holds Try.pinned (OpenSpec.ofChange tlbNilSpec)

/-- ITS FALSE NEIGHBOUR: 'it returns false'. Refute it at one input. -/
def tlbNilWrong : ChangeSpec := { name := "tlbNil", fn := fun _ => fun
  | [d] => { results := [.lit (.bool false)], args := [d] }
  | _ => none }
def TlbNilWrongFalsely : Prop := tlbNilRow.holds Try.pinned (OpenSpec.ofChange tlbNilWrong)

/- THE SECOND FORM. 'bulk': how many values and letters a reading holds, each counted each time it is reached (what is shared counts as often as it is met; a slice's spare places count too). A statement '..UptoSaid' is the law's where the arguments, and the package variables that the reading takes, are together of bulk at most 1048576: NARROWER than '..Said'. Prove '..Said' where nothing that the law and all that it calls make is longer than what came in: it says more and counts as full. Else prove '..UptoSaid'. A law counts once. -/
mutual
def uptoBulk {H : Type} : DataW H → Nat
  | .lit (.string bytes) => bytes.length + 1
  | .lit _ => 1
  | .nil => 1
  | .ptr d => uptoBulk d + 1
  | .slice elems spare => uptoBulkAll elems + uptoBulkAll spare + 1
  | .agg parts => uptoBulkAll parts + 1
  | .iface _ d => uptoBulk d + 1
  | .map entries => uptoBulkEntries entries + 1
  | .held _ => 1
def uptoBulkAll {H : Type} : List (DataW H) → Nat
  | [] => 0
  | d :: r => uptoBulk d + uptoBulkAll r
def uptoBulkEntries {H : Type} : List (Lit × DataW H) → Nat
  | [] => 0
  | x :: r => uptoBulkEntry x + uptoBulkEntries r
def uptoBulkEntry {H : Type} : Lit × DataW H → Nat
  | (.string bytes, d) => bytes.length + uptoBulk d + 1
  | (_, d) => uptoBulk d + 1
 end
def uptoSmall : (H : Type) → List (DataW H) → Bool := fun _ ds => decide (uptoBulkAll ds ≤ 1048576)
def OpenSpec.upto (s : _root_.Go.ChangeSpec) : _root_.Go.OpenSpec := { _root_.Go.OpenSpec.ofChange s with cond := some uptoSmall }

/-- 'bulkheadlaw08.TlbLast', WHERE WHAT IT READS IS OF BULK AT MOST 1048576: true; the input reads as it did. -/
def tlbLastUptoRow : OpenClaim := { program := "ytbjcamafaolgiaa", sum := "6d95fa3d524dfe49be0e6e7a838f96b569b40d38ffc4e85c207cbd0159fe85da", func := "bulkhead/bulkheadlaw08.TlbLast", spec := "tlbLast", unfollowed := true, recurses := true, apart := false, narrowed := true }
def TlbLastUptoSaid : Prop := tlbLastUptoRow.holds Try.pinned (OpenSpec.upto tlbLastSpec)

/-- 'bulkheadlaw08.TlbPlays', WHERE WHAT IT READS IS OF BULK AT MOST 1048576: true; the input reads as it did. -/
def tlbPlaysUptoRow : OpenClaim := { program := "ytbjcamafaolgiaa", sum := "6d95fa3d524dfe49be0e6e7a838f96b569b40d38ffc4e85c207cbd0159fe85da", func := "bulkhead/bulkheadlaw08.TlbPlays", spec := "tlbPlays", unfollowed := true, recurses := true, apart := false, narrowed := true }
def TlbPlaysUptoSaid : Prop := tlbPlaysUptoRow.holds Try.pinned (OpenSpec.upto tlbPlaysSpec)

/-- 'bulkheadlaw08.TlbOnward', WHERE WHAT IT READS IS OF BULK AT MOST 1048576: true; the input reads as it did. -/
def tlbOnwardUptoRow : OpenClaim := { program := "ytbjcamafaolgiaa", sum := "6d95fa3d524dfe49be0e6e7a838f96b569b40d38ffc4e85c207cbd0159fe85da", func := "bulkhead/bulkheadlaw08.TlbOnward", spec := "tlbOnward", unfollowed := true, recurses := true, apart := false, narrowed := true }
def TlbOnwardUptoSaid : Prop := tlbOnwardUptoRow.holds Try.pinned (OpenSpec.upto tlbOnwardSpec)

/-- 'bulkheadlaw08.TlbNil', WHERE WHAT IT READS IS OF BULK AT MOST 1048576: true; the input reads as it did. -/
def tlbNilUptoRow : OpenClaim := { program := "ytbjcamafaolgiaa", sum := "6d95fa3d524dfe49be0e6e7a838f96b569b40d38ffc4e85c207cbd0159fe85da", func := "bulkhead/bulkheadlaw08.TlbNil", spec := "tlbNil", unfollowed := true, recurses := true, apart := false, narrowed := true }
def TlbNilUptoSaid : Prop := tlbNilUptoRow.holds Try.pinned (OpenSpec.upto tlbNilSpec)

end Rows
end Go.Proofs.Ytbjcamafaolgiaa
