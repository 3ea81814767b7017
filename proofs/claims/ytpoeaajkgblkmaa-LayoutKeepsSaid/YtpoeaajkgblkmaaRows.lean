/-
  No cell of these rows narrows 'for every input' (looked for: loops, veiled, ifaces, maps, wideKeys, modest, calm, conditions, laid).
  DERIVED. THE GIVEN ROWS OF THIS SEAT. 8 by the template 'for every input the law returns true; each argument reads behind the call as it read before'; 0 by the template 'total and deterministic' (their statements: YtpoeaajkgblkmaaTotals.lean).
  GIVEN WITH THE SEED: the statements are not yours to turn. If you find one false, say at which input.
  Laid BY PROGRAM, IN A SANDBOX (cutbox-rows.mjs): the forced cells as the released guide's own fill.sh prints them over the translation af1ecea5922c987d… (all of the seat's roots in one cut). By AI agents, Wed Nov 11 2026. No macro, syntax, notation, axiom, sorry.
-/
import Derived.Test.YtpoeaajkgblkmaaChecked
import GoSem.Claim
import GoSem.ClaimJoined
import GoSem.ClaimMapViews
import Derived.JoinedTies
import Derived.KernelRfl
namespace Go.Proofs.Ytpoeaajkgblkmaa
/- THE CELL 'sum', in the pinned program and in every row, IS THE sha256 OF THE DUMP (.gsa) THAT YtpoeaajkgblkmaaProg.lean LOADS. Nothing in Lean hashes anything: it is a label: what it is worth is what the hold of that sum in a sandbox is worth. -/
noncomputable def Try.pinned : Pinned := { name := "ytpoeaajkgblkmaa", sum := "af1ecea5922c987d5cf5cc168bd6842b1d236f1ac13245df5c6a03cb92136663", checked := Try.checked }
namespace Rows
def none {H : Type} : Left H := { results := [], args := [] }

/-- 'bulkheadlaw15.LayoutSizes': WHATEVER THE INPUT: true; the input reads as it did. -/
def layoutSizesSpec : ChangeSpec := { name := "layoutSizes", fn := fun _ => fun
  | [d] => { results := [.lit (.bool true)], args := [d] }
  | _ => none }
def layoutSizesRow : OpenClaim := { program := "ytpoeaajkgblkmaa", sum := "af1ecea5922c987d5cf5cc168bd6842b1d236f1ac13245df5c6a03cb92136663", func := "bulkhead/bulkheadlaw15.LayoutSizes", spec := "layoutSizes", apart := false }
def LayoutSizesSaid : Prop := layoutSizesRow.holds Try.pinned (OpenSpec.ofChange layoutSizesSpec)

/-- ITS FALSE NEIGHBOUR: 'it returns false'. Refute it at one input. -/
def layoutSizesWrong : ChangeSpec := { name := "layoutSizes", fn := fun _ => fun
  | [d] => { results := [.lit (.bool false)], args := [d] }
  | _ => none }
def LayoutSizesWrongFalsely : Prop := layoutSizesRow.holds Try.pinned (OpenSpec.ofChange layoutSizesWrong)

/-- 'bulkheadlaw15.LayoutMoves': WHATEVER THE INPUT: true; the input reads as it did. -/
def layoutMovesSpec : ChangeSpec := { name := "layoutMoves", fn := fun _ => fun
  | [d1, d2, d3] => { results := [.lit (.bool true)], args := [d1, d2, d3] }
  | _ => none }
def layoutMovesRow : OpenClaim := { program := "ytpoeaajkgblkmaa", sum := "af1ecea5922c987d5cf5cc168bd6842b1d236f1ac13245df5c6a03cb92136663", func := "bulkhead/bulkheadlaw15.LayoutMoves", spec := "layoutMoves", unfollowed := true, recurses := true, apart := false }
def LayoutMovesSaid : Prop := layoutMovesRow.holds Try.pinned (OpenSpec.ofChange layoutMovesSpec)

/-- ITS FALSE NEIGHBOUR: 'it returns false'. Refute it at one input. -/
def layoutMovesWrong : ChangeSpec := { name := "layoutMoves", fn := fun _ => fun
  | [d1, d2, d3] => { results := [.lit (.bool false)], args := [d1, d2, d3] }
  | _ => none }
def LayoutMovesWrongFalsely : Prop := layoutMovesRow.holds Try.pinned (OpenSpec.ofChange layoutMovesWrong)

/-- 'bulkheadlaw15.LayoutKeeps': WHATEVER THE INPUT: true; the input reads as it did. -/
def layoutKeepsSpec : ChangeSpec := { name := "layoutKeeps", fn := fun _ => fun
  | [d] => { results := [.lit (.bool true)], args := [d] }
  | _ => none }
def layoutKeepsRow : OpenClaim := { program := "ytpoeaajkgblkmaa", sum := "af1ecea5922c987d5cf5cc168bd6842b1d236f1ac13245df5c6a03cb92136663", func := "bulkhead/bulkheadlaw15.LayoutKeeps", spec := "layoutKeeps", unfollowed := true, recurses := true, apart := false }
def LayoutKeepsSaid : Prop := layoutKeepsRow.holds Try.pinned (OpenSpec.ofChange layoutKeepsSpec)

/-- ITS FALSE NEIGHBOUR: 'it returns false'. Refute it at one input. -/
def layoutKeepsWrong : ChangeSpec := { name := "layoutKeeps", fn := fun _ => fun
  | [d] => { results := [.lit (.bool false)], args := [d] }
  | _ => none }
def LayoutKeepsWrongFalsely : Prop := layoutKeepsRow.holds Try.pinned (OpenSpec.ofChange layoutKeepsWrong)

/-- 'bulkheadlaw15.LayoutNames': WHATEVER THE INPUT: true; the input reads as it did. -/
def layoutNamesSpec : ChangeSpec := { name := "layoutNames", fn := fun _ => fun
  | [] => { results := [.lit (.bool true)], args := [] }
  | _ => none }
def layoutNamesRow : OpenClaim := { program := "ytpoeaajkgblkmaa", sum := "af1ecea5922c987d5cf5cc168bd6842b1d236f1ac13245df5c6a03cb92136663", func := "bulkhead/bulkheadlaw15.LayoutNames", spec := "layoutNames", unfollowed := true, recurses := true, apart := false }
def LayoutNamesSaid : Prop := layoutNamesRow.holds Try.pinned (OpenSpec.ofChange layoutNamesSpec)

/-- ITS FALSE NEIGHBOUR: 'it returns false'. Refute it at one input. -/
def layoutNamesWrong : ChangeSpec := { name := "layoutNames", fn := fun _ => fun
  | [] => { results := [.lit (.bool false)], args := [] }
  | _ => none }
def LayoutNamesWrongFalsely : Prop := layoutNamesRow.holds Try.pinned (OpenSpec.ofChange layoutNamesWrong)

/-- 'bulkheadlaw15.LayoutIs': WHATEVER THE INPUT: true; the input reads as it did. -/
def layoutIsSpec : ChangeSpec := { name := "layoutIs", fn := fun _ => fun
  | [d] => { results := [.lit (.bool true)], args := [d] }
  | _ => none }
def layoutIsRow : OpenClaim := { program := "ytpoeaajkgblkmaa", sum := "af1ecea5922c987d5cf5cc168bd6842b1d236f1ac13245df5c6a03cb92136663", func := "bulkhead/bulkheadlaw15.LayoutIs", spec := "layoutIs", unfollowed := true, recurses := true, apart := false }
def LayoutIsSaid : Prop := layoutIsRow.holds Try.pinned (OpenSpec.ofChange layoutIsSpec)

/-- ITS FALSE NEIGHBOUR: 'it returns false'. Refute it at one input. -/
def layoutIsWrong : ChangeSpec := { name := "layoutIs", fn := fun _ => fun
  | [d] => { results := [.lit (.bool false)], args := [d] }
  | _ => none }
def LayoutIsWrongFalsely : Prop := layoutIsRow.holds Try.pinned (OpenSpec.ofChange layoutIsWrong)

/-- 'bulkheadlaw15.LayoutOwns': WHATEVER THE INPUT: true; the input reads as it did. -/
def layoutOwnsSpec : ChangeSpec := { name := "layoutOwns", fn := fun _ => fun
  | [d1, d2] => { results := [.lit (.bool true)], args := [d1, d2] }
  | _ => none }
def layoutOwnsRow : OpenClaim := { program := "ytpoeaajkgblkmaa", sum := "af1ecea5922c987d5cf5cc168bd6842b1d236f1ac13245df5c6a03cb92136663", func := "bulkhead/bulkheadlaw15.LayoutOwns", spec := "layoutOwns", unfollowed := true, recurses := true, apart := false }
def LayoutOwnsSaid : Prop := layoutOwnsRow.holds Try.pinned (OpenSpec.ofChange layoutOwnsSpec)

/-- ITS FALSE NEIGHBOUR: 'it returns false'. Refute it at one input. -/
def layoutOwnsWrong : ChangeSpec := { name := "layoutOwns", fn := fun _ => fun
  | [d1, d2] => { results := [.lit (.bool false)], args := [d1, d2] }
  | _ => none }
def LayoutOwnsWrongFalsely : Prop := layoutOwnsRow.holds Try.pinned (OpenSpec.ofChange layoutOwnsWrong)

/-- 'bulkheadlaw15.LayoutApart': WHATEVER THE INPUT: true; the input reads as it did. -/
def layoutApartSpec : ChangeSpec := { name := "layoutApart", fn := fun _ => fun
  | [d] => { results := [.lit (.bool true)], args := [d] }
  | _ => none }
def layoutApartRow : OpenClaim := { program := "ytpoeaajkgblkmaa", sum := "af1ecea5922c987d5cf5cc168bd6842b1d236f1ac13245df5c6a03cb92136663", func := "bulkhead/bulkheadlaw15.LayoutApart", spec := "layoutApart", unfollowed := true, recurses := true, apart := false }
def LayoutApartSaid : Prop := layoutApartRow.holds Try.pinned (OpenSpec.ofChange layoutApartSpec)

/-- ITS FALSE NEIGHBOUR: 'it returns false'. Refute it at one input. -/
def layoutApartWrong : ChangeSpec := { name := "layoutApart", fn := fun _ => fun
  | [d] => { results := [.lit (.bool false)], args := [d] }
  | _ => none }
def LayoutApartWrongFalsely : Prop := layoutApartRow.holds Try.pinned (OpenSpec.ofChange layoutApartWrong)

/-- 'bulkheadlaw15.LayoutFresh': WHATEVER THE INPUT: true; the input reads as it did. -/
def layoutFreshSpec : ChangeSpec := { name := "layoutFresh", fn := fun _ => fun
  | [d1, d2] => { results := [.lit (.bool true)], args := [d1, d2] }
  | _ => none }
def layoutFreshRow : OpenClaim := { program := "ytpoeaajkgblkmaa", sum := "af1ecea5922c987d5cf5cc168bd6842b1d236f1ac13245df5c6a03cb92136663", func := "bulkhead/bulkheadlaw15.LayoutFresh", spec := "layoutFresh", unfollowed := true, recurses := true, apart := false }
def LayoutFreshSaid : Prop := layoutFreshRow.holds Try.pinned (OpenSpec.ofChange layoutFreshSpec)

/-- ITS FALSE NEIGHBOUR: 'it returns false'. Refute it at one input. -/
def layoutFreshWrong : ChangeSpec := { name := "layoutFresh", fn := fun _ => fun
  | [d1, d2] => { results := [.lit (.bool false)], args := [d1, d2] }
  | _ => none }
def LayoutFreshWrongFalsely : Prop := layoutFreshRow.holds Try.pinned (OpenSpec.ofChange layoutFreshWrong)

/- THE SECOND FORM. 'bulk': how many values and letters a reading holds, each counted each time it is reached (what is shared counts as often as it is met; a slice's spare places count too). A statement '..UptoSaid' is the law's where the arguments, and the package variables that the reading takes, are together of bulk at most 1048576: NARROWER than '..Said'. Prove '..Said' where nothing that the law and all that it calls make is longer than what came in: it says more and counts as full. Else prove '..UptoSaid'. A law counts once. -/
mutual
def uptoBulk {H : Type} : DataW H → Nat
  | .lit (.string bytes) => bytes.length + 1
  | .lit _ => 1
  | .nil => 1
  | .ptr d => uptoBulk d + 1
  | .slice elems spare => uptoBulkAll elems + uptoBulkAll spare + 1
  | .agg parts => uptoBulkAll parts + 1
  | .iface _ d => uptoBulk d + 1
  | .map entries => uptoBulkEntries entries + 1
  | .held _ => 1
def uptoBulkAll {H : Type} : List (DataW H) → Nat
  | [] => 0
  | d :: r => uptoBulk d + uptoBulkAll r
def uptoBulkEntries {H : Type} : List (Lit × DataW H) → Nat
  | [] => 0
  | x :: r => uptoBulkEntry x + uptoBulkEntries r
def uptoBulkEntry {H : Type} : Lit × DataW H → Nat
  | (.string bytes, d) => bytes.length + uptoBulk d + 1
  | (_, d) => uptoBulk d + 1
 end
def uptoSmall : (H : Type) → List (DataW H) → Bool := fun _ ds => decide (uptoBulkAll ds ≤ 1048576)
def OpenSpec.upto (s : _root_.Go.ChangeSpec) : _root_.Go.OpenSpec := { _root_.Go.OpenSpec.ofChange s with cond := some uptoSmall }

/-- 'bulkheadlaw15.LayoutSizes', WHERE WHAT IT READS IS OF BULK AT MOST 1048576: true; the input reads as it did. -/
def layoutSizesUptoRow : OpenClaim := { program := "ytpoeaajkgblkmaa", sum := "af1ecea5922c987d5cf5cc168bd6842b1d236f1ac13245df5c6a03cb92136663", func := "bulkhead/bulkheadlaw15.LayoutSizes", spec := "layoutSizes", apart := false, narrowed := true }
def LayoutSizesUptoSaid : Prop := layoutSizesUptoRow.holds Try.pinned (OpenSpec.upto layoutSizesSpec)

/-- 'bulkheadlaw15.LayoutMoves', WHERE WHAT IT READS IS OF BULK AT MOST 1048576: true; the input reads as it did. -/
def layoutMovesUptoRow : OpenClaim := { program := "ytpoeaajkgblkmaa", sum := "af1ecea5922c987d5cf5cc168bd6842b1d236f1ac13245df5c6a03cb92136663", func := "bulkhead/bulkheadlaw15.LayoutMoves", spec := "layoutMoves", unfollowed := true, recurses := true, apart := false, narrowed := true }
def LayoutMovesUptoSaid : Prop := layoutMovesUptoRow.holds Try.pinned (OpenSpec.upto layoutMovesSpec)

/-- 'bulkheadlaw15.LayoutKeeps', WHERE WHAT IT READS IS OF BULK AT MOST 1048576: true; the input reads as it did. -/
def layoutKeepsUptoRow : OpenClaim := { program := "ytpoeaajkgblkmaa", sum := "af1ecea5922c987d5cf5cc168bd6842b1d236f1ac13245df5c6a03cb92136663", func := "bulkhead/bulkheadlaw15.LayoutKeeps", spec := "layoutKeeps", unfollowed := true, recurses := true, apart := false, narrowed := true }
def LayoutKeepsUptoSaid : Prop := layoutKeepsUptoRow.holds Try.pinned (OpenSpec.upto layoutKeepsSpec)

/-- 'bulkheadlaw15.LayoutNames', WHERE WHAT IT READS IS OF BULK AT MOST 1048576: true; the input reads as it did. -/
def layoutNamesUptoRow : OpenClaim := { program := "ytpoeaajkgblkmaa", sum := "af1ecea5922c987d5cf5cc168bd6842b1d236f1ac13245df5c6a03cb92136663", func := "bulkhead/bulkheadlaw15.LayoutNames", spec := "layoutNames", unfollowed := true, recurses := true, apart := false, narrowed := true }
def LayoutNamesUptoSaid : Prop := layoutNamesUptoRow.holds Try.pinned (OpenSpec.upto layoutNamesSpec)

/-- 'bulkheadlaw15.LayoutIs', WHERE WHAT IT READS IS OF BULK AT MOST 1048576: true; the input reads as it did. -/
def layoutIsUptoRow : OpenClaim := { program := "ytpoeaajkgblkmaa", sum := "af1ecea5922c987d5cf5cc168bd6842b1d236f1ac13245df5c6a03cb92136663", func := "bulkhead/bulkheadlaw15.LayoutIs", spec := "layoutIs", unfollowed := true, recurses := true, apart := false, narrowed := true }
def LayoutIsUptoSaid : Prop := layoutIsUptoRow.holds Try.pinned (OpenSpec.upto layoutIsSpec)

/-- 'bulkheadlaw15.LayoutOwns', WHERE WHAT IT READS IS OF BULK AT MOST 1048576: true; the input reads as it did. -/
def layoutOwnsUptoRow : OpenClaim := { program := "ytpoeaajkgblkmaa", sum := "af1ecea5922c987d5cf5cc168bd6842b1d236f1ac13245df5c6a03cb92136663", func := "bulkhead/bulkheadlaw15.LayoutOwns", spec := "layoutOwns", unfollowed := true, recurses := true, apart := false, narrowed := true }
def LayoutOwnsUptoSaid : Prop := layoutOwnsUptoRow.holds Try.pinned (OpenSpec.upto layoutOwnsSpec)

/-- 'bulkheadlaw15.LayoutApart', WHERE WHAT IT READS IS OF BULK AT MOST 1048576: true; the input reads as it did. -/
def layoutApartUptoRow : OpenClaim := { program := "ytpoeaajkgblkmaa", sum := "af1ecea5922c987d5cf5cc168bd6842b1d236f1ac13245df5c6a03cb92136663", func := "bulkhead/bulkheadlaw15.LayoutApart", spec := "layoutApart", unfollowed := true, recurses := true, apart := false, narrowed := true }
def LayoutApartUptoSaid : Prop := layoutApartUptoRow.holds Try.pinned (OpenSpec.upto layoutApartSpec)

/-- 'bulkheadlaw15.LayoutFresh', WHERE WHAT IT READS IS OF BULK AT MOST 1048576: true; the input reads as it did. -/
def layoutFreshUptoRow : OpenClaim := { program := "ytpoeaajkgblkmaa", sum := "af1ecea5922c987d5cf5cc168bd6842b1d236f1ac13245df5c6a03cb92136663", func := "bulkhead/bulkheadlaw15.LayoutFresh", spec := "layoutFresh", unfollowed := true, recurses := true, apart := false, narrowed := true }
def LayoutFreshUptoSaid : Prop := layoutFreshUptoRow.holds Try.pinned (OpenSpec.upto layoutFreshSpec)

end Rows
end Go.Proofs.Ytpoeaajkgblkmaa
