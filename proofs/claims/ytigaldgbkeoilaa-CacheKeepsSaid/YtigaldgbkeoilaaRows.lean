/-
  No cell of these rows narrows 'for every input' (looked for: loops, veiled, ifaces, maps, wideKeys, modest, calm, conditions, laid).
  DERIVED. THE GIVEN ROWS OF THIS SEAT. 6 by the template 'for every input the law returns true; each argument reads behind the call as it read before'; 0 by the template 'total and deterministic' (their statements: YtigaldgbkeoilaaTotals.lean).
  GIVEN WITH THE SEED: the statements are not yours to turn. If you find one false, say at which input.
  Laid BY PROGRAM, IN A SANDBOX (cutbox-rows.mjs): the forced cells as the released guide's own fill.sh prints them over the translation 44b02a1cf28fa345… (all of the seat's roots in one cut). By AI agents, Wed Nov 11 2026. No macro, syntax, notation, axiom, sorry.
-/
import Derived.Test.YtigaldgbkeoilaaChecked
import GoSem.Claim
import GoSem.ClaimJoined
import GoSem.ClaimMapViews
import Derived.JoinedTies
import Derived.KernelRfl
namespace Go.Proofs.Ytigaldgbkeoilaa
/- THE CELL 'sum', in the pinned program and in every row, IS THE sha256 OF THE DUMP (.gsa) THAT YtigaldgbkeoilaaProg.lean LOADS. Nothing in Lean hashes anything: it is a label: what it is worth is what the hold of that sum in a sandbox is worth. -/
noncomputable def Try.pinned : Pinned := { name := "ytigaldgbkeoilaa", sum := "44b02a1cf28fa3453ae63385d9930aa7e010ec29f6551169925c029e367d6e81", checked := Try.checked }
namespace Rows
def none {H : Type} : Left H := { results := [], args := [] }

/-- 'bulkheadlaw07.CacheSets': WHATEVER THE INPUT: true; the input reads as it did. -/
def cacheSetsSpec : ChangeSpec := { name := "cacheSets", fn := fun _ => fun
  | [d1, d2] => { results := [.lit (.bool true)], args := [d1, d2] }
  | _ => none }
def cacheSetsRow : OpenClaim := { program := "ytigaldgbkeoilaa", sum := "44b02a1cf28fa3453ae63385d9930aa7e010ec29f6551169925c029e367d6e81", func := "bulkhead/bulkheadlaw07.CacheSets", spec := "cacheSets", apart := false }
def CacheSetsSaid : Prop := cacheSetsRow.holds Try.pinned (OpenSpec.ofChange cacheSetsSpec)

/-- ITS FALSE NEIGHBOUR: 'it returns false'. Refute it at one input. -/
def cacheSetsWrong : ChangeSpec := { name := "cacheSets", fn := fun _ => fun
  | [d1, d2] => { results := [.lit (.bool false)], args := [d1, d2] }
  | _ => none }
def CacheSetsWrongFalsely : Prop := cacheSetsRow.holds Try.pinned (OpenSpec.ofChange cacheSetsWrong)

/-- 'bulkheadlaw07.CacheNames': WHATEVER THE INPUT: true; the input reads as it did. -/
def cacheNamesSpec : ChangeSpec := { name := "cacheNames", fn := fun _ => fun
  | [] => { results := [.lit (.bool true)], args := [] }
  | _ => none }
def cacheNamesRow : OpenClaim := { program := "ytigaldgbkeoilaa", sum := "44b02a1cf28fa3453ae63385d9930aa7e010ec29f6551169925c029e367d6e81", func := "bulkhead/bulkheadlaw07.CacheNames", spec := "cacheNames", apart := false }
def CacheNamesSaid : Prop := cacheNamesRow.holds Try.pinned (OpenSpec.ofChange cacheNamesSpec)

/-- ITS FALSE NEIGHBOUR: 'it returns false'. Refute it at one input. -/
def cacheNamesWrong : ChangeSpec := { name := "cacheNames", fn := fun _ => fun
  | [] => { results := [.lit (.bool false)], args := [] }
  | _ => none }
def CacheNamesWrongFalsely : Prop := cacheNamesRow.holds Try.pinned (OpenSpec.ofChange cacheNamesWrong)

/-- 'bulkheadlaw07.CacheLast': WHATEVER THE INPUT: true; the input reads as it did. -/
def cacheLastSpec : ChangeSpec := { name := "cacheLast", fn := fun _ => fun
  | [d1, d2, d3] => { results := [.lit (.bool true)], args := [d1, d2, d3] }
  | _ => none }
def cacheLastRow : OpenClaim := { program := "ytigaldgbkeoilaa", sum := "44b02a1cf28fa3453ae63385d9930aa7e010ec29f6551169925c029e367d6e81", func := "bulkhead/bulkheadlaw07.CacheLast", spec := "cacheLast", apart := false }
def CacheLastSaid : Prop := cacheLastRow.holds Try.pinned (OpenSpec.ofChange cacheLastSpec)

/-- ITS FALSE NEIGHBOUR: 'it returns false'. Refute it at one input. -/
def cacheLastWrong : ChangeSpec := { name := "cacheLast", fn := fun _ => fun
  | [d1, d2, d3] => { results := [.lit (.bool false)], args := [d1, d2, d3] }
  | _ => none }
def CacheLastWrongFalsely : Prop := cacheLastRow.holds Try.pinned (OpenSpec.ofChange cacheLastWrong)

/-- 'bulkheadlaw07.CacheAgain': WHATEVER THE INPUT: true; the input reads as it did. -/
def cacheAgainSpec : ChangeSpec := { name := "cacheAgain", fn := fun _ => fun
  | [d1, d2] => { results := [.lit (.bool true)], args := [d1, d2] }
  | _ => none }
def cacheAgainRow : OpenClaim := { program := "ytigaldgbkeoilaa", sum := "44b02a1cf28fa3453ae63385d9930aa7e010ec29f6551169925c029e367d6e81", func := "bulkhead/bulkheadlaw07.CacheAgain", spec := "cacheAgain", unfollowed := true, recurses := true, apart := false }
def CacheAgainSaid : Prop := cacheAgainRow.holds Try.pinned (OpenSpec.ofChange cacheAgainSpec)

/-- ITS FALSE NEIGHBOUR: 'it returns false'. Refute it at one input. -/
def cacheAgainWrong : ChangeSpec := { name := "cacheAgain", fn := fun _ => fun
  | [d1, d2] => { results := [.lit (.bool false)], args := [d1, d2] }
  | _ => none }
def CacheAgainWrongFalsely : Prop := cacheAgainRow.holds Try.pinned (OpenSpec.ofChange cacheAgainWrong)

/-- 'bulkheadlaw07.CacheKeeps': WHATEVER THE INPUT: true; the input reads as it did. -/
def cacheKeepsSpec : ChangeSpec := { name := "cacheKeeps", fn := fun _ => fun
  | [d1, d2] => { results := [.lit (.bool true)], args := [d1, d2] }
  | _ => none }
def cacheKeepsRow : OpenClaim := { program := "ytigaldgbkeoilaa", sum := "44b02a1cf28fa3453ae63385d9930aa7e010ec29f6551169925c029e367d6e81", func := "bulkhead/bulkheadlaw07.CacheKeeps", spec := "cacheKeeps", unfollowed := true, recurses := true, apart := false }
def CacheKeepsSaid : Prop := cacheKeepsRow.holds Try.pinned (OpenSpec.ofChange cacheKeepsSpec)

/-- ITS FALSE NEIGHBOUR: 'it returns false'. Refute it at one input. -/
def cacheKeepsWrong : ChangeSpec := { name := "cacheKeeps", fn := fun _ => fun
  | [d1, d2] => { results := [.lit (.bool false)], args := [d1, d2] }
  | _ => none }
def CacheKeepsWrongFalsely : Prop := cacheKeepsRow.holds Try.pinned (OpenSpec.ofChange cacheKeepsWrong)

/-- 'bulkheadlaw07.CacheRuns': WHATEVER THE INPUT: true; the input reads as it did. -/
def cacheRunsSpec : ChangeSpec := { name := "cacheRuns", fn := fun _ => fun
  | [d] => { results := [.lit (.bool true)], args := [d] }
  | _ => none }
def cacheRunsRow : OpenClaim := { program := "ytigaldgbkeoilaa", sum := "44b02a1cf28fa3453ae63385d9930aa7e010ec29f6551169925c029e367d6e81", func := "bulkhead/bulkheadlaw07.CacheRuns", spec := "cacheRuns", unfollowed := true, recurses := true, apart := false }
def CacheRunsSaid : Prop := cacheRunsRow.holds Try.pinned (OpenSpec.ofChange cacheRunsSpec)

/-- ITS FALSE NEIGHBOUR: 'it returns false'. Refute it at one input. -/
def cacheRunsWrong : ChangeSpec := { name := "cacheRuns", fn := fun _ => fun
  | [d] => { results := [.lit (.bool false)], args := [d] }
  | _ => none }
def CacheRunsWrongFalsely : Prop := cacheRunsRow.holds Try.pinned (OpenSpec.ofChange cacheRunsWrong)

/- THE SECOND FORM. 'bulk': how many values and letters a reading holds, each counted each time it is reached (what is shared counts as often as it is met; a slice's spare places count too). A statement '..UptoSaid' is the law's where the arguments, and the package variables that the reading takes, are together of bulk at most 1048576: NARROWER than '..Said'. Prove '..Said' where nothing that the law and all that it calls make is longer than what came in: it says more and counts as full. Else prove '..UptoSaid'. A law counts once. -/
mutual
def uptoBulk {H : Type} : DataW H → Nat
  | .lit (.string bytes) => bytes.length + 1
  | .lit _ => 1
  | .nil => 1
  | .ptr d => uptoBulk d + 1
  | .slice elems spare => uptoBulkAll elems + uptoBulkAll spare + 1
  | .agg parts => uptoBulkAll parts + 1
  | .iface _ d => uptoBulk d + 1
  | .map entries => uptoBulkEntries entries + 1
  | .held _ => 1
def uptoBulkAll {H : Type} : List (DataW H) → Nat
  | [] => 0
  | d :: r => uptoBulk d + uptoBulkAll r
def uptoBulkEntries {H : Type} : List (Lit × DataW H) → Nat
  | [] => 0
  | x :: r => uptoBulkEntry x + uptoBulkEntries r
def uptoBulkEntry {H : Type} : Lit × DataW H → Nat
  | (.string bytes, d) => bytes.length + uptoBulk d + 1
  | (_, d) => uptoBulk d + 1
 end
def uptoSmall : (H : Type) → List (DataW H) → Bool := fun _ ds => decide (uptoBulkAll ds ≤ 1048576)
def OpenSpec.upto (s : _root_.Go.ChangeSpec) : _root_.Go.OpenSpec := { _root_.Go.OpenSpec.ofChange s with cond := some uptoSmall }

/-- 'bulkheadlaw07.CacheSets', WHERE WHAT IT READS IS OF BULK AT MOST 1048576: true; the input reads as it did. -/
def cacheSetsUptoRow : OpenClaim := { program := "ytigaldgbkeoilaa", sum := "44b02a1cf28fa3453ae63385d9930aa7e010ec29f6551169925c029e367d6e81", func := "bulkhead/bulkheadlaw07.CacheSets", spec := "cacheSets", apart := false, narrowed := true }
def CacheSetsUptoSaid : Prop := cacheSetsUptoRow.holds Try.pinned (OpenSpec.upto cacheSetsSpec)

/-- 'bulkheadlaw07.CacheNames', WHERE WHAT IT READS IS OF BULK AT MOST 1048576: true; the input reads as it did. -/
def cacheNamesUptoRow : OpenClaim := { program := "ytigaldgbkeoilaa", sum := "44b02a1cf28fa3453ae63385d9930aa7e010ec29f6551169925c029e367d6e81", func := "bulkhead/bulkheadlaw07.CacheNames", spec := "cacheNames", apart := false, narrowed := true }
def CacheNamesUptoSaid : Prop := cacheNamesUptoRow.holds Try.pinned (OpenSpec.upto cacheNamesSpec)

/-- 'bulkheadlaw07.CacheLast', WHERE WHAT IT READS IS OF BULK AT MOST 1048576: true; the input reads as it did. -/
def cacheLastUptoRow : OpenClaim := { program := "ytigaldgbkeoilaa", sum := "44b02a1cf28fa3453ae63385d9930aa7e010ec29f6551169925c029e367d6e81", func := "bulkhead/bulkheadlaw07.CacheLast", spec := "cacheLast", apart := false, narrowed := true }
def CacheLastUptoSaid : Prop := cacheLastUptoRow.holds Try.pinned (OpenSpec.upto cacheLastSpec)

/-- 'bulkheadlaw07.CacheAgain', WHERE WHAT IT READS IS OF BULK AT MOST 1048576: true; the input reads as it did. -/
def cacheAgainUptoRow : OpenClaim := { program := "ytigaldgbkeoilaa", sum := "44b02a1cf28fa3453ae63385d9930aa7e010ec29f6551169925c029e367d6e81", func := "bulkhead/bulkheadlaw07.CacheAgain", spec := "cacheAgain", unfollowed := true, recurses := true, apart := false, narrowed := true }
def CacheAgainUptoSaid : Prop := cacheAgainUptoRow.holds Try.pinned (OpenSpec.upto cacheAgainSpec)

/-- 'bulkheadlaw07.CacheKeeps', WHERE WHAT IT READS IS OF BULK AT MOST 1048576: true; the input reads as it did. -/
def cacheKeepsUptoRow : OpenClaim := { program := "ytigaldgbkeoilaa", sum := "44b02a1cf28fa3453ae63385d9930aa7e010ec29f6551169925c029e367d6e81", func := "bulkhead/bulkheadlaw07.CacheKeeps", spec := "cacheKeeps", unfollowed := true, recurses := true, apart := false, narrowed := true }
def CacheKeepsUptoSaid : Prop := cacheKeepsUptoRow.holds Try.pinned (OpenSpec.upto cacheKeepsSpec)

/-- 'bulkheadlaw07.CacheRuns', WHERE WHAT IT READS IS OF BULK AT MOST 1048576: true; the input reads as it did. -/
def cacheRunsUptoRow : OpenClaim := { program := "ytigaldgbkeoilaa", sum := "44b02a1cf28fa3453ae63385d9930aa7e010ec29f6551169925c029e367d6e81", func := "bulkhead/bulkheadlaw07.CacheRuns", spec := "cacheRuns", unfollowed := true, recurses := true, apart := false, narrowed := true }
def CacheRunsUptoSaid : Prop := cacheRunsUptoRow.holds Try.pinned (OpenSpec.upto cacheRunsSpec)

end Rows
end Go.Proofs.Ytigaldgbkeoilaa
