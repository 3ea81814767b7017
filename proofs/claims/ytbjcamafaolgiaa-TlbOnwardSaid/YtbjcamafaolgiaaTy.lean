/- The types' data. No conditions. -/
import Derived.Test.YtbjcamafaolgiaaEngF
namespace Go.Proofs.Ytbjcamafaolgiaa.Ly
open Go Go.Proofs.Ytbjcamafaolgiaa.Eng Go.Proofs.Ytbjcamafaolgiaa.Mem
set_option linter.unusedSimpArgs false
set_option linter.unusedVariables false
set_option maxRecDepth 100000
structure TLeaf where
  Page : Int
  Frame : Int
  Rights : Int
  deriving Inhabited, DecidableEq
def TLeaf.cells (x : TLeaf) : List Value := [.int .i64 x.Page, .int .i64 x.Frame, .int .i64 x.Rights]
abbrev TLeaf.arr (x : TLeaf) : Array Value := #[.int .i64 x.Page, .int .i64 x.Frame, .int .i64 x.Rights]
structure TLeaf.ok (F : Nat → Prop) (W : World) (x : TLeaf) : Prop where
  Page : InK .i64 x.Page
  Frame : InK .i64 x.Frame
  Rights : InK .i64 x.Rights
theorem TLeaf.ok.ext {F F' : Nat → Prop} {W W' : World} (he : Ext F W W') (hF : ∀ b, F b → F' b) {x : TLeaf} (h : TLeaf.ok F W x) : TLeaf.ok F' W' x := ⟨h.Page, h.Frame, h.Rights⟩
end Go.Proofs.Ytbjcamafaolgiaa.Ly
