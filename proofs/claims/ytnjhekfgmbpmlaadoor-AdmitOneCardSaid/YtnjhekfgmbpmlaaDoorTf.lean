/- The types' data: what was found. No conditions. -/
import Derived.Test.YtnjhekfgmbpmlaaDoorTy
namespace Go.Proofs.YtnjhekfgmbpmlaaDoor.Ad
open Go Go.Proofs.YtnjhekfgmbpmlaaDoor.Eng Go.Proofs.YtnjhekfgmbpmlaaDoor.Mem Go.Proofs.YtnjhekfgmbpmlaaDoor.Ly
set_option linter.unusedSimpArgs false
set_option linter.unusedVariables false
set_option maxRecDepth 100000
structure TWhere where
  First : Int
  Second : Int
  deriving Inhabited, DecidableEq
def TWhere.cells (x : TWhere) : List Value := [.int .i64 x.First, .int .i64 x.Second]
abbrev TWhere.arr (x : TWhere) : Array Value := #[.int .i64 x.First, .int .i64 x.Second]
structure TWhere.ok (F : Nat → Prop) (W : World) (x : TWhere) : Prop where
  First : InK .i64 x.First
  Second : InK .i64 x.Second
theorem TWhere.ok.ext {F F' : Nat → Prop} {W W' : World} (he : Ext F W W') (hF : ∀ b, F b → F' b) {x : TWhere} (h : TWhere.ok F W x) : TWhere.ok F' W' x := ⟨h.First, h.Second⟩
structure Tfound where
  e : Int
  where_ : TWhere
  deriving Inhabited, DecidableEq
def Tfound.cells (x : Tfound) : List Value := [.int .i64 x.e] ++ TWhere.cells x.where_
abbrev Tfound.arr (x : Tfound) : Array Value := #[.int .i64 x.e, .int .i64 x.where_.First, .int .i64 x.where_.Second]
structure Tfound.ok (F : Nat → Prop) (W : World) (x : Tfound) : Prop where
  e : InK .i64 x.e
  where_ : TWhere.ok F W x.where_
theorem Tfound.ok.ext {F F' : Nat → Prop} {W W' : World} (he : Ext F W W') (hF : ∀ b, F b → F' b) {x : Tfound} (h : Tfound.ok F W x) : Tfound.ok F' W' x := ⟨h.e, TWhere.ok.ext he hF h.where_⟩
end Go.Proofs.YtnjhekfgmbpmlaaDoor.Ad
