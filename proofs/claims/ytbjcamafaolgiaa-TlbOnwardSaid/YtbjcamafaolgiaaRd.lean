/- Inputs, opened. No conditions. -/
import Derived.Test.YtbjcamafaolgiaaEngH
import Derived.Test.YtbjcamafaolgiaaTy
namespace Go.Proofs.Ytbjcamafaolgiaa.Ly
open Go Go.ChangeShapes Go.Deep Go.Proofs.Ytbjcamafaolgiaa.Eng Go.Proofs.Ytbjcamafaolgiaa.Mem
set_option linter.unusedSimpArgs false
set_option linter.unusedVariables false
set_option maxRecDepth 100000
theorem rd_TLeaf : Rd Try.prog 26 TLeaf.cells TLeaf.ok := by
  intro H enc W fuel cs x hx hw
  obtain ⟨xs, n, -, rfl, hl, hlen, hf⟩ := DataW.trod_struct Try.underlying26 hx
  rw [show Try.prog.cellsOf 26 = 3 from by kernel_rfl] at hl
  match cs, hl with
  | [c0, c1, c2], _ =>
    obtain ⟨y0, e0, k0⟩ := rd_field Try.underlying26 hlen hf hw 0 0 1 _ rfl rfl (by kernel_rfl) (rd_int Try.underlying3)
    have g0 : [c0] = _ := e0
    simp only [List.cons.injEq, and_true] at g0
    subst g0
    obtain ⟨y1, e1, k1⟩ := rd_field Try.underlying26 hlen hf hw 1 1 1 _ rfl rfl (by kernel_rfl) (rd_int Try.underlying3)
    have g1 : [c1] = _ := e1
    simp only [List.cons.injEq, and_true] at g1
    subst g1
    obtain ⟨y2, e2, k2⟩ := rd_field Try.underlying26 hlen hf hw 2 2 1 _ rfl rfl (by kernel_rfl) (rd_int Try.underlying3)
    have g2 : [c2] = _ := e2
    simp only [List.cons.injEq, and_true] at g2
    subst g2
    exact ⟨⟨y0, y1, y2⟩, rfl, ⟨k0, k1, k2⟩⟩
end Go.Proofs.Ytbjcamafaolgiaa.Ly
