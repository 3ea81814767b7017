/- Inputs with lists, opened. No conditions. -/
import Derived.Test.YtbjcamafaolgiaaRf
import Derived.Test.YtbjcamafaolgiaaRd
namespace Go.Proofs.Ytbjcamafaolgiaa.Ly
open Go Go.ChangeShapes Go.WideShapes Go.Deep Go.Proofs.Ytbjcamafaolgiaa.Eng Go.Proofs.Ytbjcamafaolgiaa.Mem
set_option linter.unusedSimpArgs false
set_option linter.unusedVariables false
set_option maxRecDepth 100000
theorem rd_leaves : Rd Try.prog 22 (fun s : Sl TLeaf => [s.val]) SlB := by
  intro H enc W fuel cs x hx hw
  obtain ⟨s, rfl, hs⟩ := rd_slice (cells := TLeaf.cells) (sz := 3) Try.underlying22 (by kernel_rfl) (fun _ => rfl) (by decide) (by kernel_rfl) rd_TLeaf H enc W fuel cs x hx hw
  refine ⟨s, rfl, hs.1, ?_⟩
  rcases open_slice Try.underlying22 hx with ⟨h1, -⟩ | ⟨a, len, cap, m, n, D, Pl, h1, -, -, -, -, hx', -⟩
  · have h2 : s.xs.length = 0 := by
      simp only [Sl.val, List.cons.injEq, Value.slice.injEq, and_true] at h1; exact h1.2.1
    rw [h2]; decide
  · have h2 : s.xs.length = len := by
      simp only [Sl.val, List.cons.injEq, Value.slice.injEq, and_true] at h1; exact h1.2.1
    have hbig : (len + (m - len)) * Try.prog.bytesOf 26 ≤ reachBytes := hw _ (by rw [hx']; simp [DataW.weights, Try.underlying22])
    rw [show Try.prog.bytesOf 26 = 24 from by kernel_rfl] at hbig
    have hr : reachBytes = 140737488351232 := rfl
    omega
theorem rd_TOp : Rd Try.prog 39 TOp.cells TOp.ok := by
  intro H enc W fuel cs x hx hw
  obtain ⟨xs, n, -, rfl, hl, hlen, hf⟩ := DataW.trod_struct Try.underlying39 hx
  rw [show Try.prog.cellsOf 39 = 6 from by kernel_rfl] at hl
  match cs, hl with
  | [c0, c1, c2, c3, c4, c5], _ =>
    obtain ⟨y0, e0, k0⟩ := rd_field Try.underlying39 hlen hf hw 0 0 1 _ rfl rfl (by kernel_rfl) (rd_int Try.underlying3)
    have g0 : [c0] = _ := e0
    simp only [List.cons.injEq, and_true] at g0
    subst g0
    obtain ⟨y1, e1, k1⟩ := rd_field Try.underlying39 hlen hf hw 1 1 1 _ rfl rfl (by kernel_rfl) (rd_int Try.underlying3)
    have g1 : [c1] = _ := e1
    simp only [List.cons.injEq, and_true] at g1
    subst g1
    obtain ⟨y2, e2, k2⟩ := rd_field Try.underlying39 hlen hf hw 2 2 1 _ rfl rfl (by kernel_rfl) (rd_int Try.underlying3)
    have g2 : [c2] = _ := e2
    simp only [List.cons.injEq, and_true] at g2
    subst g2
    obtain ⟨y3, e3, k3⟩ := rd_field Try.underlying39 hlen hf hw 3 3 1 _ rfl rfl (by kernel_rfl) (rd_int Try.underlying3)
    have g3 : [c3] = _ := e3
    simp only [List.cons.injEq, and_true] at g3
    subst g3
    obtain ⟨y4, e4, k4⟩ := rd_field Try.underlying39 hlen hf hw 4 4 1 _ rfl rfl (by kernel_rfl) (rd_int Try.underlying3)
    have g4 : [c4] = _ := e4
    simp only [List.cons.injEq, and_true] at g4
    subst g4
    obtain ⟨y5, e5, k5⟩ := rd_field Try.underlying39 hlen hf hw 5 5 1 _ rfl rfl (by kernel_rfl) rd_leaves
    have g5 : [c5] = _ := e5
    simp only [List.cons.injEq, and_true] at g5
    subst g5
    exact ⟨⟨y0, y1, y2, y3, y4, y5⟩, rfl, ⟨k0, k1, k2, k3, k4, k5⟩⟩
end Go.Proofs.Ytbjcamafaolgiaa.Ly
