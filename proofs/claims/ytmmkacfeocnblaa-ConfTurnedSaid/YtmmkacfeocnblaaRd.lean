/- Inputs, opened. No conditions. -/
import Derived.Test.YtmmkacfeocnblaaEngH
import Derived.Test.YtmmkacfeocnblaaTy
namespace Go.Proofs.Ytmmkacfeocnblaa.Ly
open Go Go.ChangeShapes Go.Deep Go.Proofs.Ytmmkacfeocnblaa.Eng Go.Proofs.Ytmmkacfeocnblaa.Mem
set_option linter.unusedSimpArgs false
set_option linter.unusedVariables false
set_option maxRecDepth 100000
theorem rd_TWindow : Rd Try.prog 97 TWindow.cells TWindow.ok := by
  intro H enc W fuel cs x hx hw
  obtain ⟨xs, n, -, rfl, hl, hlen, hf⟩ := DataW.trod_struct Try.underlying97 hx
  rw [show Try.prog.cellsOf 97 = 3 from by kernel_rfl] at hl
  match cs, hl with
  | [c0, c1, c2], _ =>
    obtain ⟨y0, e0, k0⟩ := rd_field Try.underlying97 hlen hf hw 0 0 1 _ rfl rfl (by kernel_rfl) (rd_int Try.underlying3)
    have g0 : [c0] = _ := e0
    simp only [List.cons.injEq, and_true] at g0
    subst g0
    obtain ⟨y1, e1, k1⟩ := rd_field Try.underlying97 hlen hf hw 1 1 1 _ rfl rfl (by kernel_rfl) (rd_int Try.underlying3)
    have g1 : [c1] = _ := e1
    simp only [List.cons.injEq, and_true] at g1
    subst g1
    obtain ⟨y2, e2, k2⟩ := rd_field Try.underlying97 hlen hf hw 2 2 1 _ rfl rfl (by kernel_rfl) (rd_int Try.underlying3)
    have g2 : [c2] = _ := e2
    simp only [List.cons.injEq, and_true] at g2
    subst g2
    exact ⟨⟨y0, y1, y2⟩, rfl, ⟨k0, k1, k2⟩⟩
theorem rd_TRegion : Rd Try.prog 99 TRegion.cells TRegion.ok := by
  intro H enc W fuel cs x hx hw
  obtain ⟨xs, n, -, rfl, hl, hlen, hf⟩ := DataW.trod_struct Try.underlying99 hx
  rw [show Try.prog.cellsOf 99 = 4 from by kernel_rfl] at hl
  match cs, hl with
  | [c0, c1, c2, c3], _ =>
    obtain ⟨y0, e0, k0⟩ := rd_field Try.underlying99 hlen hf hw 0 0 1 _ rfl rfl (by kernel_rfl) (rd_int Try.underlying3)
    have g0 : [c0] = _ := e0
    simp only [List.cons.injEq, and_true] at g0
    subst g0
    obtain ⟨y1, e1, k1⟩ := rd_field Try.underlying99 hlen hf hw 1 1 1 _ rfl rfl (by kernel_rfl) (rd_int Try.underlying3)
    have g1 : [c1] = _ := e1
    simp only [List.cons.injEq, and_true] at g1
    subst g1
    obtain ⟨y2, e2, k2⟩ := rd_field Try.underlying99 hlen hf hw 2 2 1 _ rfl rfl (by kernel_rfl) (rd_int Try.underlying3)
    have g2 : [c2] = _ := e2
    simp only [List.cons.injEq, and_true] at g2
    subst g2
    obtain ⟨y3, e3, k3⟩ := rd_field Try.underlying99 hlen hf hw 3 3 1 _ rfl rfl (by kernel_rfl) (rd_int Try.underlying3)
    have g3 : [c3] = _ := e3
    simp only [List.cons.injEq, and_true] at g3
    subst g3
    exact ⟨⟨y0, y1, y2, y3⟩, rfl, ⟨k0, k1, k2, k3⟩⟩
theorem rd_TPort : Rd Try.prog 101 TPort.cells TPort.ok := by
  intro H enc W fuel cs x hx hw
  obtain ⟨xs, n, -, rfl, hl, hlen, hf⟩ := DataW.trod_struct Try.underlying101 hx
  rw [show Try.prog.cellsOf 101 = 2 from by kernel_rfl] at hl
  match cs, hl with
  | [c0, c1], _ =>
    obtain ⟨y0, e0, k0⟩ := rd_field Try.underlying101 hlen hf hw 0 0 1 _ rfl rfl (by kernel_rfl) (rd_int Try.underlying3)
    have g0 : [c0] = _ := e0
    simp only [List.cons.injEq, and_true] at g0
    subst g0
    obtain ⟨y1, e1, k1⟩ := rd_field Try.underlying101 hlen hf hw 1 1 1 _ rfl rfl (by kernel_rfl) (rd_bool Try.underlying4)
    have g1 : [c1] = _ := e1
    simp only [List.cons.injEq, and_true] at g1
    subst g1
    exact ⟨⟨y0, y1⟩, rfl, ⟨k0, k1⟩⟩
theorem rd_TPartition : Rd Try.prog 69 TPartition.cells TPartition.ok := by
  intro H enc W fuel cs x hx hw
  obtain ⟨xs, n, -, rfl, hl, hlen, hf⟩ := DataW.trod_struct Try.underlying69 hx
  rw [show Try.prog.cellsOf 69 = 8 from by kernel_rfl] at hl
  match cs, hl with
  | [c0, c1, c2, c3, c4, c5, c6, c7], _ =>
    obtain ⟨y0, e0, k0⟩ := rd_field Try.underlying69 hlen hf hw 0 0 1 _ rfl rfl (by kernel_rfl) (rd_string Try.underlying9)
    have g0 : [c0] = _ := e0
    simp only [List.cons.injEq, and_true] at g0
    subst g0
    obtain ⟨y1, e1, k1⟩ := rd_field Try.underlying69 hlen hf hw 1 1 1 _ rfl rfl (by kernel_rfl) (rd_int Try.underlying3)
    have g1 : [c1] = _ := e1
    simp only [List.cons.injEq, and_true] at g1
    subst g1
    obtain ⟨y2, e2, k2⟩ := rd_field Try.underlying69 hlen hf hw 2 2 1 _ rfl rfl (by kernel_rfl) (rd_int Try.underlying3)
    have g2 : [c2] = _ := e2
    simp only [List.cons.injEq, and_true] at g2
    subst g2
    obtain ⟨y3, e3, k3⟩ := rd_field Try.underlying69 hlen hf hw 3 3 1 _ rfl rfl (by kernel_rfl) (rd_int Try.underlying3)
    have g3 : [c3] = _ := e3
    simp only [List.cons.injEq, and_true] at g3
    subst g3
    obtain ⟨y4, e4, k4⟩ := rd_field Try.underlying69 hlen hf hw 4 4 1 _ rfl rfl (by kernel_rfl) (rd_int Try.underlying3)
    have g4 : [c4] = _ := e4
    simp only [List.cons.injEq, and_true] at g4
    subst g4
    obtain ⟨y5, e5, k5⟩ := rd_field Try.underlying69 hlen hf hw 5 5 1 _ rfl rfl (by kernel_rfl) (rd_int Try.underlying3)
    have g5 : [c5] = _ := e5
    simp only [List.cons.injEq, and_true] at g5
    subst g5
    obtain ⟨y6, e6, k6⟩ := rd_field Try.underlying69 hlen hf hw 6 6 1 _ rfl rfl (by kernel_rfl) (rd_slice (cells := TRegion.cells) (sz := 4) Try.underlying66 (by kernel_rfl) (fun _ => rfl) (by decide) (by kernel_rfl) rd_TRegion)
    have g6 : [c6] = _ := e6
    simp only [List.cons.injEq, and_true] at g6
    subst g6
    obtain ⟨y7, e7, k7⟩ := rd_field Try.underlying69 hlen hf hw 7 7 1 _ rfl rfl (by kernel_rfl) (rd_slice (cells := TPort.cells) (sz := 2) Try.underlying67 (by kernel_rfl) (fun _ => rfl) (by decide) (by kernel_rfl) rd_TPort)
    have g7 : [c7] = _ := e7
    simp only [List.cons.injEq, and_true] at g7
    subst g7
    exact ⟨⟨y0, y1, y2, y3, y4, y5, y6, y7⟩, rfl, ⟨k0, k1, k2, k3, k4, k5, k6, k7⟩⟩
theorem rd_TChannel : Rd Try.prog 74 TChannel.cells TChannel.ok := by
  intro H enc W fuel cs x hx hw
  obtain ⟨xs, n, -, rfl, hl, hlen, hf⟩ := DataW.trod_struct Try.underlying74 hx
  rw [show Try.prog.cellsOf 74 = 3 from by kernel_rfl] at hl
  match cs, hl with
  | [c0, c1, c2], _ =>
    obtain ⟨y0, e0, k0⟩ := rd_field Try.underlying74 hlen hf hw 0 0 1 _ rfl rfl (by kernel_rfl) (rd_int Try.underlying3)
    have g0 : [c0] = _ := e0
    simp only [List.cons.injEq, and_true] at g0
    subst g0
    obtain ⟨y1, e1, k1⟩ := rd_field Try.underlying74 hlen hf hw 1 1 1 _ rfl rfl (by kernel_rfl) (rd_int Try.underlying3)
    have g1 : [c1] = _ := e1
    simp only [List.cons.injEq, and_true] at g1
    subst g1
    obtain ⟨y2, e2, k2⟩ := rd_field Try.underlying74 hlen hf hw 2 2 1 _ rfl rfl (by kernel_rfl) (rd_int Try.underlying3)
    have g2 : [c2] = _ := e2
    simp only [List.cons.injEq, and_true] at g2
    subst g2
    exact ⟨⟨y0, y1, y2⟩, rfl, ⟨k0, k1, k2⟩⟩
theorem rd_TConfig : Rd Try.prog 26 TConfig.cells TConfig.ok := by
  intro H enc W fuel cs x hx hw
  obtain ⟨xs, n, -, rfl, hl, hlen, hf⟩ := DataW.trod_struct Try.underlying26 hx
  rw [show Try.prog.cellsOf 26 = 7 from by kernel_rfl] at hl
  match cs, hl with
  | [c0, c1, c2, c3, c4, c5, c6], _ =>
    obtain ⟨y0, e0, k0⟩ := rd_field Try.underlying26 hlen hf hw 0 0 1 _ rfl rfl (by kernel_rfl) (rd_int Try.underlying3)
    have g0 : [c0] = _ := e0
    simp only [List.cons.injEq, and_true] at g0
    subst g0
    obtain ⟨y1, e1, k1⟩ := rd_field Try.underlying26 hlen hf hw 1 1 1 _ rfl rfl (by kernel_rfl) (rd_int Try.underlying3)
    have g1 : [c1] = _ := e1
    simp only [List.cons.injEq, and_true] at g1
    subst g1
    obtain ⟨y2, e2, k2⟩ := rd_field Try.underlying26 hlen hf hw 2 2 1 _ rfl rfl (by kernel_rfl) (rd_int Try.underlying3)
    have g2 : [c2] = _ := e2
    simp only [List.cons.injEq, and_true] at g2
    subst g2
    obtain ⟨y3, e3, k3⟩ := rd_field Try.underlying26 hlen hf hw 3 3 1 _ rfl rfl (by kernel_rfl) (rd_int Try.underlying3)
    have g3 : [c3] = _ := e3
    simp only [List.cons.injEq, and_true] at g3
    subst g3
    obtain ⟨y4, e4, k4⟩ := rd_field Try.underlying26 hlen hf hw 4 4 1 _ rfl rfl (by kernel_rfl) (rd_slice (cells := (fun x : Sl TWindow => [Sl.val x])) (sz := 1) Try.underlying22 (by kernel_rfl) (fun _ => rfl) (by decide) (by kernel_rfl) (rd_slice (cells := TWindow.cells) (sz := 3) Try.underlying62 (by kernel_rfl) (fun _ => rfl) (by decide) (by kernel_rfl) rd_TWindow))
    have g4 : [c4] = _ := e4
    simp only [List.cons.injEq, and_true] at g4
    subst g4
    obtain ⟨y5, e5, k5⟩ := rd_field Try.underlying26 hlen hf hw 5 5 1 _ rfl rfl (by kernel_rfl) (rd_slice (cells := TPartition.cells) (sz := 8) Try.underlying23 (by kernel_rfl) (fun _ => rfl) (by decide) (by kernel_rfl) rd_TPartition)
    have g5 : [c5] = _ := e5
    simp only [List.cons.injEq, and_true] at g5
    subst g5
    obtain ⟨y6, e6, k6⟩ := rd_field Try.underlying26 hlen hf hw 6 6 1 _ rfl rfl (by kernel_rfl) (rd_slice (cells := TChannel.cells) (sz := 3) Try.underlying24 (by kernel_rfl) (fun _ => rfl) (by decide) (by kernel_rfl) rd_TChannel)
    have g6 : [c6] = _ := e6
    simp only [List.cons.injEq, and_true] at g6
    subst g6
    exact ⟨⟨y0, y1, y2, y3, y4, y5, y6⟩, rfl, ⟨k0, k1, k2, k3, k4, k5, k6⟩⟩
end Go.Proofs.Ytmmkacfeocnblaa.Ly
