/- LayoutSizes: for every channel Stage and Port are the document's answers. No conditions. -/
import Derived.Test.YtpoeaajkgblkmaaRow
import Derived.Test.YtpoeaajkgblkmaaPLayoutSizesx1
import Derived.Lib.SmallJoins
namespace Go.Proofs.Ytpoeaajkgblkmaa.LayoutSizes
open Go.ChangeShapes Go.WideShapes Go.ChangeAt Go.RowKit Go.Joins
open Go.Proofs.Ytpoeaajkgblkmaa.PLayoutSizes
set_option linter.unusedVariables false
set_option linter.unusedSimpArgs false

/-- The plain law: the two functions' numbers are the reference's. -/
theorem pure_sizes (a b c : Int) (hb : b ≤ 9223372036854775807) : bulkheadlaw15_LayoutSizes.f 1 a b c = some true := by
  unfold bulkheadlaw15_LayoutSizes.f layout_Stage.f layout_Port.f bulkheadref15_Stage.f bulkheadref15_Port.f layout_Stage.f bulkheadref15_body.f
  by_cases h1 : b < 1
  · simp [h1, layout_Stage.j0, bulkheadref15_body.j0]
  by_cases h2 : b > 16
  · simp [h1, h2, layout_Stage.j0, bulkheadref15_body.j0]
  by_cases h3 : a = 1
  · have e1 : wrap64 (2 + b) = 2 + b := by unfold wrap64; omega
    have e2 : wrap64 (2 + b + 1) = 3 + b := by unfold wrap64; omega
    have e3 : wrap64 (3 + b) = 3 + b := by unfold wrap64; omega
    have n1 : ¬ (2 + b = 0) := by omega
    have n2 : ¬ (b = 0) := by omega
    simp [h1, h2, h3, layout_Stage.j0, bulkheadref15_body.j0, e1, e2, e3, n1, n2]
  by_cases h4 : a = 2
  · by_cases h5 : c ≥ 1
    · by_cases h6 : c ≤ 8
      · have e1 : wrap64 (1 + b) = 1 + b := by unfold wrap64; omega
        have hp : 1 ≤ c * (1 + b) ∧ c * (1 + b) ≤ 8 * 17 := by
          constructor
          · exact Int.le_trans (by omega) (Int.mul_le_mul h5 (show 1 ≤ 1 + b by omega) (by omega) (by omega))
          · exact Int.mul_le_mul h6 (show 1 + b ≤ 17 by omega) (by omega) (by omega)
        have k1 : wrap64 (c * (1 + b)) = c * (1 + b) := by generalize c * (1 + b) = m at hp; unfold wrap64; omega
        have k2 : wrap64 (1 + c * (1 + b)) = 1 + c * (1 + b) := by generalize c * (1 + b) = m at hp; unfold wrap64; omega
        have k3 : wrap64 (1 + c * (1 + b) + 2) = 3 + c * (1 + b) := by generalize c * (1 + b) = m at hp; unfold wrap64; omega
        have k4 : wrap64 (3 + c * (1 + b)) = 3 + c * (1 + b) := by generalize c * (1 + b) = m at hp; unfold wrap64; omega
        have n1 : ¬ (1 + c * (1 + b) = 0) := by omega
        have n2 : ¬ (c * (1 + b) = 0) := by omega
        simp only [layout_Stage.j0, bulkheadref15_body.j0, e1, k1, k2, k3, k4, Option.bind_some]
        simp [h1, h2, h3, h4, h5, h6, n1, n2, k2, k3, k4]
      · simp [h1, h2, h4, h5, h6, layout_Stage.j0, bulkheadref15_body.j0]
    · simp [h1, h2, h4, h5, layout_Stage.j0, bulkheadref15_body.j0]
  · simp [h1, h2, h3, h4, layout_Stage.j0, bulkheadref15_body.j0]

theorem own : ownKnob Try.prog.godebug = none := by kernel_rfl
theorem laid : laidOutB Try.prog = true := by kernel_rfl
theorem cells23 : Try.prog.cellsOf 23 = 3 := by kernel_rfl
set_option maxRecDepth 100000 in
theorem lifted (os : Os) (started : os.Started) (H : Type) (enc : TypeId × Value → H) :
    ReturnsInHanded {} Try.checked os 3 .any (Rows.layoutSizesSpec.pre6 enc Try.prog Try.f3 Rows.layoutSizesRow.domain false) (Rows.layoutSizesSpec.post enc Try.prog Try.f3 false true false false) := by
  refine returnsInHanded_of_change_sized (C := Try.checked) own started (by kernel_rfl) Try.func3
    (ChangeSpec.witness6 (enc := enc) (C := Try.checked) false ⟨#[], #[.agg #[.int .i64 0, .int .i64 0, .int .i64 0]], []⟩ 8 (by kernel_rfl) (by kernel_rfl) (by kernel_rfl) (by kernel_rfl)) ?_
  intro W base args ds gs before hval0 hW hcnd hsz0 _
  have hval : ∀ (j : Nat) t v, Try.f3.params[j]? = some t → args[j]? = some v → Value.okWide Try.prog W .any base t v := hval0
  have hW' := hW
  obtain ⟨p, q, hA0, hV, rfl, hfz, hnd⟩ := hW
  have hA : DataW.TrodAll enc Try.prog W 0 (fun _ => true) true Try.f3.params.toList args.toList ds p := hA0
  rw [Try.params3] at hA hval
  obtain ⟨v0, vs0, d0, ds0, p0, q0, hargs, rfl, rfl, h0, r0⟩ := trodAll_cons hA
  obtain ⟨rfl, rfl, rfl⟩ := trodAll_nil r0
  obtain rfl : args = #[v0] := by cases args; simp_all
  obtain ⟨rfl, rfl⟩ := trodVars_none hV
  obtain ⟨c0, c1, c2, y0, y1, y2, m, hv0, hd0, hp0, e0, e1, e2⟩ := open_agg3 Try.underlying23 (by kernel_rfl) cells23 (hval 0 23 v0 rfl rfl) h0
  obtain ⟨a, g0, hc0, w0⟩ := DataW.trod_int Try.underlying3 e0
  obtain ⟨b, g1, hc1, w1⟩ := DataW.trod_int Try.underlying3 e1
  obtain ⟨c, g2, hc2, w2⟩ := DataW.trod_int Try.underlying3 e2
  simp only [List.cons.injEq, and_true] at g0 g1 g2
  subst g0 g1 g2 hv0
  refine (bulkheadlaw15_LayoutSizes.calls 1 a b c true W (pure_sizes a b c (bounds_i64 w1).2)).mono fun e W' ⟨he, bel⟩ => ?_
  exact ⟨_, he, Row.post_true laid (by kernel_rfl) (by kernel_rfl) Try.underlying4 rfl rfl hW' bel⟩
theorem over : Rows.layoutSizesRow.holds Try.pinned (OpenSpec.ofChange Rows.layoutSizesSpec) :=
  OpenClaim.holds_of_wide 3 Try.f3 rfl rfl rfl rfl rfl rfl rfl ⟨rfl, rfl, rfl, rfl, rfl⟩ rfl rfl rfl rfl rfl (by kernel_rfl) Try.func3 (by kernel_rfl)
    (of_decide_eq_true (by kernel_rfl)) (by unfold Func.isWrapper; first | (rw [if_pos (by decide +kernel)]; kernel_rfl) | (rw [if_neg (by decide +kernel)]; exact ⟨rfl, rfl⟩))
    (fun os started H enc _ => lifted os started H enc)
end Go.Proofs.Ytpoeaajkgblkmaa.LayoutSizes
namespace Go.Proofs.Ytpoeaajkgblkmaa
/-- The row. -/
theorem layoutSizes_holds : Rows.LayoutSizesSaid := LayoutSizes.over
end Go.Proofs.Ytpoeaajkgblkmaa
