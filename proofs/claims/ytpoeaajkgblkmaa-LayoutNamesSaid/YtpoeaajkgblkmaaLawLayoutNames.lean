/- LayoutNames: the row: for every input the law returns true, and each argument reads behind the call as it read before. No conditions. -/
import Derived.Test.YtpoeaajkgblkmaaRow
import Derived.Test.YtpoeaajkgblkmaaLaA
namespace Go.Proofs.Ytpoeaajkgblkmaa.LawLayoutNames
open Go.ChangeShapes Go.WideShapes Go.ChangeAt Go.RowKit Go.Proofs.Ytpoeaajkgblkmaa.Mem Go.Proofs.Ytpoeaajkgblkmaa.La
set_option linter.unusedVariables false
set_option linter.unusedSimpArgs false
theorem own : ownKnob Try.prog.godebug = none := by kernel_rfl
theorem laid : laidOutB Try.prog = true := by kernel_rfl
set_option maxRecDepth 100000 in
theorem lifted (os : Os) (started : os.Started) (H : Type) (enc : TypeId × Value → H) :
    ReturnsInHanded {} Try.checked os 6 .any (Rows.layoutNamesSpec.pre6 enc Try.prog Try.f6 Rows.layoutNamesRow.domain false) (Rows.layoutNamesSpec.post enc Try.prog Try.f6 false true false false) := by
  refine returnsInHanded_of_change_sized (C := Try.checked) own started (by kernel_rfl) Try.func6
    (ChangeSpec.witness6 (enc := enc) (C := Try.checked) false ⟨#[], #[], []⟩ 8 (by kernel_rfl) (by kernel_rfl) (by kernel_rfl) (by kernel_rfl)) ?_
  intro W base args ds gs before hval0 hW hcnd hsz0 _
  have hval : ∀ (j : Nat) t v, Try.f6.params[j]? = some t → args[j]? = some v → Value.okWide Try.prog W .any base t v := hval0
  have hW' := hW
  obtain ⟨p, q, hA0, hV, rfl, hfz, hnd⟩ := hW
  have hA : DataW.TrodAll enc Try.prog W 0 (fun _ => true) true Try.f6.params.toList args.toList ds p := hA0
  rw [Try.params6] at hA hval
  obtain ⟨rfl, rfl⟩ := trodVars_none hV
  obtain ⟨rfl, rfl, rfl⟩ := trodAll_none hA
  refine (names_calls W).mono fun e W' ⟨he, bel⟩ => ?_
  exact ⟨_, he, Row.post_true laid (by kernel_rfl) (by kernel_rfl) Try.underlying4 rfl rfl hW' bel⟩
theorem over : Rows.layoutNamesRow.holds Try.pinned (OpenSpec.ofChange Rows.layoutNamesSpec) :=
  OpenClaim.holds_of_wide 6 Try.f6 rfl rfl rfl rfl rfl rfl rfl ⟨rfl, rfl, rfl, rfl, rfl⟩ rfl rfl rfl rfl rfl (by kernel_rfl) Try.func6 (by kernel_rfl)
    (of_decide_eq_true (by kernel_rfl)) (by unfold Func.isWrapper; first | (rw [if_pos (by decide +kernel)]; kernel_rfl) | (rw [if_neg (by decide +kernel)]; exact ⟨rfl, rfl⟩))
    (fun os started H enc _ => lifted os started H enc)
end Go.Proofs.Ytpoeaajkgblkmaa.LawLayoutNames
namespace Go.Proofs.Ytpoeaajkgblkmaa
/-- The row. -/
theorem layoutNames_holds : Rows.LayoutNamesSaid := LawLayoutNames.over
end Go.Proofs.Ytpoeaajkgblkmaa
