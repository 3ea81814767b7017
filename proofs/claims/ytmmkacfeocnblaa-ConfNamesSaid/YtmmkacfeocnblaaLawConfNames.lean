/- ConfNames: the row: for every input the law returns true, and each argument reads behind the call as it read before. No conditions. -/
import Derived.Test.YtmmkacfeocnblaaRow
import Derived.Test.YtmmkacfeocnblaaWrC
namespace Go.Proofs.Ytmmkacfeocnblaa.LawConfNames
open Go.ChangeShapes Go.WideShapes Go.ChangeAt Go.RowKit Go.Proofs.Ytmmkacfeocnblaa.Mem Go.Proofs.Ytmmkacfeocnblaa.Wr
set_option linter.unusedVariables false
set_option linter.unusedSimpArgs false
theorem own : ownKnob Try.prog.godebug = none := by kernel_rfl
theorem laid : laidOutB Try.prog = true := by kernel_rfl
set_option maxRecDepth 100000 in
theorem lifted (os : Os) (started : os.Started) (H : Type) (enc : TypeId × Value → H) :
    ReturnsInHanded {} Try.checked os 4 .any (Rows.confNamesSpec.pre6 enc Try.prog Try.f4 Rows.confNamesRow.domain false) (Rows.confNamesSpec.post enc Try.prog Try.f4 false true false false) := by
  refine returnsInHanded_of_change_sized (C := Try.checked) own started (by kernel_rfl) Try.func4
    (ChangeSpec.witness6 (enc := enc) (C := Try.checked) false ⟨#[], #[], []⟩ 8 (by kernel_rfl) (by kernel_rfl) (by kernel_rfl) (by kernel_rfl)) ?_
  intro W base args ds gs before hval0 hW hcnd hsz0 _
  have hval : ∀ (j : Nat) t v, Try.f4.params[j]? = some t → args[j]? = some v → Value.okWide Try.prog W .any base t v := hval0
  have hW' := hW
  obtain ⟨p, q, hA0, hV, rfl, hfz, hnd⟩ := hW
  have hA : DataW.TrodAll enc Try.prog W 0 (fun _ => true) true Try.f4.params.toList args.toList ds p := hA0
  rw [Try.params4] at hA hval
  obtain ⟨rfl, rfl⟩ := trodVars_none hV
  obtain ⟨rfl, rfl, rfl⟩ := trodAll_none hA
  refine (names_calls W).mono fun e W' ⟨he, bel⟩ => ?_
  exact ⟨_, he, Row.post_true laid (by kernel_rfl) (by kernel_rfl) Try.underlying4 rfl rfl hW' bel⟩
theorem over : Rows.confNamesRow.holds Try.pinned (OpenSpec.ofChange Rows.confNamesSpec) :=
  OpenClaim.holds_of_wide 4 Try.f4 rfl rfl rfl rfl rfl rfl rfl ⟨rfl, rfl, rfl, rfl, rfl⟩ rfl rfl rfl rfl rfl (by kernel_rfl) Try.func4 (by kernel_rfl)
    (of_decide_eq_true (by kernel_rfl)) (by unfold Func.isWrapper; first | (rw [if_pos (by decide +kernel)]; kernel_rfl) | (rw [if_neg (by decide +kernel)]; exact ⟨rfl, rfl⟩))
    (fun os started H enc _ => lifted os started H enc)
end Go.Proofs.Ytmmkacfeocnblaa.LawConfNames
namespace Go.Proofs.Ytmmkacfeocnblaa
/-- The row. -/
theorem confNames_holds : Rows.ConfNamesSaid := LawConfNames.over
end Go.Proofs.Ytmmkacfeocnblaa
