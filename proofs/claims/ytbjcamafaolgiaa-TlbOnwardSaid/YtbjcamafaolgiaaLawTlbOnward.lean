/- TlbOnward: the row: for every input the law returns true, and each argument reads behind the call as it read before. No conditions. -/
import Derived.Test.YtbjcamafaolgiaaRow
import Derived.Test.YtbjcamafaolgiaaRi
import Derived.Test.YtbjcamafaolgiaaRk
namespace Go.Proofs.Ytbjcamafaolgiaa.LawTlbOnward
open Go.ChangeShapes Go.WideShapes Go.ChangeAt Go.RowKit Go.Proofs.Ytbjcamafaolgiaa.Mem Go.Proofs.Ytbjcamafaolgiaa.Eng Go.Proofs.Ytbjcamafaolgiaa.Ly
set_option linter.unusedVariables false
set_option linter.unusedSimpArgs false
theorem own : ownKnob Try.prog.godebug = none := by kernel_rfl
theorem laid : laidOutB Try.prog = true := by kernel_rfl
set_option maxRecDepth 100000 in
theorem lifted (os : Os) (started : os.Started) (H : Type) (enc : TypeId × Value → H) :
    ReturnsInHanded {} Try.checked os 5 .any (Rows.tlbOnwardSpec.pre6 enc Try.prog Try.f5 Rows.tlbOnwardRow.domain false) (Rows.tlbOnwardSpec.post enc Try.prog Try.f5 false true false false) := by
  refine returnsInHanded_of_change_sized (C := Try.checked) own started (by kernel_rfl) Try.func5
    (ChangeSpec.witness6 (enc := enc) (C := Try.checked) false ⟨#[], #[.slice none 0 0, .slice none 0 0], []⟩ 8 (by kernel_rfl) (by kernel_rfl) (by kernel_rfl) (by kernel_rfl)) ?_
  intro W base args ds gs before hval0 hW hcnd hsz0 _
  have hval : ∀ (j : Nat) t v, Try.f5.params[j]? = some t → args[j]? = some v → Value.okWide Try.prog W .any base t v := hval0
  have hW' := hW
  obtain ⟨p, q, hA0, hV, rfl, hfz, hnd⟩ := hW
  have hA : DataW.TrodAll enc Try.prog W 0 (fun _ => true) true Try.f5.params.toList args.toList ds p := hA0
  rw [Try.params5] at hA hval
  obtain ⟨rfl, rfl⟩ := trodVars_none hV
  obtain ⟨v0, vs0, d0, ds0, p0, q0, hargs, rfl, rfl, h0, r0⟩ := trodAll_cons hA
  obtain ⟨v1, vs1, d1, ds1, p1, q1, rfl, rfl, rfl, h1, r1⟩ := trodAll_cons r0
  obtain ⟨rfl, rfl, rfl⟩ := trodAll_nil r1
  obtain rfl : args = #[v0, v1] := by cases args; simp_all
  obtain ⟨sa, sl, sc, rfl⟩ := okWide_slice Try.underlying33 (hval 0 33 v0 rfl rfl)
  obtain ⟨ta, tl, tc, rfl⟩ := okWide_slice Try.underlying33 (hval 1 33 v1 rfl rfl)
  obtain ⟨ahead, e1, ha⟩ := rd_arg1 (j := 0) (rd_slice (cells := TOp.cells) (sz := 6) Try.underlying33 (by kernel_rfl) (fun _ => rfl) (by decide) (by kernel_rfl) rd_TOp) rfl h0 hsz0 rfl rfl
  obtain ⟨behind, e2, hb⟩ := rd_arg1 (j := 1) (rd_slice (cells := TOp.cells) (sz := 6) Try.underlying33 (by kernel_rfl) (fun _ => rfl) (by decide) (by kernel_rfl) rd_TOp) rfl h1 hsz0 rfl rfl
  have hcall := onward_calls W ahead behind ha hb
  rw [show Value.slice ahead.a ahead.xs.length ahead.cap = Value.slice sa sl sc from e1.symm, show Value.slice behind.a behind.xs.length behind.cap = Value.slice ta tl tc from e2.symm] at hcall
  refine hcall.mono fun e W' ⟨he, hk⟩ => ?_
  have bel := hk.below (Nat.le_refl _) (fun _ _ => id)
  exact ⟨_, he, Row.post_true laid (by kernel_rfl) (by kernel_rfl) Try.underlying4 rfl rfl hW' bel⟩
theorem over : Rows.tlbOnwardRow.holds Try.pinned (OpenSpec.ofChange Rows.tlbOnwardSpec) :=
  OpenClaim.holds_of_wide 5 Try.f5 rfl rfl rfl rfl rfl rfl rfl ⟨rfl, rfl, rfl, rfl, rfl⟩ rfl rfl rfl rfl rfl (by kernel_rfl) Try.func5 (by kernel_rfl)
    (of_decide_eq_true (by kernel_rfl)) (by unfold Func.isWrapper; first | (rw [if_pos (by decide +kernel)]; kernel_rfl) | (rw [if_neg (by decide +kernel)]; exact ⟨rfl, rfl⟩))
    (fun os started H enc _ => lifted os started H enc)
end Go.Proofs.Ytbjcamafaolgiaa.LawTlbOnward
namespace Go.Proofs.Ytbjcamafaolgiaa
/-- The row. -/
theorem tlbOnward_holds : Rows.TlbOnwardSaid := LawTlbOnward.over
end Go.Proofs.Ytbjcamafaolgiaa
