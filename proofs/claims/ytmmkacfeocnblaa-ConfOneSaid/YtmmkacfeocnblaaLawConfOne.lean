/- ConfOne: the row: for every input the law returns true, and each argument reads behind the call as it read before. No conditions. -/
import Derived.Test.YtmmkacfeocnblaaRow
import Derived.Test.YtmmkacfeocnblaaYt
import Derived.Test.YtmmkacfeocnblaaRd
namespace Go.Proofs.Ytmmkacfeocnblaa.LawConfOne
open Go.ChangeShapes Go.WideShapes Go.ChangeAt Go.RowKit Go.Proofs.Ytmmkacfeocnblaa.Mem Go.Proofs.Ytmmkacfeocnblaa.Eng Go.Proofs.Ytmmkacfeocnblaa.Ly
set_option linter.unusedVariables false
set_option linter.unusedSimpArgs false
theorem own : ownKnob Try.prog.godebug = none := by kernel_rfl
theorem laid : laidOutB Try.prog = true := by kernel_rfl
theorem byt_of {W : World} {b : Sl Int} (h : SlOk u8c 1 (fun _ _ x => InK .u8 x) Any W b) : Byt b.xs := by
  intro x hx
  obtain ⟨i, hi, rfl⟩ := List.getElem_of_mem hx
  have h1 := h.2 i hi
  rw [gd_eq hi] at h1
  have h2 : 0 ≤ b.xs[i] ∧ b.xs[i] ≤ 255 := h1
  omega
set_option maxRecDepth 100000 in
theorem lifted (os : Os) (started : os.Started) (H : Type) (enc : TypeId × Value → H) :
    ReturnsInHanded {} Try.checked os 7 .any (Rows.confOneSpec.pre6 enc Try.prog Try.f7 Rows.confOneRow.domain false) (Rows.confOneSpec.post enc Try.prog Try.f7 false true false false) := by
  refine returnsInHanded_of_change_sized (C := Try.checked) own started (by kernel_rfl) Try.func7
    (ChangeSpec.witness6 (enc := enc) (C := Try.checked) false ⟨#[], #[.slice none 0 0], []⟩ 8 (by kernel_rfl) (by kernel_rfl) (by kernel_rfl) (by kernel_rfl)) ?_
  intro W base args ds gs before hval0 hW hcnd hsz0 _
  have hval : ∀ (j : Nat) t v, Try.f7.params[j]? = some t → args[j]? = some v → Value.okWide Try.prog W .any base t v := hval0
  have hW' := hW
  obtain ⟨p, q, hA0, hV, rfl, hfz, hnd⟩ := hW
  have hA : DataW.TrodAll enc Try.prog W 0 (fun _ => true) true Try.f7.params.toList args.toList ds p := hA0
  rw [Try.params7] at hA hval
  obtain ⟨rfl, rfl⟩ := trodVars_none hV
  obtain ⟨v0, vs0, d0, ds0, p0, q0, hargs, rfl, rfl, h0, r0⟩ := trodAll_cons hA
  obtain ⟨rfl, rfl, rfl⟩ := trodAll_nil r0
  obtain rfl : args = #[v0] := by cases args; simp_all
  obtain ⟨sa, sl, sc, rfl⟩ := okWide_slice Try.underlying27 (hval 0 27 v0 rfl rfl)
  obtain ⟨b, e1, hb⟩ := rd_arg1 (j := 0) (rd_slice (cells := u8c) (sz := 1) Try.underlying27 (by kernel_rfl) (fun _ => rfl) (by decide) (by kernel_rfl) (rd_int Try.underlying5)) rfl h0 hsz0 rfl rfl
  have hcall := one_calls W b hb.1 (byt_of hb)
  rw [show Value.slice b.a b.xs.length b.cap = Value.slice sa sl sc from e1.symm] at hcall
  refine hcall.mono fun e W' ⟨he, hk⟩ => ?_
  have bel := hk.below (Nat.le_refl _) (fun _ _ => id)
  exact ⟨_, he, Row.post_true laid (by kernel_rfl) (by kernel_rfl) Try.underlying4 rfl rfl hW' bel⟩
theorem over : Rows.confOneRow.holds Try.pinned (OpenSpec.ofChange Rows.confOneSpec) :=
  OpenClaim.holds_of_wide 7 Try.f7 rfl rfl rfl rfl rfl rfl rfl ⟨rfl, rfl, rfl, rfl, rfl⟩ rfl rfl rfl rfl rfl (by kernel_rfl) Try.func7 (by kernel_rfl)
    (of_decide_eq_true (by kernel_rfl)) (by unfold Func.isWrapper; first | (rw [if_pos (by decide +kernel)]; kernel_rfl) | (rw [if_neg (by decide +kernel)]; exact ⟨rfl, rfl⟩))
    (fun os started H enc _ => lifted os started H enc)
end Go.Proofs.Ytmmkacfeocnblaa.LawConfOne
namespace Go.Proofs.Ytmmkacfeocnblaa
/-- The row. -/
theorem confOne_holds : Rows.ConfOneSaid := LawConfOne.over
end Go.Proofs.Ytmmkacfeocnblaa
