/- ConfCut: the row: for every input the law returns true, and each argument reads behind the call as it read before. No conditions. -/
import Derived.Test.YtmmkacfeocnblaaRow
import Derived.Test.YtmmkacfeocnblaaYv
import Derived.Test.YtmmkacfeocnblaaRd
namespace Go.Proofs.Ytmmkacfeocnblaa.LawConfCut
open Go.ChangeShapes Go.WideShapes Go.ChangeAt Go.RowKit Go.Proofs.Ytmmkacfeocnblaa.Mem Go.Proofs.Ytmmkacfeocnblaa.Eng Go.Proofs.Ytmmkacfeocnblaa.Ly
set_option linter.unusedVariables false
set_option linter.unusedSimpArgs false
theorem own : ownKnob Try.prog.godebug = none := by kernel_rfl
theorem laid : laidOutB Try.prog = true := by kernel_rfl
theorem byt_of {W : World} {b : Sl Int} (h : SlOk u8c 1 (fun _ _ x => InK .u8 x) Any W b) : Byt b.xs := by
  intro x hx
  obtain ⟨i, hi, rfl⟩ := List.getElem_of_mem hx
  have h1 := h.2 i hi
  rw [gd_eq hi] at h1
  have h2 : 0 ≤ b.xs[i] ∧ b.xs[i] ≤ 255 := h1
  omega

set_option maxRecDepth 100000 in
theorem lifted (os : Os) (started : os.Started) (H : Type) (enc : TypeId × Value → H) :
    ReturnsInHanded {} Try.checked os 9 .any (Rows.confCutSpec.pre6 enc Try.prog Try.f9 Rows.confCutRow.domain false) (Rows.confCutSpec.post enc Try.prog Try.f9 false true false false) := by
  refine returnsInHanded_of_change_sized (C := Try.checked) own started (by kernel_rfl) Try.func9
    (ChangeSpec.witness6 (enc := enc) (C := Try.checked) false ⟨#[], #[.agg #[.int .i64 0, .int .i64 0, .int .i64 0, .int .i64 0, .slice none 0 0, .slice none 0 0, .slice none 0 0], .int .u16 0, .slice none 0 0], []⟩ 8 (by kernel_rfl) (by kernel_rfl) (by kernel_rfl) (by kernel_rfl)) ?_
  intro W base args ds gs before hval0 hW hcnd hsz0 _
  have hval : ∀ (j : Nat) t v, Try.f9.params[j]? = some t → args[j]? = some v → Value.okWide Try.prog W .any base t v := hval0
  have hW' := hW
  obtain ⟨p, q, hA0, hV, rfl, hfz, hnd⟩ := hW
  have hA : DataW.TrodAll enc Try.prog W 0 (fun _ => true) true Try.f9.params.toList args.toList ds p := hA0
  rw [Try.params9] at hA hval
  obtain ⟨rfl, rfl⟩ := trodVars_none hV
  obtain ⟨v0, vs0, d0, ds0, p0, q0, hargs, rfl, rfl, h0, r0⟩ := trodAll_cons hA
  obtain ⟨v1, vs1, d1, ds1, p1, q1, rfl, rfl, rfl, h1, r1⟩ := trodAll_cons r0
  obtain ⟨v2, vs2, d2, ds2, p2, q2, rfl, rfl, rfl, h2, r2⟩ := trodAll_cons r1
  obtain ⟨rfl, rfl, rfl⟩ := trodAll_nil r2
  obtain rfl : args = #[v0, v1, v2] := by cases args; simp_all
  obtain ⟨c, rfl, hc⟩ := rd_arg (j := 0) rd_TConfig Try.underlying26 (hval 0 26 v0 rfl rfl) h0 hsz0 rfl rfl
  obtain ⟨n1, rfl⟩ := okWide_int Try.underlying38 (hval 1 38 v1 rfl rfl)
  obtain ⟨sa, sl, sc, rfl⟩ := okWide_slice Try.underlying27 (hval 2 27 v2 rfl rfl)
  obtain ⟨at0, e1, hat⟩ := rd_arg1 (j := 1) (rd_int Try.underlying38) rfl h1 hsz0 rfl rfl
  obtain ⟨b, e2, hb⟩ := rd_arg1 (j := 2) (rd_slice (cells := u8c) (sz := 1) Try.underlying27 (by kernel_rfl) (fun _ => rfl) (by decide) (by kernel_rfl) (rd_int Try.underlying5)) rfl h2 hsz0 rfl rfl
  cases e1
  have k1 : 0 ≤ n1 ∧ n1 ≤ 65535 := hat
  obtain ⟨m, rfl⟩ := Int.eq_ofNat_of_zero_le k1.1
  have hcall := cut_calls W c hc m (by omega) b hb.1 (byt_of hb)
  rw [show Value.slice b.a b.xs.length b.cap = Value.slice sa sl sc from e2.symm] at hcall
  refine hcall.mono fun e W' ⟨he, hk⟩ => ?_
  have bel := hk.below (Nat.le_refl _) (fun _ _ => id)
  exact ⟨_, he, Row.post_true laid (by kernel_rfl) (by kernel_rfl) Try.underlying4 rfl rfl hW' bel⟩
theorem over : Rows.confCutRow.holds Try.pinned (OpenSpec.ofChange Rows.confCutSpec) :=
  OpenClaim.holds_of_wide 9 Try.f9 rfl rfl rfl rfl rfl rfl rfl ⟨rfl, rfl, rfl, rfl, rfl⟩ rfl rfl rfl rfl rfl (by kernel_rfl) Try.func9 (by kernel_rfl)
    (of_decide_eq_true (by kernel_rfl)) (by unfold Func.isWrapper; first | (rw [if_pos (by decide +kernel)]; kernel_rfl) | (rw [if_neg (by decide +kernel)]; exact ⟨rfl, rfl⟩))
    (fun os started H enc _ => lifted os started H enc)
end Go.Proofs.Ytmmkacfeocnblaa.LawConfCut
namespace Go.Proofs.Ytmmkacfeocnblaa
/-- The row. -/
theorem confCut_holds : Rows.ConfCutSaid := LawConfCut.over
end Go.Proofs.Ytmmkacfeocnblaa
