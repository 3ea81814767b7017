/- HealthBack: the tied card: the law returns true. Conditions: those of the row (the two listed variables hold what the program's text lays), tied by the given tie. -/
import Derived.Test.YtlccogilgegnfaaDoorPb6
import Derived.Test.YtlccogilgegnfaaDoorTie
import Derived.Test.YtlccogilgegnfaaDoorCards
import Derived.SevenTiedAt
import Derived.LaidMore
import Derived.Stop.Joined
namespace Go.Proofs.YtlccogilgegnfaaDoor.LawHealthBack
open Go.ChangeShapes Go.WideShapes Go.ChangeAt Go.RowKit Go.Proofs.YtlccogilgegnfaaDoor.Mem Go.Proofs.YtlccogilgegnfaaDoor.Eng Go.Proofs.YtlccogilgegnfaaDoor.Ly Go.Proofs.YtlccogilgegnfaaDoor.Ad Go.Proofs.YtlccogilgegnfaaDoor.Hx
set_option linter.unusedVariables false
set_option linter.unusedSimpArgs false
theorem own : ownKnob Tryd.prog.godebug = none := by kernel_rfl
theorem laid : laidOutB Tryd.prog = true := by kernel_rfl
abbrev laid2 : List (String × DataW Unit) := [("bulkhead/admit.nowhere", Rows.laid_bulkhead_admit_nowhere), ("bulkhead/admit.fine", Rows.laid_bulkhead_admit_fine)]
theorem door_met (os : Os) (args : Array Value) : laidMetH Tryd.prog laid2 ((World.doorLaid Tryd.prog 400 os).forCall (fun _ _ => 0) ⟨#[], args, []⟩).memory :=
  laidMetH_of_parts3 (fuel := 8) (laidMet_of_run' 8 (by kernel_rfl) (by kernel_rfl)) (by kernel_rfl) (by kernel_rfl)
theorem at_of {l : List Value} {k : Nat} {v : Value} (h : (l.drop k).take 1 = [v]) : l[k]? = some v := by
  have h1 : ((l.drop k).take 1)[0]? = some v := by rw [h]; rfl
  rw [List.getElem?_take] at h1
  simpa using h1
theorem at_of2 {l : List Value} {k j m : Nat} {v : Value} (h : ((((l.drop k).take m).drop j).take 1) = [v]) (hj : j < m) : l[k + j]? = some v := by
  have h1 := at_of h
  rw [List.getElem?_take] at h1
  simpa [hj] using h1
theorem of_laid {W : World} (h : laidMetH Tryd.prog laid2 W) : Js W := by
  rw [MakeChecks.laidMetH_plain _ _ _ (by kernel_rfl)] at h
  obtain ⟨ps, ⟨g0, t0, cs0, f0, p0, q0, hg0, ht0, hv0, hd0, ⟨g1, t1, cs1, f1, p1, q1, hg1, ht1, hv1, hd1, _, _⟩, _⟩, _, _⟩ := h
  obtain rfl := Option.some.inj ((show Tryd.prog.globalNamed "bulkhead/admit.nowhere" = some 1 by kernel_rfl).symm.trans hg0)
  obtain rfl := Option.some.inj ((show Tryd.prog.globalNamed "bulkhead/admit.fine" = some 0 by kernel_rfl).symm.trans hg1)
  obtain rfl := Option.some.inj ((show (Tryd.prog.globals[1]?).map (·.type) = some 108 by kernel_rfl).symm.trans ht0)
  obtain rfl := Option.some.inj ((show (Tryd.prog.globals[0]?).map (·.type) = some 132 by kernel_rfl).symm.trans ht1)
  have c3 : Tryd.prog.cellsOf 3 = 1 := by kernel_rfl
  have cE : Tryd.prog.cellsOf 46 = 1 := by kernel_rfl
  have cW : Tryd.prog.cellsOf 108 = 2 := by kernel_rfl
  have key : ∀ {n : Nat} {l : List Value} {x : DataW Unit × List MemPlace} {a b : Int}, DataW.trod (fun _ => ()) Tryd.prog W 0 (fun _ => true) false n 108 l = some x → x.1 = .agg [.lit (.int .i64 a), .lit (.int .i64 b)] → (l.drop 0).take 1 = [.int .i64 a] ∧ (l.drop 1).take 1 = [.int .i64 b] := by
    intro n l x a b hx e
    obtain ⟨y0, y1, m, rfl, hl, k0, k1⟩ := trod_struct2 Tryd.underlying108 hx
    obtain ⟨u, hu, eu, -⟩ := DataW.trod_int Tryd.underlying3 k0
    obtain ⟨v, hv, ev, -⟩ := DataW.trod_int Tryd.underlying3 k1
    simp only [eu, ev, DataW.agg.injEq, List.cons.injEq, DataW.lit.injEq, Lit.int.injEq, true_and, and_true] at e
    rw [c3] at hu hv
    rw [← e.1, ← e.2]
    exact ⟨hu, hv⟩
  have hn := key hd0 rfl
  obtain ⟨y0, y1, m, hx, hl, k0, k1⟩ := trod_struct2 Tryd.underlying132 hd1
  obtain ⟨u, hu, eu, -⟩ := DataW.trod_int Tryd.underlying46 k0
  have hy : y1.1 = .agg [.lit (.int .i64 0), .lit (.int .i64 0)] ∧ u = 0 := by
    have e := (congrArg Prod.fst hx).symm
    simp only [eu, Rows.laid_bulkhead_admit_fine, DataW.agg.injEq, List.cons.injEq, DataW.lit.injEq, Lit.int.injEq, true_and, and_true] at e
    exact ⟨e.2, e.1⟩
  rw [cE] at hu
  rw [cW] at k1
  have hf := key k1 hy.1
  rw [hy.2] at hu
  have z0 := at_of hu
  have z1 := at_of2 hf.1 (by decide)
  have z2 := at_of2 hf.2 (by decide)
  have n0 := at_of hn.1
  have n1 := at_of hn.2
  have c0 := fun k => World.var?_cell hg0 hv0 k
  have c1 := fun k => World.var?_cell hg1 hv1 k
  constructor
  · intro k v hk
    match k, hk with
    | 0, hk => cases hk; rw [c0]; simpa using n0
    | 1, hk => cases hk; rw [c0]; simpa using n1
  · intro k v hk
    match k, hk with
    | 0, hk => cases hk; rw [c1]; simpa using z0
    | 1, hk => cases hk; rw [c1]; simpa using z1
    | 2, hk => cases hk; rw [c1]; simpa using z2
set_option maxRecDepth 100000 in
theorem lifted (os : Os) (started : os.Started) (H : Type) (enc : TypeId × Value → H) :
    ReturnsInHanded {} Tryd.checked os 4 .any (fun w args => (Rows.healthBackSpec.pre enc Tryd.prog Tryd.f4 [] false w args ∧ laidMetH Tryd.prog laid2 w) ∧ sizedMet enc Tryd.prog Tryd.f4 (OpenSpec.ofChange Rows.healthBackSpec) false w args)
      (Rows.healthBackSpec.post enc Tryd.prog Tryd.f4 false true false false) := by
  refine returnsInHanded_of_change_and (C := Tryd.checked) (X := fun w _ => laidMetH Tryd.prog laid2 w) (fun _ _ _ hh h => h.of_heap hh) own started (by kernel_rfl) Tryd.func4
    (ChangeSpec.witness_shaped (enc := enc) (C := Tryd.checked) (os := os) (X := fun w _ => laidMetH Tryd.prog laid2 w) false (World.doorLaid Tryd.prog 400 os) #[.agg #[.int .i64 0, .int .i64 0, .int .i64 0, .int .i64 0, .slice none 0 0, .slice none 0 0, .slice none 0 0], .int .i64 0, .slice none 0 0] 8 rfl (World.shaped_of_RefB (by kernel_rfl) (by kernel_rfl)) (by kernel_rfl) (by kernel_rfl) (by kernel_rfl) (door_met os _)) ?_
  intro W base args ds gs before hval0 hW hcnd hsz0 hL _
  have hval : ∀ (j : Nat) t v, Tryd.f4.params[j]? = some t → args[j]? = some v → Value.okWide Tryd.prog W .any base t v := hval0
  have hW' := hW
  obtain ⟨p, q, hA0, hV, rfl, hfz, hnd⟩ := hW
  have hA : DataW.TrodAll enc Tryd.prog W 0 (fun _ => true) true Tryd.f4.params.toList args.toList ds p := hA0
  rw [Tryd.params4] at hA hval
  obtain ⟨rfl, rfl⟩ := trodVars_none hV
  obtain ⟨v0, vs0, d0, ds0, p0, q0, hargs, rfl, rfl, h0, r0⟩ := trodAll_cons hA
  obtain ⟨v1, vs1, d1, ds1, p1, q1, rfl, rfl, rfl, h1, r1⟩ := trodAll_cons r0
  obtain ⟨v2, vs2, d2, ds2, p2, q2, rfl, rfl, rfl, h2, r2⟩ := trodAll_cons r1
  obtain ⟨rfl, rfl, rfl⟩ := trodAll_nil r2
  obtain rfl : args = #[v0, v1, v2] := by cases args; simp_all
  obtain ⟨c, rfl, hc⟩ := rd_arg (j := 0) rd_Conf Tryd.underlying26 (hval 0 26 v0 rfl rfl) h0 hsz0 rfl rfl
  obtain ⟨n1, rfl⟩ := okWide_int Tryd.underlying3 (hval 1 3 v1 rfl rfl)
  obtain ⟨p, e1, hp⟩ := rd_arg1 (j := 1) (I7 Tryd.underlying3) rfl h1 hsz0 rfl rfl
  cases e1
  obtain ⟨sa2, sl2, sc2, rfl⟩ := okWide_slice Tryd.underlying27 (hval 2 27 v2 rfl rfl)
  obtain ⟨sc, e2, hsc⟩ := rd_arg1 (j := 2) (rd_slice (cells := Ox.cells) (sz := 23) Tryd.underlying27 (by kernel_rfl) (fun _ => rfl) (by decide) (by kernel_rfl) rd_TOp) rfl h2 hsz0 rfl rfl
  have e2' : Value.slice sa2 sl2 sc2 = Value.slice sc.a sc.xs.length sc.cap := e2; clear e2; cases e2'
  refine (Hx.back_calls W (Go.Proofs.YtlccogilgegnfaaDoor.LawHealthBack.of_laid hL) c hc.1 hc.2.sum n1 hp sc hsc).mono fun e W' ⟨he, hk⟩ => ?_
  have bel := hk.below (Nat.le_refl _) (fun _ _ => id)
  exact ⟨_, he, Row.post_true laid (by kernel_rfl) (by kernel_rfl) Tryd.underlying4 rfl rfl hW' bel⟩
theorem over : Rows.HealthBackSaid :=
  OpenClaim.holds_of_wide 4 Tryd.f4 rfl rfl rfl rfl rfl rfl rfl ⟨rfl, rfl, rfl, rfl, rfl⟩ rfl rfl rfl rfl rfl (by kernel_rfl) Tryd.func4 (by kernel_rfl)
    (of_decide_eq_true (by kernel_rfl)) (by unfold Func.isWrapper; first | (rw [if_pos (by decide +kernel)]; kernel_rfl) | (rw [if_neg (by decide +kernel)]; exact ⟨rfl, rfl⟩))
    (fun os started H enc _ => lifted os started H enc)
end Go.Proofs.YtlccogilgegnfaaDoor.LawHealthBack
namespace Go.Proofs.YtlccogilgegnfaaDoor
/-- The tied card. -/
theorem healthBack_holds : Rows.HealthBackCardSaid :=
  Claim7.holds_tied_plain_at .later [] [.data, .data] true (true, "de7a9fb23d14792e73aa5d3fc7673fd4fbd2894c19c2bdd98a6d76c032d1072d") false
    LawHealthBack.over (fun _ h => by cases h) (by kernel_rfl) (fun _ h => by cases h) healthBack_row_tie rfl ⟨rfl, rfl⟩ (by kernel_rfl) rfl
    (fun f fn hf hfn => by
      obtain rfl : f = 4 := Option.some.inj ((show Tryd.prog.funcNamed "bulkhead/bulkheadlaw23.HealthBack" = some 4 by kernel_rfl).symm.trans hf) |>.symm
      obtain rfl : fn = Tryd.f4 := (Option.some.inj (Tryd.func4.symm.trans hfn)).symm
      exact ⟨by kernel_rfl, fun j t ht => by
        rw [Tryd.params4] at ht
        match j, ht with
        | 0, ht => cases ht; show Tryd.prog.wantsStandIn 26 = false; kernel_rfl
        | 1, ht => cases ht; show Tryd.prog.wantsStandIn 3 = false; kernel_rfl
        | 2, ht => cases ht; show Tryd.prog.wantsStandIn 27 = false; kernel_rfl
        | j + 3, ht => simp at ht⟩)
    (by kernel_rfl)
end Go.Proofs.YtlccogilgegnfaaDoor
