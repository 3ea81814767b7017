/- CoreNames: the tied card: the law returns true. Conditions: those of the row (the listed variable holds what the program's text lays), tied by the given tie. -/
import Derived.Test.YtjdkigkknhefpaaDoorPc3
import Derived.OpenShut
import Derived.Deep.Slices
import Derived.Test.YtjdkigkknhefpaaDoorTie
import Derived.Test.YtjdkigkknhefpaaDoorCards
import Derived.SevenTiedAt
import Derived.LaidMore
import Derived.Stop.Joined
namespace Go.Proofs.YtjdkigkknhefpaaDoor.LawCoreNames
open Go.ChangeShapes Go.WideShapes Go.ChangeAt Go.RowKit Go.Proofs.YtjdkigkknhefpaaDoor.Mem Go.Proofs.YtjdkigkknhefpaaDoor.Eng Go.Proofs.YtjdkigkknhefpaaDoor.Ly Go.Deep
set_option linter.unusedVariables false
set_option linter.unusedSimpArgs false
theorem own : ownKnob Tryd.prog.godebug = none := by kernel_rfl
theorem laid : laidOutB Tryd.prog = true := by kernel_rfl
abbrev laid1 : List (String × DataW Unit) := [("bulkhead/isa.rows", Rows.laid_bulkhead_isa_rows)]
theorem door_met (os : Os) (args : Array Value) : laidMetH Tryd.prog laid1 ((World.doorLaid Tryd.prog 400 os).forCall (fun _ _ => 0) ⟨#[], args, []⟩).memory :=
  laidMetH_of_parts3 (fuel := 8) (laidMet_of_run' 8 (by kernel_rfl) (by kernel_rfl)) (by kernel_rfl) (by kernel_rfl)
theorem ML {l : List Value} {k : Nat} {v : Value} (h : (l.drop k).take 1 = [v]) : l[k]? = some v := by
  have h1 : ((l.drop k).take 1)[0]? = some v := by rw [h]; rfl
  rw [List.getElem?_take] at h1
  simpa using h1
theorem at_of2 {l : List Value} {k j m : Nat} {v : Value} (h : ((((l.drop k).take m).drop j).take 1) = [v]) (hj : j < m) : l[k + j]? = some v := by
  have h1 := ML h
  rw [List.getElem?_take] at h1
  simpa [hj] using h1
def isaF : List Int := [0, 1, 3, 5, 5, 4, 4, 4, 4, 4, 4, 4, 4, 4, 4, 4, 4, 4, 6, 6, 6, 6, 6, 6, 6, 6, 7, 5, 2, 2, 7]
def isaC : List Int := [0, 1, 1, 1, 1, 1, 1, 3, 8, 8, 1, 1, 1, 1, 1, 1, 1, 1, 1, 1, 1, 1, 1, 1, 1, 1, 1, 1, 1, 1, 24]
def rowsL : List (DataW Unit) := match (Rows.laid_bulkhead_isa_rows : DataW Unit) with | .agg l => l | _ => []
theorem rows_at : ∀ i, i < 31 → ∃ bs, rowsL[i]? = some (.agg [.lit (.string bs), .lit (.int .i64 (gd isaF i)), .lit (.int .i64 (gd isaC i))]) := by
  intro i hi
  match i, hi with
    | 0, _ => exact ⟨_, rfl⟩
    | 1, _ => exact ⟨_, rfl⟩
    | 2, _ => exact ⟨_, rfl⟩
    | 3, _ => exact ⟨_, rfl⟩
    | 4, _ => exact ⟨_, rfl⟩
    | 5, _ => exact ⟨_, rfl⟩
    | 6, _ => exact ⟨_, rfl⟩
    | 7, _ => exact ⟨_, rfl⟩
    | 8, _ => exact ⟨_, rfl⟩
    | 9, _ => exact ⟨_, rfl⟩
    | 10, _ => exact ⟨_, rfl⟩
    | 11, _ => exact ⟨_, rfl⟩
    | 12, _ => exact ⟨_, rfl⟩
    | 13, _ => exact ⟨_, rfl⟩
    | 14, _ => exact ⟨_, rfl⟩
    | 15, _ => exact ⟨_, rfl⟩
    | 16, _ => exact ⟨_, rfl⟩
    | 17, _ => exact ⟨_, rfl⟩
    | 18, _ => exact ⟨_, rfl⟩
    | 19, _ => exact ⟨_, rfl⟩
    | 20, _ => exact ⟨_, rfl⟩
    | 21, _ => exact ⟨_, rfl⟩
    | 22, _ => exact ⟨_, rfl⟩
    | 23, _ => exact ⟨_, rfl⟩
    | 24, _ => exact ⟨_, rfl⟩
    | 25, _ => exact ⟨_, rfl⟩
    | 26, _ => exact ⟨_, rfl⟩
    | 27, _ => exact ⟨_, rfl⟩
    | 28, _ => exact ⟨_, rfl⟩
    | 29, _ => exact ⟨_, rfl⟩
    | 30, _ => exact ⟨_, rfl⟩
    | n + 31, h => omega
theorem of_laid {W : World} (h : laidMetH Tryd.prog laid1 W) : ∃ nm, Co.H8 nm W := by
  rw [MakeChecks.laidMetH_plain _ _ _ (by kernel_rfl)] at h
  obtain ⟨ps, ⟨g0, t0, cs0, f0, p0, q0, hg0, ht0, hv0, hd0, _, _⟩, _, _⟩ := h
  obtain rfl := Option.some.inj ((show Tryd.prog.globalNamed "bulkhead/isa.rows" = some 0 by kernel_rfl).symm.trans hg0)
  obtain rfl := Option.some.inj ((show (Tryd.prog.globals[0]?).map (·.type) = some 135 by kernel_rfl).symm.trans ht0)
  obtain ⟨xs, m, -, hx, hl, hlen, hf⟩ := DataW.trod_array Tryd.underlying135 hd0
  have hxl : xs.map (·.1) = rowsL := by
    have e := congrArg Prod.fst hx
    have e2 : (Rows.laid_bulkhead_isa_rows : DataW Unit) = .agg (xs.map (·.1)) := e
    unfold rowsL
    rw [e2]
  have c3 : Tryd.prog.cellsOf 108 = 3 := by kernel_rfl
  have c0 := fun k => World.var?_cell hg0 hv0 k
  have key : ∀ i, i < 31 → ∃ s : ByteArray, W.cell? ⟨0, 0 + 3 * i, none⟩ = some (.string s) ∧ W.cell? ⟨0, 0 + (3 * i + 1), none⟩ = some (.int .i64 (gd isaF i)) ∧ W.cell? ⟨0, 0 + (3 * i + 2), none⟩ = some (.int .i64 (gd isaC i)) := by
    intro i hi
    have h1 := hf i hi
    rw [c3, List.getElem?_eq_getElem (by omega)] at h1
    obtain ⟨bs, hb⟩ := rows_at i hi
    rw [← hxl, List.getElem?_map, List.getElem?_eq_getElem (by omega)] at hb
    have hb' : (xs[i]'(by omega)).1 = .agg [.lit (.string bs), .lit (.int .i64 (gd isaF i)), .lit (.int .i64 (gd isaC i))] := Option.some.inj hb
    generalize xs[i]'(by omega) = x at h1 hb'
    obtain ⟨ys, n, -, rfl, hl2, hlen2, hf2⟩ := DataW.trod_struct Tryd.underlying108 h1
    match ys, hlen2 with
    | [y0, y1, y2], _ =>
      have k0 := hf2 0 _ rfl
      have k1 := hf2 1 _ rfl
      have k2 := hf2 2 _ rfl
      simp only [List.getElem?_cons_zero, List.getElem?_cons_succ] at k0 k1 k2
      obtain ⟨s, hs, es, -⟩ := DataW.trod_string Tryd.underlying9 k0
      obtain ⟨u, hu, eu, -⟩ := DataW.trod_int Tryd.underlying3 k1
      obtain ⟨v, hv, ev, -⟩ := DataW.trod_int Tryd.underlying3 k2
      simp only [List.map_cons, List.map_nil, eu, ev, DataW.agg.injEq, List.cons.injEq, DataW.lit.injEq, Lit.int.injEq, true_and, and_true] at hb'
      have e0 : Tryd.prog.cellsOf 9 = 1 := by kernel_rfl
      have e1 : Tryd.prog.cellsOf 3 = 1 := by kernel_rfl
      have hs' : ((((cs0.toList.drop (i * 3)).take 3).drop 0).take (Tryd.prog.cellsOf 9)) = [.string s] := hs
      have hu' : ((((cs0.toList.drop (i * 3)).take 3).drop 1).take (Tryd.prog.cellsOf 3)) = [.int .i64 u] := hu
      have hv' : ((((cs0.toList.drop (i * 3)).take 3).drop 2).take (Tryd.prog.cellsOf 3)) = [.int .i64 v] := hv
      rw [e0] at hs'
      rw [e1, hb'.2.1] at hu'
      rw [e1, hb'.2.2] at hv'
      refine ⟨s, ?_, ?_, ?_⟩
      · rw [c0]; simpa [Nat.mul_comm] using at_of2 hs' (by decide)
      · rw [c0]; simpa [Nat.mul_comm] using at_of2 hu' (by decide)
      · rw [c0]; simpa [Nat.mul_comm] using at_of2 hv' (by decide)
  obtain ⟨nm, hq⟩ := choose_lt (α := ByteArray) key
  refine ⟨nm, fun k v hk => ?_⟩
  match k, hk with
    | 0, hk => cases hk; exact (hq 0 (by decide)).1
    | 1, hk => cases hk; exact (hq 0 (by decide)).2.1
    | 2, hk => cases hk; exact (hq 0 (by decide)).2.2
    | 3, hk => cases hk; exact (hq 1 (by decide)).1
    | 4, hk => cases hk; exact (hq 1 (by decide)).2.1
    | 5, hk => cases hk; exact (hq 1 (by decide)).2.2
    | 6, hk => cases hk; exact (hq 2 (by decide)).1
    | 7, hk => cases hk; exact (hq 2 (by decide)).2.1
    | 8, hk => cases hk; exact (hq 2 (by decide)).2.2
    | 9, hk => cases hk; exact (hq 3 (by decide)).1
    | 10, hk => cases hk; exact (hq 3 (by decide)).2.1
    | 11, hk => cases hk; exact (hq 3 (by decide)).2.2
    | 12, hk => cases hk; exact (hq 4 (by decide)).1
    | 13, hk => cases hk; exact (hq 4 (by decide)).2.1
    | 14, hk => cases hk; exact (hq 4 (by decide)).2.2
    | 15, hk => cases hk; exact (hq 5 (by decide)).1
    | 16, hk => cases hk; exact (hq 5 (by decide)).2.1
    | 17, hk => cases hk; exact (hq 5 (by decide)).2.2
    | 18, hk => cases hk; exact (hq 6 (by decide)).1
    | 19, hk => cases hk; exact (hq 6 (by decide)).2.1
    | 20, hk => cases hk; exact (hq 6 (by decide)).2.2
    | 21, hk => cases hk; exact (hq 7 (by decide)).1
    | 22, hk => cases hk; exact (hq 7 (by decide)).2.1
    | 23, hk => cases hk; exact (hq 7 (by decide)).2.2
    | 24, hk => cases hk; exact (hq 8 (by decide)).1
    | 25, hk => cases hk; exact (hq 8 (by decide)).2.1
    | 26, hk => cases hk; exact (hq 8 (by decide)).2.2
    | 27, hk => cases hk; exact (hq 9 (by decide)).1
    | 28, hk => cases hk; exact (hq 9 (by decide)).2.1
    | 29, hk => cases hk; exact (hq 9 (by decide)).2.2
    | 30, hk => cases hk; exact (hq 10 (by decide)).1
    | 31, hk => cases hk; exact (hq 10 (by decide)).2.1
    | 32, hk => cases hk; exact (hq 10 (by decide)).2.2
    | 33, hk => cases hk; exact (hq 11 (by decide)).1
    | 34, hk => cases hk; exact (hq 11 (by decide)).2.1
    | 35, hk => cases hk; exact (hq 11 (by decide)).2.2
    | 36, hk => cases hk; exact (hq 12 (by decide)).1
    | 37, hk => cases hk; exact (hq 12 (by decide)).2.1
    | 38, hk => cases hk; exact (hq 12 (by decide)).2.2
    | 39, hk => cases hk; exact (hq 13 (by decide)).1
    | 40, hk => cases hk; exact (hq 13 (by decide)).2.1
    | 41, hk => cases hk; exact (hq 13 (by decide)).2.2
    | 42, hk => cases hk; exact (hq 14 (by decide)).1
    | 43, hk => cases hk; exact (hq 14 (by decide)).2.1
    | 44, hk => cases hk; exact (hq 14 (by decide)).2.2
    | 45, hk => cases hk; exact (hq 15 (by decide)).1
    | 46, hk => cases hk; exact (hq 15 (by decide)).2.1
    | 47, hk => cases hk; exact (hq 15 (by decide)).2.2
    | 48, hk => cases hk; exact (hq 16 (by decide)).1
    | 49, hk => cases hk; exact (hq 16 (by decide)).2.1
    | 50, hk => cases hk; exact (hq 16 (by decide)).2.2
    | 51, hk => cases hk; exact (hq 17 (by decide)).1
    | 52, hk => cases hk; exact (hq 17 (by decide)).2.1
    | 53, hk => cases hk; exact (hq 17 (by decide)).2.2
    | 54, hk => cases hk; exact (hq 18 (by decide)).1
    | 55, hk => cases hk; exact (hq 18 (by decide)).2.1
    | 56, hk => cases hk; exact (hq 18 (by decide)).2.2
    | 57, hk => cases hk; exact (hq 19 (by decide)).1
    | 58, hk => cases hk; exact (hq 19 (by decide)).2.1
    | 59, hk => cases hk; exact (hq 19 (by decide)).2.2
    | 60, hk => cases hk; exact (hq 20 (by decide)).1
    | 61, hk => cases hk; exact (hq 20 (by decide)).2.1
    | 62, hk => cases hk; exact (hq 20 (by decide)).2.2
    | 63, hk => cases hk; exact (hq 21 (by decide)).1
    | 64, hk => cases hk; exact (hq 21 (by decide)).2.1
    | 65, hk => cases hk; exact (hq 21 (by decide)).2.2
    | 66, hk => cases hk; exact (hq 22 (by decide)).1
    | 67, hk => cases hk; exact (hq 22 (by decide)).2.1
    | 68, hk => cases hk; exact (hq 22 (by decide)).2.2
    | 69, hk => cases hk; exact (hq 23 (by decide)).1
    | 70, hk => cases hk; exact (hq 23 (by decide)).2.1
    | 71, hk => cases hk; exact (hq 23 (by decide)).2.2
    | 72, hk => cases hk; exact (hq 24 (by decide)).1
    | 73, hk => cases hk; exact (hq 24 (by decide)).2.1
    | 74, hk => cases hk; exact (hq 24 (by decide)).2.2
    | 75, hk => cases hk; exact (hq 25 (by decide)).1
    | 76, hk => cases hk; exact (hq 25 (by decide)).2.1
    | 77, hk => cases hk; exact (hq 25 (by decide)).2.2
    | 78, hk => cases hk; exact (hq 26 (by decide)).1
    | 79, hk => cases hk; exact (hq 26 (by decide)).2.1
    | 80, hk => cases hk; exact (hq 26 (by decide)).2.2
    | 81, hk => cases hk; exact (hq 27 (by decide)).1
    | 82, hk => cases hk; exact (hq 27 (by decide)).2.1
    | 83, hk => cases hk; exact (hq 27 (by decide)).2.2
    | 84, hk => cases hk; exact (hq 28 (by decide)).1
    | 85, hk => cases hk; exact (hq 28 (by decide)).2.1
    | 86, hk => cases hk; exact (hq 28 (by decide)).2.2
    | 87, hk => cases hk; exact (hq 29 (by decide)).1
    | 88, hk => cases hk; exact (hq 29 (by decide)).2.1
    | 89, hk => cases hk; exact (hq 29 (by decide)).2.2
    | 90, hk => cases hk; exact (hq 30 (by decide)).1
    | 91, hk => cases hk; exact (hq 30 (by decide)).2.1
    | 92, hk => cases hk; exact (hq 30 (by decide)).2.2
    | k + 93, hk => simp [Co.MN] at hk
set_option maxRecDepth 100000 in
theorem lifted (os : Os) (started : os.Started) (H : Type) (enc : TypeId × Value → H) :
    ReturnsInHanded {} Tryd.checked os 3 .any (fun w args => (Rows.coreNamesSpec.pre enc Tryd.prog Tryd.f3 [] false w args ∧ laidMetH Tryd.prog laid1 w) ∧ sizedMet enc Tryd.prog Tryd.f3 (OpenSpec.ofChange Rows.coreNamesSpec) false w args)
      (Rows.coreNamesSpec.post enc Tryd.prog Tryd.f3 false true false false) := by
  refine returnsInHanded_of_change_and (C := Tryd.checked) (X := fun w _ => laidMetH Tryd.prog laid1 w) (fun _ _ _ hh h => h.of_heap hh) own started (by kernel_rfl) Tryd.func3
    (ChangeSpec.witness_shaped (enc := enc) (C := Tryd.checked) (os := os) (X := fun w _ => laidMetH Tryd.prog laid1 w) false (World.doorLaid Tryd.prog 400 os) #[] 8 rfl (World.shaped_of_RefB (by kernel_rfl) (by kernel_rfl)) (by kernel_rfl) (by kernel_rfl) (by kernel_rfl) (door_met os _)) ?_
  intro W base args ds gs before hval0 hW _ _ hL _
  have hW' := hW
  obtain ⟨p, q, hA0, hV, rfl, hfz, hnd⟩ := hW
  have hA : DataW.TrodAll enc Tryd.prog W 0 (fun _ => true) true Tryd.f3.params.toList args.toList ds p := hA0
  rw [Tryd.params3] at hA
  obtain ⟨hargs, rfl, rfl⟩ := trodAll_none hA
  obtain rfl : args = #[] := by cases args; simp_all
  obtain ⟨rfl, rfl⟩ := trodVars_none hV
  obtain ⟨nm, hN⟩ := of_laid hL
  refine (Co.MK W nm hN).mono fun e W' ⟨he, hk⟩ => ?_
  have bel := hk.below (Nat.le_refl _) (fun _ _ => id)
  exact ⟨_, he, Row.MX laid (by kernel_rfl) (by kernel_rfl) Tryd.underlying4 rfl rfl hW' bel⟩
theorem over : Rows.CoreNamesSaid :=
  OpenClaim.holds_of_wide 3 Tryd.f3 rfl rfl rfl rfl rfl rfl rfl ⟨rfl, rfl, rfl, rfl, rfl⟩ rfl rfl rfl rfl rfl (by kernel_rfl) Tryd.func3 (by kernel_rfl)
    (of_decide_eq_true (by kernel_rfl)) (by unfold Func.isWrapper; first | (rw [if_pos (by decide +kernel)]; kernel_rfl) | (rw [if_neg (by decide +kernel)]; exact ⟨rfl, rfl⟩))
    (fun os started H enc _ => lifted os started H enc)
end Go.Proofs.YtjdkigkknhefpaaDoor.LawCoreNames
namespace Go.Proofs.YtjdkigkknhefpaaDoor
/-- The tied card. -/
theorem coreNames_holds : Rows.CoreNamesCardSaid :=
  Claim7.holds_tied_plain_at .later [] [.data] true (true, "d97cfa810e6fc5ce102747464e9d2a443c46836db30e5e881368d8cf3610981d") false
    LawCoreNames.over (fun _ h => by cases h) (by kernel_rfl) (fun _ h => by cases h) coreNames_row_tie rfl ⟨rfl, rfl⟩ (by kernel_rfl) rfl
    (fun f fn hf hfn => by
      obtain rfl : f = 3 := Option.some.inj ((show Tryd.prog.funcNamed "bulkhead/bulkheadlaw10.CoreNames" = some 3 by kernel_rfl).symm.trans hf) |>.symm
      obtain rfl : fn = Tryd.f3 := (Option.some.inj (Tryd.func3.symm.trans hfn)).symm
      exact ⟨by kernel_rfl, fun j t ht => by
        rw [Tryd.params3] at ht
        simp at ht⟩)
    (by kernel_rfl)
end Go.Proofs.YtjdkigkknhefpaaDoor
