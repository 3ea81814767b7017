-- PRINTED BY print.sh 35421559b90ae4d0a3588c463048766b98c2df88dd9212a6774a882060cdf62d: not written by this session
import Derived.Test.YtkgddioflnjecaaPPageEntriesx0
namespace Go.Proofs.Ytkgddioflnjecaa.PPageEntries
open Go.RowKit Go.Proofs.YtkgddioflnjecaaW.PrintWords Go.Proofs.YtkgddioflnjecaaW.PrintLast Go.Proofs.YtkgddioflnjecaaW.PrintMore
attribute [local go_sem] max2_int min2_int max_two min_two max_three min_three max_four min_four   -- for this text's walks alone
set_option linter.unusedVariables false
set_option linter.unusedSimpArgs false

/-! ### page_Encode: function 8 -/
def page_Encode.f (a0 : Int) (a1 : Int) : Option (Int × Int) := if a0 < 0 then (some (0, 90)) else (if a0 ≥ 1024 then (some (0, 90)) else (if a1 < 0 then (some (0, 90)) else (if a1 > 7 then (some (0, 90)) else (some (Go.bits .or .u32 (Go.bits .or .u32 2147483648 ((((a0) % 4294967296) * 8) % 4294967296)) ((a1) % 4294967296), 0)))))
set_option maxHeartbeats 8000000 in
set_option maxRecDepth 100000 in
theorem page_Encode.calls (a0 : Int) (a1 : Int) (r1 : Int) (r2 : Int) (w : World) (h : page_Encode.f a0 a1 = some (r1, r2)) :
    Calls Try.prog 8 #[.int .i64 a0, .int .i64 a1] w fun e w' => e = .returned (.tuple #[.int .u32 r1, .int .i64 r2]) ∧ Drawn0 w w' := by
  have H : (if a0 < 0 then (some (0, 90)) else (if a0 ≥ 1024 then (some (0, 90)) else (if a1 < 0 then (some (0, 90)) else (if a1 > 7 then (some (0, 90)) else (some (Go.bits .or .u32 (Go.bits .or .u32 2147483648 ((((a0) % 4294967296) * 8) % 4294967296)) ((a1) % 4294967296), 0)))))) = some (r1, r2) := h
  clear h
  by_cases c3 : a0 < 0
  · rw [if_pos c3] at H
    have c3b0 : decide (a0 < 0) = true := decide_eq_true c3
    clear c3
    simp only [Option.some.injEq, Prod.mk.injEq] at H
    obtain ⟨rfl, rfl⟩ := H
    go_enter Try.func8, Try.ntmps8
    go_wp2
    go_ret2
    exact ⟨by first | rfl | (simp; done) | (simp [*]; done), by repeat (first | exact Drawn0.refl _ | apply Drawn0.step)⟩
  · rw [if_neg c3] at H
    have c3b0 : decide (a0 < 0) = false := decide_eq_false c3
    clear c3
    by_cases c4 : a0 ≥ 1024
    · rw [if_pos c4] at H
      have c4b0 : decide (1024 ≤ a0) = true := decide_eq_true c4
      clear c4
      simp only [Option.some.injEq, Prod.mk.injEq] at H
      obtain ⟨rfl, rfl⟩ := H
      go_enter Try.func8, Try.ntmps8
      go_wp2
      go_ret2
      exact ⟨by first | rfl | (simp; done) | (simp [*]; done), by repeat (first | exact Drawn0.refl _ | apply Drawn0.step)⟩
    · rw [if_neg c4] at H
      have c4b0 : decide (1024 ≤ a0) = false := decide_eq_false c4
      clear c4
      by_cases c5 : a1 < 0
      · rw [if_pos c5] at H
        have c5b0 : decide (a1 < 0) = true := decide_eq_true c5
        clear c5
        simp only [Option.some.injEq, Prod.mk.injEq] at H
        obtain ⟨rfl, rfl⟩ := H
        go_enter Try.func8, Try.ntmps8
        go_wp2
        go_ret2
        exact ⟨by first | rfl | (simp; done) | (simp [*]; done), by repeat (first | exact Drawn0.refl _ | apply Drawn0.step)⟩
      · rw [if_neg c5] at H
        have c5b0 : decide (a1 < 0) = false := decide_eq_false c5
        clear c5
        by_cases c6 : a1 > 7
        · rw [if_pos c6] at H
          have c6b0 : decide (7 < a1) = true := decide_eq_true c6
          clear c6
          simp only [Option.some.injEq, Prod.mk.injEq] at H
          obtain ⟨rfl, rfl⟩ := H
          go_enter Try.func8, Try.ntmps8
          go_wp2
          go_ret2
          exact ⟨by first | rfl | (simp; done) | (simp [*]; done), by repeat (first | exact Drawn0.refl _ | apply Drawn0.step)⟩
        · rw [if_neg c6] at H
          have c6b0 : decide (7 < a1) = false := decide_eq_false c6
          clear c6
          simp only [Option.some.injEq, Prod.mk.injEq] at H
          obtain ⟨rfl, rfl⟩ := H
          go_enter Try.func8, Try.ntmps8
          go_wp2
          go_ret2
          exact ⟨by first | rfl | (simp; done) | (simp [*]; done), by repeat (first | exact Drawn0.refl _ | apply Drawn0.step)⟩

/-! ### page_Decode: function 9 -/
def page_Decode.f (a0 : Int) : Option (Int × Int × Bool) := if (Go.bits .and .u32 a0 2147483648) = 0 then (some (0, 0, false)) else (some (wrap64 (Go.bits .and .u32 (a0 / 8) 1023), wrap64 (Go.bits .and .u32 a0 7), true))
set_option maxHeartbeats 8000000 in
set_option maxRecDepth 100000 in
theorem page_Decode.calls (a0 : Int) (r1 : Int) (r2 : Int) (r3 : Bool) (w : World) (h : page_Decode.f a0 = some (r1, r2, r3)) :
    Calls Try.prog 9 #[.int .u32 a0] w fun e w' => e = .returned (.tuple #[.int .i64 r1, .int .i64 r2, .bool r3]) ∧ Drawn0 w w' := by
  have H : (if (Go.bits .and .u32 a0 2147483648) = 0 then (some (0, 0, false)) else (some (wrap64 (Go.bits .and .u32 (a0 / 8) 1023), wrap64 (Go.bits .and .u32 a0 7), true))) = some (r1, r2, r3) := h
  clear h
  by_cases c2 : (Go.bits .and .u32 a0 2147483648) = 0
  · rw [if_pos c2] at H
    have c2b0 : ((Go.bits .and .u32 a0 2147483648) == 0) = true := beq_iff_eq.mpr c2
    have c2b1 : ((Go.bits .and .u32 a0 2147483648) != 0) = false := bne_eq_false_iff_eq.mpr c2
    clear c2
    simp only [Option.some.injEq, Prod.mk.injEq] at H
    obtain ⟨rfl, rfl, rfl⟩ := H
    go_enter Try.func9, Try.ntmps9
    go_wp2
    go_ret3
    exact ⟨by first | rfl | (simp; done) | (simp [*]; done), by repeat (first | exact Drawn0.refl _ | apply Drawn0.step)⟩
  · rw [if_neg c2] at H
    have c2b0 : ((Go.bits .and .u32 a0 2147483648) == 0) = false := beq_eq_false_iff_ne.mpr c2
    have c2b1 : ((Go.bits .and .u32 a0 2147483648) != 0) = true := bne_iff_ne.mpr c2
    simp only [Option.some.injEq, Prod.mk.injEq] at H
    obtain ⟨rfl, rfl, rfl⟩ := H
    go_enter Try.func9, Try.ntmps9
    go_wp2
    go_ret3
    exact ⟨by first | rfl | (simp; done) | (simp [*]; done), by repeat (first | exact Drawn0.refl _ | apply Drawn0.step)⟩

/-! ### bulkheadlaw09_PageEntries: function 4 -/
mutual
def bulkheadlaw09_PageEntries.j0 : Nat → Int → Int → Int → Bool → Option (Bool)
  | 0, _, _, _, _ => none
  | k + 1, x0, x1, x2, x29 => if x29 = true then (some false) else ((page_Encode.f x0 x1).bind fun bt103 => (if x0 < 0 then (bulkheadlaw09_PageEntries.j1 k x0 x1 x2 bt103.1 bt103.2 true) else (if x0 > 1023 then (bulkheadlaw09_PageEntries.j1 k x0 x1 x2 bt103.1 bt103.2 true) else (if x1 < 0 then (bulkheadlaw09_PageEntries.j1 k x0 x1 x2 bt103.1 bt103.2 true) else (bulkheadlaw09_PageEntries.j1 k x0 x1 x2 bt103.1 bt103.2 (decide (x1 > 7)))))))
def bulkheadlaw09_PageEntries.j1 : Nat → Int → Int → Int → Int → Int → Bool → Option (Bool)
  | 0, _, _, _, _, _, _ => none
  | k + 1, x0, x1, x2, x9, x10, x49 => if x49 = true then (if x9 = 0 then (some (x10 == 90)) else (some false)) else ((page_Decode.f x9).bind fun bt105 => ((page_Decode.f (Go.bits .xor .u32 x9 (Go.bits .and .u32 x2 2147475456))).bind fun bt108 => ((page_Decode.f (Go.bits .and .u32 x9 2147483647)).bind fun bt111 => (if x10 = 0 then (if bt105.1 = x0 then (if bt105.2.1 = x1 then (if bt105.2.2 = true then (if bt108.1 = x0 then (if bt108.2.1 = x1 then (if bt108.2.2 = true then (if bt111.1 = 0 then (if bt111.2.1 = 0 then (some (!bt111.2.2)) else (some false)) else (some false)) else (some false)) else (some false)) else (some false)) else (some false)) else (some false)) else (some false)) else (some false)))))
end
def bulkheadlaw09_PageEntries.f (k : Nat) (a0 : Int) (a1 : Int) (a2 : Int) : Option (Bool) := (page_Encode.f 5 3).bind fun bt101 => (if bt101.1 = 2147483691 then (bulkheadlaw09_PageEntries.j0 k a0 a1 a2 (bt101.2 != 0)) else (bulkheadlaw09_PageEntries.j0 k a0 a1 a2 true))
theorem bulkheadlaw09_PageEntries.mono_l : ∀ k, (∀ y0 y1 y2 y3, LeO (bulkheadlaw09_PageEntries.j0 k y0 y1 y2 y3) (bulkheadlaw09_PageEntries.j0 (k + 1) y0 y1 y2 y3)) ∧ (∀ y0 y1 y2 y3 y4 y5, LeO (bulkheadlaw09_PageEntries.j1 k y0 y1 y2 y3 y4 y5) (bulkheadlaw09_PageEntries.j1 (k + 1) y0 y1 y2 y3 y4 y5))
  | 0 => ⟨fun _ _ _ _ r h => by simp [bulkheadlaw09_PageEntries.j0] at h, fun _ _ _ _ _ _ r h => by simp [bulkheadlaw09_PageEntries.j1] at h⟩
  | k + 1 => by
    obtain ⟨ih0, ih1⟩ := bulkheadlaw09_PageEntries.mono_l k
    refine ⟨?_, ?_⟩
    · intro y0 y1 y2 y3
      unfold bulkheadlaw09_PageEntries.j0
      repeat' first
      | (with_reducible exact ih0 _ _ _ _)
      | (with_reducible exact ih1 _ _ _ _ _ _)
      | (with_reducible exact LeO.refl _)
      | (with_reducible exact LeO.none _)
      | (with_reducible refine LeO.ite ?_ ?_)
      | (with_reducible refine LeO.bind ?_ (fun _ => ?_))
      | exact ih0 _ _ _ _
      | exact ih1 _ _ _ _ _ _
      | exact LeO.none _
      | refine LeO.ite ?_ ?_
      | refine LeO.bind ?_ (fun _ => ?_)
    · intro y0 y1 y2 y3 y4 y5
      unfold bulkheadlaw09_PageEntries.j1
      repeat' first
      | (with_reducible exact ih0 _ _ _ _)
      | (with_reducible exact ih1 _ _ _ _ _ _)
      | (with_reducible exact LeO.refl _)
      | (with_reducible exact LeO.none _)
      | (with_reducible refine LeO.ite ?_ ?_)
      | (with_reducible refine LeO.bind ?_ (fun _ => ?_))
      | exact ih0 _ _ _ _
      | exact ih1 _ _ _ _ _ _
      | exact LeO.none _
      | refine LeO.ite ?_ ?_
      | refine LeO.bind ?_ (fun _ => ?_)
theorem bulkheadlaw09_PageEntries.mono : ∀ a0 a1 a2 k, LeO (bulkheadlaw09_PageEntries.f k a0 a1 a2) (bulkheadlaw09_PageEntries.f (k + 1) a0 a1 a2) := by
  intro a0 a1 a2 k
  obtain ⟨ih0, ih1⟩ := bulkheadlaw09_PageEntries.mono_l k
  unfold bulkheadlaw09_PageEntries.f
  repeat' first
      | (with_reducible exact ih0 _ _ _ _)
      | (with_reducible exact ih1 _ _ _ _ _ _)
      | (with_reducible exact LeO.refl _)
      | (with_reducible exact LeO.none _)
      | (with_reducible refine LeO.ite ?_ ?_)
      | (with_reducible refine LeO.bind ?_ (fun _ => ?_))
      | exact ih0 _ _ _ _
      | exact ih1 _ _ _ _ _ _
      | exact LeO.none _
      | refine LeO.ite ?_ ?_
      | refine LeO.bind ?_ (fun _ => ?_)
set_option maxHeartbeats 8000000 in
set_option maxRecDepth 100000 in
theorem bulkheadlaw09_PageEntries.calls (k : Nat) (a0 : Int) (a1 : Int) (a2 : Int) (r : Bool) (w : World) (h : bulkheadlaw09_PageEntries.f k a0 a1 a2 = some r) :
    Calls Try.prog 4 #[.int .i64 a0, .int .i64 a1, .int .u32 a2] w fun e w' => e = .returned (.bool r) ∧ Drawn0 w w' := by
  have H : ((page_Encode.f 5 3).bind fun bt101 => (if bt101.1 = 2147483691 then (bulkheadlaw09_PageEntries.j0 k a0 a1 a2 (bt101.2 != 0)) else (bulkheadlaw09_PageEntries.j0 k a0 a1 a2 true))) = some r := h
  clear h
  replace H := Option.bind_eq_some_iff.mp H
  obtain ⟨⟨t101, t102⟩, A40, H⟩ := H
  replace H : (if t101 = 2147483691 then (bulkheadlaw09_PageEntries.j0 k a0 a1 a2 (t102 != 0)) else (bulkheadlaw09_PageEntries.j0 k a0 a1 a2 true)) = some r := H
  have A4 := Aside0.mk A40
  clear A40
  have HC5 := Aside0.mk H
  clear H
  go_enter Try.func4, Try.ntmps4
  go_upto_region 2 with (first | ((with_reducible refine gate_callee (f := 8) rfl ?_); refine goesL_ (some 21) rfl rfl Try.func8 (by kernel_rfl) rfl #[.int .i64 5, .int .i64 3] rfl (by (try simp only [List.map_toArray, List.map_cons, List.map_nil]); first | done | rfl | (simp only [List.length_drop, List.length_take]; rfl)) ?_; (with_reducible refine (page_Encode.calls 5 3 t101 t102 _ A4.out).mono ?_); rintro e w' ⟨rfl, ⟨nd, rfl⟩⟩; refine ⟨_, rfl, ?_⟩))
  (try simp only [Act.put, List.setIfInBounds_toArray, List.set_cons_zero, List.set_cons_succ])
  go_cut [29] (fun v29 wc => ∃ (kq : Nat) (x29_4 : Bool), v29 = .bool x29_4 ∧ Aside0 (bulkheadlaw09_PageEntries.j0 kq a0 a1 a2 x29_4 = some r) ∧ Aside0 (kq ≤ k) ∧ Drawn0 w wc)
  case first =>
    have H := HC5.out
    clear HC5
    by_cases c6 : t101 = 2147483691
    · rw [if_pos c6] at H
      have c6b0 : (t101 == 2147483691) = true := beq_iff_eq.mpr c6
      have c6b1 : (t101 != 2147483691) = false := bne_eq_false_iff_eq.mpr c6
      clear c6
      (first | rw [c6b0] | (simp only [i64_w, i32_w]; rw [c6b0]) | skip)
      have H' := Aside0.mk H
      clear H
      go_wp2
      go_meet
      case rel => exact ⟨_, ((t102 != 0)), (by first | rfl | (simp; done) | (simp [*]; done)), H', ⟨by first | omega | exact Nat.le_refl _⟩, by repeat (first | exact Drawn0.refl _ | apply Drawn0.step)⟩
    · rw [if_neg c6] at H
      have c6b0 : (t101 == 2147483691) = false := beq_eq_false_iff_ne.mpr c6
      have c6b1 : (t101 != 2147483691) = true := bne_iff_ne.mpr c6
      (first | rw [c6b0] | (simp only [i64_w, i32_w]; rw [c6b0]) | skip)
      have H' := Aside0.mk H
      clear H
      go_wp2
      go_meet
      case rel => exact ⟨_, (true), (by first | rfl | (simp; done) | (simp [*]; done)), H', ⟨by first | omega | exact Nat.le_refl _⟩, by repeat (first | exact Drawn0.refl _ | apply Drawn0.step)⟩
  case rest =>
    clear HC5
    try clear p2
    try clear c4
    try clear c6
    try clear c6b0
    try clear c6b1
    obtain ⟨kq, x29_4, rfl, HA, HJ4, ⟨mc4, rfl⟩⟩ := hcut
    cases kq with
    | zero => exact absurd HA.out (by simp [bulkheadlaw09_PageEntries.j0])
    | succ kj4 =>
      have H := HA.out
      clear HA
      simp only [bulkheadlaw09_PageEntries.j0] at H
      by_cases c7 : x29_4 = true
      · subst c7
        have H1 : (some false) = some r := by rw [if_pos rfl] at H; exact H
        clear H
        have H := H1
        clear H1
        obtain rfl := Option.some.inj H
        go_wp2
        go_ret
        exact ⟨by first | rfl | (simp; done) | (simp [*]; done), by repeat (first | exact Drawn0.refl _ | apply Drawn0.step)⟩
      · replace c7 := Bool.eq_false_iff.mpr c7
        subst c7
        have H1 : ((page_Encode.f a0 a1).bind fun bt103 => (if a0 < 0 then (bulkheadlaw09_PageEntries.j1 kj4 a0 a1 a2 bt103.1 bt103.2 true) else (if a0 > 1023 then (bulkheadlaw09_PageEntries.j1 kj4 a0 a1 a2 bt103.1 bt103.2 true) else (if a1 < 0 then (bulkheadlaw09_PageEntries.j1 kj4 a0 a1 a2 bt103.1 bt103.2 true) else (bulkheadlaw09_PageEntries.j1 kj4 a0 a1 a2 bt103.1 bt103.2 (decide (a1 > 7))))))) = some r := by rw [if_neg (show ¬ (false = true) by decide)] at H; exact H
        clear H
        have H := H1
        clear H1
        replace H := Option.bind_eq_some_iff.mp H
        obtain ⟨⟨t103, t104⟩, A80, H⟩ := H
        replace H : (if a0 < 0 then (bulkheadlaw09_PageEntries.j1 kj4 a0 a1 a2 t103 t104 true) else (if a0 > 1023 then (bulkheadlaw09_PageEntries.j1 kj4 a0 a1 a2 t103 t104 true) else (if a1 < 0 then (bulkheadlaw09_PageEntries.j1 kj4 a0 a1 a2 t103 t104 true) else (bulkheadlaw09_PageEntries.j1 kj4 a0 a1 a2 t103 t104 (decide (a1 > 7)))))) = some r := H
        have A8 := Aside0.mk A80
        clear A80
        have HC9 := Aside0.mk H
        clear H
        go_upto_region 5 with (first | ((with_reducible refine gate_callee (f := 8) rfl ?_); refine goesL_ (some 33) rfl rfl Try.func8 (by kernel_rfl) rfl #[.int .i64 a0, .int .i64 a1] rfl (by (try simp only [List.map_toArray, List.map_cons, List.map_nil]); first | done | rfl | (simp only [List.length_drop, List.length_take]; rfl)) ?_; (with_reducible refine (page_Encode.calls a0 a1 t103 t104 _ A8.out).mono ?_); rintro e w' ⟨rfl, ⟨nd, rfl⟩⟩; refine ⟨_, rfl, ?_⟩))
        (try simp only [Act.put, List.setIfInBounds_toArray, List.set_cons_zero, List.set_cons_succ])
        go_cut [49] (fun v49 wc => ∃ (kq : Nat) (x49_8 : Bool), v49 = .bool x49_8 ∧ Aside0 (bulkheadlaw09_PageEntries.j1 kq a0 a1 a2 t103 t104 x49_8 = some r) ∧ Aside0 (kq ≤ kj4) ∧ Drawn0 w wc)
        case first =>
          have H := HC9.out
          clear HC9
          by_cases c10 : a0 < 0
          · rw [if_pos c10] at H
            have c10b0 : decide (a0 < 0) = true := decide_eq_true c10
            clear c10
            (first | rw [c10b0] | (simp only [i64_w, i32_w]; rw [c10b0]) | skip)
            have H' := Aside0.mk H
            clear H
            go_wp2
            go_meet
            case rel => exact ⟨_, (true), (by first | rfl | (simp; done) | (simp [*]; done)), H', ⟨by have := HJ4.out; first | omega | exact Nat.le_refl _⟩, by repeat (first | exact Drawn0.refl _ | apply Drawn0.step)⟩
          · rw [if_neg c10] at H
            have c10b0 : decide (a0 < 0) = false := decide_eq_false c10
            clear c10
            (first | rw [c10b0] | (simp only [i64_w, i32_w]; rw [c10b0]) | skip)
            by_cases c11 : a0 > 1023
            · rw [if_pos c11] at H
              have c11b0 : decide (1023 < a0) = true := decide_eq_true c11
              clear c11
              have H' := Aside0.mk H
              clear H
              go_wp2
              go_meet
              case rel => exact ⟨_, (true), (by first | rfl | (simp; done) | (simp [*]; done)), H', ⟨by have := HJ4.out; first | omega | exact Nat.le_refl _⟩, by repeat (first | exact Drawn0.refl _ | apply Drawn0.step)⟩
            · rw [if_neg c11] at H
              have c11b0 : decide (1023 < a0) = false := decide_eq_false c11
              clear c11
              by_cases c12 : a1 < 0
              · rw [if_pos c12] at H
                have c12b0 : decide (a1 < 0) = true := decide_eq_true c12
                clear c12
                have H' := Aside0.mk H
                clear H
                go_wp2
                go_meet
                case rel => exact ⟨_, (true), (by first | rfl | (simp; done) | (simp [*]; done)), H', ⟨by have := HJ4.out; first | omega | exact Nat.le_refl _⟩, by repeat (first | exact Drawn0.refl _ | apply Drawn0.step)⟩
              · rw [if_neg c12] at H
                have c12b0 : decide (a1 < 0) = false := decide_eq_false c12
                clear c12
                have H' := Aside0.mk H
                clear H
                go_wp2
                go_meet
                case rel => exact ⟨_, (decide (a1 > 7)), (by first | rfl | (simp; done) | (simp [*]; done)), H', ⟨by have := HJ4.out; first | omega | exact Nat.le_refl _⟩, by repeat (first | exact Drawn0.refl _ | apply Drawn0.step)⟩
        case rest =>
          clear HC9
          try clear c1
          try clear p2
          try clear c4
          try clear c6
          try clear c6b0
          try clear c6b1
          try clear c7
          try clear c8
          try clear c10
          try clear c10b0
          try clear c11
          try clear c11b0
          try clear c12
          try clear c12b0
          try clear p2
          obtain ⟨kq, x49_8, rfl, HA, HJ8, ⟨mc8, rfl⟩⟩ := hcut
          cases kq with
          | zero => exact absurd HA.out (by simp [bulkheadlaw09_PageEntries.j1])
          | succ kj8 =>
            have H := HA.out
            clear HA
            simp only [bulkheadlaw09_PageEntries.j1] at H
            by_cases c13 : x49_8 = true
            · subst c13
              have H1 : (if t103 = 0 then (some (t104 == 90)) else (some false)) = some r := by rw [if_pos rfl] at H; exact H
              clear H
              have H := H1
              clear H1
              by_cases c14 : t103 = 0
              · rw [if_pos c14] at H
                have c14b0 : (t103 == 0) = true := beq_iff_eq.mpr c14
                have c14b1 : (t103 != 0) = false := bne_eq_false_iff_eq.mpr c14
                clear c14
                obtain rfl := Option.some.inj H
                go_wp2
                go_ret
                exact ⟨by first | rfl | (simp; done) | (simp [*]; done), by repeat (first | exact Drawn0.refl _ | apply Drawn0.step)⟩
              · rw [if_neg c14] at H
                have c14b0 : (t103 == 0) = false := beq_eq_false_iff_ne.mpr c14
                have c14b1 : (t103 != 0) = true := bne_iff_ne.mpr c14
                obtain rfl := Option.some.inj H
                go_wp2
                go_ret
                exact ⟨by first | rfl | (simp; done) | (simp [*]; done), by repeat (first | exact Drawn0.refl _ | apply Drawn0.step)⟩
            · replace c13 := Bool.eq_false_iff.mpr c13
              subst c13
              have H1 : ((page_Decode.f t103).bind fun bt105 => ((page_Decode.f (Go.bits .xor .u32 t103 (Go.bits .and .u32 a2 2147475456))).bind fun bt108 => ((page_Decode.f (Go.bits .and .u32 t103 2147483647)).bind fun bt111 => (if t104 = 0 then (if bt105.1 = a0 then (if bt105.2.1 = a1 then (if bt105.2.2 = true then (if bt108.1 = a0 then (if bt108.2.1 = a1 then (if bt108.2.2 = true then (if bt111.1 = 0 then (if bt111.2.1 = 0 then (some (!bt111.2.2)) else (some false)) else (some false)) else (some false)) else (some false)) else (some false)) else (some false)) else (some false)) else (some false)) else (some false))))) = some r := by rw [if_neg (show ¬ (false = true) by decide)] at H; exact H
              clear H
              have H := H1
              clear H1
              replace H := Option.bind_eq_some_iff.mp H
              obtain ⟨⟨t105, t106, t107⟩, A150, H⟩ := H
              replace H : ((page_Decode.f (Go.bits .xor .u32 t103 (Go.bits .and .u32 a2 2147475456))).bind fun bt108 => ((page_Decode.f (Go.bits .and .u32 t103 2147483647)).bind fun bt111 => (if t104 = 0 then (if t105 = a0 then (if t106 = a1 then (if t107 = true then (if bt108.1 = a0 then (if bt108.2.1 = a1 then (if bt108.2.2 = true then (if bt111.1 = 0 then (if bt111.2.1 = 0 then (some (!bt111.2.2)) else (some false)) else (some false)) else (some false)) else (some false)) else (some false)) else (some false)) else (some false)) else (some false)) else (some false)))) = some r := H
              have A15 := Aside0.mk A150
              clear A150
              replace H := Option.bind_eq_some_iff.mp H
              obtain ⟨⟨t108, t109, t110⟩, A160, H⟩ := H
              replace H : ((page_Decode.f (Go.bits .and .u32 t103 2147483647)).bind fun bt111 => (if t104 = 0 then (if t105 = a0 then (if t106 = a1 then (if t107 = true then (if t108 = a0 then (if t109 = a1 then (if t110 = true then (if bt111.1 = 0 then (if bt111.2.1 = 0 then (some (!bt111.2.2)) else (some false)) else (some false)) else (some false)) else (some false)) else (some false)) else (some false)) else (some false)) else (some false)) else (some false))) = some r := H
              have A16 := Aside0.mk A160
              clear A160
              replace H := Option.bind_eq_some_iff.mp H
              obtain ⟨⟨t111, t112, t113⟩, A170, H⟩ := H
              replace H : (if t104 = 0 then (if t105 = a0 then (if t106 = a1 then (if t107 = true then (if t108 = a0 then (if t109 = a1 then (if t110 = true then (if t111 = 0 then (if t112 = 0 then (some (!t113)) else (some false)) else (some false)) else (some false)) else (some false)) else (some false)) else (some false)) else (some false)) else (some false)) else (some false)) = some r := H
              have A17 := Aside0.mk A170
              clear A170
              by_cases c18 : t104 = 0
              · rw [if_pos c18] at H
                have c18b0 : (t104 == 0) = true := beq_iff_eq.mpr c18
                have c18b1 : (t104 != 0) = false := bne_eq_false_iff_eq.mpr c18
                clear c18
                by_cases c19 : t105 = a0
                · rw [if_pos c19] at H
                  have c19b0 : (t105 == a0) = true := beq_iff_eq.mpr c19
                  have c19b1 : (t105 != a0) = false := bne_eq_false_iff_eq.mpr c19
                  clear c19
                  by_cases c20 : t106 = a1
                  · rw [if_pos c20] at H
                    have c20b0 : (t106 == a1) = true := beq_iff_eq.mpr c20
                    have c20b1 : (t106 != a1) = false := bne_eq_false_iff_eq.mpr c20
                    clear c20
                    by_cases c21 : t107 = true
                    · subst c21
                      have H1 : (if t108 = a0 then (if t109 = a1 then (if t110 = true then (if t111 = 0 then (if t112 = 0 then (some (!t113)) else (some false)) else (some false)) else (some false)) else (some false)) else (some false)) = some r := by rw [if_pos rfl] at H; exact H
                      clear H
                      have H := H1
                      clear H1
                      by_cases c22 : t108 = a0
                      · rw [if_pos c22] at H
                        have c22b0 : (t108 == a0) = true := beq_iff_eq.mpr c22
                        have c22b1 : (t108 != a0) = false := bne_eq_false_iff_eq.mpr c22
                        clear c22
                        by_cases c23 : t109 = a1
                        · rw [if_pos c23] at H
                          have c23b0 : (t109 == a1) = true := beq_iff_eq.mpr c23
                          have c23b1 : (t109 != a1) = false := bne_eq_false_iff_eq.mpr c23
                          clear c23
                          by_cases c24 : t110 = true
                          · subst c24
                            have H1 : (if t111 = 0 then (if t112 = 0 then (some (!t113)) else (some false)) else (some false)) = some r := by rw [if_pos rfl] at H; exact H
                            clear H
                            have H := H1
                            clear H1
                            by_cases c25 : t111 = 0
                            · rw [if_pos c25] at H
                              have c25b0 : (t111 == 0) = true := beq_iff_eq.mpr c25
                              have c25b1 : (t111 != 0) = false := bne_eq_false_iff_eq.mpr c25
                              clear c25
                              by_cases c26 : t112 = 0
                              · rw [if_pos c26] at H
                                have c26b0 : (t112 == 0) = true := beq_iff_eq.mpr c26
                                have c26b1 : (t112 != 0) = false := bne_eq_false_iff_eq.mpr c26
                                clear c26
                                obtain rfl := Option.some.inj H
                                go_wp2_with (first | ((with_reducible refine gate_callee (f := 9) rfl ?_); refine goesL_ (some 58) rfl rfl Try.func9 (by kernel_rfl) rfl #[.int .u32 t103] rfl (by (try simp only [List.map_toArray, List.map_cons, List.map_nil]); first | done | rfl | (simp only [List.length_drop, List.length_take]; rfl)) ?_; (with_reducible refine (page_Decode.calls t103 t105 t106 true _ A15.out).mono ?_); rintro e w' ⟨rfl, ⟨nd, rfl⟩⟩; refine ⟨_, rfl, ?_⟩) | ((with_reducible refine gate_callee (f := 9) rfl ?_); refine goesL_ (some 67) rfl rfl Try.func9 (by kernel_rfl) rfl #[.int .u32 (Go.bits .xor .u32 t103 (Go.bits .and .u32 a2 2147475456))] rfl (by (try simp only [List.map_toArray, List.map_cons, List.map_nil]); first | done | rfl | (simp only [List.length_drop, List.length_take]; rfl)) ?_; (with_reducible refine (page_Decode.calls (Go.bits .xor .u32 t103 (Go.bits .and .u32 a2 2147475456)) t108 t109 true _ A16.out).mono ?_); rintro e w' ⟨rfl, ⟨nd, rfl⟩⟩; refine ⟨_, rfl, ?_⟩) | ((with_reducible refine gate_callee (f := 9) rfl ?_); refine goesL_ (some 74) rfl rfl Try.func9 (by kernel_rfl) rfl #[.int .u32 (Go.bits .and .u32 t103 2147483647)] rfl (by (try simp only [List.map_toArray, List.map_cons, List.map_nil]); first | done | rfl | (simp only [List.length_drop, List.length_take]; rfl)) ?_; (with_reducible refine (page_Decode.calls (Go.bits .and .u32 t103 2147483647) t111 t112 t113 _ A17.out).mono ?_); rintro e w' ⟨rfl, ⟨nd, rfl⟩⟩; refine ⟨_, rfl, ?_⟩))
                                go_ret
                                exact ⟨by first | rfl | (simp; done) | (simp [*]; done), by repeat (first | exact Drawn0.refl _ | apply Drawn0.step)⟩
                              · rw [if_neg c26] at H
                                have c26b0 : (t112 == 0) = false := beq_eq_false_iff_ne.mpr c26
                                have c26b1 : (t112 != 0) = true := bne_iff_ne.mpr c26
                                obtain rfl := Option.some.inj H
                                go_wp2_with (first | ((with_reducible refine gate_callee (f := 9) rfl ?_); refine goesL_ (some 58) rfl rfl Try.func9 (by kernel_rfl) rfl #[.int .u32 t103] rfl (by (try simp only [List.map_toArray, List.map_cons, List.map_nil]); first | done | rfl | (simp only [List.length_drop, List.length_take]; rfl)) ?_; (with_reducible refine (page_Decode.calls t103 t105 t106 true _ A15.out).mono ?_); rintro e w' ⟨rfl, ⟨nd, rfl⟩⟩; refine ⟨_, rfl, ?_⟩) | ((with_reducible refine gate_callee (f := 9) rfl ?_); refine goesL_ (some 67) rfl rfl Try.func9 (by kernel_rfl) rfl #[.int .u32 (Go.bits .xor .u32 t103 (Go.bits .and .u32 a2 2147475456))] rfl (by (try simp only [List.map_toArray, List.map_cons, List.map_nil]); first | done | rfl | (simp only [List.length_drop, List.length_take]; rfl)) ?_; (with_reducible refine (page_Decode.calls (Go.bits .xor .u32 t103 (Go.bits .and .u32 a2 2147475456)) t108 t109 true _ A16.out).mono ?_); rintro e w' ⟨rfl, ⟨nd, rfl⟩⟩; refine ⟨_, rfl, ?_⟩) | ((with_reducible refine gate_callee (f := 9) rfl ?_); refine goesL_ (some 74) rfl rfl Try.func9 (by kernel_rfl) rfl #[.int .u32 (Go.bits .and .u32 t103 2147483647)] rfl (by (try simp only [List.map_toArray, List.map_cons, List.map_nil]); first | done | rfl | (simp only [List.length_drop, List.length_take]; rfl)) ?_; (with_reducible refine (page_Decode.calls (Go.bits .and .u32 t103 2147483647) t111 t112 t113 _ A17.out).mono ?_); rintro e w' ⟨rfl, ⟨nd, rfl⟩⟩; refine ⟨_, rfl, ?_⟩))
                                go_ret
                                exact ⟨by first | rfl | (simp; done) | (simp [*]; done), by repeat (first | exact Drawn0.refl _ | apply Drawn0.step)⟩
                            · rw [if_neg c25] at H
                              have c25b0 : (t111 == 0) = false := beq_eq_false_iff_ne.mpr c25
                              have c25b1 : (t111 != 0) = true := bne_iff_ne.mpr c25
                              obtain rfl := Option.some.inj H
                              go_wp2_with (first | ((with_reducible refine gate_callee (f := 9) rfl ?_); refine goesL_ (some 58) rfl rfl Try.func9 (by kernel_rfl) rfl #[.int .u32 t103] rfl (by (try simp only [List.map_toArray, List.map_cons, List.map_nil]); first | done | rfl | (simp only [List.length_drop, List.length_take]; rfl)) ?_; (with_reducible refine (page_Decode.calls t103 t105 t106 true _ A15.out).mono ?_); rintro e w' ⟨rfl, ⟨nd, rfl⟩⟩; refine ⟨_, rfl, ?_⟩) | ((with_reducible refine gate_callee (f := 9) rfl ?_); refine goesL_ (some 67) rfl rfl Try.func9 (by kernel_rfl) rfl #[.int .u32 (Go.bits .xor .u32 t103 (Go.bits .and .u32 a2 2147475456))] rfl (by (try simp only [List.map_toArray, List.map_cons, List.map_nil]); first | done | rfl | (simp only [List.length_drop, List.length_take]; rfl)) ?_; (with_reducible refine (page_Decode.calls (Go.bits .xor .u32 t103 (Go.bits .and .u32 a2 2147475456)) t108 t109 true _ A16.out).mono ?_); rintro e w' ⟨rfl, ⟨nd, rfl⟩⟩; refine ⟨_, rfl, ?_⟩) | ((with_reducible refine gate_callee (f := 9) rfl ?_); refine goesL_ (some 74) rfl rfl Try.func9 (by kernel_rfl) rfl #[.int .u32 (Go.bits .and .u32 t103 2147483647)] rfl (by (try simp only [List.map_toArray, List.map_cons, List.map_nil]); first | done | rfl | (simp only [List.length_drop, List.length_take]; rfl)) ?_; (with_reducible refine (page_Decode.calls (Go.bits .and .u32 t103 2147483647) t111 t112 t113 _ A17.out).mono ?_); rintro e w' ⟨rfl, ⟨nd, rfl⟩⟩; refine ⟨_, rfl, ?_⟩))
                              go_ret
                              exact ⟨by first | rfl | (simp; done) | (simp [*]; done), by repeat (first | exact Drawn0.refl _ | apply Drawn0.step)⟩
                          · replace c24 := Bool.eq_false_iff.mpr c24
                            subst c24
                            have H1 : (some false) = some r := by rw [if_neg (show ¬ (false = true) by decide)] at H; exact H
                            clear H
                            have H := H1
                            clear H1
                            obtain rfl := Option.some.inj H
                            go_wp2_with (first | ((with_reducible refine gate_callee (f := 9) rfl ?_); refine goesL_ (some 58) rfl rfl Try.func9 (by kernel_rfl) rfl #[.int .u32 t103] rfl (by (try simp only [List.map_toArray, List.map_cons, List.map_nil]); first | done | rfl | (simp only [List.length_drop, List.length_take]; rfl)) ?_; (with_reducible refine (page_Decode.calls t103 t105 t106 true _ A15.out).mono ?_); rintro e w' ⟨rfl, ⟨nd, rfl⟩⟩; refine ⟨_, rfl, ?_⟩) | ((with_reducible refine gate_callee (f := 9) rfl ?_); refine goesL_ (some 67) rfl rfl Try.func9 (by kernel_rfl) rfl #[.int .u32 (Go.bits .xor .u32 t103 (Go.bits .and .u32 a2 2147475456))] rfl (by (try simp only [List.map_toArray, List.map_cons, List.map_nil]); first | done | rfl | (simp only [List.length_drop, List.length_take]; rfl)) ?_; (with_reducible refine (page_Decode.calls (Go.bits .xor .u32 t103 (Go.bits .and .u32 a2 2147475456)) t108 t109 false _ A16.out).mono ?_); rintro e w' ⟨rfl, ⟨nd, rfl⟩⟩; refine ⟨_, rfl, ?_⟩) | ((with_reducible refine gate_callee (f := 9) rfl ?_); refine goesL_ (some 74) rfl rfl Try.func9 (by kernel_rfl) rfl #[.int .u32 (Go.bits .and .u32 t103 2147483647)] rfl (by (try simp only [List.map_toArray, List.map_cons, List.map_nil]); first | done | rfl | (simp only [List.length_drop, List.length_take]; rfl)) ?_; (with_reducible refine (page_Decode.calls (Go.bits .and .u32 t103 2147483647) t111 t112 t113 _ A17.out).mono ?_); rintro e w' ⟨rfl, ⟨nd, rfl⟩⟩; refine ⟨_, rfl, ?_⟩))
                            go_ret
                            exact ⟨by first | rfl | (simp; done) | (simp [*]; done), by repeat (first | exact Drawn0.refl _ | apply Drawn0.step)⟩
                        · rw [if_neg c23] at H
                          have c23b0 : (t109 == a1) = false := beq_eq_false_iff_ne.mpr c23
                          have c23b1 : (t109 != a1) = true := bne_iff_ne.mpr c23
                          obtain rfl := Option.some.inj H
                          go_wp2_with (first | ((with_reducible refine gate_callee (f := 9) rfl ?_); refine goesL_ (some 58) rfl rfl Try.func9 (by kernel_rfl) rfl #[.int .u32 t103] rfl (by (try simp only [List.map_toArray, List.map_cons, List.map_nil]); first | done | rfl | (simp only [List.length_drop, List.length_take]; rfl)) ?_; (with_reducible refine (page_Decode.calls t103 t105 t106 true _ A15.out).mono ?_); rintro e w' ⟨rfl, ⟨nd, rfl⟩⟩; refine ⟨_, rfl, ?_⟩) | ((with_reducible refine gate_callee (f := 9) rfl ?_); refine goesL_ (some 67) rfl rfl Try.func9 (by kernel_rfl) rfl #[.int .u32 (Go.bits .xor .u32 t103 (Go.bits .and .u32 a2 2147475456))] rfl (by (try simp only [List.map_toArray, List.map_cons, List.map_nil]); first | done | rfl | (simp only [List.length_drop, List.length_take]; rfl)) ?_; (with_reducible refine (page_Decode.calls (Go.bits .xor .u32 t103 (Go.bits .and .u32 a2 2147475456)) t108 t109 t110 _ A16.out).mono ?_); rintro e w' ⟨rfl, ⟨nd, rfl⟩⟩; refine ⟨_, rfl, ?_⟩) | ((with_reducible refine gate_callee (f := 9) rfl ?_); refine goesL_ (some 74) rfl rfl Try.func9 (by kernel_rfl) rfl #[.int .u32 (Go.bits .and .u32 t103 2147483647)] rfl (by (try simp only [List.map_toArray, List.map_cons, List.map_nil]); first | done | rfl | (simp only [List.length_drop, List.length_take]; rfl)) ?_; (with_reducible refine (page_Decode.calls (Go.bits .and .u32 t103 2147483647) t111 t112 t113 _ A17.out).mono ?_); rintro e w' ⟨rfl, ⟨nd, rfl⟩⟩; refine ⟨_, rfl, ?_⟩))
                          go_ret
                          exact ⟨by first | rfl | (simp; done) | (simp [*]; done), by repeat (first | exact Drawn0.refl _ | apply Drawn0.step)⟩
                      · rw [if_neg c22] at H
                        have c22b0 : (t108 == a0) = false := beq_eq_false_iff_ne.mpr c22
                        have c22b1 : (t108 != a0) = true := bne_iff_ne.mpr c22
                        obtain rfl := Option.some.inj H
                        go_wp2_with (first | ((with_reducible refine gate_callee (f := 9) rfl ?_); refine goesL_ (some 58) rfl rfl Try.func9 (by kernel_rfl) rfl #[.int .u32 t103] rfl (by (try simp only [List.map_toArray, List.map_cons, List.map_nil]); first | done | rfl | (simp only [List.length_drop, List.length_take]; rfl)) ?_; (with_reducible refine (page_Decode.calls t103 t105 t106 true _ A15.out).mono ?_); rintro e w' ⟨rfl, ⟨nd, rfl⟩⟩; refine ⟨_, rfl, ?_⟩) | ((with_reducible refine gate_callee (f := 9) rfl ?_); refine goesL_ (some 67) rfl rfl Try.func9 (by kernel_rfl) rfl #[.int .u32 (Go.bits .xor .u32 t103 (Go.bits .and .u32 a2 2147475456))] rfl (by (try simp only [List.map_toArray, List.map_cons, List.map_nil]); first | done | rfl | (simp only [List.length_drop, List.length_take]; rfl)) ?_; (with_reducible refine (page_Decode.calls (Go.bits .xor .u32 t103 (Go.bits .and .u32 a2 2147475456)) t108 t109 t110 _ A16.out).mono ?_); rintro e w' ⟨rfl, ⟨nd, rfl⟩⟩; refine ⟨_, rfl, ?_⟩) | ((with_reducible refine gate_callee (f := 9) rfl ?_); refine goesL_ (some 74) rfl rfl Try.func9 (by kernel_rfl) rfl #[.int .u32 (Go.bits .and .u32 t103 2147483647)] rfl (by (try simp only [List.map_toArray, List.map_cons, List.map_nil]); first | done | rfl | (simp only [List.length_drop, List.length_take]; rfl)) ?_; (with_reducible refine (page_Decode.calls (Go.bits .and .u32 t103 2147483647) t111 t112 t113 _ A17.out).mono ?_); rintro e w' ⟨rfl, ⟨nd, rfl⟩⟩; refine ⟨_, rfl, ?_⟩))
                        go_ret
                        exact ⟨by first | rfl | (simp; done) | (simp [*]; done), by repeat (first | exact Drawn0.refl _ | apply Drawn0.step)⟩
                    · replace c21 := Bool.eq_false_iff.mpr c21
                      subst c21
                      have H1 : (some false) = some r := by rw [if_neg (show ¬ (false = true) by decide)] at H; exact H
                      clear H
                      have H := H1
                      clear H1
                      obtain rfl := Option.some.inj H
                      go_wp2_with (first | ((with_reducible refine gate_callee (f := 9) rfl ?_); refine goesL_ (some 58) rfl rfl Try.func9 (by kernel_rfl) rfl #[.int .u32 t103] rfl (by (try simp only [List.map_toArray, List.map_cons, List.map_nil]); first | done | rfl | (simp only [List.length_drop, List.length_take]; rfl)) ?_; (with_reducible refine (page_Decode.calls t103 t105 t106 false _ A15.out).mono ?_); rintro e w' ⟨rfl, ⟨nd, rfl⟩⟩; refine ⟨_, rfl, ?_⟩) | ((with_reducible refine gate_callee (f := 9) rfl ?_); refine goesL_ (some 67) rfl rfl Try.func9 (by kernel_rfl) rfl #[.int .u32 (Go.bits .xor .u32 t103 (Go.bits .and .u32 a2 2147475456))] rfl (by (try simp only [List.map_toArray, List.map_cons, List.map_nil]); first | done | rfl | (simp only [List.length_drop, List.length_take]; rfl)) ?_; (with_reducible refine (page_Decode.calls (Go.bits .xor .u32 t103 (Go.bits .and .u32 a2 2147475456)) t108 t109 t110 _ A16.out).mono ?_); rintro e w' ⟨rfl, ⟨nd, rfl⟩⟩; refine ⟨_, rfl, ?_⟩) | ((with_reducible refine gate_callee (f := 9) rfl ?_); refine goesL_ (some 74) rfl rfl Try.func9 (by kernel_rfl) rfl #[.int .u32 (Go.bits .and .u32 t103 2147483647)] rfl (by (try simp only [List.map_toArray, List.map_cons, List.map_nil]); first | done | rfl | (simp only [List.length_drop, List.length_take]; rfl)) ?_; (with_reducible refine (page_Decode.calls (Go.bits .and .u32 t103 2147483647) t111 t112 t113 _ A17.out).mono ?_); rintro e w' ⟨rfl, ⟨nd, rfl⟩⟩; refine ⟨_, rfl, ?_⟩))
                      go_ret
                      exact ⟨by first | rfl | (simp; done) | (simp [*]; done), by repeat (first | exact Drawn0.refl _ | apply Drawn0.step)⟩
                  · rw [if_neg c20] at H
                    have c20b0 : (t106 == a1) = false := beq_eq_false_iff_ne.mpr c20
                    have c20b1 : (t106 != a1) = true := bne_iff_ne.mpr c20
                    obtain rfl := Option.some.inj H
                    go_wp2_with (first | ((with_reducible refine gate_callee (f := 9) rfl ?_); refine goesL_ (some 58) rfl rfl Try.func9 (by kernel_rfl) rfl #[.int .u32 t103] rfl (by (try simp only [List.map_toArray, List.map_cons, List.map_nil]); first | done | rfl | (simp only [List.length_drop, List.length_take]; rfl)) ?_; (with_reducible refine (page_Decode.calls t103 t105 t106 t107 _ A15.out).mono ?_); rintro e w' ⟨rfl, ⟨nd, rfl⟩⟩; refine ⟨_, rfl, ?_⟩) | ((with_reducible refine gate_callee (f := 9) rfl ?_); refine goesL_ (some 67) rfl rfl Try.func9 (by kernel_rfl) rfl #[.int .u32 (Go.bits .xor .u32 t103 (Go.bits .and .u32 a2 2147475456))] rfl (by (try simp only [List.map_toArray, List.map_cons, List.map_nil]); first | done | rfl | (simp only [List.length_drop, List.length_take]; rfl)) ?_; (with_reducible refine (page_Decode.calls (Go.bits .xor .u32 t103 (Go.bits .and .u32 a2 2147475456)) t108 t109 t110 _ A16.out).mono ?_); rintro e w' ⟨rfl, ⟨nd, rfl⟩⟩; refine ⟨_, rfl, ?_⟩) | ((with_reducible refine gate_callee (f := 9) rfl ?_); refine goesL_ (some 74) rfl rfl Try.func9 (by kernel_rfl) rfl #[.int .u32 (Go.bits .and .u32 t103 2147483647)] rfl (by (try simp only [List.map_toArray, List.map_cons, List.map_nil]); first | done | rfl | (simp only [List.length_drop, List.length_take]; rfl)) ?_; (with_reducible refine (page_Decode.calls (Go.bits .and .u32 t103 2147483647) t111 t112 t113 _ A17.out).mono ?_); rintro e w' ⟨rfl, ⟨nd, rfl⟩⟩; refine ⟨_, rfl, ?_⟩))
                    go_ret
                    exact ⟨by first | rfl | (simp; done) | (simp [*]; done), by repeat (first | exact Drawn0.refl _ | apply Drawn0.step)⟩
                · rw [if_neg c19] at H
                  have c19b0 : (t105 == a0) = false := beq_eq_false_iff_ne.mpr c19
                  have c19b1 : (t105 != a0) = true := bne_iff_ne.mpr c19
                  obtain rfl := Option.some.inj H
                  go_wp2_with (first | ((with_reducible refine gate_callee (f := 9) rfl ?_); refine goesL_ (some 58) rfl rfl Try.func9 (by kernel_rfl) rfl #[.int .u32 t103] rfl (by (try simp only [List.map_toArray, List.map_cons, List.map_nil]); first | done | rfl | (simp only [List.length_drop, List.length_take]; rfl)) ?_; (with_reducible refine (page_Decode.calls t103 t105 t106 t107 _ A15.out).mono ?_); rintro e w' ⟨rfl, ⟨nd, rfl⟩⟩; refine ⟨_, rfl, ?_⟩) | ((with_reducible refine gate_callee (f := 9) rfl ?_); refine goesL_ (some 67) rfl rfl Try.func9 (by kernel_rfl) rfl #[.int .u32 (Go.bits .xor .u32 t103 (Go.bits .and .u32 a2 2147475456))] rfl (by (try simp only [List.map_toArray, List.map_cons, List.map_nil]); first | done | rfl | (simp only [List.length_drop, List.length_take]; rfl)) ?_; (with_reducible refine (page_Decode.calls (Go.bits .xor .u32 t103 (Go.bits .and .u32 a2 2147475456)) t108 t109 t110 _ A16.out).mono ?_); rintro e w' ⟨rfl, ⟨nd, rfl⟩⟩; refine ⟨_, rfl, ?_⟩) | ((with_reducible refine gate_callee (f := 9) rfl ?_); refine goesL_ (some 74) rfl rfl Try.func9 (by kernel_rfl) rfl #[.int .u32 (Go.bits .and .u32 t103 2147483647)] rfl (by (try simp only [List.map_toArray, List.map_cons, List.map_nil]); first | done | rfl | (simp only [List.length_drop, List.length_take]; rfl)) ?_; (with_reducible refine (page_Decode.calls (Go.bits .and .u32 t103 2147483647) t111 t112 t113 _ A17.out).mono ?_); rintro e w' ⟨rfl, ⟨nd, rfl⟩⟩; refine ⟨_, rfl, ?_⟩))
                  go_ret
                  exact ⟨by first | rfl | (simp; done) | (simp [*]; done), by repeat (first | exact Drawn0.refl _ | apply Drawn0.step)⟩
              · rw [if_neg c18] at H
                have c18b0 : (t104 == 0) = false := beq_eq_false_iff_ne.mpr c18
                have c18b1 : (t104 != 0) = true := bne_iff_ne.mpr c18
                obtain rfl := Option.some.inj H
                go_wp2_with (first | ((with_reducible refine gate_callee (f := 9) rfl ?_); refine goesL_ (some 58) rfl rfl Try.func9 (by kernel_rfl) rfl #[.int .u32 t103] rfl (by (try simp only [List.map_toArray, List.map_cons, List.map_nil]); first | done | rfl | (simp only [List.length_drop, List.length_take]; rfl)) ?_; (with_reducible refine (page_Decode.calls t103 t105 t106 t107 _ A15.out).mono ?_); rintro e w' ⟨rfl, ⟨nd, rfl⟩⟩; refine ⟨_, rfl, ?_⟩) | ((with_reducible refine gate_callee (f := 9) rfl ?_); refine goesL_ (some 67) rfl rfl Try.func9 (by kernel_rfl) rfl #[.int .u32 (Go.bits .xor .u32 t103 (Go.bits .and .u32 a2 2147475456))] rfl (by (try simp only [List.map_toArray, List.map_cons, List.map_nil]); first | done | rfl | (simp only [List.length_drop, List.length_take]; rfl)) ?_; (with_reducible refine (page_Decode.calls (Go.bits .xor .u32 t103 (Go.bits .and .u32 a2 2147475456)) t108 t109 t110 _ A16.out).mono ?_); rintro e w' ⟨rfl, ⟨nd, rfl⟩⟩; refine ⟨_, rfl, ?_⟩) | ((with_reducible refine gate_callee (f := 9) rfl ?_); refine goesL_ (some 74) rfl rfl Try.func9 (by kernel_rfl) rfl #[.int .u32 (Go.bits .and .u32 t103 2147483647)] rfl (by (try simp only [List.map_toArray, List.map_cons, List.map_nil]); first | done | rfl | (simp only [List.length_drop, List.length_take]; rfl)) ?_; (with_reducible refine (page_Decode.calls (Go.bits .and .u32 t103 2147483647) t111 t112 t113 _ A17.out).mono ?_); rintro e w' ⟨rfl, ⟨nd, rfl⟩⟩; refine ⟨_, rfl, ?_⟩))
                go_ret
                exact ⟨by first | rfl | (simp; done) | (simp [*]; done), by repeat (first | exact Drawn0.refl _ | apply Drawn0.step)⟩

/-- THE ONE PURE STATEMENT of bulkheadlaw09_PageEntries: yours. -/
def bulkheadlaw09_PageEntries.Pure : Prop := ∀ (a0 : Int) (a1 : Int) (a2 : Int), (Lit.int .i64 a0).wf = true → (Lit.int .i64 a1).wf = true → (Lit.int .u32 a2).wf = true → ∃ k, bulkheadlaw09_PageEntries.f k a0 a1 a2 = some true
theorem bulkheadlaw09_PageEntries.walk (P : bulkheadlaw09_PageEntries.Pure) (a0 : Int) (a1 : Int) (a2 : Int) (w : World) (w0 : (Lit.int .i64 a0).wf = true) (w1 : (Lit.int .i64 a1).wf = true) (w2 : (Lit.int .u32 a2).wf = true) :
    Calls Try.prog 4 #[.int .i64 a0, .int .i64 a1, .int .u32 a2] w fun e w' => e = .returned (.bool true) ∧ Below w.heap.size w w' := by
  obtain ⟨k, h⟩ := P a0 a1 a2 w0 w1 w2
  refine (bulkheadlaw09_PageEntries.calls k a0 a1 a2 true w h).mono ?_
  rintro e w' ⟨rfl, hd⟩
  exact ⟨rfl, hd.below⟩

end Go.Proofs.Ytkgddioflnjecaa.PPageEntries
