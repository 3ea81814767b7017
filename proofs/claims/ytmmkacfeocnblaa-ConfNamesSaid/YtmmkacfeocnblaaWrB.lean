/- bits.Sum of bytes: some number; conf's number and put of nothing. No conditions but on lengths. -/
import Derived.Test.YtmmkacfeocnblaaWrA
import Derived.Laws.BitsAllLaws
import Derived.LoopN
namespace Go.Proofs.Ytmmkacfeocnblaa.Wr
open Go.RowKit Go.Proofs.Ytmmkacfeocnblaa.Mem Go.Proofs.Ytmmkacfeocnblaa.Rng
set_option linter.unusedSimpArgs false
set_option linter.unusedVariables false

theorem xor_in (a b : Int) (h1 : 0 ≤ a) (h2 : a < 4294967296) (h3 : 0 ≤ b) (h4 : b < 4294967296) : 0 ≤ bits .xor .u32 a b ∧ bits .xor .u32 a b < 4294967296 := by
  rw [u32_xor a b h1 h2 h3 h4]
  have := Nat.xor_lt_two_pow (x := a.toNat) (y := b.toNat) (n := 32) (by omega) (by omega)
  omega

set_option maxHeartbeats 1000000 in
theorem sum_some (w : World) (g : Nat) (c : Array Value) (bs : List Int) (hA : At w g (.cells c 5 (0, 0))) (hc : c.toList = bs.map (Value.int .u8)) (hl : bs.length ≤ 2147483647) (hb : ∀ x ∈ bs, 0 ≤ x ∧ x < 256) :
    Calls Try.prog 33 #[.slice (some ⟨g, 0, none⟩) bs.length bs.length] w fun e w' => (∃ z : Int, e = .returned (.int .u32 z) ∧ 0 ≤ z ∧ z < 4294967296) ∧ w = w' := by
  have hcell : ∀ k x, bs[k]? = some x → w.cell? ⟨g, k, none⟩ = some (.int .u8 x) := fun k x hk => hA.cell (by rw [← Array.getElem?_toList, hc, List.getElem?_map, hk]; rfl)
  go_enter Try.func33, Try.ntmps33
  go_wp2
  go_loopg [3, 9] bs.length (fun m s i wr => ∃ (k : Nat) (z : Int), m = bs.length - k ∧ k ≤ bs.length ∧ i = .int .i64 k ∧ s = .int .u32 z ∧ 0 ≤ z ∧ z < 4294967296 ∧ w = wr)
  case atStart => exact ⟨0, 4294967295, rfl, by omega, rfl, rfl, by omega, by omega, rfl⟩
  case round =>
    obtain ⟨k, z, rfl, hk, rfl, rfl, h0, h1, rfl⟩ := hrel
    by_cases hlt : k < bs.length
    · obtain ⟨x, hx⟩ : ∃ x, bs[k]? = some x := ⟨_, List.getElem?_eq_getElem hlt⟩
      have q := hcell k x hx
      have hbx := hb x (List.mem_of_getElem? hx)
      have hlt1 : (k : Int) < (bs.length : Int) := by omega
      clear hcell
      go_wp2
      clear q hA hc
      go_loopg [3, 17] 8 (fun m s i wr => ∃ (j : Nat) (z : Int), m = 8 - j ∧ j ≤ 8 ∧ i = .int .i64 j ∧ s = .int .u32 z ∧ 0 ≤ z ∧ z < 4294967296 ∧ w = wr)
      case atStart =>
        refine ⟨0, _, rfl, by omega, rfl, rfl, ?_, ?_, rfl⟩
        · exact (xor_in z x h0 h1 (by omega) (by omega)).1
        · exact (xor_in z x h0 h1 (by omega) (by omega)).2
      case round =>
        obtain ⟨j, y, rfl, hj, rfl, rfl, h0, h1, rfl⟩ := hrel
        by_cases hlj : j < 8
        · have hj1 : (j : Int) < 8 := by omega
          have HX := Lib.hid (xor_in (y / 2) 3988292384 (by omega) (by omega) (by decide) (by decide))
          go_wp2
          all_goals (go_roundg (8 - (j + 1)))
          case measure => omega
          case measure => omega
          all_goals refine ⟨j + 1, _, rfl, by omega, rfl, rfl, ?_, ?_, rfl⟩
          · exact HX.out.1
          · exact HX.out.2
          · omega
          · omega
        · have hno : ¬ (j : Int) < 8 := by omega
          go_wp2
          go_roundg (bs.length - (k + 1))
          case measure => omega
          case rel => exact ⟨k + 1, y, rfl, by omega, rfl, rfl, h0, h1, rfl⟩
    · have hno : ¬ (k : Int) < (bs.length : Int) := by omega
      go_wp2
      go_ret
      refine ⟨⟨_, rfl, ?_, ?_⟩, rfl⟩
      · exact (xor_in IntKind.u32.max z (by decide) (by decide) h0 h1).1
      · exact (xor_in IntKind.u32.max z (by decide) (by decide) h0 h1).2

theorem alloc_all {base : Nat} {w : World} {pw pr : Nat} {bs : List Int} (h : WriterIs base w pw pr bs) (hbw : base ≤ w.heap.size) : ∀ X, WriterIs base (w.alloc X) pw pr bs ∧ Lays base pr w (w.alloc X) ∧ base ≤ (w.alloc X).heap.size := fun X => by
  obtain ⟨hh, ⟨v, at', hrow, ho⟩, hlow⟩ := h
  exact ⟨⟨hh.alloc X, ⟨v, at', hrow.alloc X, ho.alloc X⟩, hlow⟩, Lays.alloc hbw X, by rw [size_alloc]; omega⟩

theorem number_calls (base : Nat) (w : World) (pw pr : Nat) (bs : List Int) (n : Int) (h : WriterIs base w pw pr bs) (hbw : base ≤ w.heap.size) (h0 : 0 ≤ n) (h1 : n < 4294967296) (hl : bs.length + 4 ≤ 2147483647) :
    Calls Try.prog 26 #[.agg #[.pointer (some ⟨pw, 0, none⟩)], .int .i64 n] w fun e w' => e = .returned (.tuple #[]) ∧ WriterIs base w' pw pr (bs ++ leB n 4) ∧ Lays base pr w w' := by
  have hw : IntKind.u32.wrap n = n := by rw [IntKind.wrap_u32]; omega
  have n1 : decide (n < 0) = false := decide_eq_false (by omega)
  have n2 : decide ((4294967295 : Int) < n) = false := decide_eq_false (by omega)
  have HW := Lib.hid (alloc_all h hbw)
  go_enter Try.func26, Try.ntmps26
  go_wp2_with fail
  refine (u32_calls base _ pw pr bs n (HW.out _).1 (HW.out _).2.2 h0 h1 hl).mono ?_
  rintro e w1 ⟨rfl, hW, hB⟩
  have hB2 := (HW.out _).2.1.trans hB
  clear hB HW h
  go_wp2
  go_end0
  exact ⟨rfl, hW, hB2⟩

theorem putW_calls (base : Nat) (w : World) (pw pr : Nat) (bs : List Int) (f : Value) (h : WriterIs base w pw pr bs) (hbw : base ≤ w.heap.size) (hl : bs.length + 1 ≤ 2147483647) :
    Calls Try.prog 27 #[.agg #[.pointer (some ⟨pw, 0, none⟩)], .slice none 0 0, f] w fun e w' => e = .returned (.tuple #[]) ∧ WriterIs base w' pw pr (bs ++ leB 0 1) ∧ Lays base pr w w' := by
  have HW := Lib.hid (alloc_all h hbw)
  go_enter Try.func27, Try.ntmps27
  go_wp2_with fail
  refine (u8_calls base _ pw pr bs 0 (HW.out _).1 (HW.out _).2.2 (by omega) (by omega) hl).mono ?_
  rintro e w1 ⟨rfl, hW, hB⟩
  have hB2 := (HW.out _).2.1.trans hB
  clear hB HW h
  go_wp2_with fail
  refine wp_loop_rounds 1 ?_
  rw [rounds_succ]
  go_wp2_with fail
  go_end0
  exact ⟨rfl, hW, hB2⟩

theorem putP_calls (base : Nat) (w : World) (pw pr : Nat) (bs : List Int) (f : Value) (h : WriterIs base w pw pr bs) (hbw : base ≤ w.heap.size) (hl : bs.length + 1 ≤ 2147483647) :
    Calls Try.prog 29 #[.agg #[.pointer (some ⟨pw, 0, none⟩)], .slice none 0 0, f] w fun e w' => e = .returned (.tuple #[]) ∧ WriterIs base w' pw pr (bs ++ leB 0 1) ∧ Lays base pr w w' := by
  have HW := Lib.hid (alloc_all h hbw)
  go_enter Try.func29, Try.ntmps29
  go_wp2_with fail
  refine (u8_calls base _ pw pr bs 0 (HW.out _).1 (HW.out _).2.2 (by omega) (by omega) hl).mono ?_
  rintro e w1 ⟨rfl, hW, hB⟩
  have hB2 := (HW.out _).2.1.trans hB
  clear hB HW h
  go_wp2_with fail
  refine wp_loop_rounds 1 ?_
  rw [rounds_succ]
  go_wp2_with fail
  go_end0
  exact ⟨rfl, hW, hB2⟩

theorem putC_calls (base : Nat) (w : World) (pw pr : Nat) (bs : List Int) (f : Value) (h : WriterIs base w pw pr bs) (hbw : base ≤ w.heap.size) (hl : bs.length + 1 ≤ 2147483647) :
    Calls Try.prog 31 #[.agg #[.pointer (some ⟨pw, 0, none⟩)], .slice none 0 0, f] w fun e w' => e = .returned (.tuple #[]) ∧ WriterIs base w' pw pr (bs ++ leB 0 1) ∧ Lays base pr w w' := by
  have HW := Lib.hid (alloc_all h hbw)
  go_enter Try.func31, Try.ntmps31
  go_wp2_with fail
  refine (u8_calls base _ pw pr bs 0 (HW.out _).1 (HW.out _).2.2 (by omega) (by omega) hl).mono ?_
  rintro e w1 ⟨rfl, hW, hB⟩
  have hB2 := (HW.out _).2.1.trans hB
  clear hB HW h
  go_wp2_with fail
  refine wp_loop_rounds 1 ?_
  rw [rounds_succ]
  go_wp2_with fail
  go_end0
  exact ⟨rfl, hW, hB2⟩
end Go.Proofs.Ytmmkacfeocnblaa.Wr
