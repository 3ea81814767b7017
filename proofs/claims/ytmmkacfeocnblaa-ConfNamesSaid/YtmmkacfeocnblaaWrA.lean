/- bits.Writer: what it holds; NewWriter, lay, U8, U32, Len, Out. No conditions but on lengths. -/
import Derived.Test.YtmmkacfeocnblaaHeld
import Derived.Laws.MakeOwn
import Derived.Laws.CopyOwn
namespace Go.Proofs.Ytmmkacfeocnblaa.Wr
open Go.RowKit Go.Proofs.Ytmmkacfeocnblaa.Mem Go.Proofs.Ytmmkacfeocnblaa.Rng
set_option linter.unusedSimpArgs false
set_option linter.unusedVariables false

structure WriterIs (base : Nat) (w : World) (pw pr : Nat) (bs : List Int) : Prop where
  head : At w pw (.cells #[.pointer (some ⟨pr, 0, none⟩)] 108 (0, 0))
  row : ∃ v at', At w pr (.cells #[v, .int .i64 at'] 106 (0, 0)) ∧ w.ownsRow base 5 1 v bs.length (bs.map (Value.int .u8))
  low : base ≤ pw ∧ base ≤ pr ∧ pw ≠ pr

/-- What laying down leaves: all below base; and whatever is no row of bytes, nor the writer's own row. -/
structure Lays (base pr : Nat) (w w' : World) : Prop where
  below : Below base w w'
  other : ∀ b c t fr, t ≠ 5 → b ≠ pr → At w b (.cells c t fr) → At w' b (.cells c t fr)

theorem Lays.refl (base pr : Nat) (w : World) : Lays base pr w w := ⟨Below.refl _ _, fun _ _ _ _ _ _ h => h⟩
theorem Lays.trans {base pr : Nat} {a b c : World} (h : Lays base pr a b) (k : Lays base pr b c) : Lays base pr a c := ⟨h.below.trans k.below, fun b c t fr ht hb hA => k.other b c t fr ht hb (h.other b c t fr ht hb hA)⟩
theorem Lays.alloc {base pr : Nat} {w : World} (hb : base ≤ w.heap.size) (X : Obj) : Lays base pr w (w.alloc X) := ⟨(Below.refl _ w).alloc hb X, fun b c t fr _ _ hA => hA.alloc X⟩
theorem Lays.drew {base pr : Nat} (w : World) : Lays base pr w w.drew := ⟨(Below.refl _ w).drew, fun b c t fr _ _ hA => hA⟩
theorem Lays.size {base pr : Nat} {a b : World} (h : Lays base pr a b) : a.heap.size ≤ b.heap.size := h.below.size

theorem newWriter_calls (w : World) : Calls Try.prog 24 #[] w fun e w' => e = .returned (.pointer (some ⟨w.heap.size + 1, 0, none⟩)) ∧ WriterIs w.heap.size w' (w.heap.size + 1) w.heap.size [] ∧ Below w.heap.size w w' := by
  go_enter Try.func24, Try.ntmps24
  go_wp2
  go_ret
  refine ⟨rfl, ⟨?_, ⟨_, _, (At.new w _).alloc _, World.ownsRow_nil _ _ _ _⟩, by omega, by omega, by omega⟩, ((Below.refl _ w).alloc (Nat.le_refl _) _).alloc (by simp) _⟩
  have := At.new (w.alloc (.cells #[.slice none 0 0, .int .i64 0] 106)) (.cells #[.pointer (some ⟨w.heap.size, 0, none⟩)] 108)
  rwa [size_alloc] at this

def leB (n : Int) (k : Nat) : List Int := (List.range k).map fun i => n / 256 ^ i % 256
theorem leB_succ (n : Int) (k : Nat) : leB n (k + 1) = leB n k ++ [n / 256 ^ k % 256] := by unfold leB; rw [List.range_succ, List.map_append]; rfl
theorem leB_len (n : Int) (k : Nat) : (leB n k).length = k := by simp [leB]

theorem own_ne_at {w : World} {base e e' sz n : Nat} {v : Value} {xs : List Value} {g : Nat} {c : Array Value} {fr : Nat × Nat} (h : w.ownsRow base e sz v n xs) (hg : At w g (.cells c e' fr)) (he : e ≠ e') : v.ownBlock ≠ some g := by
  intro e1
  rcases h.2 with ⟨rfl, -⟩ | ⟨g', cap, cur, rfl, -, hg', -⟩
  · simp [Value.ownBlock] at e1
  · simp only [Value.ownBlock, Option.some.injEq] at e1
    subst e1; rw [hg.eq] at hg'; simp at hg'; exact he hg'.2.1.symm

theorem own_same {w w' : World} {base base' e sz n : Nat} {v : Value} {xs : List Value} (hb : base' ≤ base) (h : w.ownsRow base e sz v n xs) (hk : ∀ k, v.ownBlock = some k → w'.heap[k]? = w.heap[k]?) : w'.ownsRow base' e sz v n xs := by
  refine ⟨h.1, ?_⟩
  rcases h.2 with h2 | ⟨g, cap, cur, rfl, hbg, hg, h3⟩
  · exact .inl h2
  · exact .inr ⟨g, cap, cur, rfl, by omega, (hk g rfl).trans hg, h3⟩

theorem own_base {w : World} {base e size n : Nat} {v : Value} {xs : List Value} (h : w.ownsRow base e size v n xs) : ∀ k, v.ownBlock = some k → base ≤ k := by
  intro k hk
  rcases h.2 with ⟨rfl, -⟩ | ⟨g, cap, cur, rfl, hb, hg, -⟩
  · simp [Value.ownBlock] at hk
  · simp [Value.ownBlock] at hk; omega

theorem own_slice {w : World} {base e size n : Nat} {v : Value} {xs : List Value} (h : w.ownsRow base e size v n xs) : ∃ a cap, v = .slice a n cap := by
  rcases h.2 with ⟨rfl, rfl⟩ | ⟨g, cap, cur, rfl, hb, hg, -⟩
  · exact ⟨_, _, rfl⟩
  · exact ⟨_, _, rfl⟩

theorem wrap8 (m : Int) : IntKind.u8.wrap m = m % 256 := by rfl

theorem lay_step {base : Nat} {wr w2 : World} {pw pr : Nat} {bs : List Int} {v v' : Value} {at' x : Int} {X : Obj} (hh : At wr pw (.cells #[.pointer (some ⟨pr, 0, none⟩)] 108 (0, 0))) (hrow : At wr pr (.cells #[v, .int .i64 at'] 106 (0, 0)))
    (ho : wr.ownsRow base 5 1 v bs.length (bs.map (Value.int .u8))) (hlow : base ≤ pw ∧ base ≤ pr ∧ pw ≠ pr) (hb : base ≤ wr.heap.size)
    (ho2 : w2.ownsRow base 5 1 v' (bs.length + 1) (bs.map (Value.int .u8) ++ [.int .u8 x])) (hg : (wr.drew.alloc X).grownBy w2 v.ownBlock) :
    At w2 pw (.cells #[.pointer (some ⟨pr, 0, none⟩)] 108 (0, 0)) ∧ At w2 pr (.cells #[v, .int .i64 at'] 106 (0, 0)) ∧ WriterIs base (w2.setCell ⟨pr, 0, none⟩ v') pw pr (bs ++ [x]) ∧ Lays base pr wr (w2.setCell ⟨pr, 0, none⟩ v') := by
  have hz : (wr.drew.alloc X).heap.size = wr.heap.size + 1 := size_alloc _ _
  have hblk : ∀ b, b < wr.heap.size → v.ownBlock ≠ some b → w2.heap[b]? = wr.heap[b]? := fun b hb hn =>
    (hg.block b (by omega) (fun e => hn e.symm)).trans (by rw [heap_alloc, if_neg (by show b ≠ wr.heap.size; omega)]; rfl)
  have h1 : At w2 pw (.cells #[.pointer (some ⟨pr, 0, none⟩)] 108 (0, 0)) := (hblk pw hh.lt (own_ne_at ho hh (by decide))).trans hh
  have h2 : At w2 pr (.cells #[v, .int .i64 at'] 106 (0, 0)) := (hblk pr hrow.lt (own_ne_at ho hrow (by decide))).trans hrow
  refine ⟨h1, h2, ⟨h1.setCell_ne (Ne.symm hlow.2.2) _ _, ⟨v', at', h2.setCell_same 0 v', ?_⟩, hlow⟩, ?_⟩
  · have := own_same (w' := w2.setCell ⟨pr, 0, none⟩ v') (Nat.le_refl _) ho2 (fun b hb => by rw [heap_setCell, if_neg]; rintro rfl; exact own_ne_at ho2 h2 (by decide) hb)
    simpa using this
  · have hB : Below base wr (wr.drew.alloc X) := ((Below.refl base wr).drew).alloc hb X
    exact ⟨(hB.grown hg (by omega) (fun k e => own_base ho k e)).setCell hlow.2.1 _, fun b c t fr ht hb hA => At.setCell_ne ((hblk b hA.lt (own_ne_at ho hA (Ne.symm ht))).trans hA) (Ne.symm hb) _ _⟩

theorem infoU8 : (Try.prog.info? 5).map (fun i => (i.zero, i.size, i.bytes)) = some (some (.int .u8 0), 1, 1) := by kernel_rfl

set_option maxHeartbeats 1000000 in
theorem lay_calls (base : Nat) (w : World) (pw pr : Nat) (bs : List Int) (n : Int) (k : Nat) (h : WriterIs base w pw pr bs) (hbw : base ≤ w.heap.size) (h0 : 0 ≤ n) (h1 : n < 18446744073709551616) (hl : bs.length + k ≤ 2147483647) :
    Calls Try.prog 56 #[.pointer (some ⟨pw, 0, none⟩), .int .u64 n, .int .i64 k] w fun e w' => e = .returned (.tuple #[]) ∧ WriterIs base w' pw pr (bs ++ leB n k) ∧ Lays base pr w w' := by
  obtain ⟨i0, hi, hz0, hz1, hz2⟩ := info_parts infoU8
  go_enter Try.func56, Try.ntmps56
  go_wp2
  go_loopg [1, 9] k (fun g m i wr => ∃ j : Nat, g = k - j ∧ j ≤ k ∧ i = .int .i64 j ∧ m = .int .u64 (n / 256 ^ j) ∧ WriterIs base wr pw pr (bs ++ leB n j) ∧ Lays base pr w wr)
  case atStart => exact ⟨0, rfl, by omega, rfl, by simp, by simpa [leB] using h, Lays.refl _ _ _⟩
  case round =>
    obtain ⟨j, rfl, hj, rfl, rfl, hW, hB⟩ := hrel
    by_cases hlt : j < k
    · obtain ⟨hh, ⟨v, at', hrow, ho⟩, hlow⟩ := hW
      have hpow : 0 ≤ n / 256 ^ j := Int.ediv_nonneg h0 (Int.le_of_lt (Int.pow_pos (by decide)))
      generalize hm : n / 256 ^ j = m at *
      have HM := Lib.hid hm
      clear hm
      have hzB := hB.size
      have hlen : (bs ++ leB n j).length = bs.length + j := by rw [List.length_append, leB_len]
      obtain ⟨v', w2, hrun, ho2, hg2, -, hat⟩ := run_append_own_at (P := Try.prog) (wr.drew.alloc (.cells #[.int .u8 (m % 256)] 5)) base 27 27 5 i0 (.int .u8 0) 1 1 Try.underlying27 hi hz0 hz1 hz2 rfl (by decide) v _ _ ((ho.alloc (.cells #[.int .u8 (m % 256)] 5)).kept (w' := wr.drew.alloc (.cells #[.int .u8 (m % 256)] 5)) (row := none) ⟨rfl, rfl, rfl, Nat.le_refl _, fun _ _ _ => rfl⟩ (by cases v.ownBlock <;> simp))
        ⟨wr.heap.size, 0, none⟩ 1 1 [.int .u8 (m % 256)] rfl (cell_one_new _ _ _) (by simp [Value.oneCell']) (by rw [hlen]; unfold maxLen; omega) (by rw [hlen]; omega) (by rw [size_alloc]; show base ≤ wr.heap.size + 1; omega)
      obtain ⟨va, vn, vc, rfl⟩ : ∃ va vn vc, v' = .slice va vn vc := by obtain ⟨x, y, e⟩ := own_slice ho2; exact ⟨x, _, y, e⟩
      obtain ⟨a1, a2, hW2, hB2⟩ := lay_step hh hrow ho hlow (by omega) ho2 hg2
      have q1 : wr.cell? ⟨pw, 0, none⟩ = some (.pointer (some ⟨pr, 0, none⟩)) := hh.cell rfl
      have q2 : wr.cell? ⟨pr, 0, none⟩ = some v := hrow.cell rfl
      have q3 : w2.cell? ⟨pw, 0, none⟩ = some (.pointer (some ⟨pr, 0, none⟩)) := a1.cell rfl
      have q4 : w2.cell? ⟨pr, 0, none⟩ = some v := a2.cell rfl
      have q5 : w2.frozen? ⟨pr, 0, none⟩ = false := a2.free 0
      have q6 : ∀ X, (wr.alloc X).cell? ⟨pw, 0, none⟩ = some (.pointer (some ⟨pr, 0, none⟩)) := fun X => (hh.alloc X).cell rfl
      have q7 : ∀ X, (wr.alloc X).cell? ⟨pr, 0, none⟩ = some v := fun X => (hrow.alloc X).cell rfl
      have HS := Lib.hid (And.intro hW2 hB2)
      have HB := Lib.hid hB
      have hlt1 : (j : Int) < (k : Int) := by omega
      have hk63 : (k : Int) ≤ 2147483647 := by omega
      clear h h0 h1 hl hlen hi hz0 hz1 hz2 hzB hbw hB hlow hh hrow ho ho2 hg2 hat hW2 hB2 a1 a2
      go_wp2_with fail
      have hput : ∀ (ts : List Value) (d : Nat) (v : Value) (ds : List Deferred), Act.put { tmps := ts.toArray, defers := ds } (some d) v = { tmps := (ts.set d v).toArray, defers := ds } := fun _ _ _ _ => by simp [Act.put]
      refine Held.region_plain 17 (fun W' => W'.cell? ⟨pw, 0, none⟩ = some (.pointer (some ⟨pr, 0, none⟩)) ∧ W'.cell? ⟨pr, 0, none⟩ = some v) (by kernel_rfl) ⟨q1, q2⟩ ?_
      refine Held.Way.take 0 (v := .pointer (some ⟨pw, 0, none⟩)) rfl (by kernel_rfl) (by kernel_rfl) (by kernel_rfl) (by kernel_rfl) (fun _ _ _ h => nomatch h.1) (.inl ⟨by rfl, ?_⟩) rfl (hput _ 11 _ _) ?_
      · rintro W' ⟨h1, h2⟩; go_simp
      simp only [List.set_cons_zero, List.set_cons_succ]
      refine Held.Way.take 1 (v := .pointer (some ⟨pw, 0, none⟩)) rfl (by kernel_rfl) (by kernel_rfl) (by kernel_rfl) (by kernel_rfl) (fun _ _ _ h => nomatch h.1) (.inl ⟨by rfl, ?_⟩) rfl (hput _ 12 _ _) ?_
      · rintro W' ⟨h1, h2⟩; go_simp
      simp only [List.set_cons_zero, List.set_cons_succ]
      refine Held.Way.take 2 (v := .pointer (some ⟨pw, 0, none⟩)) rfl (by kernel_rfl) (by kernel_rfl) (by kernel_rfl) (by kernel_rfl) (fun _ _ _ h => nomatch h.1) (.inl ⟨by rfl, ?_⟩) rfl (hput _ 13 _ _) ?_
      · rintro W' ⟨h1, h2⟩; go_simp
      simp only [List.set_cons_zero, List.set_cons_succ]
      refine Held.Way.take 3 (v := .pointer (some ⟨pr, 0, none⟩)) rfl (by kernel_rfl) (by kernel_rfl) (by kernel_rfl) (by kernel_rfl) (fun _ _ _ h => nomatch h.1) (.inl ⟨by rfl, ?_⟩) rfl (hput _ 14 _ _) ?_
      · rintro W' ⟨h1, h2⟩; go_simp
      simp only [List.set_cons_zero, List.set_cons_succ]
      refine Held.Way.take 4 (v := .pointer (some ⟨pw, 0, none⟩)) rfl (by kernel_rfl) (by kernel_rfl) (by kernel_rfl) (by kernel_rfl) (fun _ _ _ h => nomatch h.1) (.inl ⟨by rfl, ?_⟩) rfl (hput _ 15 _ _) ?_
      · rintro W' ⟨h1, h2⟩; go_simp
      simp only [List.set_cons_zero, List.set_cons_succ]
      refine Held.Way.take 5 (v := .pointer (some ⟨pw, 0, none⟩)) rfl (by kernel_rfl) (by kernel_rfl) (by kernel_rfl) (by kernel_rfl) (fun _ _ _ h => nomatch h.1) (.inl ⟨by rfl, ?_⟩) rfl (hput _ 16 _ _) ?_
      · rintro W' ⟨h1, h2⟩; go_simp
      simp only [List.set_cons_zero, List.set_cons_succ]
      refine Held.Way.take 6 (v := .pointer (some ⟨pw, 0, none⟩)) rfl (by kernel_rfl) (by kernel_rfl) (by kernel_rfl) (by kernel_rfl) (fun _ _ _ h => nomatch h.1) (.inl ⟨by rfl, ?_⟩) rfl (hput _ 17 _ _) ?_
      · rintro W' ⟨h1, h2⟩; go_simp
      simp only [List.set_cons_zero, List.set_cons_succ]
      refine Held.Way.take 7 (v := .pointer (some ⟨pr, 0, none⟩)) rfl (by kernel_rfl) (by kernel_rfl) (by kernel_rfl) (by kernel_rfl) (fun _ _ _ h => nomatch h.1) (.inl ⟨by rfl, ?_⟩) rfl (hput _ 18 _ _) ?_
      · rintro W' ⟨h1, h2⟩; go_simp
      simp only [List.set_cons_zero, List.set_cons_succ]
      refine Held.Way.take 8 (v := .pointer (some ⟨pr, 0, none⟩)) rfl (by kernel_rfl) (by kernel_rfl) (by kernel_rfl) (by kernel_rfl) (fun _ _ _ h => nomatch h.1) (.inl ⟨by rfl, ?_⟩) rfl (hput _ 19 _ _) ?_
      · rintro W' ⟨h1, h2⟩; go_simp
      simp only [List.set_cons_zero, List.set_cons_succ]
      refine Held.Way.take 9 (v := .pointer (some ⟨pr, 0, none⟩)) rfl (by kernel_rfl) (by kernel_rfl) (by kernel_rfl) (by kernel_rfl) (fun _ _ _ h => nomatch h.1) (.inl ⟨by rfl, ?_⟩) rfl (hput _ 20 _ _) ?_
      · rintro W' ⟨h1, h2⟩; go_simp
      simp only [List.set_cons_zero, List.set_cons_succ]
      refine Held.Way.take 10 (v := v) rfl (by kernel_rfl) (by kernel_rfl) (by kernel_rfl) (by kernel_rfl) (fun _ _ _ h => nomatch h.1) (.inl ⟨by rfl, ?_⟩) rfl (hput _ 21 _ _) ?_
      · rintro W' ⟨h1, h2⟩; go_simp
      simp only [List.set_cons_zero, List.set_cons_succ]
      refine Held.Way.take 11 (v := .int .u64 (m)) rfl (by kernel_rfl) (by kernel_rfl) (by kernel_rfl) (by kernel_rfl) (fun _ _ _ h => nomatch h.1) (.inl ⟨by rfl, ?_⟩) rfl (hput _ 22 _ _) ?_
      · rintro W' ⟨h1, h2⟩; go_simp
      simp only [List.set_cons_zero, List.set_cons_succ]
      refine Held.Way.take 12 (v := .int .u8 (m % 256)) rfl (by kernel_rfl) (by kernel_rfl) (by kernel_rfl) (by kernel_rfl) (fun _ _ _ h => nomatch h.1) (.inl ⟨by rfl, ?_⟩) rfl (hput _ 23 _ _) ?_
      · rintro W' ⟨h1, h2⟩; go_simp; exact wrap8 m
      simp only [List.set_cons_zero, List.set_cons_succ]
      refine Held.Way.go 13 (v := .slice (some ⟨wr.heap.size, 0, none⟩) 1 1) (w' := wr.drew.alloc (.cells #[.int .u8 (m % 256)] 5)) rfl (by kernel_rfl) (by rfl) (fun _ => by go_simp) (fun _ _ => ⟨q6 _, q7 _⟩) rfl (hput _ 24 _ _) ?_
      simp only [List.set_cons_zero, List.set_cons_succ]
      rw [if_neg (by decide)]
      refine Held.Way.go 14 (v := .slice va vn vc) (w' := w2) rfl (by kernel_rfl) (by rfl) (fun _ => Held.run_append_op rfl hrun) (fun _ _ => ⟨q3, q4⟩) rfl (hput _ 25 _ _) ?_
      simp only [List.set_cons_zero, List.set_cons_succ]
      rw [if_neg (by decide)]
      refine Held.Way.go 15 (v := .pointer (some ⟨pr, 0, none⟩)) (w' := w2) rfl (by kernel_rfl) (by rfl) (fun _ => by go_simp) (fun _ _ => ⟨q3, q4⟩) rfl (hput _ 26 _ _) ?_
      simp only [List.set_cons_zero, List.set_cons_succ]
      rw [if_neg (by decide)]
      refine Held.Way.go 16 (v := .pointer (some ⟨pr, 0, none⟩)) (w' := w2) rfl (by kernel_rfl) (by rfl) (fun _ => by go_simp) (fun _ _ => ⟨q3, q4⟩) rfl (hput _ 27 _ _) ?_
      simp only [List.set_cons_zero, List.set_cons_succ]
      rw [if_neg (by decide)]
      refine Held.Way.skip 17 (w' := w2.setCell ⟨pr, 0, none⟩ (.slice va vn vc)) rfl (by kernel_rfl) (by rfl) (fun _ => by go_simp) (fun h => absurd rfl h) rfl rfl ?_
      rw [if_pos rfl]
      refine ⟨⟨rfl, ?_⟩, by kernel_rfl⟩
      go_wp2_with fail
      go_roundg (k - (j + 1))
      case measure => omega
      case rel =>
        have hm := HM.out
        have e1 : n / 256 ^ (j + 1) = m / 256 := by rw [← hm, Int.pow_succ, Int.ediv_ediv_of_nonneg (Int.le_of_lt (Int.pow_pos (by decide)))]
        refine ⟨j + 1, rfl, by omega, rfl, by rw [e1], ?_, HB.out.trans HS.out.2⟩
        rw [leB_succ, ← List.append_assoc, hm]; exact HS.out.1
    · have hno : ¬ (j : Int) < (k : Int) := by omega
      have hjk : j = k := by omega
      subst hjk
      go_wp2
      go_end0
      exact ⟨rfl, hW, hB⟩

theorem u32_calls (base : Nat) (w : World) (pw pr : Nat) (bs : List Int) (n : Int) (h : WriterIs base w pw pr bs) (hbw : base ≤ w.heap.size) (h0 : 0 ≤ n) (h1 : n < 4294967296) (hl : bs.length + 4 ≤ 2147483647) :
    Calls Try.prog 25 #[.pointer (some ⟨pw, 0, none⟩), .int .u32 n] w fun e w' => e = .returned (.tuple #[]) ∧ WriterIs base w' pw pr (bs ++ leB n 4) ∧ Lays base pr w w' := by
  have hw : IntKind.u64.wrap n = n := by rw [IntKind.wrap_u64]; omega
  go_enter Try.func25, Try.ntmps25
  go_wp2_with fail
  try rw [hw]
  refine (lay_calls base w pw pr bs n 4 h hbw h0 (by omega) hl).mono ?_
  rintro e w1 ⟨rfl, hW, hB⟩
  go_wp2
  go_end0
  exact ⟨rfl, hW, hB⟩

theorem u8_calls (base : Nat) (w : World) (pw pr : Nat) (bs : List Int) (n : Int) (h : WriterIs base w pw pr bs) (hbw : base ≤ w.heap.size) (h0 : 0 ≤ n) (h1 : n < 256) (hl : bs.length + 1 ≤ 2147483647) :
    Calls Try.prog 57 #[.pointer (some ⟨pw, 0, none⟩), .int .u8 n] w fun e w' => e = .returned (.tuple #[]) ∧ WriterIs base w' pw pr (bs ++ leB n 1) ∧ Lays base pr w w' := by
  have hw : IntKind.u64.wrap n = n := by rw [IntKind.wrap_u64]; omega
  go_enter Try.func57, Try.ntmps57
  go_wp2_with fail
  try rw [hw]
  refine (lay_calls base w pw pr bs n 1 h hbw h0 (by omega) hl).mono ?_
  rintro e w1 ⟨rfl, hW, hB⟩
  go_wp2
  go_end0
  exact ⟨rfl, hW, hB⟩

theorem len_calls (base : Nat) (w : World) (pw pr : Nat) (bs : List Int) (h : WriterIs base w pw pr bs) :
    Calls Try.prog 35 #[.pointer (some ⟨pw, 0, none⟩)] w fun e w' => e = .returned (.int .i64 bs.length) ∧ w = w' := by
  obtain ⟨hh, ⟨v, at', hrow, ho⟩, -⟩ := h
  obtain ⟨va, vc, rfl⟩ := own_slice ho
  have q1 : w.cell? ⟨pw, 0, none⟩ = some (.pointer (some ⟨pr, 0, none⟩)) := hh.cell rfl
  have q2 : w.cell? ⟨pr, 0, none⟩ = some (.slice va bs.length vc) := hrow.cell rfl
  go_enter Try.func35, Try.ntmps35
  go_wp2
  go_ret
  exact ⟨rfl, rfl⟩

theorem out_calls (base : Nat) (w : World) (pw pr : Nat) (bs : List Int) (h : WriterIs base w pw pr bs) (hbw : base ≤ w.heap.size) (hl : bs.length ≤ 2147483647) :
    Calls Try.prog 34 #[.pointer (some ⟨pw, 0, none⟩)] w fun e w' => ∃ g, e = .returned (.slice (some ⟨g, 0, none⟩) bs.length bs.length) ∧ base ≤ g ∧ (∃ c, At w' g (.cells c 5 (0, 0)) ∧ c.toList = bs.map (Value.int .u8)) ∧ WriterIs base w' pw pr bs ∧ Lays base pr w w' := by
  obtain ⟨i0, hi, hz0, hz1, hz2⟩ := info_parts infoU8
  obtain ⟨hh, ⟨v, at', hrow, ho⟩, hlow⟩ := id h
  obtain ⟨va, vc, rfl⟩ := own_slice ho
  have q1 : w.cell? ⟨pw, 0, none⟩ = some (.pointer (some ⟨pr, 0, none⟩)) := hh.cell rfl
  have q2 : w.cell? ⟨pr, 0, none⟩ = some (.slice va bs.length vc) := hrow.cell rfl
  obtain ⟨c0, hc0, hmk⟩ : ∃ c0 : Array Value, c0.size = bs.length ∧ (Instr.makeSlice 27 (.int .i64 (bs.length : Int)) (.int .i64 (bs.length : Int))).run Try.prog w = .ok (.slice (some ⟨w.heap.size, 0, none⟩) bs.length bs.length) (w.alloc (.cells c0 5)) := by
    have h := run_make (P := Try.prog) w 27 5 i0 (.int .u8 0) Try.underlying27 hi hz0 .i64 .i64 (bs.length : Int) (bs.length : Int) (by omega) (by omega) (by rw [hz2]; omega) (by omega)
    rw [Int.toNat_natCast] at h
    exact ⟨_, by rw [size_madeCells, hz1]; omega, h⟩
  have q3 : ∀ X, (w.alloc X).cell? ⟨pw, 0, none⟩ = some (.pointer (some ⟨pr, 0, none⟩)) := fun X => (hh.alloc X).cell rfl
  have q4 : ∀ X, (w.alloc X).cell? ⟨pr, 0, none⟩ = some (.slice va bs.length vc) := fun X => (hrow.alloc X).cell rfl
  have hsz : (Try.prog.info? 5).map (·.size) = some 1 := by kernel_rfl
  have hA : At (w.alloc (.cells c0 5)) w.heap.size (.cells c0 5 (0, 0)) := At.new w _
  have hA' : (w.alloc (.cells c0 5)).heap[w.heap.size]? = some (.cells c0.toList.toArray 5 (0, 0)) := hA.eq
  have hfit : 0 + (bs.map (Value.int .u8)).length ≤ c0.toList.length := by simp [hc0]
  have hmin : (bs.map (Value.int .u8)).length = Nat.min bs.length bs.length := by rw [List.length_map]; exact (Nat.min_self _).symm
  have hone : ∀ v ∈ bs.map (Value.int .u8), v.oneCell' = true := by
    intro v hv; obtain ⟨x, -, rfl⟩ := List.mem_map.1 hv; rfl
  have hho := Lib.hid (And.intro ho h)
  have hB0 : Below w.heap.size w (w.alloc (.cells c0 5)) := (Below.refl _ w).alloc (Nat.le_refl _) _
  have hpos : 0 < (bs.map (Value.int .u8)).length → (some ⟨w.heap.size, 0, none⟩ : Option Addr) = some ⟨w.heap.size, 0, none⟩ ∧ ∃ ad, va = some ad ∧ ∀ j v, (bs.map (Value.int .u8))[j]? = some v → (w.alloc (.cells c0 5)).cell? (ad.add j) = some v := by
    intro hp
    refine ⟨rfl, ?_⟩
    rcases (ho.alloc (.cells c0 5)).2 with ⟨e, h0⟩ | ⟨g, cap, cur, e, -⟩
    · have : bs.length = 0 := h0
      rw [List.length_map] at hp; omega
    · simp only [Value.slice.injEq] at e
      refine ⟨_, e.1, fun j v hj => ?_⟩
      exact (ho.alloc (.cells c0 5)).cells (g := g) (by rw [e.1]; rfl) j v hj
  have HP := Lib.hid hpos
  have HA := Lib.hid (And.intro hA' (And.intro hmin (And.intro hfit hone)))
  clear hA' hmin hfit hone hpos hh hrow ho h hi hz0 hz1 hz2 hl hlow
  go_enter Try.func34, Try.ntmps34
  set_option maxRecDepth 4000 in
  go_wp2_with (refine wpList_copy_splice rfl _ _ 27 27 rfl 5 Try.underlying27 hsz _ _ _ _ _ _ rfl rfl w.heap.size 0 c0.toList 5 HA.out.1 (bs.map (Value.int .u8)) HA.out.2.1 HP.out HA.out.2.2.1 HA.out.2.2.2 w.heap.size w hB0 (Nat.le_refl _) ?_; intro w2 hw2 hB2)
  go_ret
  obtain ⟨hh, ⟨v, at2, hrow, ho⟩, hlow⟩ := hho.out.2
  refine ⟨w.heap.size, rfl, hbw, ⟨_, hw2.out, ?_⟩, ⟨(hB2.block pw hh.lt).trans hh, ⟨v, at2, (hB2.block pr hrow.lt).trans hrow, own_same (Nat.le_refl _) ho (fun k e => hB2.block k ?_)⟩, hlow⟩, ⟨hB2.mono hbw, fun b c t fr _ _ hA => (hB2.block b hA.lt).trans hA⟩⟩
  · unfold splice; simp [hc0]
  · rcases ho.2 with ⟨rfl, -⟩ | ⟨g, cap, cur, rfl, -, hg, -⟩
    · simp [Value.ownBlock] at e
    · simp [Value.ownBlock] at e; exact e ▸ (Array.getElem?_eq_some_iff.1 hg).1
end Go.Proofs.Ytmmkacfeocnblaa.Wr
