/- cache: lists of lists of the call's own, and copied. No conditions but on lengths. -/
import Derived.Test.YtigaldgbkeoilaaCaG
namespace Go.Proofs.Ytigaldgbkeoilaa.Ca
open Go.RowKit Go.Proofs.Ytigaldgbkeoilaa.Mem Go.Proofs.Ytigaldgbkeoilaa.Sh Go.Proofs.Ytigaldgbkeoilaa.Rng
set_option linter.unusedSimpArgs false
set_option linter.unusedVariables false

/-- A list of lists in memory from base on, each list its own. -/
structure Owned (base : Nat) (w : World) (v : Value) (xs : List (List Int)) (rows : List Value) : Prop where
  outer : w.ownsRow base 67 1 v xs.length rows
  len : rows.length = xs.length
  row : ∀ (i : Nat) (r : Value) (x : List Int), rows[i]? = some r → xs[i]? = some x → w.ownsRow base 3 1 r x.length (x.map (Value.int .i64))
  apart : ∀ (i j : Nat) (r s : Value) (k : Nat), i ≠ j → rows[i]? = some r → rows[j]? = some s → r.ownBlock = some k → s.ownBlock ≠ some k

theorem infoSli : (Try.prog.info? 67).map (fun i => (i.zero, i.size, i.bytes)) = some (some (.slice none 0 0), 1, 24) := by kernel_rfl

theorem Owned.nil (base : Nat) (w : World) : Owned base w (.slice none 0 0) [] [] :=
  ⟨World.ownsRow_nil _ _ _ _, rfl, fun i r x h => by simp at h, fun i j r s k _ h => by simp at h⟩

theorem Owned.off {base : Nat} {w : World} {v : Value} {xs : List (List Int)} {rows : List Value} (h : Owned base w v xs rows) {i : Nat} {r : Value} (hr : rows[i]? = some r) :
    ∃ x, xs[i]? = some x ∧ w.ownsRow base 3 1 r x.length (x.map (Value.int .i64)) := by
  have hi := (List.getElem?_eq_some_iff.1 hr).1
  rw [h.len] at hi
  exact ⟨_, List.getElem?_eq_getElem hi, h.row i r _ hr (List.getElem?_eq_getElem hi)⟩

theorem Owned.same {base base' : Nat} {w w' : World} {v : Value} {xs : List (List Int)} {rows : List Value} (hb : base' ≤ base) (h : Owned base w v xs rows) (hk : ∀ k, base ≤ k → k < w.heap.size → w'.heap[k]? = w.heap[k]?) : Owned base' w' v xs rows :=
  ⟨own_same hb h.outer (fun k e => hk k (own_base h.outer k e) (own_lt h.outer k e)), h.len,
    fun i r x hr hx => own_same hb (h.row i r x hr hx) (fun k e => hk k (own_base (h.row i r x hr hx) k e) (own_lt (h.row i r x hr hx) k e)), h.apart⟩

theorem Owned.lists {base : Nat} {w : World} {v : Value} {xs : List (List Int)} {rows : List Value} (h : Owned base w v xs rows) (hl : xs.length ≤ 9223372036854775807) (hl2 : ∀ x ∈ xs, x.length ≤ 9223372036854775807) :
    ListsAt w (fun b => base ≤ b ∧ b < w.heap.size) v xs := by
  obtain ⟨a, cap, rfl⟩ := own_slice h.outer
  refine ⟨a, cap, rfl, hl, fun i x hi => ?_⟩
  have hi' : i < rows.length := by rw [h.len]; exact (List.getElem?_eq_some_iff.1 hi).1
  obtain ⟨g, rfl, hc⟩ := own_cell h.outer (j := i) (u := rows[i]) (List.getElem?_eq_getElem hi')
  exact ⟨g, 0, rows[i], rfl, ⟨own_base h.outer g rfl, own_lt h.outer g rfl⟩, by simpa using hc, ints_of_row (h.row i _ x (List.getElem?_eq_getElem hi') hi) (hl2 x (List.mem_of_getElem? hi))⟩

/-- One list more. -/
theorem Owned.snoc {base : Nat} {wr wo w' : World} {v v' r : Value} {xs : List (List Int)} {x : List Int} {rows : List Value} {X : Obj} (h : Owned base wo v xs rows) (hB : Below wo.heap.size wo wr) (hbase : base ≤ wo.heap.size)
    (hr : wr.ownsRow wo.heap.size 3 1 r x.length (x.map (Value.int .i64))) (ho : w'.ownsRow base 67 1 v' (xs.length + 1) (rows ++ [r])) (hg : (wr.alloc X).grownBy w' v.ownBlock) :
    Owned base w' v' (xs ++ [x]) (rows ++ [r]) := by
  have hz := hB.size
  have hold : Owned base wr v xs rows := h.same (Nat.le_refl _) (fun k _ hk => hB.block k hk)
  have keep : ∀ (e n : Nat) (u : Value) (us : List Value), wr.ownsRow base e 1 u n us → e ≠ 67 → w'.ownsRow base e 1 u n us := fun e n u us hu he =>
    (hu.alloc X).kept hg (rows_ne (hu.alloc X) (hold.outer.alloc X) he)
  have hr' : wr.ownsRow base 3 1 r x.length (x.map (Value.int .i64)) := own_same hbase hr (fun _ _ => rfl)
  have hlr : ∀ i s, (rows ++ [r])[i]? = some s → (i < rows.length ∧ rows[i]? = some s) ∨ (i = rows.length ∧ s = r) := by
    intro i s hi
    by_cases e : i < rows.length
    · exact .inl ⟨e, by rwa [List.getElem?_append_left e] at hi⟩
    · rw [List.getElem?_append_right (by omega)] at hi
      have : i - rows.length < 1 := by have := (List.getElem?_eq_some_iff.1 hi).1; simpa using this
      have e2 : i = rows.length := by omega
      subst e2; simp at hi; exact .inr ⟨rfl, hi.symm⟩
  refine ⟨by simpa using ho, by simp [h.len], fun i s y hs hy => ?_, fun i j s t k hij hs ht hk => ?_⟩
  · rcases hlr i s hs with ⟨hi, hs⟩ | ⟨rfl, rfl⟩
    · rw [List.getElem?_append_left (by rw [← h.len]; exact hi)] at hy
      exact keep _ _ _ _ (hold.row i s y hs hy) (by decide)
    · rw [h.len] at hy; simp at hy; subst hy
      exact keep _ _ _ _ hr' (by decide)
  · rcases hlr i s hs with ⟨hi, hs1⟩ | ⟨e1, e2⟩ <;> rcases hlr j t ht with ⟨hj, ht1⟩ | ⟨e3, e4⟩
    · exact h.apart i j s t k hij hs1 ht1 hk
    · obtain ⟨y, -, hy⟩ := h.off hs1
      have := own_lt hy k hk
      intro e; have := own_base hr k (e4 ▸ e); omega
    · obtain ⟨y, -, hy⟩ := h.off ht1
      have := own_base hr k (e2 ▸ hk)
      intro e; have := own_lt hy k e; omega
    · exact absurd (e1.trans e3.symm) hij

def OwnedPost (w : World) (xs : List (List Int)) (e : Ending) (w' : World) : Prop := ∃ v rows, e = .returned v ∧ Owned w.heap.size w' v xs rows ∧ Keeps (fun _ => False) w w'

set_option maxHeartbeats 1000000 in
theorem copied_calls (w : World) (A : Nat → Prop) (v : Value) (xs : List (List Int)) (h : ListsAt w A v xs) (hl : xs.length ≤ 2147483647) (hl2 : ∀ x ∈ xs, x.length ≤ 2147483647) :
    Calls Try.prog 17 #[v] w (OwnedPost w xs) := by
  obtain ⟨i0, hi, hz0, hz1, hz2⟩ := info_parts infoInt
  obtain ⟨i1, gi, gz0, gz1, gz2⟩ := info_parts infoSli
  obtain ⟨a, cap, rfl, -, hc⟩ := id h
  go_enter Try.func17, Try.ntmps17
  go_wp2
  go_loopg [3, 9] xs.length (fun g out i wr => ∃ (k : Nat) (rows : List Value), g = xs.length - k ∧ k ≤ xs.length ∧ i = .int .i64 k ∧ Owned w.heap.size wr out (xs.take k) rows ∧ Keeps (fun _ => False) w wr)
  case atStart => exact ⟨0, [], rfl, by omega, rfl, by rw [List.take_zero]; exact Owned.nil _ _, Keeps.refl _ _⟩
  case round =>
    obtain ⟨k, rows, rfl, hk, rfl, hO, hK⟩ := hrel
    by_cases hlt : k < xs.length
    · obtain ⟨wo, rfl⟩ : ∃ wo : World, wo = wr := ⟨_, rfl⟩
      obtain ⟨x, hx⟩ : ∃ x, xs[k]? = some x := ⟨_, List.getElem?_eq_getElem hlt⟩
      obtain ⟨b, off, r, rfl, hAb, q, hr⟩ := hc k x hx
      obtain ⟨s, cp, rfl, ⟨hxl, -⟩, hcx⟩ := id hr
      have qo := cell_keeps hK q (fun x => x)
      have hx2 := hl2 x (List.mem_of_getElem? hx)
      have hb1 : (k : Int) < (xs.length : Int) := by omega
      go_wp2
      clear qo
      go_loopg [5, 17] x.length (fun g row j wr => ∃ m : Nat, g = x.length - m ∧ m ≤ x.length ∧ j = .int .i64 m ∧ wr.ownsRow wo.heap.size 3 1 row m ((x.take m).map (Value.int .i64)) ∧ Below wo.heap.size wo wr)
      case atStart => exact ⟨0, rfl, by omega, rfl, World.ownsRow_nil _ _ _ _, Below.refl _ _⟩
      case round =>
        obtain ⟨m, rfl, hm, rfl, hrow, hB⟩ := hrel
        have hKr : Keeps (fun _ => False) w wr := hK.trans (Keeps.of_below hB) (fun i hi x => by have := hK.size; omega)
        by_cases hlm : m < x.length
        · obtain ⟨y, hy⟩ : ∃ y, x[m]? = some y := ⟨_, List.getElem?_eq_getElem hlm⟩
          obtain ⟨b2, o2, rfl, hA2, q2⟩ := hcx m y hy
          have q3 := cell_keeps hKr q (fun x => x)
          have q4 := cell_keeps hKr q2 (fun x => x)
          have hm1 : (m : Int) < (x.length : Int) := by omega
          have c3 : m + 1 ≤ maxLen := by unfold maxLen; omega
          have c4 : (m + 1) * 8 ≤ 140737488355328 := by omega
          have c5 : ∀ X, wo.heap.size ≤ (wr.alloc X).heap.size := fun X => by rw [size_alloc]; have := hB.size; omega
          clear q q2
          go_wp2_with (at_builtin; refine wpList_append_own _ rfl _ _ 67 rfl wo.heap.size 3 i0 (.int .i64 0) 1 8 Try.underlying67 hi hz0 hz1 hz2 rfl (by decide) u5 _ _ rfl (hrow.alloc _) ⟨wr.heap.size, 0, none⟩ 1 1 [.int .i64 y] rfl rfl (cell_one_new _ _ _) (by simp [Value.oneCell']) c3 c4 (c5 _) ?_; intro v1 w1 ho1 hg1 _; have hB1 := (hB.alloc hB.size (.cells #[.int .i64 y] 3)).grown hg1 (by rw [size_alloc]; have := hB.size; omega) (fun k e => own_base hrow k e); clear hrow hB)
          go_roundg (x.length - (m + 1))
          case measure => omega
          case rel => exact ⟨m + 1, rfl, by omega, rfl, by rw [List.take_add_one, hy]; simpa using ho1, hB1⟩
        · have hno : ¬ (m : Int) < (x.length : Int) := by omega
          have hmm : m = x.length := by omega
          subst hmm
          rw [List.take_length] at hrow
          have hz := hB.size
          have hz0' := hK.size
          have c3 : (xs.take k).length + 1 ≤ maxLen := by unfold maxLen; simp; omega
          have c4 : ((xs.take k).length + 1) * 24 ≤ 140737488355328 := by simp; omega
          have c5 : ∀ X, w.heap.size ≤ (wr.alloc X).heap.size := fun X => by rw [size_alloc]; omega
          have hOr := hO.same (w' := wr) (Nat.le_refl _) (fun k _ hk => hB.block k hk)
          have hOO := Lib.hid hO
          clear hO
          obtain ⟨ra, rc, rfl⟩ := own_slice hrow
          go_wp2_with (at_builtin; refine wpList_append_own _ rfl _ _ 35 rfl w.heap.size 67 i1 (.slice none 0 0) 1 24 Try.underlying35 gi gz0 gz1 gz2 rfl (by decide) u3 _ _ rfl (hOr.outer.alloc _) ⟨wr.heap.size, 0, none⟩ 1 1 [.slice ra x.length rc] rfl rfl (cell_one_new _ _ _) (by simp [Value.oneCell']) c3 c4 (c5 _) ?_; intro v1 w1 ho1 hg1 _; have hO1 := hOO.out.snoc hB hz0' hrow ho1 hg1; have hK1 : Keeps (fun _ => False) w w1 := ((hKr.alloc _).trans (Keeps.of_grownBy hg1) (fun i hi e => by have := own_base hOr.outer i e.symm; omega)); clear hrow hB hOr hg1 ho1)
          go_roundg (xs.length - (k + 1))
          case measure => omega
          case rel => exact ⟨k + 1, _, rfl, by omega, rfl, by rw [List.take_add_one, hx]; exact hO1, hK1⟩
    · have hno : ¬ (k : Int) < (xs.length : Int) := by omega
      have hkk : k = xs.length := by omega
      subst hkk
      rw [List.take_length] at hO
      go_wp2
      go_ret
      exact ⟨_, _, rfl, hO, hK⟩
end Go.Proofs.Ytigaldgbkeoilaa.Ca
