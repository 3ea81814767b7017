/- tlb: what a TLB holds; New, mayBe, Flush, and all of a nil one. No conditions. -/
import Derived.Test.YtbjcamafaolgiaaShV
namespace Go.Proofs.Ytbjcamafaolgiaa.Tl
open Go.RowKit Go.Proofs.Ytbjcamafaolgiaa.Mem Go.Proofs.Ytbjcamafaolgiaa.Sh
set_option linter.unusedSimpArgs false
set_option linter.unusedVariables false

abbrev leafV (v : V) : Value := .agg #[.int .i64 v.1, .int .i64 v.2.1, .int .i64 v.2.2]
def fine (v : V) : Bool := decide (0 ≤ v.1) && decide (v.1 < 256) && decide (0 ≤ v.2.1) && decide (v.2.1 < 1024) && decide (0 ≤ v.2.2) && decide (v.2.2 ≤ 7)

/-- The TLB at t holds L (pages and leaves, the least lately used first); its blocks are among F. -/
def TlbIs (w : World) (t : Nat) (F : Nat → Prop) (L : List (Int × V)) : Prop :=
  ∃ s G, At w t (.cells #[.pointer (some ⟨s, 0, none⟩)] 52 (0, 0)) ∧ Held w s G 4 L ∧ L.length ≤ 4 ∧ ¬ G t ∧ F t ∧ (∀ b, G b → F b) ∧ (∀ b, F b → b < w.heap.size)

set_option maxHeartbeats 2000000 in
theorem maybe_calls (w : World) (v : V) : Calls Try.prog 18 #[leafV v] w fun e w' => e = .returned (.bool (fine v)) ∧ Keeps (fun _ => False) w w' := by
  unfold fine
  by_cases h1 : 0 ≤ v.1
  case neg =>
    have b1 : decide (0 ≤ v.1) = false := decide_eq_false h1
    clear h1
    go_enter Try.func18, Try.ntmps18
    go_wp2
    go_ret
    refine ⟨?_, (Keeps.refl _ _).alloc _⟩
    simp [b1]
  by_cases h2 : v.1 < 256
  case neg =>
    have b1 : decide (0 ≤ v.1) = true := decide_eq_true h1
    have b2 : decide (v.1 < 256) = false := decide_eq_false h2
    clear h1 h2
    go_enter Try.func18, Try.ntmps18
    go_wp2
    go_ret
    refine ⟨?_, (Keeps.refl _ _).alloc _⟩
    simp [b1, b2]
  by_cases h3 : 0 ≤ v.2.1
  case neg =>
    have b1 : decide (0 ≤ v.1) = true := decide_eq_true h1
    have b2 : decide (v.1 < 256) = true := decide_eq_true h2
    have b3 : decide (0 ≤ v.2.1) = false := decide_eq_false h3
    clear h1 h2 h3
    go_enter Try.func18, Try.ntmps18
    go_wp2
    go_ret
    refine ⟨?_, (Keeps.refl _ _).alloc _⟩
    simp [b1, b2, b3]
  by_cases h4 : v.2.1 < 1024
  case neg =>
    have b1 : decide (0 ≤ v.1) = true := decide_eq_true h1
    have b2 : decide (v.1 < 256) = true := decide_eq_true h2
    have b3 : decide (0 ≤ v.2.1) = true := decide_eq_true h3
    have b4 : decide (v.2.1 < 1024) = false := decide_eq_false h4
    clear h1 h2 h3 h4
    go_enter Try.func18, Try.ntmps18
    go_wp2
    go_ret
    refine ⟨?_, (Keeps.refl _ _).alloc _⟩
    simp [b1, b2, b3, b4]
  by_cases h5 : 0 ≤ v.2.2
  case neg =>
    have b1 : decide (0 ≤ v.1) = true := decide_eq_true h1
    have b2 : decide (v.1 < 256) = true := decide_eq_true h2
    have b3 : decide (0 ≤ v.2.1) = true := decide_eq_true h3
    have b4 : decide (v.2.1 < 1024) = true := decide_eq_true h4
    have b5 : decide (0 ≤ v.2.2) = false := decide_eq_false h5
    clear h1 h2 h3 h4 h5
    go_enter Try.func18, Try.ntmps18
    go_wp2
    go_ret
    refine ⟨?_, (Keeps.refl _ _).alloc _⟩
    simp [b1, b2, b3, b4, b5]
  by_cases h6 : v.2.2 ≤ 7
  case neg =>
    have b1 : decide (0 ≤ v.1) = true := decide_eq_true h1
    have b2 : decide (v.1 < 256) = true := decide_eq_true h2
    have b3 : decide (0 ≤ v.2.1) = true := decide_eq_true h3
    have b4 : decide (v.2.1 < 1024) = true := decide_eq_true h4
    have b5 : decide (0 ≤ v.2.2) = true := decide_eq_true h5
    have b6 : decide (v.2.2 ≤ 7) = false := decide_eq_false h6
    clear h1 h2 h3 h4 h5 h6
    go_enter Try.func18, Try.ntmps18
    go_wp2
    go_ret
    refine ⟨?_, (Keeps.refl _ _).alloc _⟩
    simp [b1, b2, b3, b4, b5, b6]
  have b1 : decide (0 ≤ v.1) = true := decide_eq_true h1
  have b2 : decide (v.1 < 256) = true := decide_eq_true h2
  have b3 : decide (0 ≤ v.2.1) = true := decide_eq_true h3
  have b4 : decide (v.2.1 < 1024) = true := decide_eq_true h4
  have b5 : decide (0 ≤ v.2.2) = true := decide_eq_true h5
  have b6 : decide (v.2.2 ≤ 7) = true := decide_eq_true h6
  clear h1 h2 h3 h4 h5 h6
  go_enter Try.func18, Try.ntmps18
  go_wp2
  go_ret
  refine ⟨?_, (Keeps.refl _ _).alloc _⟩
  simp [b1, b2, b3, b4, b5, b6]

theorem hput_old (w : World) (s : Nat) (F : Nat → Prop) (room : Int) (xs ys : List (Int × V)) (k : Int) (v0 v : V) (h : Held w s F room (xs ++ (k, v0) :: ys)) :
    Calls Try.prog 19 #[.pointer (some ⟨s, 0, none⟩), .int .i64 k, leafV v] w fun e w' => e = .returned (.tuple #[.int .i64 0, .bool false]) ∧ Held w' s F room (xs ++ ys ++ [(k, v)]) ∧ Keeps F w w' := by
  obtain ⟨m, ns, es, hf, hF, hL⟩ := h
  obtain ⟨ps, n, bs, rfl, rfl, rfl, rfl, rfl⟩ := part_row hL
  refine (put_old w s m room ps bs n es v hf).mono ?_
  rintro e w' ⟨rfl, hf', hk⟩
  refine ⟨rfl, ⟨m, ps ++ bs ++ [⟨n.b, n.k, v⟩], es, hf', fun b hb => hF b ?_, by simp⟩, hk.mono fun b _ hb => hF b ?_⟩
  · rcases hb with e | e | e
    · exact .inl e
    · exact .inr (.inl e)
    · refine .inr (.inr ?_)
      simp only [List.map_append, List.map_cons, List.map_nil, List.mem_append, List.mem_cons, List.not_mem_nil, or_false] at e ⊢
      rcases e with (e | e) | e <;> simp [e]
  · rcases hb with e | e
    · exact .inl e
    · exact .inr (.inr e)

/-- What is held behind a put. -/
def laidOn (L : List (Int × V)) (k : Int) (v : V) : List (Int × V) := if k ∈ L.map (·.1) then L.filter (fun x => x.1 ≠ k) ++ [(k, v)] else if L.length = 4 then L.tail ++ [(k, v)] else L ++ [(k, v)]

theorem filter_part {xs ys : List (Int × V)} {k : Int} {v : V} (h : ((xs ++ (k, v) :: ys).map (·.1)).Nodup) : (xs ++ (k, v) :: ys).filter (fun x => x.1 ≠ k) = xs ++ ys := by
  rw [List.map_append, List.map_cons] at h
  have h1 : ∀ x ∈ xs, x.1 ≠ k := fun x hx e => (List.nodup_append.1 h).2.2 x.1 (List.mem_map.2 ⟨x, hx, rfl⟩) k (by simp) e
  have h2 : ∀ x ∈ ys, x.1 ≠ k := fun x hx e => (List.nodup_cons.1 (List.nodup_append.1 h).2.1).1 (by rw [← e]; exact List.mem_map.2 ⟨x, hx, rfl⟩)
  rw [List.filter_append, List.filter_cons_of_neg (by simp), List.filter_eq_self.2 (fun x hx => by simpa using h1 x hx), List.filter_eq_self.2 (fun x hx => by simpa using h2 x hx)]

theorem hput_any (w : World) (s : Nat) (F : Nat → Prop) (L : List (Int × V)) (k : Int) (v : V) (h : Held w s F 4 L) (hl : L.length ≤ 4) :
    Calls Try.prog 19 #[.pointer (some ⟨s, 0, none⟩), .int .i64 k, leafV v] w fun e w' => (∃ x y, e = .returned (.tuple #[x, y])) ∧ Held w' s (More F w w') 4 (laidOn L k v) ∧ (laidOn L k v).length ≤ 4 ∧ Keeps F w w' := by
  unfold laidOn
  by_cases hin : k ∈ L.map (·.1)
  · rw [if_pos hin]
    obtain ⟨⟨k', v0⟩, hx, rfl⟩ := List.mem_map.1 hin
    obtain ⟨xs, ys, rfl⟩ := List.append_of_mem hx
    rw [filter_part h.nodup]
    refine (hput_old w s F 4 xs ys _ v0 v h).mono ?_
    rintro e w' ⟨rfl, hh, hk⟩
    refine ⟨⟨_, _, rfl⟩, hh.mono (fun b hb => .inl hb), ?_, hk⟩
    simp at hl ⊢; omega
  · rw [if_neg hin]
    by_cases h4 : L.length = 4
    · rw [if_pos h4]
      obtain ⟨x, L, rfl⟩ : ∃ x L', L = x :: L' := by cases L with | nil => simp at h4 | cons x L => exact ⟨x, L, rfl⟩
      refine (hput_full w s F 4 x L k v h hin (by simp at h4 ⊢; omega)).mono ?_
      rintro e w' ⟨rfl, hh, hk⟩
      exact ⟨⟨_, _, rfl⟩, hh, by simp at h4 ⊢; omega, hk⟩
    · rw [if_neg h4]
      refine (hput_new w s F 4 L k v h hin (by omega)).mono ?_
      rintro e w' ⟨rfl, hh, hk⟩
      exact ⟨⟨_, _, rfl⟩, hh, by simp; omega, hk⟩

theorem tnew (w : World) : Calls Try.prog 7 #[] w fun e w' => ∃ t, e = .returned (.pointer (some ⟨t, 0, none⟩)) ∧ TlbIs w' t (fun b => w.heap.size ≤ b ∧ b < w'.heap.size) [] ∧ Keeps (fun _ => False) w w' := by
  go_enter Try.func7, Try.ntmps7
  go_wp2_with fail
  refine (hnew w 4 (by omega) (by omega)).mono ?_
  rintro e w1 ⟨rfl, hh, hk, hz⟩
  have HZ := Lib.hid hz
  clear hz
  go_wp2
  go_ret
  have hz := HZ.out
  have hk' : Keeps (fun _ => False) w1 (w1.alloc (.cells #[.pointer (some ⟨w.heap.size + 1, 0, none⟩)] 52)) := (Keeps.refl _ _).alloc _
  refine ⟨w1.heap.size, rfl, ⟨_, _, At.new w1 _, hh.keeps hk' (fun _ _ => id), by simp, by omega, ⟨by omega, by rw [size_alloc]; omega⟩, fun b hb => ?_, fun b hb => hb.2⟩, hk.trans hk' (fun _ _ x => x)⟩
  rw [size_alloc]; omega
end Go.Proofs.Ytbjcamafaolgiaa.Tl
