/- shelf: the contracts once more, over a shelf that is told by its list of keys and things and by the blocks that are its own. No conditions. -/
import Derived.Test.YtbjcamafaolgiaaShE
namespace Go.Proofs.Ytbjcamafaolgiaa.Sh
open Go.RowKit Go.Proofs.Ytbjcamafaolgiaa.Mem
set_option linter.unusedSimpArgs false
set_option linter.unusedVariables false

/-- The shelf at s holds L, the least lately used first; its blocks are among F. -/
def Held (w : World) (s : Nat) (F : Nat → Prop) (room : Int) (L : List (Int × V)) : Prop :=
  ∃ m ns es, Full w s m room ns es ∧ (∀ b, Foot s m ns b → F b) ∧ L = ns.map (fun n => (n.k, n.v))

/-- What belongs to a shelf behind a call that made memory. -/
def More (F : Nat → Prop) (w w' : World) (b : Nat) : Prop := F b ∨ (w.heap.size ≤ b ∧ b < w'.heap.size)

section
variable {w w' : World} {s : Nat} {F G : Nat → Prop} {room : Int} {L : List (Int × V)}
theorem Held.keeps {S : Nat → Prop} (h : Held w s F room L) (hk : Keeps S w w') (hS : ∀ b, F b → ¬ S b) : Held w' s F room L := by
  obtain ⟨m, ns, es, hf, hF, hL⟩ := h
  exact ⟨m, ns, es, hf.keeps hk (fun b hb => hS b (hF b hb)), hF, hL⟩
theorem Held.mono (h : Held w s F room L) (hFG : ∀ b, F b → G b) : Held w s G room L := by
  obtain ⟨m, ns, es, hf, hF, hL⟩ := h
  exact ⟨m, ns, es, hf, fun b hb => hFG b (hF b hb), hL⟩
theorem Held.mem (h : Held w s F room L) : F s := by
  obtain ⟨m, ns, es, hf, hF, hL⟩ := h; exact hF s (.inl rfl)
theorem Held.nodup (h : Held w s F room L) : (L.map (·.1)).Nodup := by
  obtain ⟨m, ns, es, hf, hF, rfl⟩ := h; rw [List.map_map]; exact hf.keys
end

/-- A list of a node row that is parted, parts the row. -/
theorem part_row {ns : List Node} {xs ys : List (Int × V)} {k : Int} {v : V} (h : xs ++ (k, v) :: ys = ns.map (fun n => (n.k, n.v))) :
    ∃ ps n bs, ns = ps ++ n :: bs ∧ xs = ps.map (fun n => (n.k, n.v)) ∧ n.k = k ∧ n.v = v ∧ ys = bs.map (fun n => (n.k, n.v)) := by
  obtain ⟨ps, r, rfl, h1, h2⟩ := List.map_eq_append_iff.1 h.symm
  obtain ⟨n, bs, rfl, h3, h4⟩ := List.map_eq_cons_iff.1 h2
  exact ⟨ps, n, bs, rfl, h1.symm, (Prod.mk.inj h3).1, (Prod.mk.inj h3).2, h4.symm⟩

theorem hget_yes (w : World) (s : Nat) (F : Nat → Prop) (room : Int) (xs ys : List (Int × V)) (k : Int) (v : V) (h : Held w s F room (xs ++ (k, v) :: ys)) :
    Calls Try.prog 21 #[.pointer (some ⟨s, 0, none⟩), .int .i64 k] w fun e w' => e = .returned (.tuple #[(Value.agg #[.int .i64 (v).1, .int .i64 (v).2.1, .int .i64 (v).2.2]), .bool true]) ∧ Held w' s F room (xs ++ ys ++ [(k, v)]) ∧ Keeps F w w' := by
  obtain ⟨m, ns, es, hf, hF, hL⟩ := h
  obtain ⟨ps, n, bs, rfl, rfl, rfl, rfl, rfl⟩ := part_row hL
  refine (get_yes w s m room ps bs es n hf).mono ?_
  rintro e w' ⟨rfl, hf', hk⟩
  refine ⟨rfl, ⟨m, ps ++ bs ++ [n], es, hf', fun b hb => hF b ?_, by simp⟩, hk.mono fun b _ hb => hF b ?_⟩
  · rcases hb with e | e | e
    · exact .inl e
    · exact .inr (.inl e)
    · refine .inr (.inr ?_)
      simp only [List.map_append, List.map_cons, List.map_nil, List.mem_append, List.mem_cons, List.not_mem_nil, or_false] at e ⊢
      rcases e with (e | e) | e <;> simp [e]
  · rcases hb with e | e
    · exact .inl e
    · exact .inr (.inr e)

theorem not_key {ns : List Node} {L : List (Int × V)} {k : Int} (hL : L = ns.map (fun n => (n.k, n.v))) (h : k ∉ L.map (·.1)) : k ∉ ns.map (·.k) := by
  rw [hL, List.map_map] at h; exact h

theorem hget_no (w : World) (s : Nat) (F : Nat → Prop) (room : Int) (L : List (Int × V)) (k : Int) (h : Held w s F room L) (hn : k ∉ L.map (·.1)) :
    Calls Try.prog 21 #[.pointer (some ⟨s, 0, none⟩), .int .i64 k] w fun e w' => e = .returned (.tuple #[(Value.agg #[.int .i64 0, .int .i64 0, .int .i64 0]), .bool false]) ∧ Keeps (fun _ => False) w w' := by
  obtain ⟨m, ns, es, hf, hF, hL⟩ := h
  exact get_no w s m room ns es k hf (not_key hL hn)

theorem hpeek_yes (w : World) (s : Nat) (F : Nat → Prop) (room : Int) (L : List (Int × V)) (k : Int) (v : V) (h : Held w s F room L) (hn : (k, v) ∈ L) :
    Calls Try.prog 35 #[.pointer (some ⟨s, 0, none⟩), .int .i64 k] w fun e w' => e = .returned (.tuple #[(Value.agg #[.int .i64 (v).1, .int .i64 (v).2.1, .int .i64 (v).2.2]), .bool true]) ∧ Keeps (fun _ => False) w w' := by
  obtain ⟨m, ns, es, hf, hF, hL⟩ := h
  rw [hL] at hn
  obtain ⟨n, hn', e⟩ := List.mem_map.1 hn
  obtain ⟨rfl, rfl⟩ := Prod.mk.inj e
  exact peek_yes w s m room ns es n hf hn'

theorem hpeek_no (w : World) (s : Nat) (F : Nat → Prop) (room : Int) (L : List (Int × V)) (k : Int) (h : Held w s F room L) (hn : k ∉ L.map (·.1)) :
    Calls Try.prog 35 #[.pointer (some ⟨s, 0, none⟩), .int .i64 k] w fun e w' => e = .returned (.tuple #[(Value.agg #[.int .i64 0, .int .i64 0, .int .i64 0]), .bool false]) ∧ Keeps (fun _ => False) w w' := by
  obtain ⟨m, ns, es, hf, hF, hL⟩ := h
  exact peek_no w s m room ns es k hf (not_key hL hn)

theorem hput_new (w : World) (s : Nat) (F : Nat → Prop) (room : Int) (L : List (Int × V)) (k : Int) (v : V) (h : Held w s F room L) (hn : k ∉ L.map (·.1)) (hl : (L.length : Int) ≠ room) :
    Calls Try.prog 19 #[.pointer (some ⟨s, 0, none⟩), .int .i64 k, (Value.agg #[.int .i64 (v).1, .int .i64 (v).2.1, .int .i64 (v).2.2])] w fun e w' => e = .returned (.tuple #[.int .i64 0, .bool false]) ∧ Held w' s (More F w w') room (L ++ [(k, v)]) ∧ Keeps F w w' := by
  obtain ⟨m, ns, es, hf, hF, hL⟩ := h
  refine (put_new w s m room ns es k v hf (not_key hL hn) (by rw [hL] at hl; simpa using hl)).mono ?_
  rintro e w' ⟨rfl, ⟨b, es', h1, h2, hf'⟩, hk⟩
  refine ⟨rfl, ⟨m, _, es', hf', fun i hi => ?_, by simp [hL]⟩, hk.mono fun i _ hi => hF i hi⟩
  rcases hi with e | e | e
  · exact .inl (hF i (.inl e))
  · exact .inl (hF i (.inr (.inl e)))
  · simp only [List.map_append, List.map_cons, List.map_nil, List.mem_append, List.mem_cons, List.not_mem_nil, or_false] at e
    rcases e with e | e
    · exact .inl (hF i (.inr (.inr e)))
    · exact .inr (by omega)

theorem hput_full (w : World) (s : Nat) (F : Nat → Prop) (room : Int) (x : Int × V) (L : List (Int × V)) (k : Int) (v : V) (h : Held w s F room (x :: L)) (hn : k ∉ (x :: L).map (·.1)) (hl : ((x :: L).length : Int) = room) :
    Calls Try.prog 19 #[.pointer (some ⟨s, 0, none⟩), .int .i64 k, (Value.agg #[.int .i64 (v).1, .int .i64 (v).2.1, .int .i64 (v).2.2])] w fun e w' => e = .returned (.tuple #[.int .i64 x.1, .bool true]) ∧ Held w' s (More F w w') room (L ++ [(k, v)]) ∧ Keeps F w w' := by
  obtain ⟨m, ns, es, hf, hF, hL⟩ := h
  obtain ⟨n0, ns, rfl, rfl, rfl⟩ := List.map_eq_cons_iff.1 hL.symm
  refine (put_full w s m room n0 ns es k v hf (not_key hL hn) (by simpa using hl)).mono ?_
  rintro e w' ⟨rfl, ⟨b, es', h1, h2, hf'⟩, hk⟩
  refine ⟨rfl, ⟨m, _, es', hf', fun i hi => ?_, by simp⟩, hk.mono fun i _ hi => hF i hi⟩
  rcases hi with e | e | e
  · exact .inl (hF i (.inl e))
  · exact .inl (hF i (.inr (.inl e)))
  · simp only [List.map_append, List.map_cons, List.map_nil, List.mem_append, List.mem_cons, List.not_mem_nil, or_false] at e
    rcases e with e | e
    · exact .inl (hF i (.inr (.inr (by simp [e]))))
    · exact .inr (by omega)

theorem hclear (w : World) (s : Nat) (F : Nat → Prop) (room : Int) (L : List (Int × V)) (h : Held w s F room L) :
    Calls Try.prog 30 #[.pointer (some ⟨s, 0, none⟩)] w fun e w' => e = .returned (.tuple #[]) ∧ Held w' s F room [] ∧ Keeps F w w' ∧ w'.heap.size = w.heap.size := by
  obtain ⟨m, ns, es, hf, hF, hL⟩ := h
  refine (clear_full w s m room ns es hf).mono ?_
  rintro e w' ⟨rfl, ⟨es', hf'⟩, hk, hz⟩
  refine ⟨rfl, ⟨m, [], es', hf', fun i hi => hF i ?_, rfl⟩, hk.mono fun i _ hi => hF i hi, hz⟩
  rcases hi with e | e | e
  · exact .inl e
  · exact .inr (.inl e)
  · simp at e

theorem hnew (w : World) (r : Int) (h1 : 1 ≤ r) (h2 : r ≤ 4096) :
    Calls Try.prog 17 #[.int .i64 r] w fun e w' => e = .returned (.tuple #[.pointer (some ⟨w.heap.size + 1, 0, none⟩), .int .i64 0]) ∧ Held w' (w.heap.size + 1) (fun b => b = w.heap.size ∨ b = w.heap.size + 1) r [] ∧
      Keeps (fun _ => False) w w' ∧ w'.heap.size = w.heap.size + 2 := by
  refine (snew w r h1 h2).mono ?_
  rintro e w' ⟨rfl, hf, hk, hz⟩
  refine ⟨rfl, ⟨_, [], [], hf, fun i hi => ?_, rfl⟩, hk, hz⟩
  rcases hi with e | e | e
  · exact .inr e
  · exact .inl e
  · simp at e
end Go.Proofs.Ytbjcamafaolgiaa.Sh
