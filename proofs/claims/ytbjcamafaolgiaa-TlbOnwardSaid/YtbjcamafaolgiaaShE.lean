/- shelf: Put, Clear and New, each walked once: what they answer and which list is held then. No conditions. -/
import Derived.Test.YtbjcamafaolgiaaShD
namespace Go.Proofs.Ytbjcamafaolgiaa.Sh
open Go.RowKit Go.Proofs.Ytbjcamafaolgiaa.Mem
set_option linter.unusedSimpArgs false
set_option linter.unusedVariables false

theorem Full.laid {w1 w2 : World} {s m : Nat} {room : Int} {ns : List Node} {es : List (Int × Value)} (h1 : Full w1 s m room ns es) (nd : Node) (hb : nd.b = w1.heap.size)
    (hk2 : Keeps (· = m) (w1.alloc (nodeObj nd none none)) w2) : Raw w2 s m room ns ∧ At w2 nd.b (nodeObj nd none none) ∧ (s :: (ns ++ [nd]).map (·.b)).Nodup := by
  have hma : ∀ b, b ∈ s :: ns.map (·.b) → b ≠ m := fun b hb e => h1.apart (e ▸ hb)
  have ha := (h1.alloc (nodeObj nd none none)).raw
  have hml := h1.map.lt
  refine ⟨ha.frame (hk2.block s ha.head.lt (hma s (by simp))) (fun z hz => hk2.block z.b (ha.chain.lt z hz) (hma z.b (List.mem_cons_of_mem _ (List.mem_map.2 ⟨z, hz, rfl⟩)))), ?_, ?_⟩
  · rw [hb]; exact hk2.get (At.new w1 _) (by omega)
  · have hd := h1.raw.nodup
    simp only [List.map_append, List.map_cons, List.map_nil, List.nodup_cons, List.nodup_append, List.mem_append, List.mem_cons, List.not_mem_nil, or_false] at hd ⊢
    refine ⟨fun x => ?_, hd.2, ⟨fun x => x, List.nodup_nil⟩, fun a ha' b hb' => ?_⟩
    · rcases x with x | x
      · exact hd.1 x
      · have := h1.raw.head.lt; omega
    · have := h1.lt (.inr (.inr ha')); omega

theorem Full.added {w1 w3 : World} {s m : Nat} {room : Int} {ns : List Node} {es : List (Int × Value)} (h1 : Full w1 s m room ns es) (nd : Node) (hb : nd.b = w1.heap.size) (hn : nd.k ∉ ns.map (·.k))
    (hr : Raw w3 s m room (ns ++ [nd])) (hm : MapIs w3 m (es ++ [(nd.k, np (some nd.b))])) : Full w3 s m room (ns ++ [nd]) (es ++ [(nd.k, np (some nd.b))]) := by
  refine ⟨hr, hm, ?_, ?_, ?_⟩
  · rw [List.map_append]; exact h1.perm.append_right _
  · rw [List.map_append, List.nodup_append]
    refine ⟨h1.keys, by simp, fun a ha b hb' e => ?_⟩
    simp only [List.map_cons, List.map_nil, List.mem_cons, List.not_mem_nil, or_false] at hb'
    exact hn (by rw [← hb', ← e]; exact ha)
  · intro x
    have := h1.map.lt
    simp only [List.map_append, List.map_cons, List.map_nil, List.mem_append, List.mem_cons, List.not_mem_nil, or_false] at x
    rcases x with x | x | x
    · exact h1.apart (by simp [x])
    · exact h1.apart (List.mem_cons_of_mem _ x)
    · omega

theorem put_new (w : World) (s m : Nat) (room : Int) (ns : List Node) (es : List (Int × Value)) (k : Int) (v : V) (h : Full w s m room ns es) (hn : k ∉ ns.map (·.k)) (hl : (ns.length : Int) ≠ room) :
    Calls Try.prog 19 #[.pointer (some ⟨s, 0, none⟩), .int .i64 k, (Value.agg #[.int .i64 (v).1, .int .i64 (v).2.1, .int .i64 (v).2.2])] w fun e w' => e = .returned (.tuple #[.int .i64 0, .bool false]) ∧
      (∃ b es', w.heap.size ≤ b ∧ b < w'.heap.size ∧ Full w' s m room (ns ++ [⟨b, k, v⟩]) es') ∧ Keeps (fun b => b = s ∨ b = m ∨ b ∈ ns.map (·.b)) w w' := by
  have hlen : es.length = ns.length := by have := h.perm.length_eq; simpa using this
  have hm : ∀ A, (w.alloc A).cell? ⟨s, 1, none⟩ = some (.map (some m)) := old_cell1 h.raw.head rfl
  have hr : ∀ A, (w.alloc A).cell? ⟨s, 0, none⟩ = some (.int .i64 room) := old_cell1 h.raw.head rfl
  have hk : ∀ A, (Instr.lookup 59 (.map (some m)) (.int .i64 k) true).run Try.prog (w.alloc A) = .ok (.tuple #[.pointer none, .bool false]) (w.alloc A) :=
    fun A => (h.map.alloc A).run_lookup_none Try.underlying59 Try.underlying3 (zeroThing _) k (h.not_mem hn) true
  have hle : ∀ A n ty, (Builtin.len_ #[59] ty #[.map (some m)]).run Try.prog ((w.alloc A).drewN n) = .ok (.int .i64 (ns.length : Int)) ((w.alloc A).drewN n) := by
    intro A n ty
    rw [← hlen]
    exact MapIs.run_len (w := (w.alloc A).drewN n) (h.map.alloc A) Try.underlying59 ty
  have hneB : ((ns.length : Int) == room) = false := by simpa using hl
  go_enter Try.func19, Try.ntmps19
  go_wp2
  go_quiet (fail)
  obtain ⟨w1, hw1⟩ : ∃ w1, World.drewN (w.alloc (.cells #[.int .i64 (v).1, .int .i64 (v).2.1, .int .i64 (v).2.2] 26)) nq = w1 := ⟨_, rfl⟩
  have hk1 : Keeps (fun _ => False) w w1 := by rw [← hw1]; exact ((Keeps.refl _ w).alloc _).drewN _
  have hz1 : w1.heap.size = w.heap.size + 1 := by rw [← hw1]; exact size_alloc _ _
  have hv0 : At w1 w.heap.size (.cells #[.int .i64 (v).1, .int .i64 (v).2.1, .int .i64 (v).2.2] 26 (0, 0)) := by rw [← hw1]; exact At.new w _
  have hv1 : w1.cell? ⟨w.heap.size, 0, none⟩ = some (.int .i64 v.1) := hv0.cell rfl
  have hv2 : w1.cell? ⟨w.heap.size, 1, none⟩ = some (.int .i64 v.2.1) := hv0.cell rfl
  have hv3 : w1.cell? ⟨w.heap.size, 2, none⟩ = some (.int .i64 v.2.2) := hv0.cell rfl
  rw [hw1]
  clear hm hr hk hle hw1
  have h1 : Full w1 s m room ns es := h.keeps hk1 (fun _ _ => id)
  have hm : ∀ A, (w1.alloc A).cell? ⟨s, 1, none⟩ = some (.map (some m)) := old_cell1 h1.raw.head rfl
  go_wp2_with (at_mapUpdate; refine wpList_mapUpdate_new rfl _ _ _ rfl Try.underlying59 Try.underlying3 rfl k rfl (np (some (w.heap.size + 1))) rfl (h1.map.alloc _) (h1.not_mem hn) ?_; intro w2 hm2 hk2 hz2)
  obtain ⟨hr2, hn2, hd2⟩ := h1.laid ⟨w.heap.size + 1, k, v⟩ hz1.symm hk2
  have hz2' : w2.heap.size = w.heap.size + 2 := by rw [hz2, size_alloc, hz1]
  refine (append_full _ s m room ns ⟨w.heap.size + 1, k, v⟩ hr2 hn2 hd2).mono ?_
  rintro e w3 ⟨rfl, hr3, hk3, hz3⟩
  have hm3 : MapIs w3 m (es ++ [(k, np (some (w.heap.size + 1)))]) := hm2.of_heap (hk3.block m hm2.lt (fun x => by
    have := h1.map.lt
    simp only [List.map_append, List.map_cons, List.map_nil, List.mem_append, List.mem_cons, List.not_mem_nil, or_false] at x
    rcases x with x | x | x
    · exact h1.apart (by simp [x])
    · exact h1.apart (List.mem_cons_of_mem _ x)
    · have := h.map.lt; omega))
  have hf : Full w3 s m room (ns ++ [⟨w.heap.size + 1, k, v⟩]) (es ++ [(k, np (some (w.heap.size + 1)))]) := h1.added ⟨w.heap.size + 1, k, v⟩ hz1.symm hn hr3 hm3
  have hk : Keeps (fun b => b = s ∨ b = m ∨ b ∈ ns.map (·.b)) w w3 := by
    refine (((hk1.mono (fun _ _ x => x.elim)).alloc _).trans hk2 (fun _ _ x => .inr (.inl x))).trans hk3 (fun i hi x => ?_)
    simp only [List.map_append, List.map_cons, List.map_nil, List.mem_append, List.mem_cons, List.not_mem_nil, or_false] at x ⊢
    rcases x with x | x | x
    · exact .inl x
    · exact .inr (.inr x)
    · omega
  have hz : w3.heap.size = w.heap.size + 2 := by rw [hz3, hz2']
  clear hr2 hn2 hd2 hz2 hz2' hk2 hk3 hz3 hm2 hr3 hm3 hm h1 hz1 hk1
  go_wp2
  go_ret2
  exact ⟨rfl, ⟨_, _, by omega, by omega, hf⟩, hk⟩

theorem put_full (w : World) (s m : Nat) (room : Int) (n0 : Node) (ns : List Node) (es : List (Int × Value)) (k : Int) (v : V) (h : Full w s m room (n0 :: ns) es) (hn : k ∉ (n0 :: ns).map (·.k)) (hl : ((n0 :: ns).length : Int) = room) :
    Calls Try.prog 19 #[.pointer (some ⟨s, 0, none⟩), .int .i64 k, (Value.agg #[.int .i64 (v).1, .int .i64 (v).2.1, .int .i64 (v).2.2])] w fun e w' => e = .returned (.tuple #[.int .i64 n0.k, .bool true]) ∧
      (∃ b es', w.heap.size ≤ b ∧ b < w'.heap.size ∧ Full w' s m room (ns ++ [⟨b, k, v⟩]) es') ∧ Keeps (fun b => b = s ∨ b = m ∨ b ∈ (n0 :: ns).map (·.b)) w w' := by
  have hlen : es.length = (n0 :: ns).length := by have := h.perm.length_eq; simpa using this
  have hm : ∀ A, (w.alloc A).cell? ⟨s, 1, none⟩ = some (.map (some m)) := old_cell1 h.raw.head rfl
  have hr : ∀ A, (w.alloc A).cell? ⟨s, 0, none⟩ = some (.int .i64 room) := old_cell1 h.raw.head rfl
  have hk : ∀ A, (Instr.lookup 59 (.map (some m)) (.int .i64 k) true).run Try.prog (w.alloc A) = .ok (.tuple #[.pointer none, .bool false]) (w.alloc A) :=
    fun A => (h.map.alloc A).run_lookup_none Try.underlying59 Try.underlying3 (zeroThing _) k (h.not_mem hn) true
  have hle : ∀ A n ty, (Builtin.len_ #[59] ty #[.map (some m)]).run Try.prog ((w.alloc A).drewN n) = .ok (.int .i64 room) ((w.alloc A).drewN n) := by
    intro A n ty
    rw [← hl, ← hlen]
    exact MapIs.run_len (w := (w.alloc A).drewN n) (h.map.alloc A) Try.underlying59 ty
  have hneB : (room == room) = true := by simp
  go_enter Try.func19, Try.ntmps19
  go_wp2
  go_quiet (fail)
  obtain ⟨w1, hw1⟩ : ∃ w1, World.drewN (w.alloc (.cells #[.int .i64 (v).1, .int .i64 (v).2.1, .int .i64 (v).2.2] 26)) nq = w1 := ⟨_, rfl⟩
  have hk1 : Keeps (fun _ => False) w w1 := by rw [← hw1]; exact ((Keeps.refl _ w).alloc _).drewN _
  have hz1 : w1.heap.size = w.heap.size + 1 := by rw [← hw1]; exact size_alloc _ _
  have hv0 : At w1 w.heap.size (.cells #[.int .i64 (v).1, .int .i64 (v).2.1, .int .i64 (v).2.2] 26 (0, 0)) := by rw [← hw1]; exact At.new w _
  have hv1 : w1.cell? ⟨w.heap.size, 0, none⟩ = some (.int .i64 v.1) := hv0.cell rfl
  have hv2 : w1.cell? ⟨w.heap.size, 1, none⟩ = some (.int .i64 v.2.1) := hv0.cell rfl
  have hv3 : w1.cell? ⟨w.heap.size, 2, none⟩ = some (.int .i64 v.2.2) := hv0.cell rfl
  rw [hw1]
  clear hm hr hk hle hw1
  have h1 : Full w1 s m room (n0 :: ns) es := h.keeps hk1 (fun _ _ => id)
  have hf1 : w1.cell? ⟨s, 2, none⟩ = some (.pointer (some ⟨n0.b, 0, none⟩)) := h1.raw.head.cell rfl
  have hf2 : w1.cell? ⟨n0.b, 0, none⟩ = some (.int .i64 n0.k) := h1.raw.chain.1.cell rfl
  go_wp2_with fail
  refine (drop_yes _ s m room [] ns es n0 h1).mono ?_
  rintro e w1' ⟨rfl, hd1, hdk, hdz⟩
  have hkd : Keeps (fun b => b = s ∨ b = m ∨ b ∈ (n0 :: ns).map (·.b)) w w1' := (hk1.mono (fun _ _ x => x.elim)).trans hdk (fun _ _ x => x)
  have hz1' : w1'.heap.size = w.heap.size + 1 := by rw [hdz, hz1]
  have hvo : ¬ (w.heap.size = s ∨ w.heap.size = m ∨ w.heap.size ∈ (n0 :: ns).map (·.b)) := by
    intro x
    have := h.lt x
    omega
  have hv0' := hdk.get hv0 hvo
  have hw1 : w1'.cell? ⟨w.heap.size, 0, none⟩ = some (.int .i64 v.1) := hv0'.cell rfl
  have hw2 : w1'.cell? ⟨w.heap.size, 1, none⟩ = some (.int .i64 v.2.1) := hv0'.cell rfl
  have hw3 : w1'.cell? ⟨w.heap.size, 2, none⟩ = some (.int .i64 v.2.2) := hv0'.cell rfl
  clear hv0 hv1 hv2 hv3 hv0' hvo
  simp only [List.nil_append] at hd1
  have hn' : k ∉ ns.map (·.k) := fun x => hn (List.mem_cons_of_mem _ x)
  generalize es.eraseP (fun x => x.1 == n0.k) = es1 at hd1
  clear hf1 hf2 hk1 hz1 hdk hdz
  have hm : ∀ A, (w1'.alloc A).cell? ⟨s, 1, none⟩ = some (.map (some m)) := old_cell1 hd1.raw.head rfl
  go_wp2_with (at_mapUpdate; refine wpList_mapUpdate_new rfl _ _ _ rfl Try.underlying59 Try.underlying3 rfl k rfl (np (some (w.heap.size + 1))) rfl (hd1.map.alloc _) (hd1.not_mem hn') ?_; intro w2 hm2 hk2 hz2)
  obtain ⟨hr2, hn2, hd2⟩ := hd1.laid ⟨w.heap.size + 1, k, v⟩ hz1'.symm hk2
  have hz2' : w2.heap.size = w.heap.size + 2 := by rw [hz2, size_alloc, hz1']
  refine (append_full _ s m room ns ⟨w.heap.size + 1, k, v⟩ hr2 hn2 hd2).mono ?_
  rintro e w3 ⟨rfl, hr3, hk3, hz3⟩
  have hm3 : MapIs w3 m (es1 ++ [(k, np (some (w.heap.size + 1)))]) := hm2.of_heap (hk3.block m hm2.lt (fun x => by
    have := hd1.map.lt
    simp only [List.map_append, List.map_cons, List.map_nil, List.mem_append, List.mem_cons, List.not_mem_nil, or_false] at x
    rcases x with x | x | x
    · exact hd1.apart (by simp [x])
    · exact hd1.apart (List.mem_cons_of_mem _ x)
    · omega))
  have hf : Full w3 s m room (ns ++ [⟨w.heap.size + 1, k, v⟩]) (es1 ++ [(k, np (some (w.heap.size + 1)))]) := hd1.added ⟨w.heap.size + 1, k, v⟩ hz1'.symm hn' hr3 hm3
  have hk : Keeps (fun b => b = s ∨ b = m ∨ b ∈ (n0 :: ns).map (·.b)) w w3 := by
    refine ((hkd.alloc _).trans hk2 (fun _ _ x => .inr (.inl x))).trans hk3 (fun i hi x => ?_)
    simp only [List.map_append, List.map_cons, List.map_nil, List.mem_append, List.mem_cons, List.not_mem_nil, or_false] at x ⊢
    rcases x with x | x | x
    · exact .inl x
    · exact .inr (.inr (.inr x))
    · omega
  have hz : w3.heap.size = w.heap.size + 2 := by rw [hz3, hz2']
  clear hr2 hn2 hd2 hz2 hz2' hk2 hk3 hz3 hm2 hr3 hm3 hm h1 hkd hd1
  go_wp2
  go_ret2
  exact ⟨rfl, ⟨_, _, by omega, by omega, hf⟩, hk⟩

theorem snew (w : World) (r : Int) (h1 : 1 ≤ r) (h2 : r ≤ 4096) :
    Calls Try.prog 17 #[.int .i64 r] w fun e w' => e = .returned (.tuple #[.pointer (some ⟨w.heap.size + 1, 0, none⟩), .int .i64 0]) ∧ Full w' (w.heap.size + 1) w.heap.size r [] [] ∧ Keeps (fun _ => False) w w' ∧ w'.heap.size = w.heap.size + 2 := by
  have hmm := @run_makeMap Try.prog
  have b1 : decide (r < 1) = false := by simp; omega
  have b2 : decide (4096 < r) = false := by simp; omega
  go_enter Try.func17, Try.ntmps17
  go_wp2
  go_ret2
  refine ⟨rfl, ⟨⟨?_, trivial, by simp⟩, ⟨#[], 0, (At.new _ _).alloc _, rfl⟩, List.Perm.refl _, List.nodup_nil, by simp⟩, ((Keeps.refl _ _).alloc _).alloc _, by simp⟩
  have := At.new (w.alloc (.map #[] 0)) (.cells #[.int .i64 r, .map (some w.heap.size), .pointer none, .pointer none] 62 (0, 0))
  rw [size_alloc] at this
  exact this

/-- The blocks of a shelf. -/
def Foot (s m : Nat) (ns : List Node) (b : Nat) : Prop := b = s ∨ b = m ∨ b ∈ ns.map (·.b)

set_option maxHeartbeats 400000 in
theorem clear_full (w : World) (s m : Nat) (room : Int) (ns : List Node) (es : List (Int × Value)) (h : Full w s m room ns es) :
    Calls Try.prog 30 #[.pointer (some ⟨s, 0, none⟩)] w fun e w' => e = .returned (.tuple #[]) ∧ (∃ es', Full w' s m room [] es') ∧ Keeps (Foot s m ns) w w' ∧ w'.heap.size = w.heap.size := by
  go_enter Try.func30, Try.ntmps30
  go_wp2
  go_loopg [] ns.length (fun g wr => ∃ ns' es', g = ns'.length ∧ Full wr s m room ns' es' ∧ (∀ b, b ∈ ns'.map (·.b) → b ∈ ns.map (·.b)) ∧ Keeps (Foot s m ns) w wr ∧ wr.heap.size = w.heap.size)
  case atStart => exact ⟨ns, es, rfl, h, fun _ x => x, Keeps.refl _ _, rfl⟩
  case round =>
    obtain ⟨ns', es', rfl, h', hsub, hk', hz'⟩ := hrel
    have HZ : Hid (wr.heap.size = w.heap.size) := hz'
    clear hz'
    cases ns' with
    | nil =>
      have hf1 : wr.cell? ⟨s, 2, none⟩ = some (.pointer none) := h'.raw.head.cell rfl
      go_wp2
      go_end0
      exact ⟨rfl, ⟨_, h'⟩, hk', HZ.out⟩
    | cons n0 ns' =>
      have hf1 : wr.cell? ⟨s, 2, none⟩ = some (.pointer (some ⟨n0.b, 0, none⟩)) := h'.raw.head.cell rfl
      have hf2 : wr.cell? ⟨n0.b, 0, none⟩ = some (.int .i64 n0.k) := h'.raw.chain.1.cell rfl
      go_wp2_with fail
      refine (drop_yes _ s m room [] ns' es' n0 h').mono ?_
      rintro e w2 ⟨rfl, hd1, hdk, hdz⟩
      simp only [List.nil_append] at hd1 hdk
      have hk2 : Keeps (Foot s m ns) w w2 := hk'.trans hdk (fun i _ x => by
        rcases x with x | x | x
        · exact .inl x
        · exact .inr (.inl x)
        · exact .inr (.inr (hsub _ x)))
      have hz2 : Hid (w2.heap.size = w.heap.size) := hdz.trans HZ.out
      clear hdz hf1 hf2
      go_wp2
      go_roundg ns'.length
      case measure => simp
      case rel => exact ⟨ns', _, rfl, hd1, fun b hb => hsub b (List.mem_cons_of_mem _ hb), hk2, hz2.out⟩
end Go.Proofs.Ytbjcamafaolgiaa.Sh
