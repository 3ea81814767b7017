/- shelf: Get, Drop, Put, Clear and New, each walked once: what they answer and which list is held then. No conditions. -/
import Derived.Test.YtbjcamafaolgiaaShC
namespace Go.Proofs.Ytbjcamafaolgiaa.Sh
open Go.RowKit Go.Proofs.Ytbjcamafaolgiaa.Mem
set_option linter.unusedSimpArgs false
set_option linter.unusedVariables false

theorem old_cell1 {w : World} {b i : Nat} {c : Array Value} {t : TypeId} {fr : Nat × Nat} {v : Value} (h : At w b (.cells c t fr)) (hc : c[i]? = some v) : ∀ A, (w.alloc A).cell? ⟨b, i, none⟩ = some v :=
  fun A => (h.alloc A).cell hc

/-- A thing goes to the end of the row. -/
theorem Full.moved {w w' : World} {s m : Nat} {room : Int} {xs ys : List Node} {n : Node} {es : List (Int × Value)} (h : Full w s m room (xs ++ n :: ys) es)
    (hr : Raw w' s m room (xs ++ ys ++ [n])) (hm : w'.heap[m]? = w.heap[m]?) : Full w' s m room (xs ++ ys ++ [n]) es := by
  have hp : (xs ++ n :: ys).Perm (xs ++ ys ++ [n]) := by
    rw [List.append_assoc]; exact List.Perm.append_left xs (List.perm_append_singleton n ys).symm
  exact ⟨hr, h.map.of_heap hm, h.perm.trans (hp.map _), (hp.map _).nodup_iff.1 h.keys, fun x => h.apart (by
    rcases List.mem_cons.1 x with e | e
    · simp [e]
    · exact List.mem_cons_of_mem _ ((hp.map (·.b)).mem_iff.2 e))⟩

theorem get_yes (w : World) (s m : Nat) (room : Int) (xs ys : List Node) (es : List (Int × Value)) (n : Node) (h : Full w s m room (xs ++ n :: ys) es) :
    Calls Try.prog 21 #[.pointer (some ⟨s, 0, none⟩), .int .i64 n.k] w fun e w' => e = .returned (.tuple #[(Value.agg #[.int .i64 (n.v).1, .int .i64 (n.v).2.1, .int .i64 (n.v).2.2]), .bool true]) ∧ Full w' s m room (xs ++ ys ++ [n]) es ∧
      Keeps (fun b => b = s ∨ b ∈ (xs ++ n :: ys).map (·.b)) w w' := by
  have hlt : ∀ b, (b = s ∨ b = m ∨ b ∈ (xs ++ n :: ys).map (·.b)) → b < w.heap.size := fun b hb => h.lt hb
  have hnd : (s :: (xs ++ ys ++ [n]).map (·.b)).Nodup := by
    have := h.raw.nodup
    have hp : (s :: (xs ++ n :: ys).map (·.b)).Perm (s :: (xs ++ ys ++ [n]).map (·.b)) := by
      refine List.Perm.cons _ (List.Perm.map _ ?_)
      rw [List.append_assoc]; exact List.Perm.append_left xs (List.perm_append_singleton n ys).symm
    exact hp.nodup_iff.1 this
  go_enter Try.func21, Try.ntmps21
  go_wp2_with fail
  refine (peek_yes _ s m room _ es n (h.alloc _) (by simp)).mono ?_
  rintro e w1 ⟨rfl, hk1⟩
  have h1 : Full w1 s m room (xs ++ n :: ys) es := (h.alloc _).keeps hk1 (fun _ _ => id)
  have hm : ∀ A, (w1.alloc A).cell? ⟨s, 1, none⟩ = some (.map (some m)) := old_cell1 h1.raw.head rfl
  have hl : ∀ A, (Instr.lookup 59 (.map (some m)) (.int .i64 n.k) false).run Try.prog (w1.alloc A) = .ok (.pointer (some ⟨n.b, 0, none⟩)) (w1.alloc A) :=
    fun A => (h1.map.alloc A).run_lookup Try.underlying59 Try.underlying3 n.k _ h1.entries (h1.mem (by simp)) false
  go_wp2_with fail
  refine (unlink_full _ s m room xs ys n (h1.alloc _).raw).mono ?_
  rintro e w2 ⟨rfl, hr2, hn2, hk2, hz2⟩
  go_wp2_with fail
  refine (append_full _ s m room (xs ++ ys) n hr2 hn2 hnd).mono ?_
  rintro e w3 ⟨rfl, hr3, hk3, hz3⟩
  have hk : Keeps (fun b => b = s ∨ b ∈ (xs ++ n :: ys).map (·.b)) w w3 := by
    refine (((((Keeps.refl _ w).alloc _).trans hk1 (fun _ _ x => x.elim)).alloc _).trans hk2 (fun _ _ x => x)).trans hk3 (fun i hi x => ?_)
    simp only [List.map_append, List.map_cons, List.map_nil, List.mem_append, List.mem_cons, List.not_mem_nil, or_false] at x ⊢
    rcases x with x | (x | x) | x <;> simp [x]
  have hf : Full w3 s m room (xs ++ ys ++ [n]) es := h.moved hr3 (hk.block m (hlt m (.inr (.inl rfl))) (fun x => h.apart (List.mem_cons.2 x)))
  have hz1 : w.heap.size < w1.heap.size := by have := hk1.size; rw [size_alloc] at this; omega
  have hnew : ∀ i, w.heap.size ≤ i → ¬ (i = s ∨ i ∈ (xs ++ n :: ys).map (·.b)) := by
    rintro i hi (x | x)
    · have := hlt _ (.inl x); omega
    · have := hlt _ (.inr (.inr x)); omega
  have hmem : ∀ b, b ∈ (xs ++ ys ++ [n]).map (·.b) → b ∈ (xs ++ n :: ys).map (·.b) := by
    intro b x
    simp only [List.map_append, List.map_cons, List.map_nil, List.mem_append, List.mem_cons, List.not_mem_nil, or_false] at x ⊢
    rcases x with (x | x) | x <;> simp [x]
  have hnew3 : ∀ i, w.heap.size ≤ i → ¬ (i = s ∨ i ∈ (xs ++ ys ++ [n]).map (·.b)) := fun i hi x => hnew i hi (x.imp id (hmem _))
  have hres := hk3.get (hk2.get ((hk1.get (At.new w (.cells #[.int .i64 0, .int .i64 0, .int .i64 0] 26)) id).alloc _) (hnew _ (Nat.le_refl _))) (hnew3 _ (Nat.le_refl _))
  have hvar := hk3.get (hk2.get (At.new w1 _) (hnew _ (Nat.le_of_lt hz1))) (hnew3 _ (Nat.le_of_lt hz1))
  have g1 : w3.cell? ⟨w.heap.size, 0, none⟩ = some (.int .i64 0) := hres.cell rfl
  have g2 : w3.cell? ⟨w.heap.size, 1, none⟩ = some (.int .i64 0) := hres.cell rfl
  have g3 : w3.cell? ⟨w.heap.size, 2, none⟩ = some (.int .i64 0) := hres.cell rfl
  have g4 : w3.frozen? ⟨w.heap.size, 0, none⟩ = false := hres.free 0
  have g5 : w3.frozen? ⟨w.heap.size, 1, none⟩ = false := hres.free 1
  have g6 : w3.frozen? ⟨w.heap.size, 2, none⟩ = false := hres.free 2
  have a1 : w3.cell? ⟨w1.heap.size, 0, none⟩ = some (.int .i64 n.v.1) := hvar.cell rfl
  have a2 : w3.cell? ⟨w1.heap.size, 1, none⟩ = some (.int .i64 n.v.2.1) := hvar.cell rfl
  have a3 : w3.cell? ⟨w1.heap.size, 2, none⟩ = some (.int .i64 n.v.2.2) := hvar.cell rfl
  have HN := Lib.hid (And.intro hres hmem)
  clear hres hnew hnew3 hmem hvar hz1
  go_wp2
  obtain ⟨w4, hw4⟩ : ∃ w4, ((w3.setCell ⟨w.heap.size, 0, none⟩ (.int .i64 n.v.1)).setCell ⟨w.heap.size, 1, none⟩ (.int .i64 n.v.2.1)).setCell ⟨w.heap.size, 2, none⟩ (.int .i64 n.v.2.2) = w4 := ⟨_, rfl⟩
  rw [hw4]
  have k4 : Keeps (fun b => b = w.heap.size) w3 w4 := by rw [← hw4]; exact (((Keeps.refl (fun b => b = w.heap.size) w3).setCell (.inl rfl)).setCell (.inl rfl)).setCell (.inl rfl)
  have r4 : At w4 w.heap.size (.cells #[.int .i64 n.v.1, .int .i64 n.v.2.1, .int .i64 n.v.2.2] 26 (0, 0)) := by
    rw [← hw4]; exact ((HN.out.1.setCell_same 0 (.int .i64 n.v.1)).setCell_same 1 (.int .i64 n.v.2.1)).setCell_same 2 (.int .i64 n.v.2.2)
  have hk5 : Keeps (fun b => b = s ∨ b ∈ (xs ++ n :: ys).map (·.b)) w w4 := by rw [← hw4]; exact ((hk.setCell (.inr (Nat.le_refl _))).setCell (.inr (Nat.le_refl _))).setCell (.inr (Nat.le_refl _))
  have hf4 := hf.keeps k4 (fun b hb x => by
    have hx : b = w.heap.size := x
    subst hx
    have := hlt w.heap.size (by rcases hb with h | h | h; exact .inl h; exact .inr (.inl h); exact .inr (.inr (HN.out.2 _ h)))
    omega)
  have b1 : w4.cell? ⟨w.heap.size, 0, none⟩ = some (.int .i64 n.v.1) := r4.cell rfl
  have b2 : w4.cell? ⟨w.heap.size, 1, none⟩ = some (.int .i64 n.v.2.1) := r4.cell rfl
  have b3 : w4.cell? ⟨w.heap.size, 2, none⟩ = some (.int .i64 n.v.2.2) := r4.cell rfl
  exact bodyPost_ret (v := .tuple #[(Value.agg #[.int .i64 (n.v).1, .int .i64 (n.v).2.1, .int .i64 (n.v).2.2]), .bool true]) (by simp [results, Try.results21, go_sem, b1, b2, b3]) rfl ⟨rfl, hf4, hk5⟩

theorem get_no (w : World) (s m : Nat) (room : Int) (ns : List Node) (es : List (Int × Value)) (k : Int) (h : Full w s m room ns es) (hn : k ∉ ns.map (·.k)) :
    Calls Try.prog 21 #[.pointer (some ⟨s, 0, none⟩), .int .i64 k] w fun e w' => e = .returned (.tuple #[(Value.agg #[.int .i64 0, .int .i64 0, .int .i64 0]), .bool false]) ∧ Keeps (fun _ => False) w w' := by
  go_enter Try.func21, Try.ntmps21
  go_wp2_with fail
  refine (peek_no _ s m room _ es k (h.alloc _) hn).mono ?_
  rintro e w1 ⟨rfl, hk1⟩
  have hres := (hk1.get (At.new w (.cells #[.int .i64 0, .int .i64 0, .int .i64 0] 26)) id)
  have g1 : ∀ X, (w1.alloc X).cell? ⟨w.heap.size, 0, none⟩ = some (.int .i64 0) := fun X => (hres.alloc X).cell rfl
  have g2 : ∀ X, (w1.alloc X).cell? ⟨w.heap.size, 1, none⟩ = some (.int .i64 0) := fun X => (hres.alloc X).cell rfl
  have g3 : ∀ X, (w1.alloc X).cell? ⟨w.heap.size, 2, none⟩ = some (.int .i64 0) := fun X => (hres.alloc X).cell rfl
  have g4 : ∀ X, (w1.alloc X).frozen? ⟨w.heap.size, 0, none⟩ = false := fun X => (hres.alloc X).free 0
  have g5 : ∀ X, (w1.alloc X).frozen? ⟨w.heap.size, 1, none⟩ = false := fun X => (hres.alloc X).free 1
  have g6 : ∀ X, (w1.alloc X).frozen? ⟨w.heap.size, 2, none⟩ = false := fun X => (hres.alloc X).free 2
  have HN := Lib.hid hres
  clear hres
  go_wp2
  obtain ⟨w4, hw4⟩ : ∃ w4, (((w1.alloc (.cells #[.int .i64 0, .int .i64 0, .int .i64 0] 26)).setCell ⟨w.heap.size, 0, none⟩ (.int .i64 0)).setCell ⟨w.heap.size, 1, none⟩ (.int .i64 0)).setCell ⟨w.heap.size, 2, none⟩ (.int .i64 0) = w4 := ⟨_, rfl⟩
  rw [hw4]
  have r4 : At w4 w.heap.size (.cells #[.int .i64 0, .int .i64 0, .int .i64 0] 26 (0, 0)) := by
    rw [← hw4]; exact (((HN.out.alloc _).setCell_same 0 (.int .i64 0)).setCell_same 1 (.int .i64 0)).setCell_same 2 (.int .i64 0)
  have hk5 : Keeps (fun _ => False) w w4 := by rw [← hw4]; exact ((((((Keeps.refl _ w).alloc _).trans hk1 (fun _ _ x => x.elim)).alloc _).setCell (.inr (Nat.le_refl _))).setCell (.inr (Nat.le_refl _))).setCell (.inr (Nat.le_refl _))
  have b1 : w4.cell? ⟨w.heap.size, 0, none⟩ = some (.int .i64 0) := r4.cell rfl
  have b2 : w4.cell? ⟨w.heap.size, 1, none⟩ = some (.int .i64 0) := r4.cell rfl
  have b3 : w4.cell? ⟨w.heap.size, 2, none⟩ = some (.int .i64 0) := r4.cell rfl
  exact bodyPost_ret (v := .tuple #[(Value.agg #[.int .i64 0, .int .i64 0, .int .i64 0]), .bool false]) (by simp [results, Try.results21, go_sem, b1, b2, b3]) rfl ⟨rfl, hk5⟩

theorem Full.dropped {w w' : World} {s m : Nat} {room : Int} {xs ys : List Node} {n : Node} {es : List (Int × Value)} (h : Full w s m room (xs ++ n :: ys) es)
    (hr : Raw w' s m room (xs ++ ys)) (hm : MapIs w' m (es.eraseP (fun x => x.1 == n.k))) : Full w' s m room (xs ++ ys) (es.eraseP (fun x => x.1 == n.k)) := by
  have hp : (xs ++ n :: ys).Perm (n :: (xs ++ ys)) := List.perm_middle
  refine ⟨hr, hm, ?_, ?_, fun x => h.apart (by
    rcases List.mem_cons.1 x with e | e
    · simp [e]
    · exact List.mem_cons_of_mem _ ((hp.map (·.b)).mem_iff.2 (List.mem_cons_of_mem _ e)))⟩
  · have h1 : es.Perm ((n.k, np (some n.b)) :: (xs ++ ys).map fun n => (n.k, np (some n.b))) := h.perm.trans (hp.map _)
    have hm1 : (n.k, np (some n.b)) ∈ es := h.mem (by simp)
    have h2 : es.Perm ((n.k, np (some n.b)) :: es.eraseP (fun x => x.1 == n.k)) := by
      obtain ⟨a, l1, l2, h3, h4, h5, h6⟩ := List.exists_of_eraseP (p := fun x : Int × Value => x.1 == n.k) hm1 (by simp)
      have ha : a ∈ es := by rw [h5]; simp
      have hak : a.1 = n.k := by simpa using h4
      have : a = (n.k, np (some n.b)) := by
        obtain ⟨z, hz, rfl⟩ := List.mem_map.1 (h.perm.mem_iff.1 ha)
        have hinj := h.keys
        simp only at hak
        have hzn : z = n := by
          rcases List.mem_append.1 hz with hz | hz
          · simp only [List.map_append, List.map_cons, List.nodup_append, List.mem_map, List.mem_cons] at hinj
            exact absurd hak (hinj.2.2 z.k ⟨z, hz, rfl⟩ n.k (.inl rfl))
          · rcases List.mem_cons.1 hz with e | hz
            · exact e
            · simp only [List.map_append, List.map_cons, List.nodup_append, List.nodup_cons, List.mem_map, List.mem_cons] at hinj
              exact absurd ⟨z, hz, hak⟩ hinj.2.1.1
        rw [hzn]
      rw [h6, h5, this]
      exact List.perm_middle
    exact (List.perm_cons _).1 (h2.symm.trans h1)
  · have := (hp.map (·.k)).nodup_iff.1 h.keys
    simp only [List.map_cons, List.nodup_cons] at this
    exact this.2

theorem drop_yes (w : World) (s m : Nat) (room : Int) (xs ys : List Node) (es : List (Int × Value)) (n : Node) (h : Full w s m room (xs ++ n :: ys) es) :
    Calls Try.prog 33 #[.pointer (some ⟨s, 0, none⟩), .int .i64 n.k] w fun e w' => e = .returned (.bool true) ∧ Full w' s m room (xs ++ ys) (es.eraseP (fun x => x.1 == n.k)) ∧
      Keeps (fun b => b = s ∨ b = m ∨ b ∈ (xs ++ n :: ys).map (·.b)) w w' ∧ w'.heap.size = w.heap.size := by
  have hm : w.cell? ⟨s, 1, none⟩ = some (.map (some m)) := h.raw.head.cell rfl
  have hl : (Instr.lookup 59 (.map (some m)) (.int .i64 n.k) true).run Try.prog w = .ok (.tuple #[.pointer (some ⟨n.b, 0, none⟩), .bool true]) w :=
    h.map.run_lookup Try.underlying59 Try.underlying3 n.k _ h.entries (h.mem (by simp)) true
  go_enter Try.func33, Try.ntmps33
  go_wp2_with fail
  refine (unlink_full _ s m room xs ys n h.raw).mono ?_
  rintro e w2 ⟨rfl, hr2, hn2, hk2, hz2⟩
  have hma : ∀ b, b ∈ s :: (xs ++ n :: ys).map (·.b) → b ≠ m := fun b hb e => h.apart (e ▸ hb)
  have hm2 : w2.cell? ⟨s, 1, none⟩ = some (.map (some m)) := hr2.head.cell rfl
  obtain ⟨w3, hrun, hm3, hk3, hz3⟩ := MapIs.run_delete (h.map.of_heap (hk2.block m (h.lt (.inr (.inl rfl))) (fun x => h.apart (List.mem_cons.2 x)))) Try.underlying59 Try.underlying3 n.k _ h.entries (h.mem (by simp))
  have hr3 : Raw w3 s m room (xs ++ ys) := hr2.frame (hk3.block s hr2.head.lt (hma s (by simp))) (fun z hz => hk3.block z.b (hr2.chain.lt z hz) (hma z.b (by
    refine List.mem_cons_of_mem _ (List.mem_map.2 ⟨z, ?_, rfl⟩)
    rcases List.mem_append.1 hz with hz | hz <;> simp [hz])))
  have hf : Full w3 s m room (xs ++ ys) (es.eraseP (fun x => x.1 == n.k)) := h.dropped hr3 hm3
  have hk : Keeps (fun b => b = s ∨ b = m ∨ b ∈ (xs ++ n :: ys).map (·.b)) w w3 :=
    (hk2.mono (fun i _ x => x.elim .inl (fun y => .inr (.inr y)))).trans hk3 (fun i _ x => .inr (.inl x))
  have hz : w3.heap.size = w.heap.size := hz3.trans hz2
  clear hr3 hm3 hk3 hz3 hk2 hz2 hma
  go_wp2
  go_ret
  exact ⟨rfl, hf, hk, hz⟩
end Go.Proofs.Ytbjcamafaolgiaa.Sh
