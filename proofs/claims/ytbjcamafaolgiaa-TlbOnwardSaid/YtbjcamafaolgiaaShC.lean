/- shelf: Peek, Get, Drop, Put, Clear and New, each walked once: what they answer and which list is held then. No conditions. -/
import Derived.Test.YtbjcamafaolgiaaShB
namespace Go.Proofs.Ytbjcamafaolgiaa.Sh
open Go.RowKit Go.Proofs.Ytbjcamafaolgiaa.Mem
set_option linter.unusedSimpArgs false
set_option linter.unusedVariables false

/-- A shelf in memory: its cells, its row, its map. -/
structure Full (w : World) (s m : Nat) (room : Int) (ns : List Node) (es : List (Int × Value)) : Prop where
  raw : Raw w s m room ns
  map : MapIs w m es
  perm : es.Perm (ns.map fun n => (n.k, np (some n.b)))
  keys : (ns.map (·.k)).Nodup
  apart : m ∉ s :: ns.map (·.b)

section
variable {w : World} {s m : Nat} {room : Int} {ns : List Node} {es : List (Int × Value)}
theorem Full.frame {w' : World} (h : Full w s m room ns es) (hk : ∀ b, (b = s ∨ b = m ∨ b ∈ ns.map (·.b)) → w'.heap[b]? = w.heap[b]?) : Full w' s m room ns es :=
  ⟨h.raw.frame (hk s (.inl rfl)) (fun n hn => hk n.b (.inr (.inr (List.mem_map.2 ⟨n, hn, rfl⟩)))), h.map.of_heap (hk m (.inr (.inl rfl))), h.perm, h.keys, h.apart⟩
theorem Full.entries (h : Full w s m room ns es) : (es.map (·.1)).Nodup := by
  have := (h.perm.map (·.1)).nodup_iff.2 (by rw [List.map_map]; exact h.keys)
  exact this
theorem Full.mem (h : Full w s m room ns es) {n : Node} (hn : n ∈ ns) : (n.k, np (some n.b)) ∈ es := h.perm.mem_iff.2 (List.mem_map.2 ⟨n, hn, rfl⟩)
theorem Full.not_mem (h : Full w s m room ns es) {k : Int} (hn : k ∉ ns.map (·.k)) : ∀ v, (k, v) ∉ es := by
  intro v hv
  obtain ⟨n, hn', e⟩ := List.mem_map.1 (h.perm.mem_iff.1 hv)
  exact hn (List.mem_map.2 ⟨n, hn', (Prod.mk.inj e).1⟩)
theorem Chain.lt : ∀ {ns : List Node} {p q : Option Nat}, Chain w p ns q → ∀ n ∈ ns, n.b < w.heap.size
  | [], _, _, _, _, hn => by simp at hn
  | a :: ns, _, _, h, n, hn => by
    rcases List.mem_cons.1 hn with e | e
    · rw [e]; exact h.1.lt
    · exact Chain.lt h.2 n e
theorem Full.lt (h : Full w s m room ns es) {b : Nat} (hb : b = s ∨ b = m ∨ b ∈ ns.map (·.b)) : b < w.heap.size := by
  rcases hb with e | e | e
  · rw [e]; exact h.raw.head.lt
  · rw [e]; exact h.map.lt
  · obtain ⟨n, hn, rfl⟩ := List.mem_map.1 e; exact h.raw.chain.lt n hn
theorem Full.alloc (h : Full w s m room ns es) (o : Obj) : Full (w.alloc o) s m room ns es :=
  h.frame fun b hb => by rw [heap_alloc, if_neg (by have := h.lt hb; omega)]
theorem Full.keeps {w' : World} {S : Nat → Prop} (h : Full w s m room ns es) (hk : Keeps S w w') (hS : ∀ b, (b = s ∨ b = m ∨ b ∈ ns.map (·.b)) → ¬ S b) : Full w' s m room ns es :=
  h.frame fun b hb => hk.block b (h.lt hb) (hS b hb)
theorem Chain.node {ns : List Node} {p q : Option Nat} (h : Chain w p ns q) {n : Node} (hn : n ∈ ns) : ∃ e l, At w n.b (nodeObj n e l) := by
  obtain ⟨xs, ys, rfl⟩ := List.append_of_mem hn
  exact ⟨_, _, (chain_append.1 h).2.1⟩
end
theorem _root_.Go.Proofs.Ytbjcamafaolgiaa.Mem.MapIs.alloc {w : World} {b : Nat} {l : List (Int × Value)} (h : MapIs w b l) (o : Obj) : MapIs (w.alloc o) b l :=
  h.of_heap (by rw [heap_alloc, if_neg (by have := h.lt; omega)])

theorem zeroThing (w : World) : (zeroValue 60).run Try.prog w = .ok (.pointer none) w := by kernel_rfl

theorem old_cell {w : World} {b i : Nat} {c : Array Value} {t : TypeId} {fr : Nat × Nat} {v : Value} (h : At w b (.cells c t fr)) (hc : c[i]? = some v) : ∀ A B, ((w.alloc A).alloc B).cell? ⟨b, i, none⟩ = some v :=
  fun A B => ((h.alloc A).alloc B).cell hc



theorem peek_yes (w : World) (s m : Nat) (room : Int) (ns : List Node) (es : List (Int × Value)) (n : Node) (h : Full w s m room ns es) (hn : n ∈ ns) :
    Calls Try.prog 35 #[.pointer (some ⟨s, 0, none⟩), .int .i64 n.k] w fun e w' => e = .returned (.tuple #[(Value.agg #[.int .i64 (n.v).1, .int .i64 (n.v).2.1, .int .i64 (n.v).2.2]), .bool true]) ∧ Keeps (fun _ => False) w w' := by
  have hm : ∀ A B, ((w.alloc A).alloc B).cell? ⟨s, 1, none⟩ = some (.map (some m)) := old_cell h.raw.head rfl
  obtain ⟨e, l, hnode⟩ := h.raw.chain.node hn
  have hl : ∀ A B, (Instr.lookup 59 (.map (some m)) (.int .i64 n.k) true).run Try.prog ((w.alloc A).alloc B) = .ok (.tuple #[.pointer (some ⟨n.b, 0, none⟩), .bool true]) ((w.alloc A).alloc B) :=
    fun A B => ((h.map.alloc A).alloc B).run_lookup Try.underlying59 Try.underlying3 n.k _ h.entries (h.mem hn) true
  have hp1 : ∀ A B, ((w.alloc A).alloc B).cell? ⟨n.b, 1, none⟩ = some (.int .i64 n.v.1) := old_cell hnode rfl
  have hp2 : ∀ A B, ((w.alloc A).alloc B).cell? ⟨n.b, 2, none⟩ = some (.int .i64 n.v.2.1) := old_cell hnode rfl
  have hp3 : ∀ A B, ((w.alloc A).alloc B).cell? ⟨n.b, 3, none⟩ = some (.int .i64 n.v.2.2) := old_cell hnode rfl
  clear h hnode
  go_enter Try.func35, Try.ntmps35
  go_wp2
  refine bodyPost_ret (v := .tuple #[(Value.agg #[.int .i64 (n.v).1, .int .i64 (n.v).2.1, .int .i64 (n.v).2.2]), .bool true]) (by simp [results, Try.results35, go_sem]) rfl ⟨rfl, ?_⟩
  exact ((Keeps.refl _ _).alloc _).alloc _

theorem peek_no (w : World) (s m : Nat) (room : Int) (ns : List Node) (es : List (Int × Value)) (k : Int) (h : Full w s m room ns es) (hn : k ∉ ns.map (·.k)) :
    Calls Try.prog 35 #[.pointer (some ⟨s, 0, none⟩), .int .i64 k] w fun e w' => e = .returned (.tuple #[(Value.agg #[.int .i64 0, .int .i64 0, .int .i64 0]), .bool false]) ∧ Keeps (fun _ => False) w w' := by
  have hm : ∀ A B, ((w.alloc A).alloc B).cell? ⟨s, 1, none⟩ = some (.map (some m)) := old_cell h.raw.head rfl
  have hl : ∀ A B, (Instr.lookup 59 (.map (some m)) (.int .i64 k) true).run Try.prog ((w.alloc A).alloc B) = .ok (.tuple #[.pointer none, .bool false]) ((w.alloc A).alloc B) :=
    fun A B => ((h.map.alloc A).alloc B).run_lookup_none Try.underlying59 Try.underlying3 (zeroThing _) k (h.not_mem hn) true
  clear h
  go_enter Try.func35, Try.ntmps35
  go_wp2
  refine bodyPost_ret (v := .tuple #[(Value.agg #[.int .i64 0, .int .i64 0, .int .i64 0]), .bool false]) (by simp [results, Try.results35, go_sem]) rfl ⟨rfl, ?_⟩
  exact ((Keeps.refl _ _).alloc _).alloc _

theorem Eqv.at {w w' : World} (h : Eqv w w') {b : Nat} {o : Obj} (hb : At w b o) : At w' b o := by unfold At; rw [h.heap]; exact hb
theorem Eqv.raw {w w' : World} (h : Eqv w w') {s m : Nat} {room : Int} {ns : List Node} (hr : Raw w s m room ns) : Raw w' s m room ns :=
  hr.frame (by rw [h.heap]) (fun n _ => by rw [h.heap])
theorem Eqv.keeps {a w w' : World} {S : Nat → Prop} (h : Eqv w w') (hk : Keeps S a w) : Keeps S a w' :=
  ⟨h.os.trans hk.os, h.tape.trans hk.tape, h.output.trans hk.output, by rw [h.heap]; exact hk.size, fun k hk1 hk2 => by rw [h.heap]; exact hk.block k hk1 hk2⟩

theorem unlink_full (w : World) (s m : Nat) (room : Int) (xs ys : List Node) (n : Node) (h : Raw w s m room (xs ++ n :: ys)) :
    Calls Try.prog 31 #[.pointer (some ⟨s, 0, none⟩), .pointer (some ⟨n.b, 0, none⟩)] w fun e w' => e = .returned (.tuple #[]) ∧ Raw w' s m room (xs ++ ys) ∧ At w' n.b (nodeObj n none none) ∧
      Keeps (fun b => b = s ∨ b ∈ (xs ++ n :: ys).map (·.b)) w w' ∧ w'.heap.size = w.heap.size := by
  have hr := raw_unlinked h
  have hd := h.nodup
  obtain ⟨c1, c2⟩ := chain_append.1 h.chain
  obtain ⟨cn, c3⟩ := c2
  have hsn : s ≠ n.b := by simp at hd; exact hd.1.2.1
  refine (unlink_cells w s n.b (last none xs) (first ys none) _ _ (h.head.cell rfl) (h.head.cell rfl) (h.head.free _) (h.head.free _) (cn.cell rfl) (cn.cell rfl) (cn.free _) (cn.free _) hsn ?_ ?_).mono ?_
  · intro x hx
    rcases List.eq_nil_or_concat xs with rfl | ⟨xs, x', rfl⟩
    · cases hx
    · simp only [List.concat_eq_append] at *
      rw [last_snoc] at hx
      obtain rfl := Option.some.inj hx
      obtain ⟨-, dx, -⟩ := chain_append.1 c1
      refine ⟨?_, ⟨_, dx.cell rfl⟩, dx.free _⟩
      simp only [List.map_append, List.map_cons, List.map_nil, List.nodup_cons, List.nodup_append, List.mem_map, List.mem_append, List.mem_cons, List.not_mem_nil, or_false] at hd
      exact hd.2.2.2 x'.b (.inr rfl) n.b (.inl rfl)
  · intro y hy
    cases ys with
    | nil => cases hy
    | cons y' ys =>
      obtain rfl := Option.some.inj hy
      obtain ⟨dy, -⟩ := c3
      simp only [List.map_append, List.map_cons, List.map_nil, List.nodup_cons, List.nodup_append, List.mem_map, List.mem_append, List.mem_cons, List.not_mem_nil, or_false] at hd
      refine ⟨fun e => hd.2.2.1.1 (.inl e.symm), fun x hx => ?_, ⟨_, dy.cell rfl⟩, dy.free _⟩
      obtain ⟨z, hz, rfl⟩ := List.mem_map.1 (last_mem hx)
      exact hd.2.2.2 z.b ⟨z, hz, rfl⟩ y'.b (.inr (.inl rfl))
  · rintro e w' ⟨rfl, he⟩
    refine ⟨rfl, he.raw hr.1, he.at hr.2, he.keeps (keeps_unlinked (.inl rfl) (.inr (by simp)) ?_ ?_), by rw [he.heap, size_unlinked]⟩
    · intro x hx; have := last_mem hx; exact .inr (by simp only [List.map_append, List.mem_append]; exact .inl this)
    · intro x hx; have := first_mem hx; exact .inr (by simp only [List.map_append, List.map_cons, List.mem_append, List.mem_cons]; exact .inr (.inr this))

theorem append_full (w : World) (s m : Nat) (room : Int) (xs : List Node) (n : Node) (h : Raw w s m room xs) (hn : At w n.b (nodeObj n none none)) (hd : (s :: (xs ++ [n]).map (·.b)).Nodup) :
    Calls Try.prog 32 #[.pointer (some ⟨s, 0, none⟩), .pointer (some ⟨n.b, 0, none⟩)] w fun e w' => e = .returned (.tuple #[]) ∧ Raw w' s m room (xs ++ [n]) ∧
      Keeps (fun b => b = s ∨ b ∈ (xs ++ [n]).map (·.b)) w w' ∧ w'.heap.size = w.heap.size := by
  have hr := raw_appended h hn hd
  have hsn : s ≠ n.b := by simp at hd; exact hd.1.2
  refine (append_cells w s n.b (last none xs) _ _ (h.head.cell rfl) (h.head.cell rfl) (h.head.free _) (h.head.free _) (hn.cell rfl) (hn.free _) hsn ?_).mono ?_
  · intro x hx
    rcases List.eq_nil_or_concat xs with rfl | ⟨xs, x', rfl⟩
    · cases hx
    · simp only [List.concat_eq_append] at *
      rw [last_snoc] at hx
      obtain rfl := Option.some.inj hx
      obtain ⟨-, dx, -⟩ := chain_append.1 h.chain
      simp only [List.map_append, List.map_cons, List.map_nil, List.nodup_cons, List.nodup_append, List.mem_map, List.mem_append, List.mem_cons, List.not_mem_nil, or_false] at hd
      exact ⟨hd.2.2.2 x'.b (.inr rfl) n.b rfl, fun e => hd.1 (.inl (.inr e.symm)), ⟨_, dx.cell rfl⟩, dx.free _⟩
  · rintro e w' ⟨rfl, he⟩
    refine ⟨rfl, he.raw hr, he.keeps (keeps_appended (.inl rfl) (.inr (by simp)) ?_), by rw [he.heap, size_appended]⟩
    intro x hx; have := last_mem hx; exact .inr (by simp only [List.map_append, List.mem_append]; exact .inl this)
end Go.Proofs.Ytbjcamafaolgiaa.Sh
