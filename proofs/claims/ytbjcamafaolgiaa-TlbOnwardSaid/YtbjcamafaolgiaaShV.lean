/- shelf of things of three cells: Put of a key that is there. No conditions. -/
import Derived.Test.YtbjcamafaolgiaaShF
namespace Go.Proofs.Ytbjcamafaolgiaa.Sh
open Go.RowKit Go.Proofs.Ytbjcamafaolgiaa.Mem
set_option linter.unusedSimpArgs false
set_option linter.unusedVariables false

theorem full_value {w : World} {s m : Nat} {room : Int} {xs ys : List Node} {n : Node} {es : List (Int × Value)} (h : Full w s m room (xs ++ n :: ys) es) (v : V) :
    ∃ e l, At w n.b (nodeObj n e l) ∧ ∀ w', At w' n.b (nodeObj ⟨n.b, n.k, v⟩ e l) → (∀ b, b ≠ n.b → w'.heap[b]? = w.heap[b]?) → Full w' s m room (xs ++ (⟨n.b, n.k, v⟩ : Node) :: ys) es := by
  obtain ⟨c1, c2⟩ := chain_append.1 h.raw.chain
  have hd := h.raw.nodup
  have hb : (xs ++ (⟨n.b, n.k, v⟩ : Node) :: ys).map (·.b) = (xs ++ n :: ys).map (·.b) := by simp
  have hks : (xs ++ (⟨n.b, n.k, v⟩ : Node) :: ys).map (·.k) = (xs ++ n :: ys).map (·.k) := by simp
  have hp : (xs ++ (⟨n.b, n.k, v⟩ : Node) :: ys).map (fun n => (n.k, np (some n.b))) = (xs ++ n :: ys).map (fun n => (n.k, np (some n.b))) := by simp
  have hsn : s ≠ n.b := by
    intro e; exact (List.nodup_cons.1 hd).1 (by rw [e]; simp)
  have hmn : m ≠ n.b := by
    intro e; exact h.apart (by rw [e]; simp)
  have hd2 := (List.nodup_cons.1 hd).2
  rw [List.map_append, List.map_cons] at hd2
  have hx : ∀ x ∈ xs, x.b ≠ n.b := by
    intro x hx e
    exact (List.nodup_append.1 hd2).2.2 x.b (List.mem_map.2 ⟨x, hx, rfl⟩) n.b (by simp) e
  have hy : ∀ y ∈ ys, y.b ≠ n.b := by
    intro y hy e
    exact (List.nodup_cons.1 (List.nodup_append.1 hd2).2.1).1 (by rw [← e]; exact List.mem_map.2 ⟨y, hy, rfl⟩)
  refine ⟨_, _, c2.1, fun w' hn' ho => ⟨⟨(by rw [first_append, last_append]; have := h.raw.head; rw [first_append, last_append] at this; exact (ho s hsn).trans this), chain_append.2 ⟨chain_frame (fun x hxx => ho _ (hx x hxx)) c1, hn', chain_frame (fun y hyy => ho _ (hy y hyy)) c2.2⟩, by rw [hb]; exact hd⟩, h.map.of_heap (ho m hmn), by rw [hp]; exact h.perm, by rw [hks]; exact h.keys, by rw [hb]; exact h.apart⟩⟩

theorem put_old (w : World) (s m : Nat) (room : Int) (xs ys : List Node) (n : Node) (es : List (Int × Value)) (v : V) (h : Full w s m room (xs ++ n :: ys) es) :
    Calls Try.prog 19 #[.pointer (some ⟨s, 0, none⟩), .int .i64 n.k, (Value.agg #[.int .i64 (v).1, .int .i64 (v).2.1, .int .i64 (v).2.2])] w fun e w' => e = .returned (.tuple #[.int .i64 0, .bool false]) ∧
      Full w' s m room (xs ++ ys ++ [⟨n.b, n.k, v⟩]) es ∧ Keeps (fun b => b = s ∨ b ∈ (xs ++ n :: ys).map (·.b)) w w' := by
  have hlt := fun b hb => h.lt (b := b) hb
  have hm : ∀ A, (w.alloc A).cell? ⟨s, 1, none⟩ = some (.map (some m)) := old_cell1 h.raw.head rfl
  have hl : ∀ A, (Instr.lookup 59 (.map (some m)) (.int .i64 n.k) true).run Try.prog (w.alloc A) = .ok (.tuple #[.pointer (some ⟨n.b, 0, none⟩), .bool true]) (w.alloc A) :=
    fun A => (h.map.alloc A).run_lookup Try.underlying59 Try.underlying3 n.k _ h.entries (h.mem (by simp)) true
  obtain ⟨e, l, hA, hV⟩ := full_value h v
  obtain ⟨e0, l0, hB⟩ := h.raw.chain.node (n := n) (by simp)
  have a1 : w.cell? ⟨n.b, 1, none⟩ = some (.int .i64 n.v.1) := hB.cell rfl
  have a2 : w.cell? ⟨n.b, 2, none⟩ = some (.int .i64 n.v.2.1) := hB.cell rfl
  have a3 : w.cell? ⟨n.b, 3, none⟩ = some (.int .i64 n.v.2.2) := hB.cell rfl
  have f1 : w.frozen? ⟨n.b, 1, none⟩ = false := hB.free 1
  have f2 : w.frozen? ⟨n.b, 2, none⟩ = false := hB.free 2
  have f3 : w.frozen? ⟨n.b, 3, none⟩ = false := hB.free 3
  have HA := Lib.hid (And.intro hA hV)
  clear hA hV hB
  go_enter Try.func19, Try.ntmps19
  go_wp2_with fail
  obtain ⟨w2, hw2⟩ : ∃ w2, (((w.setCell ⟨n.b, 1, none⟩ (.int .i64 v.1)).setCell ⟨n.b, 2, none⟩ (.int .i64 v.2.1)).setCell ⟨n.b, 3, none⟩ (.int .i64 v.2.2)).alloc (.cells #[.int .i64 (v).1, .int .i64 (v).2.1, .int .i64 (v).2.2] 26) = w2 := ⟨_, rfl⟩
  have hF : Full w2 s m room (xs ++ (⟨n.b, n.k, v⟩ : Node) :: ys) es := by
    rw [← hw2]
    refine Full.alloc (HA.out.2 _ ?_ (fun b hb => by rw [heap_setCell, if_neg (fun e => hb e.symm), heap_setCell, if_neg (fun e => hb e.symm), heap_setCell, if_neg (fun e => hb e.symm)])) _
    exact ((HA.out.1.setCell_same 1 (.int .i64 v.1)).setCell_same 2 (.int .i64 v.2.1)).setCell_same 3 (.int .i64 v.2.2)
  have hk2 : Keeps (fun b => b = s ∨ b ∈ (xs ++ n :: ys).map (·.b)) w w2 := by
    rw [← hw2]
    exact ((((Keeps.refl _ w).setCell (.inl (.inr (by simp)))).setCell (.inl (.inr (by simp)))).setCell (.inl (.inr (by simp)))).alloc _
  rw [hw2]
  clear hw2 hm hl a1 a2 a3 f1 f2 f3 HA
  have hnd : (s :: (xs ++ ys ++ [(⟨n.b, n.k, v⟩ : Node)]).map (·.b)).Nodup := by
    have := hF.raw.nodup
    have hp : (s :: (xs ++ (⟨n.b, n.k, v⟩ : Node) :: ys).map (·.b)).Perm (s :: (xs ++ ys ++ [(⟨n.b, n.k, v⟩ : Node)]).map (·.b)) := by
      refine List.Perm.cons _ (List.Perm.map _ ?_)
      rw [List.append_assoc]; exact List.Perm.append_left xs (List.perm_append_singleton _ ys).symm
    exact hp.nodup_iff.1 this
  refine (unlink_full w2 s m room xs ys ⟨n.b, n.k, v⟩ hF.raw).mono ?_
  rintro e w3 ⟨rfl, hr3, hn3, hk3, hz3⟩
  go_wp2_with fail
  refine (append_full w3 s m room (xs ++ ys) ⟨n.b, n.k, v⟩ hr3 hn3 hnd).mono ?_
  rintro e w4 ⟨rfl, hr4, hk4, hz4⟩
  have hkk : Keeps (fun b => b = s ∨ b ∈ (xs ++ n :: ys).map (·.b)) w2 w4 := by
    refine (hk3.mono (T := fun b => b = s ∨ b ∈ (xs ++ n :: ys).map (·.b)) (fun i _ x => by simpa using x)).trans hk4 (fun i hi x => ?_)
    simp only [List.map_append, List.map_cons, List.map_nil, List.mem_append, List.mem_cons, List.not_mem_nil, or_false] at x ⊢
    rcases x with x | (x | x) | x <;> simp [x]
  have hf : Full w4 s m room (xs ++ ys ++ [(⟨n.b, n.k, v⟩ : Node)]) es := hF.moved hr4 (hkk.block m hF.map.lt (fun x => hF.apart (List.mem_cons.2 (by simpa using x))))
  have hkf := hk2.trans hkk (fun _ _ x => x)
  clear hr3 hn3 hk3 hr4 hk4 hF hnd
  go_wp2
  go_ret2
  exact ⟨rfl, hf, hkf⟩
end Go.Proofs.Ytbjcamafaolgiaa.Sh
