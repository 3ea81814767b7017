/- shelf: a shelf in memory as a list of keys and things, the least lately used one first; what unlink and append make of it. No conditions. -/
import Derived.Test.YtbjcamafaolgiaaShA
namespace Go.Proofs.Ytbjcamafaolgiaa.Sh
open Go.RowKit Go.Proofs.Ytbjcamafaolgiaa.Mem
set_option linter.unusedSimpArgs false
set_option linter.unusedVariables false

abbrev V := Int × Int × Int
def vval : V → Value := (fun (x : V) => Value.agg #[.int .i64 x.1, .int .i64 x.2.1, .int .i64 x.2.2])
def nodeCells (k : Int) (_v : V) (e l : Value) : Array Value := #[.int .i64 k, .int .i64 _v.1, .int .i64 _v.2.1, .int .i64 _v.2.2, e, l]
structure Node where
  b : Nat
  k : Int
  v : V
def nodeObj (n : Node) (e l : Option Nat) : Obj := .cells (nodeCells n.k n.v (np e) (np l)) 65 (0, 0)
def first : List Node → Option Nat → Option Nat
  | [], q => q
  | n :: _, _ => some n.b
theorem first_nil (q : Option Nat) : first [] q = q := rfl
theorem first_cons (n : Node) (ns : List Node) (q : Option Nat) : first (n :: ns) q = some n.b := rfl
def last : Option Nat → List Node → Option Nat
  | p, [] => p
  | _, n :: ns => last (some n.b) ns
def Chain (w : World) : Option Nat → List Node → Option Nat → Prop
  | _, [], _ => True
  | p, n :: ns, q => At w n.b (nodeObj n p (first ns q)) ∧ Chain w (some n.b) ns q

theorem last_snoc (p : Option Nat) (xs : List Node) (x : Node) : last p (xs ++ [x]) = some x.b := by
  induction xs generalizing p with
  | nil => rfl
  | cons a xs ih => exact ih _
theorem last_append (p : Option Nat) (xs ys : List Node) : last p (xs ++ ys) = last (last p xs) ys := by
  induction xs generalizing p with
  | nil => rfl
  | cons a xs ih => exact ih _
theorem first_append (xs ys : List Node) (q : Option Nat) : first (xs ++ ys) q = first xs (first ys q) := by cases xs <;> rfl
theorem chain_append {w : World} {p q : Option Nat} {xs ys : List Node} : Chain w p (xs ++ ys) q ↔ Chain w p xs (first ys q) ∧ Chain w (last p xs) ys q := by
  induction xs generalizing p with
  | nil => simp [Chain, last]
  | cons a xs ih => simp only [List.cons_append, Chain, last, ih, first_append, and_assoc]
theorem chain_frame {w w' : World} : ∀ {ns : List Node} {p q : Option Nat}, (∀ n ∈ ns, w'.heap[n.b]? = w.heap[n.b]?) → Chain w p ns q → Chain w' p ns q
  | [], _, _, _, _ => trivial
  | n :: ns, _, _, h, hc => ⟨(h n (by simp)).trans hc.1, chain_frame (fun n hn => h n (List.mem_cons_of_mem _ hn)) hc.2⟩
theorem first_mem {ns : List Node} {b : Nat} (h : first ns none = some b) : b ∈ ns.map (·.b) := by
  cases ns with
  | nil => cases h
  | cons n ns => simp only [first, Option.some.injEq] at h; simp [h]
theorem last_mem : ∀ {ns : List Node} {b : Nat}, last none ns = some b → b ∈ ns.map (·.b) := by
  intro ns b h
  rcases List.eq_nil_or_concat ns with rfl | ⟨xs, x, rfl⟩
  · cases h
  · rw [List.concat_eq_append, last_snoc] at h; simp only [Option.some.injEq] at h; simp [h]

/-- The shelf's own cells and its row of things. -/
structure Raw (w : World) (s m : Nat) (room : Int) (ns : List Node) : Prop where
  head : At w s (.cells #[.int .i64 room, .map (some m), np (first ns none), np (last none ns)] 62 (0, 0))
  chain : Chain w none ns none
  nodup : (s :: ns.map (·.b)).Nodup

theorem Raw.frame {w w' : World} {s m : Nat} {room : Int} {ns : List Node} (h : Raw w s m room ns) (hs : w'.heap[s]? = w.heap[s]?) (hn : ∀ n ∈ ns, w'.heap[n.b]? = w.heap[n.b]?) : Raw w' s m room ns :=
  ⟨hs.trans h.head, chain_frame hn h.chain, h.nodup⟩

theorem chain_cells {w : World} {p q : Option Nat} {n : Node} {ns : List Node} (h : Chain w p (n :: ns) q) : At w n.b (nodeObj n p (first ns q)) := h.1

theorem heap_unlinked {w : World} {s n : Nat} {pe pl : Option Nat} {k : Nat} (h1 : k ≠ s) (h2 : k ≠ n) (h3 : pe ≠ some k) (h4 : pl ≠ some k) : (unlinked w s n pe pl).heap[k]? = w.heap[k]? := by
  unfold unlinked
  cases pe <;> cases pl <;> simp only [heap_setCell] <;> simp_all [Ne.symm h1, Ne.symm h2]

theorem keeps_unlinked {w : World} {s n : Nat} {pe pl : Option Nat} {S : Nat → Prop} (h1 : S s) (h2 : S n) (h3 : ∀ x, pe = some x → S x) (h4 : ∀ x, pl = some x → S x) : Keeps S w (unlinked w s n pe pl) := by
  unfold unlinked
  cases pe <;> cases pl <;> simp only [] <;>
    refine (((Keeps.setCell (Keeps.setCell (Keeps.refl _ _) ?_) ?_).setCell (.inl h2)).setCell (.inl h2)) <;> first | exact .inl h1 | exact .inl (h3 _ rfl) | exact .inl (h4 _ rfl)
theorem size_unlinked {w : World} {s n : Nat} {pe pl : Option Nat} : (unlinked w s n pe pl).heap.size = w.heap.size := by
  unfold unlinked
  cases pe <;> cases pl <;> simp only [size_setCell]

theorem at_of {w w' : World} {b : Nat} {o : Obj} (h : w'.heap[b]? = w.heap[b]?) (hb : At w b o) : At w' b o := h.trans hb

theorem raw_unlinked {w : World} {s m : Nat} {room : Int} {xs ys : List Node} {n : Node} (h : Raw w s m room (xs ++ n :: ys)) :
    Raw (unlinked w s n.b (last none xs) (first ys none)) s m room (xs ++ ys) ∧ At (unlinked w s n.b (last none xs) (first ys none)) n.b (nodeObj n none none) := by
  obtain ⟨hh, hc, hd⟩ := h
  obtain ⟨c1, c2⟩ := chain_append.1 hc
  obtain ⟨cn, c3⟩ := c2
  have hsn : s ≠ n.b := by simp at hd; exact hd.1.2.1
  have hd' : (s :: (xs ++ ys).map (·.b)).Nodup := by
    simp only [List.map_append, List.map_cons, List.nodup_cons, List.nodup_append, List.mem_append, List.mem_cons] at hd ⊢
    refine ⟨fun x => hd.1 (by rcases x with x | x <;> simp [x]), hd.2.1, hd.2.2.1.2, fun a ha b hb => hd.2.2.2 a ha b (.inr hb)⟩
  have hmem : ∀ x ∈ xs ++ ys, x.b ≠ s ∧ x.b ≠ n.b := by
    intro x hx
    simp only [List.map_append, List.map_cons, List.nodup_cons, List.nodup_append, List.mem_append, List.mem_cons, List.mem_map] at hd
    rcases List.mem_append.1 hx with hx | hx
    · exact ⟨fun e => hd.1 (.inl ⟨x, hx, e⟩), fun e => hd.2.2.2 x.b ⟨x, hx, rfl⟩ n.b (.inl rfl) e⟩
    · exact ⟨fun e => hd.1 (.inr (.inr ⟨x, hx, e⟩)), fun e => hd.2.2.1.1 ⟨x, hx, e⟩⟩
  rcases List.eq_nil_or_concat xs with rfl | ⟨xs, x, rfl⟩
  · cases ys with
    | nil =>
      refine ⟨⟨?_, trivial, by simp⟩, ?_⟩
      · have := hh.eq
        simp only [At, unlinked, first_nil, first_cons, last, List.nil_append, heap_setCell, if_true, if_neg hsn, if_neg (Ne.symm hsn)] at this ⊢
        simp [this, setRow, np]
      · have := cn.eq
        simp only [At, unlinked, first_nil, first_cons, last, heap_setCell, if_true, if_neg hsn, if_neg (Ne.symm hsn)] at this ⊢
        simp [this, setRow, nodeObj, nodeCells, np]
    | cons y ys =>
      have hy := hmem y (by simp)
      obtain ⟨cy, c4⟩ := c3
      refine ⟨⟨?_, ⟨?_, ?_⟩, hd'⟩, ?_⟩
      · have := hh.eq
        simp only [At, unlinked, first_nil, first_cons, last, List.nil_append, heap_setCell, if_true, if_neg (Ne.symm hsn), if_neg hy.1] at this ⊢
        simp [this, setRow, np]
      · have := cy.eq
        simp only [At, unlinked, first_nil, first_cons, last, heap_setCell, if_true, if_neg (Ne.symm hy.1), if_neg (Ne.symm hy.2)] at this ⊢
        simp [this, setRow, nodeObj, nodeCells, np]
      · refine chain_frame (fun z hz => heap_unlinked (hmem z (by simp [hz])).1 (hmem z (by simp [hz])).2 (by simp [last]) ?_) c4
        simp only [first_nil, first_cons, ne_eq, Option.some.injEq]
        simp only [List.nil_append, List.map_cons, List.nodup_cons, List.mem_map] at hd'
        exact fun e => hd'.2.1 ⟨z, hz, e.symm⟩
      · have := cn.eq
        simp only [At, unlinked, first_nil, first_cons, last, heap_setCell, if_true, if_neg hsn, if_neg hy.2] at this ⊢
        simp [this, setRow, nodeObj, nodeCells, np]
  · simp only [List.concat_eq_append] at *
    have hx := hmem x (by simp)
    obtain ⟨d1, dx, -⟩ := chain_append.1 c1
    rw [last_snoc] at cn
    cases ys with
    | nil =>
      simp only [List.append_nil] at *
      refine ⟨⟨?_, chain_append.2 ⟨?_, ?_, trivial⟩, hd'⟩, ?_⟩
      · have := hh.eq
        simp only [At, unlinked, last_snoc, first_nil, first_cons, heap_setCell, if_true, if_neg (Ne.symm hsn), if_neg hx.1] at this ⊢
        have e0 : first (xs ++ [x] ++ [n]) none = first (xs ++ [x]) none := by cases xs <;> rfl
        rw [e0] at this
        simp [this, setRow, np]
      · refine chain_frame (fun z hz => heap_unlinked (hmem z (by simp [hz])).1 (hmem z (by simp [hz])).2 ?_ (by simp [first])) d1
        rw [last_snoc]
        simp only [List.map_append, List.map_cons, List.map_nil, List.nodup_cons, List.nodup_append, List.mem_map, List.mem_cons, List.not_mem_nil, or_false] at hd'
        simp only [ne_eq, Option.some.injEq]
        exact fun e => hd'.2.2.2 z.b ⟨z, hz, rfl⟩ x.b rfl e.symm
      · have := dx.eq
        simp only [At, unlinked, last_snoc, first_nil, first_cons, heap_setCell, if_true, if_neg (Ne.symm hx.1), if_neg (Ne.symm hx.2)] at this ⊢
        simp [this, setRow, nodeObj, nodeCells, np]
      · have := cn.eq
        simp only [At, unlinked, last_snoc, first_nil, first_cons, heap_setCell, if_true, if_neg hsn, if_neg hx.2] at this ⊢
        simp [this, setRow, nodeObj, nodeCells, np]
    | cons y ys =>
      have hy := hmem y (by simp)
      have hxy : x.b ≠ y.b := by
        simp only [List.map_append, List.map_cons, List.map_nil, List.nodup_cons, List.nodup_append, List.mem_map, List.mem_append, List.mem_cons, List.not_mem_nil, or_false] at hd'
        exact hd'.2.2.2 x.b (.inr rfl) y.b (.inl rfl)
      obtain ⟨cy, c4⟩ := c3
      refine ⟨⟨?_, chain_append.2 ⟨chain_append.2 ⟨?_, ?_, trivial⟩, ?_, ?_⟩, hd'⟩, ?_⟩
      · have := hh.eq
        simp only [At, unlinked, last_snoc, first_nil, first_cons, heap_setCell, if_neg (Ne.symm hsn), if_neg hx.1, if_neg hy.1] at this ⊢
        have e0 : first (xs ++ [x] ++ n :: y :: ys) none = first (xs ++ [x] ++ y :: ys) none := by cases xs <;> rfl
        have e1 : last none (xs ++ [x] ++ n :: y :: ys) = last none (xs ++ [x] ++ y :: ys) := by simp only [last_append, last]
        rw [this, e0, e1]
      · refine chain_frame (fun z hz => heap_unlinked (hmem z (by simp [hz])).1 (hmem z (by simp [hz])).2 ?_ ?_) d1
        · rw [last_snoc]
          simp only [List.map_append, List.map_cons, List.map_nil, List.nodup_cons, List.nodup_append, List.mem_map, List.mem_append, List.mem_cons, List.not_mem_nil, or_false] at hd'
          simp only [ne_eq, Option.some.injEq]
          exact fun e => hd'.2.1.2.2 z.b ⟨z, hz, rfl⟩ x.b rfl e.symm
        · simp only [List.map_append, List.map_cons, List.map_nil, List.nodup_cons, List.nodup_append, List.mem_map, List.mem_append, List.mem_cons, List.not_mem_nil, or_false] at hd'
          simp only [first_nil, first_cons, ne_eq, Option.some.injEq]
          exact fun e => hd'.2.2.2 z.b (.inl ⟨z, hz, rfl⟩) y.b (.inl rfl) e.symm
      · have := dx.eq
        simp only [At, unlinked, last_snoc, first_nil, first_cons, heap_setCell, if_true, if_neg (Ne.symm hx.2), if_neg (Ne.symm hxy)] at this ⊢
        simp [this, setRow, nodeObj, nodeCells, np]
      · have := cy.eq
        simp only [At, unlinked, last_snoc, first_nil, first_cons, heap_setCell, if_true, if_neg (Ne.symm hy.2), if_neg hxy] at this ⊢
        simp [this, setRow, nodeObj, nodeCells, np]
      · rw [last_snoc] 
        refine chain_frame (fun z hz => heap_unlinked (hmem z (by simp [hz])).1 (hmem z (by simp [hz])).2 ?_ ?_) c4
        · simp only [List.map_append, List.map_cons, List.map_nil, List.nodup_cons, List.nodup_append, List.mem_map, List.mem_append, List.mem_cons, List.not_mem_nil, or_false] at hd'
          simp only [last_snoc, ne_eq, Option.some.injEq]
          exact fun e => hd'.2.2.2 x.b (.inr rfl) z.b (.inr ⟨z, hz, rfl⟩) e
        · simp only [List.map_append, List.map_cons, List.map_nil, List.nodup_cons, List.nodup_append, List.mem_map, List.mem_append, List.mem_cons, List.not_mem_nil, or_false] at hd'
          simp only [first_nil, first_cons, ne_eq, Option.some.injEq]
          exact fun e => hd'.2.2.1.1 ⟨z, hz, e.symm⟩
      · have := cn.eq
        simp only [At, unlinked, last_snoc, first_nil, first_cons, heap_setCell, if_true, if_neg hx.2, if_neg hy.2] at this ⊢
        simp [this, setRow, nodeObj, nodeCells, np]

theorem heap_appended {w : World} {s n : Nat} {pe : Option Nat} {k : Nat} (h1 : k ≠ s) (h2 : k ≠ n) (h3 : pe ≠ some k) : (appended w s n pe).heap[k]? = w.heap[k]? := by
  unfold appended
  cases pe <;> simp only [heap_setCell] <;> simp_all [Ne.symm h1, Ne.symm h2]
theorem keeps_appended {w : World} {s n : Nat} {pe : Option Nat} {S : Nat → Prop} (h1 : S s) (h2 : S n) (h3 : ∀ x, pe = some x → S x) : Keeps S w (appended w s n pe) := by
  unfold appended
  cases pe <;> simp only [] <;>
    refine Keeps.setCell (Keeps.setCell (Keeps.setCell (Keeps.refl _ _) (.inl h2)) ?_) (.inl h1) <;> first | exact .inl h1 | exact .inl (h3 _ rfl)
theorem size_appended {w : World} {s n : Nat} {pe : Option Nat} : (appended w s n pe).heap.size = w.heap.size := by
  unfold appended
  cases pe <;> simp only [size_setCell]

theorem raw_appended {w : World} {s m : Nat} {room : Int} {xs : List Node} {n : Node} (h : Raw w s m room xs) (hn : At w n.b (nodeObj n none none)) (hd : (s :: (xs ++ [n]).map (·.b)).Nodup) :
    Raw (appended w s n.b (last none xs)) s m room (xs ++ [n]) := by
  obtain ⟨hh, hc, hd0⟩ := h
  have hsn : s ≠ n.b := by simp at hd; exact hd.1.2
  have hmem : ∀ x ∈ xs, x.b ≠ s ∧ x.b ≠ n.b := by
    intro x hx
    simp only [List.map_append, List.map_cons, List.map_nil, List.nodup_cons, List.nodup_append, List.mem_append, List.mem_cons, List.mem_map, List.not_mem_nil, or_false] at hd
    exact ⟨fun e => hd.1 (.inl ⟨x, hx, e⟩), fun e => hd.2.2.2 x.b ⟨x, hx, rfl⟩ n.b rfl e⟩
  rcases List.eq_nil_or_concat xs with rfl | ⟨xs, x, rfl⟩
  · refine ⟨?_, ⟨?_, trivial⟩, hd⟩
    · have := hh.eq
      simp only [At, appended, first_nil, first_cons, last, List.nil_append, heap_setCell, if_true, if_neg (Ne.symm hsn)] at this ⊢
      simp [this, setRow, np]
    · have := hn.eq
      simp only [At, appended, first_nil, first_cons, last, List.nil_append, heap_setCell, if_true, if_neg hsn] at this ⊢
      simp [this, setRow, nodeObj, nodeCells, np]
  · simp only [List.concat_eq_append] at *
    have hx := hmem x (by simp)
    obtain ⟨d1, dx, -⟩ := chain_append.1 hc
    refine ⟨?_, chain_append.2 ⟨chain_append.2 ⟨?_, ?_, trivial⟩, ?_, trivial⟩, hd⟩
    · have := hh.eq
      have e0 : first (xs ++ [x] ++ [n]) none = first (xs ++ [x]) none := by cases xs <;> rfl
      rw [e0]
      simp only [At, appended, last_snoc, heap_setCell, if_true, if_neg (Ne.symm hsn), if_neg hx.1] at this ⊢
      simp [this, setRow, np]
    · refine chain_frame (fun z hz => heap_appended (hmem z (by simp [hz])).1 (hmem z (by simp [hz])).2 ?_) d1
      rw [last_snoc]
      simp only [List.map_append, List.map_cons, List.map_nil, List.nodup_cons, List.nodup_append, List.mem_map, List.mem_cons, List.not_mem_nil, or_false] at hd0
      simp only [ne_eq, Option.some.injEq]
      exact fun e => hd0.2.2.2 z.b ⟨z, hz, rfl⟩ x.b rfl e.symm
    · have := dx.eq
      simp only [At, appended, last_snoc, first_nil, first_cons, heap_setCell, if_true, if_neg (Ne.symm hx.1), if_neg (Ne.symm hx.2)] at this ⊢
      simp [this, setRow, nodeObj, nodeCells, np]
    · have := hn.eq
      simp only [At, appended, last_snoc, first_nil, first_cons, heap_setCell, if_true, if_neg hsn, if_neg hx.2] at this ⊢
      simp [this, setRow, nodeObj, nodeCells, np]
end Go.Proofs.Ytbjcamafaolgiaa.Sh
