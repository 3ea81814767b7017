/- Memory told block by block: what a block holds, which blocks a call may have turned, and a map with int keys as a list of pairs. No conditions. -/
import Derived.Test.YtnjhekfgmbpmlaaDoorProg
import Derived.WalkKit
import Derived.WalkLawsBesides
import Derived.WalkSpells
import Derived.Lib.Hide
import Derived.BigQuiet
import Derived.BigRegion
import Derived.Deep.QuietTactic
import Derived.Deep.LoopGhost
import Derived.Deep.RegionWith
import Derived.RangeFuncRecord
import Derived.Maps.OwnOps
import Derived.KernelRfl
namespace Go.Proofs.YtnjhekfgmbpmlaaDoor.Mem
open Go.RowKit

/-- Block b holds o. -/
def At (w : World) (b : Nat) (o : Obj) : Prop := w.heap[b]? = some o

section
variable {w : World} {b : Nat} {o : Obj}
theorem At.eq (h : At w b o) : w.heap[b]? = some o := h
theorem At.lt (h : At w b o) : b < w.heap.size := (Array.getElem?_eq_some_iff.1 h).1
theorem At.ne (h : At w b o) : b ≠ w.heap.size := by have := h.lt; omega
theorem At.uniq {o' : Obj} (h : At w b o) (h' : At w b o') : o = o' := Option.some.inj (h.eq.symm.trans h'.eq)
theorem At.cell {c : Array Value} {t : TypeId} {fr : Nat × Nat} (h : At w b (.cells c t fr)) {i : Nat} {v : Value} (hc : c[i]? = some v) : w.cell? ⟨b, i, none⟩ = some v := by
  simp [World.cell?, h.eq, hc]
theorem At.free {c : Array Value} {t : TypeId} (h : At w b (.cells c t (0, 0))) (i : Nat) : w.frozen? ⟨b, i, none⟩ = false := by
  simp [World.frozen?, h.eq]
end

/-- What a store does to what a block holds. -/
def setRow (i : Nat) (v : Value) : Option Obj → Option Obj
  | some (.cells c t fr) => some (.cells (c.setIfInBounds i v) t fr)
  | x => x
theorem setRow_cells (i : Nat) (v : Value) (c : Array Value) (t : TypeId) (fr : Nat × Nat) : setRow i v (some (.cells c t fr)) = some (.cells (c.setIfInBounds i v) t fr) := rfl

theorem heap_setCell (w : World) (b i : Nat) (v : Value) (k : Nat) : (w.setCell ⟨b, i, none⟩ v).heap[k]? = if b = k then setRow i v w.heap[k]? else w.heap[k]? := by
  simp only [World.setCell, Array.getElem?_modify]
  by_cases h : b = k
  · subst h
    simp only [if_true]
    cases hk : w.heap[b]? with
    | none => rfl
    | some o => cases o <;> simp [setRow]
  · simp [h]
theorem heap_alloc (w : World) (o : Obj) (k : Nat) : (w.alloc o).heap[k]? = if k = w.heap.size then some o else w.heap[k]? := by
  show (w.heap.push o)[k]? = _
  rw [Array.getElem?_push]
theorem heap_drew (w : World) (k : Nat) : w.drew.heap[k]? = w.heap[k]? := rfl
theorem size_setCell (w : World) (a : Addr) (v : Value) : (w.setCell a v).heap.size = w.heap.size := by simp [World.setCell]
theorem size_alloc (w : World) (o : Obj) : (w.alloc o).heap.size = w.heap.size + 1 := by simp
theorem size_drew (w : World) : w.drew.heap.size = w.heap.size := rfl
theorem heap_putObj (w : World) (r : Nat) (o : Obj) (k : Nat) : (w.putObj r o).heap[k]? = if r = k ∧ k < w.heap.size then some o else w.heap[k]? := by
  simp only [World.putObj]
  by_cases h : r = k
  · subst h
    by_cases h2 : r < w.heap.size
    · simp [h2]
    · simp [h2]
  · simp [h, Array.getElem?_setIfInBounds_ne h]

theorem At.setCell_same {w : World} {b : Nat} {c : Array Value} {t : TypeId} {fr : Nat × Nat} (h : At w b (.cells c t fr)) (i : Nat) (v : Value) : At (w.setCell ⟨b, i, none⟩ v) b (.cells (c.setIfInBounds i v) t fr) := by
  unfold At; rw [heap_setCell, if_pos rfl, h.eq]; rfl
theorem At.setCell_ne {w : World} {b b' : Nat} {o : Obj} (h : At w b o) (hne : b' ≠ b) (i : Nat) (v : Value) : At (w.setCell ⟨b', i, none⟩ v) b o := by
  unfold At; rw [heap_setCell, if_neg hne]; exact h
theorem At.alloc {w : World} {b : Nat} {o : Obj} (h : At w b o) (o' : Obj) : At (w.alloc o') b o := by
  unfold At; rw [heap_alloc, if_neg h.ne]; exact h
theorem At.new (w : World) (o : Obj) : At (w.alloc o) w.heap.size o := by unfold At; rw [heap_alloc, if_pos rfl]
theorem At.putObj_ne {w : World} {b b' : Nat} {o : Obj} (h : At w b o) (hne : b' ≠ b) (o' : Obj) : At (w.putObj b' o') b o := by
  unfold At; rw [heap_putObj, if_neg (fun x => hne x.1)]; exact h
theorem At.putObj_same {w : World} {b : Nat} {o : Obj} (h : At w b o) (o' : Obj) : At (w.putObj b o') b o' := by
  unfold At; rw [heap_putObj, if_pos ⟨rfl, h.lt⟩]

/-- Only blocks of S, and new ones, may have turned. -/
structure Keeps (S : Nat → Prop) (w w' : World) : Prop where
  os : w'.os = w.os
  tape : w'.tape = w.tape
  output : w'.output = w.output
  size : w.heap.size ≤ w'.heap.size
  block : ∀ k, k < w.heap.size → ¬ S k → w'.heap[k]? = w.heap[k]?

section
variable {S T : Nat → Prop} {a w w' : World}
theorem Keeps.refl (S : Nat → Prop) (w : World) : Keeps S w w := ⟨rfl, rfl, rfl, Nat.le_refl _, fun _ _ _ => rfl⟩
theorem Keeps.trans (h : Keeps S a w) (k : Keeps T w w') (hT : ∀ i, i < a.heap.size → T i → S i) : Keeps S a w' :=
  ⟨k.os.trans h.os, k.tape.trans h.tape, k.output.trans h.output, Nat.le_trans h.size k.size,
    fun i hi hn => (k.block i (Nat.lt_of_lt_of_le hi h.size) (fun x => hn (hT i hi x))).trans (h.block i hi hn)⟩
theorem Keeps.mono (h : Keeps S a w) (hT : ∀ i, i < a.heap.size → S i → T i) : Keeps T a w :=
  ⟨h.os, h.tape, h.output, h.size, fun i hi hn => h.block i hi (fun x => hn (hT i hi x))⟩
theorem Keeps.drew (h : Keeps S a w) : Keeps S a w.drew := ⟨h.os, h.tape, h.output, h.size, h.block⟩
theorem Keeps.setCell (h : Keeps S a w) {b i : Nat} {v : Value} (hb : S b ∨ a.heap.size ≤ b) : Keeps S a (w.setCell ⟨b, i, none⟩ v) :=
  ⟨h.os, h.tape, h.output, by rw [size_setCell]; exact h.size, fun k hk hn => by
    rw [heap_setCell, if_neg (fun e => by rcases hb with x | x; exact hn (e ▸ x); omega)]; exact h.block k hk hn⟩
theorem Keeps.alloc (h : Keeps S a w) (o : Obj) : Keeps S a (w.alloc o) :=
  ⟨h.os, h.tape, h.output, by rw [size_alloc]; have := h.size; omega, fun k hk hn => by
    rw [heap_alloc, if_neg (by have := h.size; omega)]; exact h.block k hk hn⟩
theorem Keeps.putObj (h : Keeps S a w) {b : Nat} {o : Obj} (hb : S b ∨ a.heap.size ≤ b) : Keeps S a (w.putObj b o) :=
  ⟨h.os, h.tape, h.output, by simpa using h.size, fun k hk hn => by
    rw [heap_putObj, if_neg (fun e => by rcases hb with x | x; exact hn (e.1 ▸ x); omega)]; exact h.block k hk hn⟩
theorem Keeps.get (h : Keeps S w w') {b : Nat} {o : Obj} (hb : At w b o) (hn : ¬ S b) : At w' b o := (h.block b hb.lt hn).trans hb
theorem Keeps.below (h : Keeps S w w') {B : Nat} (hB : B ≤ w.heap.size) (hS : ∀ k, k < B → ¬ S k) : Below B w w' :=
  ⟨h.os, h.tape, h.output, h.size, fun k hk => h.block k (by omega) (hS k hk)⟩
theorem Keeps.of_below {B : Nat} (h : Below B w w') : Keeps (fun k => B ≤ k) w w' :=
  ⟨h.os, h.tape, h.output, h.size, fun k _ hn => h.block k (by omega)⟩
theorem Keeps.of_grownBy {row : Option Nat} (h : w.grownBy w' row) : Keeps (fun k => some k = row) w w' :=
  ⟨h.os, h.tape, h.output, h.size, fun k hk hn => h.block k hk hn⟩
theorem Keeps.of_drew (h : Keeps S a.drew w) : Keeps S a w := ⟨h.os, h.tape, h.output, h.size, h.block⟩
theorem Keeps.of_drewN {n : Nat} (h : Keeps S (a.drewN n) w) : Keeps S a w := ⟨h.os, h.tape, h.output, h.size, h.block⟩
theorem Keeps.drewN (h : Keeps S a w) (n : Nat) : Keeps S a (w.drewN n) := ⟨h.os, h.tape, h.output, h.size, h.block⟩
end

/-! ### a map with int keys -/
/-- Block b is a map that holds just these pairs, in this order. -/
def MapIs (w : World) (b : Nat) (l : List (Int × Value)) : Prop :=
  ∃ es c, At w b (.map es c) ∧ es.toList.map (fun e => (e.key, e.val)) = l.map (fun x => (Value.int .i64 x.1, x.2))

theorem MapIs.at {w : World} {b : Nat} {l : List (Int × Value)} (h : MapIs w b l) : ∃ o, At w b o := by obtain ⟨es, c, h, _⟩ := h; exact ⟨_, h⟩
theorem MapIs.lt {w : World} {b : Nat} {l : List (Int × Value)} (h : MapIs w b l) : b < w.heap.size := by obtain ⟨o, h⟩ := h.at; exact h.lt
theorem MapIs.of_heap {w w' : World} {b : Nat} {l : List (Int × Value)} (h : MapIs w b l) (e : w'.heap[b]? = w.heap[b]?) : MapIs w' b l := by
  obtain ⟨es, c, hb, he⟩ := h; exact ⟨es, c, e.trans hb, he⟩

/-- Where a key stands. -/
def find (k : Int) : List (Int × Value) → Nat → Option (Nat × Value)
  | [], _ => none
  | x :: r, i => if k = x.1 then some (i, x.2) else find k r (i + 1)

theorem findNow_eq (k : Int) : ∀ (es : List MapEntry) (l : List (Int × Value)) (i : Nat), es.map (fun e => (e.key, e.val)) = l.map (fun x => (Value.int .i64 x.1, x.2)) →
    Instr.findNow (.int .i64) (.int .i64 k) es i = some (find k l i)
  | [], [], _, _ => rfl
  | [], _ :: _, _, h => by simp at h
  | _ :: _, [], _, h => by simp at h
  | e :: es, x :: l, i, h => by
    simp only [List.map_cons, List.cons.injEq, Prod.mk.injEq] at h
    obtain ⟨⟨hk, hv⟩, ht⟩ := h
    simp only [Instr.findNow, hk, Instr.sameNow, if_true, find]
    by_cases e1 : k = x.1
    · simp [e1, hv]
    · have : (k == x.1) = false := by simp [e1]
      simp only [this, if_neg e1]
      exact findNow_eq k es l (i + 1) ht

theorem find_none {k : Int} : ∀ {l : List (Int × Value)} {i : Nat}, find k l i = none ↔ ∀ v, (k, v) ∉ l
  | [], _ => by simp [find]
  | x :: l, i => by
    simp only [find]
    by_cases h : k = x.1
    · simp only [if_pos h]
      constructor
      · intro h'; cases h'
      · intro h'; exact absurd (List.mem_cons.2 (.inl (by rw [h]))) (h' x.2)
    · rw [if_neg h, find_none]
      constructor
      · intro h' v hm
        rcases List.mem_cons.1 hm with e | e
        · exact h (by rw [← e])
        · exact h' v e
      · intro h' v hm; exact h' v (List.mem_cons_of_mem _ hm)

theorem find_some {k : Int} {v : Value} : ∀ {l : List (Int × Value)} {i : Nat}, (l.map (·.1)).Nodup → (k, v) ∈ l → ∃ j, find k l i = some (i + j, v) ∧ l[j]? = some (k, v)
  | [], _, _, h => by simp at h
  | x :: l, i, hn, h => by
    simp only [List.map_cons, List.nodup_cons] at hn
    simp only [find]
    rcases List.mem_cons.1 h with e | e
    · subst e; exact ⟨0, by simp, by simp⟩
    · have hne : ¬ k = x.1 := fun e' => hn.1 (by rw [← e']; exact List.mem_map.2 ⟨_, e, rfl⟩)
      rw [if_neg hne]
      obtain ⟨j, h1, h2⟩ := find_some (i := i + 1) hn.2 e
      exact ⟨j + 1, by rw [h1]; congr 2; omega, by simpa using h2⟩

theorem map_eraseIdx {α β : Type} (f : α → β) : ∀ (l : List α) (j : Nat), (l.eraseIdx j).map f = (l.map f).eraseIdx j
  | [], _ => rfl
  | _ :: _, 0 => rfl
  | x :: l, j + 1 => by simp [map_eraseIdx f l j]
theorem eraseIdx_eraseP {k : Int} {v : Value} : ∀ {l : List (Int × Value)} {j : Nat}, (l.map (·.1)).Nodup → l[j]? = some (k, v) → l.eraseIdx j = l.eraseP (fun x => x.1 == k)
  | [], j, _, h => by simp at h
  | x :: l, 0, _, h => by simp at h; simp [h]
  | x :: l, j + 1, hn, h => by
    simp only [List.map_cons, List.nodup_cons] at hn
    simp at h
    have hm : (k, v) ∈ l := List.mem_of_getElem? h
    have hne : ¬ x.1 = k := fun e => hn.1 (by rw [e]; exact List.mem_map.2 ⟨_, hm, rfl⟩)
    rw [List.eraseIdx_cons_succ, List.eraseP_cons_of_neg (by simpa using hne), eraseIdx_eraseP hn.2 h]

section ops
variable {P : Program} {t tk te : TypeId} {w : World} {b : Nat} {l : List (Int × Value)}

theorem checkKey_int (e : Bool) (ht : P.underlying tk = some (.int .i64)) (k : Int) : (Instr.checkKey e 10000 tk (.int .i64 k)).run P w = .ok () w :=
  MapKept.run_checkKey ht (by simp [MapKept.IsKey]) e 9999

theorem run_findKey (ht : P.underlying tk = some (.int .i64)) (k : Int) {es : List MapEntry} (h : es.map (fun e => (e.key, e.val)) = l.map (fun x => (Value.int .i64 x.1, x.2))) :
    (Instr.findKey tk (.int .i64 k) es).run P w = .ok (find k l 0) w :=
  MapKept.run_findKey ht (findNow_eq k es l 0 h)

/-- 'm[k]', 'v, ok := m[k]': the key is there. -/
theorem MapIs.run_lookup (h : MapIs w b l) (hm : P.underlying t = some (.map tk te)) (ht : P.underlying tk = some (.int .i64)) (k : Int) (v : Value) (hn : (l.map (·.1)).Nodup) (hk : (k, v) ∈ l) (ok : Bool) :
    (Instr.lookup t (.map (some b)) (.int .i64 k) ok).run P w = .ok (if ok then .tuple #[v, .bool true] else v) w := by
  obtain ⟨es, c, hb, he⟩ := h
  obtain ⟨j, hj, _⟩ := find_some (i := 0) hn hk
  have hf := run_findKey (P := P) (w := w) ht k he
  simp [Instr.lookup, run_underlying hm, getObj, Sem.run, hb.eq, checkKey_int, ht, hf, hj]
/-- .. it is not. -/
theorem MapIs.run_lookup_none (h : MapIs w b l) (hm : P.underlying t = some (.map tk te)) (ht : P.underlying tk = some (.int .i64)) {z : Value} (hz : (zeroValue te).run P w = .ok z w) (k : Int) (hk : ∀ v, (k, v) ∉ l) (ok : Bool) :
    (Instr.lookup t (.map (some b)) (.int .i64 k) ok).run P w = .ok (if ok then .tuple #[z, .bool false] else z) w := by
  obtain ⟨es, c, hb, he⟩ := h
  have hj := (find_none (i := 0)).2 hk
  have hf := run_findKey (P := P) (w := w) ht k he
  simp [Instr.lookup, run_underlying hm, getObj, Sem.run, hb.eq, checkKey_int, ht, hf, hj, hz]
/-- 'm[k] = v', k not there. -/
theorem MapIs.run_update_new (h : MapIs w b l) (hm : P.underlying t = some (.map tk te)) (ht : P.underlying tk = some (.int .i64)) (k : Int) (v : Value) (hk : ∀ v, (k, v) ∉ l) :
    ∃ w', (Instr.mapUpdate t (.map (some b)) (.int .i64 k) v).run P w = .ok () w' ∧ MapIs w' b (l ++ [(k, v)]) ∧ Keeps (· = b) w w' ∧ w'.heap.size = w.heap.size := by
  obtain ⟨es, c, hb, he⟩ := h
  have hj := (find_none (i := 0)).2 hk
  have hf := run_findKey (P := P) (w := w) ht k he
  refine ⟨w.putObj b (.map (es.push { key := .int .i64 k, val := v, born := c }) (c + 1)), ?_, ⟨_, _, hb.putObj_same _, by simp [he]⟩, (Keeps.refl _ _).putObj (.inl rfl), by simp⟩
  simp [Instr.mapUpdate, run_underlying hm, getObj, setObj, Sem.run, hb.eq, checkKey_int, ht, hf, hj, World.putObj]
/-- 'delete(m, k)', k there. -/
theorem MapIs.run_delete (h : MapIs w b l) (hm : P.underlying t = some (.map tk te)) (ht : P.underlying tk = some (.int .i64)) (k : Int) (v : Value) (hn : (l.map (·.1)).Nodup) (hk : (k, v) ∈ l) :
    ∃ w', (∀ ty, (Builtin.delete_ #[t, tk] ty #[.map (some b), .int .i64 k]).run P w = .ok (.tuple #[]) w') ∧ MapIs w' b (l.eraseP (fun x => x.1 == k)) ∧ Keeps (· = b) w w' ∧ w'.heap.size = w.heap.size := by
  obtain ⟨es, c, hb, he⟩ := h
  obtain ⟨j, hj, hjl⟩ := find_some (i := 0) hn hk
  have hf := run_findKey (P := P) (w := w) ht k he
  refine ⟨w.putObj b (.map (es.eraseIdxIfInBounds j) c), fun ty => ?_, ⟨_, _, hb.putObj_same _, ?_⟩, (Keeps.refl _ _).putObj (.inl rfl), by simp⟩
  · simp [Builtin.delete_, run_underlying hm, getObj, setObj, Sem.run, hb.eq, checkKey_int, ht, hf, hj, World.putObj]
  · have e1 : (es.eraseIdxIfInBounds j).toList = es.toList.eraseIdx j := by
      unfold Array.eraseIdxIfInBounds
      split
      · simp
      · rename_i hh; rw [List.eraseIdx_of_length_le (by simpa using hh)]
    rw [e1, map_eraseIdx, he, ← map_eraseIdx, eraseIdx_eraseP hn hjl]
/-- 'len(m)'. -/
theorem MapIs.run_len (h : MapIs w b l) (hm : P.underlying t = some (.map tk te)) (ty : TypeId) : (Builtin.len_ #[t] ty #[.map (some b)]).run P w = .ok (.int .i64 (l.length : Int)) w := by
  obtain ⟨es, c, hb, he⟩ := h
  have hs : es.size = l.length := by have := congrArg List.length he; simpa using this
  simp [Builtin.len_, run_underlying hm, getObj, Sem.run, hb.eq, goInt, hs]
end ops

/-- 'm[k] = v' at the operation, k not there. -/
theorem wpList_mapUpdate_new {P : Program} {w : World} {ops : Array Oper} {rest : List Oper} {o : Oper} {a : Act} {Q : Exit → Act → World → Prop} {t tk te : TypeId} {b : Nat} {l : List (Int × Value)}
    (hg : o.guard = none) (m x v : Operand) (hop : o.op = Op.mapUpdate t m x v) (hm : P.underlying t = some (.map tk te)) (ht : P.underlying tk = some (.int .i64))
    (hb : a.eval m = .map (some b)) (k : Int) (hx : a.eval x = .int .i64 k) (val : Value) (hv : a.eval v = val) (h : MapIs w b l) (hk : ∀ v, (k, v) ∉ l)
    (hK : ∀ w', MapIs w' b (l ++ [(k, val)]) → Keeps (· = b) w w' → w'.heap.size = w.heap.size → wpList P ops Q rest (a.put o.dst undef) w') : wpList P ops Q (o :: rest) a w := by
  refine wpList_plain hg fun K' hK' => ?_
  obtain ⟨w', hrun, r1, r2, r3⟩ := h.run_update_new hm ht k val hk
  unfold Oper.wp
  simp [execOp, hop, hb, hx, hv, hrun, Result.andThen]
  exact hK' _ _ (hK w' r1 r2 r3)
end Go.Proofs.YtnjhekfgmbpmlaaDoor.Mem
