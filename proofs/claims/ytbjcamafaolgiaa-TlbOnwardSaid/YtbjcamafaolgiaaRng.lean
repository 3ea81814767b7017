/- A loop over a function: what a round that appends to a slice of the caller's may turn (Kp); append of things of no size. No conditions. -/
import Derived.Test.YtbjcamafaolgiaaMem
import Derived.RangeFuncBox
import Derived.RangeFuncNested
import Derived.RangeFuncBound
import Derived.RangeFuncCalls
import Derived.RangeFuncLeaves
import Derived.Shelf.Abstract
import Derived.OwnWalkIn
import Derived.TacticsInMore
import Derived.LoopNIn
import Derived.LoopIn
import Derived.Maps.AppendAt
import Derived.Maps.OwnIn
import Derived.Sort.LoopGhostIn
import Derived.Deep.DeepCutAuto
import Derived.Deep.CutBlock
import Derived.RegionIn
import Derived.BigRegionIn
import Derived.Shelf.RegionOpen
namespace Go.Proofs.Ytbjcamafaolgiaa.Rng
open Go.RowKit Go.Proofs.Ytbjcamafaolgiaa.Mem
set_option linter.unusedSimpArgs false
set_option linter.unusedVariables false
set_option linter.unnecessarySimpa false

/-- The block of the slice that lies at q. -/
def rowOf (W : World) (q : Addr) : Option Nat := match W.cell? q with | some v => v.ownBlock | none => none

theorem rowOf_of {W W' : World} {q : Addr} (h : W'.cell? q = W.cell? q) : rowOf W' q = rowOf W q := by unfold rowOf; rw [h]

/-- What a round keeps that appends to the slice at q alone: all rows of cells from n₀ on but that slice's; that slice's row stays, or is new. -/
structure Kp (q : Addr) (n₀ : Nat) (A B : World) : Prop where
  size : A.heap.size ≤ B.heap.size
  same : ∀ k c t fr, n₀ ≤ k → At A k (.cells c t fr) → rowOf A q ≠ some k → At B k (.cells c t fr)
  row : ∀ k, rowOf B q = some k → rowOf A q = some k ∨ A.heap.size ≤ k

theorem kp_t {q : Addr} {n₀ : Nat} {A B C : World} (h : Kp q n₀ A B) (k : Kp q n₀ B C) : Kp q n₀ A C := by
  refine ⟨Nat.le_trans h.size k.size, fun i c t fr hi ha hr => ?_, fun i hi => ?_⟩
  · refine k.same i c t fr hi (h.same i c t fr hi ha hr) (fun e => ?_)
    rcases h.row i e with x | x
    · exact hr x
    · have := ha.lt; omega
  · rcases k.row i hi with x | x
    · exact h.row i x
    · exact .inr (Nat.le_trans h.size x)

theorem kp_b {q : Addr} {n₀ B : Nat} (hq : q.block < B) (W : World) (l : Nat) (o o' : Obj) (hl : B ≤ l) (ho : W.heap[l]? = some o) (hc : o.isCells = false) (_hw : o.isWalk = false) : Kp q n₀ W (W.putObj l o') := by
  have hr : rowOf (W.putObj l o') q = rowOf W q := rowOf_of (World.cell?_of_block (World.putObj_heap_other (by omega)))
  refine ⟨by simp, fun k c t fr hk ha hr' => ?_, fun k hk => .inl (hr ▸ hk)⟩
  refine (World.putObj_heap_other (fun e => ?_)).trans ha
  subst e
  rw [ha.eq] at ho; cases ho; cases hc

/-! ### append of things of no size -/
theorem run_append_zero {P : Program} (w : World) (base : Nat) (t ty e : TypeId) (i : TypeInfo) (z : Value) (ht : P.underlying t = some (.slice e)) (hi : P.info? e = some i) (hz : i.zero = some z)
    (hsize : i.size = 0) (hby : i.bytes = 0) (hzs : z.cells.size = 0) (v : Value) (n : Nat) (hown : w.ownsRow base e 0 v n []) (a : Addr) (c : Nat) (h63 : n + 1 ≤ maxLen) (hbase : base ≤ w.heap.size) :
    ∃ v' w', (Builtin.append_ #[t, t] ty #[v, .slice (some a) 1 c]).run P w = .ok v' w' ∧ w'.ownsRow base e 0 v' (n + 1) [] ∧ w.grownBy w' v.ownBlock := by
  have hsmall : n + 1 ≤ 9223372036854775807 := by simp only [maxLen] at h63; omega
  rcases hown.2 with ⟨rfl, rfl⟩ | ⟨g, cap, cur, rfl, hbg, hg, hnc, hcm, hcs, htake⟩
  · have hr := run_append_nil (P := P) w t ty e i z ht hi hz a 1 c [] (by simp [hsize]) (by simp) (by omega) (by omega) (by simp [hby])
    refine ⟨_, _, hr, ⟨by simp, .inr ⟨w.heap.size, _, _, rfl, hbase, heap_alloc_new w.drew _, grownCap_ge _ _ _ _, grownCap_le_maxLen _ _ _ _ (by simpa using h63), ?_, by simp⟩⟩, ⟨rfl, rfl, rfl, by simp, fun k hk _ => heap_alloc_old w.drew _ hk⟩⟩
    simp [Builtin.zeroCells, hzs]
  · by_cases hroom : n + 1 ≤ cap
    · have hcz : cur = #[] := Array.eq_empty_of_size_eq_zero (by simpa using hcs)
      have hr := run_append_room (P := P) w t ty e i ht hi g n cap cur hg a 1 c [] (by simp [hsize]) (by simp) (by simp) hroom (by simp [hsize])
      refine ⟨_, _, hr, ⟨by simp, .inr ⟨g, cap, _, rfl, hbg, setRow_heap w g cur _ e _ hg, hroom, hcm, ?_, by simp⟩⟩, ⟨rfl, rfl, rfl, by simp, fun k _ hk => setRow_other w g k _ (fun e => hk (by simp [Value.ownBlock, e]))⟩⟩
      simp [hcz]
    · have hr := run_append_grow (P := P) w t ty e i z ht hi hz ⟨g, 0, none⟩ n cap [] (by simp [hsize]) (by simp) a 1 c [] (by simp [hsize]) (by simp) (by omega) (by omega) (by simp [hby])
      refine ⟨_, _, hr, ⟨by simp, .inr ⟨w.heap.size, _, _, rfl, hbase, heap_alloc_new w.drew _, grownCap_ge _ _ _ _, grownCap_le_maxLen _ _ _ _ h63, ?_, by simp⟩⟩, ⟨rfl, rfl, rfl, by simp, fun k hk _ => heap_alloc_old w.drew _ hk⟩⟩
      simp [Builtin.zeroCells, hzs]

theorem wpList_append_zero {P : Program} (w : World) {ops : Array Oper} {rest : List Oper} {o : Oper} {a : Act} {Q : Exit → Act → World → Prop} (hgd : o.guard = none) (s x : Operand) (t : TypeId)
    (ho : o.op = .call { callee := .builtin .append, args := #[s, x], argTypes := #[t, t] })
    (base : Nat) (e : TypeId) (i : TypeInfo) (z : Value) (ht : P.underlying t = some (.slice e)) (hi : P.info? e = some i) (hz : i.zero = some z)
    (hsize : i.size = 0) (hby : i.bytes = 0) (hzs : z.cells.size = 0)
    (v : Value) (n : Nat) (hs : a.eval s = v) (hown : w.ownsRow base e 0 v n [])
    (ad : Addr) (c : Nat) (hx : a.eval x = .slice (some ad) 1 c) (h63 : n + 1 ≤ maxLen) (hbase : base ≤ w.heap.size)
    (h : ∀ v' w', w'.ownsRow base e 0 v' (n + 1) [] → w.grownBy w' v.ownBlock → wpList P ops Q rest (a.put o.dst v') w') :
    wpList P ops Q (o :: rest) a w := by
  refine wpList_plain hgd fun K hK => ?_
  obtain ⟨v', w', hr, h2, h3⟩ := run_append_zero (P := P) w base t o.type e i z ht hi hz hsize hby hzs v n hown ad c h63 hbase
  unfold Oper.wp execOp
  simp only [ho, resolve, invoke, builtin, Sem.run_bind, Sem.run_pure, Result.andThen_ok, List.map_toArray, List.map_cons, List.map_nil, hs, hx, hr]
  exact hK _ _ (h v' w' h2 h3)

theorem flat3 {α : Type} (f : α → List Value) (hf : ∀ n, (f n).length = 3) : ∀ (pre : List α) (j : Nat) (nd : α) (i : Nat), pre[j]? = some nd → i < 3 → (pre.flatMap f)[j * 3 + i]? = (f nd)[i]? := by
  intro pre
  induction pre with
  | nil => intro j nd i h; simp at h
  | cons a pre ih =>
    intro j nd i h hi
    rw [List.flatMap_cons]
    cases j with
    | zero => simp at h; subst h; rw [List.getElem?_append_left (by rw [hf]; omega)]; simp
    | succ j =>
      rw [List.getElem?_append_right (by rw [hf]; omega), hf]
      have e : (j + 1) * 3 + i - 3 = j * 3 + i := by omega
      rw [e]; exact ih j nd i (by simpa using h) hi

theorem cell_three_new (w : World) (x y z : Value) (t : TypeId) : ∀ j u, [x, y, z][j]? = some u → (w.alloc (.cells #[x, y, z] t)).cell? ((⟨w.heap.size, 0, none⟩ : Addr).add j) = some u := by
  intro j u hj
  have hA := At.new w (.cells #[x, y, z] t (0, 0))
  match j, hj with
  | 0, hj => simp at hj; subst hj; simpa [Addr.add] using hA.cell (i := 0) rfl
  | 1, hj => simp at hj; subst hj; simpa [Addr.add] using hA.cell (i := 1) rfl
  | 2, hj => simp at hj; subst hj; simpa [Addr.add] using hA.cell (i := 2) rfl
  | n + 3, hj => simp at hj
end Go.Proofs.Ytbjcamafaolgiaa.Rng
