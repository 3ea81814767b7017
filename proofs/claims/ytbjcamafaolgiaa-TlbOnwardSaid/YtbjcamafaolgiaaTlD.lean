/- tlb: Leaves, walked once (under way): what a round of its loop does. No conditions. -/
import Derived.Test.YtbjcamafaolgiaaTlC
import Derived.Test.YtbjcamafaolgiaaShG
namespace Go.Proofs.Ytbjcamafaolgiaa.Tl
open Go.RowKit Go.Proofs.Ytbjcamafaolgiaa.Mem Go.Proofs.Ytbjcamafaolgiaa.Sh Go.Proofs.Ytbjcamafaolgiaa.Rng
set_option linter.unusedSimpArgs false
set_option linter.unusedVariables false
attribute [local go_sem] Oper.semAt_some

abbrev cells3 (v : V) : List Value := [.int .i64 v.1, .int .i64 v.2.1, .int .i64 v.2.2]
def rows3 (pre : List V) : List Value := pre.flatMap cells3
theorem rows3_snoc (pre : List V) (x : V) : rows3 (pre ++ [x]) = rows3 pre ++ cells3 x := by simp [rows3]

/-- A list in a box grows while a loop over a function goes: what the other blocks hold stays. -/
structure Row3 (w0 : World) (bo : Nat) (pre : List V) (W : World) : Prop where
  keeps : Keeps (fun b => b = bo) w0 W
  row : ∃ v, At W bo (.cells #[v] 22 (0, 0)) ∧ W.ownsRow w0.heap.size 26 3 v pre.length (rows3 pre)

theorem own_ne_at {w : World} {base e e' sz n : Nat} {v : Value} {xs : List Value} {g : Nat} {c : Array Value} {fr : Nat × Nat} (h : w.ownsRow base e sz v n xs) (hg : At w g (.cells c e' fr)) (he : e ≠ e') : v.ownBlock ≠ some g := by
  intro e1
  rcases h.2 with ⟨rfl, -⟩ | ⟨g', cap, cur, rfl, -, hg', -⟩
  · simp [Value.ownBlock] at e1
  · simp only [Value.ownBlock, Option.some.injEq] at e1
    subst e1; rw [hg.eq] at hg'; simp at hg'; exact he hg'.2.1.symm

theorem row3_own {w0 : World} {bo : Nat} (hbo : bo < w0.heap.size) : OwnFrom w0.heap.size (fun (pre : List (Int × V)) W => Row3 w0 bo (pre.map (·.2)) W) := by
  rintro s W W' row ⟨hk, v, ha, ho⟩ hg hr
  have hW : W.heap.size ≤ W'.heap.size := hg.size
  have hne : ∀ b c t fr, At W b (.cells c t fr) → some b ≠ row := by
    intro b c t fr hb e
    obtain ⟨-, o, ho', hc⟩ := hr b e.symm
    rw [hb.eq] at ho'; cases ho'; cases hc
  refine ⟨⟨hg.os.trans hk.os, hg.tape.trans hk.tape, hg.output.trans hk.output, Nat.le_trans hk.size hW, fun i hi hn => ?_⟩, v, ?_, ho.kept hg ?_⟩
  · refine (hg.block i (Nat.lt_of_lt_of_le hi hk.size) (fun e => ?_)).trans (hk.block i hi hn)
    have := (hr i e.symm).1; omega
  · exact (hg.block bo (Nat.lt_of_lt_of_le hbo hk.size) (hne bo _ _ _ ha)).trans ha
  · rcases ho.2 with ⟨rfl, -⟩ | ⟨g, cap, cur, rfl, -, hgg, -⟩
    · exact .inl rfl
    · exact .inr (hne g _ _ _ hgg)

/-- One round: what is behind the append (of a leaf that lies in X) and the store. -/
theorem row3_step {w0 W w2 : World} {bo : Nat} {pre : List V} {v v' : Value} {x : V} {X : Obj} (h : Keeps (fun b => b = bo) w0 W) (hbo : bo < w0.heap.size)
    (ha : At W bo (.cells #[v] 22 (0, 0))) (ho : W.ownsRow w0.heap.size 26 3 v pre.length (rows3 pre))
    (ho2 : w2.ownsRow w0.heap.size 26 3 v' (pre.length + 1) (rows3 pre ++ cells3 x)) (hg : (W.alloc X).grownBy w2 v.ownBlock)
    (hat : v'.ownBlock = v.ownBlock ∨ v'.ownBlock = some (W.heap.size + 1)) :
    KeepsFrom w0.heap.size W (w2.setCell ⟨bo, 0, none⟩ v') ∧ Kp ⟨bo, 0, none⟩ w0.heap.size W (w2.setCell ⟨bo, 0, none⟩ v') ∧ Row3 w0 bo (pre ++ [x]) (w2.setCell ⟨bo, 0, none⟩ v') := by
  have hz := h.size
  have hoff := own_ne_at ho ha (by decide)
  have hsz : W.heap.size + 1 ≤ w2.heap.size := by have := hg.size; rw [size_alloc] at this; exact this
  have hblk : ∀ i, i < W.heap.size → v.ownBlock ≠ some i → w2.heap[i]? = W.heap[i]? := by
    intro i hi hn
    refine (hg.block i (by rw [size_alloc]; omega) (fun e => hn e.symm)).trans ?_
    rw [heap_alloc, if_neg (by omega)]
  have ha2 : At w2 bo (.cells #[v] 22 (0, 0)) := (hblk bo (by omega) hoff).trans ha
  have hrow : rowOf W ⟨bo, 0, none⟩ = v.ownBlock := by unfold rowOf; rw [ha.cell (v := v) rfl]
  have ha3 : At (w2.setCell ⟨bo, 0, none⟩ v') bo (.cells #[v'] 22 (0, 0)) := ha2.setCell_same 0 v'
  have hrow2 : rowOf (w2.setCell ⟨bo, 0, none⟩ v') ⟨bo, 0, none⟩ = v'.ownBlock := by unfold rowOf; rw [ha3.cell (v := v') rfl]
  have hoff2 := own_ne_at ho2 ha2 (by decide)
  refine ⟨⟨by rw [size_setCell]; omega, fun i o hi hio hc => ?_⟩, ⟨by rw [size_setCell]; omega, fun i c t fr hi hA hr => ?_, fun i hi => ?_⟩, ⟨⟨?_, ?_, ?_, ?_, fun i hi hn => ?_⟩, v', ha3, ?_⟩⟩
  · rw [heap_setCell, if_neg (by omega)]
    refine (hblk i (Array.getElem?_eq_some_iff.1 hio).1 (fun e => ?_)).trans hio
    rcases ho.2 with ⟨rfl, -⟩ | ⟨g, cap, cur, rfl, -, hgg, -⟩
    · simp [Value.ownBlock] at e
    · simp only [Value.ownBlock, Option.some.injEq] at e
      subst e; rw [hgg] at hio; cases hio; cases hc
  · refine At.setCell_ne ?_ (by omega) _ _
    exact (hblk i hA.lt (fun e => hr (hrow.trans e))).trans hA
  · rw [hrow2] at hi
    rcases hat with e | e
    · exact .inl (hrow.trans (e ▸ hi))
    · right; rw [e] at hi; simp at hi; omega
  · exact hg.os.trans h.os
  · exact hg.tape.trans h.tape
  · exact hg.output.trans h.output
  · rw [size_setCell]; omega
  · rw [heap_setCell, if_neg (fun e => hn e.symm)]
    refine (hblk i (by omega) (fun e => ?_)).trans (h.block i hi hn)
    have := own_base ho i e; omega
  · have : w2.ownsRow w0.heap.size 26 3 v' (pre ++ [x]).length (rows3 (pre ++ [x])) := by rw [rows3_snoc]; simpa using ho2
    refine this.kept (row := some bo) ⟨rfl, rfl, rfl, by rw [size_setCell]; exact Nat.le_refl _, fun i hi hn => by rw [heap_setCell, if_neg (fun e => hn (by rw [e]))]⟩ (.inr hoff2)
end Go.Proofs.Ytbjcamafaolgiaa.Tl
