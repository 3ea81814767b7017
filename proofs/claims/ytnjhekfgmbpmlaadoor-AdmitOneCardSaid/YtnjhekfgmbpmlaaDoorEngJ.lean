/- The engine, tenth part: a block known whole becomes a row. No conditions. -/
import Derived.Test.YtnjhekfgmbpmlaaDoorEngG
namespace Go.Proofs.YtnjhekfgmbpmlaaDoor.Eng
open Go Go.Proofs.YtnjhekfgmbpmlaaDoor.Mem
set_option linter.unusedSimpArgs false
set_option linter.unusedVariables false

theorem Sat.conv {A : AW} {w : World} (h : Sat A w) {i : Nat} {c c' : Ch} (hi : A.σ[i]? = some c) (hk : c'.key = c.key) (hh : c.holds w → c'.holds w) (hst : c'.stable) : Sat { A with σ := A.σ.set i c' } w := by
  have hlt : i < A.σ.length := (List.getElem?_eq_some_iff.1 hi).1
  have hci : A.σ[i] = c := (List.getElem?_eq_some_iff.1 hi).2
  have hin : ∀ d ∈ A.σ.set i c', d ∈ A.σ ∨ d = c' := fun d hd => List.mem_or_eq_of_mem_set hd
  have hcm : c ∈ A.σ := List.mem_of_getElem? hi
  refine ⟨h.os, h.tape, h.output, h.size, fun d hd => ?_, fun d hd b hb => ?_, fun d hd => ?_, ?_⟩
  · rcases hin d hd with hd | rfl
    · exact h.all d hd
    · exact hh (h.all c hcm)
  · rcases hin d hd with hd | rfl
    · exact h.bnd d hd b hb
    · have hF : d.F = c.F := congrArg Prod.fst hk
      rw [hF] at hb
      exact h.bnd c hcm b hb
  · rcases hin d hd with hd | rfl
    · exact h.stb d hd
    · exact hst
  · show ((A.σ.set i c').map Ch.key).Pairwise Key.apart
    have : (A.σ.set i c').map Ch.key = A.σ.map Ch.key := by
      rw [List.map_set, hk, ← hci, ← List.getElem_map (f := Ch.key) (h := by simpa using hlt), List.set_getElem_self]
    rw [this]; exact h.dis
theorem Sat.blkrow {α : Type} {A : AW} {w : World} (h : Sat A w) {i b : Nat} {base : Nat} {e : TypeId} {sz : Nat} {cells : α → List Value} {xs : List α} {cs : Array Value} (hi : A.σ[i]? = some (.blk b (.cells cs e (0, 0)) true)) (hx : xs.flatMap cells = cs.toList) (hl : cs.size = xs.length * sz) (hb : base ≤ b) (hm : xs.length ≤ maxLen) : Sat { A with σ := A.σ.set i (rowL base e sz cells (.slice (some ⟨b, 0, none⟩) xs.length xs.length) xs) } w := by
  refine h.conv hi ?_ (fun hw => ?_) (row_stable _ _ _ _ _ _)
  · show (_, true) = (_, true)
    congr 1
    funext k
    apply propext
    show some b = some k ↔ k = b
    exact ⟨fun e => (Option.some.inj e).symm, fun e => by rw [e]⟩
  · have hw' : w.heap[b]? = some (.cells cs e (0, 0)) := hw
    show w.ownsRow base e sz (.slice (some ⟨b, 0, none⟩) xs.length xs.length) xs.length (xs.flatMap cells)
    refine ⟨by rw [hx]; simpa using hl, .inr ⟨b, xs.length, cs, rfl, hb, hw', Nat.le_refl _, hm, hl, ?_⟩⟩
    rw [hx]
    exact List.take_of_length_le (Nat.le_of_eq (by rw [← hl, Array.length_toList]))
section
variable {P : Program} {N : Nat} {env : Env} {ds : List Deferred} {A : AW} {ops : Array Oper} {l : List Oper} {s : List Kt} {Q : Exit → Act → World → Prop} {c : Code}
theorem g_blkrow {α : Type} (i b base : Nat) (e : TypeId) (sz : Nat) (cells : α → List Value) (xs : List α) (cs : Array Value) (hb : base ≤ b) (K : G P N env ds { A with σ := A.σ.set i (rowL base e sz cells (.slice (some ⟨b, 0, none⟩) xs.length xs.length) xs) } c s Q) (hi : A.σ[i]? = some (.blk b (.cells cs e (0, 0)) true) := by rfl) (hx : xs.flatMap cells = cs.toList := by rfl) (hl : cs.size = xs.length * sz := by rfl) (hm : Nat.ble xs.length 1000 = true := by rfl) : G P N env ds A c s Q :=
  fun a w hst => K a w ⟨hst.sz, hst.df, hst.kn, hst.mem.blkrow hi hx hl hb (Nat.le_trans (Nat.le_of_ble_eq_true hm) (by decide))⟩
end
end Go.Proofs.YtnjhekfgmbpmlaaDoor.Eng
