/- The engine: blocks that hold one number each, each its own place in a list (the numbers that closures have captured). No conditions. -/
import Derived.Test.YtnjhekfgmbpmlaaDoorEngY
namespace Go.Proofs.YtnjhekfgmbpmlaaDoor.Eng
open Go Go.Proofs.YtnjhekfgmbpmlaaDoor.Mem
set_option linter.unusedSimpArgs false
set_option linter.unusedVariables false
def caps (t : TypeId) (B : List Nat) : Ch := .inv (fun b => b ∈ B) (fun w => ∀ (i b : Nat), B[i]? = some b → w.heap[b]? = some (.cells #[.int .i64 (i : Nat)] t (0, 0))) true
theorem caps_stable (t : TypeId) (B : List Nat) : (caps t B).stable := fun w w' h hw i b hb => (h b (List.mem_of_getElem? hb)).trans (hw i b hb)
theorem caps_cells {A : AW} {w : World} (h : Sat A w) {i j b : Nat} {t : TypeId} {B : List Nat} (hb : B[j]? = some b) (hi : A.σ[i]? = some (caps t B) := by rfl) : ∀ (k : Nat) (v : Value), [Value.int .i64 (j : Nat)][k]? = some v → w.cell? ⟨b, 0 + k, none⟩ = some v := by
  have h1 : w.heap[b]? = some (.cells #[.int .i64 (j : Nat)] t (0, 0)) := h.at hi j b hb
  intro k v hk
  match k, hk with
  | 0, hk => cases hk; simp [World.cell?, h1]
theorem blk_cells {A : AW} {w : World} (h : Sat A w) {i b : Nat} {cs : Array Value} {t : TypeId} {fr : Nat × Nat} {rw' : Bool} {l : List Value} (hi : A.σ[i]? = some (.blk b (.cells cs t fr) rw') := by rfl) (hl : l = cs.toList := by rfl) : ∀ (k : Nat) (v : Value), l[k]? = some v → w.cell? ⟨b, 0 + k, none⟩ = some v := by
  have h1 : w.heap[b]? = some (.cells cs t fr) := h.at hi
  intro k v hk
  subst hl
  simp [World.cell?, h1] at hk ⊢
  exact hk
theorem Sat.caps {A : AW} {w : World} (h : Sat A w) (i j : Nat) (is : List Nat) {t : TypeId} {B : List Nat} {b n : Nat} {kept : List Ch} (hn : B.length = n) (hi : A.σ[i]? = some (caps t B)) (hj : A.σ[j]? = some (.blk b (.cells #[.int .i64 (n : Nat)] t (0, 0)) true)) (hnd : nodupB is = true) (hni : is.contains i = false) (hnj : is.contains j = false) (hp : picks is A.σ = some kept) : Sat { A with σ := kept ++ [Eng.caps t (B ++ [b])] } w := by
  have := h.exch is hnd hp (Keeps.refl (fun _ => False) w) (fun _ _ _ _ x => x) [Eng.caps t (B ++ [b])] (by
    intro d hd
    simp only [List.mem_singleton] at hd
    subst hd
    refine ⟨fun k b' hb => ?_, caps_stable _ _, ?_⟩
    · rcases Nat.lt_trichotomy k B.length with hk | hk | hk
      · rw [List.getElem?_append_left hk] at hb
        exact h.at hi k b' hb
      · subst hk
        rw [List.getElem?_append_right (Nat.le_refl _)] at hb
        simp at hb
        subst hb; subst hn
        exact h.at hj
      · rw [List.getElem?_eq_none (by simp; omega)] at hb; cases hb
    · intro b' hb'
      rw [h.size]
      rcases List.mem_append.1 hb' with hb' | hb'
      · exact h.bnd _ (List.mem_of_getElem? hi) b' hb'
      · exact h.bnd _ (List.mem_of_getElem? hj) b' (List.mem_singleton.1 hb')) (by simp) (by
    intro d hd d' hd' _ b' hb
    simp only [List.mem_singleton] at hd'
    subst hd'
    obtain ⟨q, hq, hqs⟩ := picks_at hp d hd
    intro hb'
    rcases List.mem_append.1 hb' with hb' | hb'
    · exact apart_of h.dis (i := i) (j := q) (by rw [List.getElem?_map, hi]; rfl) (by rw [List.getElem?_map, hqs]; rfl) (fun e => by subst e; simp [hq] at hni) rfl b' hb' hb
    · exact apart_of h.dis (i := j) (j := q) (by rw [List.getElem?_map, hj]; rfl) (by rw [List.getElem?_map, hqs]; rfl) (fun e => by subst e; simp [hq] at hnj) rfl b' (List.mem_singleton.1 hb') hb)
  rw [h.size] at this
  exact this
section
variable {P : Program} {N : Nat} {env : Env} {ds : List Deferred} {A : AW} {s : List Kt} {Q : Exit → Act → World → Prop} {c : Code} {x : Exit}
theorem g_caps0 (t : TypeId) (K : G P N env ds { A with σ := A.σ ++ [caps t []] } c s Q) : G P N env ds A c s Q :=
  fun a w hst => K a w ⟨hst.sz, hst.df, hst.kn, hst.mem.more _ (fun i b h => by simp at h) (caps_stable _ _) (fun b h => by cases h)⟩
theorem e_caps (i j : Nat) (is : List Nat) (t : TypeId) (B : List Nat) (b n : Nat) (kept : List Ch) (hn : B.length = n) (K : E P N env ds { A with σ := kept ++ [caps t (B ++ [b])] } x s Q)
    (hi : A.σ[i]? = some (caps t B) := by rfl) (hj : A.σ[j]? = some (.blk b (.cells #[.int .i64 (n : Nat)] t (0, 0)) true) := by rfl) (hnd : nodupB is = true := by rfl) (hni : is.contains i = false := by rfl) (hnj : is.contains j = false := by rfl) (hp : picks is A.σ = some kept := by rfl) : E P N env ds A x s Q :=
  fun a' w hst => K a' w ⟨hst.sz, hst.df, hst.kn, hst.mem.caps i j is hn hi hj hnd hni hnj hp⟩
end
end Go.Proofs.YtnjhekfgmbpmlaaDoor.Eng
