/- tlb: a TLB as a piece of memory; its calls over pieces. No conditions. -/
import Derived.Test.YtbjcamafaolgiaaTlG
import Derived.Test.YtbjcamafaolgiaaTlE
import Derived.Test.YtbjcamafaolgiaaEngK
import Derived.Test.YtbjcamafaolgiaaTy
namespace Go.Proofs.Ytbjcamafaolgiaa.Tl
open Go Go.Proofs.Ytbjcamafaolgiaa.Mem Go.Proofs.Ytbjcamafaolgiaa.Sh Go.Proofs.Ytbjcamafaolgiaa.Eng Go.Proofs.Ytbjcamafaolgiaa.Ly
set_option linter.unusedSimpArgs false
set_option linter.unusedVariables false

theorem TlbIs.same {w w' : World} {t : Nat} {F : Nat → Prop} {L : List (Int × V)} (h : TlbIs w t F L) (hb : ∀ b, F b → w'.heap[b]? = w.heap[b]?) : TlbIs w' t F L := by
  obtain ⟨s, G, hh, ⟨m, ns, es, hf, hG, hL⟩, hl, hGt, hFt, hGF, hB⟩ := h
  refine ⟨s, G, (hb t hFt).trans hh, ⟨m, ns, es, hf.frame (fun b hb' => hb b (hGF b (hG b hb'))), hG, hL⟩, hl, hGt, hFt, hGF, fun b hFb => ?_⟩
  have h1 := hB b hFb
  have h2 := hb b hFb
  rcases Nat.lt_or_ge b w'.heap.size with h3 | h3
  · exact h3
  · rw [Array.getElem?_eq_none h3, Array.getElem?_eq_getElem h1] at h2; cases h2
theorem TlbIs.nodup {w : World} {t : Nat} {F : Nat → Prop} {L : List (Int × V)} (h : TlbIs w t F L) : (L.map (·.1)).Nodup ∧ L.length ≤ 4 := by
  obtain ⟨s, G, hh, hd, hl, -⟩ := h; exact ⟨hd.nodup, hl⟩
def tlbC (t : Nat) (F : Nat → Prop) (L : List (Int × V)) : Ch := .inv F (fun w => TlbIs w t F L) true
theorem tlb_stable (t : Nat) (F : Nat → Prop) (L : List (Int × V)) : (tlbC t F L).stable := fun w w' h hw => TlbIs.same hw h

/-- A piece that has turned within its own blocks and new ones. -/
theorem _root_.Go.Proofs.Ytbjcamafaolgiaa.Eng.Sat.growN {A : AW} {w w' : World} (h : Sat A w) {i : Nat} {c c' : Ch} (hi : A.σ[i]? = some c) (hrw : c.rw = true) (hrw' : c'.rw = true) (hk : Keeps c.F w w') (hh : c'.holds w') (hst : c'.stable)
    (hF : ∀ b, c'.F b → c.F b ∨ w.heap.size ≤ b) (hb : ∀ b, c'.F b → b < w'.heap.size) : Sat { A with n := w'.heap.size, σ := A.σ.set i c' } w' := by
  obtain ⟨hlt, hix⟩ := List.getElem?_eq_some_iff.1 hi
  have hsize : A.n ≤ w'.heap.size := by have := hk.size; rw [h.size] at this; exact this
  have hap : ∀ j d, j ≠ i → A.σ[j]? = some d → ∀ b, d.F b → ¬ c.F b := by
    intro j d hji hj b hd hb
    exact apart_of h.dis (i := i) (j := j) (by rw [List.getElem?_map, hi]; rfl) (by rw [List.getElem?_map, hj]; rfl) (Ne.symm hji) hrw b hb hd
  refine ⟨hk.os.trans h.os, hk.tape.trans h.tape, hk.output.trans h.output, rfl, ?_, ?_, ?_, ?_⟩
  · intro d hd
    obtain ⟨j, hj⟩ := List.getElem?_of_mem hd
    by_cases hij : i = j
    · subst hij; rw [List.getElem?_set_self hlt] at hj; cases hj; exact hh
    · rw [List.getElem?_set_ne hij] at hj
      have hm := List.mem_of_getElem? hj
      exact h.stb d hm w w' (fun b hbd => hk.block b (by rw [h.size]; exact h.bnd d hm b hbd) (hap j d (Ne.symm hij) hj b hbd)) (h.all d hm)
  · intro d hd b hbd
    show b < w'.heap.size
    rcases List.mem_or_eq_of_mem_set hd with hd | rfl
    · have := h.bnd d hd b hbd; omega
    · exact hb b hbd
  · intro d hd
    rcases List.mem_or_eq_of_mem_set hd with hd | rfl
    · exact h.stb d hd
    · exact hst
  · show ((A.σ.set i _).map Ch.key).Pairwise Key.apart
    rw [List.map_set, List.pairwise_iff_getElem]
    intro p q hp hq hpq
    simp only [List.length_set, List.length_map] at hp hq
    have key : ∀ j (hj : j < A.σ.length), j ≠ i → Key.apart (Ch.key c') (Ch.key A.σ[j]) := by
      intro j hj hji _ b hbc hd
      have hjs : A.σ[j]? = some A.σ[j] := by simp [hj]
      rcases hF b hbc with e1 | e1
      · exact hap j _ hji hjs b hd e1
      · have := h.bnd _ (List.mem_of_getElem? hjs) b hd
        rw [← h.size] at this; omega
    simp only [List.getElem_set, List.getElem_map]
    by_cases h1 : i = p
    · subst h1
      rw [if_pos rfl, if_neg (by omega)]
      exact key q hq (by omega)
    · rw [if_neg h1]
      by_cases h2 : i = q
      · subst h2; rw [if_pos rfl]; exact Key.apart_symm (key p hp (by omega))
      · rw [if_neg h2]
        exact apart_at h.dis (i := p) (j := q) (by simp [hp]) (by simp [hq]) (by omega)
theorem size_of {A : AW} {w w' : World} {S : Nat → Prop} (h : Sat A w) (hk : Keeps S w w') : A.n ≤ w'.heap.size := by have := hk.size; rw [h.size] at this; exact this

section
variable {A : AW} {w : World} {i t : Nat} {F : Nat → Prop} {L : List (Int × V)}
theorem new_sat (h : Sat A w) : Calls Try.prog 7 #[] w fun e w' => ∃ t F', e = .returned (.pointer (some ⟨t, 0, none⟩)) ∧ A.n ≤ w'.heap.size ∧ Sat { A with n := w'.heap.size, σ := A.σ ++ [tlbC t F' []] } w' := by
  refine (tnew w).mono ?_
  rintro e w' ⟨t, rfl, ht, hk⟩
  refine ⟨t, fun b => w.heap.size ≤ b ∧ b < w'.heap.size, rfl, size_of h hk, h.keeps1 hk _ ht (tlb_stable _ _ _) (fun b hb => ?_)⟩
  have hb' : w.heap.size ≤ b ∧ b < w'.heap.size := hb
  rw [h.size] at hb'; exact hb'
theorem put_sat (h : Sat A w) (hi : A.σ[i]? = some (tlbC t F L)) (v : V) : Calls Try.prog 8 #[.pointer (some ⟨t, 0, none⟩), leafV v] w fun e w' => ∃ F', e = .returned (.int .i64 (if fine v then 0 else 80)) ∧ A.n ≤ w'.heap.size ∧ Sat { A with n := w'.heap.size, σ := A.σ.set i (tlbC t F' (if fine v then laidOn L v.1 v else L)) } w' := by
  refine (tput_calls w t F L v (h.at hi)).mono ?_
  rintro e w' ⟨he, ht, hk⟩
  exact ⟨More F w w', he, size_of h hk, h.growN hi rfl rfl hk ht (tlb_stable _ _ _) (fun b hb => hb.elim .inl (fun x => .inr x.1)) (fun b hb => ht.bound b hb)⟩
def findV (L : List (Int × V)) (k : Int) : V := ((L.find? (fun x => x.1 == k)).map (·.2)).getD (0, 0, 0)
def findB (L : List (Int × V)) (k : Int) : Bool := (L.find? (fun x => x.1 == k)).isSome
theorem find_sat (h : Sat A w) (hi : A.σ[i]? = some (tlbC t F L)) (k : Int) : Calls Try.prog 10 #[.pointer (some ⟨t, 0, none⟩), .int .i64 k] w fun e w' => ∃ F' L', e = .returned (.tuple #[leafV (findV L k), .bool (findB L k)]) ∧ L'.Perm L ∧ A.n ≤ w'.heap.size ∧ Sat { A with n := w'.heap.size, σ := A.σ.set i (tlbC t F' L') } w' := by
  have hT : TlbIs w t F L := h.at hi
  by_cases hin : k ∈ L.map (·.1)
  · obtain ⟨⟨k', v⟩, hx, rfl⟩ := List.mem_map.1 hin
    obtain ⟨xs, ys, rfl⟩ := List.append_of_mem hx
    have hnd := hT.nodup.1
    have hno : ∀ x ∈ xs, ¬ (x.1 == k') = true := fun x hx e => by
      rw [List.map_append, List.map_cons] at hnd
      exact (List.nodup_append.1 hnd).2.2 x.1 (List.mem_map.2 ⟨x, hx, rfl⟩) k' (by simp) (by simpa using e)
    have hf : (xs ++ (k', v) :: ys).find? (fun x => x.1 == k') = some (k', v) := by
      rw [List.find?_append, List.find?_eq_none.2 hno, List.find?_cons_of_pos (by simp)]; rfl
    refine (tfind_yes w t F xs ys k' v hT).mono ?_
    rintro e w' ⟨rfl, ht, hk⟩
    refine ⟨F, _, by unfold findV findB; rw [hf]; rfl, ?_, size_of h hk, h.growN hi rfl rfl hk ht (tlb_stable _ _ _) (fun b hb => .inl hb) (fun b hb => ht.bound b hb)⟩
    rw [List.append_assoc]
    exact List.Perm.append_left _ (List.perm_append_singleton _ _)
  · have hf : L.find? (fun x => x.1 == k) = none := List.find?_eq_none.2 (fun x hx e => hin (List.mem_map.2 ⟨x, hx, by simpa using e⟩))
    refine (tfind_no w t F L k hT hin).mono ?_
    rintro e w' ⟨rfl, hk⟩
    refine ⟨F, L, by unfold findV findB; rw [hf]; rfl, List.Perm.refl _, size_of h hk, h.growN hi rfl rfl ⟨hk.os, hk.tape, hk.output, hk.size, fun b hb _ => hk.block b hb id⟩ (hT.same (fun b hb => hk.block b (hT.bound b hb) id)) (tlb_stable _ _ _) (fun b hb => .inl hb) (fun b hb => Nat.lt_of_lt_of_le (hT.bound b hb) hk.size)⟩
def toLeaf (x : Int × V) : TLeaf := ⟨x.2.1, x.2.2.1, x.2.2.2⟩
theorem leaves_sat (h : Sat A w) (hi : A.σ[i]? = some (tlbC t F L)) : Calls Try.prog 9 #[.pointer (some ⟨t, 0, none⟩)] w fun e w' => ∃ a cap, e = .returned (.slice a (L.map toLeaf).length cap) ∧ A.n ≤ w'.heap.size ∧ Sat { A with n := w'.heap.size, σ := A.σ ++ [rowL A.n 26 3 TLeaf.cells (.slice a (L.map toLeaf).length cap) (L.map toLeaf)] } w' := by
  refine (leaves_calls w t F L (h.at hi)).mono ?_
  rintro e w' ⟨v, rfl, ho, hk⟩
  have hfl : rows3 (L.map (·.2)) = (L.map toLeaf).flatMap TLeaf.cells := by
    unfold rows3
    rw [List.flatMap_map, List.flatMap_map]; rfl
  rw [hfl, h.size, show L.length = (L.map toLeaf).length from (List.length_map _).symm] at ho
  obtain ⟨a, cap, rfl⟩ := row_slice ho
  refine ⟨a, cap, rfl, size_of h hk, h.keeps1 hk _ ho (row_stable _ _ _ _ _ _) (fun b hb => ?_)⟩
  exact ho.lt b hb
end
end Go.Proofs.Ytbjcamafaolgiaa.Tl
