/- tlb: lists of leaves; the calls on a TLB that holds such a list. No conditions. -/
import Derived.Test.YtbjcamafaolgiaaTlH
import Derived.Test.YtbjcamafaolgiaaEngN
namespace Go.Proofs.Ytbjcamafaolgiaa.Ly
open Go Go.RowKit Go.Proofs.Ytbjcamafaolgiaa.Mem Go.Proofs.Ytbjcamafaolgiaa.Sh Go.Proofs.Ytbjcamafaolgiaa.Eng Go.Proofs.Ytbjcamafaolgiaa.Tl
set_option linter.unusedSimpArgs false
set_option linter.unusedVariables false

def lfine (l : TLeaf) : Bool := Tl.fine (l.Page, l.Frame, l.Rights)
def kv (l : TLeaf) : Int × V := (l.Page, (l.Page, l.Frame, l.Rights))
def kvs (xs : List TLeaf) : List (Int × V) := xs.map kv
def fV (xs : List TLeaf) (p : Int) : TLeaf := (xs.find? (fun x => x.Page == p)).getD ⟨0, 0, 0⟩
def fB (xs : List TLeaf) (p : Int) : Bool := (xs.find? (fun x => x.Page == p)).isSome
def outX (xs : List TLeaf) (p : Int) : List TLeaf := xs.filter (fun x => x.Page != p)
def findX (xs : List TLeaf) (p : Int) : List TLeaf := if fB xs p then outX xs p ++ [fV xs p] else xs
def putX (xs : List TLeaf) (y : TLeaf) : List TLeaf := if lfine y then (if (outX xs y.Page).length < 4 then outX xs y.Page ++ [y] else (outX xs y.Page ++ [y]).tail) else xs
def errP (y : TLeaf) : Int := if lfine y then 0 else 80
def fineL (xs : List TLeaf) (n : Nat) : Prop := ∀ i, i < n → lfine (gd xs i) = true ∧ ∀ j, j < i → (gd xs j).Page ≠ (gd xs i).Page
def okL (xs : List TLeaf) : Prop := xs.length ≤ 4 ∧ fineL xs xs.length
open Classical in
noncomputable def errR (xs : List TLeaf) : Int := if okL xs then 0 else 81
open Classical in
noncomputable def resX (xs ys : List TLeaf) : List TLeaf := if okL ys then ys else xs
theorem outX_le (xs : List TLeaf) (p : Int) : (outX xs p).length ≤ xs.length := List.length_filter_le _ _
theorem fB_mem {xs : List TLeaf} {p : Int} (h : fB xs p = true) : ∃ x ∈ xs, x.Page = p := by
  unfold fB at h
  obtain ⟨x, hx⟩ := Option.isSome_iff_exists.1 h
  exact ⟨x, List.mem_of_find?_eq_some hx, by simpa using List.find?_some hx⟩
theorem outX_lt {xs : List TLeaf} {p : Int} (h : fB xs p = true) : (outX xs p).length < xs.length := by
  obtain ⟨x, hx, he⟩ := fB_mem h
  exact List.length_filter_lt_length_iff_exists.2 ⟨x, hx, by simp [he]⟩
theorem findX_len {xs : List TLeaf} (h : xs.length ≤ 4) (p : Int) : (findX xs p).length ≤ 4 := by
  unfold findX
  split
  · rename_i hb
    have := outX_lt hb
    rw [List.length_append, List.length_singleton]; omega
  · exact h
theorem putX_len {xs : List TLeaf} (h : xs.length ≤ 4) (y : TLeaf) : (putX xs y).length ≤ 4 := by
  have := outX_le xs y.Page
  unfold putX
  split
  · split
    · rw [List.length_append, List.length_singleton]; omega
    · rw [List.length_tail, List.length_append, List.length_singleton]; omega
  · exact h
theorem resX_len {xs ys : List TLeaf} (h : xs.length ≤ 4) : (resX xs ys).length ≤ 4 := by
  unfold resX
  split
  · rename_i h'; exact h'.1
  · exact h
theorem kvs_find (xs : List TLeaf) (p : Int) : (kvs xs).find? (fun x => x.1 == p) = (xs.find? (fun x => x.Page == p)).map kv := by
  unfold kvs; rw [List.find?_map]; rfl
theorem kvs_keys (xs : List TLeaf) : (kvs xs).map (·.1) = xs.map TLeaf.Page := by
  unfold kvs; rw [List.map_map]; rfl
theorem kvs_out (xs : List TLeaf) (p : Int) : (kvs xs).filter (fun x => x.1 ≠ p) = kvs (outX xs p) := by
  unfold kvs outX
  rw [List.filter_map]
  congr 1
  refine List.filter_congr (fun x _ => ?_)
  simp [kv]
  by_cases h : x.Page = p <;> simp [h]
theorem kvs_leaf (xs : List TLeaf) : (kvs xs).map toLeaf = xs := by
  unfold kvs
  rw [List.map_map]
  exact List.map_id'' (fun _ => rfl) xs
theorem laid_kvs {xs : List TLeaf} (hl : xs.length ≤ 4) {y : TLeaf} (hf : lfine y = true) : laidOn (kvs xs) y.Page (y.Page, y.Frame, y.Rights) = kvs (putX xs y) := by
  have hmem : y.Page ∈ (kvs xs).map (·.1) ↔ ∃ x ∈ xs, x.Page = y.Page := by rw [kvs_keys, List.mem_map]
  unfold laidOn putX
  rw [if_pos hf]
  by_cases hin : y.Page ∈ (kvs xs).map (·.1)
  · obtain ⟨x, hx, he⟩ := hmem.1 hin
    have hlt : (outX xs y.Page).length < xs.length := List.length_filter_lt_length_iff_exists.2 ⟨x, hx, by simp [he]⟩
    rw [if_pos hin, if_pos (by omega), kvs_out]
    unfold kvs; rw [List.map_append]; rfl
  · have hall : outX xs y.Page = xs := List.filter_eq_self.2 (fun x hx => by simp; exact fun he => hin (hmem.2 ⟨x, hx, he⟩))
    rw [if_neg hin, hall]
    have hkl : (kvs xs).length = xs.length := by simp [kvs]
    by_cases h4 : xs.length = 4
    · rw [if_pos (by omega), if_neg (by omega)]
      cases xs with
      | nil => simp at h4
      | cons x xs => simp [kvs, kv]
    · rw [if_neg (by omega), if_pos (by omega)]
      simp [kvs, kv]
section
variable {A : AW} {w : World} {i t : Nat} {F : Nat → Prop} {xs : List TLeaf}
theorem tlb_len (h : Sat A w) (hi : A.σ[i]? = some (tlbC t F (kvs xs))) : xs.length ≤ 4 ∧ (xs.map TLeaf.Page).Nodup := by
  have hT : TlbIs w t F (kvs xs) := h.at hi
  have := hT.nodup
  rw [kvs_keys] at this
  exact ⟨by simpa [kvs] using this.2, this.1⟩
theorem find_satX (h : Sat A w) (hi : A.σ[i]? = some (tlbC t F (kvs xs))) (k : Int) : Calls Try.prog 10 #[.pointer (some ⟨t, 0, none⟩), .int .i64 k] w fun e w' => ∃ F', e = .returned (.tuple #[.agg (TLeaf.arr (fV xs k)), .bool (fB xs k)]) ∧ A.n ≤ w'.heap.size ∧ Sat { A with n := w'.heap.size, σ := A.σ.set i (tlbC t F' (kvs (findX xs k))) } w' := by
  have hT : TlbIs w t F (kvs xs) := h.at hi
  have hnd0 := hT.nodup.1
  by_cases hin : k ∈ (kvs xs).map (·.1)
  · obtain ⟨⟨k', v⟩, hx, rfl⟩ := List.mem_map.1 hin
    obtain ⟨X, Y, hXY⟩ := List.append_of_mem hx
    have hno : ∀ x ∈ X, ¬ (x.1 == k') = true := fun x hx e => by
      rw [hXY, List.map_append, List.map_cons] at hnd0
      exact (List.nodup_append.1 hnd0).2.2 x.1 (List.mem_map.2 ⟨x, hx, rfl⟩) k' (by simp) (by simpa using e)
    have hf : (kvs xs).find? (fun x => x.1 == k') = some (k', v) := by
      rw [hXY, List.find?_append, List.find?_eq_none.2 hno, List.find?_cons_of_pos (by simp)]; rfl
    have hout := kvs_out xs k'
    rw [hXY] at hout
    rw [filter_part (by rw [← hXY]; exact hnd0)] at hout
    rw [kvs_find] at hf
    obtain ⟨x0, hx0, hk0⟩ := Option.map_eq_some_iff.1 hf
    have hB : fB xs k' = true := by unfold fB; rw [hx0]; rfl
    have hV : fV xs k' = x0 := by unfold fV; rw [hx0]; rfl
    have hL : X ++ Y ++ [(k', v)] = kvs (findX xs k') := by
      unfold findX
      rw [if_pos hB, hV, hout, ← hk0]
      simp [kvs]
    refine (tfind_yes w t F X Y k' v (hXY ▸ hT)).mono ?_
    rintro e w' ⟨rfl, ht, hk⟩
    rw [hL] at ht
    refine ⟨F, ?_, size_of h hk, h.growN hi rfl rfl hk ht (tlb_stable _ _ _) (fun b hb => .inl hb) (fun b hb => ht.bound b hb)⟩
    rw [hV, hB]
    have : v = (x0.Page, x0.Frame, x0.Rights) := by have := congrArg Prod.snd hk0; exact this.symm
    rw [this]
  · have hf : xs.find? (fun x => x.Page == k) = none := List.find?_eq_none.2 (fun x hx e => hin (by rw [kvs_keys]; exact List.mem_map.2 ⟨x, hx, by simpa using e⟩))
    have hB : fB xs k = false := by unfold fB; rw [hf]; rfl
    have hV : fV xs k = ⟨0, 0, 0⟩ := by unfold fV; rw [hf]; rfl
    have hX : findX xs k = xs := by unfold findX; rw [hB]; rfl
    rw [hB, hV, hX]
    refine (tfind_no w t F (kvs xs) k hT hin).mono ?_
    rintro e w' ⟨rfl, hk⟩
    exact ⟨F, rfl, size_of h hk, h.growN hi rfl rfl ⟨hk.os, hk.tape, hk.output, hk.size, fun b hb _ => hk.block b hb id⟩ (hT.same (fun b hb => hk.block b (hT.bound b hb) id)) (tlb_stable _ _ _) (fun b hb => .inl hb) (fun b hb => Nat.lt_of_lt_of_le (hT.bound b hb) hk.size)⟩
theorem put_satX (h : Sat A w) (hi : A.σ[i]? = some (tlbC t F (kvs xs))) (y : TLeaf) : Calls Try.prog 8 #[.pointer (some ⟨t, 0, none⟩), .agg (TLeaf.arr y)] w fun e w' => ∃ F', e = .returned (.int .i64 (errP y)) ∧ A.n ≤ w'.heap.size ∧ Sat { A with n := w'.heap.size, σ := A.σ.set i (tlbC t F' (kvs (putX xs y))) } w' := by
  refine (put_sat h hi (y.Page, y.Frame, y.Rights)).mono ?_
  rintro e w' ⟨F', rfl, hm, hS⟩
  refine ⟨F', rfl, hm, ?_⟩
  have hX : (if Tl.fine (y.Page, y.Frame, y.Rights) then laidOn (kvs xs) y.Page (y.Page, y.Frame, y.Rights) else kvs xs) = kvs (putX xs y) := by
    by_cases hf : Tl.fine (y.Page, y.Frame, y.Rights) = true
    · rw [if_pos hf, laid_kvs (tlb_len h hi).1 hf]
    · rw [if_neg hf]; unfold putX lfine; rw [if_neg hf]
  rw [hX] at hS
  exact hS
theorem leaves_satX (h : Sat A w) (hi : A.σ[i]? = some (tlbC t F (kvs xs))) : Calls Try.prog 9 #[.pointer (some ⟨t, 0, none⟩)] w fun e w' => ∃ a cap, e = .returned (.slice a xs.length cap) ∧ A.n ≤ w'.heap.size ∧ Sat { A with n := w'.heap.size, σ := A.σ ++ [rowL A.n 26 3 TLeaf.cells (.slice a xs.length cap) xs] } w' := by
  have := leaves_sat h hi
  rw [kvs_leaf] at this
  exact this
theorem tflush_calls (w : World) (t : Nat) (F : Nat → Prop) (L : List (Int × V)) (h : TlbIs w t F L) : Calls Try.prog 15 #[.pointer (some ⟨t, 0, none⟩)] w fun e w' => e = .returned (.tuple #[]) ∧ TlbIs w' t F [] ∧ Keeps F w w' := by
  obtain ⟨s, G, hh, hd, hl, hGt, hF, hGF, hB⟩ := h
  have q0 : w.cell? ⟨t, 0, none⟩ = some (.pointer (some ⟨s, 0, none⟩)) := hh.cell rfl
  have HH := Lib.hid (And.intro hh (And.intro hd hl))
  clear hh hd hl
  go_enter Try.func15, Try.ntmps15
  go_wp2_with fail
  refine (hclear w s G 4 L HH.out.2.1).mono ?_
  rintro e w3 ⟨rfl, hd3, hk3, hz3⟩
  go_wp2
  go_end0
  have hh := HH.out.1
  exact ⟨rfl, ⟨s, G, hk3.get hh hGt, hd3, by simp, hGt, hF, hGF, fun b hb => by rw [hz3]; exact hB b hb⟩, hk3.mono (fun b _ hb => hGF b hb)⟩
theorem flush_satX (h : Sat A w) (hi : A.σ[i]? = some (tlbC t F (kvs xs))) : Calls Try.prog 15 #[.pointer (some ⟨t, 0, none⟩)] w fun e w' => e = .returned (.tuple #[]) ∧ A.n ≤ w'.heap.size ∧ Sat { A with n := w'.heap.size, σ := A.σ.set i (tlbC t F (kvs [])) } w' := by
  have hT : TlbIs w t F (kvs xs) := h.at hi
  refine (tflush_calls w t F _ hT).mono ?_
  rintro e w' ⟨rfl, ht, hk⟩
  exact ⟨rfl, size_of h hk, h.growN hi rfl rfl hk ht (tlb_stable _ _ _) (fun b hb => .inl hb) (fun b hb => ht.bound b hb)⟩
end
end Go.Proofs.Ytbjcamafaolgiaa.Ly
