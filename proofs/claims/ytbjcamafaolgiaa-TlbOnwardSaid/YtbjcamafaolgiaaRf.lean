/- The pieces of a step. No conditions. -/
import Derived.Test.YtbjcamafaolgiaaRe
namespace Go.Proofs.Ytbjcamafaolgiaa.Ly
open Go Go.Proofs.Ytbjcamafaolgiaa.Eng Go.Proofs.Ytbjcamafaolgiaa.Mem
set_option linter.unusedSimpArgs false
set_option linter.unusedVariables false
set_option maxRecDepth 100000
open Go.Proofs.Ytbjcamafaolgiaa.Sh Go.Proofs.Ytbjcamafaolgiaa.Tl

def SlB (F : Nat → Prop) (W : World) (s : Sl TLeaf) : Prop := SlAt TLeaf.cells 3 F W s ∧ s.xs.length * 24 ≤ 140737488351232
theorem SlB.ext {F F' : Nat → Prop} {W W' : World} (he : Ext F W W') (hF : ∀ b, F b → F' b) {x : Sl TLeaf} (h : SlB F W x) : SlB F' W' x := ⟨sl_mono he hF h.1, h.2⟩
structure TOp where
  Which : Int
  Kind : Int
  Page : Int
  Frame : Int
  Rights : Int
  Leaves : Sl TLeaf
  deriving Inhabited
def TOp.cells (x : TOp) : List Value := [.int .i64 x.Which, .int .i64 x.Kind, .int .i64 x.Page, .int .i64 x.Frame, .int .i64 x.Rights, x.Leaves.val]
abbrev TOp.arr (x : TOp) : Array Value := #[.int .i64 x.Which, .int .i64 x.Kind, .int .i64 x.Page, .int .i64 x.Frame, .int .i64 x.Rights, .slice x.Leaves.a x.Leaves.xs.length x.Leaves.cap]
structure TOp.ok (F : Nat → Prop) (W : World) (x : TOp) : Prop where
  Which : InK .i64 x.Which
  Kind : InK .i64 x.Kind
  Page : InK .i64 x.Page
  Frame : InK .i64 x.Frame
  Rights : InK .i64 x.Rights
  Leaves : SlB F W x.Leaves
theorem TOp.ok.ext {F F' : Nat → Prop} {W W' : World} (he : Ext F W W') (hF : ∀ b, F b → F' b) {x : TOp} (h : TOp.ok F W x) : TOp.ok F' W' x := ⟨h.Which, h.Kind, h.Page, h.Frame, h.Rights, SlB.ext he hF h.Leaves⟩
noncomputable def stepX (xs : List TLeaf) (o : TOp) : List TLeaf := if o.Kind = 0 then findX xs o.Page else if o.Kind = 1 then putX xs ⟨o.Page, o.Frame, o.Rights⟩ else if o.Kind = 2 then [] else if o.Kind = 4 then resX xs o.Leaves.xs else xs
theorem RefIs.same {w w' : World} {d : Nat} {F : Nat → Prop} {xs : List TLeaf} (h : RefIs w d F xs) (hb : ∀ b, F b → w'.heap[b]? = w.heap[b]?) : RefIs w' d F xs := by
  obtain ⟨a, cap, hd, hl, h4, hF, hB⟩ := h
  refine ⟨a, cap, (hb d hF).trans hd, ⟨hl.len, hl.le, fun hne => ?_⟩, h4, hF, fun b hFb => ?_⟩
  · obtain ⟨b, off, ha, hFb, hc⟩ := hl.cells hne
    exact ⟨b, off, ha, hFb, fun i hi k v hv => cell_of (hb b hFb.1) (hc i hi k v hv)⟩
  · have h1 := hB b hFb
    have h2 := hb b hFb
    rcases Nat.lt_or_ge b w'.heap.size with h3 | h3
    · exact h3
    · rw [Array.getElem?_eq_none h3, Array.getElem?_eq_getElem h1] at h2; cases h2
def refC (d : Nat) (F : Nat → Prop) (xs : List TLeaf) : Ch := .inv F (fun w => RefIs w d F xs) true
theorem ref_stable (d : Nat) (F : Nat → Prop) (xs : List TLeaf) : (refC d F xs).stable := fun w w' h hw => RefIs.same hw h
section
variable {A : AW} {w : World} {i d t : Nat} {F : Nat → Prop} {xs : List TLeaf}
theorem refpost_sat {w' : World} {ys : List TLeaf} (h : Sat A w) (hi : A.σ[i]? = some (refC d F xs)) (hp : RefPost w d F ys w') (h4 : ys.length ≤ 4) : ∃ F', A.n ≤ w'.heap.size ∧ Sat { A with n := w'.heap.size, σ := A.σ.set i (refC d F' ys) } w' := by
  obtain ⟨a, cap, -, -, -, hF, hB⟩ : RefIs w d F xs := h.at hi
  obtain ⟨⟨a', cap', hd', hl'⟩, hk⟩ := hp
  have hk' : Keeps F w w' := hk.mono (fun b _ e => e ▸ hF)
  have hb : ∀ b, Sh.More F w w' b → b < w'.heap.size := fun b hb => hb.elim (fun x => Nat.lt_of_lt_of_le (hB b x) hk.size) (fun x => x.2)
  exact ⟨_, size_of h hk', h.growN hi rfl rfl hk' ⟨a', cap', hd', hl', h4, .inl hF, hb⟩ (ref_stable _ _ _) (fun b hb => hb.elim .inl (fun x => .inr x.1)) hb⟩
theorem rfind_sat (h : Sat A w) (hi : A.σ[i]? = some (refC d F xs)) (p : Int) : Calls Try.prog 22 #[.pointer (some ⟨d, 0, none⟩), .int .i64 p] w fun e w' => ∃ F', e = .returned (.tuple #[.agg (TLeaf.arr (fV xs p)), .bool (fB xs p)]) ∧ A.n ≤ w'.heap.size ∧ Sat { A with n := w'.heap.size, σ := A.σ.set i (refC d F' (findX xs p)) } w' := by
  obtain ⟨a, cap, hd, hl, h4, -⟩ : RefIs w d F xs := h.at hi
  refine (rfind_calls w d F a cap xs hd hl h4 p).mono ?_
  rintro e w' ⟨rfl, hp⟩
  obtain ⟨F', hm, hS⟩ := refpost_sat h hi hp (findX_len h4 p)
  exact ⟨F', rfl, hm, hS⟩
theorem rput_sat (h : Sat A w) (hi : A.σ[i]? = some (refC d F xs)) (y : TLeaf) : Calls Try.prog 23 #[.pointer (some ⟨d, 0, none⟩), .agg (TLeaf.arr y)] w fun e w' => ∃ F', e = .returned (.int .i64 (errP y)) ∧ A.n ≤ w'.heap.size ∧ Sat { A with n := w'.heap.size, σ := A.σ.set i (refC d F' (putX xs y)) } w' := by
  obtain ⟨a, cap, hd, hl, h4, -⟩ : RefIs w d F xs := h.at hi
  refine (rput_calls w d F a cap xs hd hl h4 y).mono ?_
  rintro e w' ⟨rfl, hp⟩
  obtain ⟨F', hm, hS⟩ := refpost_sat h hi hp (putX_len h4 y)
  exact ⟨F', rfl, hm, hS⟩
theorem rflush_sat (h : Sat A w) (hi : A.σ[i]? = some (refC d F xs)) : Calls Try.prog 24 #[.pointer (some ⟨d, 0, none⟩)] w fun e w' => ∃ F', e = .returned (.tuple #[]) ∧ A.n ≤ w'.heap.size ∧ Sat { A with n := w'.heap.size, σ := A.σ.set i (refC d F' []) } w' := by
  obtain ⟨a, cap, hd, hl, h4, -⟩ : RefIs w d F xs := h.at hi
  refine (rflush_calls w d F a cap xs hd hl h4).mono ?_
  rintro e w' ⟨rfl, hp⟩
  obtain ⟨F', hm, hS⟩ := refpost_sat h hi hp (by simp)
  exact ⟨F', rfl, hm, hS⟩
theorem rrestore_sat (h : Sat A w) (hi : A.σ[i]? = some (refC d F xs)) (l : Sl TLeaf) (hl2 : SlAt TLeaf.cells 3 (fun b => ¬ F b) w l) : Calls Try.prog 28 #[.pointer (some ⟨d, 0, none⟩), .slice l.a l.xs.length l.cap] w fun e w' => ∃ F', e = .returned (.int .i64 (errR l.xs)) ∧ A.n ≤ w'.heap.size ∧ Sat { A with n := w'.heap.size, σ := A.σ.set i (refC d F' (resX xs l.xs)) } w' := by
  obtain ⟨a, cap, hd, hl, h4, hF, -⟩ : RefIs w d F xs := h.at hi
  refine (rrestore_calls w d F a cap xs hd hl h4 l (sl_mono (Ext.refl _ _) (fun b hb e => hb (e ▸ hF)) hl2)).mono ?_
  rintro e w' ⟨rfl, hp⟩
  obtain ⟨F', hm, hS⟩ := refpost_sat h hi hp (resX_len h4)
  exact ⟨F', rfl, hm, hS⟩
theorem rleaves_sat (h : Sat A w) (hi : A.σ[i]? = some (refC d F xs)) : Calls Try.prog 25 #[.pointer (some ⟨d, 0, none⟩)] w fun e w' => ∃ a cap, e = .returned (.slice a xs.length cap) ∧ A.n ≤ w'.heap.size ∧ Sat { A with n := w'.heap.size, σ := A.σ ++ [rowL A.n 26 3 TLeaf.cells (.slice a xs.length cap) xs] } w' := by
  obtain ⟨a, cap, hd, hl, h4, -⟩ : RefIs w d F xs := h.at hi
  refine (rleaves_calls w d F a cap xs hd hl h4).mono ?_
  rintro e w' ⟨a2, cap2, rfl, ho, hk⟩
  rw [h.size] at ho
  exact ⟨a2, cap2, rfl, size_of h hk, h.keeps1 hk (rowL A.n 26 3 TLeaf.cells (.slice a2 xs.length cap2) xs) ho (row_stable _ _ _ _ _ _) (fun b hb => ho.lt b hb)⟩
theorem trestore_sat (h : Sat A w) (hi : A.σ[i]? = some (tlbC t F (kvs xs))) (l : Sl TLeaf) (hl2 : SlAt TLeaf.cells 3 (fun b => ¬ F b) w l) : Calls Try.prog 14 #[.pointer (some ⟨t, 0, none⟩), .slice l.a l.xs.length l.cap] w fun e w' => ∃ F', e = .returned (.int .i64 (errR l.xs)) ∧ A.n ≤ w'.heap.size ∧ Sat { A with n := w'.heap.size, σ := A.σ.set i (tlbC t F' (kvs (resX xs l.xs))) } w' := by
  have hT : TlbIs w t F (kvs xs) := h.at hi
  refine (trestore_calls w t F xs l hT hl2).mono ?_
  rintro e w' ⟨rfl, ht, hk⟩
  exact ⟨_, rfl, size_of h hk, h.growN hi rfl rfl hk ht (tlb_stable _ _ _) (fun b hb => hb.elim .inl (fun x => .inr x.1)) (fun b hb => ht.bound b hb)⟩
/-- A row is read as data. -/
theorem row_any {base : Nat} {a : Option Addr} {cap : Nat} (h : Sat A w) (hi : A.σ[i]? = some (rowL base 26 3 TLeaf.cells (.slice a xs.length cap) xs)) (hl : xs.length ≤ 140737488351232) : SlAt TLeaf.cells 3 Any w ⟨a, cap, xs⟩ := row_slF (fun _ => rfl) (h.at hi) hl (fun _ _ => trivial)
theorem row_not {base j : Nat} {a : Option Addr} {cap : Nat} {c : Ch} (h : Sat A w) (hi : A.σ[i]? = some (rowL base 26 3 TLeaf.cells (.slice a xs.length cap) xs)) (hl : xs.length ≤ 140737488351232) (hj : A.σ[j]? = some c) (hne : i ≠ j) : SlAt TLeaf.cells 3 (fun b => ¬ c.F b) w ⟨a, cap, xs⟩ := row_slF (fun _ => rfl) (h.at hi) hl (fun b hb => h.two hi hj hne rfl b hb)
theorem spoil_sat {n0 : Nat} {a : Option Addr} {cap : Nat} {c : Ch} {kept : List Ch} (h : Sat A w) (is : List Nat) (hi : A.σ[i]? = some c) (hrw : c.rw = true) (ho : c.holds w → w.ownsRow n0 26 3 (.slice a xs.length cap) xs.length (xs.flatMap TLeaf.cells)) (hF : ∀ b, (Value.slice a xs.length cap).ownBlock = some b → c.F b) (hnd : nodupB is = true) (hp : picks is A.σ = some kept) (hni : is.contains i = false) (mk : Int) (hmk : 0 ≤ mk ∧ mk ≤ 1000) (hB : xs.length * 24 ≤ 140737488351232) (hn0 : n0 ≤ A.n) : Calls Try.prog 26 #[.slice a xs.length cap, .int .i64 mk] w fun e w' => e = .returned (.tuple #[]) ∧ A.n ≤ w'.heap.size ∧ Sat { A with n := w'.heap.size, σ := kept } w' := by
  refine (spoil_calls w n0 a cap xs mk hmk hB (by rw [h.size]; exact hn0) (ho (h.at hi))).mono ?_
  rintro e w' ⟨rfl, hk⟩
  have hpk : picks [i] A.σ = some [c] := by simp [picks, hi]
  have hS := h.turn is [i] (new := []) hnd hp hpk (by
    rw [List.all_eq_true]
    intro q hq
    simp only [List.contains_cons, List.contains_nil, Bool.or_false, Bool.not_eq_true', beq_eq_false_iff_ne]
    intro e; subst e
    rw [List.contains_eq_mem] at hni
    simp [hq] at hni) (fun d hd => by simp only [List.mem_singleton] at hd; subst hd; exact hrw) (w' := w') (hk.mono (fun b _ hb => ⟨_, List.mem_singleton_self _, hF b hb⟩)) (by simp) (by simp)
  rw [List.append_nil] at hS
  exact ⟨rfl, by have := hk.size; rw [h.size] at this; exact this, hS⟩
theorem wide_ho {n0 : Nat} {a : Option Addr} {cap : Nat} (ho : (rowL n0 26 3 TLeaf.cells (.slice a (wideX xs).length cap) (wideX xs)).holds w) : w.ownsRow n0 26 3 (.slice a xs.length cap) xs.length (xs.flatMap TLeaf.cells) := by
  have ho' : w.ownsRow n0 26 3 (.slice a (wideX xs).length cap) (wideX xs).length ((wideX xs).flatMap TLeaf.cells) := ho
  rw [wideX_len] at ho'
  unfold wideX at ho'
  rw [List.flatMap_append] at ho'
  have hc : ∀ zs : List TLeaf, (zs.flatMap TLeaf.cells).length = zs.length * 3 := by
    intro zs
    induction zs with
    | nil => rfl
    | cons z zs ih => rw [List.flatMap_cons, List.length_append, ih, List.length_cons]; show 3 + zs.length * 3 = _; omega
  exact owns_take ho' (hc xs) (by omega)
theorem own_any {a : Option Addr} {n m cap : Nat} {b : Nat} (h : (Value.slice a n cap).ownBlock = some b) : (Value.slice a m cap).ownBlock = some b := by
  cases a with
  | none => simp [Value.ownBlock] at h
  | some x => simpa [Value.ownBlock] using h
theorem wide_not {base j : Nat} {a : Option Addr} {cap : Nat} {c : Ch} (h : Sat A w) (hi : A.σ[i]? = some (rowL base 26 3 TLeaf.cells (.slice a (wideX xs).length cap) (wideX xs))) (hl : xs.length * 24 ≤ 140737488351232) (hj : A.σ[j]? = some c) (hne : i ≠ j) : SlAt TLeaf.cells 3 (fun b => ¬ c.F b) w ⟨a, cap, xs⟩ := by
  have := row_not h hi (by rw [wideX_len]; omega) hj hne
  unfold wideX at this
  exact sl_take this
end
theorem sat_step {w : World} {t d : Nat} {F H : Nat → Prop} {xs zs : List TLeaf} (ht : TlbIs w t F (kvs xs)) (hd : RefIs w d H zs) (hFH : ∀ b, F b → ¬ H b) : Sat ⟨w, w.heap.size, [old (fun b => F b ∨ H b) w, tlbC t F (kvs xs), refC d H zs]⟩ w :=
  sat_oldS w _ _ (fun c hc => by
    simp only [List.mem_cons, List.not_mem_nil, or_false] at hc
    rcases hc with rfl | rfl
    · exact ⟨ht, tlb_stable _ _ _, fun b hb => ⟨ht.bound b hb, .inl hb⟩⟩
    · have hd' := hd
      obtain ⟨a, cap, -, -, -, -, hB⟩ := hd'
      exact ⟨hd, ref_stable _ _ _, fun b hb => ⟨hB b hb, .inr hb⟩⟩) (by
    simp only [List.map_cons, List.map_nil, List.pairwise_cons, List.mem_singleton, forall_eq, List.not_mem_nil, false_imp_iff, implies_true, List.Pairwise.nil, and_true]
    intro _ b hb hb2
    exact hFH b hb hb2)
def StepPost (w : World) (t d : Nat) (F H : Nat → Prop) (xs zs : List TLeaf) (o : TOp) (e : Ending) (w' : World) : Prop :=
  ∃ v F' H', e = .returned (.bool v) ∧ (xs = zs → v = true) ∧ w.heap.size ≤ w'.heap.size ∧ Sat ⟨w, w'.heap.size, [old (fun b => F b ∨ H b) w, tlbC t F' (kvs (stepX xs o)), refC d H' (stepX zs o)]⟩ w'

end Go.Proofs.Ytbjcamafaolgiaa.Ly
