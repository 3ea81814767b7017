/- TlbLast. No conditions. -/
import Derived.Test.YtbjcamafaolgiaaTlH
import Derived.Test.YtbjcamafaolgiaaEngL
namespace Go.Proofs.Ytbjcamafaolgiaa.Ly
open Go Go.Proofs.Ytbjcamafaolgiaa.Eng Go.Proofs.Ytbjcamafaolgiaa.Mem
set_option linter.unusedSimpArgs false
set_option linter.unusedVariables false
set_option maxRecDepth 100000
/-- What is to be held: the last four unlike pages, the latest first. -/
def lfine (l : TLeaf) : Bool := Tl.fine (l.Page, l.Frame, l.Rights)
def kv (l : TLeaf) : Int × Sh.V := (l.Page, (l.Page, l.Frame, l.Rights))
def stepL (last : List TLeaf) (l : TLeaf) : List TLeaf := if lfine l then (l :: last.filter (fun x => decide (x.Page ≠ l.Page))).take 4 else last
def lastUp (ls : List TLeaf) (i : Nat) : List TLeaf := (ls.take i).foldl stepL []
theorem lastUp_succ {ls : List TLeaf} {i : Nat} (h : i < ls.length) : lastUp ls (i + 1) = stepL (lastUp ls i) (gd ls i) := by
  unfold lastUp
  rw [List.take_succ_eq_append_getElem h, List.foldl_append, gd_eq h]; rfl
structure GoodL (last : List TLeaf) : Prop where
  len : last.length ≤ 4
  nd : (last.map TLeaf.Page).Nodup
  fine : ∀ l ∈ last, lfine l = true
theorem good_nil : GoodL [] := ⟨by simp, by simp, by simp⟩
theorem good_step {last : List TLeaf} {l : TLeaf} (h : GoodL last) : GoodL (stepL last l) := by
  unfold stepL
  cases hf : lfine l with
  | false => simpa using h
  | true =>
    simp only [if_true]
    refine ⟨by rw [List.length_take]; omega, ?_, fun x hx => ?_⟩
    · have hn : ((l :: last.filter (fun x => decide (x.Page ≠ l.Page))).map TLeaf.Page).Nodup := by
        rw [List.map_cons, List.nodup_cons]
        refine ⟨fun hm => ?_, (List.filter_sublist.map TLeaf.Page).nodup h.nd⟩
        obtain ⟨x, hx, he⟩ := List.mem_map.1 hm
        have := (List.mem_filter.1 hx).2
        simp only [decide_eq_true_eq] at this
        exact this he
      exact ((List.take_sublist _ _).map TLeaf.Page).nodup hn
    · rcases List.mem_cons.1 (List.mem_of_mem_take hx) with rfl | hx
      · exact hf
      · exact h.fine x (List.mem_filter.1 hx).1
theorem good_up (ls : List TLeaf) : ∀ (i : Nat), i ≤ ls.length → GoodL (lastUp ls i)
  | 0, _ => good_nil
  | i + 1, h => by rw [lastUp_succ (by omega)]; exact good_step (good_up ls i (by omega))
/-- What the TLB holds then. -/
def tlbL (last : List TLeaf) : List (Int × Sh.V) := (last.map kv).reverse
theorem tlbL_keys (last : List TLeaf) : (tlbL last).map (·.1) = (last.map TLeaf.Page).reverse := by
  unfold tlbL; rw [List.map_reverse, List.map_map]; rfl
theorem tlbL_put {last : List TLeaf} (h : GoodL last) {l : TLeaf} (hf : lfine l = true) : Tl.laidOn (tlbL last) l.Page (l.Page, l.Frame, l.Rights) = tlbL (stepL last l) := by
  unfold Tl.laidOn
  have hst : stepL last l = (l :: last.filter (fun x => decide (x.Page ≠ l.Page))).take 4 := by unfold stepL; rw [hf]; rfl
  have hmem : l.Page ∈ (tlbL last).map (·.1) ↔ ∃ x ∈ last, x.Page = l.Page := by rw [tlbL_keys, List.mem_reverse, List.mem_map]
  by_cases hin : l.Page ∈ (tlbL last).map (·.1)
  · rw [if_pos hin, hst]
    obtain ⟨x, hx, he⟩ := hmem.1 hin
    have hlt : (last.filter (fun x => decide (x.Page ≠ l.Page))).length < last.length := by
      refine List.length_filter_lt_length_iff_exists.2 ⟨x, hx, by simp [he]⟩
    have h4 := h.len
    rw [List.take_of_length_le (by simp only [List.length_cons]; omega)]
    unfold tlbL
    rw [List.filter_reverse, List.filter_map, List.map_cons, List.reverse_cons]
    rfl
  · rw [if_neg hin, hst]
    have hall : last.filter (fun x => decide (x.Page ≠ l.Page)) = last := List.filter_eq_self.2 (fun x hx => decide_eq_true (fun he => hin (hmem.2 ⟨x, hx, he⟩)))
    rw [hall]
    have hl : (tlbL last).length = last.length := by simp [tlbL]
    by_cases h4 : (tlbL last).length = 4
    · rw [if_pos h4]
      unfold tlbL
      rw [List.take_succ_cons, List.map_cons, List.reverse_cons, List.tail_reverse, ← List.map_dropLast, List.dropLast_eq_take]
      rw [show last.length - 1 = 3 by omega]; rfl
    · rw [if_neg h4, List.take_of_length_le (by simp only [List.length_cons]; have := h.len; omega)]
      unfold tlbL
      rw [List.map_cons, List.reverse_cons]; rfl
theorem tlbL_leaf (last : List TLeaf) : (tlbL last).map Tl.toLeaf = last.reverse := by
  unfold tlbL
  rw [List.map_reverse, List.map_map]
  congr 1
  exact List.map_id'' (fun _ => rfl) last
theorem find_perm2 {L L' : List (Int × Sh.V)} (h : L'.Perm L) (hn : (L.map (·.1)).Nodup) (k : Int) : L'.find? (fun x => x.1 == k) = L.find? (fun x => x.1 == k) := by
  have key : ∀ (M : List (Int × Sh.V)), (M.map (·.1)).Nodup → ∀ x ∈ M, (x.1 == k) = true → M.find? (fun x => x.1 == k) = some x := by
    intro M hM x hx he
    obtain ⟨xs, ys, rfl⟩ := List.append_of_mem hx
    rw [List.find?_append, List.find?_eq_none.2 (fun y hy e => by
      rw [List.map_append, List.map_cons] at hM
      exact (List.nodup_append.1 hM).2.2 y.1 (List.mem_map.2 ⟨y, hy, rfl⟩) x.1 (by simp) (by rw [beq_iff_eq] at e he; omega)), List.find?_cons_of_pos (p := fun x : Int × Sh.V => x.1 == k) he]; rfl
  cases hf : L.find? (fun x => x.1 == k) with
  | none =>
    rw [List.find?_eq_none] at hf
    exact List.find?_eq_none.2 (fun x hx => hf x (h.mem_iff.1 hx))
  | some x => exact key L' ((h.map (·.1)).nodup_iff.2 hn) x (h.mem_iff.2 (List.mem_of_find?_eq_some hf)) (by have h2 := List.find?_some hf; exact h2)
/-- What is told of a page, scanned. -/
def scanL (last : List TLeaf) (page : Int) (k : Nat) : Option TLeaf := (last.take k).foldl (fun o x => if x.Page = page then some x else o) none
theorem scanL_succ {last : List TLeaf} {page : Int} {k : Nat} (h : k < last.length) : scanL last page (k + 1) = if (gd last k).Page = page then some (gd last k) else scanL last page k := by
  unfold scanL
  rw [List.take_succ_eq_append_getElem h, List.foldl_append, gd_eq h]; rfl
theorem scanL_none {last : List TLeaf} {page : Int} : ∀ (k : Nat), k ≤ last.length → (∀ q, q < k → (gd last q).Page ≠ page) → scanL last page k = none
  | 0, _, _ => rfl
  | k + 1, h, hn => by rw [scanL_succ (by omega), if_neg (hn k (by omega)), scanL_none k (by omega) (fun q hq => hn q (by omega))]
theorem nd_at {last : List TLeaf} (h : GoodL last) {p q : Nat} (hp : p < last.length) (hq : q < last.length) (he : (gd last p).Page = (gd last q).Page) : p = q := by
  have hnd := List.pairwise_iff_getElem.1 h.nd
  rw [gd_eq hp, gd_eq hq] at he
  rcases Nat.lt_trichotomy p q with hlt | rfl | hlt
  · exact absurd (by rw [List.getElem_map, List.getElem_map]; exact he) (hnd p q (by simpa using hp) (by simpa using hq) hlt)
  · rfl
  · exact absurd (by rw [List.getElem_map, List.getElem_map]; exact he.symm) (hnd q p (by simpa using hq) (by simpa using hp) hlt)
theorem scanL_some {last : List TLeaf} (h : GoodL last) {page : Int} {q : Nat} (hq : q < last.length) (hp : (gd last q).Page = page) : ∀ (k : Nat), k ≤ last.length → q < k → scanL last page k = some (gd last q)
  | 0, _, hk => absurd hk (Nat.not_lt_zero q)
  | k + 1, hk, hqk => by
    rw [scanL_succ (by omega)]
    by_cases e : q = k
    · subst e; rw [if_pos hp]
    · rw [if_neg (fun hx => e (nd_at h hq (by omega) (by rw [hp, hx]))), scanL_some h hq hp k (by omega) (by omega)]
theorem find_scan {last : List TLeaf} (h : GoodL last) (page : Int) : (tlbL last).find? (fun x => x.1 == page) = (scanL last page last.length).map kv := by
  by_cases hin : ∃ q, q < last.length ∧ (gd last q).Page = page
  · obtain ⟨q, hq, hp⟩ := hin
    rw [scanL_some h hq hp _ (Nat.le_refl _) hq]
    have hmem : kv (gd last q) ∈ tlbL last := by
      unfold tlbL; rw [List.mem_reverse]
      exact List.mem_map_of_mem (by rw [gd_eq hq]; exact List.getElem_mem hq)
    have hnd : ((tlbL last).map (·.1)).Nodup := by rw [tlbL_keys]; exact ((List.reverse_perm _).nodup_iff).2 h.nd
    cases hf : (tlbL last).find? (fun x => x.1 == page) with
    | none => rw [List.find?_eq_none] at hf; exact absurd (by show ((kv (gd last q)).1 == page) = true; rw [beq_iff_eq]; exact hp) (hf _ hmem)
    | some x =>
      have h1 := List.mem_of_find?_eq_some hf
      have h2 := List.find?_some hf
      have : x = kv (gd last q) := by
        obtain ⟨y, hy, rfl⟩ := List.mem_map.1 (List.mem_reverse.1 h1)
        obtain ⟨p, hp', rfl⟩ := List.getElem_of_mem hy
        have e : p = q := nd_at h hp' hq (by rw [gd_eq hp', hp]; rw [beq_iff_eq] at h2; exact h2)
        subst e; rw [gd_eq hp']
      rw [this]; rfl
  · rw [scanL_none _ (Nat.le_refl _) (fun q hq he => hin ⟨q, hq, he⟩)]
    refine List.find?_eq_none.2 (fun x hx e => ?_)
    obtain ⟨y, hy, rfl⟩ := List.mem_map.1 (List.mem_reverse.1 hx)
    obtain ⟨p, hp', rfl⟩ := List.getElem_of_mem hy
    exact hin ⟨p, hp', by rw [gd_eq hp']; rw [beq_iff_eq] at e; exact e⟩
def nextUp (last : List TLeaf) (l : TLeaf) (k : Nat) : List TLeaf := l :: (last.take k).filter (fun x => decide (x.Page ≠ l.Page))
theorem nextUp_yes {last : List TLeaf} {l : TLeaf} {k : Nat} (h : k < last.length) (hp : ¬ (gd last k).Page = l.Page) : nextUp last l (k + 1) = nextUp last l k ++ [gd last k] := by
  unfold nextUp
  rw [List.take_succ_eq_append_getElem h, List.filter_append, List.filter_cons_of_pos (by rw [gd_eq h] at hp; simpa using hp), List.filter_nil, gd_eq h]; rfl
theorem nextUp_no {last : List TLeaf} {l : TLeaf} {k : Nat} (h : k < last.length) (hp : (gd last k).Page = l.Page) : nextUp last l (k + 1) = nextUp last l k := by
  unfold nextUp
  rw [List.take_succ_eq_append_getElem h, List.filter_append, List.filter_cons_of_neg (by rw [gd_eq h] at hp; simpa using hp), List.filter_nil, List.append_nil]
theorem nextUp_end {last : List TLeaf} {l : TLeaf} {k : Nat} (hf : lfine l = true) (hk : k ≤ last.length) (hl : (nextUp last l k).length ≤ 4) (he : k = last.length ∨ (nextUp last l k).length = 4) : nextUp last l k = stepL last l := by
  have hst : stepL last l = (l :: last.filter (fun x => decide (x.Page ≠ l.Page))).take 4 := by unfold stepL; rw [hf]; rfl
  rw [hst]
  have hsp : l :: last.filter (fun x => decide (x.Page ≠ l.Page)) = nextUp last l k ++ (last.drop k).filter (fun x => decide (x.Page ≠ l.Page)) := by
    unfold nextUp
    rw [List.cons_append, ← List.filter_append, List.take_append_drop]
  rw [hsp]
  rcases he with he | he
  · subst he
    rw [List.drop_length, List.filter_nil, List.append_nil, List.take_of_length_le hl]
  · rw [List.take_append, he, Nat.sub_self, List.take_zero, List.append_nil, List.take_of_length_le hl]

def optL (o : Option TLeaf) : TLeaf := o.getD ⟨0, 0, 0⟩
theorem find_is {L : List (Int × Sh.V)} {last : List TLeaf} (hP : L.Perm (tlbL last)) (hg : GoodL last) (k : Int) : Tl.leafV (Tl.findV L k) = .agg (TLeaf.arr (optL (scanL last k last.length))) ∧ Tl.findB L k = (scanL last k last.length).isSome := by
  have hnd : ((tlbL last).map (·.1)).Nodup := by rw [tlbL_keys]; exact ((List.reverse_perm _).nodup_iff).2 hg.nd
  have hf := (find_perm2 hP hnd k).trans (find_scan hg k)
  unfold Tl.findV Tl.findB
  rw [hf]
  cases scanL last k last.length <;> exact ⟨rfl, rfl⟩
theorem rev_at {xs : List TLeaf} {j k : Nat} (hk : k < xs.length) (hj : j = xs.length - 1 - k) : gd xs.reverse j = gd xs k := by
  subst hj
  rw [gd_eq (by rw [List.length_reverse]; omega), gd_eq hk, List.getElem_reverse]
  congr 1; omega
abbrev qr84_0 (w78 : World) (lv : Sl TLeaf) (i : Nat) (pg : Int) : Ch := .blk (w78.heap.size + 1) (.cells #[.int .i64 ((optL (scanL (lastUp lv.xs i) pg (lastUp lv.xs i).length)).Page), .int .i64 ((optL (scanL (lastUp lv.xs i) pg (lastUp lv.xs i).length)).Frame), .int .i64 ((optL (scanL (lastUp lv.xs i) pg (lastUp lv.xs i).length)).Rights)] 26 (0, 0)) true
abbrev qr84_1 (w78 : World) (lv : Sl TLeaf) (i : Nat) (pg : Int) : Ch := .blk w78.heap.size (.cells #[.int .i64 ((optL (scanL (lastUp lv.xs i) pg (lastUp lv.xs i).length)).Page), .int .i64 ((optL (scanL (lastUp lv.xs i) pg (lastUp lv.xs i).length)).Frame), .int .i64 ((optL (scanL (lastUp lv.xs i) pg (lastUp lv.xs i).length)).Rights)] 26 (0, 0)) true
abbrev qr84_2 (w78 : World) (lv : Sl TLeaf) (i : Nat) (pg : Int) (q : Nat) : Ch := .blk (w78.heap.size + 1) (.cells #[.int .i64 ((optL (scanL (lastUp lv.xs i) pg q)).Page), .int .i64 ((optL (scanL (lastUp lv.xs i) pg q)).Frame), .int .i64 ((optL (scanL (lastUp lv.xs i) pg q)).Rights)] 26 (0, 0)) true
abbrev qr84_3 (w78 : World) (lv : Sl TLeaf) (i : Nat) (pg : Int) : Ch := .blk w78.heap.size (.cells (TLeaf.arr (optL (scanL (lastUp lv.xs i) pg (lastUp lv.xs i).length))) 26 (0, 0)) true
abbrev qr84_4 (w78 : World) (y85 : TLeaf) : Ch := .blk (w78.heap.size + 1) (.cells #[.int .i64 y85.Page, .int .i64 y85.Frame, .int .i64 y85.Rights] 26 (0, 0)) true
abbrev qr84_5 (w33 : World) (y15 : TLeaf) : Ch := .blk w33.heap.size (.cells #[.int .i64 y15.Page, .int .i64 y15.Frame, .int .i64 y15.Rights] 26 (0, 0)) true
abbrev qr84_6 (n35 : Nat) (y41 : TLeaf) : Ch := .blk n35 (.cells #[.int .i64 y41.Page, .int .i64 y41.Frame, .int .i64 y41.Rights] 26 (0, 0)) true
abbrev qr84_7 (w78 : World) : Ch := .blk (w78.heap.size + 1) (.cells #[.int .i64 0, .int .i64 0, .int .i64 0] 26 (0, 0)) true
abbrev qr84_8 (n6 : Nat) (y15 : TLeaf) : Ch := .blk n6 (.cells (TLeaf.arr y15) 26 (0, 0)) true
abbrev qr84_9 (z : Nat) (a43 : Option Addr) (lv : Sl TLeaf) (i : Nat) (y15 : TLeaf) (k : Nat) (y41 : TLeaf) (cp44 : Nat) : Ch := rowL z 26 3 TLeaf.cells (.slice a43 (((nextUp (lastUp lv.xs i) y15 k) ++ [(⟨y41.Page, y41.Frame, y41.Rights⟩ : TLeaf)]).length) cp44) ((nextUp (lastUp lv.xs i) y15 k) ++ [(⟨y41.Page, y41.Frame, y41.Rights⟩ : TLeaf)])
abbrev qr84_10 (n6 : Nat) (b63 : Nat) (lv : Sl TLeaf) (i : Nat) (cH : Nat) : Ch := rowL n6 26 3 TLeaf.cells (.slice (some ⟨b63, 0, none⟩) (((lastUp lv.xs i).reverse).length) cH) ((lastUp lv.xs i).reverse)
abbrev qr84_11 (z : Nat) (aN : Option Addr) (lv : Sl TLeaf) (i : Nat) (y15 : TLeaf) (k : Nat) (cN : Nat) : Ch := rowL z 26 3 TLeaf.cells (.slice aN ((nextUp (lastUp lv.xs i) y15 k).length) cN) (nextUp (lastUp lv.xs i) y15 k)
abbrev qr84_12 (n6 : Nat) (a57 : Option Addr) (lv : Sl TLeaf) (i : Nat) (cp58 : Nat) : Ch := rowL n6 26 3 TLeaf.cells (.slice a57 (((lastUp lv.xs i).reverse).length) cp58) ((lastUp lv.xs i).reverse)
abbrev qr84_13 (n6 : Nat) (aH : Option Addr) (lv : Sl TLeaf) (i : Nat) (cH : Nat) : Ch := rowL n6 26 3 TLeaf.cells (.slice aH (((lastUp lv.xs i).reverse).length) cH) ((lastUp lv.xs i).reverse)
abbrev qr84_14 (z : Nat) (b38 : Nat) (lv : Sl TLeaf) (i : Nat) (cL2 : Nat) : Ch := rowL z 26 3 TLeaf.cells (.slice (some ⟨b38, 0, none⟩) ((lastUp lv.xs i).length) cL2) (lastUp lv.xs i)
abbrev qr84_15 (z : Nat) (b67 : Nat) (lv : Sl TLeaf) (i : Nat) (cL3 : Nat) : Ch := rowL z 26 3 TLeaf.cells (.slice (some ⟨b67, 0, none⟩) ((lastUp lv.xs i).length) cL3) (lastUp lv.xs i)
abbrev qr84_16 (z : Nat) (b82 : Nat) (lv : Sl TLeaf) (i : Nat) (cL5 : Nat) : Ch := rowL z 26 3 TLeaf.cells (.slice (some ⟨b82, 0, none⟩) ((lastUp lv.xs i).length) cL5) (lastUp lv.xs i)
abbrev qr84_17 (z : Nat) (aL2 : Option Addr) (lv : Sl TLeaf) (i : Nat) (cL2 : Nat) : Ch := rowL z 26 3 TLeaf.cells (.slice aL2 ((lastUp lv.xs i).length) cL2) (lastUp lv.xs i)
abbrev qr84_18 (z : Nat) (aL3 : Option Addr) (lv : Sl TLeaf) (i : Nat) (cL3 : Nat) : Ch := rowL z 26 3 TLeaf.cells (.slice aL3 ((lastUp lv.xs i).length) cL3) (lastUp lv.xs i)
abbrev qr84_19 (z : Nat) (aL4 : Option Addr) (lv : Sl TLeaf) (i : Nat) (cL4 : Nat) : Ch := rowL z 26 3 TLeaf.cells (.slice aL4 ((lastUp lv.xs i).length) cL4) (lastUp lv.xs i)
abbrev qr84_20 (z : Nat) (aL5 : Option Addr) (lv : Sl TLeaf) (i : Nat) (cL5 : Nat) : Ch := rowL z 26 3 TLeaf.cells (.slice aL5 ((lastUp lv.xs i).length) cL5) (lastUp lv.xs i)
abbrev qr84_21 (z : Nat) (aL : Option Addr) (lv : Sl TLeaf) (i : Nat) (cL : Nat) : Ch := rowL z 26 3 TLeaf.cells (.slice aL ((lastUp lv.xs i).length) cL) (lastUp lv.xs i)
abbrev qr84_22 (b63 : Nat) (lv : Sl TLeaf) (i : Nat) (cH : Nat) : Nat × Value := (11, .slice (some ⟨b63, 0, none⟩) (((lastUp lv.xs i).reverse).length) cH)
abbrev qr84_23 (lv : Sl TLeaf) (i : Nat) (pg : Int) : Nat × Value := (15, .bool ((scanL (lastUp lv.xs i) pg (lastUp lv.xs i).length).isSome))
abbrev qr84_24 (b38 : Nat) (lv : Sl TLeaf) (i : Nat) (cL2 : Nat) : Nat × Value := (4, .slice (some ⟨b38, 0, none⟩) ((lastUp lv.xs i).length) cL2)
abbrev qr84_25 (b67 : Nat) (lv : Sl TLeaf) (i : Nat) (cL3 : Nat) : Nat × Value := (4, .slice (some ⟨b67, 0, none⟩) ((lastUp lv.xs i).length) cL3)
abbrev qr84_26 (b82 : Nat) (lv : Sl TLeaf) (i : Nat) (cL5 : Nat) : Nat × Value := (4, .slice (some ⟨b82, 0, none⟩) ((lastUp lv.xs i).length) cL5)
abbrev qr84_27 (aN : Option Addr) (lv : Sl TLeaf) (i : Nat) (y15 : TLeaf) (k : Nat) (cN : Nat) : Nat × Value := (9, .slice aN ((nextUp (lastUp lv.xs i) y15 k).length) cN)
abbrev qr84_28 (aN : Option Addr) (lv : Sl TLeaf) (i : Nat) (y15 : TLeaf) (k : Nat) (cN : Nat) : Nat × Value := (4, .slice aN ((nextUp (lastUp lv.xs i) y15 k).length) cN)
abbrev qr84_29 (b8 : Nat) (o9 : Nat) (lv : Sl TLeaf) : Nat × Value := (0, .slice (some ⟨b8, o9, none⟩) lv.xs.length lv.cap)
abbrev qr84_30 (w78 : World) : Nat × Value := (16, .pointer (some ⟨w78.heap.size + 1, 0, none⟩))
abbrev qr84_31 (lv : Sl TLeaf) (i : Nat) (pg : Int) (q : Nat) : Nat × Value := (17, .bool ((scanL (lastUp lv.xs i) pg q).isSome))
abbrev qr84_32 (w78 : World) : Nat × Value := (14, .pointer (some ⟨w78.heap.size, 0, none⟩))
abbrev qr84_33 (aL4 : Option Addr) (lv : Sl TLeaf) (i : Nat) (cL4 : Nat) : Nat × Value := (4, .slice aL4 ((lastUp lv.xs i).length) cL4)
abbrev qr84_34 (aL5 : Option Addr) (lv : Sl TLeaf) (i : Nat) (cL5 : Nat) : Nat × Value := (4, .slice aL5 ((lastUp lv.xs i).length) cL5)
abbrev qr84_35 (aL : Option Addr) (lv : Sl TLeaf) (i : Nat) (cL : Nat) : Nat × Value := (4, .slice aL ((lastUp lv.xs i).length) cL)
abbrev qr84_36 (lv : Sl TLeaf) : Nat × Value := (0, .slice lv.a lv.xs.length lv.cap)
abbrev qr84_37 (i : Nat) : Nat × Value := (5, .int .i64 ((i + 1 : Nat) : Int))
abbrev qr84_38 (b2 : Nat) : Nat × Value := (60, .pointer (some ⟨b2, 0, none⟩))
abbrev qr84_39 (b2 : Nat) : Nat × Value := (3, .pointer (some ⟨b2, 0, none⟩))
abbrev qr84_40 (n6 : Nat) : Nat × Value := (6, .pointer (some ⟨n6, 0, none⟩))
abbrev qr84_41 (w : World) (b2 : Nat) (F32 : Nat → Prop) (lv : Sl TLeaf) (i : Nat) (y15 : TLeaf) (z : Nat) (aL2 : Option Addr) (cL2 : Nat) (n6 : Nat) (aN : Option Addr) (k : Nat) (cN : Nat) : List Ch := [(old0 w), (Tl.tlbC b2 F32 (Tl.laidOn (tlbL (lastUp lv.xs i)) y15.Page (y15.Page, y15.Frame, y15.Rights))), (qr84_17 z aL2 lv i cL2), (qr84_8 n6 y15), (qr84_11 z aN lv i y15 k cN)]
abbrev qr84_42 (w : World) (b2 : Nat) (F32 : Nat → Prop) (lv : Sl TLeaf) (i : Nat) (y15 : TLeaf) (z : Nat) (b38 : Nat) (cL2 : Nat) (n6 : Nat) (aN : Option Addr) (k : Nat) (cN : Nat) : List Ch := [(old0 w), (Tl.tlbC b2 F32 (Tl.laidOn (tlbL (lastUp lv.xs i)) y15.Page (y15.Page, y15.Frame, y15.Rights))), (qr84_14 z b38 lv i cL2), (qr84_8 n6 y15), (qr84_11 z aN lv i y15 k cN)]
abbrev qr84_43 (w : World) (b2 : Nat) (F32 : Nat → Prop) (lv : Sl TLeaf) (i : Nat) (y15 : TLeaf) (z : Nat) (aL : Option Addr) (cL : Nat) (n6 : Nat) : List Ch := [(old0 w), (Tl.tlbC b2 F32 (Tl.laidOn (tlbL (lastUp lv.xs i)) y15.Page (y15.Page, y15.Frame, y15.Rights))), (qr84_21 z aL lv i cL), (qr84_8 n6 y15)]
abbrev qr84_44 (w : World) (b2 : Nat) (F76 : Nat → Prop) (L77 : List (Int × Sh.V)) (z : Nat) (aL5 : Option Addr) (lv : Sl TLeaf) (i : Nat) (cL5 : Nat) (n6 : Nat) (aH : Option Addr) (cH : Nat) (w78 : World) (pg : Int) : List Ch := [(old0 w), (Tl.tlbC b2 F76 L77), (qr84_20 z aL5 lv i cL5), (qr84_13 n6 aH lv i cH), (qr84_1 w78 lv i pg), (qr84_0 w78 lv i pg)]
abbrev qr84_45 (w : World) (b2 : Nat) (FG : Nat → Prop) (lv : Sl TLeaf) (i : Nat) (z : Nat) (aL3 : Option Addr) (cL3 : Nat) (n6 : Nat) (aH : Option Addr) (cH : Nat) : List Ch := [(old0 w), (Tl.tlbC b2 FG (tlbL (lastUp lv.xs i))), (qr84_18 z aL3 lv i cL3), (qr84_13 n6 aH lv i cH)]
abbrev qr84_46 (w : World) (b2 : Nat) (FG : Nat → Prop) (lv : Sl TLeaf) (i : Nat) (z : Nat) (aL : Option Addr) (cL : Nat) (n6 : Nat) (y15 : TLeaf) : List Ch := [(old0 w), (Tl.tlbC b2 FG (tlbL (lastUp lv.xs i))), (qr84_21 z aL lv i cL), (qr84_8 n6 y15)]
abbrev qr84_47 (w : World) (b2 : Nat) (FG : Nat → Prop) (lv : Sl TLeaf) (i : Nat) (z : Nat) (aL : Option Addr) (cL : Nat) : List Ch := [(old0 w), (Tl.tlbC b2 FG (tlbL (lastUp lv.xs i))), (qr84_21 z aL lv i cL)]
theorem last_calls (w : World) (lv : Sl TLeaf) (hlv : SlOk TLeaf.cells 3 TLeaf.ok Any w lv) : Calls Try.prog 3 #[.slice lv.a lv.xs.length lv.cap] w fun e w' => e = .returned (.bool true) ∧ Keeps (fun _ => False) w w' := by
 obtain ⟨z, hz⟩ : ∃ z, z = w.heap.size := ⟨_, rfl⟩
 refine calls_G (args := [.slice lv.a lv.xs.length lv.cap]) 160 ⟨w, z, [(old0 w)]⟩ Try.func3 rfl (by kernel_rfl) (by kernel_rfl) (sat_0 hz) ?_
 have hll := hlv.1.len
 refine g_keep [0] [(qr84_36 lv)] ?_
 refine g_seq <| g_region <| l_all 1 [o0] [0] [] [(qr84_36 lv)] ⟨w, z, [(old0 w)]⟩ trivial ?_
 refine e_seq <| g_seq <| g_region <| l_call [] [] 7 #[] (some 19) trivial ?_
 intro w1 hw1
 refine (Tl.new_sat hw1).mono ?_
 rintro e w4 ⟨b2, F3, rfl, hmw4, hSw4⟩
 have hnw4 : z ≤ w4.heap.size := hmw4
 refine ⟨_, _, rfl, hSw4, ?_⟩
 refine l_keep [0, 19] [(qr84_36 lv), (19, .pointer (some ⟨b2, 0, none⟩))] ?_
 refine l_all 1 [o0] [0, 3] [] [(qr84_36 lv), (qr84_39 b2)] ⟨w, w4.heap.size, [(old0 w), (Tl.tlbC b2 F3 ([]))]⟩ trivial ?_
 refine e_seq <| g_seq <| g_seq <| g_region <| l_all 2 [o0, o0] [0, 3, 21] [] [(qr84_36 lv), (qr84_39 b2), (21, .bool false)] ⟨w, w4.heap.size, [(old0 w), (Tl.tlbC b2 F3 ([]))]⟩ trivial ?_
 refine e_seq <| g_false <| g_skip <| e_seq <| g_seq <| g_region <| l_all 1 [o0] [0, 3, 4] [] [(qr84_36 lv), (qr84_39 b2), (4, .slice none 0 0)] ⟨w, w4.heap.size, [(old0 w), (Tl.tlbC b2 F3 ([]))]⟩ trivial ?_
 refine e_seq <| g_seq <| g_seq <| g_region <| l_all 1 [o0] [0, 3, 4, 5] [] [(qr84_36 lv), (qr84_39 b2), (4, .slice none 0 0), (5, .int .i64 0)] ⟨w, w4.heap.size, [(old0 w), (Tl.tlbC b2 F3 ([]))]⟩ trivial ?_
 refine e_seq <| g_block <| g_rowL z 26 3 TLeaf.cells ?_
 refine g_loop (fun m a w' => ∃ (n6 : Nat) (i : Nat) (FG : Nat → Prop) (aL : Option Addr) (cL : Nat), m = lv.xs.length - i ∧ w4.heap.size ≤ n6 ∧ (i ≤ lv.xs.length) ∧ St 160 [(qr84_36 lv), (qr84_39 b2), (qr84_35 aL lv i cL), (5, .int .i64 (i : Int))] [] ⟨w, n6, (qr84_47 w b2 FG lv i z aL cL)⟩ a w') (lv.xs.length - 0) ?_ ?_
 · intro a w' hs; exact ⟨w4.heap.size, 0, F3, none, 0, rfl, Nat.le_refl _, Nat.zero_le _, by (try dsimp only [qr84_0, qr84_1, qr84_2, qr84_3, qr84_4, qr84_5, qr84_6, qr84_7, qr84_8, qr84_9, qr84_10, qr84_11, qr84_12, qr84_13, qr84_14, qr84_15, qr84_16, qr84_17, qr84_18, qr84_19, qr84_20, qr84_21, qr84_22, qr84_23, qr84_24, qr84_25, qr84_26, qr84_27, qr84_28, qr84_29, qr84_30, qr84_31, qr84_32, qr84_33, qr84_34, qr84_35, qr84_36, qr84_37, qr84_38, qr84_39, qr84_40, qr84_41, qr84_42, qr84_43, qr84_44, qr84_45, qr84_46, qr84_47] at hs ⊢); rw [show lastUp lv.xs 0 = [] from rfl]; exact hs⟩
 · rintro m a w' ⟨n6, i, FG, aL, cL, rfl, hn5, hki, hs⟩
   refine (?_ : G Try.prog 160 [(qr84_36 lv), (qr84_39 b2), (qr84_35 aL lv i cL), (5, .int .i64 (i : Int))] [] ⟨w, n6, (qr84_47 w b2 FG lv i z aL cL)⟩ _ _ _) a w' hs
   clear hs a w'
   have hgood := good_up lv.xs i (by omega)
   have hg4 := hgood.len
   refine g_seq <| g_seq ?_
   by_cases h7 : ((i : Int) : Int) < ((lv.xs.length : Nat) : Int)
   · refine g_region <| l_all 4 [o0, o0, o0, oT] [0, 3, 4, 5, 25] [BT (((i : Int) : Int) < ((lv.xs.length : Nat) : Int))] [(qr84_36 lv), (qr84_39 b2), (qr84_35 aL lv i cL), (5, .int .i64 (i : Int)), (25, .bool true)] ⟨w, n6, (qr84_47 w b2 FG lv i z aL cL)⟩ ⟨bt (by omega), trivial⟩ ?_
     refine e_seq <| g_true <| g_skip <| e_seq <| g_seq <| g_block <| g_seq ?_
     obtain ⟨b8, o9, ha10, hF12, hc11⟩ := (hlv).1.all (show 0 < lv.xs.length by omega)
     replace ha10 : lv.a = some ⟨b8, o9, none⟩ := ha10
     refine g_eq [(qr84_29 b8 o9 lv), (qr84_39 b2), (qr84_35 aL lv i cL), (5, .int .i64 (i : Int)), (25, .bool true)] (by (try dsimp only [qr84_0, qr84_1, qr84_2, qr84_3, qr84_4, qr84_5, qr84_6, qr84_7, qr84_8, qr84_9, qr84_10, qr84_11, qr84_12, qr84_13, qr84_14, qr84_15, qr84_16, qr84_17, qr84_18, qr84_19, qr84_20, qr84_21, qr84_22, qr84_23, qr84_24, qr84_25, qr84_26, qr84_27, qr84_28, qr84_29, qr84_30, qr84_31, qr84_32, qr84_33, qr84_34, qr84_35, qr84_36, qr84_37, qr84_38, qr84_39, qr84_40, qr84_41, qr84_42, qr84_43, qr84_44, qr84_45, qr84_46, qr84_47]); simp only [ha10]) ?_
     have hc13 := hc11 i (show i < lv.xs.length by omega)
     have he14 := (hlv).2 i (show i < lv.xs.length by omega)
     obtain ⟨y15, hy15⟩ : ∃ y_, y_ = gd lv.xs i := ⟨_, rfl⟩
     rw [← hy15] at he14 hc13
     skip
     refine g_region <| l_all 6 [o0, o0, (oi i), (ol 0 (TLeaf.arr y15)), o0, (oa [.at 3, .at 3, .at 3])] [0, 3, 4, 5, 6] [((i : Int) : Int) = ((i : Nat) : Int), i < lv.xs.length, (none : Option Nat) = none, OldR w b8 (o9 + i * 3) (TLeaf.arr y15), Qb n6, Qb n6, Qb n6] [(qr84_29 b8 o9 lv), (qr84_39 b2), (qr84_35 aL lv i cL), (5, .int .i64 (i : Int)), (qr84_40 n6)] ⟨w, n6 + 1, (qr84_46 w b2 FG lv i z aL cL n6 y15)⟩ ⟨rfl, (by omega), rfl, old_row hc13, rfl, rfl, rfl, trivial⟩ ?_
     refine e_seq <| g_seq ?_
     by_cases h16 : (y15.Page : Int) < 0
     · refine g_region <| l_all 29 [o0, (oa [.at 3]), oF, o0, o0, o0, o0, o0, o0, o0, o0, o0, o0, o0] [0, 3, 4, 5, 6, 7] [Qb n6, BF ((y15.Page : Int) ≥ 0)] [(qr84_29 b8 o9 lv), (qr84_39 b2), (qr84_35 aL lv i cL), (5, .int .i64 (i : Int)), (qr84_40 n6), (7, .bool false)] ⟨w, n6 + 1, (qr84_46 w b2 FG lv i z aL cL n6 y15)⟩ ⟨rfl, bf (by omega), trivial⟩ ?_
       refine e_seq <| g_seq <| g_region <| l_run 2 [o0, (oa [.at 3, .at 3, .at 3])] [0, 3, 4, 5, 6, 7, 60, 61] [Qb n6, Qb n6, Qb n6] [(qr84_29 b8 o9 lv), (qr84_39 b2), (qr84_35 aL lv i cL), (5, .int .i64 (i : Int)), (qr84_40 n6), (7, .bool false), (qr84_38 b2), (61, .agg (TLeaf.arr y15))] ⟨w, n6 + 1, (qr84_46 w b2 FG lv i z aL cL n6 y15)⟩ ⟨rfl, rfl, rfl, trivial⟩ ?_
       refine l_call [] [] 8 #[.pointer (some ⟨b2, 0, none⟩), .agg (TLeaf.arr y15)] (some 62) trivial ?_
       intro w17 hw17
       have hfw19 : lfine y15 = false := Bool.eq_false_iff.2 (by unfold lfine Tl.fine; simp only [ne_eq, Bool.and_eq_true, decide_eq_true_eq]; omega)
       refine (Tl.put_sat hw17 (i := 1) rfl (y15.Page, y15.Frame, y15.Rights)).mono ?_
       rintro e w19 ⟨F18, rfl, hmw19, hSw19⟩
       have hnw19 : n6 + 1 ≤ w19.heap.size := hmw19
       rw [show Tl.fine (y15.Page, y15.Frame, y15.Rights) = false from hfw19] at hSw19 ⊢
       refine ⟨_, _, rfl, hSw19, ?_⟩
       refine l_keep [0, 3, 4, 5, 6, 7, 62] [(qr84_29 b8 o9 lv), (qr84_39 b2), (qr84_35 aL lv i cL), (5, .int .i64 (i : Int)), (qr84_40 n6), (7, .bool false), (62, .int .i64 80)] ?_
       refine l_all 1 [o0] [0, 3, 4, 5, 6, 7, 8] [] [(qr84_29 b8 o9 lv), (qr84_39 b2), (qr84_35 aL lv i cL), (5, .int .i64 (i : Int)), (qr84_40 n6), (7, .bool false), (8, .int .i64 80)] ⟨w, w19.heap.size, [(old0 w), (Tl.tlbC b2 F18 (tlbL (lastUp lv.xs i))), (qr84_21 z aL lv i cL), (qr84_8 n6 y15)]⟩ trivial ?_
       refine e_seq <| g_seq <| g_seq <| g_region <| l_all 4 [o0, o0, o0, o0] [0, 3, 4, 5, 6, 7, 66] [] [(qr84_29 b8 o9 lv), (qr84_39 b2), (qr84_35 aL lv i cL), (5, .int .i64 (i : Int)), (qr84_40 n6), (7, .bool false), (66, .bool false)] ⟨w, w19.heap.size, [(old0 w), (Tl.tlbC b2 F18 (tlbL (lastUp lv.xs i))), (qr84_21 z aL lv i cL), (qr84_8 n6 y15)]⟩ trivial ?_
       refine e_seq <| g_false <| g_skip <| e_seq <| g_seq <| g_seq <| g_region <| l_all 2 [o0, o0] [0, 3, 4, 5, 6, 68] [] [(qr84_29 b8 o9 lv), (qr84_39 b2), (qr84_35 aL lv i cL), (5, .int .i64 (i : Int)), (qr84_40 n6), (68, .bool true)] ⟨w, w19.heap.size, [(old0 w), (Tl.tlbC b2 F18 (tlbL (lastUp lv.xs i))), (qr84_21 z aL lv i cL), (qr84_8 n6 y15)]⟩ trivial ?_
       refine e_seq <| g_true <| g_exit <| e_out <| e_hit <| e_seq <| g_region <| l_all 3 [o0, (ov (.int .i64 ((i + 1 : Nat) : Int))), o0] [0, 3, 4, 5] [Value.int .i64 (IntKind.i64.wrap (((i : Int) : Int) + 1)) = Value.int .i64 (((i + 1 : Nat) : Int))] [(qr84_29 b8 o9 lv), (qr84_39 b2), (qr84_35 aL lv i cL), (qr84_37 i)] ⟨w, w19.heap.size, [(old0 w), (Tl.tlbC b2 F18 (tlbL (lastUp lv.xs i))), (qr84_21 z aL lv i cL), (qr84_8 n6 y15)]⟩ ⟨congrArg (Value.int .i64) (wr_i64 (by omega) (by omega) (by omega)), trivial⟩ ?_
       refine e_pick [0, 1, 2] [(old0 w), (Tl.tlbC b2 F18 (tlbL (lastUp lv.xs i))), (qr84_21 z aL lv i cL)] rfl rfl ?_
       refine e_eqk [0, 3, 4, 5] [(qr84_36 lv), (qr84_39 b2), (qr84_35 aL lv i cL), (qr84_37 i)] (by (try dsimp only [qr84_0, qr84_1, qr84_2, qr84_3, qr84_4, qr84_5, qr84_6, qr84_7, qr84_8, qr84_9, qr84_10, qr84_11, qr84_12, qr84_13, qr84_14, qr84_15, qr84_16, qr84_17, qr84_18, qr84_19, qr84_20, qr84_21, qr84_22, qr84_23, qr84_24, qr84_25, qr84_26, qr84_27, qr84_28, qr84_29, qr84_30, qr84_31, qr84_32, qr84_33, qr84_34, qr84_35, qr84_36, qr84_37, qr84_38, qr84_39, qr84_40, qr84_41, qr84_42, qr84_43, qr84_44, qr84_45, qr84_46, qr84_47]); simp only [ha10]; rfl) ?_
       refine e_inv (fun a w' hs => ⟨lv.xs.length - (i + 1), by omega, w19.heap.size, (i + 1), F18, aL, cL, rfl, by omega, by omega, by (try dsimp only [qr84_0, qr84_1, qr84_2, qr84_3, qr84_4, qr84_5, qr84_6, qr84_7, qr84_8, qr84_9, qr84_10, qr84_11, qr84_12, qr84_13, qr84_14, qr84_15, qr84_16, qr84_17, qr84_18, qr84_19, qr84_20, qr84_21, qr84_22, qr84_23, qr84_24, qr84_25, qr84_26, qr84_27, qr84_28, qr84_29, qr84_30, qr84_31, qr84_32, qr84_33, qr84_34, qr84_35, qr84_36, qr84_37, qr84_38, qr84_39, qr84_40, qr84_41, qr84_42, qr84_43, qr84_44, qr84_45, qr84_46, qr84_47] at hs ⊢); rw [lastUp_succ (by omega), ← hy15, show stepL (lastUp lv.xs i) y15 = (lastUp lv.xs i) from by unfold stepL; rw [hfw19]; rfl]; exact hs⟩)
     · by_cases h20 : (y15.Page : Int) < 256
       · by_cases h21 : (y15.Frame : Int) < 0
         · refine g_region <| l_all 29 [o0, (oa [.at 3]), oT, o0, o0, (oa [.at 3]), oT, o0, o0, o0, (oa [.at 3]), oF, o0, o0, o0, o0, o0, o0, o0, o0] [0, 3, 4, 5, 6, 7] [Qb n6, BT ((y15.Page : Int) ≥ 0), Qb n6, BT ((y15.Page : Int) < 256), Qb n6, BF ((y15.Frame : Int) ≥ 0)] [(qr84_29 b8 o9 lv), (qr84_39 b2), (qr84_35 aL lv i cL), (5, .int .i64 (i : Int)), (qr84_40 n6), (7, .bool false)] ⟨w, n6 + 1, (qr84_46 w b2 FG lv i z aL cL n6 y15)⟩ ⟨rfl, bt (by omega), rfl, bt (by omega), rfl, bf (by omega), trivial⟩ ?_
           refine e_seq <| g_seq <| g_region <| l_run 2 [o0, (oa [.at 3, .at 3, .at 3])] [0, 3, 4, 5, 6, 7, 60, 61] [Qb n6, Qb n6, Qb n6] [(qr84_29 b8 o9 lv), (qr84_39 b2), (qr84_35 aL lv i cL), (5, .int .i64 (i : Int)), (qr84_40 n6), (7, .bool false), (qr84_38 b2), (61, .agg (TLeaf.arr y15))] ⟨w, n6 + 1, (qr84_46 w b2 FG lv i z aL cL n6 y15)⟩ ⟨rfl, rfl, rfl, trivial⟩ ?_
           refine l_call [] [] 8 #[.pointer (some ⟨b2, 0, none⟩), .agg (TLeaf.arr y15)] (some 62) trivial ?_
           intro w22 hw22
           have hfw24 : lfine y15 = false := Bool.eq_false_iff.2 (by unfold lfine Tl.fine; simp only [ne_eq, Bool.and_eq_true, decide_eq_true_eq]; omega)
           refine (Tl.put_sat hw22 (i := 1) rfl (y15.Page, y15.Frame, y15.Rights)).mono ?_
           rintro e w24 ⟨F23, rfl, hmw24, hSw24⟩
           have hnw24 : n6 + 1 ≤ w24.heap.size := hmw24
           rw [show Tl.fine (y15.Page, y15.Frame, y15.Rights) = false from hfw24] at hSw24 ⊢
           refine ⟨_, _, rfl, hSw24, ?_⟩
           refine l_keep [0, 3, 4, 5, 6, 7, 62] [(qr84_29 b8 o9 lv), (qr84_39 b2), (qr84_35 aL lv i cL), (5, .int .i64 (i : Int)), (qr84_40 n6), (7, .bool false), (62, .int .i64 80)] ?_
           refine l_all 1 [o0] [0, 3, 4, 5, 6, 7, 8] [] [(qr84_29 b8 o9 lv), (qr84_39 b2), (qr84_35 aL lv i cL), (5, .int .i64 (i : Int)), (qr84_40 n6), (7, .bool false), (8, .int .i64 80)] ⟨w, w24.heap.size, [(old0 w), (Tl.tlbC b2 F23 (tlbL (lastUp lv.xs i))), (qr84_21 z aL lv i cL), (qr84_8 n6 y15)]⟩ trivial ?_
           refine e_seq <| g_seq <| g_seq <| g_region <| l_all 4 [o0, o0, o0, o0] [0, 3, 4, 5, 6, 7, 66] [] [(qr84_29 b8 o9 lv), (qr84_39 b2), (qr84_35 aL lv i cL), (5, .int .i64 (i : Int)), (qr84_40 n6), (7, .bool false), (66, .bool false)] ⟨w, w24.heap.size, [(old0 w), (Tl.tlbC b2 F23 (tlbL (lastUp lv.xs i))), (qr84_21 z aL lv i cL), (qr84_8 n6 y15)]⟩ trivial ?_
           refine e_seq <| g_false <| g_skip <| e_seq <| g_seq <| g_seq <| g_region <| l_all 2 [o0, o0] [0, 3, 4, 5, 6, 68] [] [(qr84_29 b8 o9 lv), (qr84_39 b2), (qr84_35 aL lv i cL), (5, .int .i64 (i : Int)), (qr84_40 n6), (68, .bool true)] ⟨w, w24.heap.size, [(old0 w), (Tl.tlbC b2 F23 (tlbL (lastUp lv.xs i))), (qr84_21 z aL lv i cL), (qr84_8 n6 y15)]⟩ trivial ?_
           refine e_seq <| g_true <| g_exit <| e_out <| e_hit <| e_seq <| g_region <| l_all 3 [o0, (ov (.int .i64 ((i + 1 : Nat) : Int))), o0] [0, 3, 4, 5] [Value.int .i64 (IntKind.i64.wrap (((i : Int) : Int) + 1)) = Value.int .i64 (((i + 1 : Nat) : Int))] [(qr84_29 b8 o9 lv), (qr84_39 b2), (qr84_35 aL lv i cL), (qr84_37 i)] ⟨w, w24.heap.size, [(old0 w), (Tl.tlbC b2 F23 (tlbL (lastUp lv.xs i))), (qr84_21 z aL lv i cL), (qr84_8 n6 y15)]⟩ ⟨congrArg (Value.int .i64) (wr_i64 (by omega) (by omega) (by omega)), trivial⟩ ?_
           refine e_pick [0, 1, 2] [(old0 w), (Tl.tlbC b2 F23 (tlbL (lastUp lv.xs i))), (qr84_21 z aL lv i cL)] rfl rfl ?_
           refine e_eqk [0, 3, 4, 5] [(qr84_36 lv), (qr84_39 b2), (qr84_35 aL lv i cL), (qr84_37 i)] (by (try dsimp only [qr84_0, qr84_1, qr84_2, qr84_3, qr84_4, qr84_5, qr84_6, qr84_7, qr84_8, qr84_9, qr84_10, qr84_11, qr84_12, qr84_13, qr84_14, qr84_15, qr84_16, qr84_17, qr84_18, qr84_19, qr84_20, qr84_21, qr84_22, qr84_23, qr84_24, qr84_25, qr84_26, qr84_27, qr84_28, qr84_29, qr84_30, qr84_31, qr84_32, qr84_33, qr84_34, qr84_35, qr84_36, qr84_37, qr84_38, qr84_39, qr84_40, qr84_41, qr84_42, qr84_43, qr84_44, qr84_45, qr84_46, qr84_47]); simp only [ha10]; rfl) ?_
           refine e_inv (fun a w' hs => ⟨lv.xs.length - (i + 1), by omega, w24.heap.size, (i + 1), F23, aL, cL, rfl, by omega, by omega, by (try dsimp only [qr84_0, qr84_1, qr84_2, qr84_3, qr84_4, qr84_5, qr84_6, qr84_7, qr84_8, qr84_9, qr84_10, qr84_11, qr84_12, qr84_13, qr84_14, qr84_15, qr84_16, qr84_17, qr84_18, qr84_19, qr84_20, qr84_21, qr84_22, qr84_23, qr84_24, qr84_25, qr84_26, qr84_27, qr84_28, qr84_29, qr84_30, qr84_31, qr84_32, qr84_33, qr84_34, qr84_35, qr84_36, qr84_37, qr84_38, qr84_39, qr84_40, qr84_41, qr84_42, qr84_43, qr84_44, qr84_45, qr84_46, qr84_47] at hs ⊢); rw [lastUp_succ (by omega), ← hy15, show stepL (lastUp lv.xs i) y15 = (lastUp lv.xs i) from by unfold stepL; rw [hfw24]; rfl]; exact hs⟩)
         · by_cases h25 : (y15.Frame : Int) < 1024
           · by_cases h26 : (y15.Rights : Int) < 0
             · refine g_region <| l_all 29 [o0, (oa [.at 3]), oT, o0, o0, (oa [.at 3]), oT, o0, o0, o0, (oa [.at 3]), oT, o0, o0, o0, (oa [.at 3]), oT, o0, o0, o0, (oa [.at 3]), oF, o0, o0, o0, o0] [0, 3, 4, 5, 6, 7] [Qb n6, BT ((y15.Page : Int) ≥ 0), Qb n6, BT ((y15.Page : Int) < 256), Qb n6, BT ((y15.Frame : Int) ≥ 0), Qb n6, BT ((y15.Frame : Int) < 1024), Qb n6, BF ((y15.Rights : Int) ≥ 0)] [(qr84_29 b8 o9 lv), (qr84_39 b2), (qr84_35 aL lv i cL), (5, .int .i64 (i : Int)), (qr84_40 n6), (7, .bool false)] ⟨w, n6 + 1, (qr84_46 w b2 FG lv i z aL cL n6 y15)⟩ ⟨rfl, bt (by omega), rfl, bt (by omega), rfl, bt (by omega), rfl, bt (by omega), rfl, bf (by omega), trivial⟩ ?_
               refine e_seq <| g_seq <| g_region <| l_run 2 [o0, (oa [.at 3, .at 3, .at 3])] [0, 3, 4, 5, 6, 7, 60, 61] [Qb n6, Qb n6, Qb n6] [(qr84_29 b8 o9 lv), (qr84_39 b2), (qr84_35 aL lv i cL), (5, .int .i64 (i : Int)), (qr84_40 n6), (7, .bool false), (qr84_38 b2), (61, .agg (TLeaf.arr y15))] ⟨w, n6 + 1, (qr84_46 w b2 FG lv i z aL cL n6 y15)⟩ ⟨rfl, rfl, rfl, trivial⟩ ?_
               refine l_call [] [] 8 #[.pointer (some ⟨b2, 0, none⟩), .agg (TLeaf.arr y15)] (some 62) trivial ?_
               intro w27 hw27
               have hfw29 : lfine y15 = false := Bool.eq_false_iff.2 (by unfold lfine Tl.fine; simp only [ne_eq, Bool.and_eq_true, decide_eq_true_eq]; omega)
               refine (Tl.put_sat hw27 (i := 1) rfl (y15.Page, y15.Frame, y15.Rights)).mono ?_
               rintro e w29 ⟨F28, rfl, hmw29, hSw29⟩
               have hnw29 : n6 + 1 ≤ w29.heap.size := hmw29
               rw [show Tl.fine (y15.Page, y15.Frame, y15.Rights) = false from hfw29] at hSw29 ⊢
               refine ⟨_, _, rfl, hSw29, ?_⟩
               refine l_keep [0, 3, 4, 5, 6, 7, 62] [(qr84_29 b8 o9 lv), (qr84_39 b2), (qr84_35 aL lv i cL), (5, .int .i64 (i : Int)), (qr84_40 n6), (7, .bool false), (62, .int .i64 80)] ?_
               refine l_all 1 [o0] [0, 3, 4, 5, 6, 7, 8] [] [(qr84_29 b8 o9 lv), (qr84_39 b2), (qr84_35 aL lv i cL), (5, .int .i64 (i : Int)), (qr84_40 n6), (7, .bool false), (8, .int .i64 80)] ⟨w, w29.heap.size, [(old0 w), (Tl.tlbC b2 F28 (tlbL (lastUp lv.xs i))), (qr84_21 z aL lv i cL), (qr84_8 n6 y15)]⟩ trivial ?_
               refine e_seq <| g_seq <| g_seq <| g_region <| l_all 4 [o0, o0, o0, o0] [0, 3, 4, 5, 6, 7, 66] [] [(qr84_29 b8 o9 lv), (qr84_39 b2), (qr84_35 aL lv i cL), (5, .int .i64 (i : Int)), (qr84_40 n6), (7, .bool false), (66, .bool false)] ⟨w, w29.heap.size, [(old0 w), (Tl.tlbC b2 F28 (tlbL (lastUp lv.xs i))), (qr84_21 z aL lv i cL), (qr84_8 n6 y15)]⟩ trivial ?_
               refine e_seq <| g_false <| g_skip <| e_seq <| g_seq <| g_seq <| g_region <| l_all 2 [o0, o0] [0, 3, 4, 5, 6, 68] [] [(qr84_29 b8 o9 lv), (qr84_39 b2), (qr84_35 aL lv i cL), (5, .int .i64 (i : Int)), (qr84_40 n6), (68, .bool true)] ⟨w, w29.heap.size, [(old0 w), (Tl.tlbC b2 F28 (tlbL (lastUp lv.xs i))), (qr84_21 z aL lv i cL), (qr84_8 n6 y15)]⟩ trivial ?_
               refine e_seq <| g_true <| g_exit <| e_out <| e_hit <| e_seq <| g_region <| l_all 3 [o0, (ov (.int .i64 ((i + 1 : Nat) : Int))), o0] [0, 3, 4, 5] [Value.int .i64 (IntKind.i64.wrap (((i : Int) : Int) + 1)) = Value.int .i64 (((i + 1 : Nat) : Int))] [(qr84_29 b8 o9 lv), (qr84_39 b2), (qr84_35 aL lv i cL), (qr84_37 i)] ⟨w, w29.heap.size, [(old0 w), (Tl.tlbC b2 F28 (tlbL (lastUp lv.xs i))), (qr84_21 z aL lv i cL), (qr84_8 n6 y15)]⟩ ⟨congrArg (Value.int .i64) (wr_i64 (by omega) (by omega) (by omega)), trivial⟩ ?_
               refine e_pick [0, 1, 2] [(old0 w), (Tl.tlbC b2 F28 (tlbL (lastUp lv.xs i))), (qr84_21 z aL lv i cL)] rfl rfl ?_
               refine e_eqk [0, 3, 4, 5] [(qr84_36 lv), (qr84_39 b2), (qr84_35 aL lv i cL), (qr84_37 i)] (by (try dsimp only [qr84_0, qr84_1, qr84_2, qr84_3, qr84_4, qr84_5, qr84_6, qr84_7, qr84_8, qr84_9, qr84_10, qr84_11, qr84_12, qr84_13, qr84_14, qr84_15, qr84_16, qr84_17, qr84_18, qr84_19, qr84_20, qr84_21, qr84_22, qr84_23, qr84_24, qr84_25, qr84_26, qr84_27, qr84_28, qr84_29, qr84_30, qr84_31, qr84_32, qr84_33, qr84_34, qr84_35, qr84_36, qr84_37, qr84_38, qr84_39, qr84_40, qr84_41, qr84_42, qr84_43, qr84_44, qr84_45, qr84_46, qr84_47]); simp only [ha10]; rfl) ?_
               refine e_inv (fun a w' hs => ⟨lv.xs.length - (i + 1), by omega, w29.heap.size, (i + 1), F28, aL, cL, rfl, by omega, by omega, by (try dsimp only [qr84_0, qr84_1, qr84_2, qr84_3, qr84_4, qr84_5, qr84_6, qr84_7, qr84_8, qr84_9, qr84_10, qr84_11, qr84_12, qr84_13, qr84_14, qr84_15, qr84_16, qr84_17, qr84_18, qr84_19, qr84_20, qr84_21, qr84_22, qr84_23, qr84_24, qr84_25, qr84_26, qr84_27, qr84_28, qr84_29, qr84_30, qr84_31, qr84_32, qr84_33, qr84_34, qr84_35, qr84_36, qr84_37, qr84_38, qr84_39, qr84_40, qr84_41, qr84_42, qr84_43, qr84_44, qr84_45, qr84_46, qr84_47] at hs ⊢); rw [lastUp_succ (by omega), ← hy15, show stepL (lastUp lv.xs i) y15 = (lastUp lv.xs i) from by unfold stepL; rw [hfw29]; rfl]; exact hs⟩)
             · by_cases h30 : (y15.Rights : Int) < 8
               · refine g_region <| l_all 29 [o0, (oa [.at 3]), oT, o0, o0, (oa [.at 3]), oT, o0, o0, o0, (oa [.at 3]), oT, o0, o0, o0, (oa [.at 3]), oT, o0, o0, o0, (oa [.at 3]), oT, o0, o0, o0, (oa [.at 3]), oT, o0, o0] [0, 3, 4, 5, 6, 7] [Qb n6, BT ((y15.Page : Int) ≥ 0), Qb n6, BT ((y15.Page : Int) < 256), Qb n6, BT ((y15.Frame : Int) ≥ 0), Qb n6, BT ((y15.Frame : Int) < 1024), Qb n6, BT ((y15.Rights : Int) ≥ 0), Qb n6, BT ((y15.Rights : Int) < 8)] [(qr84_29 b8 o9 lv), (qr84_39 b2), (qr84_35 aL lv i cL), (5, .int .i64 (i : Int)), (qr84_40 n6), (7, .bool true)] ⟨w, n6 + 1, (qr84_46 w b2 FG lv i z aL cL n6 y15)⟩ ⟨rfl, bt (by omega), rfl, bt (by omega), rfl, bt (by omega), rfl, bt (by omega), rfl, bt (by omega), rfl, bt (by omega), trivial⟩ ?_
                 refine e_seq <| g_seq <| g_region <| l_run 2 [o0, (oa [.at 3, .at 3, .at 3])] [0, 3, 4, 5, 6, 7, 60, 61] [Qb n6, Qb n6, Qb n6] [(qr84_29 b8 o9 lv), (qr84_39 b2), (qr84_35 aL lv i cL), (5, .int .i64 (i : Int)), (qr84_40 n6), (7, .bool true), (qr84_38 b2), (61, .agg (TLeaf.arr y15))] ⟨w, n6 + 1, (qr84_46 w b2 FG lv i z aL cL n6 y15)⟩ ⟨rfl, rfl, rfl, trivial⟩ ?_
                 refine l_call [] [] 8 #[.pointer (some ⟨b2, 0, none⟩), .agg (TLeaf.arr y15)] (some 62) trivial ?_
                 intro w31 hw31
                 have hfw33 : lfine y15 = true := by unfold lfine Tl.fine; simp only [Bool.and_eq_true, decide_eq_true_eq]; omega
                 refine (Tl.put_sat hw31 (i := 1) rfl (y15.Page, y15.Frame, y15.Rights)).mono ?_
                 rintro e w33 ⟨F32, rfl, hmw33, hSw33⟩
                 have hnw33 : n6 + 1 ≤ w33.heap.size := hmw33
                 rw [show Tl.fine (y15.Page, y15.Frame, y15.Rights) = true from hfw33] at hSw33 ⊢
                 refine ⟨_, _, rfl, hSw33, ?_⟩
                 refine l_keep [0, 3, 4, 5, 6, 7, 62] [(qr84_29 b8 o9 lv), (qr84_39 b2), (qr84_35 aL lv i cL), (5, .int .i64 (i : Int)), (qr84_40 n6), (7, .bool true), (62, .int .i64 0)] ?_
                 refine l_all 1 [o0] [0, 3, 4, 5, 6, 7, 8] [] [(qr84_29 b8 o9 lv), (qr84_39 b2), (qr84_35 aL lv i cL), (5, .int .i64 (i : Int)), (qr84_40 n6), (7, .bool true), (8, .int .i64 0)] ⟨w, w33.heap.size, (qr84_43 w b2 F32 lv i y15 z aL cL n6)⟩ trivial ?_
                 refine e_seq <| g_seq <| g_seq <| g_region <| l_all 4 [o0, o0, o0, o0] [0, 3, 4, 5, 6, 7, 66] [] [(qr84_29 b8 o9 lv), (qr84_39 b2), (qr84_35 aL lv i cL), (5, .int .i64 (i : Int)), (qr84_40 n6), (7, .bool true), (66, .bool false)] ⟨w, w33.heap.size, (qr84_43 w b2 F32 lv i y15 z aL cL n6)⟩ trivial ?_
                 refine e_seq <| g_false <| g_skip <| e_seq <| g_seq <| g_seq <| g_region <| l_all 2 [o0, o0] [0, 3, 4, 5, 6, 68] [] [(qr84_29 b8 o9 lv), (qr84_39 b2), (qr84_35 aL lv i cL), (5, .int .i64 (i : Int)), (qr84_40 n6), (68, .bool false)] ⟨w, w33.heap.size, (qr84_43 w b2 F32 lv i y15 z aL cL n6)⟩ trivial ?_
                 refine e_seq <| g_false <| g_skip <| e_seq <| g_seq <| g_region <| l_all 3 [(oa [.at 3, .at 3, .at 3]), o0, o0] [0, 3, 4, 5, 6, 9] [Qb n6, Qb n6, Qb n6] [(qr84_29 b8 o9 lv), (qr84_39 b2), (qr84_35 aL lv i cL), (5, .int .i64 (i : Int)), (qr84_40 n6), (9, .slice (some ⟨w33.heap.size, 0, none⟩) 1 1)] ⟨w, w33.heap.size + 1, [(old0 w), (Tl.tlbC b2 F32 (Tl.laidOn (tlbL (lastUp lv.xs i)) y15.Page (y15.Page, y15.Frame, y15.Rights))), (qr84_21 z aL lv i cL), (qr84_8 n6 y15), (qr84_5 w33 y15)]⟩ ⟨rfl, rfl, rfl, trivial⟩ ?_
                 refine e_seq <| g_seq <| g_seq <| g_region <| l_all 1 [o0] [0, 3, 4, 5, 6, 9, 10] [] [(qr84_29 b8 o9 lv), (qr84_39 b2), (qr84_35 aL lv i cL), (5, .int .i64 (i : Int)), (qr84_40 n6), (9, .slice (some ⟨w33.heap.size, 0, none⟩) 1 1), (10, .int .i64 0)] ⟨w, w33.heap.size + 1, [(old0 w), (Tl.tlbC b2 F32 (Tl.laidOn (tlbL (lastUp lv.xs i)) y15.Page (y15.Page, y15.Frame, y15.Rights))), (qr84_21 z aL lv i cL), (qr84_8 n6 y15), (qr84_5 w33 y15)]⟩ trivial ?_
                 refine e_seq <| g_block <| g_blkrow 4 w33.heap.size z 26 3 TLeaf.cells [y15] #[.int .i64 y15.Page, .int .i64 y15.Frame, .int .i64 y15.Rights] (by omega) (?_ : G _ _ _ _ ⟨w, w33.heap.size + 1, [(old0 w), (Tl.tlbC b2 F32 (Tl.laidOn (tlbL (lastUp lv.xs i)) y15.Page (y15.Page, y15.Frame, y15.Rights))), (qr84_21 z aL lv i cL), (qr84_8 n6 y15), (rowL z 26 3 TLeaf.cells (.slice (some ⟨w33.heap.size, 0, none⟩) 1 1) ([y15]))]⟩ _ _ _)
                 refine g_loop (fun m a w' => ∃ (n35 : Nat) (k : Nat) (aN : Option Addr) (cN : Nat) (aL2 : Option Addr) (cL2 : Nat), m = (lastUp lv.xs i).length - k ∧ w33.heap.size + 1 ≤ n35 ∧ (k ≤ (lastUp lv.xs i).length) ∧ ((nextUp (lastUp lv.xs i) y15 k).length ≤ 4) ∧ St 160 [(qr84_29 b8 o9 lv), (qr84_39 b2), (4, .slice aL2 ((lastUp lv.xs i).length) cL2), (5, .int .i64 (i : Int)), (qr84_40 n6), (qr84_27 aN lv i y15 k cN), (10, .int .i64 (k : Int))] [] ⟨w, n35, (qr84_41 w b2 F32 lv i y15 z aL2 cL2 n6 aN k cN)⟩ a w') ((lastUp lv.xs i).length - 0) ?_ ?_
                 · intro a w' hs; exact ⟨(w33.heap.size + 1), 0, (some ⟨w33.heap.size, 0, none⟩), 1, aL, cL, rfl, Nat.le_refl _, Nat.zero_le _, (by show 1 ≤ 4; omega), by (try dsimp only [qr84_0, qr84_1, qr84_2, qr84_3, qr84_4, qr84_5, qr84_6, qr84_7, qr84_8, qr84_9, qr84_10, qr84_11, qr84_12, qr84_13, qr84_14, qr84_15, qr84_16, qr84_17, qr84_18, qr84_19, qr84_20, qr84_21, qr84_22, qr84_23, qr84_24, qr84_25, qr84_26, qr84_27, qr84_28, qr84_29, qr84_30, qr84_31, qr84_32, qr84_33, qr84_34, qr84_35, qr84_36, qr84_37, qr84_38, qr84_39, qr84_40, qr84_41, qr84_42, qr84_43, qr84_44, qr84_45, qr84_46, qr84_47] at hs ⊢); rw [show nextUp (lastUp lv.xs i) y15 0 = [y15] from rfl]; exact hs⟩
                 · rintro m a w' ⟨n35, k, aN, cN, aL2, cL2, rfl, hn34, hkk, hl4, hs⟩
                   refine (?_ : G Try.prog 160 [(qr84_29 b8 o9 lv), (qr84_39 b2), (4, .slice aL2 ((lastUp lv.xs i).length) cL2), (5, .int .i64 (i : Int)), (qr84_40 n6), (qr84_27 aN lv i y15 k cN), (10, .int .i64 (k : Int))] [] ⟨w, n35, (qr84_41 w b2 F32 lv i y15 z aL2 cL2 n6 aN k cN)⟩ _ _ _) a w' hs
                   clear hs a w'
                   refine g_seq <| g_seq ?_
                   by_cases h36 : ((k : Int) : Int) < (((lastUp lv.xs i).length : Nat) : Int)
                   · by_cases h37 : ((((nextUp (lastUp lv.xs i) y15 k).length : Nat) : Int) : Int) < 4
                     · refine g_region <| l_all 9 [o0, o0, o0, oT, o0, o0, o0, oT, o0] [0, 3, 4, 5, 6, 9, 10, 79] [BT (((k : Int) : Int) < (((lastUp lv.xs i).length : Nat) : Int)), BT (((((nextUp (lastUp lv.xs i) y15 k).length : Nat) : Int) : Int) < 4)] [(qr84_29 b8 o9 lv), (qr84_39 b2), (4, .slice aL2 ((lastUp lv.xs i).length) cL2), (5, .int .i64 (i : Int)), (qr84_40 n6), (qr84_27 aN lv i y15 k cN), (10, .int .i64 (k : Int)), (79, .bool true)] ⟨w, n35, (qr84_41 w b2 F32 lv i y15 z aL2 cL2 n6 aN k cN)⟩ ⟨bt (by omega), bt (by omega), trivial⟩ ?_
                       refine e_seq <| g_true <| g_skip <| e_seq <| g_seq <| g_block <| g_seq <| g_rowat (base := z) (e := 26) (sz := 3) (cells := TLeaf.cells) (a := aL2) (n := ((lastUp lv.xs i).length)) (cap := cL2) (xs := (lastUp lv.xs i)) 2 (by omega) (fun b38 hg39 hb40 => ?_)
                       subst hg39
                       obtain ⟨y41, hy41⟩ : ∃ y_, y_ = gd (lastUp lv.xs i) k := ⟨_, rfl⟩
                       by_cases h42 : (y41.Page : Int) = y15.Page
                       · refine g_draw 8 [0, 1, 2, 3, 4] (qr84_42 w b2 F32 lv i y15 z b38 cL2 n6 aN k cN) rfl rfl ?_
                         refine w_take [(0, o0), (1, o0), (2, (oi k)), (3, o0), (4, (oa [.via 2 (.int .i64 y41.Page)])), (5, o0), (6, (oa [.at 3])), (7, oF)] [0, 3, 4, 5, 6, 9, 10, 89] [((k : Int) : Int) = ((k : Nat) : Int), k < (lastUp lv.xs i).length, (none : Option Nat) = none, ∀ w', Ch.holds (qr84_14 z b38 lv i cL2) w' → w'.cell? ⟨b38, 0 + offs 3 k, none⟩ = some (.int .i64 y41.Page), Qb n6, NF y41.Page y15.Page] [true, true, true, true, true, true, true, true] [(qr84_29 b8 o9 lv), (qr84_39 b2), (qr84_24 b38 lv i cL2), (5, .int .i64 (i : Int)), (qr84_40 n6), (qr84_27 aN lv i y15 k cN), (10, .int .i64 (k : Int)), (89, .bool false)] rfl (by as_aux_lemma => kernel_rfl) (by as_aux_lemma => kernel_rfl) ⟨rfl, (by omega), rfl, rowL_cell (k := 0) (fun _ => rfl) (by omega) (by rw [← hy41]; rfl), rfl, nf (by omega), trivial⟩ ?_
                         refine w_done (by as_aux_lemma => kernel_rfl) ?_
                         refine e_keep [0, 3, 4, 5, 6, 9, 10, 89] [(qr84_29 b8 o9 lv), (qr84_39 b2), (qr84_24 b38 lv i cL2), (5, .int .i64 (i : Int)), (qr84_40 n6), (qr84_27 aN lv i y15 k cN), (10, .int .i64 (k : Int)), (89, .bool false)] ?_
                         refine e_seq <| g_false <| g_skip <| e_blk <| e_seq <| g_region <| l_all 3 [o0, (ov (.int .i64 ((k + 1 : Nat) : Int))), o0] [0, 3, 4, 5, 6, 9, 10] [Value.int .i64 (IntKind.i64.wrap (((k : Int) : Int) + 1)) = Value.int .i64 (((k + 1 : Nat) : Int))] [(qr84_29 b8 o9 lv), (qr84_39 b2), (qr84_24 b38 lv i cL2), (5, .int .i64 (i : Int)), (qr84_40 n6), (qr84_27 aN lv i y15 k cN), (10, .int .i64 ((k + 1 : Nat) : Int))] ⟨w, n35, (qr84_42 w b2 F32 lv i y15 z b38 cL2 n6 aN k cN)⟩ ⟨congrArg (Value.int .i64) (wr_i64 (by omega) (by omega) (by omega)), trivial⟩ ?_
                         refine e_keep [0, 3, 4, 5, 6, 9, 10] [(qr84_29 b8 o9 lv), (qr84_39 b2), (qr84_24 b38 lv i cL2), (5, .int .i64 (i : Int)), (qr84_40 n6), (qr84_27 aN lv i y15 k cN), (10, .int .i64 ((k + 1 : Nat) : Int))] ?_
                         refine e_inv (fun a w' hs => ⟨(lastUp lv.xs i).length - (k + 1), by omega, n35, (k + 1), aN, cN, (some ⟨b38, 0, none⟩), cL2, rfl, by omega, by omega, by rw [nextUp_no (by omega) (by rw [← hy41]; omega)]; omega, by (try dsimp only [qr84_0, qr84_1, qr84_2, qr84_3, qr84_4, qr84_5, qr84_6, qr84_7, qr84_8, qr84_9, qr84_10, qr84_11, qr84_12, qr84_13, qr84_14, qr84_15, qr84_16, qr84_17, qr84_18, qr84_19, qr84_20, qr84_21, qr84_22, qr84_23, qr84_24, qr84_25, qr84_26, qr84_27, qr84_28, qr84_29, qr84_30, qr84_31, qr84_32, qr84_33, qr84_34, qr84_35, qr84_36, qr84_37, qr84_38, qr84_39, qr84_40, qr84_41, qr84_42, qr84_43, qr84_44, qr84_45, qr84_46, qr84_47] at hs ⊢); rw [nextUp_no (by omega) (by rw [← hy41]; omega)]; exact hs⟩)
                       · refine g_draw 8 [0, 1, 2, 3, 4] (qr84_42 w b2 F32 lv i y15 z b38 cL2 n6 aN k cN) rfl rfl ?_
                         refine w_take [(0, o0), (1, o0), (2, (oi k)), (3, o0), (4, (oa [.via 2 (.int .i64 y41.Page)])), (5, o0), (6, (oa [.at 3])), (7, oT)] [0, 3, 4, 5, 6, 9, 10, 89] [((k : Int) : Int) = ((k : Nat) : Int), k < (lastUp lv.xs i).length, (none : Option Nat) = none, ∀ w', Ch.holds (qr84_14 z b38 lv i cL2) w' → w'.cell? ⟨b38, 0 + offs 3 k, none⟩ = some (.int .i64 y41.Page), Qb n6, NT y41.Page y15.Page] [true, true, true, true, true, true, true, true] [(qr84_29 b8 o9 lv), (qr84_39 b2), (qr84_24 b38 lv i cL2), (5, .int .i64 (i : Int)), (qr84_40 n6), (qr84_27 aN lv i y15 k cN), (10, .int .i64 (k : Int)), (89, .bool true)] rfl (by as_aux_lemma => kernel_rfl) (by as_aux_lemma => kernel_rfl) ⟨rfl, (by omega), rfl, rowL_cell (k := 0) (fun _ => rfl) (by omega) (by rw [← hy41]; rfl), rfl, nt (by omega), trivial⟩ ?_
                         refine w_done (by as_aux_lemma => kernel_rfl) ?_
                         refine e_keep [0, 3, 4, 5, 6, 9, 10, 89] [(qr84_29 b8 o9 lv), (qr84_39 b2), (qr84_24 b38 lv i cL2), (5, .int .i64 (i : Int)), (qr84_40 n6), (qr84_27 aN lv i y15 k cN), (10, .int .i64 (k : Int)), (89, .bool true)] ?_
                         refine e_seq <| g_true <| g_region <| l_run 6 [o0, o0, o0, (oi k), (oa [.via 2 (.int .i64 y41.Page), .via 2 (.int .i64 y41.Frame), .via 2 (.int .i64 y41.Rights)]), o0] [0, 3, 4, 5, 6, 10, 90, 95] [((k : Int) : Int) = ((k : Nat) : Int), k < (lastUp lv.xs i).length, (none : Option Nat) = none, ∀ w', Ch.holds (qr84_14 z b38 lv i cL2) w' → w'.cell? ⟨b38, 0 + offs 3 k, none⟩ = some (.int .i64 y41.Page), ∀ w', Ch.holds (qr84_14 z b38 lv i cL2) w' → w'.cell? ⟨b38, 0 + offs 3 k + 1, none⟩ = some (.int .i64 y41.Frame), ∀ w', Ch.holds (qr84_14 z b38 lv i cL2) w' → w'.cell? ⟨b38, 0 + offs 3 k + 2, none⟩ = some (.int .i64 y41.Rights)] [(qr84_29 b8 o9 lv), (qr84_39 b2), (qr84_24 b38 lv i cL2), (5, .int .i64 (i : Int)), (qr84_40 n6), (10, .int .i64 (k : Int)), (90, .slice aN ((nextUp (lastUp lv.xs i) y15 k).length) cN), (95, .slice (some ⟨n35, 0, none⟩) 1 1)] ⟨w, n35 + 1, [(old0 w), (Tl.tlbC b2 F32 (Tl.laidOn (tlbL (lastUp lv.xs i)) y15.Page (y15.Page, y15.Frame, y15.Rights))), (qr84_14 z b38 lv i cL2), (qr84_8 n6 y15), (qr84_11 z aN lv i y15 k cN), (qr84_6 n35 y41)]⟩ ⟨rfl, (by omega), rfl, rowL_cell (k := 0) (fun _ => rfl) (by omega) (by rw [← hy41]; rfl), rowL_cell (k := 1) (fun _ => rfl) (by omega) (by rw [← hy41]; rfl), rowL_cell (k := 2) (fun _ => rfl) (by omega) (by rw [← hy41]; rfl), trivial⟩ ?_
                         refine l_push z 4 5 (nextUp (lastUp lv.xs i) y15 k) [(⟨y41.Page, y41.Frame, y41.Rights⟩ : TLeaf)] TLeaf.cells 26 3 24 (.slice aN ((nextUp (lastUp lv.xs i) y15 k).length) cN) n35 1 1 #[.int .i64 y41.Page, .int .i64 y41.Frame, .int .i64 y41.Rights] 26 (0, 0) true (some 96) (by simp only [List.length_cons, List.length_nil]; omega) (show z ≤ n35 + 1 by omega) (fun a43 cp44 n45 (hn46 : n35 + 1 ≤ n45) => ?_)
                         refine l_keep [0, 3, 4, 5, 6, 10, 96] [(qr84_29 b8 o9 lv), (qr84_39 b2), (qr84_24 b38 lv i cL2), (5, .int .i64 (i : Int)), (qr84_40 n6), (10, .int .i64 (k : Int)), (96, .slice a43 (((nextUp (lastUp lv.xs i) y15 k) ++ [(⟨y41.Page, y41.Frame, y41.Rights⟩ : TLeaf)]).length) cp44)] ?_
                         refine l_all 1 [o0] [0, 3, 4, 5, 6, 10, 9] [] [(qr84_29 b8 o9 lv), (qr84_39 b2), (qr84_24 b38 lv i cL2), (5, .int .i64 (i : Int)), (qr84_40 n6), (10, .int .i64 (k : Int)), (9, .slice a43 (((nextUp (lastUp lv.xs i) y15 k) ++ [(⟨y41.Page, y41.Frame, y41.Rights⟩ : TLeaf)]).length) cp44)] ⟨w, n45, [(old0 w), (Tl.tlbC b2 F32 (Tl.laidOn (tlbL (lastUp lv.xs i)) y15.Page (y15.Page, y15.Frame, y15.Rights))), (qr84_14 z b38 lv i cL2), (qr84_8 n6 y15), (qr84_9 z a43 lv i y15 k y41 cp44), (qr84_6 n35 y41)]⟩ trivial ?_
                         refine e_blk <| e_seq <| g_region <| l_all 3 [o0, (ov (.int .i64 ((k + 1 : Nat) : Int))), o0] [0, 3, 4, 5, 6, 10, 9] [Value.int .i64 (IntKind.i64.wrap (((k : Int) : Int) + 1)) = Value.int .i64 (((k + 1 : Nat) : Int))] [(qr84_29 b8 o9 lv), (qr84_39 b2), (qr84_24 b38 lv i cL2), (5, .int .i64 (i : Int)), (qr84_40 n6), (10, .int .i64 ((k + 1 : Nat) : Int)), (9, .slice a43 (((nextUp (lastUp lv.xs i) y15 k) ++ [(⟨y41.Page, y41.Frame, y41.Rights⟩ : TLeaf)]).length) cp44)] ⟨w, n45, [(old0 w), (Tl.tlbC b2 F32 (Tl.laidOn (tlbL (lastUp lv.xs i)) y15.Page (y15.Page, y15.Frame, y15.Rights))), (qr84_14 z b38 lv i cL2), (qr84_8 n6 y15), (qr84_9 z a43 lv i y15 k y41 cp44), (qr84_6 n35 y41)]⟩ ⟨congrArg (Value.int .i64) (wr_i64 (by omega) (by omega) (by omega)), trivial⟩ ?_
                         refine e_pick [0, 1, 2, 3, 4] [(old0 w), (Tl.tlbC b2 F32 (Tl.laidOn (tlbL (lastUp lv.xs i)) y15.Page (y15.Page, y15.Frame, y15.Rights))), (qr84_14 z b38 lv i cL2), (qr84_8 n6 y15), (qr84_9 z a43 lv i y15 k y41 cp44)] rfl rfl ?_
                         refine e_keep [0, 3, 4, 5, 6, 9, 10] [(qr84_29 b8 o9 lv), (qr84_39 b2), (qr84_24 b38 lv i cL2), (5, .int .i64 (i : Int)), (qr84_40 n6), (9, .slice a43 (((nextUp (lastUp lv.xs i) y15 k) ++ [(⟨y41.Page, y41.Frame, y41.Rights⟩ : TLeaf)]).length) cp44), (10, .int .i64 ((k + 1 : Nat) : Int))] ?_
                         refine e_inv (fun a w' hs => ⟨(lastUp lv.xs i).length - (k + 1), by omega, n45, (k + 1), a43, cp44, (some ⟨b38, 0, none⟩), cL2, rfl, by omega, by omega, by rw [nextUp_yes (by omega) (by rw [← hy41]; omega), List.length_append, List.length_singleton]; omega, by (try dsimp only [qr84_0, qr84_1, qr84_2, qr84_3, qr84_4, qr84_5, qr84_6, qr84_7, qr84_8, qr84_9, qr84_10, qr84_11, qr84_12, qr84_13, qr84_14, qr84_15, qr84_16, qr84_17, qr84_18, qr84_19, qr84_20, qr84_21, qr84_22, qr84_23, qr84_24, qr84_25, qr84_26, qr84_27, qr84_28, qr84_29, qr84_30, qr84_31, qr84_32, qr84_33, qr84_34, qr84_35, qr84_36, qr84_37, qr84_38, qr84_39, qr84_40, qr84_41, qr84_42, qr84_43, qr84_44, qr84_45, qr84_46, qr84_47] at hs ⊢); rw [nextUp_yes (by omega) (by rw [← hy41]; omega), ← hy41]; exact hs⟩)
                     · refine g_region <| l_all 9 [o0, o0, o0, oT, o0, o0, o0, oF, o0] [0, 3, 4, 5, 6, 9, 10, 79] [BT (((k : Int) : Int) < (((lastUp lv.xs i).length : Nat) : Int)), BF (((((nextUp (lastUp lv.xs i) y15 k).length : Nat) : Int) : Int) < 4)] [(qr84_29 b8 o9 lv), (qr84_39 b2), (4, .slice aL2 ((lastUp lv.xs i).length) cL2), (5, .int .i64 (i : Int)), (qr84_40 n6), (qr84_27 aN lv i y15 k cN), (10, .int .i64 (k : Int)), (79, .bool false)] ⟨w, n35, (qr84_41 w b2 F32 lv i y15 z aL2 cL2 n6 aN k cN)⟩ ⟨bt (by omega), bf (by omega), trivial⟩ ?_
                       refine e_seq <| g_false <| g_exit <| e_out <| e_outI <| e_hit <| e_seq <| g_region <| l_all 2 [o0, o0] [0, 3, 4, 5] [] [(qr84_29 b8 o9 lv), (qr84_39 b2), (qr84_28 aN lv i y15 k cN), (5, .int .i64 (i : Int))] ⟨w, n35, (qr84_41 w b2 F32 lv i y15 z aL2 cL2 n6 aN k cN)⟩ trivial ?_
                       refine e_blk <| e_seq <| g_region <| l_all 3 [o0, (ov (.int .i64 ((i + 1 : Nat) : Int))), o0] [0, 3, 4, 5] [Value.int .i64 (IntKind.i64.wrap (((i : Int) : Int) + 1)) = Value.int .i64 (((i + 1 : Nat) : Int))] [(qr84_29 b8 o9 lv), (qr84_39 b2), (qr84_28 aN lv i y15 k cN), (qr84_37 i)] ⟨w, n35, (qr84_41 w b2 F32 lv i y15 z aL2 cL2 n6 aN k cN)⟩ ⟨congrArg (Value.int .i64) (wr_i64 (by omega) (by omega) (by omega)), trivial⟩ ?_
                       refine e_pick [0, 1, 3, 4] [(old0 w), (Tl.tlbC b2 F32 (Tl.laidOn (tlbL (lastUp lv.xs i)) y15.Page (y15.Page, y15.Frame, y15.Rights))), (qr84_8 n6 y15), (qr84_11 z aN lv i y15 k cN)] rfl rfl ?_
                       refine e_pick [0, 1, 3] [(old0 w), (Tl.tlbC b2 F32 (Tl.laidOn (tlbL (lastUp lv.xs i)) y15.Page (y15.Page, y15.Frame, y15.Rights))), (qr84_11 z aN lv i y15 k cN)] rfl rfl ?_
                       refine e_eqk [0, 3, 4, 5] [(qr84_36 lv), (qr84_39 b2), (qr84_28 aN lv i y15 k cN), (qr84_37 i)] (by (try dsimp only [qr84_0, qr84_1, qr84_2, qr84_3, qr84_4, qr84_5, qr84_6, qr84_7, qr84_8, qr84_9, qr84_10, qr84_11, qr84_12, qr84_13, qr84_14, qr84_15, qr84_16, qr84_17, qr84_18, qr84_19, qr84_20, qr84_21, qr84_22, qr84_23, qr84_24, qr84_25, qr84_26, qr84_27, qr84_28, qr84_29, qr84_30, qr84_31, qr84_32, qr84_33, qr84_34, qr84_35, qr84_36, qr84_37, qr84_38, qr84_39, qr84_40, qr84_41, qr84_42, qr84_43, qr84_44, qr84_45, qr84_46, qr84_47]); simp only [ha10]; rfl) ?_
                       refine e_inv (fun a w' hs => ⟨lv.xs.length - (i + 1), by omega, n35, (i + 1), F32, aN, cN, rfl, by omega, by omega, by (try dsimp only [qr84_0, qr84_1, qr84_2, qr84_3, qr84_4, qr84_5, qr84_6, qr84_7, qr84_8, qr84_9, qr84_10, qr84_11, qr84_12, qr84_13, qr84_14, qr84_15, qr84_16, qr84_17, qr84_18, qr84_19, qr84_20, qr84_21, qr84_22, qr84_23, qr84_24, qr84_25, qr84_26, qr84_27, qr84_28, qr84_29, qr84_30, qr84_31, qr84_32, qr84_33, qr84_34, qr84_35, qr84_36, qr84_37, qr84_38, qr84_39, qr84_40, qr84_41, qr84_42, qr84_43, qr84_44, qr84_45, qr84_46, qr84_47] at hs ⊢); have hE := nextUp_end hfw33 hkk hl4 (by omega); rw [lastUp_succ (by omega), ← hy15, ← tlbL_put hgood hfw33, ← hE]; exact hs⟩)
                   · refine g_region <| l_all 9 [o0, o0, o0, oF, o0, o0] [0, 3, 4, 5, 6, 9, 10, 79] [BF (((k : Int) : Int) < (((lastUp lv.xs i).length : Nat) : Int))] [(qr84_29 b8 o9 lv), (qr84_39 b2), (4, .slice aL2 ((lastUp lv.xs i).length) cL2), (5, .int .i64 (i : Int)), (qr84_40 n6), (qr84_27 aN lv i y15 k cN), (10, .int .i64 (k : Int)), (79, .bool false)] ⟨w, n35, (qr84_41 w b2 F32 lv i y15 z aL2 cL2 n6 aN k cN)⟩ ⟨bf (by omega), trivial⟩ ?_
                     refine e_seq <| g_false <| g_exit <| e_out <| e_outI <| e_hit <| e_seq <| g_region <| l_all 2 [o0, o0] [0, 3, 4, 5] [] [(qr84_29 b8 o9 lv), (qr84_39 b2), (qr84_28 aN lv i y15 k cN), (5, .int .i64 (i : Int))] ⟨w, n35, (qr84_41 w b2 F32 lv i y15 z aL2 cL2 n6 aN k cN)⟩ trivial ?_
                     refine e_blk <| e_seq <| g_region <| l_all 3 [o0, (ov (.int .i64 ((i + 1 : Nat) : Int))), o0] [0, 3, 4, 5] [Value.int .i64 (IntKind.i64.wrap (((i : Int) : Int) + 1)) = Value.int .i64 (((i + 1 : Nat) : Int))] [(qr84_29 b8 o9 lv), (qr84_39 b2), (qr84_28 aN lv i y15 k cN), (qr84_37 i)] ⟨w, n35, (qr84_41 w b2 F32 lv i y15 z aL2 cL2 n6 aN k cN)⟩ ⟨congrArg (Value.int .i64) (wr_i64 (by omega) (by omega) (by omega)), trivial⟩ ?_
                     refine e_pick [0, 1, 3, 4] [(old0 w), (Tl.tlbC b2 F32 (Tl.laidOn (tlbL (lastUp lv.xs i)) y15.Page (y15.Page, y15.Frame, y15.Rights))), (qr84_8 n6 y15), (qr84_11 z aN lv i y15 k cN)] rfl rfl ?_
                     refine e_pick [0, 1, 3] [(old0 w), (Tl.tlbC b2 F32 (Tl.laidOn (tlbL (lastUp lv.xs i)) y15.Page (y15.Page, y15.Frame, y15.Rights))), (qr84_11 z aN lv i y15 k cN)] rfl rfl ?_
                     refine e_eqk [0, 3, 4, 5] [(qr84_36 lv), (qr84_39 b2), (qr84_28 aN lv i y15 k cN), (qr84_37 i)] (by (try dsimp only [qr84_0, qr84_1, qr84_2, qr84_3, qr84_4, qr84_5, qr84_6, qr84_7, qr84_8, qr84_9, qr84_10, qr84_11, qr84_12, qr84_13, qr84_14, qr84_15, qr84_16, qr84_17, qr84_18, qr84_19, qr84_20, qr84_21, qr84_22, qr84_23, qr84_24, qr84_25, qr84_26, qr84_27, qr84_28, qr84_29, qr84_30, qr84_31, qr84_32, qr84_33, qr84_34, qr84_35, qr84_36, qr84_37, qr84_38, qr84_39, qr84_40, qr84_41, qr84_42, qr84_43, qr84_44, qr84_45, qr84_46, qr84_47]); simp only [ha10]; rfl) ?_
                     refine e_inv (fun a w' hs => ⟨lv.xs.length - (i + 1), by omega, n35, (i + 1), F32, aN, cN, rfl, by omega, by omega, by (try dsimp only [qr84_0, qr84_1, qr84_2, qr84_3, qr84_4, qr84_5, qr84_6, qr84_7, qr84_8, qr84_9, qr84_10, qr84_11, qr84_12, qr84_13, qr84_14, qr84_15, qr84_16, qr84_17, qr84_18, qr84_19, qr84_20, qr84_21, qr84_22, qr84_23, qr84_24, qr84_25, qr84_26, qr84_27, qr84_28, qr84_29, qr84_30, qr84_31, qr84_32, qr84_33, qr84_34, qr84_35, qr84_36, qr84_37, qr84_38, qr84_39, qr84_40, qr84_41, qr84_42, qr84_43, qr84_44, qr84_45, qr84_46, qr84_47] at hs ⊢); have hE := nextUp_end hfw33 hkk hl4 (by omega); rw [lastUp_succ (by omega), ← hy15, ← tlbL_put hgood hfw33, ← hE]; exact hs⟩)
               · refine g_region <| l_all 29 [o0, (oa [.at 3]), oT, o0, o0, (oa [.at 3]), oT, o0, o0, o0, (oa [.at 3]), oT, o0, o0, o0, (oa [.at 3]), oT, o0, o0, o0, (oa [.at 3]), oT, o0, o0, o0, (oa [.at 3]), oF, o0, o0] [0, 3, 4, 5, 6, 7] [Qb n6, BT ((y15.Page : Int) ≥ 0), Qb n6, BT ((y15.Page : Int) < 256), Qb n6, BT ((y15.Frame : Int) ≥ 0), Qb n6, BT ((y15.Frame : Int) < 1024), Qb n6, BT ((y15.Rights : Int) ≥ 0), Qb n6, BF ((y15.Rights : Int) < 8)] [(qr84_29 b8 o9 lv), (qr84_39 b2), (qr84_35 aL lv i cL), (5, .int .i64 (i : Int)), (qr84_40 n6), (7, .bool false)] ⟨w, n6 + 1, (qr84_46 w b2 FG lv i z aL cL n6 y15)⟩ ⟨rfl, bt (by omega), rfl, bt (by omega), rfl, bt (by omega), rfl, bt (by omega), rfl, bt (by omega), rfl, bf (by omega), trivial⟩ ?_
                 refine e_seq <| g_seq <| g_region <| l_run 2 [o0, (oa [.at 3, .at 3, .at 3])] [0, 3, 4, 5, 6, 7, 60, 61] [Qb n6, Qb n6, Qb n6] [(qr84_29 b8 o9 lv), (qr84_39 b2), (qr84_35 aL lv i cL), (5, .int .i64 (i : Int)), (qr84_40 n6), (7, .bool false), (qr84_38 b2), (61, .agg (TLeaf.arr y15))] ⟨w, n6 + 1, (qr84_46 w b2 FG lv i z aL cL n6 y15)⟩ ⟨rfl, rfl, rfl, trivial⟩ ?_
                 refine l_call [] [] 8 #[.pointer (some ⟨b2, 0, none⟩), .agg (TLeaf.arr y15)] (some 62) trivial ?_
                 intro w47 hw47
                 have hfw49 : lfine y15 = false := Bool.eq_false_iff.2 (by unfold lfine Tl.fine; simp only [ne_eq, Bool.and_eq_true, decide_eq_true_eq]; omega)
                 refine (Tl.put_sat hw47 (i := 1) rfl (y15.Page, y15.Frame, y15.Rights)).mono ?_
                 rintro e w49 ⟨F48, rfl, hmw49, hSw49⟩
                 have hnw49 : n6 + 1 ≤ w49.heap.size := hmw49
                 rw [show Tl.fine (y15.Page, y15.Frame, y15.Rights) = false from hfw49] at hSw49 ⊢
                 refine ⟨_, _, rfl, hSw49, ?_⟩
                 refine l_keep [0, 3, 4, 5, 6, 7, 62] [(qr84_29 b8 o9 lv), (qr84_39 b2), (qr84_35 aL lv i cL), (5, .int .i64 (i : Int)), (qr84_40 n6), (7, .bool false), (62, .int .i64 80)] ?_
                 refine l_all 1 [o0] [0, 3, 4, 5, 6, 7, 8] [] [(qr84_29 b8 o9 lv), (qr84_39 b2), (qr84_35 aL lv i cL), (5, .int .i64 (i : Int)), (qr84_40 n6), (7, .bool false), (8, .int .i64 80)] ⟨w, w49.heap.size, [(old0 w), (Tl.tlbC b2 F48 (tlbL (lastUp lv.xs i))), (qr84_21 z aL lv i cL), (qr84_8 n6 y15)]⟩ trivial ?_
                 refine e_seq <| g_seq <| g_seq <| g_region <| l_all 4 [o0, o0, o0, o0] [0, 3, 4, 5, 6, 7, 66] [] [(qr84_29 b8 o9 lv), (qr84_39 b2), (qr84_35 aL lv i cL), (5, .int .i64 (i : Int)), (qr84_40 n6), (7, .bool false), (66, .bool false)] ⟨w, w49.heap.size, [(old0 w), (Tl.tlbC b2 F48 (tlbL (lastUp lv.xs i))), (qr84_21 z aL lv i cL), (qr84_8 n6 y15)]⟩ trivial ?_
                 refine e_seq <| g_false <| g_skip <| e_seq <| g_seq <| g_seq <| g_region <| l_all 2 [o0, o0] [0, 3, 4, 5, 6, 68] [] [(qr84_29 b8 o9 lv), (qr84_39 b2), (qr84_35 aL lv i cL), (5, .int .i64 (i : Int)), (qr84_40 n6), (68, .bool true)] ⟨w, w49.heap.size, [(old0 w), (Tl.tlbC b2 F48 (tlbL (lastUp lv.xs i))), (qr84_21 z aL lv i cL), (qr84_8 n6 y15)]⟩ trivial ?_
                 refine e_seq <| g_true <| g_exit <| e_out <| e_hit <| e_seq <| g_region <| l_all 3 [o0, (ov (.int .i64 ((i + 1 : Nat) : Int))), o0] [0, 3, 4, 5] [Value.int .i64 (IntKind.i64.wrap (((i : Int) : Int) + 1)) = Value.int .i64 (((i + 1 : Nat) : Int))] [(qr84_29 b8 o9 lv), (qr84_39 b2), (qr84_35 aL lv i cL), (qr84_37 i)] ⟨w, w49.heap.size, [(old0 w), (Tl.tlbC b2 F48 (tlbL (lastUp lv.xs i))), (qr84_21 z aL lv i cL), (qr84_8 n6 y15)]⟩ ⟨congrArg (Value.int .i64) (wr_i64 (by omega) (by omega) (by omega)), trivial⟩ ?_
                 refine e_pick [0, 1, 2] [(old0 w), (Tl.tlbC b2 F48 (tlbL (lastUp lv.xs i))), (qr84_21 z aL lv i cL)] rfl rfl ?_
                 refine e_eqk [0, 3, 4, 5] [(qr84_36 lv), (qr84_39 b2), (qr84_35 aL lv i cL), (qr84_37 i)] (by (try dsimp only [qr84_0, qr84_1, qr84_2, qr84_3, qr84_4, qr84_5, qr84_6, qr84_7, qr84_8, qr84_9, qr84_10, qr84_11, qr84_12, qr84_13, qr84_14, qr84_15, qr84_16, qr84_17, qr84_18, qr84_19, qr84_20, qr84_21, qr84_22, qr84_23, qr84_24, qr84_25, qr84_26, qr84_27, qr84_28, qr84_29, qr84_30, qr84_31, qr84_32, qr84_33, qr84_34, qr84_35, qr84_36, qr84_37, qr84_38, qr84_39, qr84_40, qr84_41, qr84_42, qr84_43, qr84_44, qr84_45, qr84_46, qr84_47]); simp only [ha10]; rfl) ?_
                 refine e_inv (fun a w' hs => ⟨lv.xs.length - (i + 1), by omega, w49.heap.size, (i + 1), F48, aL, cL, rfl, by omega, by omega, by (try dsimp only [qr84_0, qr84_1, qr84_2, qr84_3, qr84_4, qr84_5, qr84_6, qr84_7, qr84_8, qr84_9, qr84_10, qr84_11, qr84_12, qr84_13, qr84_14, qr84_15, qr84_16, qr84_17, qr84_18, qr84_19, qr84_20, qr84_21, qr84_22, qr84_23, qr84_24, qr84_25, qr84_26, qr84_27, qr84_28, qr84_29, qr84_30, qr84_31, qr84_32, qr84_33, qr84_34, qr84_35, qr84_36, qr84_37, qr84_38, qr84_39, qr84_40, qr84_41, qr84_42, qr84_43, qr84_44, qr84_45, qr84_46, qr84_47] at hs ⊢); rw [lastUp_succ (by omega), ← hy15, show stepL (lastUp lv.xs i) y15 = (lastUp lv.xs i) from by unfold stepL; rw [hfw49]; rfl]; exact hs⟩)
           · refine g_region <| l_all 29 [o0, (oa [.at 3]), oT, o0, o0, (oa [.at 3]), oT, o0, o0, o0, (oa [.at 3]), oT, o0, o0, o0, (oa [.at 3]), oF, o0, o0, o0, o0, o0, o0] [0, 3, 4, 5, 6, 7] [Qb n6, BT ((y15.Page : Int) ≥ 0), Qb n6, BT ((y15.Page : Int) < 256), Qb n6, BT ((y15.Frame : Int) ≥ 0), Qb n6, BF ((y15.Frame : Int) < 1024)] [(qr84_29 b8 o9 lv), (qr84_39 b2), (qr84_35 aL lv i cL), (5, .int .i64 (i : Int)), (qr84_40 n6), (7, .bool false)] ⟨w, n6 + 1, (qr84_46 w b2 FG lv i z aL cL n6 y15)⟩ ⟨rfl, bt (by omega), rfl, bt (by omega), rfl, bt (by omega), rfl, bf (by omega), trivial⟩ ?_
             refine e_seq <| g_seq <| g_region <| l_run 2 [o0, (oa [.at 3, .at 3, .at 3])] [0, 3, 4, 5, 6, 7, 60, 61] [Qb n6, Qb n6, Qb n6] [(qr84_29 b8 o9 lv), (qr84_39 b2), (qr84_35 aL lv i cL), (5, .int .i64 (i : Int)), (qr84_40 n6), (7, .bool false), (qr84_38 b2), (61, .agg (TLeaf.arr y15))] ⟨w, n6 + 1, (qr84_46 w b2 FG lv i z aL cL n6 y15)⟩ ⟨rfl, rfl, rfl, trivial⟩ ?_
             refine l_call [] [] 8 #[.pointer (some ⟨b2, 0, none⟩), .agg (TLeaf.arr y15)] (some 62) trivial ?_
             intro w50 hw50
             have hfw52 : lfine y15 = false := Bool.eq_false_iff.2 (by unfold lfine Tl.fine; simp only [ne_eq, Bool.and_eq_true, decide_eq_true_eq]; omega)
             refine (Tl.put_sat hw50 (i := 1) rfl (y15.Page, y15.Frame, y15.Rights)).mono ?_
             rintro e w52 ⟨F51, rfl, hmw52, hSw52⟩
             have hnw52 : n6 + 1 ≤ w52.heap.size := hmw52
             rw [show Tl.fine (y15.Page, y15.Frame, y15.Rights) = false from hfw52] at hSw52 ⊢
             refine ⟨_, _, rfl, hSw52, ?_⟩
             refine l_keep [0, 3, 4, 5, 6, 7, 62] [(qr84_29 b8 o9 lv), (qr84_39 b2), (qr84_35 aL lv i cL), (5, .int .i64 (i : Int)), (qr84_40 n6), (7, .bool false), (62, .int .i64 80)] ?_
             refine l_all 1 [o0] [0, 3, 4, 5, 6, 7, 8] [] [(qr84_29 b8 o9 lv), (qr84_39 b2), (qr84_35 aL lv i cL), (5, .int .i64 (i : Int)), (qr84_40 n6), (7, .bool false), (8, .int .i64 80)] ⟨w, w52.heap.size, [(old0 w), (Tl.tlbC b2 F51 (tlbL (lastUp lv.xs i))), (qr84_21 z aL lv i cL), (qr84_8 n6 y15)]⟩ trivial ?_
             refine e_seq <| g_seq <| g_seq <| g_region <| l_all 4 [o0, o0, o0, o0] [0, 3, 4, 5, 6, 7, 66] [] [(qr84_29 b8 o9 lv), (qr84_39 b2), (qr84_35 aL lv i cL), (5, .int .i64 (i : Int)), (qr84_40 n6), (7, .bool false), (66, .bool false)] ⟨w, w52.heap.size, [(old0 w), (Tl.tlbC b2 F51 (tlbL (lastUp lv.xs i))), (qr84_21 z aL lv i cL), (qr84_8 n6 y15)]⟩ trivial ?_
             refine e_seq <| g_false <| g_skip <| e_seq <| g_seq <| g_seq <| g_region <| l_all 2 [o0, o0] [0, 3, 4, 5, 6, 68] [] [(qr84_29 b8 o9 lv), (qr84_39 b2), (qr84_35 aL lv i cL), (5, .int .i64 (i : Int)), (qr84_40 n6), (68, .bool true)] ⟨w, w52.heap.size, [(old0 w), (Tl.tlbC b2 F51 (tlbL (lastUp lv.xs i))), (qr84_21 z aL lv i cL), (qr84_8 n6 y15)]⟩ trivial ?_
             refine e_seq <| g_true <| g_exit <| e_out <| e_hit <| e_seq <| g_region <| l_all 3 [o0, (ov (.int .i64 ((i + 1 : Nat) : Int))), o0] [0, 3, 4, 5] [Value.int .i64 (IntKind.i64.wrap (((i : Int) : Int) + 1)) = Value.int .i64 (((i + 1 : Nat) : Int))] [(qr84_29 b8 o9 lv), (qr84_39 b2), (qr84_35 aL lv i cL), (qr84_37 i)] ⟨w, w52.heap.size, [(old0 w), (Tl.tlbC b2 F51 (tlbL (lastUp lv.xs i))), (qr84_21 z aL lv i cL), (qr84_8 n6 y15)]⟩ ⟨congrArg (Value.int .i64) (wr_i64 (by omega) (by omega) (by omega)), trivial⟩ ?_
             refine e_pick [0, 1, 2] [(old0 w), (Tl.tlbC b2 F51 (tlbL (lastUp lv.xs i))), (qr84_21 z aL lv i cL)] rfl rfl ?_
             refine e_eqk [0, 3, 4, 5] [(qr84_36 lv), (qr84_39 b2), (qr84_35 aL lv i cL), (qr84_37 i)] (by (try dsimp only [qr84_0, qr84_1, qr84_2, qr84_3, qr84_4, qr84_5, qr84_6, qr84_7, qr84_8, qr84_9, qr84_10, qr84_11, qr84_12, qr84_13, qr84_14, qr84_15, qr84_16, qr84_17, qr84_18, qr84_19, qr84_20, qr84_21, qr84_22, qr84_23, qr84_24, qr84_25, qr84_26, qr84_27, qr84_28, qr84_29, qr84_30, qr84_31, qr84_32, qr84_33, qr84_34, qr84_35, qr84_36, qr84_37, qr84_38, qr84_39, qr84_40, qr84_41, qr84_42, qr84_43, qr84_44, qr84_45, qr84_46, qr84_47]); simp only [ha10]; rfl) ?_
             refine e_inv (fun a w' hs => ⟨lv.xs.length - (i + 1), by omega, w52.heap.size, (i + 1), F51, aL, cL, rfl, by omega, by omega, by (try dsimp only [qr84_0, qr84_1, qr84_2, qr84_3, qr84_4, qr84_5, qr84_6, qr84_7, qr84_8, qr84_9, qr84_10, qr84_11, qr84_12, qr84_13, qr84_14, qr84_15, qr84_16, qr84_17, qr84_18, qr84_19, qr84_20, qr84_21, qr84_22, qr84_23, qr84_24, qr84_25, qr84_26, qr84_27, qr84_28, qr84_29, qr84_30, qr84_31, qr84_32, qr84_33, qr84_34, qr84_35, qr84_36, qr84_37, qr84_38, qr84_39, qr84_40, qr84_41, qr84_42, qr84_43, qr84_44, qr84_45, qr84_46, qr84_47] at hs ⊢); rw [lastUp_succ (by omega), ← hy15, show stepL (lastUp lv.xs i) y15 = (lastUp lv.xs i) from by unfold stepL; rw [hfw52]; rfl]; exact hs⟩)
       · refine g_region <| l_all 29 [o0, (oa [.at 3]), oT, o0, o0, (oa [.at 3]), oF, o0, o0, o0, o0, o0, o0, o0, o0, o0, o0] [0, 3, 4, 5, 6, 7] [Qb n6, BT ((y15.Page : Int) ≥ 0), Qb n6, BF ((y15.Page : Int) < 256)] [(qr84_29 b8 o9 lv), (qr84_39 b2), (qr84_35 aL lv i cL), (5, .int .i64 (i : Int)), (qr84_40 n6), (7, .bool false)] ⟨w, n6 + 1, (qr84_46 w b2 FG lv i z aL cL n6 y15)⟩ ⟨rfl, bt (by omega), rfl, bf (by omega), trivial⟩ ?_
         refine e_seq <| g_seq <| g_region <| l_run 2 [o0, (oa [.at 3, .at 3, .at 3])] [0, 3, 4, 5, 6, 7, 60, 61] [Qb n6, Qb n6, Qb n6] [(qr84_29 b8 o9 lv), (qr84_39 b2), (qr84_35 aL lv i cL), (5, .int .i64 (i : Int)), (qr84_40 n6), (7, .bool false), (qr84_38 b2), (61, .agg (TLeaf.arr y15))] ⟨w, n6 + 1, (qr84_46 w b2 FG lv i z aL cL n6 y15)⟩ ⟨rfl, rfl, rfl, trivial⟩ ?_
         refine l_call [] [] 8 #[.pointer (some ⟨b2, 0, none⟩), .agg (TLeaf.arr y15)] (some 62) trivial ?_
         intro w53 hw53
         have hfw55 : lfine y15 = false := Bool.eq_false_iff.2 (by unfold lfine Tl.fine; simp only [ne_eq, Bool.and_eq_true, decide_eq_true_eq]; omega)
         refine (Tl.put_sat hw53 (i := 1) rfl (y15.Page, y15.Frame, y15.Rights)).mono ?_
         rintro e w55 ⟨F54, rfl, hmw55, hSw55⟩
         have hnw55 : n6 + 1 ≤ w55.heap.size := hmw55
         rw [show Tl.fine (y15.Page, y15.Frame, y15.Rights) = false from hfw55] at hSw55 ⊢
         refine ⟨_, _, rfl, hSw55, ?_⟩
         refine l_keep [0, 3, 4, 5, 6, 7, 62] [(qr84_29 b8 o9 lv), (qr84_39 b2), (qr84_35 aL lv i cL), (5, .int .i64 (i : Int)), (qr84_40 n6), (7, .bool false), (62, .int .i64 80)] ?_
         refine l_all 1 [o0] [0, 3, 4, 5, 6, 7, 8] [] [(qr84_29 b8 o9 lv), (qr84_39 b2), (qr84_35 aL lv i cL), (5, .int .i64 (i : Int)), (qr84_40 n6), (7, .bool false), (8, .int .i64 80)] ⟨w, w55.heap.size, [(old0 w), (Tl.tlbC b2 F54 (tlbL (lastUp lv.xs i))), (qr84_21 z aL lv i cL), (qr84_8 n6 y15)]⟩ trivial ?_
         refine e_seq <| g_seq <| g_seq <| g_region <| l_all 4 [o0, o0, o0, o0] [0, 3, 4, 5, 6, 7, 66] [] [(qr84_29 b8 o9 lv), (qr84_39 b2), (qr84_35 aL lv i cL), (5, .int .i64 (i : Int)), (qr84_40 n6), (7, .bool false), (66, .bool false)] ⟨w, w55.heap.size, [(old0 w), (Tl.tlbC b2 F54 (tlbL (lastUp lv.xs i))), (qr84_21 z aL lv i cL), (qr84_8 n6 y15)]⟩ trivial ?_
         refine e_seq <| g_false <| g_skip <| e_seq <| g_seq <| g_seq <| g_region <| l_all 2 [o0, o0] [0, 3, 4, 5, 6, 68] [] [(qr84_29 b8 o9 lv), (qr84_39 b2), (qr84_35 aL lv i cL), (5, .int .i64 (i : Int)), (qr84_40 n6), (68, .bool true)] ⟨w, w55.heap.size, [(old0 w), (Tl.tlbC b2 F54 (tlbL (lastUp lv.xs i))), (qr84_21 z aL lv i cL), (qr84_8 n6 y15)]⟩ trivial ?_
         refine e_seq <| g_true <| g_exit <| e_out <| e_hit <| e_seq <| g_region <| l_all 3 [o0, (ov (.int .i64 ((i + 1 : Nat) : Int))), o0] [0, 3, 4, 5] [Value.int .i64 (IntKind.i64.wrap (((i : Int) : Int) + 1)) = Value.int .i64 (((i + 1 : Nat) : Int))] [(qr84_29 b8 o9 lv), (qr84_39 b2), (qr84_35 aL lv i cL), (qr84_37 i)] ⟨w, w55.heap.size, [(old0 w), (Tl.tlbC b2 F54 (tlbL (lastUp lv.xs i))), (qr84_21 z aL lv i cL), (qr84_8 n6 y15)]⟩ ⟨congrArg (Value.int .i64) (wr_i64 (by omega) (by omega) (by omega)), trivial⟩ ?_
         refine e_pick [0, 1, 2] [(old0 w), (Tl.tlbC b2 F54 (tlbL (lastUp lv.xs i))), (qr84_21 z aL lv i cL)] rfl rfl ?_
         refine e_eqk [0, 3, 4, 5] [(qr84_36 lv), (qr84_39 b2), (qr84_35 aL lv i cL), (qr84_37 i)] (by (try dsimp only [qr84_0, qr84_1, qr84_2, qr84_3, qr84_4, qr84_5, qr84_6, qr84_7, qr84_8, qr84_9, qr84_10, qr84_11, qr84_12, qr84_13, qr84_14, qr84_15, qr84_16, qr84_17, qr84_18, qr84_19, qr84_20, qr84_21, qr84_22, qr84_23, qr84_24, qr84_25, qr84_26, qr84_27, qr84_28, qr84_29, qr84_30, qr84_31, qr84_32, qr84_33, qr84_34, qr84_35, qr84_36, qr84_37, qr84_38, qr84_39, qr84_40, qr84_41, qr84_42, qr84_43, qr84_44, qr84_45, qr84_46, qr84_47]); simp only [ha10]; rfl) ?_
         refine e_inv (fun a w' hs => ⟨lv.xs.length - (i + 1), by omega, w55.heap.size, (i + 1), F54, aL, cL, rfl, by omega, by omega, by (try dsimp only [qr84_0, qr84_1, qr84_2, qr84_3, qr84_4, qr84_5, qr84_6, qr84_7, qr84_8, qr84_9, qr84_10, qr84_11, qr84_12, qr84_13, qr84_14, qr84_15, qr84_16, qr84_17, qr84_18, qr84_19, qr84_20, qr84_21, qr84_22, qr84_23, qr84_24, qr84_25, qr84_26, qr84_27, qr84_28, qr84_29, qr84_30, qr84_31, qr84_32, qr84_33, qr84_34, qr84_35, qr84_36, qr84_37, qr84_38, qr84_39, qr84_40, qr84_41, qr84_42, qr84_43, qr84_44, qr84_45, qr84_46, qr84_47] at hs ⊢); rw [lastUp_succ (by omega), ← hy15, show stepL (lastUp lv.xs i) y15 = (lastUp lv.xs i) from by unfold stepL; rw [hfw55]; rfl]; exact hs⟩)
   · refine g_region <| l_all 4 [o0, o0, o0, oF] [0, 3, 4, 5, 25] [BF (((i : Int) : Int) < ((lv.xs.length : Nat) : Int))] [(qr84_36 lv), (qr84_39 b2), (qr84_35 aL lv i cL), (5, .int .i64 (i : Int)), (25, .bool false)] ⟨w, n6, (qr84_47 w b2 FG lv i z aL cL)⟩ ⟨bf (by omega), trivial⟩ ?_
     refine e_seq <| g_false <| g_exit <| e_out <| e_outI <| e_hit <| e_seq <| g_seq <| g_region <| l_run 1 [o0] [3, 4, 98] [] [(qr84_39 b2), (qr84_35 aL lv i cL), (98, .pointer (some ⟨b2, 0, none⟩))] ⟨w, n6, (qr84_47 w b2 FG lv i z aL cL)⟩ trivial ?_
     refine l_call [] [] 9 #[.pointer (some ⟨b2, 0, none⟩)] (some 99) trivial ?_
     intro w56 hw56
     refine (Tl.leaves_sat hw56 (i := 1) rfl).mono ?_
     rintro e w59 ⟨a57, cp58, rfl, hmw59, hSw59⟩
     have hnw59 : n6 ≤ w59.heap.size := hmw59
     rw [tlbL_leaf] at hSw59 ⊢; have hrl0 : (lastUp lv.xs i).reverse.length = (lastUp lv.xs i).length := List.length_reverse
     refine ⟨_, _, rfl, hSw59, ?_⟩
     refine l_keep [3, 4, 99] [(qr84_39 b2), (qr84_35 aL lv i cL), (99, .slice a57 (((lastUp lv.xs i).reverse).length) cp58)] ?_
     refine l_all 1 [o0] [3, 4, 11] [] [(qr84_39 b2), (qr84_35 aL lv i cL), (11, .slice a57 (((lastUp lv.xs i).reverse).length) cp58)] ⟨w, w59.heap.size, [(old0 w), (Tl.tlbC b2 FG (tlbL (lastUp lv.xs i))), (qr84_21 z aL lv i cL), (qr84_12 n6 a57 lv i cp58)]⟩ trivial ?_
     refine e_seq <| g_seq <| g_seq <| g_region <| l_all 5 [o0, o0, o0, o0, oF] [3, 4, 11, 104] [NF ((((lastUp lv.xs i).reverse).length : Nat) : Int) (((lastUp lv.xs i).length : Nat) : Int)] [(qr84_39 b2), (qr84_35 aL lv i cL), (11, .slice a57 (((lastUp lv.xs i).reverse).length) cp58), (104, .bool false)] ⟨w, w59.heap.size, [(old0 w), (Tl.tlbC b2 FG (tlbL (lastUp lv.xs i))), (qr84_21 z aL lv i cL), (qr84_12 n6 a57 lv i cp58)]⟩ ⟨nf (by omega), trivial⟩ ?_
     refine e_seq <| g_false <| g_skip <| e_seq <| g_seq <| g_seq <| g_region <| l_all 1 [o0] [3, 4, 11, 12] [] [(qr84_39 b2), (qr84_35 aL lv i cL), (11, .slice a57 (((lastUp lv.xs i).reverse).length) cp58), (12, .int .i64 0)] ⟨w, w59.heap.size, [(old0 w), (Tl.tlbC b2 FG (tlbL (lastUp lv.xs i))), (qr84_21 z aL lv i cL), (qr84_12 n6 a57 lv i cp58)]⟩ trivial ?_
     refine e_seq <| g_block ?_
     have hgood := good_up lv.xs i (by omega)
     refine g_loop (fun m a w' => ∃ (n61 : Nat) (k : Nat) (aL3 : Option Addr) (cL3 : Nat) (aH : Option Addr) (cH : Nat), m = (lastUp lv.xs i).length - k ∧ w59.heap.size ≤ n61 ∧ (k ≤ (lastUp lv.xs i).length) ∧ St 160 [(qr84_39 b2), (4, .slice aL3 ((lastUp lv.xs i).length) cL3), (11, .slice aH (((lastUp lv.xs i).reverse).length) cH), (12, .int .i64 (k : Int))] [] ⟨w, n61, (qr84_45 w b2 FG lv i z aL3 cL3 n6 aH cH)⟩ a w') ((lastUp lv.xs i).length - 0) ?_ ?_
     · intro a w' hs; exact ⟨w59.heap.size, 0, aL, cL, a57, cp58, rfl, Nat.le_refl _, Nat.zero_le _, hs⟩
     · rintro m a w' ⟨n61, k, aL3, cL3, aH, cH, rfl, hn60, hkk, hs⟩
       refine (?_ : G Try.prog 160 [(qr84_39 b2), (4, .slice aL3 ((lastUp lv.xs i).length) cL3), (11, .slice aH (((lastUp lv.xs i).reverse).length) cH), (12, .int .i64 (k : Int))] [] ⟨w, n61, (qr84_45 w b2 FG lv i z aL3 cL3 n6 aH cH)⟩ _ _ _) a w' hs
       clear hs a w'
       have hrl : (lastUp lv.xs i).reverse.length = (lastUp lv.xs i).length := List.length_reverse
       refine g_seq <| g_seq ?_
       by_cases h62 : ((k : Int) : Int) < (((lastUp lv.xs i).length : Nat) : Int)
       · refine g_region <| l_all 4 [o0, o0, o0, oT] [3, 4, 11, 12, 108] [BT (((k : Int) : Int) < (((lastUp lv.xs i).length : Nat) : Int))] [(qr84_39 b2), (4, .slice aL3 ((lastUp lv.xs i).length) cL3), (11, .slice aH (((lastUp lv.xs i).reverse).length) cH), (12, .int .i64 (k : Int)), (108, .bool true)] ⟨w, n61, (qr84_45 w b2 FG lv i z aL3 cL3 n6 aH cH)⟩ ⟨bt (by omega), trivial⟩ ?_
         refine e_seq <| g_true <| g_skip <| e_seq <| g_seq <| g_block <| g_seq <| g_rowat (base := n6) (e := 26) (sz := 3) (cells := TLeaf.cells) (a := aH) (n := (((lastUp lv.xs i).reverse).length)) (cap := cH) (xs := ((lastUp lv.xs i).reverse)) 3 (by omega) (fun b63 hg64 hb65 => ?_)
         subst hg64
         obtain ⟨y66, hy66⟩ : ∃ y_, y_ = gd ((lastUp lv.xs i).reverse) (((((((lastUp lv.xs i).reverse).length : Nat) : Int) - 1) - (k : Int)).toNat) := ⟨_, rfl⟩
         refine g_rowat (base := z) (e := 26) (sz := 3) (cells := TLeaf.cells) (a := aL3) (n := ((lastUp lv.xs i).length)) (cap := cL3) (xs := (lastUp lv.xs i)) 2 (by omega) (fun b67 hg68 hb69 => ?_)
         subst hg68
         obtain ⟨y70, hy70⟩ : ∃ y_, y_ = gd (lastUp lv.xs i) k := ⟨_, rfl⟩
         have hrev : y66 = y70 := by rw [hy66, hy70]; exact rev_at (by omega) (by omega)
         refine g_draw 13 [0, 1, 2, 3] [(old0 w), (Tl.tlbC b2 FG (tlbL (lastUp lv.xs i))), (qr84_15 z b67 lv i cL3), (qr84_10 n6 b63 lv i cH)] rfl rfl ?_
         refine w_take [(0, o0), (1, o0), (2, o0), (3, (ov (.int .i64 (((((lastUp lv.xs i).reverse).length : Nat) : Int) - 1)))), (4, o0), (5, (ov (.int .i64 ((((((lastUp lv.xs i).reverse).length : Nat) : Int) - 1) - (k : Int))))), (6, (oi (((((((lastUp lv.xs i).reverse).length : Nat) : Int) - 1) - (k : Int)).toNat))), (7, (oa [.via 3 (.int .i64 y66.Page), .via 3 (.int .i64 y66.Frame), .via 3 (.int .i64 y66.Rights)])), (8, o0), (9, o0), (10, (oi k)), (11, (oa [.via 2 (.int .i64 y70.Page), .via 2 (.int .i64 y70.Frame), .via 2 (.int .i64 y70.Rights)])), (12, ⟨.seq true, none⟩)] [3, 4, 11, 12, 123] [Value.int .i64 (IntKind.i64.wrap ((((((lastUp lv.xs i).reverse).length : Nat) : Int) : Int) - 1)) = Value.int .i64 (((((lastUp lv.xs i).reverse).length : Nat) : Int) - 1), Value.int .i64 (IntKind.i64.wrap ((((((lastUp lv.xs i).reverse).length : Nat) : Int) - 1 : Int) - (k : Int))) = Value.int .i64 ((((((lastUp lv.xs i).reverse).length : Nat) : Int) - 1) - (k : Int)), ((((((lastUp lv.xs i).reverse).length : Nat) : Int) - 1) - (k : Int) : Int) = ((((((((lastUp lv.xs i).reverse).length : Nat) : Int) - 1) - (k : Int)).toNat : Nat) : Int), ((((((lastUp lv.xs i).reverse).length : Nat) : Int) - 1) - (k : Int)).toNat < ((lastUp lv.xs i).reverse).length, (none : Option Nat) = none, ∀ w', Ch.holds (qr84_10 n6 b63 lv i cH) w' → w'.cell? ⟨b63, 0 + offs 3 (((((((lastUp lv.xs i).reverse).length : Nat) : Int) - 1) - (k : Int)).toNat), none⟩ = some (.int .i64 y66.Page), ∀ w', Ch.holds (qr84_10 n6 b63 lv i cH) w' → w'.cell? ⟨b63, 0 + offs 3 (((((((lastUp lv.xs i).reverse).length : Nat) : Int) - 1) - (k : Int)).toNat) + 1, none⟩ = some (.int .i64 y66.Frame), ∀ w', Ch.holds (qr84_10 n6 b63 lv i cH) w' → w'.cell? ⟨b63, 0 + offs 3 (((((((lastUp lv.xs i).reverse).length : Nat) : Int) - 1) - (k : Int)).toNat) + 2, none⟩ = some (.int .i64 y66.Rights), ((k : Int) : Int) = ((k : Nat) : Int), k < (lastUp lv.xs i).length, (none : Option Nat) = none, ∀ w', Ch.holds (qr84_15 z b67 lv i cL3) w' → w'.cell? ⟨b67, 0 + offs 3 k, none⟩ = some (.int .i64 y70.Page), ∀ w', Ch.holds (qr84_15 z b67 lv i cL3) w' → w'.cell? ⟨b67, 0 + offs 3 k + 1, none⟩ = some (.int .i64 y70.Frame), ∀ w', Ch.holds (qr84_15 z b67 lv i cL3) w' → w'.cell? ⟨b67, 0 + offs 3 k + 2, none⟩ = some (.int .i64 y70.Rights), ((y66.Page : Int) == (y70.Page : Int) && ((y66.Frame : Int) == (y70.Frame : Int) && ((y66.Rights : Int) == (y70.Rights : Int) && true))) = true] [true, true, true, true, true, true, true, true, true, true, true, true, true] [(qr84_39 b2), (qr84_25 b67 lv i cL3), (qr84_22 b63 lv i cH), (12, .int .i64 (k : Int)), (123, .bool false)] rfl (by as_aux_lemma => kernel_rfl) (by as_aux_lemma => kernel_rfl) ⟨congrArg (Value.int .i64) (wr_i64 (by omega) (by omega) (by omega)), congrArg (Value.int .i64) (wr_i64 (by omega) (by omega) (by omega)), (by omega), (by omega), rfl, rowL_cell (k := 0) (fun _ => rfl) (by omega) (by rw [← hy66]; rfl), rowL_cell (k := 1) (fun _ => rfl) (by omega) (by rw [← hy66]; rfl), rowL_cell (k := 2) (fun _ => rfl) (by omega) (by rw [← hy66]; rfl), rfl, (by omega), rfl, rowL_cell (k := 0) (fun _ => rfl) (by omega) (by rw [← hy70]; rfl), rowL_cell (k := 1) (fun _ => rfl) (by omega) (by rw [← hy70]; rfl), rowL_cell (k := 2) (fun _ => rfl) (by omega) (by rw [← hy70]; rfl), (by first | (simp; done) | (rw [hrev]; simp)), trivial⟩ ?_
         refine w_done (by as_aux_lemma => kernel_rfl) ?_
         refine e_keep [3, 4, 11, 12, 123] [(qr84_39 b2), (qr84_25 b67 lv i cL3), (qr84_22 b63 lv i cH), (12, .int .i64 (k : Int)), (123, .bool false)] ?_
         refine e_seq <| g_false <| g_skip <| e_blk <| e_seq <| g_region <| l_all 3 [o0, (ov (.int .i64 ((k + 1 : Nat) : Int))), o0] [3, 4, 11, 12] [Value.int .i64 (IntKind.i64.wrap (((k : Int) : Int) + 1)) = Value.int .i64 (((k + 1 : Nat) : Int))] [(qr84_39 b2), (qr84_25 b67 lv i cL3), (qr84_22 b63 lv i cH), (12, .int .i64 ((k + 1 : Nat) : Int))] ⟨w, n61, [(old0 w), (Tl.tlbC b2 FG (tlbL (lastUp lv.xs i))), (qr84_15 z b67 lv i cL3), (qr84_10 n6 b63 lv i cH)]⟩ ⟨congrArg (Value.int .i64) (wr_i64 (by omega) (by omega) (by omega)), trivial⟩ ?_
         refine e_keep [3, 4, 11, 12] [(qr84_39 b2), (qr84_25 b67 lv i cL3), (qr84_22 b63 lv i cH), (12, .int .i64 ((k + 1 : Nat) : Int))] ?_
         refine e_inv (fun a w' hs => ⟨(lastUp lv.xs i).length - (k + 1), by omega, n61, (k + 1), (some ⟨b67, 0, none⟩), cL3, (some ⟨b63, 0, none⟩), cH, rfl, by omega, by omega, hs⟩)
       · refine g_region <| l_all 4 [o0, o0, o0, oF] [3, 4, 11, 12, 108] [BF (((k : Int) : Int) < (((lastUp lv.xs i).length : Nat) : Int))] [(qr84_39 b2), (4, .slice aL3 ((lastUp lv.xs i).length) cL3), (11, .slice aH (((lastUp lv.xs i).reverse).length) cH), (12, .int .i64 (k : Int)), (108, .bool false)] ⟨w, n61, (qr84_45 w b2 FG lv i z aL3 cL3 n6 aH cH)⟩ ⟨bf (by omega), trivial⟩ ?_
         refine e_seq <| g_false <| g_exit <| e_out <| e_outI <| e_hit <| e_seq <| g_seq <| g_seq <| g_region <| l_all 1 [o0] [3, 4, 13] [] [(qr84_39 b2), (4, .slice aL3 ((lastUp lv.xs i).length) cL3), (13, .int .i64 (-1))] ⟨w, n61, (qr84_45 w b2 FG lv i z aL3 cL3 n6 aH cH)⟩ trivial ?_
         refine e_seq <| g_block <| g_loop (fun m a w' => ∃ (n72 : Nat) (pg : Int) (FG2 : Nat → Prop) (LG : List (Int × Sh.V)) (aL4 : Option Addr) (cL4 : Nat), m = (257 - pg).toNat ∧ n61 ≤ n72 ∧ (-1 ≤ pg ∧ pg ≤ 257) ∧ (LG.Perm (tlbL (lastUp lv.xs i))) ∧ St 160 [(qr84_39 b2), (qr84_33 aL4 lv i cL4), (13, .int .i64 pg)] [] ⟨w, n72, [(old0 w), (Tl.tlbC b2 FG2 LG), (qr84_19 z aL4 lv i cL4), (qr84_13 n6 aH lv i cH)]⟩ a w') (258) ?_ ?_
         · intro a w' hs; exact ⟨n61, (-1), FG, (tlbL (lastUp lv.xs i)), aL3, cL3, rfl, Nat.le_refl _, by omega, List.Perm.refl _, hs⟩
         · rintro m a w' ⟨n72, pg, FG2, LG, aL4, cL4, rfl, hn71, hpg, hP0, hs⟩
           refine (?_ : G Try.prog 160 [(qr84_39 b2), (qr84_33 aL4 lv i cL4), (13, .int .i64 pg)] [] ⟨w, n72, [(old0 w), (Tl.tlbC b2 FG2 LG), (qr84_19 z aL4 lv i cL4), (qr84_13 n6 aH lv i cH)]⟩ _ _ _) a w' hs
           clear hs a w'
           refine g_seq <| g_seq ?_
           by_cases h73 : (256 : Int) < pg
           · refine g_region <| l_all 2 [o0, oF] [3, 4, 13, 125] [BF ((pg : Int) ≤ 256)] [(qr84_39 b2), (qr84_33 aL4 lv i cL4), (13, .int .i64 pg), (125, .bool false)] ⟨w, n72, [(old0 w), (Tl.tlbC b2 FG2 LG), (qr84_19 z aL4 lv i cL4), (qr84_13 n6 aH lv i cH)]⟩ ⟨bf (by omega), trivial⟩ ?_
             refine e_seq <| g_false <| g_exit <| e_out <| e_outI <| e_hit <| e_seq <| g_seq <| g_region <| l_all 1 [o0] [2] [] [(2, .bool true)] ⟨w, n72, [(old0 w), (Tl.tlbC b2 FG2 LG), (qr84_19 z aL4 lv i cL4), (qr84_13 n6 aH lv i cH)]⟩ trivial ?_
             refine e_seq <| g_ret <| e_ret [] [] (.bool true) trivial ?_
             intro w74 hw74
             exact ⟨rfl, hw74.back rfl (show w.heap.size ≤ n72 by omega) (List.mem_cons_self ..)⟩
           · refine g_region <| l_all 2 [o0, oT] [3, 4, 13, 125] [BT ((pg : Int) ≤ 256)] [(qr84_39 b2), (qr84_33 aL4 lv i cL4), (13, .int .i64 pg), (125, .bool true)] ⟨w, n72, [(old0 w), (Tl.tlbC b2 FG2 LG), (qr84_19 z aL4 lv i cL4), (qr84_13 n6 aH lv i cH)]⟩ ⟨bt (by omega), trivial⟩ ?_
             refine e_seq <| g_true <| g_skip <| e_seq <| g_seq <| g_block <| g_seq <| g_region <| l_run 2 [o0, o0] [3, 4, 13, 129, 130] [] [(qr84_39 b2), (qr84_33 aL4 lv i cL4), (13, .int .i64 pg), (129, .pointer (some ⟨b2, 0, none⟩)), (130, .int .i64 pg)] ⟨w, n72, [(old0 w), (Tl.tlbC b2 FG2 LG), (qr84_19 z aL4 lv i cL4), (qr84_13 n6 aH lv i cH)]⟩ trivial ?_
             refine l_call [] [] 10 #[.pointer (some ⟨b2, 0, none⟩), .int .i64 pg] (some 131) trivial ?_
             intro w75 hw75
             refine (Tl.find_sat hw75 (i := 1) rfl pg).mono ?_
             rintro e w78 ⟨F76, L77, rfl, hPw78, hmw78, hSw78⟩
             have hnw78 : n72 ≤ w78.heap.size := hmw78
             have hfiw78 := find_is hP0 hgood pg; rw [hfiw78.1, hfiw78.2]
             have hP1 := hPw78.trans hP0
             refine ⟨_, _, rfl, hSw78, ?_⟩
             refine l_keep [3, 4, 13, 131] [(qr84_39 b2), (qr84_33 aL4 lv i cL4), (13, .int .i64 pg), (131, .tuple #[.agg (TLeaf.arr (optL (scanL (lastUp lv.xs i) pg (lastUp lv.xs i).length))), .bool ((scanL (lastUp lv.xs i) pg (lastUp lv.xs i).length).isSome)])] ?_
             refine l_all 6 [o0, o0, o0, o0, (oa [.at 4, .at 4, .at 4]), o0] [3, 4, 13, 14, 15] [Qb w78.heap.size, Qb w78.heap.size, Qb w78.heap.size] [(qr84_39 b2), (qr84_33 aL4 lv i cL4), (13, .int .i64 pg), (qr84_32 w78), (qr84_23 lv i pg)] ⟨w, w78.heap.size + 1, [(old0 w), (Tl.tlbC b2 F76 L77), (qr84_19 z aL4 lv i cL4), (qr84_13 n6 aH lv i cH), (qr84_3 w78 lv i pg)]⟩ ⟨rfl, rfl, rfl, trivial⟩ ?_
             refine e_seq <| g_seq <| g_region <| l_all 3 [o0, o0, (oa [.at 5, .at 5, .at 5])] [3, 4, 13, 14, 15, 16] [Qb (w78.heap.size + 1), Qb (w78.heap.size + 1), Qb (w78.heap.size + 1)] [(qr84_39 b2), (qr84_33 aL4 lv i cL4), (13, .int .i64 pg), (qr84_32 w78), (qr84_23 lv i pg), (qr84_30 w78)] ⟨w, w78.heap.size + 2, [(old0 w), (Tl.tlbC b2 F76 L77), (qr84_19 z aL4 lv i cL4), (qr84_13 n6 aH lv i cH), (qr84_3 w78 lv i pg), (qr84_7 w78)]⟩ ⟨rfl, rfl, rfl, trivial⟩ ?_
             refine e_seq <| g_seq <| g_region <| l_all 1 [o0] [3, 4, 13, 14, 15, 16, 17] [] [(qr84_39 b2), (qr84_33 aL4 lv i cL4), (13, .int .i64 pg), (qr84_32 w78), (qr84_23 lv i pg), (qr84_30 w78), (17, .bool false)] ⟨w, w78.heap.size + 2, [(old0 w), (Tl.tlbC b2 F76 L77), (qr84_19 z aL4 lv i cL4), (qr84_13 n6 aH lv i cH), (qr84_3 w78 lv i pg), (qr84_7 w78)]⟩ trivial ?_
             refine e_seq <| g_seq <| g_seq <| g_region <| l_all 1 [o0] [3, 4, 13, 14, 15, 16, 17, 18] [] [(qr84_39 b2), (qr84_33 aL4 lv i cL4), (13, .int .i64 pg), (qr84_32 w78), (qr84_23 lv i pg), (qr84_30 w78), (17, .bool false), (18, .int .i64 0)] ⟨w, w78.heap.size + 2, [(old0 w), (Tl.tlbC b2 F76 L77), (qr84_19 z aL4 lv i cL4), (qr84_13 n6 aH lv i cH), (qr84_3 w78 lv i pg), (qr84_7 w78)]⟩ trivial ?_
             refine e_seq <| g_block <| g_loop (fun m a w' => ∃ (n80 : Nat) (q : Nat) (aL5 : Option Addr) (cL5 : Nat), m = (lastUp lv.xs i).length - q ∧ w78.heap.size + 2 ≤ n80 ∧ (q ≤ (lastUp lv.xs i).length) ∧ St 160 [(qr84_39 b2), (qr84_34 aL5 lv i cL5), (13, .int .i64 pg), (qr84_32 w78), (qr84_23 lv i pg), (qr84_30 w78), (qr84_31 lv i pg q), (18, .int .i64 (q : Int))] [] ⟨w, n80, [(old0 w), (Tl.tlbC b2 F76 L77), (qr84_20 z aL5 lv i cL5), (qr84_13 n6 aH lv i cH), (qr84_3 w78 lv i pg), (qr84_2 w78 lv i pg q)]⟩ a w') ((lastUp lv.xs i).length - 0) ?_ ?_
             · intro a w' hs; exact ⟨(w78.heap.size + 2), 0, aL4, cL4, rfl, Nat.le_refl _, Nat.zero_le _, by (try dsimp only [qr84_0, qr84_1, qr84_2, qr84_3, qr84_4, qr84_5, qr84_6, qr84_7, qr84_8, qr84_9, qr84_10, qr84_11, qr84_12, qr84_13, qr84_14, qr84_15, qr84_16, qr84_17, qr84_18, qr84_19, qr84_20, qr84_21, qr84_22, qr84_23, qr84_24, qr84_25, qr84_26, qr84_27, qr84_28, qr84_29, qr84_30, qr84_31, qr84_32, qr84_33, qr84_34, qr84_35, qr84_36, qr84_37, qr84_38, qr84_39, qr84_40, qr84_41, qr84_42, qr84_43, qr84_44, qr84_45, qr84_46, qr84_47] at hs ⊢); rw [show scanL (lastUp lv.xs i) pg 0 = none from rfl]; exact hs⟩
             · rintro m a w' ⟨n80, q, aL5, cL5, rfl, hn79, hkq, hs⟩
               refine (?_ : G Try.prog 160 [(qr84_39 b2), (qr84_34 aL5 lv i cL5), (13, .int .i64 pg), (qr84_32 w78), (qr84_23 lv i pg), (qr84_30 w78), (qr84_31 lv i pg q), (18, .int .i64 (q : Int))] [] ⟨w, n80, [(old0 w), (Tl.tlbC b2 F76 L77), (qr84_20 z aL5 lv i cL5), (qr84_13 n6 aH lv i cH), (qr84_3 w78 lv i pg), (qr84_2 w78 lv i pg q)]⟩ _ _ _) a w' hs
               clear hs a w'
               refine g_seq <| g_seq ?_
               by_cases h81 : ((q : Int) : Int) < (((lastUp lv.xs i).length : Nat) : Int)
               · refine g_region <| l_all 4 [o0, o0, o0, oT] [3, 4, 13, 14, 15, 16, 17, 18, 138] [BT (((q : Int) : Int) < (((lastUp lv.xs i).length : Nat) : Int))] [(qr84_39 b2), (qr84_34 aL5 lv i cL5), (13, .int .i64 pg), (qr84_32 w78), (qr84_23 lv i pg), (qr84_30 w78), (qr84_31 lv i pg q), (18, .int .i64 (q : Int)), (138, .bool true)] ⟨w, n80, [(old0 w), (Tl.tlbC b2 F76 L77), (qr84_20 z aL5 lv i cL5), (qr84_13 n6 aH lv i cH), (qr84_3 w78 lv i pg), (qr84_2 w78 lv i pg q)]⟩ ⟨bt (by omega), trivial⟩ ?_
                 refine e_seq <| g_true <| g_skip <| e_seq <| g_seq <| g_block <| g_seq <| g_rowat (base := z) (e := 26) (sz := 3) (cells := TLeaf.cells) (a := aL5) (n := ((lastUp lv.xs i).length)) (cap := cL5) (xs := (lastUp lv.xs i)) 2 (by omega) (fun b82 hg83 hb84 => ?_)
                 subst hg83
                 obtain ⟨y85, hy85⟩ : ∃ y_, y_ = gd (lastUp lv.xs i) q := ⟨_, rfl⟩
                 by_cases h86 : (y85.Page : Int) = pg
                 · refine g_region <| l_all 7 [o0, o0, (oi q), o0, (oa [.via 2 (.int .i64 y85.Page)]), o0, oT] [3, 4, 13, 14, 15, 16, 17, 18, 147] [((q : Int) : Int) = ((q : Nat) : Int), q < (lastUp lv.xs i).length, (none : Option Nat) = none, ∀ w', Ch.holds (qr84_16 z b82 lv i cL5) w' → w'.cell? ⟨b82, 0 + offs 3 q, none⟩ = some (.int .i64 y85.Page), ET y85.Page pg] [(qr84_39 b2), (qr84_26 b82 lv i cL5), (13, .int .i64 pg), (qr84_32 w78), (qr84_23 lv i pg), (qr84_30 w78), (qr84_31 lv i pg q), (18, .int .i64 (q : Int)), (147, .bool true)] ⟨w, n80, [(old0 w), (Tl.tlbC b2 F76 L77), (qr84_16 z b82 lv i cL5), (qr84_13 n6 aH lv i cH), (qr84_3 w78 lv i pg), (qr84_2 w78 lv i pg q)]⟩ ⟨rfl, (by omega), rfl, rowL_cell (k := 0) (fun _ => rfl) (by omega) (by rw [← hy85]; rfl), et (by omega), trivial⟩ ?_
                   refine e_seq <| g_true <| g_seq <| g_region <| l_all 5 [o0, o0, (oi q), (oa [.via 2 (.int .i64 y85.Page), .via 2 (.int .i64 y85.Frame), .via 2 (.int .i64 y85.Rights)]), (oa [.at 5, .at 5, .at 5])] [3, 4, 13, 14, 15, 16, 18] [((q : Int) : Int) = ((q : Nat) : Int), q < (lastUp lv.xs i).length, (none : Option Nat) = none, ∀ w', Ch.holds (qr84_16 z b82 lv i cL5) w' → w'.cell? ⟨b82, 0 + offs 3 q, none⟩ = some (.int .i64 y85.Page), ∀ w', Ch.holds (qr84_16 z b82 lv i cL5) w' → w'.cell? ⟨b82, 0 + offs 3 q + 1, none⟩ = some (.int .i64 y85.Frame), ∀ w', Ch.holds (qr84_16 z b82 lv i cL5) w' → w'.cell? ⟨b82, 0 + offs 3 q + 2, none⟩ = some (.int .i64 y85.Rights), Qb (w78.heap.size + 1), Qb (w78.heap.size + 1), Qb (w78.heap.size + 1)] [(qr84_39 b2), (qr84_26 b82 lv i cL5), (13, .int .i64 pg), (qr84_32 w78), (qr84_23 lv i pg), (qr84_30 w78), (18, .int .i64 (q : Int))] ⟨w, n80, [(old0 w), (Tl.tlbC b2 F76 L77), (qr84_16 z b82 lv i cL5), (qr84_13 n6 aH lv i cH), (qr84_3 w78 lv i pg), (qr84_4 w78 y85)]⟩ ⟨rfl, (by omega), rfl, rowL_cell (k := 0) (fun _ => rfl) (by omega) (by rw [← hy85]; rfl), rowL_cell (k := 1) (fun _ => rfl) (by omega) (by rw [← hy85]; rfl), rowL_cell (k := 2) (fun _ => rfl) (by omega) (by rw [← hy85]; rfl), rfl, rfl, rfl, trivial⟩ ?_
                   refine e_seq <| g_region <| l_all 1 [o0] [3, 4, 13, 14, 15, 16, 18, 17] [] [(qr84_39 b2), (qr84_26 b82 lv i cL5), (13, .int .i64 pg), (qr84_32 w78), (qr84_23 lv i pg), (qr84_30 w78), (18, .int .i64 (q : Int)), (17, .bool true)] ⟨w, n80, [(old0 w), (Tl.tlbC b2 F76 L77), (qr84_16 z b82 lv i cL5), (qr84_13 n6 aH lv i cH), (qr84_3 w78 lv i pg), (qr84_4 w78 y85)]⟩ trivial ?_
                   refine e_blk <| e_seq <| g_region <| l_all 3 [o0, (ov (.int .i64 ((q + 1 : Nat) : Int))), o0] [3, 4, 13, 14, 15, 16, 18, 17] [Value.int .i64 (IntKind.i64.wrap (((q : Int) : Int) + 1)) = Value.int .i64 (((q + 1 : Nat) : Int))] [(qr84_39 b2), (qr84_26 b82 lv i cL5), (13, .int .i64 pg), (qr84_32 w78), (qr84_23 lv i pg), (qr84_30 w78), (18, .int .i64 ((q + 1 : Nat) : Int)), (17, .bool true)] ⟨w, n80, [(old0 w), (Tl.tlbC b2 F76 L77), (qr84_16 z b82 lv i cL5), (qr84_13 n6 aH lv i cH), (qr84_3 w78 lv i pg), (qr84_4 w78 y85)]⟩ ⟨congrArg (Value.int .i64) (wr_i64 (by omega) (by omega) (by omega)), trivial⟩ ?_
                   refine e_keep [3, 4, 13, 14, 15, 16, 17, 18] [(qr84_39 b2), (qr84_26 b82 lv i cL5), (13, .int .i64 pg), (qr84_32 w78), (qr84_23 lv i pg), (qr84_30 w78), (17, .bool true), (18, .int .i64 ((q + 1 : Nat) : Int))] ?_
                   refine e_inv (fun a w' hs => ⟨(lastUp lv.xs i).length - (q + 1), by omega, n80, (q + 1), (some ⟨b82, 0, none⟩), cL5, rfl, by omega, by omega, by (try dsimp only [qr84_0, qr84_1, qr84_2, qr84_3, qr84_4, qr84_5, qr84_6, qr84_7, qr84_8, qr84_9, qr84_10, qr84_11, qr84_12, qr84_13, qr84_14, qr84_15, qr84_16, qr84_17, qr84_18, qr84_19, qr84_20, qr84_21, qr84_22, qr84_23, qr84_24, qr84_25, qr84_26, qr84_27, qr84_28, qr84_29, qr84_30, qr84_31, qr84_32, qr84_33, qr84_34, qr84_35, qr84_36, qr84_37, qr84_38, qr84_39, qr84_40, qr84_41, qr84_42, qr84_43, qr84_44, qr84_45, qr84_46, qr84_47] at hs ⊢); rw [scanL_succ (by omega), ← hy85, if_pos (by omega)]; exact hs⟩)
                 · refine g_region <| l_all 7 [o0, o0, (oi q), o0, (oa [.via 2 (.int .i64 y85.Page)]), o0, oF] [3, 4, 13, 14, 15, 16, 17, 18, 147] [((q : Int) : Int) = ((q : Nat) : Int), q < (lastUp lv.xs i).length, (none : Option Nat) = none, ∀ w', Ch.holds (qr84_16 z b82 lv i cL5) w' → w'.cell? ⟨b82, 0 + offs 3 q, none⟩ = some (.int .i64 y85.Page), EF y85.Page pg] [(qr84_39 b2), (qr84_26 b82 lv i cL5), (13, .int .i64 pg), (qr84_32 w78), (qr84_23 lv i pg), (qr84_30 w78), (qr84_31 lv i pg q), (18, .int .i64 (q : Int)), (147, .bool false)] ⟨w, n80, [(old0 w), (Tl.tlbC b2 F76 L77), (qr84_16 z b82 lv i cL5), (qr84_13 n6 aH lv i cH), (qr84_3 w78 lv i pg), (qr84_2 w78 lv i pg q)]⟩ ⟨rfl, (by omega), rfl, rowL_cell (k := 0) (fun _ => rfl) (by omega) (by rw [← hy85]; rfl), ef (by omega), trivial⟩ ?_
                   refine e_seq <| g_false <| g_skip <| e_blk <| e_seq <| g_region <| l_all 3 [o0, (ov (.int .i64 ((q + 1 : Nat) : Int))), o0] [3, 4, 13, 14, 15, 16, 17, 18] [Value.int .i64 (IntKind.i64.wrap (((q : Int) : Int) + 1)) = Value.int .i64 (((q + 1 : Nat) : Int))] [(qr84_39 b2), (qr84_26 b82 lv i cL5), (13, .int .i64 pg), (qr84_32 w78), (qr84_23 lv i pg), (qr84_30 w78), (qr84_31 lv i pg q), (18, .int .i64 ((q + 1 : Nat) : Int))] ⟨w, n80, [(old0 w), (Tl.tlbC b2 F76 L77), (qr84_16 z b82 lv i cL5), (qr84_13 n6 aH lv i cH), (qr84_3 w78 lv i pg), (qr84_2 w78 lv i pg q)]⟩ ⟨congrArg (Value.int .i64) (wr_i64 (by omega) (by omega) (by omega)), trivial⟩ ?_
                   refine e_keep [3, 4, 13, 14, 15, 16, 17, 18] [(qr84_39 b2), (qr84_26 b82 lv i cL5), (13, .int .i64 pg), (qr84_32 w78), (qr84_23 lv i pg), (qr84_30 w78), (qr84_31 lv i pg q), (18, .int .i64 ((q + 1 : Nat) : Int))] ?_
                   refine e_inv (fun a w' hs => ⟨(lastUp lv.xs i).length - (q + 1), by omega, n80, (q + 1), (some ⟨b82, 0, none⟩), cL5, rfl, by omega, by omega, by (try dsimp only [qr84_0, qr84_1, qr84_2, qr84_3, qr84_4, qr84_5, qr84_6, qr84_7, qr84_8, qr84_9, qr84_10, qr84_11, qr84_12, qr84_13, qr84_14, qr84_15, qr84_16, qr84_17, qr84_18, qr84_19, qr84_20, qr84_21, qr84_22, qr84_23, qr84_24, qr84_25, qr84_26, qr84_27, qr84_28, qr84_29, qr84_30, qr84_31, qr84_32, qr84_33, qr84_34, qr84_35, qr84_36, qr84_37, qr84_38, qr84_39, qr84_40, qr84_41, qr84_42, qr84_43, qr84_44, qr84_45, qr84_46, qr84_47] at hs ⊢); rw [scanL_succ (by omega), ← hy85, if_neg (by omega)]; exact hs⟩)
               · refine g_region <| l_all 4 [o0, o0, o0, oF] [3, 4, 13, 14, 15, 16, 17, 18, 138] [BF (((q : Int) : Int) < (((lastUp lv.xs i).length : Nat) : Int))] [(qr84_39 b2), (qr84_34 aL5 lv i cL5), (13, .int .i64 pg), (qr84_32 w78), (qr84_23 lv i pg), (qr84_30 w78), (qr84_31 lv i pg q), (18, .int .i64 (q : Int)), (138, .bool false)] ⟨w, n80, [(old0 w), (Tl.tlbC b2 F76 L77), (qr84_20 z aL5 lv i cL5), (qr84_13 n6 aH lv i cH), (qr84_3 w78 lv i pg), (qr84_2 w78 lv i pg q)]⟩ ⟨bf (by omega), trivial⟩ ?_
                 refine e_seq <| g_false <| g_exit <| e_out <| e_outI <| e_hit <| e_seq <| g_seq ?_
                 have hq : q = (lastUp lv.xs i).length := by omega
                 subst hq
                 refine (?_ : G _ _ [(qr84_39 b2), (qr84_34 aL5 lv i cL5), (13, .int .i64 pg), (qr84_32 w78), (qr84_23 lv i pg), (qr84_30 w78), (17, .bool ((scanL (lastUp lv.xs i) pg (lastUp lv.xs i).length).isSome)), (18, .int .i64 ((lastUp lv.xs i).length : Int)), (138, .bool false)] _ ⟨w, n80, (qr84_44 w b2 F76 L77 z aL5 lv i cL5 n6 aH cH w78 pg)⟩ _ _ _)
                 by_cases h87 : ((scanL (lastUp lv.xs i) pg (lastUp lv.xs i).length).isSome) = true
                 · refine g_region <| l_all 8 [o0, o0, (ov (.bool false)), o0, (oa [.at 4, .at 4, .at 4]), (oa [.at 5, .at 5, .at 5]), ⟨.seq true, none⟩, o0] [3, 4, 13, 159] [Value.bool (!((scanL (lastUp lv.xs i) pg (lastUp lv.xs i).length).isSome == (scanL (lastUp lv.xs i) pg (lastUp lv.xs i).length).isSome)) = Value.bool false, Qb w78.heap.size, Qb w78.heap.size, Qb w78.heap.size, Qb (w78.heap.size + 1), Qb (w78.heap.size + 1), Qb (w78.heap.size + 1), (((optL (scanL (lastUp lv.xs i) pg (lastUp lv.xs i).length)).Page : Int) == ((optL (scanL (lastUp lv.xs i) pg (lastUp lv.xs i).length)).Page : Int) && (((optL (scanL (lastUp lv.xs i) pg (lastUp lv.xs i).length)).Frame : Int) == ((optL (scanL (lastUp lv.xs i) pg (lastUp lv.xs i).length)).Frame : Int) && (((optL (scanL (lastUp lv.xs i) pg (lastUp lv.xs i).length)).Rights : Int) == ((optL (scanL (lastUp lv.xs i) pg (lastUp lv.xs i).length)).Rights : Int) && true))) = true] [(qr84_39 b2), (qr84_34 aL5 lv i cL5), (13, .int .i64 pg), (159, .bool false)] ⟨w, n80, (qr84_44 w b2 F76 L77 z aL5 lv i cL5 n6 aH cH w78 pg)⟩ ⟨by simp [h87, h87], rfl, rfl, rfl, rfl, rfl, rfl, (by first | (simp; done) | (rw [hrev]; simp)), trivial⟩ ?_
                   refine e_seq <| g_false <| g_skip <| e_blk <| e_seq <| g_region <| l_all 3 [o0, (ov (.int .i64 (pg + 1))), o0] [3, 4, 13] [Value.int .i64 (IntKind.i64.wrap ((pg : Int) + 1)) = Value.int .i64 (pg + 1)] [(qr84_39 b2), (qr84_34 aL5 lv i cL5), (13, .int .i64 (pg + 1))] ⟨w, n80, (qr84_44 w b2 F76 L77 z aL5 lv i cL5 n6 aH cH w78 pg)⟩ ⟨congrArg (Value.int .i64) (wr_i64 (by omega) (by omega) (by omega)), trivial⟩ ?_
                   refine e_pick [0, 1, 2, 3] [(old0 w), (Tl.tlbC b2 F76 L77), (qr84_20 z aL5 lv i cL5), (qr84_13 n6 aH lv i cH)] rfl rfl ?_
                   refine e_keep [3, 4, 13] [(qr84_39 b2), (qr84_34 aL5 lv i cL5), (13, .int .i64 (pg + 1))] ?_
                   refine e_inv (fun a w' hs => ⟨(257 - (pg + 1)).toNat, by omega, n80, (pg + 1), F76, L77, aL5, cL5, rfl, by omega, by omega, hP1, hs⟩)
                 · refine g_region <| l_all 8 [o0, o0, (ov (.bool false)), o0, (oa [.at 4, .at 4, .at 4]), (oa [.at 5, .at 5, .at 5]), ⟨.seq true, none⟩, o0] [3, 4, 13, 159] [Value.bool (!((scanL (lastUp lv.xs i) pg (lastUp lv.xs i).length).isSome == (scanL (lastUp lv.xs i) pg (lastUp lv.xs i).length).isSome)) = Value.bool false, Qb w78.heap.size, Qb w78.heap.size, Qb w78.heap.size, Qb (w78.heap.size + 1), Qb (w78.heap.size + 1), Qb (w78.heap.size + 1), (((optL (scanL (lastUp lv.xs i) pg (lastUp lv.xs i).length)).Page : Int) == ((optL (scanL (lastUp lv.xs i) pg (lastUp lv.xs i).length)).Page : Int) && (((optL (scanL (lastUp lv.xs i) pg (lastUp lv.xs i).length)).Frame : Int) == ((optL (scanL (lastUp lv.xs i) pg (lastUp lv.xs i).length)).Frame : Int) && (((optL (scanL (lastUp lv.xs i) pg (lastUp lv.xs i).length)).Rights : Int) == ((optL (scanL (lastUp lv.xs i) pg (lastUp lv.xs i).length)).Rights : Int) && true))) = true] [(qr84_39 b2), (qr84_34 aL5 lv i cL5), (13, .int .i64 pg), (159, .bool false)] ⟨w, n80, (qr84_44 w b2 F76 L77 z aL5 lv i cL5 n6 aH cH w78 pg)⟩ ⟨by simp [h87, h87], rfl, rfl, rfl, rfl, rfl, rfl, (by first | (simp; done) | (rw [hrev]; simp)), trivial⟩ ?_
                   refine e_seq <| g_false <| g_skip <| e_blk <| e_seq <| g_region <| l_all 3 [o0, (ov (.int .i64 (pg + 1))), o0] [3, 4, 13] [Value.int .i64 (IntKind.i64.wrap ((pg : Int) + 1)) = Value.int .i64 (pg + 1)] [(qr84_39 b2), (qr84_34 aL5 lv i cL5), (13, .int .i64 (pg + 1))] ⟨w, n80, (qr84_44 w b2 F76 L77 z aL5 lv i cL5 n6 aH cH w78 pg)⟩ ⟨congrArg (Value.int .i64) (wr_i64 (by omega) (by omega) (by omega)), trivial⟩ ?_
                   refine e_pick [0, 1, 2, 3] [(old0 w), (Tl.tlbC b2 F76 L77), (qr84_20 z aL5 lv i cL5), (qr84_13 n6 aH lv i cH)] rfl rfl ?_
                   refine e_keep [3, 4, 13] [(qr84_39 b2), (qr84_34 aL5 lv i cL5), (13, .int .i64 (pg + 1))] ?_
                   refine e_inv (fun a w' hs => ⟨(257 - (pg + 1)).toNat, by omega, n80, (pg + 1), F76, L77, aL5, cL5, rfl, by omega, by omega, hP1, hs⟩)

end Go.Proofs.Ytbjcamafaolgiaa.Ly
