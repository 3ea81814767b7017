/- The document's list of leaves, read. No conditions. -/
import Derived.Test.YtbjcamafaolgiaaTlJ
namespace Go.Proofs.Ytbjcamafaolgiaa.Ly
open Go Go.Proofs.Ytbjcamafaolgiaa.Eng Go.Proofs.Ytbjcamafaolgiaa.Mem
set_option linter.unusedSimpArgs false
set_option linter.unusedVariables false
set_option maxRecDepth 100000

theorem leaf_eq {x y : TLeaf} (h : ((x.Page : Int) == (y.Page : Int) && ((x.Frame : Int) == (y.Frame : Int) && ((x.Rights : Int) == (y.Rights : Int) && true))) = true) : x = y := by
  cases x; cases y; simpa using h
theorem eq_of_gd {α : Type} [Inhabited α] {xs ys : List α} (hl : xs.length = ys.length) (h : ∀ q, q < xs.length → gd xs q = gd ys q) : xs = ys := by
  apply List.ext_getElem hl
  intro i h1 h2
  have := h i h1
  rwa [gd_eq h1, gd_eq h2] at this
theorem all_push {p : Nat → Prop} {i : Nat} (h : ∀ q, q < i → p q) (hi : p i) : ∀ q, q < i + 1 → p q := by
  intro q hq
  by_cases e : q = i
  · subst e; exact hi
  · exact h q (by omega)
def hasI (xs : List TLeaf) (p : Int) : Int := match xs.findIdx? (fun x => x.Page == p) with | some i => (i : Int) | none => -1
theorem hasI_at {xs : List TLeaf} {p : Int} {i : Nat} (hi : i < xs.length) (hno : ∀ q, q < i → (gd xs q).Page ≠ p) (h : (gd xs i).Page = p) : hasI xs p = (i : Int) := by
  unfold hasI
  rw [List.findIdx?_eq_some_iff_getElem.2 ⟨hi, by rw [← gd_eq hi]; simpa using h, fun j hj => by rw [← gd_eq (by omega)]; simpa using hno j hj⟩]
theorem hasI_no {xs : List TLeaf} {p : Int} (hno : ∀ q, q < xs.length → (gd xs q).Page ≠ p) : hasI xs p = -1 := by
  unfold hasI
  rw [List.findIdx?_eq_none_iff.2 (fun x hx => by
    obtain ⟨i, hi, rfl⟩ := List.getElem_of_mem hx
    have := hno i hi
    rw [gd_eq hi] at this
    simpa using this)]
theorem hasI_or (xs : List TLeaf) (p : Int) : (fB xs p = false ∧ hasI xs p = -1) ∨ (fB xs p = true ∧ ∃ i : Nat, hasI xs p = (i : Int) ∧ i < xs.length ∧ gd xs i = fV xs p ∧ (gd xs i).Page = p) := by
  cases h : xs.findIdx? (fun x => x.Page == p) with
  | none =>
    left
    rw [List.findIdx?_eq_none_iff] at h
    have hf : xs.find? (fun x => x.Page == p) = none := List.find?_eq_none.2 (fun x hx => by rw [h x hx]; simp)
    exact ⟨by unfold fB; rw [hf]; rfl, by unfold hasI; rw [List.findIdx?_eq_none_iff.2 h]⟩
  | some i =>
    right
    have h' := h
    rw [List.findIdx?_eq_some_iff_getElem] at h
    obtain ⟨hi, hp, hno⟩ := h
    have hf : xs.find? (fun x => x.Page == p) = some xs[i] := List.find?_eq_some_iff_getElem.2 ⟨hp, i, hi, rfl, fun j hj => by simpa using hno j hj⟩
    refine ⟨by unfold fB; rw [hf]; rfl, i, by unfold hasI; rw [h'], hi, ?_, ?_⟩
    · rw [gd_eq hi]; unfold fV; rw [hf]; rfl
    · rw [gd_eq hi]; simpa using hp
theorem outX_yes {xs : List TLeaf} {p : Int} {i : Nat} (hi : i < xs.length) (h : (gd xs i).Page ≠ p) : outX (xs.take (i + 1)) p = outX (xs.take i) p ++ [gd xs i] := by
  unfold outX
  rw [List.take_succ_eq_append_getElem hi, List.filter_append, gd_eq hi]
  rw [gd_eq hi] at h
  simp [h]
theorem outX_no {xs : List TLeaf} {p : Int} {i : Nat} (hi : i < xs.length) (h : (gd xs i).Page = p) : outX (xs.take (i + 1)) p = outX (xs.take i) p := by
  unfold outX
  rw [List.take_succ_eq_append_getElem hi, List.filter_append]
  rw [gd_eq hi] at h
  simp [h]
theorem outX_take (xs : List TLeaf) (p : Int) (i : Nat) : (outX (xs.take i) p).length ≤ i := Nat.le_trans (outX_le _ _) (by rw [List.length_take]; exact Nat.min_le_left _ _)
def mark (i : Nat) : TLeaf := ⟨-100 - (i : Int), -200 - (i : Int), 90 + (i : Int)⟩
def fillX (ys zs : List TLeaf) (i : Nat) : List TLeaf := ys.take i ++ zs.drop i
theorem fillX_len {ys zs : List TLeaf} {i : Nat} (h1 : i ≤ ys.length) (h2 : i ≤ zs.length) : (fillX ys zs i).length = zs.length := by
  unfold fillX; rw [List.length_append, List.length_take, List.length_drop]; omega
theorem fill_set {ys zs : List TLeaf} {i : Nat} (h1 : i < ys.length) (h2 : i < zs.length) : fillX ys zs (i + 1) = (fillX ys zs i).set i (gd ys i) := by
  unfold fillX
  rw [List.take_succ_eq_append_getElem h1, gd_eq h1, List.set_append_right _ _ (by rw [List.length_take]; omega)]
  rw [List.length_take, Nat.min_eq_left (by omega), Nat.sub_self, List.drop_eq_getElem_cons h2, List.set_cons_zero, List.append_assoc]; rfl
theorem fill_0 (ys zs : List TLeaf) : fillX ys zs 0 = zs := by simp [fillX]
theorem fill_all {ys zs : List TLeaf} (h : zs.length = ys.length) : fillX ys zs ys.length = ys := by
  unfold fillX; rw [List.take_length, ← h, List.drop_length, List.append_nil]
def marks (n : Nat) : List TLeaf := (List.range n).map mark
theorem marks_len (n : Nat) : (marks n).length = n := by simp [marks]
theorem marks_at {n i : Nat} (h : i < n) : gd (marks n) i = mark i := by
  rw [gd_eq (by rw [marks_len]; exact h)]; simp [marks]
abbrev qtn6_0 (b13 : Nat) (o14 : Nat) (lb : Sl TLeaf) : Nat × Value := (1, .slice (some ⟨b13, o14, none⟩) lb.xs.length lb.cap)
abbrev qtn6_1 (b5 : Nat) (o6 : Nat) (la : Sl TLeaf) : Nat × Value := (0, .slice (some ⟨b5, o6, none⟩) la.xs.length la.cap)
abbrev qtn6_2 (la : Sl TLeaf) : Nat × Value := (0, .slice la.a la.xs.length la.cap)
abbrev qtn6_3 (lb : Sl TLeaf) : Nat × Value := (1, .slice lb.a lb.xs.length lb.cap)
set_option maxHeartbeats 1000000 in
theorem same_calls (w : World) (la lb : Sl TLeaf) (ha : SlAt TLeaf.cells 3 Any w la) (hb : SlAt TLeaf.cells 3 Any w lb) : Calls Try.prog 13 #[.slice la.a la.xs.length la.cap, .slice lb.a lb.xs.length lb.cap] w fun e w' => e = .returned (.bool (decide (la.xs = lb.xs))) ∧ Keeps (fun _ => False) w w' := by
 obtain ⟨z, hz⟩ : ∃ z, z = w.heap.size := ⟨_, rfl⟩
 refine calls_G (args := [.slice la.a la.xs.length la.cap, .slice lb.a lb.xs.length lb.cap]) 26 ⟨w, z, [(old0 w)]⟩ Try.func13 rfl (by kernel_rfl) (by kernel_rfl) (sat_0 hz) ?_
 have hal := ha.len; have hbl := hb.len
 refine g_keep [0, 1] [(qtn6_2 la), (qtn6_3 lb)] ?_
 refine g_seq <| g_region <| l_all 1 [o0] [0, 1] [] [(qtn6_2 la), (qtn6_3 lb)] ⟨w, z, [(old0 w)]⟩ trivial ?_
 refine e_seq <| g_seq <| g_seq ?_
 by_cases h1 : (((la.xs.length : Nat) : Int) : Int) = ((lb.xs.length : Nat) : Int)
 · refine g_region <| l_all 5 [o0, o0, o0, o0, oF] [0, 1, 10] [NF ((la.xs.length : Nat) : Int) ((lb.xs.length : Nat) : Int)] [(qtn6_2 la), (qtn6_3 lb), (10, .bool false)] ⟨w, z, [(old0 w)]⟩ ⟨nf (by omega), trivial⟩ ?_
   refine e_seq <| g_false <| g_skip <| e_seq <| g_seq <| g_seq <| g_region <| l_all 1 [o0] [0, 1, 5] [] [(qtn6_2 la), (qtn6_3 lb), (5, .int .i64 0)] ⟨w, z, [(old0 w)]⟩ trivial ?_
   refine e_seq <| g_block <| g_loop (fun m a w' => ∃ (n3 : Nat) (i : Nat), m = la.xs.length - i ∧ z ≤ n3 ∧ (i ≤ la.xs.length) ∧ (∀ q, q < i → gd la.xs q = gd lb.xs q) ∧ St 26 [(qtn6_2 la), (qtn6_3 lb), (5, .int .i64 (i : Int))] [] ⟨w, n3, [(old0 w)]⟩ a w') (la.xs.length - 0) ?_ ?_
   · intro a w' hs; exact ⟨z, 0, rfl, Nat.le_refl _, Nat.zero_le _, fun q hq => absurd hq (Nat.not_lt_zero q), hs⟩
   · rintro m a w' ⟨n3, i, rfl, hn2, hki, hsm, hs⟩
     refine (?_ : G Try.prog 26 [(qtn6_2 la), (qtn6_3 lb), (5, .int .i64 (i : Int))] [] ⟨w, n3, [(old0 w)]⟩ _ _ _) a w' hs
     clear hs a w'
     refine g_seq <| g_seq ?_
     by_cases h4 : ((i : Int) : Int) < ((la.xs.length : Nat) : Int)
     · refine g_region <| l_all 4 [o0, o0, o0, oT] [0, 1, 5, 14] [BT (((i : Int) : Int) < ((la.xs.length : Nat) : Int))] [(qtn6_2 la), (qtn6_3 lb), (5, .int .i64 (i : Int)), (14, .bool true)] ⟨w, n3, [(old0 w)]⟩ ⟨bt (by omega), trivial⟩ ?_
       refine e_seq <| g_true <| g_skip <| e_seq <| g_seq <| g_block <| g_seq ?_
       obtain ⟨b5, o6, ha7, hF9, hc8⟩ := ((⟨ha, fun _ _ => trivial⟩ : SlOk TLeaf.cells 3 (fun _ _ _ => True) _ _ _)).1.all (show 0 < la.xs.length by omega)
       replace ha7 : la.a = some ⟨b5, o6, none⟩ := ha7
       refine g_eq [(qtn6_1 b5 o6 la), (qtn6_3 lb), (5, .int .i64 (i : Int)), (14, .bool true)] (by (try dsimp only [qtn6_0, qtn6_1, qtn6_2, qtn6_3]); simp only [ha7]) ?_
       have hc10 := hc8 i (show i < la.xs.length by omega)
       have he11 := ((⟨ha, fun _ _ => trivial⟩ : SlOk TLeaf.cells 3 (fun _ _ _ => True) _ _ _)).2 i (show i < la.xs.length by omega)
       obtain ⟨y12, hy12⟩ : ∃ y_, y_ = gd la.xs i := ⟨_, rfl⟩
       rw [← hy12] at he11 hc10
       obtain ⟨b13, o14, ha15, hF17, hc16⟩ := ((⟨hb, fun _ _ => trivial⟩ : SlOk TLeaf.cells 3 (fun _ _ _ => True) _ _ _)).1.all (show 0 < lb.xs.length by omega)
       replace ha15 : lb.a = some ⟨b13, o14, none⟩ := ha15
       refine g_eq [(qtn6_1 b5 o6 la), (qtn6_0 b13 o14 lb), (5, .int .i64 (i : Int)), (14, .bool true)] (by (try dsimp only [qtn6_0, qtn6_1, qtn6_2, qtn6_3]); simp only [ha15]) ?_
       have hc18 := hc16 i (show i < lb.xs.length by omega)
       have he19 := ((⟨hb, fun _ _ => trivial⟩ : SlOk TLeaf.cells 3 (fun _ _ _ => True) _ _ _)).2 i (show i < lb.xs.length by omega)
       obtain ⟨y20, hy20⟩ : ∃ y_, y_ = gd lb.xs i := ⟨_, rfl⟩
       rw [← hy20] at he19 hc18
       by_cases h21 : ((y12.Page : Int) == (y20.Page : Int) && ((y12.Frame : Int) == (y20.Frame : Int) && ((y12.Rights : Int) == (y20.Rights : Int) && true))) = true
       · refine g_draw 9 [0] [(old0 w)] rfl rfl ?_
         refine w_take [(0, o0), (1, o0), (2, (oi i)), (3, (ol 0 (TLeaf.arr y12))), (4, o0), (5, o0), (6, (oi i)), (7, (ol 0 (TLeaf.arr y20))), (8, ⟨.seq true, none⟩)] [0, 1, 5, 25] [((i : Int) : Int) = ((i : Nat) : Int), i < la.xs.length, (none : Option Nat) = none, OldR w b5 (o6 + i * 3) (TLeaf.arr y12), ((i : Int) : Int) = ((i : Nat) : Int), i < lb.xs.length, (none : Option Nat) = none, OldR w b13 (o14 + i * 3) (TLeaf.arr y20), ((y12.Page : Int) == (y20.Page : Int) && ((y12.Frame : Int) == (y20.Frame : Int) && ((y12.Rights : Int) == (y20.Rights : Int) && true))) = true] [true, true, true, true, true, true, true, true, true] [(qtn6_1 b5 o6 la), (qtn6_0 b13 o14 lb), (5, .int .i64 (i : Int)), (25, .bool false)] rfl (by as_aux_lemma => kernel_rfl) (by as_aux_lemma => kernel_rfl) ⟨rfl, (by omega), rfl, old_row hc10, rfl, (by omega), rfl, old_row hc18, h21, trivial⟩ ?_
         refine w_done (by as_aux_lemma => kernel_rfl) ?_
         refine e_keep [0, 1, 5, 25] [(qtn6_1 b5 o6 la), (qtn6_0 b13 o14 lb), (5, .int .i64 (i : Int)), (25, .bool false)] ?_
         refine e_seq <| g_false <| g_skip <| e_blk <| e_seq <| g_region <| l_all 3 [o0, (ov (.int .i64 ((i + 1 : Nat) : Int))), o0] [0, 1, 5] [Value.int .i64 (IntKind.i64.wrap (((i : Int) : Int) + 1)) = Value.int .i64 (((i + 1 : Nat) : Int))] [(qtn6_1 b5 o6 la), (qtn6_0 b13 o14 lb), (5, .int .i64 ((i + 1 : Nat) : Int))] ⟨w, n3, [(old0 w)]⟩ ⟨congrArg (Value.int .i64) (wr_i64 (by omega) (by omega) (by omega)), trivial⟩ ?_
         refine e_eqk [0, 1, 5] [(qtn6_2 la), (qtn6_3 lb), (5, .int .i64 ((i + 1 : Nat) : Int))] (by (try dsimp only [qtn6_0, qtn6_1, qtn6_2, qtn6_3]); simp only [ha7, ha15]; rfl) ?_
         refine e_inv (fun a w' hs => ⟨la.xs.length - (i + 1), by omega, n3, (i + 1), rfl, by omega, by omega, all_push hsm (by rw [← hy12, ← hy20]; exact leaf_eq h21), hs⟩)
       · refine g_draw 9 [0] [(old0 w)] rfl rfl ?_
         refine w_take [(0, o0), (1, o0), (2, (oi i)), (3, (ol 0 (TLeaf.arr y12))), (4, o0), (5, o0), (6, (oi i)), (7, (ol 0 (TLeaf.arr y20))), (8, ⟨.seq false, none⟩)] [0, 1, 5, 25] [((i : Int) : Int) = ((i : Nat) : Int), i < la.xs.length, (none : Option Nat) = none, OldR w b5 (o6 + i * 3) (TLeaf.arr y12), ((i : Int) : Int) = ((i : Nat) : Int), i < lb.xs.length, (none : Option Nat) = none, OldR w b13 (o14 + i * 3) (TLeaf.arr y20), ((y12.Page : Int) == (y20.Page : Int) && ((y12.Frame : Int) == (y20.Frame : Int) && ((y12.Rights : Int) == (y20.Rights : Int) && true))) = false] [true, true, true, true, true, true, true, true, true] [(qtn6_1 b5 o6 la), (qtn6_0 b13 o14 lb), (5, .int .i64 (i : Int)), (25, .bool true)] rfl (by as_aux_lemma => kernel_rfl) (by as_aux_lemma => kernel_rfl) ⟨rfl, (by omega), rfl, old_row hc10, rfl, (by omega), rfl, old_row hc18, (Bool.eq_false_iff.2 h21), trivial⟩ ?_
         refine w_done (by as_aux_lemma => kernel_rfl) ?_
         refine e_keep [0, 1, 5, 25] [(qtn6_1 b5 o6 la), (qtn6_0 b13 o14 lb), (5, .int .i64 (i : Int)), (25, .bool true)] ?_
         refine e_seq <| g_true <| g_seq <| g_region <| l_all 1 [o0] [4] [] [(4, .bool false)] ⟨w, n3, [(old0 w)]⟩ trivial ?_
         refine e_seq <| g_ret <| e_ret [] [] (.bool false) trivial ?_
         intro w22 hw22
         refine ⟨?_, hw22.back rfl (show w.heap.size ≤ n3 by omega) (List.mem_cons_self ..)⟩
         exact congrArg (fun b => Ending.returned (Value.bool b)) (decide_eq_false (fun he => h21 (by rw [hy12, hy20, he]; simp))).symm
     · refine g_region <| l_all 4 [o0, o0, o0, oF] [0, 1, 5, 14] [BF (((i : Int) : Int) < ((la.xs.length : Nat) : Int))] [(qtn6_2 la), (qtn6_3 lb), (5, .int .i64 (i : Int)), (14, .bool false)] ⟨w, n3, [(old0 w)]⟩ ⟨bf (by omega), trivial⟩ ?_
       refine e_seq <| g_false <| g_exit <| e_out <| e_outI <| e_hit <| e_seq <| g_seq <| g_region <| l_all 1 [o0] [4] [] [(4, .bool true)] ⟨w, n3, [(old0 w)]⟩ trivial ?_
       refine e_seq <| g_ret <| e_ret [] [] (.bool true) trivial ?_
       intro w23 hw23
       refine ⟨?_, hw23.back rfl (show w.heap.size ≤ n3 by omega) (List.mem_cons_self ..)⟩
       exact congrArg (fun b => Ending.returned (Value.bool b)) (decide_eq_true (eq_of_gd (by omega) (fun q hq => hsm q (by omega)))).symm
 · refine g_region <| l_all 5 [o0, o0, o0, o0, oT] [0, 1, 10] [NT ((la.xs.length : Nat) : Int) ((lb.xs.length : Nat) : Int)] [(qtn6_2 la), (qtn6_3 lb), (10, .bool true)] ⟨w, z, [(old0 w)]⟩ ⟨nt (by omega), trivial⟩ ?_
   refine e_seq <| g_true <| g_seq <| g_region <| l_all 1 [o0] [4] [] [(4, .bool false)] ⟨w, z, [(old0 w)]⟩ trivial ?_
   refine e_seq <| g_ret <| e_ret [] [] (.bool false) trivial ?_
   intro w24 hw24
   refine ⟨?_, hw24.back rfl (show w.heap.size ≤ z by omega) (List.mem_cons_self ..)⟩
   exact congrArg (fun b => Ending.returned (Value.bool b)) (decide_eq_false (fun he => h1 (by rw [he]))).symm
abbrev q0j5_0 (b4 : Nat) (o5 : Nat) (l : Sl TLeaf) : Nat × Value := (0, .slice (some ⟨b4, o5, none⟩) l.xs.length l.cap)
theorem has_calls (w : World) (l : Sl TLeaf) (page : Int) (hl : SlAt TLeaf.cells 3 Any w l) : Calls Try.prog 36 #[.slice l.a l.xs.length l.cap, .int .i64 page] w fun e w' => e = .returned (.int .i64 (hasI l.xs page)) ∧ Keeps (fun _ => False) w w' := by
 obtain ⟨z, hz⟩ : ∃ z, z = w.heap.size := ⟨_, rfl⟩
 refine calls_G (args := [.slice l.a l.xs.length l.cap, .int .i64 page]) 20 ⟨w, z, [(old0 w)]⟩ Try.func36 rfl (by kernel_rfl) (by kernel_rfl) (sat_0 hz) ?_
 have hll := hl.len
 refine g_keep [0, 1] [(0, .slice l.a l.xs.length l.cap), (1, .int .i64 page)] ?_
 refine g_seq <| g_region <| l_all 1 [o0] [0, 1] [] [(0, .slice l.a l.xs.length l.cap), (1, .int .i64 page)] ⟨w, z, [(old0 w)]⟩ trivial ?_
 refine e_seq <| g_seq <| g_seq <| g_region <| l_all 1 [o0] [0, 1, 5] [] [(0, .slice l.a l.xs.length l.cap), (1, .int .i64 page), (5, .int .i64 0)] ⟨w, z, [(old0 w)]⟩ trivial ?_
 refine e_seq <| g_block <| g_loop (fun m a w' => ∃ (n2 : Nat) (i : Nat), m = l.xs.length - i ∧ z ≤ n2 ∧ (i ≤ l.xs.length) ∧ (∀ q, q < i → (gd l.xs q).Page ≠ page) ∧ St 20 [(0, .slice l.a l.xs.length l.cap), (1, .int .i64 page), (5, .int .i64 (i : Int))] [] ⟨w, n2, [(old0 w)]⟩ a w') (l.xs.length - 0) ?_ ?_
 · intro a w' hs; exact ⟨z, 0, rfl, Nat.le_refl _, Nat.zero_le _, fun q hq => absurd hq (Nat.not_lt_zero q), hs⟩
 · rintro m a w' ⟨n2, i, rfl, hn1, hki, hno, hs⟩
   refine (?_ : G Try.prog 20 [(0, .slice l.a l.xs.length l.cap), (1, .int .i64 page), (5, .int .i64 (i : Int))] [] ⟨w, n2, [(old0 w)]⟩ _ _ _) a w' hs
   clear hs a w'
   refine g_seq <| g_seq ?_
   by_cases h3 : ((i : Int) : Int) < ((l.xs.length : Nat) : Int)
   · refine g_region <| l_all 4 [o0, o0, o0, oT] [0, 1, 5, 9] [BT (((i : Int) : Int) < ((l.xs.length : Nat) : Int))] [(0, .slice l.a l.xs.length l.cap), (1, .int .i64 page), (5, .int .i64 (i : Int)), (9, .bool true)] ⟨w, n2, [(old0 w)]⟩ ⟨bt (by omega), trivial⟩ ?_
     refine e_seq <| g_true <| g_skip <| e_seq <| g_seq <| g_block <| g_seq ?_
     obtain ⟨b4, o5, ha6, hF8, hc7⟩ := ((⟨hl, fun _ _ => trivial⟩ : SlOk TLeaf.cells 3 (fun _ _ _ => True) _ _ _)).1.all (show 0 < l.xs.length by omega)
     replace ha6 : l.a = some ⟨b4, o5, none⟩ := ha6
     refine g_eq [(q0j5_0 b4 o5 l), (1, .int .i64 page), (5, .int .i64 (i : Int)), (9, .bool true)] (by (try dsimp only [q0j5_0]); simp only [ha6]) ?_
     have hc9 := hc7 i (show i < l.xs.length by omega)
     have he10 := ((⟨hl, fun _ _ => trivial⟩ : SlOk TLeaf.cells 3 (fun _ _ _ => True) _ _ _)).2 i (show i < l.xs.length by omega)
     obtain ⟨y11, hy11⟩ : ∃ y_, y_ = gd l.xs i := ⟨_, rfl⟩
     rw [← hy11] at he10 hc9
     by_cases h12 : (y11.Page : Int) = page
     · refine g_region <| l_all 7 [o0, o0, (oi i), o0, (oa [.via 0 (.int .i64 y11.Page)]), o0, oT] [0, 1, 5, 18] [((i : Int) : Int) = ((i : Nat) : Int), i < l.xs.length, (none : Option Nat) = none, Old w b4 (o5 + i * 3) (.int .i64 y11.Page), ET y11.Page page] [(q0j5_0 b4 o5 l), (1, .int .i64 page), (5, .int .i64 (i : Int)), (18, .bool true)] ⟨w, n2, [(old0 w)]⟩ ⟨rfl, (by omega), rfl, old_cell' (hc9 0 _ rfl), et (by omega), trivial⟩ ?_
       refine e_seq <| g_true <| g_seq <| g_region <| l_all 2 [o0, o0] [4] [] [(4, .int .i64 (i : Int))] ⟨w, n2, [(old0 w)]⟩ trivial ?_
       refine e_seq <| g_ret <| e_ret [] [] (.int .i64 (i : Int)) trivial ?_
       intro w13 hw13
       refine ⟨?_, hw13.back rfl (show w.heap.size ≤ n2 by omega) (List.mem_cons_self ..)⟩
       exact congrArg (fun b => Ending.returned (Value.int .i64 b)) (hasI_at (by omega) hno (by rw [← hy11]; omega)).symm
     · refine g_region <| l_all 7 [o0, o0, (oi i), o0, (oa [.via 0 (.int .i64 y11.Page)]), o0, oF] [0, 1, 5, 18] [((i : Int) : Int) = ((i : Nat) : Int), i < l.xs.length, (none : Option Nat) = none, Old w b4 (o5 + i * 3) (.int .i64 y11.Page), EF y11.Page page] [(q0j5_0 b4 o5 l), (1, .int .i64 page), (5, .int .i64 (i : Int)), (18, .bool false)] ⟨w, n2, [(old0 w)]⟩ ⟨rfl, (by omega), rfl, old_cell' (hc9 0 _ rfl), ef (by omega), trivial⟩ ?_
       refine e_seq <| g_false <| g_skip <| e_blk <| e_seq <| g_region <| l_all 3 [o0, (ov (.int .i64 ((i + 1 : Nat) : Int))), o0] [0, 1, 5] [Value.int .i64 (IntKind.i64.wrap (((i : Int) : Int) + 1)) = Value.int .i64 (((i + 1 : Nat) : Int))] [(q0j5_0 b4 o5 l), (1, .int .i64 page), (5, .int .i64 ((i + 1 : Nat) : Int))] ⟨w, n2, [(old0 w)]⟩ ⟨congrArg (Value.int .i64) (wr_i64 (by omega) (by omega) (by omega)), trivial⟩ ?_
       refine e_eqk [0, 1, 5] [(0, .slice l.a l.xs.length l.cap), (1, .int .i64 page), (5, .int .i64 ((i + 1 : Nat) : Int))] (by (try dsimp only [q0j5_0]); simp only [ha6]; rfl) ?_
       refine e_inv (fun a w' hs => ⟨l.xs.length - (i + 1), by omega, n2, (i + 1), rfl, by omega, by omega, all_push hno (by rw [← hy11]; omega), hs⟩)
   · refine g_region <| l_all 4 [o0, o0, o0, oF] [0, 1, 5, 9] [BF (((i : Int) : Int) < ((l.xs.length : Nat) : Int))] [(0, .slice l.a l.xs.length l.cap), (1, .int .i64 page), (5, .int .i64 (i : Int)), (9, .bool false)] ⟨w, n2, [(old0 w)]⟩ ⟨bf (by omega), trivial⟩ ?_
     refine e_seq <| g_false <| g_exit <| e_out <| e_outI <| e_hit <| e_seq <| g_seq <| g_region <| l_all 1 [o0] [4] [] [(4, .int .i64 (-1))] ⟨w, n2, [(old0 w)]⟩ trivial ?_
     refine e_seq <| g_ret <| e_ret [] [] (.int .i64 (-1)) trivial ?_
     intro w14 hw14
     refine ⟨?_, hw14.back rfl (show w.heap.size ≤ n2 by omega) (List.mem_cons_self ..)⟩
     exact congrArg (fun b => Ending.returned (Value.int .i64 b)) (hasI_no (fun q hq => hno q (by omega))).symm
abbrev q9a3_0 (n2 : Nat) (y11 : TLeaf) : Ch := .blk n2 (.cells #[.int .i64 y11.Page, .int .i64 y11.Frame, .int .i64 y11.Rights] 26 (0, 0)) true
abbrev q9a3_1 (z : Nat) (a13 : Option Addr) (l : Sl TLeaf) (i : Nat) (page : Int) (y11 : TLeaf) (cp14 : Nat) : Ch := rowL z 26 3 TLeaf.cells (.slice a13 ((outX (l.xs.take i) page ++ [(⟨y11.Page, y11.Frame, y11.Rights⟩ : TLeaf)]).length) cp14) (outX (l.xs.take i) page ++ [(⟨y11.Page, y11.Frame, y11.Rights⟩ : TLeaf)])
abbrev q9a3_2 (z : Nat) (aO : Option Addr) (l : Sl TLeaf) (i : Nat) (page : Int) (cO : Nat) : Ch := rowL z 26 3 TLeaf.cells (.slice aO ((outX (l.xs.take i) page).length) cO) (outX (l.xs.take i) page)
abbrev q9a3_3 (aO : Option Addr) (l : Sl TLeaf) (i : Nat) (page : Int) (cO : Nat) : Nat × Value := (5, .slice aO ((outX (l.xs.take i) page).length) cO)
abbrev q9a3_4 (b4 : Nat) (o5 : Nat) (l : Sl TLeaf) : Nat × Value := (0, .slice (some ⟨b4, o5, none⟩) l.xs.length l.cap)
theorem without_calls (w : World) (l : Sl TLeaf) (page : Int) (hl : SlAt TLeaf.cells 3 Any w l) (h4 : l.xs.length ≤ 4) : Calls Try.prog 37 #[.slice l.a l.xs.length l.cap, .int .i64 page] w fun e w' => ∃ a cap, e = .returned (.slice a (outX l.xs page).length cap) ∧ w'.ownsRow w.heap.size 26 3 (.slice a (outX l.xs page).length cap) (outX l.xs page).length ((outX l.xs page).flatMap TLeaf.cells) ∧ Keeps (fun _ => False) w w' := by
 obtain ⟨z, hz⟩ : ∃ z, z = w.heap.size := ⟨_, rfl⟩
 refine calls_G (args := [.slice l.a l.xs.length l.cap, .int .i64 page]) 28 ⟨w, z, [(old0 w)]⟩ Try.func37 rfl (by kernel_rfl) (by kernel_rfl) (sat_0 hz) ?_
 refine g_keep [0, 1] [(0, .slice l.a l.xs.length l.cap), (1, .int .i64 page)] ?_
 refine g_seq <| g_region <| l_all 1 [o0] [0, 1] [] [(0, .slice l.a l.xs.length l.cap), (1, .int .i64 page)] ⟨w, z, [(old0 w)]⟩ trivial ?_
 refine e_seq <| g_seq <| g_region <| l_all 1 [o0] [0, 1, 5] [] [(0, .slice l.a l.xs.length l.cap), (1, .int .i64 page), (5, .slice none 0 0)] ⟨w, z, [(old0 w)]⟩ trivial ?_
 refine e_seq <| g_seq <| g_seq <| g_region <| l_all 1 [o0] [0, 1, 5, 6] [] [(0, .slice l.a l.xs.length l.cap), (1, .int .i64 page), (5, .slice none 0 0), (6, .int .i64 0)] ⟨w, z, [(old0 w)]⟩ trivial ?_
 refine e_seq <| g_block <| g_rowL z 26 3 TLeaf.cells ?_
 refine g_loop (fun m a w' => ∃ (n2 : Nat) (i : Nat) (aO : Option Addr) (cO : Nat), m = l.xs.length - i ∧ z ≤ n2 ∧ (i ≤ l.xs.length) ∧ St 28 [(0, .slice l.a l.xs.length l.cap), (1, .int .i64 page), (q9a3_3 aO l i page cO), (6, .int .i64 (i : Int))] [] ⟨w, n2, [(old0 w), (q9a3_2 z aO l i page cO)]⟩ a w') (l.xs.length - 0) ?_ ?_
 · intro a w' hs; exact ⟨z, 0, none, 0, rfl, Nat.le_refl _, Nat.zero_le _, by (try dsimp only [q9a3_0, q9a3_1, q9a3_2, q9a3_3, q9a3_4] at hs ⊢); rw [show outX (l.xs.take 0) page = [] from rfl]; exact hs⟩
 · rintro m a w' ⟨n2, i, aO, cO, rfl, hn1, hki, hs⟩
   refine (?_ : G Try.prog 28 [(0, .slice l.a l.xs.length l.cap), (1, .int .i64 page), (q9a3_3 aO l i page cO), (6, .int .i64 (i : Int))] [] ⟨w, n2, [(old0 w), (q9a3_2 z aO l i page cO)]⟩ _ _ _) a w' hs
   clear hs a w'
   have hot := outX_take l.xs page i
   refine g_seq <| g_seq ?_
   by_cases h3 : ((i : Int) : Int) < ((l.xs.length : Nat) : Int)
   · refine g_region <| l_all 4 [o0, o0, o0, oT] [0, 1, 5, 6, 10] [BT (((i : Int) : Int) < ((l.xs.length : Nat) : Int))] [(0, .slice l.a l.xs.length l.cap), (1, .int .i64 page), (q9a3_3 aO l i page cO), (6, .int .i64 (i : Int)), (10, .bool true)] ⟨w, n2, [(old0 w), (q9a3_2 z aO l i page cO)]⟩ ⟨bt (by omega), trivial⟩ ?_
     refine e_seq <| g_true <| g_skip <| e_seq <| g_seq <| g_block <| g_seq ?_
     obtain ⟨b4, o5, ha6, hF8, hc7⟩ := ((⟨hl, fun _ _ => trivial⟩ : SlOk TLeaf.cells 3 (fun _ _ _ => True) _ _ _)).1.all (show 0 < l.xs.length by omega)
     replace ha6 : l.a = some ⟨b4, o5, none⟩ := ha6
     refine g_eq [(q9a3_4 b4 o5 l), (1, .int .i64 page), (q9a3_3 aO l i page cO), (6, .int .i64 (i : Int)), (10, .bool true)] (by (try dsimp only [q9a3_0, q9a3_1, q9a3_2, q9a3_3, q9a3_4]); simp only [ha6]) ?_
     have hc9 := hc7 i (show i < l.xs.length by omega)
     have he10 := ((⟨hl, fun _ _ => trivial⟩ : SlOk TLeaf.cells 3 (fun _ _ _ => True) _ _ _)).2 i (show i < l.xs.length by omega)
     obtain ⟨y11, hy11⟩ : ∃ y_, y_ = gd l.xs i := ⟨_, rfl⟩
     rw [← hy11] at he10 hc9
     by_cases h12 : (y11.Page : Int) = page
     · refine g_region <| l_all 7 [o0, o0, (oi i), o0, (oa [.via 0 (.int .i64 y11.Page)]), o0, oF] [0, 1, 5, 6, 19] [((i : Int) : Int) = ((i : Nat) : Int), i < l.xs.length, (none : Option Nat) = none, Old w b4 (o5 + i * 3) (.int .i64 y11.Page), NF y11.Page page] [(q9a3_4 b4 o5 l), (1, .int .i64 page), (q9a3_3 aO l i page cO), (6, .int .i64 (i : Int)), (19, .bool false)] ⟨w, n2, [(old0 w), (q9a3_2 z aO l i page cO)]⟩ ⟨rfl, (by omega), rfl, old_cell' (hc9 0 _ rfl), nf (by omega), trivial⟩ ?_
       refine e_seq <| g_false <| g_skip <| e_blk <| e_seq <| g_region <| l_all 3 [o0, (ov (.int .i64 ((i + 1 : Nat) : Int))), o0] [0, 1, 5, 6] [Value.int .i64 (IntKind.i64.wrap (((i : Int) : Int) + 1)) = Value.int .i64 (((i + 1 : Nat) : Int))] [(q9a3_4 b4 o5 l), (1, .int .i64 page), (q9a3_3 aO l i page cO), (6, .int .i64 ((i + 1 : Nat) : Int))] ⟨w, n2, [(old0 w), (q9a3_2 z aO l i page cO)]⟩ ⟨congrArg (Value.int .i64) (wr_i64 (by omega) (by omega) (by omega)), trivial⟩ ?_
       refine e_eqk [0, 1, 5, 6] [(0, .slice l.a l.xs.length l.cap), (1, .int .i64 page), (q9a3_3 aO l i page cO), (6, .int .i64 ((i + 1 : Nat) : Int))] (by (try dsimp only [q9a3_0, q9a3_1, q9a3_2, q9a3_3, q9a3_4]); simp only [ha6]; rfl) ?_
       refine e_inv (fun a w' hs => ⟨l.xs.length - (i + 1), by omega, n2, (i + 1), aO, cO, rfl, by omega, by omega, by (try dsimp only [q9a3_0, q9a3_1, q9a3_2, q9a3_3, q9a3_4] at hs ⊢); rw [outX_no (by omega) (by rw [← hy11]; omega)]; exact hs⟩)
     · refine g_region <| l_all 7 [o0, o0, (oi i), o0, (oa [.via 0 (.int .i64 y11.Page)]), o0, oT] [0, 1, 5, 6, 19] [((i : Int) : Int) = ((i : Nat) : Int), i < l.xs.length, (none : Option Nat) = none, Old w b4 (o5 + i * 3) (.int .i64 y11.Page), NT y11.Page page] [(q9a3_4 b4 o5 l), (1, .int .i64 page), (q9a3_3 aO l i page cO), (6, .int .i64 (i : Int)), (19, .bool true)] ⟨w, n2, [(old0 w), (q9a3_2 z aO l i page cO)]⟩ ⟨rfl, (by omega), rfl, old_cell' (hc9 0 _ rfl), nt (by omega), trivial⟩ ?_
       refine e_seq <| g_true <| g_region <| l_run 6 [o0, o0, o0, (oi i), (ol 0 (TLeaf.arr y11)), o0] [0, 1, 6, 20, 25] [((i : Int) : Int) = ((i : Nat) : Int), i < l.xs.length, (none : Option Nat) = none, OldR w b4 (o5 + i * 3) (TLeaf.arr y11)] [(q9a3_4 b4 o5 l), (1, .int .i64 page), (6, .int .i64 (i : Int)), (20, .slice aO ((outX (l.xs.take i) page).length) cO), (25, .slice (some ⟨n2, 0, none⟩) 1 1)] ⟨w, n2 + 1, [(old0 w), (q9a3_2 z aO l i page cO), (q9a3_0 n2 y11)]⟩ ⟨rfl, (by omega), rfl, old_row hc9, trivial⟩ ?_
       refine l_push z 1 2 (outX (l.xs.take i) page) [(⟨y11.Page, y11.Frame, y11.Rights⟩ : TLeaf)] TLeaf.cells 26 3 24 (.slice aO ((outX (l.xs.take i) page).length) cO) n2 1 1 #[.int .i64 y11.Page, .int .i64 y11.Frame, .int .i64 y11.Rights] 26 (0, 0) true (some 26) (by simp only [List.length_cons, List.length_nil]; omega) (show z ≤ n2 + 1 by omega) (fun a13 cp14 n15 (hn16 : n2 + 1 ≤ n15) => ?_)
       refine l_keep [0, 1, 6, 26] [(q9a3_4 b4 o5 l), (1, .int .i64 page), (6, .int .i64 (i : Int)), (26, .slice a13 ((outX (l.xs.take i) page ++ [(⟨y11.Page, y11.Frame, y11.Rights⟩ : TLeaf)]).length) cp14)] ?_
       refine l_all 1 [o0] [0, 1, 6, 5] [] [(q9a3_4 b4 o5 l), (1, .int .i64 page), (6, .int .i64 (i : Int)), (5, .slice a13 ((outX (l.xs.take i) page ++ [(⟨y11.Page, y11.Frame, y11.Rights⟩ : TLeaf)]).length) cp14)] ⟨w, n15, [(old0 w), (q9a3_1 z a13 l i page y11 cp14), (q9a3_0 n2 y11)]⟩ trivial ?_
       refine e_blk <| e_seq <| g_region <| l_all 3 [o0, (ov (.int .i64 ((i + 1 : Nat) : Int))), o0] [0, 1, 6, 5] [Value.int .i64 (IntKind.i64.wrap (((i : Int) : Int) + 1)) = Value.int .i64 (((i + 1 : Nat) : Int))] [(q9a3_4 b4 o5 l), (1, .int .i64 page), (6, .int .i64 ((i + 1 : Nat) : Int)), (5, .slice a13 ((outX (l.xs.take i) page ++ [(⟨y11.Page, y11.Frame, y11.Rights⟩ : TLeaf)]).length) cp14)] ⟨w, n15, [(old0 w), (q9a3_1 z a13 l i page y11 cp14), (q9a3_0 n2 y11)]⟩ ⟨congrArg (Value.int .i64) (wr_i64 (by omega) (by omega) (by omega)), trivial⟩ ?_
       refine e_pick [0, 1] [(old0 w), (q9a3_1 z a13 l i page y11 cp14)] rfl rfl ?_
       refine e_eqk [0, 1, 5, 6] [(0, .slice l.a l.xs.length l.cap), (1, .int .i64 page), (5, .slice a13 ((outX (l.xs.take i) page ++ [(⟨y11.Page, y11.Frame, y11.Rights⟩ : TLeaf)]).length) cp14), (6, .int .i64 ((i + 1 : Nat) : Int))] (by (try dsimp only [q9a3_0, q9a3_1, q9a3_2, q9a3_3, q9a3_4]); simp only [ha6]; rfl) ?_
       refine e_inv (fun a w' hs => ⟨l.xs.length - (i + 1), by omega, n15, (i + 1), a13, cp14, rfl, by omega, by omega, by (try dsimp only [q9a3_0, q9a3_1, q9a3_2, q9a3_3, q9a3_4] at hs ⊢); rw [outX_yes (by omega) (by rw [← hy11]; omega), ← hy11]; exact hs⟩)
   · refine g_region <| l_all 4 [o0, o0, o0, oF] [0, 1, 5, 6, 10] [BF (((i : Int) : Int) < ((l.xs.length : Nat) : Int))] [(0, .slice l.a l.xs.length l.cap), (1, .int .i64 page), (q9a3_3 aO l i page cO), (6, .int .i64 (i : Int)), (10, .bool false)] ⟨w, n2, [(old0 w), (q9a3_2 z aO l i page cO)]⟩ ⟨bf (by omega), trivial⟩ ?_
     refine e_seq <| g_false <| g_exit <| e_out <| e_outI <| e_hit <| e_seq <| g_seq <| g_region <| l_all 2 [o0, o0] [4] [] [(4, .slice aO ((outX (l.xs.take i) page).length) cO)] ⟨w, n2, [(old0 w), (q9a3_2 z aO l i page cO)]⟩ trivial ?_
     refine e_seq <| g_ret <| e_ret [] [] (.slice aO ((outX (l.xs.take i) page).length) cO) trivial ?_
     intro w17 hw17
     have hrow := hw17.at (i := 1) rfl
     have hie : i = l.xs.length := by omega
     subst hie
     (try dsimp only [q9a3_0, q9a3_1, q9a3_2, q9a3_3, q9a3_4] at hrow)
     rw [List.take_length] at hrow
     exact ⟨_, _, by rw [List.take_length], hz ▸ hrow, hw17.back rfl (show w.heap.size ≤ n2 by omega) (List.mem_cons_self ..)⟩
abbrev q0gl_0 (z : Nat) (y : TLeaf) : Ch := .blk z (.cells (TLeaf.arr y) 26 (0, 0)) true
theorem maybe2_calls (w : World) (y : TLeaf) : Calls Try.prog 38 #[.agg (TLeaf.arr y)] w fun e w' => e = .returned (.bool (lfine y)) ∧ Keeps (fun _ => False) w w' := by
 obtain ⟨z, hz⟩ : ∃ z, z = w.heap.size := ⟨_, rfl⟩
 refine calls_G (args := [.agg (TLeaf.arr y)]) 31 ⟨w, z, [(old0 w)]⟩ Try.func38 rfl (by kernel_rfl) (by kernel_rfl) (sat_0 hz) ?_
 refine g_keep [0] [(0, .agg (TLeaf.arr y))] ?_
 refine g_seq <| g_region <| l_all 2 [o0, o0] [1] [] [(1, .pointer (some ⟨z, 0, none⟩))] ⟨w, z + 1, [(old0 w), (q0gl_0 z y)]⟩ trivial ?_
 refine e_seq <| g_seq ?_
 by_cases h1 : (y.Page : Int) < 0
 · refine g_region <| l_all 29 [o0, (oa [.at 1]), oF, o0, o0, o0, o0, o0, o0, o0, o0, o0, o0, o0] [2] [Qb z, BF ((y.Page : Int) ≥ 0)] [(2, .bool false)] ⟨w, z + 1, [(old0 w), (q0gl_0 z y)]⟩ ⟨rfl, bf (by omega), trivial⟩ ?_
   refine e_seq <| g_ret <| e_ret [] [] (.bool false) trivial ?_
   intro w2 hw2
   refine ⟨?_, hw2.back rfl (show w.heap.size ≤ z + 1 by omega) (List.mem_cons_self ..)⟩
   exact congrArg (fun b => Ending.returned (Value.bool b)) (Eq.symm (Bool.eq_false_iff.2 (by unfold lfine Tl.fine; simp only [ne_eq, Bool.and_eq_true, decide_eq_true_eq]; omega)))
 · by_cases h3 : (y.Page : Int) < 256
   · by_cases h4 : (y.Frame : Int) < 0
     · refine g_region <| l_all 29 [o0, (oa [.at 1]), oT, o0, o0, (oa [.at 1]), oT, o0, o0, o0, (oa [.at 1]), oF, o0, o0, o0, o0, o0, o0, o0, o0] [2] [Qb z, BT ((y.Page : Int) ≥ 0), Qb z, BT ((y.Page : Int) < 256), Qb z, BF ((y.Frame : Int) ≥ 0)] [(2, .bool false)] ⟨w, z + 1, [(old0 w), (q0gl_0 z y)]⟩ ⟨rfl, bt (by omega), rfl, bt (by omega), rfl, bf (by omega), trivial⟩ ?_
       refine e_seq <| g_ret <| e_ret [] [] (.bool false) trivial ?_
       intro w5 hw5
       refine ⟨?_, hw5.back rfl (show w.heap.size ≤ z + 1 by omega) (List.mem_cons_self ..)⟩
       exact congrArg (fun b => Ending.returned (Value.bool b)) (Eq.symm (Bool.eq_false_iff.2 (by unfold lfine Tl.fine; simp only [ne_eq, Bool.and_eq_true, decide_eq_true_eq]; omega)))
     · by_cases h6 : (y.Frame : Int) < 1024
       · by_cases h7 : (y.Rights : Int) < 0
         · refine g_region <| l_all 29 [o0, (oa [.at 1]), oT, o0, o0, (oa [.at 1]), oT, o0, o0, o0, (oa [.at 1]), oT, o0, o0, o0, (oa [.at 1]), oT, o0, o0, o0, (oa [.at 1]), oF, o0, o0, o0, o0] [2] [Qb z, BT ((y.Page : Int) ≥ 0), Qb z, BT ((y.Page : Int) < 256), Qb z, BT ((y.Frame : Int) ≥ 0), Qb z, BT ((y.Frame : Int) < 1024), Qb z, BF ((y.Rights : Int) ≥ 0)] [(2, .bool false)] ⟨w, z + 1, [(old0 w), (q0gl_0 z y)]⟩ ⟨rfl, bt (by omega), rfl, bt (by omega), rfl, bt (by omega), rfl, bt (by omega), rfl, bf (by omega), trivial⟩ ?_
           refine e_seq <| g_ret <| e_ret [] [] (.bool false) trivial ?_
           intro w8 hw8
           refine ⟨?_, hw8.back rfl (show w.heap.size ≤ z + 1 by omega) (List.mem_cons_self ..)⟩
           exact congrArg (fun b => Ending.returned (Value.bool b)) (Eq.symm (Bool.eq_false_iff.2 (by unfold lfine Tl.fine; simp only [ne_eq, Bool.and_eq_true, decide_eq_true_eq]; omega)))
         · by_cases h9 : (7 : Int) < y.Rights
           · refine g_region <| l_all 29 [o0, (oa [.at 1]), oT, o0, o0, (oa [.at 1]), oT, o0, o0, o0, (oa [.at 1]), oT, o0, o0, o0, (oa [.at 1]), oT, o0, o0, o0, (oa [.at 1]), oT, o0, o0, o0, (oa [.at 1]), oF, o0, o0] [2] [Qb z, BT ((y.Page : Int) ≥ 0), Qb z, BT ((y.Page : Int) < 256), Qb z, BT ((y.Frame : Int) ≥ 0), Qb z, BT ((y.Frame : Int) < 1024), Qb z, BT ((y.Rights : Int) ≥ 0), Qb z, BF ((y.Rights : Int) ≤ 7)] [(2, .bool false)] ⟨w, z + 1, [(old0 w), (q0gl_0 z y)]⟩ ⟨rfl, bt (by omega), rfl, bt (by omega), rfl, bt (by omega), rfl, bt (by omega), rfl, bt (by omega), rfl, bf (by omega), trivial⟩ ?_
             refine e_seq <| g_ret <| e_ret [] [] (.bool false) trivial ?_
             intro w10 hw10
             refine ⟨?_, hw10.back rfl (show w.heap.size ≤ z + 1 by omega) (List.mem_cons_self ..)⟩
             exact congrArg (fun b => Ending.returned (Value.bool b)) (Eq.symm (Bool.eq_false_iff.2 (by unfold lfine Tl.fine; simp only [ne_eq, Bool.and_eq_true, decide_eq_true_eq]; omega)))
           · refine g_region <| l_all 29 [o0, (oa [.at 1]), oT, o0, o0, (oa [.at 1]), oT, o0, o0, o0, (oa [.at 1]), oT, o0, o0, o0, (oa [.at 1]), oT, o0, o0, o0, (oa [.at 1]), oT, o0, o0, o0, (oa [.at 1]), oT, o0, o0] [2] [Qb z, BT ((y.Page : Int) ≥ 0), Qb z, BT ((y.Page : Int) < 256), Qb z, BT ((y.Frame : Int) ≥ 0), Qb z, BT ((y.Frame : Int) < 1024), Qb z, BT ((y.Rights : Int) ≥ 0), Qb z, BT ((y.Rights : Int) ≤ 7)] [(2, .bool true)] ⟨w, z + 1, [(old0 w), (q0gl_0 z y)]⟩ ⟨rfl, bt (by omega), rfl, bt (by omega), rfl, bt (by omega), rfl, bt (by omega), rfl, bt (by omega), rfl, bt (by omega), trivial⟩ ?_
             refine e_seq <| g_ret <| e_ret [] [] (.bool true) trivial ?_
             intro w11 hw11
             refine ⟨?_, hw11.back rfl (show w.heap.size ≤ z + 1 by omega) (List.mem_cons_self ..)⟩
             exact congrArg (fun b => Ending.returned (Value.bool b)) (Eq.symm (by unfold lfine Tl.fine; simp only [Bool.and_eq_true, decide_eq_true_eq]; omega))
       · refine g_region <| l_all 29 [o0, (oa [.at 1]), oT, o0, o0, (oa [.at 1]), oT, o0, o0, o0, (oa [.at 1]), oT, o0, o0, o0, (oa [.at 1]), oF, o0, o0, o0, o0, o0, o0] [2] [Qb z, BT ((y.Page : Int) ≥ 0), Qb z, BT ((y.Page : Int) < 256), Qb z, BT ((y.Frame : Int) ≥ 0), Qb z, BF ((y.Frame : Int) < 1024)] [(2, .bool false)] ⟨w, z + 1, [(old0 w), (q0gl_0 z y)]⟩ ⟨rfl, bt (by omega), rfl, bt (by omega), rfl, bt (by omega), rfl, bf (by omega), trivial⟩ ?_
         refine e_seq <| g_ret <| e_ret [] [] (.bool false) trivial ?_
         intro w12 hw12
         refine ⟨?_, hw12.back rfl (show w.heap.size ≤ z + 1 by omega) (List.mem_cons_self ..)⟩
         exact congrArg (fun b => Ending.returned (Value.bool b)) (Eq.symm (Bool.eq_false_iff.2 (by unfold lfine Tl.fine; simp only [ne_eq, Bool.and_eq_true, decide_eq_true_eq]; omega)))
   · refine g_region <| l_all 29 [o0, (oa [.at 1]), oT, o0, o0, (oa [.at 1]), oF, o0, o0, o0, o0, o0, o0, o0, o0, o0, o0] [2] [Qb z, BT ((y.Page : Int) ≥ 0), Qb z, BF ((y.Page : Int) < 256)] [(2, .bool false)] ⟨w, z + 1, [(old0 w), (q0gl_0 z y)]⟩ ⟨rfl, bt (by omega), rfl, bf (by omega), trivial⟩ ?_
     refine e_seq <| g_ret <| e_ret [] [] (.bool false) trivial ?_
     intro w13 hw13
     refine ⟨?_, hw13.back rfl (show w.heap.size ≤ z + 1 by omega) (List.mem_cons_self ..)⟩
     exact congrArg (fun b => Ending.returned (Value.bool b)) (Eq.symm (Bool.eq_false_iff.2 (by unfold lfine Tl.fine; simp only [ne_eq, Bool.and_eq_true, decide_eq_true_eq]; omega)))
theorem mark_calls (w : World) (i : Nat) (hi : i ≤ 281474976710656) : Calls Try.prog 39 #[.int .i64 (i : Int)] w fun e w' => e = .returned (.agg (TLeaf.arr (mark i))) ∧ Keeps (fun _ => False) w w' := by
 obtain ⟨z, hz⟩ : ∃ z, z = w.heap.size := ⟨_, rfl⟩
 refine calls_G (args := [.int .i64 (i : Int)]) 10 ⟨w, z, [(old0 w)]⟩ Try.func39 rfl (by kernel_rfl) (by kernel_rfl) (sat_0 hz) ?_
 refine g_keep [0] [(0, .int .i64 (i : Int))] ?_
 refine g_seq <| g_region <| l_all 1 [o0] [0, 2] [] [(0, .int .i64 (i : Int)), (2, .pointer (some ⟨z, 0, none⟩))] ⟨w, z + 1, [(old0 w), (.blk z (.cells #[.int .i64 0, .int .i64 0, .int .i64 0] 26 (0, 0)) true)]⟩ trivial ?_
 refine e_seq <| g_seq <| g_region <| l_all 8 [o0, (ov (.int .i64 ((-100) - (i : Int)))), o0, (ov (.int .i64 ((-200) - (i : Int)))), o0, (ov (.int .i64 ((90 + i : Nat) : Int))), o0, (oa [.at 1, .at 1, .at 1])] [2] [Value.int .i64 (IntKind.i64.wrap ((-100 : Int) - (i : Int))) = Value.int .i64 ((-100) - (i : Int)), Value.int .i64 (IntKind.i64.wrap ((-200 : Int) - (i : Int))) = Value.int .i64 ((-200) - (i : Int)), Value.int .i64 (IntKind.i64.wrap ((90 : Int) + (i : Int))) = Value.int .i64 (((90 + i : Nat) : Int)), Qb z, Qb z, Qb z] [(2, .pointer (some ⟨z, 0, none⟩))] ⟨w, z + 1, [(old0 w), (.blk z (.cells #[.int .i64 ((-100) - (i : Int)), .int .i64 ((-200) - (i : Int)), .int .i64 ((90 + i : Nat) : Int)] 26 (0, 0)) true)]⟩ ⟨congrArg (Value.int .i64) (wr_i64 (by omega) (by omega) (by omega)), congrArg (Value.int .i64) (wr_i64 (by omega) (by omega) (by omega)), congrArg (Value.int .i64) (wr_i64 (by omega) (by omega) (by omega)), rfl, rfl, rfl, trivial⟩ ?_
 refine e_seq <| g_ret <| e_ret [.at 1, .at 1, .at 1] [Qb z, Qb z, Qb z] (.agg #[.int .i64 ((-100) - (i : Int)), .int .i64 ((-200) - (i : Int)), .int .i64 ((90 + i : Nat) : Int)]) ⟨rfl, rfl, rfl, trivial⟩ ?_
 intro w1 hw1
 exact ⟨rfl, hw1.back rfl (show w.heap.size ≤ z + 1 by omega) (List.mem_cons_self ..)⟩

end Go.Proofs.Ytbjcamafaolgiaa.Ly
