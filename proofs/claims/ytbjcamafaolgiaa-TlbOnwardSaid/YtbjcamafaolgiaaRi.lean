/- TlbOnward. No conditions. -/
import Derived.Test.YtbjcamafaolgiaaRh
namespace Go.Proofs.Ytbjcamafaolgiaa.Ly
open Go Go.Proofs.Ytbjcamafaolgiaa.Eng Go.Proofs.Ytbjcamafaolgiaa.Mem
set_option linter.unusedSimpArgs false
set_option linter.unusedVariables false
set_option maxRecDepth 100000
open Go.Proofs.Ytbjcamafaolgiaa.Sh Go.Proofs.Ytbjcamafaolgiaa.Tl
noncomputable section

def band64 (x y : Int) : Int := IntKind.i64.wrap ((BitVec.ofInt IntKind.i64.bits x &&& BitVec.ofInt IntKind.i64.bits y).toNat)
def fineX (xs : List TLeaf) : Prop := ∀ x ∈ xs, lfine x = true
theorem fineX_nil : fineX [] := fun x hx => by cases hx
theorem fV_mem {xs : List TLeaf} {p : Int} (h : fB xs p = true) : fV xs p ∈ xs := by
  unfold fB at h
  unfold fV
  obtain ⟨x, hx⟩ := Option.isSome_iff_exists.1 h
  rw [hx]; exact List.mem_of_find?_eq_some hx
theorem fineX_step {xs : List TLeaf} (h : fineX xs) (o : TOp) : fineX (stepX xs o) := by
  have hout : ∀ p, fineX (outX xs p) := fun p x hx => h x (List.mem_filter.1 hx).1
  unfold stepX
  split
  · unfold findX
    split
    · rename_i hb
      intro x hx
      rcases List.mem_append.1 hx with hx | hx
      · exact hout _ x hx
      · simp only [List.mem_singleton] at hx; subst hx; exact h _ (fV_mem hb)
    · exact h
  · split
    · unfold putX
      split
      · rename_i hf
        have key : fineX (outX xs o.Page ++ [(⟨o.Page, o.Frame, o.Rights⟩ : TLeaf)]) := fun x hx => by
          rcases List.mem_append.1 hx with hx | hx
          · exact hout _ x hx
          · simp only [List.mem_singleton] at hx; subst hx; exact hf
        split
        · exact key
        · exact fun x hx => key x (List.mem_of_mem_tail hx)
      · exact h
    · split
      · exact fineX_nil
      · split
        · unfold resX
          split
          · rename_i hok
            intro x hx
            obtain ⟨i, hi, rfl⟩ := List.getElem_of_mem hx
            have := (hok.2 i hi).1
            rwa [gd_eq hi] at this
          · exact h
        · exact h
theorem okL_of {xs : List TLeaf} (h4 : xs.length ≤ 4) (hn : (xs.map TLeaf.Page).Nodup) (hf : fineX xs) : okL xs := by
  refine ⟨h4, fun i hi => ⟨hf _ (by rw [gd_eq hi]; exact List.getElem_mem hi), fun j hj he => ?_⟩⟩
  rw [gd_eq hi, gd_eq (by omega)] at he
  have := List.pairwise_iff_getElem.1 hn j i (by simpa using (show j < xs.length by omega)) (by simpa using hi) hj
  simp only [List.getElem_map] at this
  exact this he
abbrev q0cl_0 (n40 : Nat) (y49 : TOp) : Ch := .blk (n40 + 1) (.cells #[.int .i64 y49.Page, .int .i64 y49.Frame, .int .i64 y49.Rights] 26 (0, 0)) true
abbrev q0cl_1 (w53 : World) (xc : List TLeaf) (y49 : TOp) : Ch := .blk w53.heap.size (.cells (TLeaf.arr (fV xc y49.Page)) 26 (0, 0)) true
abbrev q0cl_2 (w56 : World) (xc : List TLeaf) (y49 : TOp) : Ch := .blk w56.heap.size (.cells (TLeaf.arr (fV xc y49.Page)) 26 (0, 0)) true
abbrev q0cl_3 (n40 : Nat) (y49 : TOp) : Ch := .blk n40 (.cells (TOp.arr y49) 39 (0, 0)) true
abbrev q0cl_4 (w73 : World) (a75 : Option Addr) (xc : List TLeaf) (y49 : TOp) (cp76 : Nat) : Ch := rowL w73.heap.size 26 3 TLeaf.cells (.slice a75 ((putX xc (⟨y49.Page, y49.Frame, y49.Rights⟩ : TLeaf)).length) cp76) (putX xc (⟨y49.Page, y49.Frame, y49.Rights⟩ : TLeaf))
abbrev q0cl_5 (w77 : World) (a79 : Option Addr) (xc : List TLeaf) (y49 : TOp) (cp80 : Nat) : Ch := rowL w77.heap.size 26 3 TLeaf.cells (.slice a79 ((putX xc (⟨y49.Page, y49.Frame, y49.Rights⟩ : TLeaf)).length) cp80) (putX xc (⟨y49.Page, y49.Frame, y49.Rights⟩ : TLeaf))
abbrev q0cl_6 (w113 : World) (a115 : Option Addr) (xc : List TLeaf) (y49 : TOp) (cp116 : Nat) : Ch := rowL w113.heap.size 26 3 TLeaf.cells (.slice a115 ((resX xc y49.Leaves.xs).length) cp116) (resX xc y49.Leaves.xs)
abbrev q0cl_7 (w56 : World) (a58 : Option Addr) (xc : List TLeaf) (y49 : TOp) (cp59 : Nat) : Ch := rowL (w56.heap.size + 1) 26 3 TLeaf.cells (.slice a58 ((findX xc y49.Page).length) cp59) (findX xc y49.Page)
abbrev q0cl_8 (w88 : World) (a90 : Option Addr) (cp91 : Nat) : Ch := rowL w88.heap.size 26 3 TLeaf.cells (.slice a90 (([] : List TLeaf).length) cp91) ([] : List TLeaf)
abbrev q0cl_9 (w106 : World) (a108 : Option Addr) (y49 : TOp) (cp109 : Nat) : Ch := rowL w106.heap.size 26 3 TLeaf.cells (.slice a108 y49.Leaves.xs.length cp109) y49.Leaves.xs
abbrev q0cl_10 (n40 : Nat) (a101 : Option Addr) (y49 : TOp) (cp102 : Nat) : Ch := rowL (n40 + 1) 26 3 TLeaf.cells (.slice a101 y49.Leaves.xs.length cp102) y49.Leaves.xs
abbrev q0cl_11 (n12 : Nat) (a33 : Option Addr) (xa : List TLeaf) (cp34 : Nat) : Ch := rowL n12 26 3 TLeaf.cells (.slice a33 xa.length cp34) xa
abbrev q0cl_12 (b42 : Nat) (o43 : Nat) (behind : Sl TOp) : Nat × Value := (1, .slice (some ⟨b42, o43, none⟩) behind.xs.length behind.cap)
abbrev q0cl_13 (b14 : Nat) (o15 : Nat) (ahead : Sl TOp) : Nat × Value := (0, .slice (some ⟨b14, o15, none⟩) ahead.xs.length ahead.cap)
abbrev q0cl_14 (behind : Sl TOp) : Nat × Value := (1, .slice behind.a behind.xs.length behind.cap)
abbrev q0cl_15 (ahead : Sl TOp) : Nat × Value := (0, .slice ahead.a ahead.xs.length ahead.cap)
abbrev q0cl_16 (w9 : World) : Nat × Value := (8, .pointer (some ⟨w9.heap.size, 0, none⟩))
abbrev q0cl_17 (j : Nat) : Nat × Value := (10, .int .i64 ((j + 1 : Nat) : Int))
abbrev q0cl_18 (n40 : Nat) : Nat × Value := (11, .pointer (some ⟨n40, 0, none⟩))
abbrev q0cl_19 (b3 : Nat) : Nat × Value := (5, .pointer (some ⟨b3, 0, none⟩))
abbrev q0cl_20 (b7 : Nat) : Nat × Value := (6, .pointer (some ⟨b7, 0, none⟩))
abbrev q0cl_21 (w : World) (b3 : Nat) (FA2 : Nat → Prop) (xc : List TLeaf) (b7 : Nat) (FB2 : Nat → Prop) (w9 : World) (HD : Nat → Prop) (zd : List TLeaf) (n12 : Nat) (a33 : Option Addr) (xa : List TLeaf) (cp34 : Nat) (n40 : Nat) (y49 : TOp) : List Ch := [(old0 w), (Tl.tlbC b3 FA2 (kvs xc)), (Tl.tlbC b7 FB2 (kvs xc)), (refC w9.heap.size HD zd), (q0cl_11 n12 a33 xa cp34), (q0cl_3 n40 y49)]
abbrev q0cl_22 (w : World) (b3 : Nat) (FA2 : Nat → Prop) (xc : List TLeaf) (b7 : Nat) (FB2 : Nat → Prop) (w9 : World) (HD : Nat → Prop) (zd : List TLeaf) (n12 : Nat) (a33 : Option Addr) (xa : List TLeaf) (cp34 : Nat) : List Ch := [(old0 w), (Tl.tlbC b3 FA2 (kvs xc)), (Tl.tlbC b7 FB2 (kvs xc)), (refC w9.heap.size HD zd), (q0cl_11 n12 a33 xa cp34)]
abbrev q0cl_23 (w : World) (b3 : Nat) (FA : Nat → Prop) (xa : List TLeaf) (b7 : Nat) (FB : Nat → Prop) (xb : List TLeaf) (w9 : World) (HD : Nat → Prop) (zd : List TLeaf) : List Ch := [(old0 w), (Tl.tlbC b3 FA (kvs xa)), (Tl.tlbC b7 FB (kvs xb)), (refC w9.heap.size HD zd)]
theorem onward_calls (w : World) (ahead behind : Sl TOp) (hahead : SlOk TOp.cells 6 TOp.ok Any w ahead) (hbehind : SlOk TOp.cells 6 TOp.ok Any w behind) : Calls Try.prog 5 #[.slice ahead.a ahead.xs.length ahead.cap, .slice behind.a behind.xs.length behind.cap] w fun e w' => e = .returned (.bool true) ∧ Keeps (fun _ => False) w w' := by
 obtain ⟨z, hz⟩ : ∃ z, z = w.heap.size := ⟨_, rfl⟩
 refine calls_G (args := [.slice ahead.a ahead.xs.length ahead.cap, .slice behind.a behind.xs.length behind.cap]) 135 ⟨w, z, [(old0 w)]⟩ Try.func5 rfl (by kernel_rfl) (by kernel_rfl) (sat_0 hz) ?_
 have hal := hahead.1.len; have hbl := hbehind.1.len
 refine g_keep [0, 1] [(q0cl_15 ahead), (q0cl_14 behind)] ?_
 refine g_seq <| g_region <| l_all 1 [o0] [0, 1] [] [(q0cl_15 ahead), (q0cl_14 behind)] ⟨w, z, [(old0 w)]⟩ trivial ?_
 refine e_seq <| g_seq <| g_region <| l_call [] [] 11 #[] (some 20) trivial ?_
 intro w1 hw1
 refine calls_G (args := []) 13 ⟨w, z, [(old0 w)]⟩ Try.func11 rfl (by kernel_rfl) (by kernel_rfl) hw1 ?_
 refine g_seq <| g_region <| l_all 3 [o0, o0, o0] [] [] [] ⟨w, z, [(old0 w)]⟩ trivial ?_
 refine e_seq <| g_seq <| g_region <| l_call [] [] 7 #[] (some 3) trivial ?_
 intro w2 hw2
 refine (Tl.new_sat hw2).mono ?_
 rintro e w5 ⟨b3, F4, rfl, hmw5, hSw5⟩; have hnw5 : z ≤ w5.heap.size := hmw5
 refine ⟨_, _, rfl, hSw5, ?_⟩
 refine l_keep [3] [(3, .pointer (some ⟨b3, 0, none⟩))] ?_
 refine l_all 1 [o0] [0] [] [(0, .pointer (some ⟨b3, 0, none⟩))] ⟨w, w5.heap.size, [(old0 w), (Tl.tlbC b3 F4 (kvs ([])))]⟩ trivial ?_
 refine e_seq <| g_seq <| g_region <| l_call [] [] 7 #[] (some 4) trivial ?_
 intro w6 hw6
 refine (Tl.new_sat hw6).mono ?_
 rintro e w9 ⟨b7, F8, rfl, hmw9, hSw9⟩; have hnw9 : w5.heap.size ≤ w9.heap.size := hmw9
 refine ⟨_, _, rfl, hSw9, ?_⟩
 refine l_keep [0, 4] [(0, .pointer (some ⟨b3, 0, none⟩)), (4, .pointer (some ⟨b7, 0, none⟩))] ?_
 refine l_all 1 [o0] [0, 1] [] [(0, .pointer (some ⟨b3, 0, none⟩)), (1, .pointer (some ⟨b7, 0, none⟩))] ⟨w, w9.heap.size, [(old0 w), (Tl.tlbC b3 F4 (kvs ([]))), (Tl.tlbC b7 F8 (kvs ([])))]⟩ trivial ?_
 refine e_seq <| g_seq <| g_region <| l_all 11 [o0, o0, o0, o0, o0, o0, o0, o0, o0, o0, o0] [0, 1, 2] [] [(0, .pointer (some ⟨b3, 0, none⟩)), (1, .pointer (some ⟨b7, 0, none⟩)), (2, .bool true)] ⟨w, w9.heap.size, [(old0 w), (Tl.tlbC b3 F4 (kvs ([]))), (Tl.tlbC b7 F8 (kvs ([])))]⟩ trivial ?_
 refine e_seq <| g_ret <| e_ret [] [] (.tuple #[.pointer (some ⟨b3, 0, none⟩), .pointer (some ⟨b7, 0, none⟩), .bool true]) trivial ?_
 intro w10 hw10
 refine ⟨_, _, rfl, hw10, ?_⟩
 refine l_keep [0, 1, 20] [(q0cl_15 ahead), (q0cl_14 behind), (20, .tuple #[.pointer (some ⟨b3, 0, none⟩), .pointer (some ⟨b7, 0, none⟩), .bool true])] ?_
 refine l_all 7 [o0, o0, o0, o0, o0, o0, o0] [0, 1, 5, 6, 7] [] [(q0cl_15 ahead), (q0cl_14 behind), (q0cl_19 b3), (q0cl_20 b7), (7, .bool true)] ⟨w, w9.heap.size, [(old0 w), (Tl.tlbC b3 F4 (kvs ([]))), (Tl.tlbC b7 F8 (kvs ([])))]⟩ trivial ?_
 refine e_seq <| g_seq <| g_seq <| g_region <| l_all 2 [o0, o0] [0, 1, 5, 6, 25] [] [(q0cl_15 ahead), (q0cl_14 behind), (q0cl_19 b3), (q0cl_20 b7), (25, .bool false)] ⟨w, w9.heap.size, [(old0 w), (Tl.tlbC b3 F4 (kvs ([]))), (Tl.tlbC b7 F8 (kvs ([])))]⟩ trivial ?_
 refine e_seq <| g_false <| g_skip <| e_seq <| g_seq <| g_region <| l_all 1 [o0] [0, 1, 5, 6, 8] [] [(q0cl_15 ahead), (q0cl_14 behind), (q0cl_19 b3), (q0cl_20 b7), (q0cl_16 w9)] ⟨w, w9.heap.size + 1, [(old0 w), (Tl.tlbC b3 F4 (kvs ([]))), (Tl.tlbC b7 F8 (kvs ([]))), (.blk w9.heap.size (.cells #[.slice none 0 0] 37 (0, 0)) true)]⟩ trivial ?_
 refine e_seq <| g_seq <| g_seq <| g_region <| l_all 1 [o0] [0, 1, 5, 6, 8, 9] [] [(q0cl_15 ahead), (q0cl_14 behind), (q0cl_19 b3), (q0cl_20 b7), (q0cl_16 w9), (9, .int .i64 0)] ⟨w, w9.heap.size + 1, [(old0 w), (Tl.tlbC b3 F4 (kvs ([]))), (Tl.tlbC b7 F8 (kvs ([]))), (.blk w9.heap.size (.cells #[.slice none 0 0] 37 (0, 0)) true)]⟩ trivial ?_
 refine e_seq <| g_block <| g_ref0 3 w9.heap.size (?_ : G _ _ _ _ ⟨w, w9.heap.size + 1, [(old0 w), (Tl.tlbC b3 F4 (kvs ([]))), (Tl.tlbC b7 F8 (kvs ([]))), (refC w9.heap.size (fun k => k = w9.heap.size) ([]))]⟩ _ _ _)
 refine g_loop (fun m a w' => ∃ (n12 : Nat) (i : Nat) (FA : Nat → Prop) (FB : Nat → Prop) (HD : Nat → Prop) (xa : List TLeaf) (xb : List TLeaf) (zd : List TLeaf), m = ahead.xs.length - i ∧ w9.heap.size + 1 ≤ n12 ∧ (i ≤ ahead.xs.length) ∧ (fineX xa) ∧ St 135 [(q0cl_15 ahead), (q0cl_14 behind), (q0cl_19 b3), (q0cl_20 b7), (q0cl_16 w9), (9, .int .i64 (i : Int))] [] ⟨w, n12, (q0cl_23 w b3 FA xa b7 FB xb w9 HD zd)⟩ a w') (ahead.xs.length - 0) ?_ ?_
 · intro a w' hs; exact ⟨(w9.heap.size + 1), 0, F4, F8, (fun k => k = w9.heap.size), ([]), ([]), ([]), rfl, Nat.le_refl _, Nat.zero_le _, fineX_nil, hs⟩
 · rintro m a w' ⟨n12, i, FA, FB, HD, xa, xb, zd, rfl, hn11, hki, hfa, hs⟩
   refine (?_ : G Try.prog 135 [(q0cl_15 ahead), (q0cl_14 behind), (q0cl_19 b3), (q0cl_20 b7), (q0cl_16 w9), (9, .int .i64 (i : Int))] [] ⟨w, n12, (q0cl_23 w b3 FA xa b7 FB xb w9 HD zd)⟩ _ _ _) a w' hs
   clear hs a w'
   refine g_seq <| g_seq ?_
   by_cases h13 : ((i : Int) : Int) < ((ahead.xs.length : Nat) : Int)
   · refine g_region <| l_all 4 [o0, o0, o0, oT] [0, 1, 5, 6, 8, 9, 29] [BT (((i : Int) : Int) < ((ahead.xs.length : Nat) : Int))] [(q0cl_15 ahead), (q0cl_14 behind), (q0cl_19 b3), (q0cl_20 b7), (q0cl_16 w9), (9, .int .i64 (i : Int)), (29, .bool true)] ⟨w, n12, (q0cl_23 w b3 FA xa b7 FB xb w9 HD zd)⟩ ⟨bt (by omega), trivial⟩ ?_
     refine e_seq <| g_true <| g_skip <| e_seq <| g_seq <| g_block <| g_seq ?_
     obtain ⟨b14, o15, ha16, hF18, hc17⟩ := (hahead).1.all (show 0 < ahead.xs.length by omega)
     replace ha16 : ahead.a = some ⟨b14, o15, none⟩ := ha16
     refine g_eq [(q0cl_13 b14 o15 ahead), (q0cl_14 behind), (q0cl_19 b3), (q0cl_20 b7), (q0cl_16 w9), (9, .int .i64 (i : Int)), (29, .bool true)] (by (try dsimp only [q0cl_0, q0cl_1, q0cl_2, q0cl_3, q0cl_4, q0cl_5, q0cl_6, q0cl_7, q0cl_8, q0cl_9, q0cl_10, q0cl_11, q0cl_12, q0cl_13, q0cl_14, q0cl_15, q0cl_16, q0cl_17, q0cl_18, q0cl_19, q0cl_20, q0cl_21, q0cl_22, q0cl_23]); simp only [ha16]) ?_
     have hc19 := hc17 i (show i < ahead.xs.length by omega)
     have he20 := (hahead).2 i (show i < ahead.xs.length by omega)
     obtain ⟨y21, hy21⟩ : ∃ y_, y_ = gd ahead.xs i := ⟨_, rfl⟩
     rw [← hy21] at he20 hc19
     have hby21 := he20.Leaves.2
     refine g_region <| l_run 5 [o0, o0, o0, (oi i), (ol 0 (TOp.arr y21))] [0, 1, 5, 6, 8, 9, 32, 36] [((i : Int) : Int) = ((i : Nat) : Int), i < ahead.xs.length, (none : Option Nat) = none, OldR w b14 (o15 + i * 6) (TOp.arr y21)] [(q0cl_13 b14 o15 ahead), (q0cl_14 behind), (q0cl_19 b3), (q0cl_20 b7), (q0cl_16 w9), (9, .int .i64 (i : Int)), (32, .pointer (some ⟨b3, 0, none⟩)), (36, .agg (TOp.arr y21))] ⟨w, n12, (q0cl_23 w b3 FA xa b7 FB xb w9 HD zd)⟩ ⟨rfl, (by omega), rfl, old_row hc19, trivial⟩ ?_
     refine l_call [] [] 12 #[.pointer (some ⟨b3, 0, none⟩), .pointer (some ⟨w9.heap.size, 0, none⟩), .agg (TOp.arr y21)] (some 37) trivial ?_
     intro w22 hw22
     refine (step_sat hw22 [0, 2] (i := 1) (j := 3) rfl rfl (by decide) rfl rfl rfl rfl y21 (far hw22 rfl (S := fun b => FA b ∨ HD b) (fun b hb x => x.elim (hw22.far rfl (i := 1) rfl (by decide) rfl b hb) (hw22.far rfl (i := 3) rfl (by decide) rfl b hb)) he20.Leaves.1 (fun _ => by show 0 < 3; decide)) he20.Leaves.2).mono ?_
     rintro e w26 ⟨v23, F24, H25, rfl, hvw26, hmw26, hSw26⟩; have hnw26 : n12 ≤ w26.heap.size := hmw26
     refine ⟨_, _, rfl, hSw26, ?_⟩
     refine l_keep [0, 1, 5, 6, 8, 9] [(q0cl_13 b14 o15 ahead), (q0cl_14 behind), (q0cl_19 b3), (q0cl_20 b7), (q0cl_16 w9), (9, .int .i64 (i : Int))] ?_
     refine l_nil (by kernel_rfl) ?_
     refine e_seq <| g_region <| l_run 12 [o0, o0, o0, (oi i), o0, (oa [.via 0 (.int .i64 y21.Page)]), o0, o0, o0, o0, o0, o0] [0, 1, 5, 6, 8, 9, 38, 49] [((i : Int) : Int) = ((i : Nat) : Int), i < ahead.xs.length, (none : Option Nat) = none, Old w b14 (o15 + i * 6 + 2) (.int .i64 y21.Page)] [(q0cl_13 b14 o15 ahead), (q0cl_14 behind), (q0cl_19 b3), (q0cl_20 b7), (q0cl_16 w9), (9, .int .i64 (i : Int)), (38, .pointer (some ⟨b7, 0, none⟩)), (49, .agg #[.int .i64 0, .int .i64 (band64 y21.Page 1), .int .i64 (i : Int), .int .i64 (i : Int), .int .i64 (band64 (i : Int) 7), .slice none 0 0])] ⟨w, w26.heap.size, [(old0 w), (Tl.tlbC b7 FB (kvs xb)), (Tl.tlbC b3 F24 (kvs (stepX xa y21))), (refC w9.heap.size H25 (stepX zd y21))]⟩ ⟨rfl, (by omega), rfl, old_cell' (hc19 2 _ rfl), trivial⟩ ?_
     refine l_call [] [] 12 #[.pointer (some ⟨b7, 0, none⟩), .pointer (some ⟨w9.heap.size, 0, none⟩), .agg #[.int .i64 0, .int .i64 (band64 y21.Page 1), .int .i64 (i : Int), .int .i64 (i : Int), .int .i64 (band64 (i : Int) 7), .slice none 0 0]] (some 50) trivial ?_
     intro w27 hw27
     refine (step_sat hw27 [0, 2] (i := 1) (j := 3) rfl rfl (by decide) rfl rfl rfl rfl (⟨0, (band64 y21.Page 1), (i : Int), (i : Int), (band64 (i : Int) 7), ⟨none, 0, []⟩⟩ : TOp) ⟨Nat.zero_le _, Nat.zero_le _, fun h => absurd rfl h⟩ (Nat.zero_le _)).mono ?_
     rintro e w31 ⟨v28, F29, H30, rfl, hvw31, hmw31, hSw31⟩; have hnw31 : w26.heap.size ≤ w31.heap.size := hmw31
     refine ⟨_, _, rfl, hSw31, ?_⟩
     refine l_keep [0, 1, 5, 6, 8, 9] [(q0cl_13 b14 o15 ahead), (q0cl_14 behind), (q0cl_19 b3), (q0cl_20 b7), (q0cl_16 w9), (9, .int .i64 (i : Int))] ?_
     refine l_nil (by kernel_rfl) ?_
     refine e_blk <| e_seq <| g_region <| l_all 3 [o0, (ov (.int .i64 ((i + 1 : Nat) : Int))), o0] [0, 1, 5, 6, 8, 9] [Value.int .i64 (IntKind.i64.wrap (((i : Int) : Int) + 1)) = Value.int .i64 (((i + 1 : Nat) : Int))] [(q0cl_13 b14 o15 ahead), (q0cl_14 behind), (q0cl_19 b3), (q0cl_20 b7), (q0cl_16 w9), (9, .int .i64 ((i + 1 : Nat) : Int))] ⟨w, w31.heap.size, [(old0 w), (Tl.tlbC b3 F24 (kvs (stepX xa y21))), (Tl.tlbC b7 F29 (kvs (stepX xb (⟨0, (band64 y21.Page 1), (i : Int), (i : Int), (band64 (i : Int) 7), ⟨none, 0, []⟩⟩ : TOp)))), (refC w9.heap.size H30 (stepX (stepX zd y21) (⟨0, (band64 y21.Page 1), (i : Int), (i : Int), (band64 (i : Int) 7), ⟨none, 0, []⟩⟩ : TOp)))]⟩ ⟨congrArg (Value.int .i64) (wr_i64 (by omega) (by omega) (by omega)), trivial⟩ ?_
     refine e_eqk [0, 1, 5, 6, 8, 9] [(q0cl_15 ahead), (q0cl_14 behind), (q0cl_19 b3), (q0cl_20 b7), (q0cl_16 w9), (9, .int .i64 ((i + 1 : Nat) : Int))] (by (try dsimp only [q0cl_0, q0cl_1, q0cl_2, q0cl_3, q0cl_4, q0cl_5, q0cl_6, q0cl_7, q0cl_8, q0cl_9, q0cl_10, q0cl_11, q0cl_12, q0cl_13, q0cl_14, q0cl_15, q0cl_16, q0cl_17, q0cl_18, q0cl_19, q0cl_20, q0cl_21, q0cl_22, q0cl_23]); simp only [ha16]; rfl) ?_
     refine e_inv (fun a w' hs => ⟨ahead.xs.length - (i + 1), by omega, w31.heap.size, (i + 1), F24, F29, H30, (stepX xa y21), (stepX xb (⟨0, (band64 y21.Page 1), (i : Int), (i : Int), (band64 (i : Int) 7), ⟨none, 0, []⟩⟩ : TOp)), (stepX (stepX zd y21) (⟨0, (band64 y21.Page 1), (i : Int), (i : Int), (band64 (i : Int) 7), ⟨none, 0, []⟩⟩ : TOp)), rfl, by omega, by omega, fineX_step hfa _, hs⟩)
   · refine g_region <| l_all 4 [o0, o0, o0, oF] [0, 1, 5, 6, 8, 9, 29] [BF (((i : Int) : Int) < ((ahead.xs.length : Nat) : Int))] [(q0cl_15 ahead), (q0cl_14 behind), (q0cl_19 b3), (q0cl_20 b7), (q0cl_16 w9), (9, .int .i64 (i : Int)), (29, .bool false)] ⟨w, n12, (q0cl_23 w b3 FA xa b7 FB xb w9 HD zd)⟩ ⟨bf (by omega), trivial⟩ ?_
     refine e_seq <| g_false <| g_exit <| e_out <| e_outI <| e_hit <| e_seq <| g_seq <| g_seq <| g_tlblen 1 b3 FA xa (fun hx4 hnd => ?_)
     have hok := okL_of hx4 hnd hfa; have hXr := (resX_yes (xs := xb) hok).1; have hEr := (resX_yes (xs := xb) hok).2
     refine g_region <| l_run 2 [o0, o0] [1, 5, 6, 51, 52] [] [(q0cl_14 behind), (q0cl_19 b3), (q0cl_20 b7), (51, .pointer (some ⟨b7, 0, none⟩)), (52, .pointer (some ⟨b3, 0, none⟩))] ⟨w, n12, (q0cl_23 w b3 FA xa b7 FB xb w9 HD zd)⟩ trivial ?_
     refine l_call [] [] 9 #[.pointer (some ⟨b3, 0, none⟩)] (some 53) trivial ?_
     intro w32 hw32
     refine (leaves_satX hw32 (i := 1) rfl).mono ?_
     rintro e w35 ⟨a33, cp34, rfl, hmw35, hSw35⟩; have hnw35 : n12 ≤ w35.heap.size := hmw35
     refine ⟨_, _, rfl, hSw35, ?_⟩
     refine l_keep [1, 5, 6, 51, 53] [(q0cl_14 behind), (q0cl_19 b3), (q0cl_20 b7), (51, .pointer (some ⟨b7, 0, none⟩)), (53, .slice a33 xa.length cp34)] ?_
     refine l_call [] [] 14 #[.pointer (some ⟨b7, 0, none⟩), .slice a33 xa.length cp34] (some 54) trivial ?_
     intro w36 hw36
     refine (trestore_sat hw36 (i := 2) rfl ⟨a33, cp34, xa⟩ (row_not hw36 (i := 4) (j := 2) rfl (by omega) rfl (by decide))).mono ?_
     rintro e w38 ⟨F37, rfl, hmw38, hSw38⟩; have hnw38 : w35.heap.size ≤ w38.heap.size := hmw38
     refine ⟨_, _, rfl, hSw38, ?_⟩
     refine l_keep [1, 5, 6, 54] [(q0cl_14 behind), (q0cl_19 b3), (q0cl_20 b7), (54, .int .i64 (errR xa))] ?_
     refine l_all 1 [oF] [1, 5, 6, 55] [NF (errR xa) 0] [(q0cl_14 behind), (q0cl_19 b3), (q0cl_20 b7), (55, .bool false)] ⟨w, w38.heap.size, [(old0 w), (Tl.tlbC b3 FA (kvs xa)), (Tl.tlbC b7 F37 (kvs (resX xb xa))), (refC w9.heap.size HD zd), (q0cl_11 n12 a33 xa cp34)]⟩ ⟨nf (by omega), trivial⟩ ?_
     refine e_seq <| g_false <| g_skip <| e_seq <| g_seq <| g_seq <| g_region <| l_all 1 [o0] [1, 5, 6, 10] [] [(q0cl_14 behind), (q0cl_19 b3), (q0cl_20 b7), (10, .int .i64 0)] ⟨w, w38.heap.size, [(old0 w), (Tl.tlbC b3 FA (kvs xa)), (Tl.tlbC b7 F37 (kvs (resX xb xa))), (refC w9.heap.size HD zd), (q0cl_11 n12 a33 xa cp34)]⟩ trivial ?_
     refine e_seq <| g_block <| g_loop (fun m a w' => ∃ (n40 : Nat) (j : Nat) (FA2 : Nat → Prop) (FB2 : Nat → Prop) (xc : List TLeaf), m = behind.xs.length - j ∧ w38.heap.size ≤ n40 ∧ (j ≤ behind.xs.length) ∧ St 135 [(q0cl_14 behind), (q0cl_19 b3), (q0cl_20 b7), (10, .int .i64 (j : Int))] [] ⟨w, n40, (q0cl_22 w b3 FA2 xc b7 FB2 w9 HD zd n12 a33 xa cp34)⟩ a w') (behind.xs.length - 0) ?_ ?_
     · intro a w' hs; exact ⟨w38.heap.size, 0, FA, F37, xa, rfl, Nat.le_refl _, Nat.zero_le _, by (try dsimp only [q0cl_0, q0cl_1, q0cl_2, q0cl_3, q0cl_4, q0cl_5, q0cl_6, q0cl_7, q0cl_8, q0cl_9, q0cl_10, q0cl_11, q0cl_12, q0cl_13, q0cl_14, q0cl_15, q0cl_16, q0cl_17, q0cl_18, q0cl_19, q0cl_20, q0cl_21, q0cl_22, q0cl_23] at hs ⊢); rw [hXr] at hs; exact hs⟩
     · rintro m a w' ⟨n40, j, FA2, FB2, xc, rfl, hn39, hkj, hs⟩
       refine (?_ : G Try.prog 135 [(q0cl_14 behind), (q0cl_19 b3), (q0cl_20 b7), (10, .int .i64 (j : Int))] [] ⟨w, n40, (q0cl_22 w b3 FA2 xc b7 FB2 w9 HD zd n12 a33 xa cp34)⟩ _ _ _) a w' hs
       clear hs a w'
       refine g_seq <| g_seq ?_
       by_cases h41 : ((j : Int) : Int) < ((behind.xs.length : Nat) : Int)
       · refine g_region <| l_all 4 [o0, o0, o0, oT] [1, 5, 6, 10, 59] [BT (((j : Int) : Int) < ((behind.xs.length : Nat) : Int))] [(q0cl_14 behind), (q0cl_19 b3), (q0cl_20 b7), (10, .int .i64 (j : Int)), (59, .bool true)] ⟨w, n40, (q0cl_22 w b3 FA2 xc b7 FB2 w9 HD zd n12 a33 xa cp34)⟩ ⟨bt (by omega), trivial⟩ ?_
         refine e_seq <| g_true <| g_skip <| e_seq <| g_seq <| g_block <| g_seq ?_
         obtain ⟨b42, o43, ha44, hF46, hc45⟩ := (hbehind).1.all (show 0 < behind.xs.length by omega)
         replace ha44 : behind.a = some ⟨b42, o43, none⟩ := ha44
         refine g_eq [(q0cl_12 b42 o43 behind), (q0cl_19 b3), (q0cl_20 b7), (10, .int .i64 (j : Int)), (59, .bool true)] (by (try dsimp only [q0cl_0, q0cl_1, q0cl_2, q0cl_3, q0cl_4, q0cl_5, q0cl_6, q0cl_7, q0cl_8, q0cl_9, q0cl_10, q0cl_11, q0cl_12, q0cl_13, q0cl_14, q0cl_15, q0cl_16, q0cl_17, q0cl_18, q0cl_19, q0cl_20, q0cl_21, q0cl_22, q0cl_23]); simp only [ha44]) ?_
         have hc47 := hc45 j (show j < behind.xs.length by omega)
         have he48 := (hbehind).2 j (show j < behind.xs.length by omega)
         obtain ⟨y49, hy49⟩ : ∃ y_, y_ = gd behind.xs j := ⟨_, rfl⟩
         rw [← hy49] at he48 hc47
         have hby49 := he48.Leaves.2
         refine g_region <| l_all 6 [o0, o0, (oi j), (ol 0 (TOp.arr y49)), o0, (oa [.at 5, .at 5, .at 5, .at 5, .at 5, .at 5])] [1, 5, 6, 10, 11] [((j : Int) : Int) = ((j : Nat) : Int), j < behind.xs.length, (none : Option Nat) = none, OldR w b42 (o43 + j * 6) (TOp.arr y49), Qb n40, Qb n40, Qb n40, Qb n40, Qb n40, Qb n40] [(q0cl_12 b42 o43 behind), (q0cl_19 b3), (q0cl_20 b7), (10, .int .i64 (j : Int)), (q0cl_18 n40)] ⟨w, n40 + 1, (q0cl_21 w b3 FA2 xc b7 FB2 w9 HD zd n12 a33 xa cp34 n40 y49)⟩ ⟨rfl, (by omega), rfl, old_row hc47, rfl, rfl, rfl, rfl, rfl, rfl, trivial⟩ ?_
         refine e_seq <| g_seq <| g_seq <| g_region <| l_all 2 [o0, (oa [.at 5])] [1, 5, 6, 10, 11, 67] [Qb n40] [(q0cl_12 b42 o43 behind), (q0cl_19 b3), (q0cl_20 b7), (10, .int .i64 (j : Int)), (q0cl_18 n40), (67, .int .i64 y49.Kind)] ⟨w, n40 + 1, (q0cl_21 w b3 FA2 xc b7 FB2 w9 HD zd n12 a33 xa cp34 n40 y49)⟩ ⟨rfl, trivial⟩ ?_
         refine e_seq <| g_block <| g_seq ?_
         by_cases h50 : (y49.Kind : Int) = 0
         · refine g_region <| l_all 2 [oT, o0] [1, 5, 6, 10, 11, 67, 68] [ET y49.Kind 0] [(q0cl_12 b42 o43 behind), (q0cl_19 b3), (q0cl_20 b7), (10, .int .i64 (j : Int)), (q0cl_18 n40), (67, .int .i64 y49.Kind), (68, .bool true)] ⟨w, n40 + 1, (q0cl_21 w b3 FA2 xc b7 FB2 w9 HD zd n12 a33 xa cp34 n40 y49)⟩ ⟨et (by omega), trivial⟩ ?_
           refine e_seq <| g_true <| g_seq <| g_region <| l_run 3 [o0, o0, (oa [.at 5])] [1, 5, 6, 10, 11, 71, 73] [Qb n40] [(q0cl_12 b42 o43 behind), (q0cl_19 b3), (q0cl_20 b7), (10, .int .i64 (j : Int)), (q0cl_18 n40), (71, .pointer (some ⟨b3, 0, none⟩)), (73, .int .i64 y49.Page)] ⟨w, n40 + 1, (q0cl_21 w b3 FA2 xc b7 FB2 w9 HD zd n12 a33 xa cp34 n40 y49)⟩ ⟨rfl, trivial⟩ ?_
           refine l_call [] [] 10 #[.pointer (some ⟨b3, 0, none⟩), .int .i64 y49.Page] (some 74) trivial ?_
           intro w51 hw51
           refine (find_satX hw51 (i := 1) rfl y49.Page).mono ?_
           rintro e w53 ⟨F52, rfl, hmw53, hSw53⟩; have hnw53 : n40 + 1 ≤ w53.heap.size := hmw53
           refine ⟨_, _, rfl, hSw53, ?_⟩
           refine l_keep [1, 5, 6, 10, 11, 74] [(q0cl_12 b42 o43 behind), (q0cl_19 b3), (q0cl_20 b7), (10, .int .i64 (j : Int)), (q0cl_18 n40), (74, .tuple #[.agg (TLeaf.arr (fV xc y49.Page)), .bool (fB xc y49.Page)])] ?_
           refine l_all 6 [o0, o0, o0, o0, (oa [.at 6, .at 6, .at 6]), o0] [1, 5, 6, 10, 11, 12, 13] [Qb w53.heap.size, Qb w53.heap.size, Qb w53.heap.size] [(q0cl_12 b42 o43 behind), (q0cl_19 b3), (q0cl_20 b7), (10, .int .i64 (j : Int)), (q0cl_18 n40), (12, .pointer (some ⟨w53.heap.size, 0, none⟩)), (13, .bool (fB xc y49.Page))] ⟨w, w53.heap.size + 1, [(old0 w), (Tl.tlbC b3 F52 (kvs (findX xc y49.Page))), (Tl.tlbC b7 FB2 (kvs xc)), (refC w9.heap.size HD zd), (q0cl_11 n12 a33 xa cp34), (q0cl_3 n40 y49), (q0cl_1 w53 xc y49)]⟩ ⟨rfl, rfl, rfl, trivial⟩ ?_
           refine e_seq <| g_seq <| g_region <| l_run 3 [o0, o0, (oa [.at 5])] [1, 5, 6, 10, 12, 13, 78, 80] [Qb n40] [(q0cl_12 b42 o43 behind), (q0cl_19 b3), (q0cl_20 b7), (10, .int .i64 (j : Int)), (12, .pointer (some ⟨w53.heap.size, 0, none⟩)), (13, .bool (fB xc y49.Page)), (78, .pointer (some ⟨b7, 0, none⟩)), (80, .int .i64 y49.Page)] ⟨w, w53.heap.size + 1, [(old0 w), (Tl.tlbC b3 F52 (kvs (findX xc y49.Page))), (Tl.tlbC b7 FB2 (kvs xc)), (refC w9.heap.size HD zd), (q0cl_11 n12 a33 xa cp34), (q0cl_3 n40 y49), (q0cl_1 w53 xc y49)]⟩ ⟨rfl, trivial⟩ ?_
           refine l_call [] [] 10 #[.pointer (some ⟨b7, 0, none⟩), .int .i64 y49.Page] (some 81) trivial ?_
           intro w54 hw54
           refine (find_satX hw54 (i := 2) rfl y49.Page).mono ?_
           rintro e w56 ⟨F55, rfl, hmw56, hSw56⟩; have hnw56 : w53.heap.size + 1 ≤ w56.heap.size := hmw56
           refine ⟨_, _, rfl, hSw56, ?_⟩
           refine l_keep [1, 5, 6, 10, 12, 13, 81] [(q0cl_12 b42 o43 behind), (q0cl_19 b3), (q0cl_20 b7), (10, .int .i64 (j : Int)), (12, .pointer (some ⟨w53.heap.size, 0, none⟩)), (13, .bool (fB xc y49.Page)), (81, .tuple #[.agg (TLeaf.arr (fV xc y49.Page)), .bool (fB xc y49.Page)])] ?_
           refine l_all 6 [o0, o0, o0, o0, (oa [.at 7, .at 7, .at 7]), o0] [1, 5, 6, 10, 12, 13, 14, 15] [Qb w56.heap.size, Qb w56.heap.size, Qb w56.heap.size] [(q0cl_12 b42 o43 behind), (q0cl_19 b3), (q0cl_20 b7), (10, .int .i64 (j : Int)), (12, .pointer (some ⟨w53.heap.size, 0, none⟩)), (13, .bool (fB xc y49.Page)), (14, .pointer (some ⟨w56.heap.size, 0, none⟩)), (15, .bool (fB xc y49.Page))] ⟨w, w56.heap.size + 1, [(old0 w), (Tl.tlbC b3 F52 (kvs (findX xc y49.Page))), (Tl.tlbC b7 F55 (kvs (findX xc y49.Page))), (refC w9.heap.size HD zd), (q0cl_11 n12 a33 xa cp34), (q0cl_3 n40 y49), (q0cl_1 w53 xc y49), (q0cl_2 w56 xc y49)]⟩ ⟨rfl, rfl, rfl, trivial⟩ ?_
           refine e_seq <| g_seq <| g_region <| l_all 8 [(oa [.at 6, .at 6, .at 6]), (oa [.at 7, .at 7, .at 7]), ⟨.seq true, none⟩, o0, o0, o0, (ov (.bool false)), o0] [1, 5, 6, 10, 91] [Qb w53.heap.size, Qb w53.heap.size, Qb w53.heap.size, Qb w56.heap.size, Qb w56.heap.size, Qb w56.heap.size, (((fV xc y49.Page).Page : Int) == ((fV xc y49.Page).Page : Int) && (((fV xc y49.Page).Frame : Int) == ((fV xc y49.Page).Frame : Int) && (((fV xc y49.Page).Rights : Int) == ((fV xc y49.Page).Rights : Int) && true))) = true, Value.bool (!((fB xc y49.Page) == (fB xc y49.Page))) = Value.bool false] [(q0cl_12 b42 o43 behind), (q0cl_19 b3), (q0cl_20 b7), (10, .int .i64 (j : Int)), (91, .bool false)] ⟨w, w56.heap.size + 1, [(old0 w), (Tl.tlbC b3 F52 (kvs (findX xc y49.Page))), (Tl.tlbC b7 F55 (kvs (findX xc y49.Page))), (refC w9.heap.size HD zd), (q0cl_11 n12 a33 xa cp34), (q0cl_3 n40 y49), (q0cl_1 w53 xc y49), (q0cl_2 w56 xc y49)]⟩ ⟨rfl, rfl, rfl, rfl, rfl, rfl, (by simp), by simp, trivial⟩ ?_
           refine e_seq <| g_false <| g_skip <| e_blk <| e_seq <| g_seq <| g_tlblen 1 b3 F52 (findX xc y49.Page) (fun hx5 _ => ?_)
           refine g_region <| l_run 1 [o0] [1, 5, 6, 10, 129] [] [(q0cl_12 b42 o43 behind), (q0cl_19 b3), (q0cl_20 b7), (10, .int .i64 (j : Int)), (129, .pointer (some ⟨b3, 0, none⟩))] ⟨w, w56.heap.size + 1, [(old0 w), (Tl.tlbC b3 F52 (kvs (findX xc y49.Page))), (Tl.tlbC b7 F55 (kvs (findX xc y49.Page))), (refC w9.heap.size HD zd), (q0cl_11 n12 a33 xa cp34), (q0cl_3 n40 y49), (q0cl_1 w53 xc y49), (q0cl_2 w56 xc y49)]⟩ trivial ?_
           refine l_call [] [] 9 #[.pointer (some ⟨b3, 0, none⟩)] (some 130) trivial ?_
           intro w57 hw57
           refine (leaves_satX hw57 (i := 1) rfl).mono ?_
           rintro e w60 ⟨a58, cp59, rfl, hmw60, hSw60⟩; have hnw60 : w56.heap.size + 1 ≤ w60.heap.size := hmw60
           refine ⟨_, _, rfl, hSw60, ?_⟩
           refine l_keep [1, 5, 6, 10, 130] [(q0cl_12 b42 o43 behind), (q0cl_19 b3), (q0cl_20 b7), (10, .int .i64 (j : Int)), (130, .slice a58 ((findX xc y49.Page).length) cp59)] ?_
           refine l_run 1 [o0] [1, 5, 6, 10, 130, 131] [] [(q0cl_12 b42 o43 behind), (q0cl_19 b3), (q0cl_20 b7), (10, .int .i64 (j : Int)), (130, .slice a58 ((findX xc y49.Page).length) cp59), (131, .pointer (some ⟨b7, 0, none⟩))] ⟨w, w60.heap.size, [(old0 w), (Tl.tlbC b3 F52 (kvs (findX xc y49.Page))), (Tl.tlbC b7 F55 (kvs (findX xc y49.Page))), (refC w9.heap.size HD zd), (q0cl_11 n12 a33 xa cp34), (q0cl_3 n40 y49), (q0cl_1 w53 xc y49), (q0cl_2 w56 xc y49), (q0cl_7 w56 a58 xc y49 cp59)]⟩ trivial ?_
           refine l_call [] [] 9 #[.pointer (some ⟨b7, 0, none⟩)] (some 132) trivial ?_
           intro w61 hw61
           refine (leaves_satX hw61 (i := 2) rfl).mono ?_
           rintro e w64 ⟨a62, cp63, rfl, hmw64, hSw64⟩; have hnw64 : w60.heap.size ≤ w64.heap.size := hmw64
           refine ⟨_, _, rfl, hSw64, ?_⟩
           refine l_keep [1, 5, 6, 10, 130, 132] [(q0cl_12 b42 o43 behind), (q0cl_19 b3), (q0cl_20 b7), (10, .int .i64 (j : Int)), (130, .slice a58 ((findX xc y49.Page).length) cp59), (132, .slice a62 ((findX xc y49.Page).length) cp63)] ?_
           refine l_call [] [] 13 #[.slice a58 ((findX xc y49.Page).length) cp59, .slice a62 ((findX xc y49.Page).length) cp63] (some 133) trivial ?_
           intro w65 hw65
           refine (same_yes w65 ⟨a58, cp59, (findX xc y49.Page)⟩ ⟨a62, cp63, (findX xc y49.Page)⟩ (row_any hw65 (i := 8) rfl (by omega)) (row_any hw65 (i := 9) rfl (by omega)) rfl).mono ?_
           rintro e w66 ⟨rfl, hkw66⟩
           have hnw66 : w64.heap.size ≤ w66.heap.size := by have := hkw66.size; rw [hw65.size] at this; exact this
           refine ⟨_, _, rfl, hw65.keeps hkw66, ?_⟩
           refine l_keep [1, 5, 6, 10, 133] [(q0cl_12 b42 o43 behind), (q0cl_19 b3), (q0cl_20 b7), (10, .int .i64 (j : Int)), (133, .bool true)] ?_
           refine l_all 1 [o0] [1, 5, 6, 10, 134] [] [(q0cl_12 b42 o43 behind), (q0cl_19 b3), (q0cl_20 b7), (10, .int .i64 (j : Int)), (134, .bool false)] ⟨w, w66.heap.size, [(old0 w), (Tl.tlbC b3 F52 (kvs (findX xc y49.Page))), (Tl.tlbC b7 F55 (kvs (findX xc y49.Page))), (refC w9.heap.size HD zd), (q0cl_11 n12 a33 xa cp34), (q0cl_3 n40 y49), (q0cl_1 w53 xc y49), (q0cl_2 w56 xc y49), (q0cl_7 w56 a58 xc y49 cp59), (rowL w60.heap.size 26 3 TLeaf.cells (.slice a62 ((findX xc y49.Page).length) cp63) (findX xc y49.Page))]⟩ trivial ?_
           refine e_seq <| g_false <| g_skip <| e_blk <| e_seq <| g_region <| l_all 3 [o0, (ov (.int .i64 ((j + 1 : Nat) : Int))), o0] [1, 5, 6, 10] [Value.int .i64 (IntKind.i64.wrap (((j : Int) : Int) + 1)) = Value.int .i64 (((j + 1 : Nat) : Int))] [(q0cl_12 b42 o43 behind), (q0cl_19 b3), (q0cl_20 b7), (q0cl_17 j)] ⟨w, w66.heap.size, [(old0 w), (Tl.tlbC b3 F52 (kvs (findX xc y49.Page))), (Tl.tlbC b7 F55 (kvs (findX xc y49.Page))), (refC w9.heap.size HD zd), (q0cl_11 n12 a33 xa cp34), (q0cl_3 n40 y49), (q0cl_1 w53 xc y49), (q0cl_2 w56 xc y49), (q0cl_7 w56 a58 xc y49 cp59), (rowL w60.heap.size 26 3 TLeaf.cells (.slice a62 ((findX xc y49.Page).length) cp63) (findX xc y49.Page))]⟩ ⟨congrArg (Value.int .i64) (wr_i64 (by omega) (by omega) (by omega)), trivial⟩ ?_
           refine e_pick [0, 1, 2, 3, 4] [(old0 w), (Tl.tlbC b3 F52 (kvs (findX xc y49.Page))), (Tl.tlbC b7 F55 (kvs (findX xc y49.Page))), (refC w9.heap.size HD zd), (q0cl_11 n12 a33 xa cp34)] rfl rfl ?_
           refine e_eqk [1, 5, 6, 10] [(q0cl_14 behind), (q0cl_19 b3), (q0cl_20 b7), (q0cl_17 j)] (by (try dsimp only [q0cl_0, q0cl_1, q0cl_2, q0cl_3, q0cl_4, q0cl_5, q0cl_6, q0cl_7, q0cl_8, q0cl_9, q0cl_10, q0cl_11, q0cl_12, q0cl_13, q0cl_14, q0cl_15, q0cl_16, q0cl_17, q0cl_18, q0cl_19, q0cl_20, q0cl_21, q0cl_22, q0cl_23]); simp only [ha44]; rfl) ?_
           refine e_inv (fun a w' hs => ⟨behind.xs.length - (j + 1), by omega, w66.heap.size, (j + 1), F52, F55, (findX xc y49.Page), rfl, by omega, by omega, hs⟩)
         · refine g_region <| l_all 2 [oF, o0] [1, 5, 6, 10, 11, 67, 68] [EF y49.Kind 0] [(q0cl_12 b42 o43 behind), (q0cl_19 b3), (q0cl_20 b7), (10, .int .i64 (j : Int)), (q0cl_18 n40), (67, .int .i64 y49.Kind), (68, .bool false)] ⟨w, n40 + 1, (q0cl_21 w b3 FA2 xc b7 FB2 w9 HD zd n12 a33 xa cp34 n40 y49)⟩ ⟨ef (by omega), trivial⟩ ?_
           refine e_seq <| g_false <| g_seq ?_
           by_cases h67 : (y49.Kind : Int) = 1
           · refine g_region <| l_all 2 [oT, o0] [1, 5, 6, 10, 11, 67, 92] [ET y49.Kind 1] [(q0cl_12 b42 o43 behind), (q0cl_19 b3), (q0cl_20 b7), (10, .int .i64 (j : Int)), (q0cl_18 n40), (67, .int .i64 y49.Kind), (92, .bool true)] ⟨w, n40 + 1, (q0cl_21 w b3 FA2 xc b7 FB2 w9 HD zd n12 a33 xa cp34 n40 y49)⟩ ⟨et (by omega), trivial⟩ ?_
             refine e_seq <| g_true <| g_seq <| g_region <| l_all 9 [o0, (oa [.at 5]), o0, (oa [.at 5]), o0, (oa [.at 5]), o0, o0, (oa [.at 6, .at 6, .at 6])] [1, 5, 6, 10, 16] [Qb n40, Qb n40, Qb n40, Qb (n40 + 1), Qb (n40 + 1), Qb (n40 + 1)] [(q0cl_12 b42 o43 behind), (q0cl_19 b3), (q0cl_20 b7), (10, .int .i64 (j : Int)), (16, .pointer (some ⟨n40 + 1, 0, none⟩))] ⟨w, n40 + 2, [(old0 w), (Tl.tlbC b3 FA2 (kvs xc)), (Tl.tlbC b7 FB2 (kvs xc)), (refC w9.heap.size HD zd), (q0cl_11 n12 a33 xa cp34), (q0cl_3 n40 y49), (q0cl_0 n40 y49)]⟩ ⟨rfl, rfl, rfl, rfl, rfl, rfl, trivial⟩ ?_
             refine e_seq <| g_seq <| g_region <| l_run 2 [o0, (oa [.at 6, .at 6, .at 6])] [1, 5, 6, 10, 16, 101, 102] [Qb (n40 + 1), Qb (n40 + 1), Qb (n40 + 1)] [(q0cl_12 b42 o43 behind), (q0cl_19 b3), (q0cl_20 b7), (10, .int .i64 (j : Int)), (16, .pointer (some ⟨n40 + 1, 0, none⟩)), (101, .pointer (some ⟨b3, 0, none⟩)), (102, .agg #[.int .i64 y49.Page, .int .i64 y49.Frame, .int .i64 y49.Rights])] ⟨w, n40 + 2, [(old0 w), (Tl.tlbC b3 FA2 (kvs xc)), (Tl.tlbC b7 FB2 (kvs xc)), (refC w9.heap.size HD zd), (q0cl_11 n12 a33 xa cp34), (q0cl_3 n40 y49), (q0cl_0 n40 y49)]⟩ ⟨rfl, rfl, rfl, trivial⟩ ?_
             refine l_call [] [] 8 #[.pointer (some ⟨b3, 0, none⟩), .agg #[.int .i64 y49.Page, .int .i64 y49.Frame, .int .i64 y49.Rights]] (some 103) trivial ?_
             intro w68 hw68
             refine (put_satX hw68 (i := 1) rfl (⟨y49.Page, y49.Frame, y49.Rights⟩ : TLeaf)).mono ?_
             rintro e w70 ⟨F69, rfl, hmw70, hSw70⟩; have hnw70 : n40 + 2 ≤ w70.heap.size := hmw70
             refine ⟨_, _, rfl, hSw70, ?_⟩
             refine l_keep [1, 5, 6, 10, 16, 103] [(q0cl_12 b42 o43 behind), (q0cl_19 b3), (q0cl_20 b7), (10, .int .i64 (j : Int)), (16, .pointer (some ⟨n40 + 1, 0, none⟩)), (103, .int .i64 (errP (⟨y49.Page, y49.Frame, y49.Rights⟩ : TLeaf)))] ?_
             refine l_all 1 [o0] [1, 5, 6, 10, 16, 17] [] [(q0cl_12 b42 o43 behind), (q0cl_19 b3), (q0cl_20 b7), (10, .int .i64 (j : Int)), (16, .pointer (some ⟨n40 + 1, 0, none⟩)), (17, .int .i64 (errP (⟨y49.Page, y49.Frame, y49.Rights⟩ : TLeaf)))] ⟨w, w70.heap.size, [(old0 w), (Tl.tlbC b3 F69 (kvs (putX xc (⟨y49.Page, y49.Frame, y49.Rights⟩ : TLeaf)))), (Tl.tlbC b7 FB2 (kvs xc)), (refC w9.heap.size HD zd), (q0cl_11 n12 a33 xa cp34), (q0cl_3 n40 y49), (q0cl_0 n40 y49)]⟩ trivial ?_
             refine e_seq <| g_seq <| g_region <| l_run 3 [o0, o0, (oa [.at 6, .at 6, .at 6])] [1, 5, 6, 10, 104, 105, 106] [Qb (n40 + 1), Qb (n40 + 1), Qb (n40 + 1)] [(q0cl_12 b42 o43 behind), (q0cl_19 b3), (q0cl_20 b7), (10, .int .i64 (j : Int)), (104, .int .i64 (errP (⟨y49.Page, y49.Frame, y49.Rights⟩ : TLeaf))), (105, .pointer (some ⟨b7, 0, none⟩)), (106, .agg #[.int .i64 y49.Page, .int .i64 y49.Frame, .int .i64 y49.Rights])] ⟨w, w70.heap.size, [(old0 w), (Tl.tlbC b3 F69 (kvs (putX xc (⟨y49.Page, y49.Frame, y49.Rights⟩ : TLeaf)))), (Tl.tlbC b7 FB2 (kvs xc)), (refC w9.heap.size HD zd), (q0cl_11 n12 a33 xa cp34), (q0cl_3 n40 y49), (q0cl_0 n40 y49)]⟩ ⟨rfl, rfl, rfl, trivial⟩ ?_
             refine l_call [] [] 8 #[.pointer (some ⟨b7, 0, none⟩), .agg #[.int .i64 y49.Page, .int .i64 y49.Frame, .int .i64 y49.Rights]] (some 107) trivial ?_
             intro w71 hw71
             refine (put_satX hw71 (i := 2) rfl (⟨y49.Page, y49.Frame, y49.Rights⟩ : TLeaf)).mono ?_
             rintro e w73 ⟨F72, rfl, hmw73, hSw73⟩; have hnw73 : w70.heap.size ≤ w73.heap.size := hmw73
             refine ⟨_, _, rfl, hSw73, ?_⟩
             refine l_keep [1, 5, 6, 10, 104, 107] [(q0cl_12 b42 o43 behind), (q0cl_19 b3), (q0cl_20 b7), (10, .int .i64 (j : Int)), (104, .int .i64 (errP (⟨y49.Page, y49.Frame, y49.Rights⟩ : TLeaf))), (107, .int .i64 (errP (⟨y49.Page, y49.Frame, y49.Rights⟩ : TLeaf)))] ?_
             refine l_all 1 [oF] [1, 5, 6, 10, 108] [NF (errP (⟨y49.Page, y49.Frame, y49.Rights⟩ : TLeaf)) (errP (⟨y49.Page, y49.Frame, y49.Rights⟩ : TLeaf))] [(q0cl_12 b42 o43 behind), (q0cl_19 b3), (q0cl_20 b7), (10, .int .i64 (j : Int)), (108, .bool false)] ⟨w, w73.heap.size, [(old0 w), (Tl.tlbC b3 F69 (kvs (putX xc (⟨y49.Page, y49.Frame, y49.Rights⟩ : TLeaf)))), (Tl.tlbC b7 F72 (kvs (putX xc (⟨y49.Page, y49.Frame, y49.Rights⟩ : TLeaf)))), (refC w9.heap.size HD zd), (q0cl_11 n12 a33 xa cp34), (q0cl_3 n40 y49), (q0cl_0 n40 y49)]⟩ ⟨nf (by omega), trivial⟩ ?_
             refine e_seq <| g_false <| g_skip <| e_blk <| e_seq <| g_seq <| g_tlblen 1 b3 F69 (putX xc (⟨y49.Page, y49.Frame, y49.Rights⟩ : TLeaf)) (fun hx5 _ => ?_)
             refine g_region <| l_run 1 [o0] [1, 5, 6, 10, 129] [] [(q0cl_12 b42 o43 behind), (q0cl_19 b3), (q0cl_20 b7), (10, .int .i64 (j : Int)), (129, .pointer (some ⟨b3, 0, none⟩))] ⟨w, w73.heap.size, [(old0 w), (Tl.tlbC b3 F69 (kvs (putX xc (⟨y49.Page, y49.Frame, y49.Rights⟩ : TLeaf)))), (Tl.tlbC b7 F72 (kvs (putX xc (⟨y49.Page, y49.Frame, y49.Rights⟩ : TLeaf)))), (refC w9.heap.size HD zd), (q0cl_11 n12 a33 xa cp34), (q0cl_3 n40 y49), (q0cl_0 n40 y49)]⟩ trivial ?_
             refine l_call [] [] 9 #[.pointer (some ⟨b3, 0, none⟩)] (some 130) trivial ?_
             intro w74 hw74
             refine (leaves_satX hw74 (i := 1) rfl).mono ?_
             rintro e w77 ⟨a75, cp76, rfl, hmw77, hSw77⟩; have hnw77 : w73.heap.size ≤ w77.heap.size := hmw77
             refine ⟨_, _, rfl, hSw77, ?_⟩
             refine l_keep [1, 5, 6, 10, 130] [(q0cl_12 b42 o43 behind), (q0cl_19 b3), (q0cl_20 b7), (10, .int .i64 (j : Int)), (130, .slice a75 ((putX xc (⟨y49.Page, y49.Frame, y49.Rights⟩ : TLeaf)).length) cp76)] ?_
             refine l_run 1 [o0] [1, 5, 6, 10, 130, 131] [] [(q0cl_12 b42 o43 behind), (q0cl_19 b3), (q0cl_20 b7), (10, .int .i64 (j : Int)), (130, .slice a75 ((putX xc (⟨y49.Page, y49.Frame, y49.Rights⟩ : TLeaf)).length) cp76), (131, .pointer (some ⟨b7, 0, none⟩))] ⟨w, w77.heap.size, [(old0 w), (Tl.tlbC b3 F69 (kvs (putX xc (⟨y49.Page, y49.Frame, y49.Rights⟩ : TLeaf)))), (Tl.tlbC b7 F72 (kvs (putX xc (⟨y49.Page, y49.Frame, y49.Rights⟩ : TLeaf)))), (refC w9.heap.size HD zd), (q0cl_11 n12 a33 xa cp34), (q0cl_3 n40 y49), (q0cl_0 n40 y49), (q0cl_4 w73 a75 xc y49 cp76)]⟩ trivial ?_
             refine l_call [] [] 9 #[.pointer (some ⟨b7, 0, none⟩)] (some 132) trivial ?_
             intro w78 hw78
             refine (leaves_satX hw78 (i := 2) rfl).mono ?_
             rintro e w81 ⟨a79, cp80, rfl, hmw81, hSw81⟩; have hnw81 : w77.heap.size ≤ w81.heap.size := hmw81
             refine ⟨_, _, rfl, hSw81, ?_⟩
             refine l_keep [1, 5, 6, 10, 130, 132] [(q0cl_12 b42 o43 behind), (q0cl_19 b3), (q0cl_20 b7), (10, .int .i64 (j : Int)), (130, .slice a75 ((putX xc (⟨y49.Page, y49.Frame, y49.Rights⟩ : TLeaf)).length) cp76), (132, .slice a79 ((putX xc (⟨y49.Page, y49.Frame, y49.Rights⟩ : TLeaf)).length) cp80)] ?_
             refine l_call [] [] 13 #[.slice a75 ((putX xc (⟨y49.Page, y49.Frame, y49.Rights⟩ : TLeaf)).length) cp76, .slice a79 ((putX xc (⟨y49.Page, y49.Frame, y49.Rights⟩ : TLeaf)).length) cp80] (some 133) trivial ?_
             intro w82 hw82
             refine (same_yes w82 ⟨a75, cp76, (putX xc (⟨y49.Page, y49.Frame, y49.Rights⟩ : TLeaf))⟩ ⟨a79, cp80, (putX xc (⟨y49.Page, y49.Frame, y49.Rights⟩ : TLeaf))⟩ (row_any hw82 (i := 7) rfl (by omega)) (row_any hw82 (i := 8) rfl (by omega)) rfl).mono ?_
             rintro e w83 ⟨rfl, hkw83⟩
             have hnw83 : w81.heap.size ≤ w83.heap.size := by have := hkw83.size; rw [hw82.size] at this; exact this
             refine ⟨_, _, rfl, hw82.keeps hkw83, ?_⟩
             refine l_keep [1, 5, 6, 10, 133] [(q0cl_12 b42 o43 behind), (q0cl_19 b3), (q0cl_20 b7), (10, .int .i64 (j : Int)), (133, .bool true)] ?_
             refine l_all 1 [o0] [1, 5, 6, 10, 134] [] [(q0cl_12 b42 o43 behind), (q0cl_19 b3), (q0cl_20 b7), (10, .int .i64 (j : Int)), (134, .bool false)] ⟨w, w83.heap.size, [(old0 w), (Tl.tlbC b3 F69 (kvs (putX xc (⟨y49.Page, y49.Frame, y49.Rights⟩ : TLeaf)))), (Tl.tlbC b7 F72 (kvs (putX xc (⟨y49.Page, y49.Frame, y49.Rights⟩ : TLeaf)))), (refC w9.heap.size HD zd), (q0cl_11 n12 a33 xa cp34), (q0cl_3 n40 y49), (q0cl_0 n40 y49), (q0cl_4 w73 a75 xc y49 cp76), (q0cl_5 w77 a79 xc y49 cp80)]⟩ trivial ?_
             refine e_seq <| g_false <| g_skip <| e_blk <| e_seq <| g_region <| l_all 3 [o0, (ov (.int .i64 ((j + 1 : Nat) : Int))), o0] [1, 5, 6, 10] [Value.int .i64 (IntKind.i64.wrap (((j : Int) : Int) + 1)) = Value.int .i64 (((j + 1 : Nat) : Int))] [(q0cl_12 b42 o43 behind), (q0cl_19 b3), (q0cl_20 b7), (q0cl_17 j)] ⟨w, w83.heap.size, [(old0 w), (Tl.tlbC b3 F69 (kvs (putX xc (⟨y49.Page, y49.Frame, y49.Rights⟩ : TLeaf)))), (Tl.tlbC b7 F72 (kvs (putX xc (⟨y49.Page, y49.Frame, y49.Rights⟩ : TLeaf)))), (refC w9.heap.size HD zd), (q0cl_11 n12 a33 xa cp34), (q0cl_3 n40 y49), (q0cl_0 n40 y49), (q0cl_4 w73 a75 xc y49 cp76), (q0cl_5 w77 a79 xc y49 cp80)]⟩ ⟨congrArg (Value.int .i64) (wr_i64 (by omega) (by omega) (by omega)), trivial⟩ ?_
             refine e_pick [0, 1, 2, 3, 4] [(old0 w), (Tl.tlbC b3 F69 (kvs (putX xc (⟨y49.Page, y49.Frame, y49.Rights⟩ : TLeaf)))), (Tl.tlbC b7 F72 (kvs (putX xc (⟨y49.Page, y49.Frame, y49.Rights⟩ : TLeaf)))), (refC w9.heap.size HD zd), (q0cl_11 n12 a33 xa cp34)] rfl rfl ?_
             refine e_eqk [1, 5, 6, 10] [(q0cl_14 behind), (q0cl_19 b3), (q0cl_20 b7), (q0cl_17 j)] (by (try dsimp only [q0cl_0, q0cl_1, q0cl_2, q0cl_3, q0cl_4, q0cl_5, q0cl_6, q0cl_7, q0cl_8, q0cl_9, q0cl_10, q0cl_11, q0cl_12, q0cl_13, q0cl_14, q0cl_15, q0cl_16, q0cl_17, q0cl_18, q0cl_19, q0cl_20, q0cl_21, q0cl_22, q0cl_23]); simp only [ha44]; rfl) ?_
             refine e_inv (fun a w' hs => ⟨behind.xs.length - (j + 1), by omega, w83.heap.size, (j + 1), F69, F72, (putX xc (⟨y49.Page, y49.Frame, y49.Rights⟩ : TLeaf)), rfl, by omega, by omega, hs⟩)
           · refine g_region <| l_all 2 [oF, o0] [1, 5, 6, 10, 11, 67, 92] [EF y49.Kind 1] [(q0cl_12 b42 o43 behind), (q0cl_19 b3), (q0cl_20 b7), (10, .int .i64 (j : Int)), (q0cl_18 n40), (67, .int .i64 y49.Kind), (92, .bool false)] ⟨w, n40 + 1, (q0cl_21 w b3 FA2 xc b7 FB2 w9 HD zd n12 a33 xa cp34 n40 y49)⟩ ⟨ef (by omega), trivial⟩ ?_
             refine e_seq <| g_false <| g_seq ?_
             by_cases h84 : (y49.Kind : Int) = 2
             · refine g_region <| l_all 2 [oT, o0] [1, 5, 6, 10, 11, 67, 109] [ET y49.Kind 2] [(q0cl_12 b42 o43 behind), (q0cl_19 b3), (q0cl_20 b7), (10, .int .i64 (j : Int)), (q0cl_18 n40), (67, .int .i64 y49.Kind), (109, .bool true)] ⟨w, n40 + 1, (q0cl_21 w b3 FA2 xc b7 FB2 w9 HD zd n12 a33 xa cp34 n40 y49)⟩ ⟨et (by omega), trivial⟩ ?_
               refine e_seq <| g_true <| g_seq <| g_region <| l_run 1 [o0] [1, 5, 6, 10, 111] [] [(q0cl_12 b42 o43 behind), (q0cl_19 b3), (q0cl_20 b7), (10, .int .i64 (j : Int)), (111, .pointer (some ⟨b3, 0, none⟩))] ⟨w, n40 + 1, (q0cl_21 w b3 FA2 xc b7 FB2 w9 HD zd n12 a33 xa cp34 n40 y49)⟩ trivial ?_
               refine l_call [] [] 15 #[.pointer (some ⟨b3, 0, none⟩)] (some 112) trivial ?_
               intro w85 hw85
               refine (flush_satX hw85 (i := 1) rfl).mono ?_
               rintro e w86 ⟨rfl, hmw86, hSw86⟩; have hnw86 : n40 + 1 ≤ w86.heap.size := hmw86
               refine ⟨_, _, rfl, hSw86, ?_⟩
               refine l_keep [1, 5, 6, 10] [(q0cl_12 b42 o43 behind), (q0cl_19 b3), (q0cl_20 b7), (10, .int .i64 (j : Int))] ?_
               refine l_nil (by kernel_rfl) ?_
               refine e_seq <| g_region <| l_run 1 [o0] [1, 5, 6, 10, 113] [] [(q0cl_12 b42 o43 behind), (q0cl_19 b3), (q0cl_20 b7), (10, .int .i64 (j : Int)), (113, .pointer (some ⟨b7, 0, none⟩))] ⟨w, w86.heap.size, [(old0 w), (Tl.tlbC b3 FA2 (kvs ([] : List TLeaf))), (Tl.tlbC b7 FB2 (kvs xc)), (refC w9.heap.size HD zd), (q0cl_11 n12 a33 xa cp34), (q0cl_3 n40 y49)]⟩ trivial ?_
               refine l_call [] [] 15 #[.pointer (some ⟨b7, 0, none⟩)] (some 114) trivial ?_
               intro w87 hw87
               refine (flush_satX hw87 (i := 2) rfl).mono ?_
               rintro e w88 ⟨rfl, hmw88, hSw88⟩; have hnw88 : w86.heap.size ≤ w88.heap.size := hmw88
               refine ⟨_, _, rfl, hSw88, ?_⟩
               refine l_keep [1, 5, 6, 10] [(q0cl_12 b42 o43 behind), (q0cl_19 b3), (q0cl_20 b7), (10, .int .i64 (j : Int))] ?_
               refine l_nil (by kernel_rfl) ?_
               refine e_blk <| e_seq <| g_seq <| g_tlblen 1 b3 FA2 ([] : List TLeaf) (fun hx5 _ => ?_)
               refine g_region <| l_run 1 [o0] [1, 5, 6, 10, 129] [] [(q0cl_12 b42 o43 behind), (q0cl_19 b3), (q0cl_20 b7), (10, .int .i64 (j : Int)), (129, .pointer (some ⟨b3, 0, none⟩))] ⟨w, w88.heap.size, [(old0 w), (Tl.tlbC b3 FA2 (kvs ([] : List TLeaf))), (Tl.tlbC b7 FB2 (kvs ([] : List TLeaf))), (refC w9.heap.size HD zd), (q0cl_11 n12 a33 xa cp34), (q0cl_3 n40 y49)]⟩ trivial ?_
               refine l_call [] [] 9 #[.pointer (some ⟨b3, 0, none⟩)] (some 130) trivial ?_
               intro w89 hw89
               refine (leaves_satX hw89 (i := 1) rfl).mono ?_
               rintro e w92 ⟨a90, cp91, rfl, hmw92, hSw92⟩; have hnw92 : w88.heap.size ≤ w92.heap.size := hmw92
               refine ⟨_, _, rfl, hSw92, ?_⟩
               refine l_keep [1, 5, 6, 10, 130] [(q0cl_12 b42 o43 behind), (q0cl_19 b3), (q0cl_20 b7), (10, .int .i64 (j : Int)), (130, .slice a90 (([] : List TLeaf).length) cp91)] ?_
               refine l_run 1 [o0] [1, 5, 6, 10, 130, 131] [] [(q0cl_12 b42 o43 behind), (q0cl_19 b3), (q0cl_20 b7), (10, .int .i64 (j : Int)), (130, .slice a90 (([] : List TLeaf).length) cp91), (131, .pointer (some ⟨b7, 0, none⟩))] ⟨w, w92.heap.size, [(old0 w), (Tl.tlbC b3 FA2 (kvs ([] : List TLeaf))), (Tl.tlbC b7 FB2 (kvs ([] : List TLeaf))), (refC w9.heap.size HD zd), (q0cl_11 n12 a33 xa cp34), (q0cl_3 n40 y49), (q0cl_8 w88 a90 cp91)]⟩ trivial ?_
               refine l_call [] [] 9 #[.pointer (some ⟨b7, 0, none⟩)] (some 132) trivial ?_
               intro w93 hw93
               refine (leaves_satX hw93 (i := 2) rfl).mono ?_
               rintro e w96 ⟨a94, cp95, rfl, hmw96, hSw96⟩; have hnw96 : w92.heap.size ≤ w96.heap.size := hmw96
               refine ⟨_, _, rfl, hSw96, ?_⟩
               refine l_keep [1, 5, 6, 10, 130, 132] [(q0cl_12 b42 o43 behind), (q0cl_19 b3), (q0cl_20 b7), (10, .int .i64 (j : Int)), (130, .slice a90 (([] : List TLeaf).length) cp91), (132, .slice a94 (([] : List TLeaf).length) cp95)] ?_
               refine l_call [] [] 13 #[.slice a90 (([] : List TLeaf).length) cp91, .slice a94 (([] : List TLeaf).length) cp95] (some 133) trivial ?_
               intro w97 hw97
               refine (same_yes w97 ⟨a90, cp91, ([] : List TLeaf)⟩ ⟨a94, cp95, ([] : List TLeaf)⟩ (row_any hw97 (i := 6) rfl (by omega)) (row_any hw97 (i := 7) rfl (by omega)) rfl).mono ?_
               rintro e w98 ⟨rfl, hkw98⟩
               have hnw98 : w96.heap.size ≤ w98.heap.size := by have := hkw98.size; rw [hw97.size] at this; exact this
               refine ⟨_, _, rfl, hw97.keeps hkw98, ?_⟩
               refine l_keep [1, 5, 6, 10, 133] [(q0cl_12 b42 o43 behind), (q0cl_19 b3), (q0cl_20 b7), (10, .int .i64 (j : Int)), (133, .bool true)] ?_
               refine l_all 1 [o0] [1, 5, 6, 10, 134] [] [(q0cl_12 b42 o43 behind), (q0cl_19 b3), (q0cl_20 b7), (10, .int .i64 (j : Int)), (134, .bool false)] ⟨w, w98.heap.size, [(old0 w), (Tl.tlbC b3 FA2 (kvs ([] : List TLeaf))), (Tl.tlbC b7 FB2 (kvs ([] : List TLeaf))), (refC w9.heap.size HD zd), (q0cl_11 n12 a33 xa cp34), (q0cl_3 n40 y49), (q0cl_8 w88 a90 cp91), (rowL w92.heap.size 26 3 TLeaf.cells (.slice a94 (([] : List TLeaf).length) cp95) ([] : List TLeaf))]⟩ trivial ?_
               refine e_seq <| g_false <| g_skip <| e_blk <| e_seq <| g_region <| l_all 3 [o0, (ov (.int .i64 ((j + 1 : Nat) : Int))), o0] [1, 5, 6, 10] [Value.int .i64 (IntKind.i64.wrap (((j : Int) : Int) + 1)) = Value.int .i64 (((j + 1 : Nat) : Int))] [(q0cl_12 b42 o43 behind), (q0cl_19 b3), (q0cl_20 b7), (q0cl_17 j)] ⟨w, w98.heap.size, [(old0 w), (Tl.tlbC b3 FA2 (kvs ([] : List TLeaf))), (Tl.tlbC b7 FB2 (kvs ([] : List TLeaf))), (refC w9.heap.size HD zd), (q0cl_11 n12 a33 xa cp34), (q0cl_3 n40 y49), (q0cl_8 w88 a90 cp91), (rowL w92.heap.size 26 3 TLeaf.cells (.slice a94 (([] : List TLeaf).length) cp95) ([] : List TLeaf))]⟩ ⟨congrArg (Value.int .i64) (wr_i64 (by omega) (by omega) (by omega)), trivial⟩ ?_
               refine e_pick [0, 1, 2, 3, 4] [(old0 w), (Tl.tlbC b3 FA2 (kvs ([] : List TLeaf))), (Tl.tlbC b7 FB2 (kvs ([] : List TLeaf))), (refC w9.heap.size HD zd), (q0cl_11 n12 a33 xa cp34)] rfl rfl ?_
               refine e_eqk [1, 5, 6, 10] [(q0cl_14 behind), (q0cl_19 b3), (q0cl_20 b7), (q0cl_17 j)] (by (try dsimp only [q0cl_0, q0cl_1, q0cl_2, q0cl_3, q0cl_4, q0cl_5, q0cl_6, q0cl_7, q0cl_8, q0cl_9, q0cl_10, q0cl_11, q0cl_12, q0cl_13, q0cl_14, q0cl_15, q0cl_16, q0cl_17, q0cl_18, q0cl_19, q0cl_20, q0cl_21, q0cl_22, q0cl_23]); simp only [ha44]; rfl) ?_
               refine e_inv (fun a w' hs => ⟨behind.xs.length - (j + 1), by omega, w98.heap.size, (j + 1), FA2, FB2, ([] : List TLeaf), rfl, by omega, by omega, hs⟩)
             · refine g_region <| l_all 2 [oF, o0] [1, 5, 6, 10, 11, 67, 109] [EF y49.Kind 2] [(q0cl_12 b42 o43 behind), (q0cl_19 b3), (q0cl_20 b7), (10, .int .i64 (j : Int)), (q0cl_18 n40), (67, .int .i64 y49.Kind), (109, .bool false)] ⟨w, n40 + 1, (q0cl_21 w b3 FA2 xc b7 FB2 w9 HD zd n12 a33 xa cp34 n40 y49)⟩ ⟨ef (by omega), trivial⟩ ?_
               refine e_seq <| g_false <| g_seq ?_
               by_cases h99 : (y49.Kind : Int) = 4
               · refine g_region <| l_all 2 [oT, o0] [1, 5, 6, 10, 11, 115] [ET y49.Kind 4] [(q0cl_12 b42 o43 behind), (q0cl_19 b3), (q0cl_20 b7), (10, .int .i64 (j : Int)), (q0cl_18 n40), (115, .bool true)] ⟨w, n40 + 1, (q0cl_21 w b3 FA2 xc b7 FB2 w9 HD zd n12 a33 xa cp34 n40 y49)⟩ ⟨et (by omega), trivial⟩ ?_
                 refine e_seq <| g_true <| g_seq <| g_region <| l_run 3 [o0, o0, (oa [.at 5])] [1, 5, 6, 10, 11, 117, 119] [Qb n40] [(q0cl_12 b42 o43 behind), (q0cl_19 b3), (q0cl_20 b7), (10, .int .i64 (j : Int)), (q0cl_18 n40), (117, .pointer (some ⟨b3, 0, none⟩)), (119, .slice y49.Leaves.a y49.Leaves.xs.length y49.Leaves.cap)] ⟨w, n40 + 1, (q0cl_21 w b3 FA2 xc b7 FB2 w9 HD zd n12 a33 xa cp34 n40 y49)⟩ ⟨rfl, trivial⟩ ?_
                 refine l_call [] [] 16 #[.slice y49.Leaves.a y49.Leaves.xs.length y49.Leaves.cap] (some 120) trivial ?_
                 intro w100 hw100
                 refine (copied_calls w100 y49.Leaves (sl_mono (hw100.ext rfl) (fun _ h => h) he48.Leaves.1) he48.Leaves.2).mono ?_
                 rintro e w103 ⟨a101, cp102, rfl, how103, hkw103⟩
                 have hnw103 : n40 + 1 ≤ w103.heap.size := by have := hkw103.size; rw [hw100.size] at this; exact this
                 rw [hw100.size] at how103
                 refine ⟨_, _, rfl, hw100.keeps1 hkw103 (q0cl_10 n40 a101 y49 cp102) how103 (row_stable _ _ _ _ _ _) (fun b hb => how103.lt b hb), ?_⟩
                 refine l_keep [1, 5, 6, 10, 11, 117, 120] [(q0cl_12 b42 o43 behind), (q0cl_19 b3), (q0cl_20 b7), (10, .int .i64 (j : Int)), (q0cl_18 n40), (117, .pointer (some ⟨b3, 0, none⟩)), (120, .slice a101 y49.Leaves.xs.length cp102)] ?_
                 refine l_call [] [] 14 #[.pointer (some ⟨b3, 0, none⟩), .slice a101 y49.Leaves.xs.length cp102] (some 121) trivial ?_
                 intro w104 hw104
                 refine (trestore_sat hw104 (i := 1) rfl ⟨a101, cp102, y49.Leaves.xs⟩ (row_not hw104 (i := 6) (j := 1) rfl (by omega) rfl (by decide))).mono ?_
                 rintro e w106 ⟨F105, rfl, hmw106, hSw106⟩; have hnw106 : w103.heap.size ≤ w106.heap.size := hmw106
                 refine ⟨_, _, rfl, hSw106, ?_⟩
                 refine l_keep [1, 5, 6, 10, 11, 121] [(q0cl_12 b42 o43 behind), (q0cl_19 b3), (q0cl_20 b7), (10, .int .i64 (j : Int)), (q0cl_18 n40), (121, .int .i64 (errR y49.Leaves.xs))] ?_
                 refine l_all 1 [o0] [1, 5, 6, 10, 11, 18] [] [(q0cl_12 b42 o43 behind), (q0cl_19 b3), (q0cl_20 b7), (10, .int .i64 (j : Int)), (q0cl_18 n40), (18, .int .i64 (errR y49.Leaves.xs))] ⟨w, w106.heap.size, [(old0 w), (Tl.tlbC b3 F105 (kvs (resX xc y49.Leaves.xs))), (Tl.tlbC b7 FB2 (kvs xc)), (refC w9.heap.size HD zd), (q0cl_11 n12 a33 xa cp34), (q0cl_3 n40 y49), (q0cl_10 n40 a101 y49 cp102)]⟩ trivial ?_
                 refine e_seq <| g_seq <| g_region <| l_run 4 [o0, o0, o0, (oa [.at 5])] [1, 5, 6, 10, 122, 123, 125] [Qb n40] [(q0cl_12 b42 o43 behind), (q0cl_19 b3), (q0cl_20 b7), (10, .int .i64 (j : Int)), (122, .int .i64 (errR y49.Leaves.xs)), (123, .pointer (some ⟨b7, 0, none⟩)), (125, .slice y49.Leaves.a y49.Leaves.xs.length y49.Leaves.cap)] ⟨w, w106.heap.size, [(old0 w), (Tl.tlbC b3 F105 (kvs (resX xc y49.Leaves.xs))), (Tl.tlbC b7 FB2 (kvs xc)), (refC w9.heap.size HD zd), (q0cl_11 n12 a33 xa cp34), (q0cl_3 n40 y49), (q0cl_10 n40 a101 y49 cp102)]⟩ ⟨rfl, trivial⟩ ?_
                 refine l_call [] [] 16 #[.slice y49.Leaves.a y49.Leaves.xs.length y49.Leaves.cap] (some 126) trivial ?_
                 intro w107 hw107
                 refine (copied_calls w107 y49.Leaves (sl_mono (hw107.ext rfl) (fun _ h => h) he48.Leaves.1) he48.Leaves.2).mono ?_
                 rintro e w110 ⟨a108, cp109, rfl, how110, hkw110⟩
                 have hnw110 : w106.heap.size ≤ w110.heap.size := by have := hkw110.size; rw [hw107.size] at this; exact this
                 rw [hw107.size] at how110
                 refine ⟨_, _, rfl, hw107.keeps1 hkw110 (q0cl_9 w106 a108 y49 cp109) how110 (row_stable _ _ _ _ _ _) (fun b hb => how110.lt b hb), ?_⟩
                 refine l_keep [1, 5, 6, 10, 122, 123, 126] [(q0cl_12 b42 o43 behind), (q0cl_19 b3), (q0cl_20 b7), (10, .int .i64 (j : Int)), (122, .int .i64 (errR y49.Leaves.xs)), (123, .pointer (some ⟨b7, 0, none⟩)), (126, .slice a108 y49.Leaves.xs.length cp109)] ?_
                 refine l_call [] [] 14 #[.pointer (some ⟨b7, 0, none⟩), .slice a108 y49.Leaves.xs.length cp109] (some 127) trivial ?_
                 intro w111 hw111
                 refine (trestore_sat hw111 (i := 2) rfl ⟨a108, cp109, y49.Leaves.xs⟩ (row_not hw111 (i := 7) (j := 2) rfl (by omega) rfl (by decide))).mono ?_
                 rintro e w113 ⟨F112, rfl, hmw113, hSw113⟩; have hnw113 : w110.heap.size ≤ w113.heap.size := hmw113
                 refine ⟨_, _, rfl, hSw113, ?_⟩
                 refine l_keep [1, 5, 6, 10, 122, 127] [(q0cl_12 b42 o43 behind), (q0cl_19 b3), (q0cl_20 b7), (10, .int .i64 (j : Int)), (122, .int .i64 (errR y49.Leaves.xs)), (127, .int .i64 (errR y49.Leaves.xs))] ?_
                 refine l_all 1 [oF] [1, 5, 6, 10, 128] [NF (errR y49.Leaves.xs) (errR y49.Leaves.xs)] [(q0cl_12 b42 o43 behind), (q0cl_19 b3), (q0cl_20 b7), (10, .int .i64 (j : Int)), (128, .bool false)] ⟨w, w113.heap.size, [(old0 w), (Tl.tlbC b3 F105 (kvs (resX xc y49.Leaves.xs))), (Tl.tlbC b7 F112 (kvs (resX xc y49.Leaves.xs))), (refC w9.heap.size HD zd), (q0cl_11 n12 a33 xa cp34), (q0cl_3 n40 y49), (q0cl_10 n40 a101 y49 cp102), (q0cl_9 w106 a108 y49 cp109)]⟩ ⟨nf (by omega), trivial⟩ ?_
                 refine e_seq <| g_false <| g_skip <| e_blk <| e_seq <| g_seq <| g_tlblen 1 b3 F105 (resX xc y49.Leaves.xs) (fun hx5 _ => ?_)
                 refine g_region <| l_run 1 [o0] [1, 5, 6, 10, 129] [] [(q0cl_12 b42 o43 behind), (q0cl_19 b3), (q0cl_20 b7), (10, .int .i64 (j : Int)), (129, .pointer (some ⟨b3, 0, none⟩))] ⟨w, w113.heap.size, [(old0 w), (Tl.tlbC b3 F105 (kvs (resX xc y49.Leaves.xs))), (Tl.tlbC b7 F112 (kvs (resX xc y49.Leaves.xs))), (refC w9.heap.size HD zd), (q0cl_11 n12 a33 xa cp34), (q0cl_3 n40 y49), (q0cl_10 n40 a101 y49 cp102), (q0cl_9 w106 a108 y49 cp109)]⟩ trivial ?_
                 refine l_call [] [] 9 #[.pointer (some ⟨b3, 0, none⟩)] (some 130) trivial ?_
                 intro w114 hw114
                 refine (leaves_satX hw114 (i := 1) rfl).mono ?_
                 rintro e w117 ⟨a115, cp116, rfl, hmw117, hSw117⟩; have hnw117 : w113.heap.size ≤ w117.heap.size := hmw117
                 refine ⟨_, _, rfl, hSw117, ?_⟩
                 refine l_keep [1, 5, 6, 10, 130] [(q0cl_12 b42 o43 behind), (q0cl_19 b3), (q0cl_20 b7), (10, .int .i64 (j : Int)), (130, .slice a115 ((resX xc y49.Leaves.xs).length) cp116)] ?_
                 refine l_run 1 [o0] [1, 5, 6, 10, 130, 131] [] [(q0cl_12 b42 o43 behind), (q0cl_19 b3), (q0cl_20 b7), (10, .int .i64 (j : Int)), (130, .slice a115 ((resX xc y49.Leaves.xs).length) cp116), (131, .pointer (some ⟨b7, 0, none⟩))] ⟨w, w117.heap.size, [(old0 w), (Tl.tlbC b3 F105 (kvs (resX xc y49.Leaves.xs))), (Tl.tlbC b7 F112 (kvs (resX xc y49.Leaves.xs))), (refC w9.heap.size HD zd), (q0cl_11 n12 a33 xa cp34), (q0cl_3 n40 y49), (q0cl_10 n40 a101 y49 cp102), (q0cl_9 w106 a108 y49 cp109), (q0cl_6 w113 a115 xc y49 cp116)]⟩ trivial ?_
                 refine l_call [] [] 9 #[.pointer (some ⟨b7, 0, none⟩)] (some 132) trivial ?_
                 intro w118 hw118
                 refine (leaves_satX hw118 (i := 2) rfl).mono ?_
                 rintro e w121 ⟨a119, cp120, rfl, hmw121, hSw121⟩; have hnw121 : w117.heap.size ≤ w121.heap.size := hmw121
                 refine ⟨_, _, rfl, hSw121, ?_⟩
                 refine l_keep [1, 5, 6, 10, 130, 132] [(q0cl_12 b42 o43 behind), (q0cl_19 b3), (q0cl_20 b7), (10, .int .i64 (j : Int)), (130, .slice a115 ((resX xc y49.Leaves.xs).length) cp116), (132, .slice a119 ((resX xc y49.Leaves.xs).length) cp120)] ?_
                 refine l_call [] [] 13 #[.slice a115 ((resX xc y49.Leaves.xs).length) cp116, .slice a119 ((resX xc y49.Leaves.xs).length) cp120] (some 133) trivial ?_
                 intro w122 hw122
                 refine (same_yes w122 ⟨a115, cp116, (resX xc y49.Leaves.xs)⟩ ⟨a119, cp120, (resX xc y49.Leaves.xs)⟩ (row_any hw122 (i := 8) rfl (by omega)) (row_any hw122 (i := 9) rfl (by omega)) rfl).mono ?_
                 rintro e w123 ⟨rfl, hkw123⟩
                 have hnw123 : w121.heap.size ≤ w123.heap.size := by have := hkw123.size; rw [hw122.size] at this; exact this
                 refine ⟨_, _, rfl, hw122.keeps hkw123, ?_⟩
                 refine l_keep [1, 5, 6, 10, 133] [(q0cl_12 b42 o43 behind), (q0cl_19 b3), (q0cl_20 b7), (10, .int .i64 (j : Int)), (133, .bool true)] ?_
                 refine l_all 1 [o0] [1, 5, 6, 10, 134] [] [(q0cl_12 b42 o43 behind), (q0cl_19 b3), (q0cl_20 b7), (10, .int .i64 (j : Int)), (134, .bool false)] ⟨w, w123.heap.size, [(old0 w), (Tl.tlbC b3 F105 (kvs (resX xc y49.Leaves.xs))), (Tl.tlbC b7 F112 (kvs (resX xc y49.Leaves.xs))), (refC w9.heap.size HD zd), (q0cl_11 n12 a33 xa cp34), (q0cl_3 n40 y49), (q0cl_10 n40 a101 y49 cp102), (q0cl_9 w106 a108 y49 cp109), (q0cl_6 w113 a115 xc y49 cp116), (rowL w117.heap.size 26 3 TLeaf.cells (.slice a119 ((resX xc y49.Leaves.xs).length) cp120) (resX xc y49.Leaves.xs))]⟩ trivial ?_
                 refine e_seq <| g_false <| g_skip <| e_blk <| e_seq <| g_region <| l_all 3 [o0, (ov (.int .i64 ((j + 1 : Nat) : Int))), o0] [1, 5, 6, 10] [Value.int .i64 (IntKind.i64.wrap (((j : Int) : Int) + 1)) = Value.int .i64 (((j + 1 : Nat) : Int))] [(q0cl_12 b42 o43 behind), (q0cl_19 b3), (q0cl_20 b7), (q0cl_17 j)] ⟨w, w123.heap.size, [(old0 w), (Tl.tlbC b3 F105 (kvs (resX xc y49.Leaves.xs))), (Tl.tlbC b7 F112 (kvs (resX xc y49.Leaves.xs))), (refC w9.heap.size HD zd), (q0cl_11 n12 a33 xa cp34), (q0cl_3 n40 y49), (q0cl_10 n40 a101 y49 cp102), (q0cl_9 w106 a108 y49 cp109), (q0cl_6 w113 a115 xc y49 cp116), (rowL w117.heap.size 26 3 TLeaf.cells (.slice a119 ((resX xc y49.Leaves.xs).length) cp120) (resX xc y49.Leaves.xs))]⟩ ⟨congrArg (Value.int .i64) (wr_i64 (by omega) (by omega) (by omega)), trivial⟩ ?_
                 refine e_pick [0, 1, 2, 3, 4] [(old0 w), (Tl.tlbC b3 F105 (kvs (resX xc y49.Leaves.xs))), (Tl.tlbC b7 F112 (kvs (resX xc y49.Leaves.xs))), (refC w9.heap.size HD zd), (q0cl_11 n12 a33 xa cp34)] rfl rfl ?_
                 refine e_eqk [1, 5, 6, 10] [(q0cl_14 behind), (q0cl_19 b3), (q0cl_20 b7), (q0cl_17 j)] (by (try dsimp only [q0cl_0, q0cl_1, q0cl_2, q0cl_3, q0cl_4, q0cl_5, q0cl_6, q0cl_7, q0cl_8, q0cl_9, q0cl_10, q0cl_11, q0cl_12, q0cl_13, q0cl_14, q0cl_15, q0cl_16, q0cl_17, q0cl_18, q0cl_19, q0cl_20, q0cl_21, q0cl_22, q0cl_23]); simp only [ha44]; rfl) ?_
                 refine e_inv (fun a w' hs => ⟨behind.xs.length - (j + 1), by omega, w123.heap.size, (j + 1), F105, F112, (resX xc y49.Leaves.xs), rfl, by omega, by omega, hs⟩)
               · refine g_region <| l_all 2 [oF, o0] [1, 5, 6, 10, 11, 115] [EF y49.Kind 4] [(q0cl_12 b42 o43 behind), (q0cl_19 b3), (q0cl_20 b7), (10, .int .i64 (j : Int)), (q0cl_18 n40), (115, .bool false)] ⟨w, n40 + 1, (q0cl_21 w b3 FA2 xc b7 FB2 w9 HD zd n12 a33 xa cp34 n40 y49)⟩ ⟨ef (by omega), trivial⟩ ?_
                 refine e_seq <| g_false <| g_skip <| e_blk <| e_seq <| g_seq <| g_tlblen 1 b3 FA2 xc (fun hx5 _ => ?_)
                 refine g_region <| l_run 1 [o0] [1, 5, 6, 10, 129] [] [(q0cl_12 b42 o43 behind), (q0cl_19 b3), (q0cl_20 b7), (10, .int .i64 (j : Int)), (129, .pointer (some ⟨b3, 0, none⟩))] ⟨w, n40 + 1, (q0cl_21 w b3 FA2 xc b7 FB2 w9 HD zd n12 a33 xa cp34 n40 y49)⟩ trivial ?_
                 refine l_call [] [] 9 #[.pointer (some ⟨b3, 0, none⟩)] (some 130) trivial ?_
                 intro w124 hw124
                 refine (leaves_satX hw124 (i := 1) rfl).mono ?_
                 rintro e w127 ⟨a125, cp126, rfl, hmw127, hSw127⟩; have hnw127 : n40 + 1 ≤ w127.heap.size := hmw127
                 refine ⟨_, _, rfl, hSw127, ?_⟩
                 refine l_keep [1, 5, 6, 10, 130] [(q0cl_12 b42 o43 behind), (q0cl_19 b3), (q0cl_20 b7), (10, .int .i64 (j : Int)), (130, .slice a125 xc.length cp126)] ?_
                 refine l_run 1 [o0] [1, 5, 6, 10, 130, 131] [] [(q0cl_12 b42 o43 behind), (q0cl_19 b3), (q0cl_20 b7), (10, .int .i64 (j : Int)), (130, .slice a125 xc.length cp126), (131, .pointer (some ⟨b7, 0, none⟩))] ⟨w, w127.heap.size, [(old0 w), (Tl.tlbC b3 FA2 (kvs xc)), (Tl.tlbC b7 FB2 (kvs xc)), (refC w9.heap.size HD zd), (q0cl_11 n12 a33 xa cp34), (q0cl_3 n40 y49), (rowL (n40 + 1) 26 3 TLeaf.cells (.slice a125 xc.length cp126) xc)]⟩ trivial ?_
                 refine l_call [] [] 9 #[.pointer (some ⟨b7, 0, none⟩)] (some 132) trivial ?_
                 intro w128 hw128
                 refine (leaves_satX hw128 (i := 2) rfl).mono ?_
                 rintro e w131 ⟨a129, cp130, rfl, hmw131, hSw131⟩; have hnw131 : w127.heap.size ≤ w131.heap.size := hmw131
                 refine ⟨_, _, rfl, hSw131, ?_⟩
                 refine l_keep [1, 5, 6, 10, 130, 132] [(q0cl_12 b42 o43 behind), (q0cl_19 b3), (q0cl_20 b7), (10, .int .i64 (j : Int)), (130, .slice a125 xc.length cp126), (132, .slice a129 xc.length cp130)] ?_
                 refine l_call [] [] 13 #[.slice a125 xc.length cp126, .slice a129 xc.length cp130] (some 133) trivial ?_
                 intro w132 hw132
                 refine (same_yes w132 ⟨a125, cp126, xc⟩ ⟨a129, cp130, xc⟩ (row_any hw132 (i := 6) rfl (by omega)) (row_any hw132 (i := 7) rfl (by omega)) rfl).mono ?_
                 rintro e w133 ⟨rfl, hkw133⟩
                 have hnw133 : w131.heap.size ≤ w133.heap.size := by have := hkw133.size; rw [hw132.size] at this; exact this
                 refine ⟨_, _, rfl, hw132.keeps hkw133, ?_⟩
                 refine l_keep [1, 5, 6, 10, 133] [(q0cl_12 b42 o43 behind), (q0cl_19 b3), (q0cl_20 b7), (10, .int .i64 (j : Int)), (133, .bool true)] ?_
                 refine l_all 1 [o0] [1, 5, 6, 10, 134] [] [(q0cl_12 b42 o43 behind), (q0cl_19 b3), (q0cl_20 b7), (10, .int .i64 (j : Int)), (134, .bool false)] ⟨w, w133.heap.size, [(old0 w), (Tl.tlbC b3 FA2 (kvs xc)), (Tl.tlbC b7 FB2 (kvs xc)), (refC w9.heap.size HD zd), (q0cl_11 n12 a33 xa cp34), (q0cl_3 n40 y49), (rowL (n40 + 1) 26 3 TLeaf.cells (.slice a125 xc.length cp126) xc), (rowL w127.heap.size 26 3 TLeaf.cells (.slice a129 xc.length cp130) xc)]⟩ trivial ?_
                 refine e_seq <| g_false <| g_skip <| e_blk <| e_seq <| g_region <| l_all 3 [o0, (ov (.int .i64 ((j + 1 : Nat) : Int))), o0] [1, 5, 6, 10] [Value.int .i64 (IntKind.i64.wrap (((j : Int) : Int) + 1)) = Value.int .i64 (((j + 1 : Nat) : Int))] [(q0cl_12 b42 o43 behind), (q0cl_19 b3), (q0cl_20 b7), (q0cl_17 j)] ⟨w, w133.heap.size, [(old0 w), (Tl.tlbC b3 FA2 (kvs xc)), (Tl.tlbC b7 FB2 (kvs xc)), (refC w9.heap.size HD zd), (q0cl_11 n12 a33 xa cp34), (q0cl_3 n40 y49), (rowL (n40 + 1) 26 3 TLeaf.cells (.slice a125 xc.length cp126) xc), (rowL w127.heap.size 26 3 TLeaf.cells (.slice a129 xc.length cp130) xc)]⟩ ⟨congrArg (Value.int .i64) (wr_i64 (by omega) (by omega) (by omega)), trivial⟩ ?_
                 refine e_pick [0, 1, 2, 3, 4] (q0cl_22 w b3 FA2 xc b7 FB2 w9 HD zd n12 a33 xa cp34) rfl rfl ?_
                 refine e_eqk [1, 5, 6, 10] [(q0cl_14 behind), (q0cl_19 b3), (q0cl_20 b7), (q0cl_17 j)] (by (try dsimp only [q0cl_0, q0cl_1, q0cl_2, q0cl_3, q0cl_4, q0cl_5, q0cl_6, q0cl_7, q0cl_8, q0cl_9, q0cl_10, q0cl_11, q0cl_12, q0cl_13, q0cl_14, q0cl_15, q0cl_16, q0cl_17, q0cl_18, q0cl_19, q0cl_20, q0cl_21, q0cl_22, q0cl_23]); simp only [ha44]; rfl) ?_
                 refine e_inv (fun a w' hs => ⟨behind.xs.length - (j + 1), by omega, w133.heap.size, (j + 1), FA2, FB2, xc, rfl, by omega, by omega, hs⟩)
       · refine g_region <| l_all 4 [o0, o0, o0, oF] [1, 5, 6, 10, 59] [BF (((j : Int) : Int) < ((behind.xs.length : Nat) : Int))] [(q0cl_14 behind), (q0cl_19 b3), (q0cl_20 b7), (10, .int .i64 (j : Int)), (59, .bool false)] ⟨w, n40, (q0cl_22 w b3 FA2 xc b7 FB2 w9 HD zd n12 a33 xa cp34)⟩ ⟨bf (by omega), trivial⟩ ?_
         refine e_seq <| g_false <| g_exit <| e_out <| e_outI <| e_hit <| e_seq <| g_seq <| g_region <| l_all 1 [o0] [4] [] [(4, .bool true)] ⟨w, n40, (q0cl_22 w b3 FA2 xc b7 FB2 w9 HD zd n12 a33 xa cp34)⟩ trivial ?_
         refine e_seq <| g_ret <| e_ret [] [] (.bool true) trivial ?_
         intro w134 hw134
         exact ⟨rfl, hw134.back rfl (show w.heap.size ≤ n40 by omega) (List.mem_cons_self ..)⟩
end

end Go.Proofs.Ytbjcamafaolgiaa.Ly
