/- A step. No conditions. -/
import Derived.Test.YtbjcamafaolgiaaRf
namespace Go.Proofs.Ytbjcamafaolgiaa.Ly
open Go Go.Proofs.Ytbjcamafaolgiaa.Eng Go.Proofs.Ytbjcamafaolgiaa.Mem
set_option linter.unusedSimpArgs false
set_option linter.unusedVariables false
set_option maxRecDepth 100000
open Go.Proofs.Ytbjcamafaolgiaa.Sh Go.Proofs.Ytbjcamafaolgiaa.Tl
abbrev qx8k_0 (z : Nat) (o : TOp) : Ch := .blk (z + 1) (.cells #[.int .i64 o.Page, .int .i64 o.Frame, .int .i64 o.Rights] 26 (0, 0)) true
abbrev qx8k_1 (w4 : World) (xs : List TLeaf) (o : TOp) : Ch := .blk w4.heap.size (.cells (TLeaf.arr (fV xs o.Page)) 26 (0, 0)) true
abbrev qx8k_2 (w7 : World) (zs : List TLeaf) (o : TOp) : Ch := .blk w7.heap.size (.cells (TLeaf.arr (fV zs o.Page)) 26 (0, 0)) true
abbrev qx8k_3 (z : Nat) (a66 : Option Addr) (o : TOp) (cp67 : Nat) : Ch := rowL (z + 1) 26 3 TLeaf.cells (.slice a66 ((wideX o.Leaves.xs).length) cp67) (wideX o.Leaves.xs)
abbrev qx8k_4 (w71 : World) (a73 : Option Addr) (o : TOp) (cp74 : Nat) : Ch := rowL w71.heap.size 26 3 TLeaf.cells (.slice a73 o.Leaves.xs.length cp74) o.Leaves.xs
abbrev qx8k_5 (w36 : World) (a38 : Option Addr) (xs : List TLeaf) (cp39 : Nat) : Ch := rowL w36.heap.size 26 3 TLeaf.cells (.slice a38 xs.length cp39) xs
abbrev qx8k_6 (w40 : World) (a42 : Option Addr) (xs : List TLeaf) (cp43 : Nat) : Ch := rowL w40.heap.size 26 3 TLeaf.cells (.slice a42 xs.length cp43) xs
abbrev qx8k_7 (w53 : World) (a55 : Option Addr) (xs : List TLeaf) (cp56 : Nat) : Ch := rowL w53.heap.size 26 3 TLeaf.cells (.slice a55 xs.length cp56) xs
abbrev qx8k_8 (z : Nat) (a34 : Option Addr) (zs : List TLeaf) (cp35 : Nat) : Ch := rowL (z + 1) 26 3 TLeaf.cells (.slice a34 zs.length cp35) zs
abbrev qx8k_9 (a66 : Option Addr) (o : TOp) (cp67 : Nat) : Nat × Value := (17, .slice a66 o.Leaves.xs.length cp67)
abbrev qx8k_10 (tt : Nat) : Nat × Value := (0, .pointer (some ⟨tt, 0, none⟩))
abbrev qx8k_11 (dd : Nat) : Nat × Value := (1, .pointer (some ⟨dd, 0, none⟩))
theorem step_walk (w : World) (tt dd : Nat) (F H : Nat → Prop) (xs zs : List TLeaf) (o : TOp) (hT : TlbIs w tt F (kvs xs)) (hR : RefIs w dd H zs) (hFH : ∀ b, F b → ¬ H b) (hx4 : xs.length ≤ 4) (hz4 : zs.length ≤ 4) (hl2 : SlAt TLeaf.cells 3 (fun b => ¬ (F b ∨ H b)) w o.Leaves) (hB2 : o.Leaves.xs.length * 24 ≤ 140737488351232) : Calls Try.prog 12 #[.pointer (some ⟨tt, 0, none⟩), .pointer (some ⟨dd, 0, none⟩), .agg (TOp.arr o)] w fun e w' => StepPost w tt dd F H xs zs o e w' := by
 obtain ⟨z, hz⟩ : ∃ z, z = w.heap.size := ⟨_, rfl⟩
 refine calls_G (args := [.pointer (some ⟨tt, 0, none⟩), .pointer (some ⟨dd, 0, none⟩), .agg (TOp.arr o)]) 126 ⟨w, z, [(old (fun b => F b ∨ H b) w), (Tl.tlbC tt F (kvs xs)), (refC dd H zs)]⟩ Try.func12 rfl (by kernel_rfl) (by kernel_rfl) (hz ▸ sat_step hT hR hFH) ?_
 refine g_keep [0, 1, 2] [(qx8k_10 tt), (qx8k_11 dd), (2, .agg (TOp.arr o))] ?_
 refine g_seq <| g_region <| l_all 2 [o0, o0] [0, 1, 5] [] [(qx8k_10 tt), (qx8k_11 dd), (5, .pointer (some ⟨z, 0, none⟩))] ⟨w, z + 1, [(old (fun b => F b ∨ H b) w), (Tl.tlbC tt F (kvs xs)), (refC dd H zs), (.blk z (.cells (TOp.arr o) 39 (0, 0)) true)]⟩ trivial ?_
 refine e_seq <| g_seq <| g_seq <| g_region <| l_all 2 [o0, (oa [.at 3])] [0, 1, 5, 20] [Qb z] [(qx8k_10 tt), (qx8k_11 dd), (5, .pointer (some ⟨z, 0, none⟩)), (20, .int .i64 o.Kind)] ⟨w, z + 1, [(old (fun b => F b ∨ H b) w), (Tl.tlbC tt F (kvs xs)), (refC dd H zs), (.blk z (.cells (TOp.arr o) 39 (0, 0)) true)]⟩ ⟨rfl, trivial⟩ ?_
 refine e_seq <| g_block <| g_seq ?_
 by_cases h1 : (o.Kind : Int) = 0
 · refine g_region <| l_all 2 [oT, o0] [0, 1, 5, 20, 21] [ET o.Kind 0] [(qx8k_10 tt), (qx8k_11 dd), (5, .pointer (some ⟨z, 0, none⟩)), (20, .int .i64 o.Kind), (21, .bool true)] ⟨w, z + 1, [(old (fun b => F b ∨ H b) w), (Tl.tlbC tt F (kvs xs)), (refC dd H zs), (.blk z (.cells (TOp.arr o) 39 (0, 0)) true)]⟩ ⟨et (by omega), trivial⟩ ?_
   refine e_seq <| g_true <| g_seq <| g_region <| l_run 3 [o0, o0, (oa [.at 3])] [1, 5, 24, 26] [Qb z] [(qx8k_11 dd), (5, .pointer (some ⟨z, 0, none⟩)), (24, .pointer (some ⟨tt, 0, none⟩)), (26, .int .i64 o.Page)] ⟨w, z + 1, [(old (fun b => F b ∨ H b) w), (Tl.tlbC tt F (kvs xs)), (refC dd H zs), (.blk z (.cells (TOp.arr o) 39 (0, 0)) true)]⟩ ⟨rfl, trivial⟩ ?_
   refine l_call [] [] 10 #[.pointer (some ⟨tt, 0, none⟩), .int .i64 o.Page] (some 27) trivial ?_
   intro w2 hw2
   refine (find_satX hw2 (i := 1) rfl o.Page).mono ?_
   rintro e w4 ⟨F3, rfl, hmw4, hSw4⟩; have hnw4 : z + 1 ≤ w4.heap.size := hmw4
   refine ⟨_, _, rfl, hSw4, ?_⟩
   refine l_keep [1, 5, 27] [(qx8k_11 dd), (5, .pointer (some ⟨z, 0, none⟩)), (27, .tuple #[.agg (TLeaf.arr (fV xs o.Page)), .bool (fB xs o.Page)])] ?_
   refine l_all 6 [o0, o0, o0, o0, (oa [.at 4, .at 4, .at 4]), o0] [1, 5, 7, 8] [Qb w4.heap.size, Qb w4.heap.size, Qb w4.heap.size] [(qx8k_11 dd), (5, .pointer (some ⟨z, 0, none⟩)), (7, .pointer (some ⟨w4.heap.size, 0, none⟩)), (8, .bool (fB xs o.Page))] ⟨w, w4.heap.size + 1, [(old (fun b => F b ∨ H b) w), (Tl.tlbC tt F3 (kvs (findX xs o.Page))), (refC dd H zs), (.blk z (.cells (TOp.arr o) 39 (0, 0)) true), (qx8k_1 w4 xs o)]⟩ ⟨rfl, rfl, rfl, trivial⟩ ?_
   refine e_seq <| g_seq <| g_region <| l_run 3 [o0, o0, (oa [.at 3])] [7, 8, 31, 33] [Qb z] [(7, .pointer (some ⟨w4.heap.size, 0, none⟩)), (8, .bool (fB xs o.Page)), (31, .pointer (some ⟨dd, 0, none⟩)), (33, .int .i64 o.Page)] ⟨w, w4.heap.size + 1, [(old (fun b => F b ∨ H b) w), (Tl.tlbC tt F3 (kvs (findX xs o.Page))), (refC dd H zs), (.blk z (.cells (TOp.arr o) 39 (0, 0)) true), (qx8k_1 w4 xs o)]⟩ ⟨rfl, trivial⟩ ?_
   refine l_call [] [] 22 #[.pointer (some ⟨dd, 0, none⟩), .int .i64 o.Page] (some 34) trivial ?_
   intro w5 hw5
   refine (rfind_sat hw5 (i := 2) rfl o.Page).mono ?_
   rintro e w7 ⟨F6, rfl, hmw7, hSw7⟩; have hnw7 : w4.heap.size + 1 ≤ w7.heap.size := hmw7
   refine ⟨_, _, rfl, hSw7, ?_⟩
   refine l_keep [7, 8, 34] [(7, .pointer (some ⟨w4.heap.size, 0, none⟩)), (8, .bool (fB xs o.Page)), (34, .tuple #[.agg (TLeaf.arr (fV zs o.Page)), .bool (fB zs o.Page)])] ?_
   refine l_all 6 [o0, o0, o0, o0, (oa [.at 5, .at 5, .at 5]), o0] [7, 8, 9, 10] [Qb w7.heap.size, Qb w7.heap.size, Qb w7.heap.size] [(7, .pointer (some ⟨w4.heap.size, 0, none⟩)), (8, .bool (fB xs o.Page)), (9, .pointer (some ⟨w7.heap.size, 0, none⟩)), (10, .bool (fB zs o.Page))] ⟨w, w7.heap.size + 1, [(old (fun b => F b ∨ H b) w), (Tl.tlbC tt F3 (kvs (findX xs o.Page))), (refC dd F6 (findX zs o.Page)), (.blk z (.cells (TOp.arr o) 39 (0, 0)) true), (qx8k_1 w4 xs o), (qx8k_2 w7 zs o)]⟩ ⟨rfl, rfl, rfl, trivial⟩ ?_
   refine e_seq <| g_seq ?_
   by_cases h8 : (((fV xs o.Page).Page : Int) == ((fV zs o.Page).Page : Int) && (((fV xs o.Page).Frame : Int) == ((fV zs o.Page).Frame : Int) && (((fV xs o.Page).Rights : Int) == ((fV zs o.Page).Rights : Int) && true))) = true
   · by_cases h9 : (fB xs o.Page) = true
     · by_cases h10 : (fB zs o.Page) = true
       · refine g_region <| l_all 9 [(oa [.at 4, .at 4, .at 4]), (oa [.at 5, .at 5, .at 5]), ⟨.seq true, none⟩, o0, (ov (.bool true)), (ov (.bool true)), o0, o0, o0] [6] [Qb w4.heap.size, Qb w4.heap.size, Qb w4.heap.size, Qb w7.heap.size, Qb w7.heap.size, Qb w7.heap.size, (((fV xs o.Page).Page : Int) == ((fV zs o.Page).Page : Int) && (((fV xs o.Page).Frame : Int) == ((fV zs o.Page).Frame : Int) && (((fV xs o.Page).Rights : Int) == ((fV zs o.Page).Rights : Int) && true))) = true, Value.bool (fB xs o.Page) = Value.bool true, Value.bool (fB zs o.Page) = Value.bool true] [(6, .bool true)] ⟨w, w7.heap.size + 1, [(old (fun b => F b ∨ H b) w), (Tl.tlbC tt F3 (kvs (findX xs o.Page))), (refC dd F6 (findX zs o.Page)), (.blk z (.cells (TOp.arr o) 39 (0, 0)) true), (qx8k_1 w4 xs o), (qx8k_2 w7 zs o)]⟩ ⟨rfl, rfl, rfl, rfl, rfl, rfl, h8, (congrArg Value.bool h9), (congrArg Value.bool h10), trivial⟩ ?_
         refine e_seq <| g_ret <| e_ret [] [] (.bool true) trivial ?_
         intro w11 hw11
         have hX : ∀ ys, stepX ys o = findX ys o.Page := fun ys => by unfold stepX; rw [if_pos (by omega)]
         have hP := hw11.pick [0, 1, 2] (σ' := [(old (fun b => F b ∨ H b) w), (Tl.tlbC tt F3 (kvs (findX xs o.Page))), (refC dd F6 (findX zs o.Page))]) rfl rfl
         have hsz : w11.heap.size = w7.heap.size + 1 := hP.size
         refine ⟨_, F3, F6, rfl, fun _ => rfl, by omega, ?_⟩
         rw [hX xs, hX zs, hsz]
         exact hP
       · refine g_region <| l_all 9 [(oa [.at 4, .at 4, .at 4]), (oa [.at 5, .at 5, .at 5]), ⟨.seq true, none⟩, o0, (ov (.bool true)), (ov (.bool false)), o0, o0, o0] [6] [Qb w4.heap.size, Qb w4.heap.size, Qb w4.heap.size, Qb w7.heap.size, Qb w7.heap.size, Qb w7.heap.size, (((fV xs o.Page).Page : Int) == ((fV zs o.Page).Page : Int) && (((fV xs o.Page).Frame : Int) == ((fV zs o.Page).Frame : Int) && (((fV xs o.Page).Rights : Int) == ((fV zs o.Page).Rights : Int) && true))) = true, Value.bool (fB xs o.Page) = Value.bool true, Value.bool (fB zs o.Page) = Value.bool false] [(6, .bool false)] ⟨w, w7.heap.size + 1, [(old (fun b => F b ∨ H b) w), (Tl.tlbC tt F3 (kvs (findX xs o.Page))), (refC dd F6 (findX zs o.Page)), (.blk z (.cells (TOp.arr o) 39 (0, 0)) true), (qx8k_1 w4 xs o), (qx8k_2 w7 zs o)]⟩ ⟨rfl, rfl, rfl, rfl, rfl, rfl, h8, (congrArg Value.bool h9), (congrArg Value.bool (Bool.eq_false_iff.2 h10)), trivial⟩ ?_
         refine e_seq <| g_ret <| e_ret [] [] (.bool false) trivial ?_
         intro w12 hw12
         have hX : ∀ ys, stepX ys o = findX ys o.Page := fun ys => by unfold stepX; rw [if_pos (by omega)]
         have hP := hw12.pick [0, 1, 2] (σ' := [(old (fun b => F b ∨ H b) w), (Tl.tlbC tt F3 (kvs (findX xs o.Page))), (refC dd F6 (findX zs o.Page))]) rfl rfl
         have hsz : w12.heap.size = w7.heap.size + 1 := hP.size
         refine ⟨_, F3, F6, rfl, fun he => absurd (by rw [← he]; exact h9) h10, by omega, ?_⟩
         rw [hX xs, hX zs, hsz]
         exact hP
     · by_cases h13 : (fB zs o.Page) = true
       · refine g_region <| l_all 9 [(oa [.at 4, .at 4, .at 4]), (oa [.at 5, .at 5, .at 5]), ⟨.seq true, none⟩, o0, (ov (.bool false)), (ov (.bool true)), o0, o0, o0] [6] [Qb w4.heap.size, Qb w4.heap.size, Qb w4.heap.size, Qb w7.heap.size, Qb w7.heap.size, Qb w7.heap.size, (((fV xs o.Page).Page : Int) == ((fV zs o.Page).Page : Int) && (((fV xs o.Page).Frame : Int) == ((fV zs o.Page).Frame : Int) && (((fV xs o.Page).Rights : Int) == ((fV zs o.Page).Rights : Int) && true))) = true, Value.bool (fB xs o.Page) = Value.bool false, Value.bool (fB zs o.Page) = Value.bool true] [(6, .bool false)] ⟨w, w7.heap.size + 1, [(old (fun b => F b ∨ H b) w), (Tl.tlbC tt F3 (kvs (findX xs o.Page))), (refC dd F6 (findX zs o.Page)), (.blk z (.cells (TOp.arr o) 39 (0, 0)) true), (qx8k_1 w4 xs o), (qx8k_2 w7 zs o)]⟩ ⟨rfl, rfl, rfl, rfl, rfl, rfl, h8, (congrArg Value.bool (Bool.eq_false_iff.2 h9)), (congrArg Value.bool h13), trivial⟩ ?_
         refine e_seq <| g_ret <| e_ret [] [] (.bool false) trivial ?_
         intro w14 hw14
         have hX : ∀ ys, stepX ys o = findX ys o.Page := fun ys => by unfold stepX; rw [if_pos (by omega)]
         have hP := hw14.pick [0, 1, 2] (σ' := [(old (fun b => F b ∨ H b) w), (Tl.tlbC tt F3 (kvs (findX xs o.Page))), (refC dd F6 (findX zs o.Page))]) rfl rfl
         have hsz : w14.heap.size = w7.heap.size + 1 := hP.size
         refine ⟨_, F3, F6, rfl, fun he => absurd (by rw [he]; exact h13) h9, by omega, ?_⟩
         rw [hX xs, hX zs, hsz]
         exact hP
       · refine g_region <| l_all 9 [(oa [.at 4, .at 4, .at 4]), (oa [.at 5, .at 5, .at 5]), ⟨.seq true, none⟩, o0, (ov (.bool false)), (ov (.bool false)), o0, o0, o0] [6] [Qb w4.heap.size, Qb w4.heap.size, Qb w4.heap.size, Qb w7.heap.size, Qb w7.heap.size, Qb w7.heap.size, (((fV xs o.Page).Page : Int) == ((fV zs o.Page).Page : Int) && (((fV xs o.Page).Frame : Int) == ((fV zs o.Page).Frame : Int) && (((fV xs o.Page).Rights : Int) == ((fV zs o.Page).Rights : Int) && true))) = true, Value.bool (fB xs o.Page) = Value.bool false, Value.bool (fB zs o.Page) = Value.bool false] [(6, .bool true)] ⟨w, w7.heap.size + 1, [(old (fun b => F b ∨ H b) w), (Tl.tlbC tt F3 (kvs (findX xs o.Page))), (refC dd F6 (findX zs o.Page)), (.blk z (.cells (TOp.arr o) 39 (0, 0)) true), (qx8k_1 w4 xs o), (qx8k_2 w7 zs o)]⟩ ⟨rfl, rfl, rfl, rfl, rfl, rfl, h8, (congrArg Value.bool (Bool.eq_false_iff.2 h9)), (congrArg Value.bool (Bool.eq_false_iff.2 h13)), trivial⟩ ?_
         refine e_seq <| g_ret <| e_ret [] [] (.bool true) trivial ?_
         intro w15 hw15
         have hX : ∀ ys, stepX ys o = findX ys o.Page := fun ys => by unfold stepX; rw [if_pos (by omega)]
         have hP := hw15.pick [0, 1, 2] (σ' := [(old (fun b => F b ∨ H b) w), (Tl.tlbC tt F3 (kvs (findX xs o.Page))), (refC dd F6 (findX zs o.Page))]) rfl rfl
         have hsz : w15.heap.size = w7.heap.size + 1 := hP.size
         refine ⟨_, F3, F6, rfl, fun _ => rfl, by omega, ?_⟩
         rw [hX xs, hX zs, hsz]
         exact hP
   · refine g_region <| l_all 9 [(oa [.at 4, .at 4, .at 4]), (oa [.at 5, .at 5, .at 5]), ⟨.seq false, none⟩, o0, o0, o0] [6] [Qb w4.heap.size, Qb w4.heap.size, Qb w4.heap.size, Qb w7.heap.size, Qb w7.heap.size, Qb w7.heap.size, (((fV xs o.Page).Page : Int) == ((fV zs o.Page).Page : Int) && (((fV xs o.Page).Frame : Int) == ((fV zs o.Page).Frame : Int) && (((fV xs o.Page).Rights : Int) == ((fV zs o.Page).Rights : Int) && true))) = false] [(6, .bool false)] ⟨w, w7.heap.size + 1, [(old (fun b => F b ∨ H b) w), (Tl.tlbC tt F3 (kvs (findX xs o.Page))), (refC dd F6 (findX zs o.Page)), (.blk z (.cells (TOp.arr o) 39 (0, 0)) true), (qx8k_1 w4 xs o), (qx8k_2 w7 zs o)]⟩ ⟨rfl, rfl, rfl, rfl, rfl, rfl, (Bool.eq_false_iff.2 h8), trivial⟩ ?_
     refine e_seq <| g_ret <| e_ret [] [] (.bool false) trivial ?_
     intro w16 hw16
     have hX : ∀ ys, stepX ys o = findX ys o.Page := fun ys => by unfold stepX; rw [if_pos (by omega)]
     have hP := hw16.pick [0, 1, 2] (σ' := [(old (fun b => F b ∨ H b) w), (Tl.tlbC tt F3 (kvs (findX xs o.Page))), (refC dd F6 (findX zs o.Page))]) rfl rfl
     have hsz : w16.heap.size = w7.heap.size + 1 := hP.size
     refine ⟨_, F3, F6, rfl, fun he => absurd (by rw [he]; simp) h8, by omega, ?_⟩
     rw [hX xs, hX zs, hsz]
     exact hP
 · refine g_region <| l_all 2 [oF, o0] [0, 1, 5, 20, 21] [EF o.Kind 0] [(qx8k_10 tt), (qx8k_11 dd), (5, .pointer (some ⟨z, 0, none⟩)), (20, .int .i64 o.Kind), (21, .bool false)] ⟨w, z + 1, [(old (fun b => F b ∨ H b) w), (Tl.tlbC tt F (kvs xs)), (refC dd H zs), (.blk z (.cells (TOp.arr o) 39 (0, 0)) true)]⟩ ⟨ef (by omega), trivial⟩ ?_
   refine e_seq <| g_false <| g_seq ?_
   by_cases h17 : (o.Kind : Int) = 1
   · refine g_region <| l_all 2 [oT, o0] [0, 1, 5, 20, 45] [ET o.Kind 1] [(qx8k_10 tt), (qx8k_11 dd), (5, .pointer (some ⟨z, 0, none⟩)), (20, .int .i64 o.Kind), (45, .bool true)] ⟨w, z + 1, [(old (fun b => F b ∨ H b) w), (Tl.tlbC tt F (kvs xs)), (refC dd H zs), (.blk z (.cells (TOp.arr o) 39 (0, 0)) true)]⟩ ⟨et (by omega), trivial⟩ ?_
     refine e_seq <| g_true <| g_seq <| g_region <| l_all 9 [o0, (oa [.at 3]), o0, (oa [.at 3]), o0, (oa [.at 3]), o0, o0, (oa [.at 4, .at 4, .at 4])] [0, 1, 11] [Qb z, Qb z, Qb z, Qb (z + 1), Qb (z + 1), Qb (z + 1)] [(qx8k_10 tt), (qx8k_11 dd), (11, .pointer (some ⟨z + 1, 0, none⟩))] ⟨w, z + 2, [(old (fun b => F b ∨ H b) w), (Tl.tlbC tt F (kvs xs)), (refC dd H zs), (.blk z (.cells (TOp.arr o) 39 (0, 0)) true), (qx8k_0 z o)]⟩ ⟨rfl, rfl, rfl, rfl, rfl, rfl, trivial⟩ ?_
     refine e_seq <| g_seq <| g_region <| l_run 2 [o0, (oa [.at 4, .at 4, .at 4])] [1, 11, 54, 55] [Qb (z + 1), Qb (z + 1), Qb (z + 1)] [(qx8k_11 dd), (11, .pointer (some ⟨z + 1, 0, none⟩)), (54, .pointer (some ⟨tt, 0, none⟩)), (55, .agg #[.int .i64 o.Page, .int .i64 o.Frame, .int .i64 o.Rights])] ⟨w, z + 2, [(old (fun b => F b ∨ H b) w), (Tl.tlbC tt F (kvs xs)), (refC dd H zs), (.blk z (.cells (TOp.arr o) 39 (0, 0)) true), (qx8k_0 z o)]⟩ ⟨rfl, rfl, rfl, trivial⟩ ?_
     refine l_call [] [] 8 #[.pointer (some ⟨tt, 0, none⟩), .agg #[.int .i64 o.Page, .int .i64 o.Frame, .int .i64 o.Rights]] (some 56) trivial ?_
     intro w18 hw18
     refine (put_satX hw18 (i := 1) rfl (⟨o.Page, o.Frame, o.Rights⟩ : TLeaf)).mono ?_
     rintro e w20 ⟨F19, rfl, hmw20, hSw20⟩; have hnw20 : z + 2 ≤ w20.heap.size := hmw20
     refine ⟨_, _, rfl, hSw20, ?_⟩
     refine l_keep [1, 11, 56] [(qx8k_11 dd), (11, .pointer (some ⟨z + 1, 0, none⟩)), (56, .int .i64 (errP (⟨o.Page, o.Frame, o.Rights⟩ : TLeaf)))] ?_
     refine l_all 1 [o0] [1, 11, 12] [] [(qx8k_11 dd), (11, .pointer (some ⟨z + 1, 0, none⟩)), (12, .int .i64 (errP (⟨o.Page, o.Frame, o.Rights⟩ : TLeaf)))] ⟨w, w20.heap.size, [(old (fun b => F b ∨ H b) w), (Tl.tlbC tt F19 (kvs (putX xs (⟨o.Page, o.Frame, o.Rights⟩ : TLeaf)))), (refC dd H zs), (.blk z (.cells (TOp.arr o) 39 (0, 0)) true), (qx8k_0 z o)]⟩ trivial ?_
     refine e_seq <| g_seq <| g_region <| l_run 3 [o0, o0, (oa [.at 4, .at 4, .at 4])] [57, 58, 59] [Qb (z + 1), Qb (z + 1), Qb (z + 1)] [(57, .int .i64 (errP (⟨o.Page, o.Frame, o.Rights⟩ : TLeaf))), (58, .pointer (some ⟨dd, 0, none⟩)), (59, .agg #[.int .i64 o.Page, .int .i64 o.Frame, .int .i64 o.Rights])] ⟨w, w20.heap.size, [(old (fun b => F b ∨ H b) w), (Tl.tlbC tt F19 (kvs (putX xs (⟨o.Page, o.Frame, o.Rights⟩ : TLeaf)))), (refC dd H zs), (.blk z (.cells (TOp.arr o) 39 (0, 0)) true), (qx8k_0 z o)]⟩ ⟨rfl, rfl, rfl, trivial⟩ ?_
     refine l_call [] [] 23 #[.pointer (some ⟨dd, 0, none⟩), .agg #[.int .i64 o.Page, .int .i64 o.Frame, .int .i64 o.Rights]] (some 60) trivial ?_
     intro w21 hw21
     refine (rput_sat hw21 (i := 2) rfl (⟨o.Page, o.Frame, o.Rights⟩ : TLeaf)).mono ?_
     rintro e w23 ⟨F22, rfl, hmw23, hSw23⟩; have hnw23 : w20.heap.size ≤ w23.heap.size := hmw23
     refine ⟨_, _, rfl, hSw23, ?_⟩
     refine l_keep [57, 60] [(57, .int .i64 (errP (⟨o.Page, o.Frame, o.Rights⟩ : TLeaf))), (60, .int .i64 (errP (⟨o.Page, o.Frame, o.Rights⟩ : TLeaf)))] ?_
     refine l_all 2 [oT, o0] [6] [ET (errP (⟨o.Page, o.Frame, o.Rights⟩ : TLeaf)) (errP (⟨o.Page, o.Frame, o.Rights⟩ : TLeaf))] [(6, .bool true)] ⟨w, w23.heap.size, [(old (fun b => F b ∨ H b) w), (Tl.tlbC tt F19 (kvs (putX xs (⟨o.Page, o.Frame, o.Rights⟩ : TLeaf)))), (refC dd F22 (putX zs (⟨o.Page, o.Frame, o.Rights⟩ : TLeaf))), (.blk z (.cells (TOp.arr o) 39 (0, 0)) true), (qx8k_0 z o)]⟩ ⟨et (by omega), trivial⟩ ?_
     refine e_seq <| g_ret <| e_ret [] [] (.bool true) trivial ?_
     intro w24 hw24
     have hX : ∀ ys, stepX ys o = putX ys ⟨o.Page, o.Frame, o.Rights⟩ := fun ys => by unfold stepX; rw [if_neg (by omega), if_pos (by omega)]
     have hP := hw24.pick [0, 1, 2] (σ' := [(old (fun b => F b ∨ H b) w), (Tl.tlbC tt F19 (kvs (putX xs (⟨o.Page, o.Frame, o.Rights⟩ : TLeaf)))), (refC dd F22 (putX zs (⟨o.Page, o.Frame, o.Rights⟩ : TLeaf)))]) rfl rfl
     have hsz : w24.heap.size = w23.heap.size := hP.size
     refine ⟨_, F19, F22, rfl, fun _ => rfl, by omega, ?_⟩
     rw [hX xs, hX zs, hsz]
     exact hP
   · refine g_region <| l_all 2 [oF, o0] [0, 1, 5, 20, 45] [EF o.Kind 1] [(qx8k_10 tt), (qx8k_11 dd), (5, .pointer (some ⟨z, 0, none⟩)), (20, .int .i64 o.Kind), (45, .bool false)] ⟨w, z + 1, [(old (fun b => F b ∨ H b) w), (Tl.tlbC tt F (kvs xs)), (refC dd H zs), (.blk z (.cells (TOp.arr o) 39 (0, 0)) true)]⟩ ⟨ef (by omega), trivial⟩ ?_
     refine e_seq <| g_false <| g_seq ?_
     by_cases h25 : (o.Kind : Int) = 2
     · refine g_region <| l_all 2 [oT, o0] [0, 1, 5, 20, 62] [ET o.Kind 2] [(qx8k_10 tt), (qx8k_11 dd), (5, .pointer (some ⟨z, 0, none⟩)), (20, .int .i64 o.Kind), (62, .bool true)] ⟨w, z + 1, [(old (fun b => F b ∨ H b) w), (Tl.tlbC tt F (kvs xs)), (refC dd H zs), (.blk z (.cells (TOp.arr o) 39 (0, 0)) true)]⟩ ⟨et (by omega), trivial⟩ ?_
       refine e_seq <| g_true <| g_seq <| g_region <| l_run 1 [o0] [1, 64] [] [(qx8k_11 dd), (64, .pointer (some ⟨tt, 0, none⟩))] ⟨w, z + 1, [(old (fun b => F b ∨ H b) w), (Tl.tlbC tt F (kvs xs)), (refC dd H zs), (.blk z (.cells (TOp.arr o) 39 (0, 0)) true)]⟩ trivial ?_
       refine l_call [] [] 15 #[.pointer (some ⟨tt, 0, none⟩)] (some 65) trivial ?_
       intro w26 hw26
       refine (flush_satX hw26 (i := 1) rfl).mono ?_
       rintro e w27 ⟨rfl, hmw27, hSw27⟩; have hnw27 : z + 1 ≤ w27.heap.size := hmw27
       refine ⟨_, _, rfl, hSw27, ?_⟩
       refine l_keep [1] [(qx8k_11 dd)] ?_
       refine l_nil (by kernel_rfl) ?_
       refine e_seq <| g_region <| l_run 1 [o0] [66] [] [(66, .pointer (some ⟨dd, 0, none⟩))] ⟨w, w27.heap.size, [(old (fun b => F b ∨ H b) w), (Tl.tlbC tt F (kvs ([] : List TLeaf))), (refC dd H zs), (.blk z (.cells (TOp.arr o) 39 (0, 0)) true)]⟩ trivial ?_
       refine l_call [] [] 24 #[.pointer (some ⟨dd, 0, none⟩)] (some 67) trivial ?_
       intro w28 hw28
       refine (rflush_sat hw28 (i := 2) rfl).mono ?_
       rintro e w30 ⟨F29, rfl, hmw30, hSw30⟩; have hnw30 : w27.heap.size ≤ w30.heap.size := hmw30
       refine ⟨_, _, rfl, hSw30, ?_⟩
       refine l_keep [] [] ?_
       refine l_nil (by kernel_rfl) ?_
       refine e_blk <| e_seq <| g_seq <| g_region <| l_all 1 [o0] [6] [] [(6, .bool true)] ⟨w, w30.heap.size, [(old (fun b => F b ∨ H b) w), (Tl.tlbC tt F (kvs ([] : List TLeaf))), (refC dd F29 ([] : List TLeaf)), (.blk z (.cells (TOp.arr o) 39 (0, 0)) true)]⟩ trivial ?_
       refine e_seq <| g_ret <| e_ret [] [] (.bool true) trivial ?_
       intro w31 hw31
       have hX : ∀ ys, stepX ys o = [] := fun ys => by unfold stepX; rw [if_neg (by omega), if_neg (by omega), if_pos (by omega)]
       have hP := hw31.pick [0, 1, 2] (σ' := [(old (fun b => F b ∨ H b) w), (Tl.tlbC tt F (kvs ([] : List TLeaf))), (refC dd F29 ([] : List TLeaf))]) rfl rfl
       have hsz : w31.heap.size = w30.heap.size := hP.size
       refine ⟨_, F, F29, rfl, fun _ => rfl, by omega, ?_⟩
       rw [hX xs, hX zs, hsz]
       exact hP
     · refine g_region <| l_all 2 [oF, o0] [0, 1, 5, 20, 62] [EF o.Kind 2] [(qx8k_10 tt), (qx8k_11 dd), (5, .pointer (some ⟨z, 0, none⟩)), (20, .int .i64 o.Kind), (62, .bool false)] ⟨w, z + 1, [(old (fun b => F b ∨ H b) w), (Tl.tlbC tt F (kvs xs)), (refC dd H zs), (.blk z (.cells (TOp.arr o) 39 (0, 0)) true)]⟩ ⟨ef (by omega), trivial⟩ ?_
       refine e_seq <| g_false <| g_seq ?_
       by_cases h32 : (o.Kind : Int) = 3
       · refine g_region <| l_all 2 [oT, o0] [0, 1, 5, 20, 68] [ET o.Kind 3] [(qx8k_10 tt), (qx8k_11 dd), (5, .pointer (some ⟨z, 0, none⟩)), (20, .int .i64 o.Kind), (68, .bool true)] ⟨w, z + 1, [(old (fun b => F b ∨ H b) w), (Tl.tlbC tt F (kvs xs)), (refC dd H zs), (.blk z (.cells (TOp.arr o) 39 (0, 0)) true)]⟩ ⟨et (by omega), trivial⟩ ?_
         refine e_seq <| g_true <| g_seq <| g_region <| l_run 1 [o0] [0, 70] [] [(qx8k_10 tt), (70, .pointer (some ⟨dd, 0, none⟩))] ⟨w, z + 1, [(old (fun b => F b ∨ H b) w), (Tl.tlbC tt F (kvs xs)), (refC dd H zs), (.blk z (.cells (TOp.arr o) 39 (0, 0)) true)]⟩ trivial ?_
         refine l_call [] [] 25 #[.pointer (some ⟨dd, 0, none⟩)] (some 71) trivial ?_
         intro w33 hw33
         refine (rleaves_sat hw33 (i := 2) rfl).mono ?_
         rintro e w36 ⟨a34, cp35, rfl, hmw36, hSw36⟩; have hnw36 : z + 1 ≤ w36.heap.size := hmw36
         refine ⟨_, _, rfl, hSw36, ?_⟩
         refine l_keep [0, 71] [(qx8k_10 tt), (71, .slice a34 zs.length cp35)] ?_
         refine l_all 1 [o0] [0, 13] [] [(qx8k_10 tt), (13, .slice a34 zs.length cp35)] ⟨w, w36.heap.size, [(old (fun b => F b ∨ H b) w), (Tl.tlbC tt F (kvs xs)), (refC dd H zs), (.blk z (.cells (TOp.arr o) 39 (0, 0)) true), (qx8k_8 z a34 zs cp35)]⟩ trivial ?_
         refine e_seq <| g_seq <| g_region <| l_run 1 [o0] [0, 13, 72] [] [(qx8k_10 tt), (13, .slice a34 zs.length cp35), (72, .pointer (some ⟨tt, 0, none⟩))] ⟨w, w36.heap.size, [(old (fun b => F b ∨ H b) w), (Tl.tlbC tt F (kvs xs)), (refC dd H zs), (.blk z (.cells (TOp.arr o) 39 (0, 0)) true), (qx8k_8 z a34 zs cp35)]⟩ trivial ?_
         refine l_call [] [] 9 #[.pointer (some ⟨tt, 0, none⟩)] (some 73) trivial ?_
         intro w37 hw37
         refine (leaves_satX hw37 (i := 1) rfl).mono ?_
         rintro e w40 ⟨a38, cp39, rfl, hmw40, hSw40⟩; have hnw40 : w36.heap.size ≤ w40.heap.size := hmw40
         refine ⟨_, _, rfl, hSw40, ?_⟩
         refine l_keep [0, 13, 73] [(qx8k_10 tt), (13, .slice a34 zs.length cp35), (73, .slice a38 xs.length cp39)] ?_
         refine l_all 1 [o0] [0, 13, 14] [] [(qx8k_10 tt), (13, .slice a34 zs.length cp35), (14, .slice a38 xs.length cp39)] ⟨w, w40.heap.size, [(old (fun b => F b ∨ H b) w), (Tl.tlbC tt F (kvs xs)), (refC dd H zs), (.blk z (.cells (TOp.arr o) 39 (0, 0)) true), (qx8k_8 z a34 zs cp35), (qx8k_5 w36 a38 xs cp39)]⟩ trivial ?_
         refine e_seq <| g_seq <| g_region <| l_run 1 [o0] [0, 13, 14, 74] [] [(qx8k_10 tt), (13, .slice a34 zs.length cp35), (14, .slice a38 xs.length cp39), (74, .pointer (some ⟨tt, 0, none⟩))] ⟨w, w40.heap.size, [(old (fun b => F b ∨ H b) w), (Tl.tlbC tt F (kvs xs)), (refC dd H zs), (.blk z (.cells (TOp.arr o) 39 (0, 0)) true), (qx8k_8 z a34 zs cp35), (qx8k_5 w36 a38 xs cp39)]⟩ trivial ?_
         refine l_call [] [] 9 #[.pointer (some ⟨tt, 0, none⟩)] (some 75) trivial ?_
         intro w41 hw41
         refine (leaves_satX hw41 (i := 1) rfl).mono ?_
         rintro e w44 ⟨a42, cp43, rfl, hmw44, hSw44⟩; have hnw44 : w40.heap.size ≤ w44.heap.size := hmw44
         refine ⟨_, _, rfl, hSw44, ?_⟩
         refine l_keep [0, 13, 14, 75] [(qx8k_10 tt), (13, .slice a34 zs.length cp35), (14, .slice a38 xs.length cp39), (75, .slice a42 xs.length cp43)] ?_
         refine l_all 1 [o0] [0, 13, 14, 15] [] [(qx8k_10 tt), (13, .slice a34 zs.length cp35), (14, .slice a38 xs.length cp39), (15, .slice a42 xs.length cp43)] ⟨w, w44.heap.size, [(old (fun b => F b ∨ H b) w), (Tl.tlbC tt F (kvs xs)), (refC dd H zs), (.blk z (.cells (TOp.arr o) 39 (0, 0)) true), (qx8k_8 z a34 zs cp35), (qx8k_5 w36 a38 xs cp39), (qx8k_6 w40 a42 xs cp43)]⟩ trivial ?_
         refine e_seq <| g_seq <| g_seq <| g_region <| l_run 2 [o0, o0] [0, 13, 14, 15, 76, 77] [] [(qx8k_10 tt), (13, .slice a34 zs.length cp35), (14, .slice a38 xs.length cp39), (15, .slice a42 xs.length cp43), (76, .slice a38 xs.length cp39), (77, .slice a34 zs.length cp35)] ⟨w, w44.heap.size, [(old (fun b => F b ∨ H b) w), (Tl.tlbC tt F (kvs xs)), (refC dd H zs), (.blk z (.cells (TOp.arr o) 39 (0, 0)) true), (qx8k_8 z a34 zs cp35), (qx8k_5 w36 a38 xs cp39), (qx8k_6 w40 a42 xs cp43)]⟩ trivial ?_
         refine l_call [] [] 13 #[.slice a38 xs.length cp39, .slice a34 zs.length cp35] (some 78) trivial ?_
         intro w45 hw45
         refine (same_calls w45 ⟨a38, cp39, xs⟩ ⟨a34, cp35, zs⟩ (row_any hw45 (i := 5) rfl (by omega)) (row_any hw45 (i := 4) rfl (by omega))).mono ?_
         rintro e w46 ⟨rfl, hkw46⟩
         have hnw46 : w44.heap.size ≤ w46.heap.size := by have := hkw46.size; rw [hw45.size] at this; exact this
         refine ⟨_, _, rfl, hw45.keeps hkw46, ?_⟩
         refine l_keep [0, 13, 14, 15, 78] [(qx8k_10 tt), (13, .slice a34 zs.length cp35), (14, .slice a38 xs.length cp39), (15, .slice a42 xs.length cp43), (78, .bool (decide (xs = zs)))] ?_
         by_cases h47 : (decide (xs = zs)) = true
         · refine l_run 4 [(ov (.bool false)), o0, o0, o0] [0, 13, 14, 15, 80, 81, 82] [Value.bool (!(decide (xs = zs))) = Value.bool false] [(qx8k_10 tt), (13, .slice a34 zs.length cp35), (14, .slice a38 xs.length cp39), (15, .slice a42 xs.length cp43), (80, .bool false), (81, .slice a42 xs.length cp43), (82, .slice a34 zs.length cp35)] ⟨w, w46.heap.size, [(old (fun b => F b ∨ H b) w), (Tl.tlbC tt F (kvs xs)), (refC dd H zs), (.blk z (.cells (TOp.arr o) 39 (0, 0)) true), (qx8k_8 z a34 zs cp35), (qx8k_5 w36 a38 xs cp39), (qx8k_6 w40 a42 xs cp43)]⟩ ⟨by simp [h47], trivial⟩ ?_
           refine l_call [] [] 13 #[.slice a42 xs.length cp43, .slice a34 zs.length cp35] (some 83) trivial ?_
           intro w48 hw48
           refine (same_calls w48 ⟨a42, cp43, xs⟩ ⟨a34, cp35, zs⟩ (row_any hw48 (i := 6) rfl (by omega)) (row_any hw48 (i := 4) rfl (by omega))).mono ?_
           rintro e w49 ⟨rfl, hkw49⟩
           have hnw49 : w46.heap.size ≤ w49.heap.size := by have := hkw49.size; rw [hw48.size] at this; exact this
           refine ⟨_, _, rfl, hw48.keeps hkw49, ?_⟩
           refine l_keep [0, 13, 14, 15, 80, 83] [(qx8k_10 tt), (13, .slice a34 zs.length cp35), (14, .slice a38 xs.length cp39), (15, .slice a42 xs.length cp43), (80, .bool false), (83, .bool (decide (xs = zs)))] ?_
           refine l_all 2 [(ov (.bool false)), o0] [0, 13, 14, 15, 85] [Value.bool (!(decide (xs = zs))) = Value.bool false] [(qx8k_10 tt), (13, .slice a34 zs.length cp35), (14, .slice a38 xs.length cp39), (15, .slice a42 xs.length cp43), (85, .bool false)] ⟨w, w49.heap.size, [(old (fun b => F b ∨ H b) w), (Tl.tlbC tt F (kvs xs)), (refC dd H zs), (.blk z (.cells (TOp.arr o) 39 (0, 0)) true), (qx8k_8 z a34 zs cp35), (qx8k_5 w36 a38 xs cp39), (qx8k_6 w40 a42 xs cp43)]⟩ ⟨by simp [h47], trivial⟩ ?_
           refine e_seq <| g_false <| g_skip <| e_seq <| g_seq <| g_region <| l_run 1 [o0] [0, 13, 15, 86] [] [(qx8k_10 tt), (13, .slice a34 zs.length cp35), (15, .slice a42 xs.length cp43), (86, .slice a38 xs.length cp39)] ⟨w, w49.heap.size, [(old (fun b => F b ∨ H b) w), (Tl.tlbC tt F (kvs xs)), (refC dd H zs), (.blk z (.cells (TOp.arr o) 39 (0, 0)) true), (qx8k_8 z a34 zs cp35), (qx8k_5 w36 a38 xs cp39), (qx8k_6 w40 a42 xs cp43)]⟩ trivial ?_
           refine l_call [] [] 26 #[.slice a38 xs.length cp39, .int .i64 700] (some 87) trivial ?_
           intro w50 hw50
           refine (spoil_sat (xs := xs) (n0 := w36.heap.size) hw50 (i := 5) [0, 1, 2, 3, 4, 6] rfl rfl (fun h => h) (fun b h => h) rfl rfl rfl 700 (by decide) (by omega) (show w36.heap.size ≤ w49.heap.size by omega)).mono ?_
           rintro e w51 ⟨rfl, hmw51, hSw51⟩; have hnw51 : w49.heap.size ≤ w51.heap.size := hmw51
           refine ⟨_, _, rfl, hSw51, ?_⟩
           refine l_keep [0, 13, 15] [(qx8k_10 tt), (13, .slice a34 zs.length cp35), (15, .slice a42 xs.length cp43)] ?_
           refine l_nil (by kernel_rfl) ?_
           refine e_seq <| g_seq <| g_seq <| g_region <| l_run 2 [o0, o0] [0, 13, 15, 88, 89] [] [(qx8k_10 tt), (13, .slice a34 zs.length cp35), (15, .slice a42 xs.length cp43), (88, .slice a42 xs.length cp43), (89, .slice a34 zs.length cp35)] ⟨w, w51.heap.size, [(old (fun b => F b ∨ H b) w), (Tl.tlbC tt F (kvs xs)), (refC dd H zs), (.blk z (.cells (TOp.arr o) 39 (0, 0)) true), (qx8k_8 z a34 zs cp35), (qx8k_6 w40 a42 xs cp43)]⟩ trivial ?_
           refine l_call [] [] 13 #[.slice a42 xs.length cp43, .slice a34 zs.length cp35] (some 90) trivial ?_
           intro w52 hw52
           refine (same_calls w52 ⟨a42, cp43, xs⟩ ⟨a34, cp35, zs⟩ (row_any hw52 (i := 5) rfl (by omega)) (row_any hw52 (i := 4) rfl (by omega))).mono ?_
           rintro e w53 ⟨rfl, hkw53⟩
           have hnw53 : w51.heap.size ≤ w53.heap.size := by have := hkw53.size; rw [hw52.size] at this; exact this
           refine ⟨_, _, rfl, hw52.keeps hkw53, ?_⟩
           refine l_keep [0, 13, 15, 90] [(qx8k_10 tt), (13, .slice a34 zs.length cp35), (15, .slice a42 xs.length cp43), (90, .bool (decide (xs = zs)))] ?_
           refine l_all 1 [(ov (.bool false))] [0, 13, 15, 91] [Value.bool (!(decide (xs = zs))) = Value.bool false] [(qx8k_10 tt), (13, .slice a34 zs.length cp35), (15, .slice a42 xs.length cp43), (91, .bool false)] ⟨w, w53.heap.size, [(old (fun b => F b ∨ H b) w), (Tl.tlbC tt F (kvs xs)), (refC dd H zs), (.blk z (.cells (TOp.arr o) 39 (0, 0)) true), (qx8k_8 z a34 zs cp35), (qx8k_6 w40 a42 xs cp43)]⟩ ⟨by simp [h47], trivial⟩ ?_
           refine e_seq <| g_false <| g_skip <| e_seq <| g_seq <| g_region <| l_run 1 [o0] [13, 15, 92] [] [(13, .slice a34 zs.length cp35), (15, .slice a42 xs.length cp43), (92, .pointer (some ⟨tt, 0, none⟩))] ⟨w, w53.heap.size, [(old (fun b => F b ∨ H b) w), (Tl.tlbC tt F (kvs xs)), (refC dd H zs), (.blk z (.cells (TOp.arr o) 39 (0, 0)) true), (qx8k_8 z a34 zs cp35), (qx8k_6 w40 a42 xs cp43)]⟩ trivial ?_
           refine l_call [] [] 9 #[.pointer (some ⟨tt, 0, none⟩)] (some 93) trivial ?_
           intro w54 hw54
           refine (leaves_satX hw54 (i := 1) rfl).mono ?_
           rintro e w57 ⟨a55, cp56, rfl, hmw57, hSw57⟩; have hnw57 : w53.heap.size ≤ w57.heap.size := hmw57
           refine ⟨_, _, rfl, hSw57, ?_⟩
           refine l_keep [13, 15, 93] [(13, .slice a34 zs.length cp35), (15, .slice a42 xs.length cp43), (93, .slice a55 xs.length cp56)] ?_
           refine l_all 1 [o0] [13, 15, 16] [] [(13, .slice a34 zs.length cp35), (15, .slice a42 xs.length cp43), (16, .slice a55 xs.length cp56)] ⟨w, w57.heap.size, [(old (fun b => F b ∨ H b) w), (Tl.tlbC tt F (kvs xs)), (refC dd H zs), (.blk z (.cells (TOp.arr o) 39 (0, 0)) true), (qx8k_8 z a34 zs cp35), (qx8k_6 w40 a42 xs cp43), (qx8k_7 w53 a55 xs cp56)]⟩ trivial ?_
           refine e_seq <| g_seq <| g_region <| l_run 2 [o0, o0] [13, 15, 94, 95] [] [(13, .slice a34 zs.length cp35), (15, .slice a42 xs.length cp43), (94, .slice a55 xs.length cp56), (95, .slice a34 zs.length cp35)] ⟨w, w57.heap.size, [(old (fun b => F b ∨ H b) w), (Tl.tlbC tt F (kvs xs)), (refC dd H zs), (.blk z (.cells (TOp.arr o) 39 (0, 0)) true), (qx8k_8 z a34 zs cp35), (qx8k_6 w40 a42 xs cp43), (qx8k_7 w53 a55 xs cp56)]⟩ trivial ?_
           refine l_call [] [] 13 #[.slice a55 xs.length cp56, .slice a34 zs.length cp35] (some 96) trivial ?_
           intro w58 hw58
           refine (same_calls w58 ⟨a55, cp56, xs⟩ ⟨a34, cp35, zs⟩ (row_any hw58 (i := 6) rfl (by omega)) (row_any hw58 (i := 4) rfl (by omega))).mono ?_
           rintro e w59 ⟨rfl, hkw59⟩
           have hnw59 : w57.heap.size ≤ w59.heap.size := by have := hkw59.size; rw [hw58.size] at this; exact this
           refine ⟨_, _, rfl, hw58.keeps hkw59, ?_⟩
           refine l_keep [13, 15, 96] [(13, .slice a34 zs.length cp35), (15, .slice a42 xs.length cp43), (96, .bool (decide (xs = zs)))] ?_
           refine l_run 3 [(ov (.bool true)), o0, o0] [97, 98, 99] [Value.bool (decide (xs = zs)) = Value.bool true] [(97, .bool true), (98, .slice a42 xs.length cp43), (99, .slice a34 zs.length cp35)] ⟨w, w59.heap.size, [(old (fun b => F b ∨ H b) w), (Tl.tlbC tt F (kvs xs)), (refC dd H zs), (.blk z (.cells (TOp.arr o) 39 (0, 0)) true), (qx8k_8 z a34 zs cp35), (qx8k_6 w40 a42 xs cp43), (qx8k_7 w53 a55 xs cp56)]⟩ ⟨(congrArg Value.bool h47), trivial⟩ ?_
           refine l_call [] [] 13 #[.slice a42 xs.length cp43, .slice a34 zs.length cp35] (some 100) trivial ?_
           intro w60 hw60
           refine (same_calls w60 ⟨a42, cp43, xs⟩ ⟨a34, cp35, zs⟩ (row_any hw60 (i := 5) rfl (by omega)) (row_any hw60 (i := 4) rfl (by omega))).mono ?_
           rintro e w61 ⟨rfl, hkw61⟩
           have hnw61 : w59.heap.size ≤ w61.heap.size := by have := hkw61.size; rw [hw60.size] at this; exact this
           refine ⟨_, _, rfl, hw60.keeps hkw61, ?_⟩
           refine l_keep [97, 100] [(97, .bool true), (100, .bool (decide (xs = zs)))] ?_
           refine l_all 2 [o0, o0] [6] [] [(6, .bool (decide (xs = zs)))] ⟨w, w61.heap.size, [(old (fun b => F b ∨ H b) w), (Tl.tlbC tt F (kvs xs)), (refC dd H zs), (.blk z (.cells (TOp.arr o) 39 (0, 0)) true), (qx8k_8 z a34 zs cp35), (qx8k_6 w40 a42 xs cp43), (qx8k_7 w53 a55 xs cp56)]⟩ trivial ?_
           refine e_seq <| g_ret <| e_ret [] [] (.bool (decide (xs = zs))) trivial ?_
           intro w62 hw62
           have hX : ∀ ys, stepX ys o = ys := fun ys => by unfold stepX; rw [if_neg (by omega), if_neg (by omega), if_neg (by omega), if_neg (by omega)]
           have hP := hw62.pick [0, 1, 2] (σ' := [(old (fun b => F b ∨ H b) w), (Tl.tlbC tt F (kvs xs)), (refC dd H zs)]) rfl rfl
           have hsz : w62.heap.size = w61.heap.size := hP.size
           refine ⟨_, F, H, rfl, fun he => decide_eq_true he, by omega, ?_⟩
           rw [hX xs, hX zs, hsz]
           exact hP
         · refine l_all 7 [(ov (.bool true)), o0, o0] [0, 13, 14, 15, 85] [Value.bool (!(decide (xs = zs))) = Value.bool true] [(qx8k_10 tt), (13, .slice a34 zs.length cp35), (14, .slice a38 xs.length cp39), (15, .slice a42 xs.length cp43), (85, .bool true)] ⟨w, w46.heap.size, [(old (fun b => F b ∨ H b) w), (Tl.tlbC tt F (kvs xs)), (refC dd H zs), (.blk z (.cells (TOp.arr o) 39 (0, 0)) true), (qx8k_8 z a34 zs cp35), (qx8k_5 w36 a38 xs cp39), (qx8k_6 w40 a42 xs cp43)]⟩ ⟨by simp [h47], trivial⟩ ?_
           refine e_seq <| g_true <| g_seq <| g_region <| l_all 1 [o0] [6] [] [(6, .bool false)] ⟨w, w46.heap.size, [(old (fun b => F b ∨ H b) w), (Tl.tlbC tt F (kvs xs)), (refC dd H zs), (.blk z (.cells (TOp.arr o) 39 (0, 0)) true), (qx8k_8 z a34 zs cp35), (qx8k_5 w36 a38 xs cp39), (qx8k_6 w40 a42 xs cp43)]⟩ trivial ?_
           refine e_seq <| g_ret <| e_ret [] [] (.bool false) trivial ?_
           intro w63 hw63
           have hX : ∀ ys, stepX ys o = ys := fun ys => by unfold stepX; rw [if_neg (by omega), if_neg (by omega), if_neg (by omega), if_neg (by omega)]
           have hP := hw63.pick [0, 1, 2] (σ' := [(old (fun b => F b ∨ H b) w), (Tl.tlbC tt F (kvs xs)), (refC dd H zs)]) rfl rfl
           have hsz : w63.heap.size = w46.heap.size := hP.size
           refine ⟨_, F, H, rfl, fun he => absurd (by rw [he]; simp) h47, by omega, ?_⟩
           rw [hX xs, hX zs, hsz]
           exact hP
       · refine g_region <| l_all 2 [oF, o0] [0, 1, 5, 20, 68] [EF o.Kind 3] [(qx8k_10 tt), (qx8k_11 dd), (5, .pointer (some ⟨z, 0, none⟩)), (20, .int .i64 o.Kind), (68, .bool false)] ⟨w, z + 1, [(old (fun b => F b ∨ H b) w), (Tl.tlbC tt F (kvs xs)), (refC dd H zs), (.blk z (.cells (TOp.arr o) 39 (0, 0)) true)]⟩ ⟨ef (by omega), trivial⟩ ?_
         refine e_seq <| g_false <| g_seq ?_
         by_cases h64 : (o.Kind : Int) = 4
         · refine g_region <| l_all 2 [oT, o0] [0, 1, 5, 102] [ET o.Kind 4] [(qx8k_10 tt), (qx8k_11 dd), (5, .pointer (some ⟨z, 0, none⟩)), (102, .bool true)] ⟨w, z + 1, [(old (fun b => F b ∨ H b) w), (Tl.tlbC tt F (kvs xs)), (refC dd H zs), (.blk z (.cells (TOp.arr o) 39 (0, 0)) true)]⟩ ⟨et (by omega), trivial⟩ ?_
           refine e_seq <| g_true <| g_seq <| g_region <| l_run 2 [o0, (oa [.at 3])] [0, 1, 5, 105] [Qb z] [(qx8k_10 tt), (qx8k_11 dd), (5, .pointer (some ⟨z, 0, none⟩)), (105, .slice o.Leaves.a o.Leaves.xs.length o.Leaves.cap)] ⟨w, z + 1, [(old (fun b => F b ∨ H b) w), (Tl.tlbC tt F (kvs xs)), (refC dd H zs), (.blk z (.cells (TOp.arr o) 39 (0, 0)) true)]⟩ ⟨rfl, trivial⟩ ?_
           refine l_call [] [] 27 #[.slice o.Leaves.a o.Leaves.xs.length o.Leaves.cap] (some 106) trivial ?_
           intro w65 hw65
           refine (wide_calls w65 o.Leaves (sl_old hl2 (fun b h => h) w65 (hw65.at (i := 0) (c := (old (fun b => F b ∨ H b) w)) rfl)) hB2).mono ?_
           rintro e w68 ⟨a66, cp67, rfl, how68, hkw68⟩
           have hnw68 : z + 1 ≤ w68.heap.size := by have := hkw68.size; rw [hw65.size] at this; exact this
           rw [hw65.size] at how68
           rw [← wideX_len] at how68
           refine ⟨_, _, rfl, hw65.keeps1 hkw68 (qx8k_3 z a66 o cp67) how68 (row_stable _ _ _ _ _ _) (fun b hb => how68.lt b hb), ?_⟩
           refine l_keep [0, 1, 5, 106] [(qx8k_10 tt), (qx8k_11 dd), (5, .pointer (some ⟨z, 0, none⟩)), (106, .slice a66 o.Leaves.xs.length cp67)] ?_
           refine l_all 1 [o0] [0, 1, 5, 17] [] [(qx8k_10 tt), (qx8k_11 dd), (5, .pointer (some ⟨z, 0, none⟩)), (qx8k_9 a66 o cp67)] ⟨w, w68.heap.size, [(old (fun b => F b ∨ H b) w), (Tl.tlbC tt F (kvs xs)), (refC dd H zs), (.blk z (.cells (TOp.arr o) 39 (0, 0)) true), (qx8k_3 z a66 o cp67)]⟩ trivial ?_
           refine e_seq <| g_seq <| g_region <| l_run 2 [o0, o0] [1, 5, 17, 107, 108] [] [(qx8k_11 dd), (5, .pointer (some ⟨z, 0, none⟩)), (qx8k_9 a66 o cp67), (107, .pointer (some ⟨tt, 0, none⟩)), (108, .slice a66 o.Leaves.xs.length cp67)] ⟨w, w68.heap.size, [(old (fun b => F b ∨ H b) w), (Tl.tlbC tt F (kvs xs)), (refC dd H zs), (.blk z (.cells (TOp.arr o) 39 (0, 0)) true), (qx8k_3 z a66 o cp67)]⟩ trivial ?_
           refine l_call [] [] 14 #[.pointer (some ⟨tt, 0, none⟩), .slice a66 o.Leaves.xs.length cp67] (some 109) trivial ?_
           intro w69 hw69
           refine (trestore_sat hw69 (i := 1) rfl ⟨a66, cp67, o.Leaves.xs⟩ (wide_not hw69 (i := 4) (j := 1) rfl (by omega) rfl (by decide))).mono ?_
           rintro e w71 ⟨F70, rfl, hmw71, hSw71⟩; have hnw71 : w68.heap.size ≤ w71.heap.size := hmw71
           refine ⟨_, _, rfl, hSw71, ?_⟩
           refine l_keep [1, 5, 17, 109] [(qx8k_11 dd), (5, .pointer (some ⟨z, 0, none⟩)), (qx8k_9 a66 o cp67), (109, .int .i64 (errR o.Leaves.xs))] ?_
           refine l_all 1 [o0] [1, 5, 17, 18] [] [(qx8k_11 dd), (5, .pointer (some ⟨z, 0, none⟩)), (qx8k_9 a66 o cp67), (18, .int .i64 (errR o.Leaves.xs))] ⟨w, w71.heap.size, [(old (fun b => F b ∨ H b) w), (Tl.tlbC tt F70 (kvs (resX xs o.Leaves.xs))), (refC dd H zs), (.blk z (.cells (TOp.arr o) 39 (0, 0)) true), (qx8k_3 z a66 o cp67)]⟩ trivial ?_
           refine e_seq <| g_seq <| g_seq <| g_region <| l_run 4 [o0, o0, o0, (oa [.at 3])] [5, 17, 110, 111, 113] [Qb z] [(5, .pointer (some ⟨z, 0, none⟩)), (qx8k_9 a66 o cp67), (110, .int .i64 (errR o.Leaves.xs)), (111, .pointer (some ⟨dd, 0, none⟩)), (113, .slice o.Leaves.a o.Leaves.xs.length o.Leaves.cap)] ⟨w, w71.heap.size, [(old (fun b => F b ∨ H b) w), (Tl.tlbC tt F70 (kvs (resX xs o.Leaves.xs))), (refC dd H zs), (.blk z (.cells (TOp.arr o) 39 (0, 0)) true), (qx8k_3 z a66 o cp67)]⟩ ⟨rfl, trivial⟩ ?_
           refine l_call [] [] 16 #[.slice o.Leaves.a o.Leaves.xs.length o.Leaves.cap] (some 114) trivial ?_
           intro w72 hw72
           refine (copied_calls w72 o.Leaves (sl_old hl2 (fun b h => h) w72 (hw72.at (i := 0) (c := (old (fun b => F b ∨ H b) w)) rfl)) hB2).mono ?_
           rintro e w75 ⟨a73, cp74, rfl, how75, hkw75⟩
           have hnw75 : w71.heap.size ≤ w75.heap.size := by have := hkw75.size; rw [hw72.size] at this; exact this
           rw [hw72.size] at how75
           refine ⟨_, _, rfl, hw72.keeps1 hkw75 (qx8k_4 w71 a73 o cp74) how75 (row_stable _ _ _ _ _ _) (fun b hb => how75.lt b hb), ?_⟩
           refine l_keep [5, 17, 110, 111, 114] [(5, .pointer (some ⟨z, 0, none⟩)), (qx8k_9 a66 o cp67), (110, .int .i64 (errR o.Leaves.xs)), (111, .pointer (some ⟨dd, 0, none⟩)), (114, .slice a73 o.Leaves.xs.length cp74)] ?_
           refine l_call [] [] 28 #[.pointer (some ⟨dd, 0, none⟩), .slice a73 o.Leaves.xs.length cp74] (some 115) trivial ?_
           intro w76 hw76
           refine (rrestore_sat hw76 (i := 2) rfl ⟨a73, cp74, o.Leaves.xs⟩ (row_not hw76 (i := 5) (j := 2) rfl (by omega) rfl (by decide))).mono ?_
           rintro e w78 ⟨F77, rfl, hmw78, hSw78⟩; have hnw78 : w75.heap.size ≤ w78.heap.size := hmw78
           refine ⟨_, _, rfl, hSw78, ?_⟩
           refine l_keep [5, 17, 110, 115] [(5, .pointer (some ⟨z, 0, none⟩)), (qx8k_9 a66 o cp67), (110, .int .i64 (errR o.Leaves.xs)), (115, .int .i64 (errR o.Leaves.xs))] ?_
           refine l_run 5 [oF, o0, o0, o0, (oa [.at 3])] [17, 117, 118, 120] [NF (errR o.Leaves.xs) (errR o.Leaves.xs), Qb z] [(qx8k_9 a66 o cp67), (117, .bool false), (118, .slice a66 o.Leaves.xs.length cp67), (120, .slice o.Leaves.a o.Leaves.xs.length o.Leaves.cap)] ⟨w, w78.heap.size, [(old (fun b => F b ∨ H b) w), (Tl.tlbC tt F70 (kvs (resX xs o.Leaves.xs))), (refC dd F77 (resX zs o.Leaves.xs)), (.blk z (.cells (TOp.arr o) 39 (0, 0)) true), (qx8k_3 z a66 o cp67), (qx8k_4 w71 a73 o cp74)]⟩ ⟨nf (by omega), rfl, trivial⟩ ?_
           refine l_call [] [] 29 #[.slice a66 o.Leaves.xs.length cp67, .slice o.Leaves.a o.Leaves.xs.length o.Leaves.cap] (some 121) trivial ?_
           intro w79 hw79
           refine (kept_calls w79 a66 cp67 o.Leaves (row_any hw79 (i := 4) rfl (by rw [wideX_len]; omega)) (sl_old hl2 (fun b h => h) w79 (hw79.at (i := 0) (c := (old (fun b => F b ∨ H b) w)) rfl))).mono ?_
           rintro e w80 ⟨rfl, hkw80⟩
           have hnw80 : w78.heap.size ≤ w80.heap.size := by have := hkw80.size; rw [hw79.size] at this; exact this
           refine ⟨_, _, rfl, hw79.keeps hkw80, ?_⟩
           refine l_keep [17, 117, 121] [(qx8k_9 a66 o cp67), (117, .bool false), (121, .bool true)] ?_
           refine l_all 2 [o0, o0] [17, 123] [] [(qx8k_9 a66 o cp67), (123, .bool false)] ⟨w, w80.heap.size, [(old (fun b => F b ∨ H b) w), (Tl.tlbC tt F70 (kvs (resX xs o.Leaves.xs))), (refC dd F77 (resX zs o.Leaves.xs)), (.blk z (.cells (TOp.arr o) 39 (0, 0)) true), (qx8k_3 z a66 o cp67), (qx8k_4 w71 a73 o cp74)]⟩ trivial ?_
           refine e_seq <| g_false <| g_skip <| e_seq <| g_region <| l_run 1 [o0] [124] [] [(124, .slice a66 o.Leaves.xs.length cp67)] ⟨w, w80.heap.size, [(old (fun b => F b ∨ H b) w), (Tl.tlbC tt F70 (kvs (resX xs o.Leaves.xs))), (refC dd F77 (resX zs o.Leaves.xs)), (.blk z (.cells (TOp.arr o) 39 (0, 0)) true), (qx8k_3 z a66 o cp67), (qx8k_4 w71 a73 o cp74)]⟩ trivial ?_
           refine l_call [] [] 26 #[.slice a66 o.Leaves.xs.length cp67, .int .i64 900] (some 125) trivial ?_
           intro w81 hw81
           refine (spoil_sat (xs := o.Leaves.xs) (n0 := (z + 1)) hw81 (i := 4) [0, 1, 2, 3, 5] rfl rfl wide_ho (fun b h => own_any h) rfl rfl rfl 900 (by decide) (by omega) (show (z + 1) ≤ w80.heap.size by omega)).mono ?_
           rintro e w82 ⟨rfl, hmw82, hSw82⟩; have hnw82 : w80.heap.size ≤ w82.heap.size := hmw82
           refine ⟨_, _, rfl, hSw82, ?_⟩
           refine l_keep [] [] ?_
           refine l_nil (by kernel_rfl) ?_
           refine e_blk <| e_seq <| g_seq <| g_region <| l_all 1 [o0] [6] [] [(6, .bool true)] ⟨w, w82.heap.size, [(old (fun b => F b ∨ H b) w), (Tl.tlbC tt F70 (kvs (resX xs o.Leaves.xs))), (refC dd F77 (resX zs o.Leaves.xs)), (.blk z (.cells (TOp.arr o) 39 (0, 0)) true), (qx8k_4 w71 a73 o cp74)]⟩ trivial ?_
           refine e_seq <| g_ret <| e_ret [] [] (.bool true) trivial ?_
           intro w83 hw83
           have hX : ∀ ys, stepX ys o = resX ys o.Leaves.xs := fun ys => by unfold stepX; rw [if_neg (by omega), if_neg (by omega), if_neg (by omega), if_pos (by omega)]
           have hP := hw83.pick [0, 1, 2] (σ' := [(old (fun b => F b ∨ H b) w), (Tl.tlbC tt F70 (kvs (resX xs o.Leaves.xs))), (refC dd F77 (resX zs o.Leaves.xs))]) rfl rfl
           have hsz : w83.heap.size = w82.heap.size := hP.size
           refine ⟨_, F70, F77, rfl, fun _ => rfl, by omega, ?_⟩
           rw [hX xs, hX zs, hsz]
           exact hP
         · refine g_region <| l_all 2 [oF, o0] [0, 1, 5, 102] [EF o.Kind 4] [(qx8k_10 tt), (qx8k_11 dd), (5, .pointer (some ⟨z, 0, none⟩)), (102, .bool false)] ⟨w, z + 1, [(old (fun b => F b ∨ H b) w), (Tl.tlbC tt F (kvs xs)), (refC dd H zs), (.blk z (.cells (TOp.arr o) 39 (0, 0)) true)]⟩ ⟨ef (by omega), trivial⟩ ?_
           refine e_seq <| g_false <| g_skip <| e_blk <| e_seq <| g_seq <| g_region <| l_all 1 [o0] [6] [] [(6, .bool true)] ⟨w, z + 1, [(old (fun b => F b ∨ H b) w), (Tl.tlbC tt F (kvs xs)), (refC dd H zs), (.blk z (.cells (TOp.arr o) 39 (0, 0)) true)]⟩ trivial ?_
           refine e_seq <| g_ret <| e_ret [] [] (.bool true) trivial ?_
           intro w84 hw84
           have hX : ∀ ys, stepX ys o = ys := fun ys => by unfold stepX; rw [if_neg (by omega), if_neg (by omega), if_neg (by omega), if_neg (by omega)]
           have hP := hw84.pick [0, 1, 2] (σ' := [(old (fun b => F b ∨ H b) w), (Tl.tlbC tt F (kvs xs)), (refC dd H zs)]) rfl rfl
           have hsz : w84.heap.size = z + 1 := hP.size
           refine ⟨_, F, H, rfl, fun _ => rfl, by omega, ?_⟩
           rw [hX xs, hX zs, hsz]
           exact hP

end Go.Proofs.Ytbjcamafaolgiaa.Ly
