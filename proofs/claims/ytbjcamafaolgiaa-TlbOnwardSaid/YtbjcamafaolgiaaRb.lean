/- Lists that are copied, made wide, spoilt. No conditions. -/
import Derived.Test.YtbjcamafaolgiaaRa
namespace Go.Proofs.Ytbjcamafaolgiaa.Ly
open Go Go.Proofs.Ytbjcamafaolgiaa.Eng Go.Proofs.Ytbjcamafaolgiaa.Mem
set_option linter.unusedSimpArgs false
set_option linter.unusedVariables false
set_option maxRecDepth 100000

theorem fill_end (xs zs : List TLeaf) : fillX xs zs xs.length = xs ++ zs.drop xs.length := by unfold fillX; rw [List.take_length]
def wideX (xs : List TLeaf) : List TLeaf := xs ++ (marks (xs.length + 40)).drop xs.length
theorem wideX_len (xs : List TLeaf) : (wideX xs).length = xs.length + 40 := by unfold wideX; rw [List.length_append, List.length_drop, marks_len]; omega
theorem wideX_lo {xs : List TLeaf} {i : Nat} (h : i < xs.length) : gd (wideX xs) i = gd xs i := by
  rw [gd_eq (by rw [wideX_len]; omega), gd_eq h]; unfold wideX; rw [List.getElem_append_left h]
theorem wideX_hi {xs : List TLeaf} {i : Nat} (h : xs.length ≤ i) (h2 : i < xs.length + 40) : gd (wideX xs) i = mark i := by
  rw [gd_eq (by rw [wideX_len]; omega)]; unfold wideX
  rw [List.getElem_append_right h, List.getElem_drop]
  unfold marks
  rw [List.getElem_map, List.getElem_range]
  congr 1; omega
theorem sat_row {w : World} {α : Type} {n0 : Nat} {e : TypeId} {sz : Nat} {cells : α → List Value} {v : Value} {xs : List α} (ho : w.ownsRow n0 e sz v xs.length (xs.flatMap cells)) : Sat ⟨w, w.heap.size, [old (fun b => v.ownBlock = some b) w, rowL n0 e sz cells v xs]⟩ w :=
  sat_oldS w _ _ (fun c hc => by
    simp only [List.mem_singleton] at hc; subst hc
    exact ⟨ho, row_stable _ _ _ _ _ _, fun b hb => ⟨(ho.lt b hb).2, hb⟩⟩) (by simp)
abbrev q7o7_0 (z : Nat) (aC : Option Addr) (l : Sl TLeaf) (i : Nat) (cC : Nat) : Ch := rowL z 26 3 TLeaf.cells (.slice aC ((fillX l.xs (List.replicate l.xs.length (⟨0, 0, 0⟩ : TLeaf)) i).length) cC) (fillX l.xs (List.replicate l.xs.length (⟨0, 0, 0⟩ : TLeaf)) i)
abbrev q7o7_1 (z : Nat) (l : Sl TLeaf) : Ch := rowL z 26 3 TLeaf.cells (.slice (some ⟨z, 0, none⟩) l.xs.length l.xs.length) (List.replicate l.xs.length (⟨0, 0, 0⟩ : TLeaf))
abbrev q7o7_2 (b14 : Nat) (l : Sl TLeaf) (i : Nat) (cC : Nat) : Nat × Value := (3, .slice (some ⟨b14, 0, none⟩) ((fillX l.xs (List.replicate l.xs.length (⟨0, 0, 0⟩ : TLeaf)) i).length) cC)
abbrev q7o7_3 (aC : Option Addr) (l : Sl TLeaf) (i : Nat) (cC : Nat) : Nat × Value := (3, .slice aC ((fillX l.xs (List.replicate l.xs.length (⟨0, 0, 0⟩ : TLeaf)) i).length) cC)
abbrev q7o7_4 (b6 : Nat) (o7 : Nat) (l : Sl TLeaf) : Nat × Value := (0, .slice (some ⟨b6, o7, none⟩) l.xs.length l.cap)
theorem copied_calls (w : World) (l : Sl TLeaf) (hl : SlAt TLeaf.cells 3 Any w l) (hB : l.xs.length * 24 ≤ 140737488351232) : Calls Try.prog 16 #[.slice l.a l.xs.length l.cap] w fun e w' => ∃ a cap, e = .returned (.slice a (l.xs).length cap) ∧ w'.ownsRow w.heap.size 26 3 (.slice a (l.xs).length cap) (l.xs).length ((l.xs).flatMap TLeaf.cells) ∧ Keeps (fun _ => False) w w' := by
 obtain ⟨z, hz⟩ : ∃ z, z = w.heap.size := ⟨_, rfl⟩
 refine calls_G (args := [.slice l.a l.xs.length l.cap]) 22 ⟨w, z, [(old0 w)]⟩ Try.func16 rfl (by kernel_rfl) (by kernel_rfl) (sat_0 hz) ?_
 refine g_keep [0] [(0, .slice l.a l.xs.length l.cap)] ?_
 refine g_seq <| g_region <| l_all 1 [o0] [0] [] [(0, .slice l.a l.xs.length l.cap)] ⟨w, z, [(old0 w)]⟩ trivial ?_
 refine e_seq <| g_seq <| g_region <| l_run 2 [o0, o0] [0, 6] [] [(0, .slice l.a l.xs.length l.cap), (6, .int .i64 ((l.xs.length : Nat) : Int))] ⟨w, z, [(old0 w)]⟩ trivial ?_
 refine l_makeB z l.xs.length (⟨0, 0, 0⟩ : TLeaf) TLeaf.cells 26 3 24 (.agg #[.int .i64 0, .int .i64 0, .int .i64 0]) (((l.xs.length : Nat) : Int) : Int) (((l.xs.length : Nat) : Int) : Int) (some 7) rfl rfl (by omega) (by omega) (show z ≤ z by omega) (fun n1 (hn2 : z + 1 ≤ n1) => ?_)
 refine l_keep [0, 7] [(0, .slice l.a l.xs.length l.cap), (7, .slice (some ⟨z, 0, none⟩) l.xs.length l.xs.length)] ?_
 refine l_all 1 [o0] [0, 3] [] [(0, .slice l.a l.xs.length l.cap), (3, .slice (some ⟨z, 0, none⟩) l.xs.length l.xs.length)] ⟨w, n1, [(old0 w), (q7o7_1 z l)]⟩ trivial ?_
 refine e_seq <| g_seq <| g_seq <| g_region <| l_all 1 [o0] [0, 3, 4] [] [(0, .slice l.a l.xs.length l.cap), (3, .slice (some ⟨z, 0, none⟩) l.xs.length l.xs.length), (4, .int .i64 0)] ⟨w, n1, [(old0 w), (q7o7_1 z l)]⟩ trivial ?_
 refine e_seq <| g_block <| g_loop (fun m a w' => ∃ (n4 : Nat) (i : Nat) (aC : Option Addr) (cC : Nat), m = l.xs.length - i ∧ n1 ≤ n4 ∧ (i ≤ l.xs.length) ∧ St 22 [(0, .slice l.a l.xs.length l.cap), (q7o7_3 aC l i cC), (4, .int .i64 (i : Int))] [] ⟨w, n4, [(old0 w), (q7o7_0 z aC l i cC)]⟩ a w') (l.xs.length - 0) ?_ ?_
 · intro a w' hs; exact ⟨n1, 0, (some ⟨z, 0, none⟩), l.xs.length, rfl, Nat.le_refl _, Nat.zero_le _, by (try dsimp only [q7o7_0, q7o7_1, q7o7_2, q7o7_3, q7o7_4] at hs ⊢); rw [fill_0, List.length_replicate]; exact hs⟩
 · rintro m a w' ⟨n4, i, aC, cC, rfl, hn3, hki, hs⟩
   refine (?_ : G Try.prog 22 [(0, .slice l.a l.xs.length l.cap), (q7o7_3 aC l i cC), (4, .int .i64 (i : Int))] [] ⟨w, n4, [(old0 w), (q7o7_0 z aC l i cC)]⟩ _ _ _) a w' hs
   clear hs a w'
   have hfl := fillX_len (ys := l.xs) (zs := List.replicate l.xs.length (⟨0, 0, 0⟩ : TLeaf)) (i := i) (by omega) (by simp; omega)
   rw [List.length_replicate] at hfl
   refine g_seq <| g_seq ?_
   by_cases h5 : ((i : Int) : Int) < ((l.xs.length : Nat) : Int)
   · refine g_region <| l_all 4 [o0, o0, o0, oT] [0, 3, 4, 11] [BT (((i : Int) : Int) < ((l.xs.length : Nat) : Int))] [(0, .slice l.a l.xs.length l.cap), (q7o7_3 aC l i cC), (4, .int .i64 (i : Int)), (11, .bool true)] ⟨w, n4, [(old0 w), (q7o7_0 z aC l i cC)]⟩ ⟨bt (by omega), trivial⟩ ?_
     refine e_seq <| g_true <| g_skip <| e_seq <| g_seq <| g_block ?_
     obtain ⟨b6, o7, ha8, hF10, hc9⟩ := ((⟨hl, fun _ _ => trivial⟩ : SlOk TLeaf.cells 3 (fun _ _ _ => True) _ _ _)).1.all (show 0 < l.xs.length by omega)
     replace ha8 : l.a = some ⟨b6, o7, none⟩ := ha8
     refine g_eq [(q7o7_4 b6 o7 l), (q7o7_3 aC l i cC), (4, .int .i64 (i : Int)), (11, .bool true)] (by (try dsimp only [q7o7_0, q7o7_1, q7o7_2, q7o7_3, q7o7_4]); simp only [ha8]) ?_
     have hc11 := hc9 i (show i < l.xs.length by omega)
     have he12 := ((⟨hl, fun _ _ => trivial⟩ : SlOk TLeaf.cells 3 (fun _ _ _ => True) _ _ _)).2 i (show i < l.xs.length by omega)
     obtain ⟨y13, hy13⟩ : ∃ y_, y_ = gd l.xs i := ⟨_, rfl⟩
     rw [← hy13] at he12 hc11
     refine g_rowat (base := z) (e := 26) (sz := 3) (cells := TLeaf.cells) (a := aC) (n := ((fillX l.xs (List.replicate l.xs.length (⟨0, 0, 0⟩ : TLeaf)) i).length)) (cap := cC) (xs := (fillX l.xs (List.replicate l.xs.length (⟨0, 0, 0⟩ : TLeaf)) i)) 1 (by omega) (fun b14 hg15 hb16 => ?_)
     subst hg15
     refine g_region <| l_run 7 [o0, o0, o0, o0, (oi i), (ol 0 (TLeaf.arr y13)), (oi i)] [0, 3, 4, 19, 20] [((i : Int) : Int) = ((i : Nat) : Int), i < l.xs.length, (none : Option Nat) = none, OldR w b6 (o7 + i * 3) (TLeaf.arr y13), ((i : Int) : Int) = ((i : Nat) : Int), i < (fillX l.xs (List.replicate l.xs.length (⟨0, 0, 0⟩ : TLeaf)) i).length, (none : Option Nat) = none] [(q7o7_4 b6 o7 l), (q7o7_2 b14 l i cC), (4, .int .i64 (i : Int)), (19, .agg (TLeaf.arr y13)), (20, .pointer (some ⟨b14, 0 + offs 3 i, none⟩))] ⟨w, n4, [(old0 w), (rowL z 26 3 TLeaf.cells (.slice (some ⟨b14, 0, none⟩) ((fillX l.xs (List.replicate l.xs.length (⟨0, 0, 0⟩ : TLeaf)) i).length) cC) (fillX l.xs (List.replicate l.xs.length (⟨0, 0, 0⟩ : TLeaf)) i))]⟩ ⟨rfl, (by omega), rfl, old_row hc11, rfl, (by omega), rfl, trivial⟩ ?_
     refine l_rowsetN 1 i (fillX l.xs (List.replicate l.xs.length (⟨0, 0, 0⟩ : TLeaf)) i) y13 TLeaf.cells z 26 3 b14 ((fillX l.xs (List.replicate l.xs.length (⟨0, 0, 0⟩ : TLeaf)) i).length) cC (TLeaf.arr y13) none (by omega) ?_
     refine l_keep [0, 3, 4] [(q7o7_4 b6 o7 l), (q7o7_2 b14 l i cC), (4, .int .i64 (i : Int))] ?_
     refine l_nil (by kernel_rfl) ?_
     refine e_blk <| e_seq <| g_region <| l_all 3 [o0, (ov (.int .i64 ((i + 1 : Nat) : Int))), o0] [0, 3, 4] [Value.int .i64 (IntKind.i64.wrap (((i : Int) : Int) + 1)) = Value.int .i64 (((i + 1 : Nat) : Int))] [(q7o7_4 b6 o7 l), (q7o7_2 b14 l i cC), (4, .int .i64 ((i + 1 : Nat) : Int))] ⟨w, n4, [(old0 w), (rowL z 26 3 TLeaf.cells (.slice (some ⟨b14, 0, none⟩) ((fillX l.xs (List.replicate l.xs.length (⟨0, 0, 0⟩ : TLeaf)) i).length) cC) ((fillX l.xs (List.replicate l.xs.length (⟨0, 0, 0⟩ : TLeaf)) i).set i y13))]⟩ ⟨congrArg (Value.int .i64) (wr_i64 (by omega) (by omega) (by omega)), trivial⟩ ?_
     refine e_eqk [0, 3, 4] [(0, .slice l.a l.xs.length l.cap), (q7o7_2 b14 l i cC), (4, .int .i64 ((i + 1 : Nat) : Int))] (by (try dsimp only [q7o7_0, q7o7_1, q7o7_2, q7o7_3, q7o7_4]); simp only [ha8]; rfl) ?_
     refine e_inv (fun a w' hs => ⟨l.xs.length - (i + 1), by omega, n4, (i + 1), (some ⟨b14, 0, none⟩), cC, rfl, by omega, by omega, by (try dsimp only [q7o7_0, q7o7_1, q7o7_2, q7o7_3, q7o7_4] at hs ⊢); rw [fill_set (by omega) (by simp; omega), List.length_set, ← hy13]; exact hs⟩)
   · refine g_region <| l_all 4 [o0, o0, o0, oF] [0, 3, 4, 11] [BF (((i : Int) : Int) < ((l.xs.length : Nat) : Int))] [(0, .slice l.a l.xs.length l.cap), (q7o7_3 aC l i cC), (4, .int .i64 (i : Int)), (11, .bool false)] ⟨w, n4, [(old0 w), (q7o7_0 z aC l i cC)]⟩ ⟨bf (by omega), trivial⟩ ?_
     refine e_seq <| g_false <| g_exit <| e_out <| e_outI <| e_hit <| e_seq <| g_seq <| g_region <| l_all 2 [o0, o0] [2] [] [(2, .slice aC ((fillX l.xs (List.replicate l.xs.length (⟨0, 0, 0⟩ : TLeaf)) i).length) cC)] ⟨w, n4, [(old0 w), (q7o7_0 z aC l i cC)]⟩ trivial ?_
     refine e_seq <| g_ret <| e_ret [] [] (.slice aC ((fillX l.xs (List.replicate l.xs.length (⟨0, 0, 0⟩ : TLeaf)) i).length) cC) trivial ?_
     intro w17 hw17
     have hrow := hw17.at (i := 1) rfl
     have hie : i = l.xs.length := by omega
     subst hie
     (try dsimp only [q7o7_0, q7o7_1, q7o7_2, q7o7_3, q7o7_4] at hrow)
     rw [fill_all (by simp)] at hrow
     exact ⟨_, _, by rw [fill_all (by simp)], hz ▸ hrow, hw17.back rfl (show w.heap.size ≤ n4 by omega) (List.mem_cons_self ..)⟩
abbrev q3tn_0 (z : Nat) (aF : Option Addr) (l : Sl TLeaf) (i : Nat) (cF : Nat) : Ch := rowL z 26 3 TLeaf.cells (.slice aF ((fillX (marks (l.xs.length + 40)) (List.replicate (l.xs.length + 40) (⟨0, 0, 0⟩ : TLeaf)) i).length) cF) (fillX (marks (l.xs.length + 40)) (List.replicate (l.xs.length + 40) (⟨0, 0, 0⟩ : TLeaf)) i)
abbrev q3tn_1 (z : Nat) (l : Sl TLeaf) : Ch := rowL z 26 3 TLeaf.cells (.slice (some ⟨z, 0, none⟩) (l.xs.length + 40) (l.xs.length + 40)) (List.replicate (l.xs.length + 40) (⟨0, 0, 0⟩ : TLeaf))
abbrev q3tn_2 (z : Nat) (aW : Option Addr) (l : Sl TLeaf) (k : Nat) (cW : Nat) : Ch := rowL z 26 3 TLeaf.cells (.slice aW ((fillX l.xs (marks (l.xs.length + 40)) k).length) cW) (fillX l.xs (marks (l.xs.length + 40)) k)
abbrev q3tn_3 (b8 : Nat) (l : Sl TLeaf) (i : Nat) (cF : Nat) : Nat × Value := (3, .slice (some ⟨b8, 0, none⟩) ((fillX (marks (l.xs.length + 40)) (List.replicate (l.xs.length + 40) (⟨0, 0, 0⟩ : TLeaf)) i).length) cF)
abbrev q3tn_4 (aF : Option Addr) (l : Sl TLeaf) (i : Nat) (cF : Nat) : Nat × Value := (3, .slice aF ((fillX (marks (l.xs.length + 40)) (List.replicate (l.xs.length + 40) (⟨0, 0, 0⟩ : TLeaf)) i).length) cF)
abbrev q3tn_5 (b22 : Nat) (l : Sl TLeaf) (k : Nat) (cW : Nat) : Nat × Value := (3, .slice (some ⟨b22, 0, none⟩) ((fillX l.xs (marks (l.xs.length + 40)) k).length) cW)
abbrev q3tn_6 (aW : Option Addr) (l : Sl TLeaf) (k : Nat) (cW : Nat) : Nat × Value := (3, .slice aW ((fillX l.xs (marks (l.xs.length + 40)) k).length) cW)
abbrev q3tn_7 (b14 : Nat) (o15 : Nat) (l : Sl TLeaf) : Nat × Value := (0, .slice (some ⟨b14, o15, none⟩) l.xs.length l.cap)
theorem wide_calls (w : World) (l : Sl TLeaf) (hl : SlAt TLeaf.cells 3 Any w l) (hB : l.xs.length * 24 ≤ 140737488351232) : Calls Try.prog 27 #[.slice l.a l.xs.length l.cap] w fun e w' => ∃ a cap, e = .returned (.slice a l.xs.length cap) ∧ w'.ownsRow w.heap.size 26 3 (.slice a (l.xs.length + 40) cap) (l.xs.length + 40) ((wideX l.xs).flatMap TLeaf.cells) ∧ Keeps (fun _ => False) w w' := by
 obtain ⟨z, hz⟩ : ∃ z, z = w.heap.size := ⟨_, rfl⟩
 refine calls_G (args := [.slice l.a l.xs.length l.cap]) 38 ⟨w, z, [(old0 w)]⟩ Try.func27 rfl (by kernel_rfl) (by kernel_rfl) (sat_0 hz) ?_
 refine g_keep [0] [(0, .slice l.a l.xs.length l.cap)] ?_
 refine g_seq <| g_region <| l_all 1 [o0] [0] [] [(0, .slice l.a l.xs.length l.cap)] ⟨w, z, [(old0 w)]⟩ trivial ?_
 refine e_seq <| g_seq <| g_region <| l_run 3 [o0, o0, (ov (.int .i64 ((l.xs.length + 40 : Nat) : Int)))] [0, 8] [Value.int .i64 (IntKind.i64.wrap ((((l.xs.length : Nat) : Int) : Int) + 40)) = Value.int .i64 (((l.xs.length + 40 : Nat) : Int))] [(0, .slice l.a l.xs.length l.cap), (8, .int .i64 ((l.xs.length + 40 : Nat) : Int))] ⟨w, z, [(old0 w)]⟩ ⟨congrArg (Value.int .i64) (wr_i64 (by omega) (by omega) (by omega)), trivial⟩ ?_
 refine l_makeB z (l.xs.length + 40) (⟨0, 0, 0⟩ : TLeaf) TLeaf.cells 26 3 24 (.agg #[.int .i64 0, .int .i64 0, .int .i64 0]) (((l.xs.length + 40 : Nat) : Int) : Int) (((l.xs.length + 40 : Nat) : Int) : Int) (some 9) rfl rfl (by omega) (by omega) (show z ≤ z by omega) (fun n1 (hn2 : z + 1 ≤ n1) => ?_)
 refine l_keep [0, 9] [(0, .slice l.a l.xs.length l.cap), (9, .slice (some ⟨z, 0, none⟩) (l.xs.length + 40) (l.xs.length + 40))] ?_
 refine l_all 1 [o0] [0, 3] [] [(0, .slice l.a l.xs.length l.cap), (3, .slice (some ⟨z, 0, none⟩) (l.xs.length + 40) (l.xs.length + 40))] ⟨w, n1, [(old0 w), (q3tn_1 z l)]⟩ trivial ?_
 refine e_seq <| g_seq <| g_seq <| g_region <| l_all 1 [o0] [0, 3, 4] [] [(0, .slice l.a l.xs.length l.cap), (3, .slice (some ⟨z, 0, none⟩) (l.xs.length + 40) (l.xs.length + 40)), (4, .int .i64 0)] ⟨w, n1, [(old0 w), (q3tn_1 z l)]⟩ trivial ?_
 refine e_seq <| g_block <| g_loop (fun m a w' => ∃ (n4 : Nat) (i : Nat) (aF : Option Addr) (cF : Nat), m = (l.xs.length + 40) - i ∧ n1 ≤ n4 ∧ (i ≤ (l.xs.length + 40)) ∧ St 38 [(0, .slice l.a l.xs.length l.cap), (q3tn_4 aF l i cF), (4, .int .i64 (i : Int))] [] ⟨w, n4, [(old0 w), (q3tn_0 z aF l i cF)]⟩ a w') ((l.xs.length + 40) - 0) ?_ ?_
 · intro a w' hs; exact ⟨n1, 0, (some ⟨z, 0, none⟩), (l.xs.length + 40), rfl, Nat.le_refl _, Nat.zero_le _, by (try dsimp only [q3tn_0, q3tn_1, q3tn_2, q3tn_3, q3tn_4, q3tn_5, q3tn_6, q3tn_7] at hs ⊢); rw [fill_0, List.length_replicate]; exact hs⟩
 · rintro m a w' ⟨n4, i, aF, cF, rfl, hn3, hki, hs⟩
   refine (?_ : G Try.prog 38 [(0, .slice l.a l.xs.length l.cap), (q3tn_4 aF l i cF), (4, .int .i64 (i : Int))] [] ⟨w, n4, [(old0 w), (q3tn_0 z aF l i cF)]⟩ _ _ _) a w' hs
   clear hs a w'
   have hfl := fillX_len (ys := marks (l.xs.length + 40)) (zs := (List.replicate (l.xs.length + 40) (⟨0, 0, 0⟩ : TLeaf))) (i := i) (by rw [marks_len]; omega) (by simp; omega)
   rw [List.length_replicate] at hfl
   refine g_seq <| g_seq ?_
   by_cases h5 : ((i : Int) : Int) < (((fillX (marks (l.xs.length + 40)) (List.replicate (l.xs.length + 40) (⟨0, 0, 0⟩ : TLeaf)) i).length : Nat) : Int)
   · refine g_region <| l_all 4 [o0, o0, o0, oT] [0, 3, 4, 13] [BT (((i : Int) : Int) < (((fillX (marks (l.xs.length + 40)) (List.replicate (l.xs.length + 40) (⟨0, 0, 0⟩ : TLeaf)) i).length : Nat) : Int))] [(0, .slice l.a l.xs.length l.cap), (q3tn_4 aF l i cF), (4, .int .i64 (i : Int)), (13, .bool true)] ⟨w, n4, [(old0 w), (q3tn_0 z aF l i cF)]⟩ ⟨bt (by omega), trivial⟩ ?_
     refine e_seq <| g_true <| g_skip <| e_seq <| g_seq <| g_block <| g_region <| l_run 3 [o0, o0, o0] [0, 3, 4, 16, 17, 18] [] [(0, .slice l.a l.xs.length l.cap), (q3tn_4 aF l i cF), (4, .int .i64 (i : Int)), (16, .slice aF ((fillX (marks (l.xs.length + 40)) (List.replicate (l.xs.length + 40) (⟨0, 0, 0⟩ : TLeaf)) i).length) cF), (17, .int .i64 (i : Int)), (18, .int .i64 (i : Int))] ⟨w, n4, [(old0 w), (q3tn_0 z aF l i cF)]⟩ trivial ?_
     refine l_call [] [] 39 #[.int .i64 (i : Int)] (some 19) trivial ?_
     intro w6 hw6
     refine (mark_calls w6 i (by omega)).mono ?_
     rintro e w7 ⟨rfl, hkw7⟩
     have hnw7 : n4 ≤ w7.heap.size := by have := hkw7.size; rw [hw6.size] at this; exact this
     refine ⟨_, _, rfl, hw6.keeps hkw7, ?_⟩
     refine l_keep [0, 3, 4, 16, 17, 19] [(0, .slice l.a l.xs.length l.cap), (q3tn_4 aF l i cF), (4, .int .i64 (i : Int)), (16, .slice aF ((fillX (marks (l.xs.length + 40)) (List.replicate (l.xs.length + 40) (⟨0, 0, 0⟩ : TLeaf)) i).length) cF), (17, .int .i64 (i : Int)), (19, .agg (TLeaf.arr (mark i)))] ?_
     refine l_rowat (base := z) (e := 26) (sz := 3) (cells := TLeaf.cells) (a := aF) (n := ((fillX (marks (l.xs.length + 40)) (List.replicate (l.xs.length + 40) (⟨0, 0, 0⟩ : TLeaf)) i).length)) (cap := cF) (xs := (fillX (marks (l.xs.length + 40)) (List.replicate (l.xs.length + 40) (⟨0, 0, 0⟩ : TLeaf)) i)) 1 (by omega) (fun b8 hg9 hb10 => ?_)
     subst hg9
     refine l_run 1 [(oi i)] [0, 3, 4, 19, 20] [((i : Int) : Int) = ((i : Nat) : Int), i < (fillX (marks (l.xs.length + 40)) (List.replicate (l.xs.length + 40) (⟨0, 0, 0⟩ : TLeaf)) i).length, (none : Option Nat) = none] [(0, .slice l.a l.xs.length l.cap), (q3tn_3 b8 l i cF), (4, .int .i64 (i : Int)), (19, .agg (TLeaf.arr (mark i))), (20, .pointer (some ⟨b8, 0 + offs 3 i, none⟩))] ⟨w, w7.heap.size, [(old0 w), (rowL z 26 3 TLeaf.cells (.slice (some ⟨b8, 0, none⟩) ((fillX (marks (l.xs.length + 40)) (List.replicate (l.xs.length + 40) (⟨0, 0, 0⟩ : TLeaf)) i).length) cF) (fillX (marks (l.xs.length + 40)) (List.replicate (l.xs.length + 40) (⟨0, 0, 0⟩ : TLeaf)) i))]⟩ ⟨rfl, (by omega), rfl, trivial⟩ ?_
     refine l_rowsetN 1 i (fillX (marks (l.xs.length + 40)) (List.replicate (l.xs.length + 40) (⟨0, 0, 0⟩ : TLeaf)) i) (mark i) TLeaf.cells z 26 3 b8 ((fillX (marks (l.xs.length + 40)) (List.replicate (l.xs.length + 40) (⟨0, 0, 0⟩ : TLeaf)) i).length) cF (TLeaf.arr (mark i)) none (by omega) ?_
     refine l_keep [0, 3, 4] [(0, .slice l.a l.xs.length l.cap), (q3tn_3 b8 l i cF), (4, .int .i64 (i : Int))] ?_
     refine l_nil (by kernel_rfl) ?_
     refine e_blk <| e_seq <| g_region <| l_all 3 [o0, (ov (.int .i64 ((i + 1 : Nat) : Int))), o0] [0, 3, 4] [Value.int .i64 (IntKind.i64.wrap (((i : Int) : Int) + 1)) = Value.int .i64 (((i + 1 : Nat) : Int))] [(0, .slice l.a l.xs.length l.cap), (q3tn_3 b8 l i cF), (4, .int .i64 ((i + 1 : Nat) : Int))] ⟨w, w7.heap.size, [(old0 w), (rowL z 26 3 TLeaf.cells (.slice (some ⟨b8, 0, none⟩) ((fillX (marks (l.xs.length + 40)) (List.replicate (l.xs.length + 40) (⟨0, 0, 0⟩ : TLeaf)) i).length) cF) ((fillX (marks (l.xs.length + 40)) (List.replicate (l.xs.length + 40) (⟨0, 0, 0⟩ : TLeaf)) i).set i (mark i)))]⟩ ⟨congrArg (Value.int .i64) (wr_i64 (by omega) (by omega) (by omega)), trivial⟩ ?_
     refine e_keep [0, 3, 4] [(0, .slice l.a l.xs.length l.cap), (q3tn_3 b8 l i cF), (4, .int .i64 ((i + 1 : Nat) : Int))] ?_
     refine e_inv (fun a w' hs => ⟨(l.xs.length + 40) - (i + 1), by omega, w7.heap.size, (i + 1), (some ⟨b8, 0, none⟩), cF, rfl, by omega, by omega, by (try dsimp only [q3tn_0, q3tn_1, q3tn_2, q3tn_3, q3tn_4, q3tn_5, q3tn_6, q3tn_7] at hs ⊢); rw [fill_set (by rw [marks_len]; omega) (by simp; omega), List.length_set, marks_at (by omega)]; exact hs⟩)
   · refine g_region <| l_all 4 [o0, o0, o0, oF] [0, 3, 4, 13] [BF (((i : Int) : Int) < (((fillX (marks (l.xs.length + 40)) (List.replicate (l.xs.length + 40) (⟨0, 0, 0⟩ : TLeaf)) i).length : Nat) : Int))] [(0, .slice l.a l.xs.length l.cap), (q3tn_4 aF l i cF), (4, .int .i64 (i : Int)), (13, .bool false)] ⟨w, n4, [(old0 w), (q3tn_0 z aF l i cF)]⟩ ⟨bf (by omega), trivial⟩ ?_
     refine e_seq <| g_false <| g_exit <| e_out <| e_outI <| e_hit <| e_seq <| g_seq <| g_seq <| g_region <| l_all 1 [o0] [0, 3, 5] [] [(0, .slice l.a l.xs.length l.cap), (q3tn_4 aF l i cF), (5, .int .i64 0)] ⟨w, n4, [(old0 w), (q3tn_0 z aF l i cF)]⟩ trivial ?_
     refine e_seq <| g_block ?_
     have hiN : i = (l.xs.length + 40) := by omega
     have hfm : fillX (marks (l.xs.length + 40)) (List.replicate (l.xs.length + 40) (⟨0, 0, 0⟩ : TLeaf)) i = marks (l.xs.length + 40) := by rw [hiN]; have h0 := fill_all (ys := marks (l.xs.length + 40)) (zs := (List.replicate (l.xs.length + 40) (⟨0, 0, 0⟩ : TLeaf))) (by simp [marks_len]); rwa [marks_len] at h0
     refine g_loop (fun m a w' => ∃ (n12 : Nat) (k : Nat) (aW : Option Addr) (cW : Nat), m = l.xs.length - k ∧ n4 ≤ n12 ∧ (k ≤ l.xs.length) ∧ St 38 [(0, .slice l.a l.xs.length l.cap), (q3tn_6 aW l k cW), (5, .int .i64 (k : Int))] [] ⟨w, n12, [(old0 w), (q3tn_2 z aW l k cW)]⟩ a w') (l.xs.length - 0) ?_ ?_
     · intro a w' hs; exact ⟨n4, 0, aF, cF, rfl, Nat.le_refl _, Nat.zero_le _, by (try dsimp only [q3tn_0, q3tn_1, q3tn_2, q3tn_3, q3tn_4, q3tn_5, q3tn_6, q3tn_7] at hs ⊢); rw [fill_0, ← hfm]; exact hs⟩
     · rintro m a w' ⟨n12, k, aW, cW, rfl, hn11, hkk, hs⟩
       refine (?_ : G Try.prog 38 [(0, .slice l.a l.xs.length l.cap), (q3tn_6 aW l k cW), (5, .int .i64 (k : Int))] [] ⟨w, n12, [(old0 w), (q3tn_2 z aW l k cW)]⟩ _ _ _) a w' hs
       clear hs a w'
       have hf2 := fillX_len (ys := l.xs) (zs := marks (l.xs.length + 40)) (i := k) (by omega) (by rw [marks_len]; omega)
       rw [marks_len] at hf2
       refine g_seq <| g_seq ?_
       by_cases h13 : ((k : Int) : Int) < ((l.xs.length : Nat) : Int)
       · refine g_region <| l_all 4 [o0, o0, o0, oT] [0, 3, 5, 24] [BT (((k : Int) : Int) < ((l.xs.length : Nat) : Int))] [(0, .slice l.a l.xs.length l.cap), (q3tn_6 aW l k cW), (5, .int .i64 (k : Int)), (24, .bool true)] ⟨w, n12, [(old0 w), (q3tn_2 z aW l k cW)]⟩ ⟨bt (by omega), trivial⟩ ?_
         refine e_seq <| g_true <| g_skip <| e_seq <| g_seq <| g_block ?_
         obtain ⟨b14, o15, ha16, hF18, hc17⟩ := ((⟨hl, fun _ _ => trivial⟩ : SlOk TLeaf.cells 3 (fun _ _ _ => True) _ _ _)).1.all (show 0 < l.xs.length by omega)
         replace ha16 : l.a = some ⟨b14, o15, none⟩ := ha16
         refine g_eq [(q3tn_7 b14 o15 l), (q3tn_6 aW l k cW), (5, .int .i64 (k : Int)), (24, .bool true)] (by (try dsimp only [q3tn_0, q3tn_1, q3tn_2, q3tn_3, q3tn_4, q3tn_5, q3tn_6, q3tn_7]); simp only [ha16]) ?_
         have hc19 := hc17 k (show k < l.xs.length by omega)
         have he20 := ((⟨hl, fun _ _ => trivial⟩ : SlOk TLeaf.cells 3 (fun _ _ _ => True) _ _ _)).2 k (show k < l.xs.length by omega)
         obtain ⟨y21, hy21⟩ : ∃ y_, y_ = gd l.xs k := ⟨_, rfl⟩
         rw [← hy21] at he20 hc19
         refine g_rowat (base := z) (e := 26) (sz := 3) (cells := TLeaf.cells) (a := aW) (n := ((fillX l.xs (marks (l.xs.length + 40)) k).length)) (cap := cW) (xs := (fillX l.xs (marks (l.xs.length + 40)) k)) 1 (by omega) (fun b22 hg23 hb24 => ?_)
         subst hg23
         refine g_region <| l_run 7 [o0, o0, o0, o0, (oi k), (ol 0 (TLeaf.arr y21)), (oi k)] [0, 3, 5, 32, 33] [((k : Int) : Int) = ((k : Nat) : Int), k < l.xs.length, (none : Option Nat) = none, OldR w b14 (o15 + k * 3) (TLeaf.arr y21), ((k : Int) : Int) = ((k : Nat) : Int), k < (fillX l.xs (marks (l.xs.length + 40)) k).length, (none : Option Nat) = none] [(q3tn_7 b14 o15 l), (q3tn_5 b22 l k cW), (5, .int .i64 (k : Int)), (32, .agg (TLeaf.arr y21)), (33, .pointer (some ⟨b22, 0 + offs 3 k, none⟩))] ⟨w, n12, [(old0 w), (rowL z 26 3 TLeaf.cells (.slice (some ⟨b22, 0, none⟩) ((fillX l.xs (marks (l.xs.length + 40)) k).length) cW) (fillX l.xs (marks (l.xs.length + 40)) k))]⟩ ⟨rfl, (by omega), rfl, old_row hc19, rfl, (by omega), rfl, trivial⟩ ?_
         refine l_rowsetN 1 k (fillX l.xs (marks (l.xs.length + 40)) k) y21 TLeaf.cells z 26 3 b22 ((fillX l.xs (marks (l.xs.length + 40)) k).length) cW (TLeaf.arr y21) none (by omega) ?_
         refine l_keep [0, 3, 5] [(q3tn_7 b14 o15 l), (q3tn_5 b22 l k cW), (5, .int .i64 (k : Int))] ?_
         refine l_nil (by kernel_rfl) ?_
         refine e_blk <| e_seq <| g_region <| l_all 3 [o0, (ov (.int .i64 ((k + 1 : Nat) : Int))), o0] [0, 3, 5] [Value.int .i64 (IntKind.i64.wrap (((k : Int) : Int) + 1)) = Value.int .i64 (((k + 1 : Nat) : Int))] [(q3tn_7 b14 o15 l), (q3tn_5 b22 l k cW), (5, .int .i64 ((k + 1 : Nat) : Int))] ⟨w, n12, [(old0 w), (rowL z 26 3 TLeaf.cells (.slice (some ⟨b22, 0, none⟩) ((fillX l.xs (marks (l.xs.length + 40)) k).length) cW) ((fillX l.xs (marks (l.xs.length + 40)) k).set k y21))]⟩ ⟨congrArg (Value.int .i64) (wr_i64 (by omega) (by omega) (by omega)), trivial⟩ ?_
         refine e_eqk [0, 3, 5] [(0, .slice l.a l.xs.length l.cap), (q3tn_5 b22 l k cW), (5, .int .i64 ((k + 1 : Nat) : Int))] (by (try dsimp only [q3tn_0, q3tn_1, q3tn_2, q3tn_3, q3tn_4, q3tn_5, q3tn_6, q3tn_7]); simp only [ha16]; rfl) ?_
         refine e_inv (fun a w' hs => ⟨l.xs.length - (k + 1), by omega, n12, (k + 1), (some ⟨b22, 0, none⟩), cW, rfl, by omega, by omega, by (try dsimp only [q3tn_0, q3tn_1, q3tn_2, q3tn_3, q3tn_4, q3tn_5, q3tn_6, q3tn_7] at hs ⊢); rw [fill_set (by omega) (by rw [marks_len]; omega), List.length_set, ← hy21]; exact hs⟩)
       · refine g_region <| l_all 4 [o0, o0, o0, oF] [0, 3, 5, 24] [BF (((k : Int) : Int) < ((l.xs.length : Nat) : Int))] [(0, .slice l.a l.xs.length l.cap), (q3tn_6 aW l k cW), (5, .int .i64 (k : Int)), (24, .bool false)] ⟨w, n12, [(old0 w), (q3tn_2 z aW l k cW)]⟩ ⟨bf (by omega), trivial⟩ ?_
         refine e_seq <| g_false <| g_exit <| e_out <| e_outI <| e_hit <| e_seq <| g_seq <| g_rowcap 1 rfl (fun hcap => ?_)
         refine g_region <| l_all 5 [o0, o0, o0, ⟨.slc 0 l.xs.length false, none⟩, o0] [2] [(0 : Int) = ((0 : Nat) : Int), (((l.xs.length : Nat) : Int) : Int) = ((l.xs.length : Nat) : Int), 0 ≤ l.xs.length, l.xs.length ≤ cW, cW = 0 ∨ (0 : Nat) = 0] [(2, .slice aW (l.xs.length - 0) (cW - 0))] ⟨w, n12, [(old0 w), (q3tn_2 z aW l k cW)]⟩ ⟨rfl, rfl, (by omega), (by omega), .inr rfl, trivial⟩ ?_
         refine e_seq <| g_ret <| e_ret [] [] (.slice aW (l.xs.length - 0) (cW - 0)) trivial ?_
         intro w25 hw25
         have hrow := hw25.at (i := 1) rfl
         have hie : k = l.xs.length := by omega
         subst hie
         (try dsimp only [q3tn_0, q3tn_1, q3tn_2, q3tn_3, q3tn_4, q3tn_5, q3tn_6, q3tn_7] at hrow)
         rw [fill_end] at hrow
         have hrow2 : w25.ownsRow w.heap.size 26 3 (.slice aW (wideX l.xs).length cW) (wideX l.xs).length ((wideX l.xs).flatMap TLeaf.cells) := hz ▸ hrow
         rw [wideX_len] at hrow2
         exact ⟨_, _, rfl, hrow2, hw25.back rfl (show w.heap.size ≤ n12 by omega) (List.mem_cons_self ..)⟩
abbrev qsjm_0 (w5 : World) (i : Nat) : Ch := .blk w5.heap.size (.cells (TLeaf.arr (mark i)) 26 (0, 0)) true
abbrev qsjm_1 (b15 : Nat) (o16 : Nat) (l : Sl TLeaf) (cap : Nat) : Nat × Value := (5, .slice (some ⟨b15, o16, none⟩) (l.xs.length + 40 - 0) (cap - 0))
abbrev qsjm_2 (b23 : Nat) (o24 : Nat) (l : Sl TLeaf) (cap : Nat) : Nat × Value := (5, .slice (some ⟨b23, o24, none⟩) (l.xs.length + 40 - 0) (cap - 0))
abbrev qsjm_3 (b7 : Nat) (o8 : Nat) (l : Sl TLeaf) : Nat × Value := (1, .slice (some ⟨b7, o8, none⟩) l.xs.length l.cap)
abbrev qsjm_4 (ad : Option Addr) (l : Sl TLeaf) (cap : Nat) : Nat × Value := (5, .slice ad (l.xs.length + 40 - 0) (cap - 0))
abbrev qsjm_5 (w5 : World) : Nat × Value := (7, .pointer (some ⟨w5.heap.size, 0, none⟩))
abbrev qsjm_6 (w : World) (w5 : World) (y14 : TLeaf) : List Ch := [(old0 w), (.blk w5.heap.size (.cells (TLeaf.arr y14) 26 (0, 0)) true)]
theorem kept_calls (w : World) (ad : Option Addr) (cap : Nat) (l : Sl TLeaf) (hh : SlAt TLeaf.cells 3 Any w ⟨ad, cap, wideX l.xs⟩) (hl : SlAt TLeaf.cells 3 Any w l) : Calls Try.prog 29 #[.slice ad l.xs.length cap, .slice l.a l.xs.length l.cap] w fun e w' => e = .returned (.bool true) ∧ Keeps (fun _ => False) w w' := by
 obtain ⟨z, hz⟩ : ∃ z, z = w.heap.size := ⟨_, rfl⟩
 refine calls_G (args := [.slice ad l.xs.length cap, .slice l.a l.xs.length l.cap]) 35 ⟨w, z, [(old0 w)]⟩ Try.func29 rfl (by kernel_rfl) (by kernel_rfl) (sat_0 hz) ?_
 have hwl := wideX_len l.xs; have hll := hl.len; have hhl : (wideX l.xs).length ≤ cap := hh.le
 refine g_keep [0, 1] [(0, .slice ad l.xs.length cap), (1, .slice l.a l.xs.length l.cap)] ?_
 refine g_seq <| g_region <| l_all 1 [o0] [0, 1] [] [(0, .slice ad l.xs.length cap), (1, .slice l.a l.xs.length l.cap)] ⟨w, z, [(old0 w)]⟩ trivial ?_
 refine e_seq <| g_seq <| g_region <| l_all 6 [o0, o0, o0, (ov (.int .i64 ((l.xs.length + 40 : Nat) : Int))), ⟨.slc 0 (l.xs.length + 40) false, none⟩, o0] [1, 5] [Value.int .i64 (IntKind.i64.wrap ((((l.xs.length : Nat) : Int) : Int) + 40)) = Value.int .i64 (((l.xs.length + 40 : Nat) : Int)), (0 : Int) = ((0 : Nat) : Int), (((l.xs.length + 40 : Nat) : Int) : Int) = ((l.xs.length + 40 : Nat) : Int), 0 ≤ l.xs.length + 40, l.xs.length + 40 ≤ cap, cap = 0 ∨ (0 : Nat) = 0] [(1, .slice l.a l.xs.length l.cap), (qsjm_4 ad l cap)] ⟨w, z, [(old0 w)]⟩ ⟨congrArg (Value.int .i64) (wr_i64 (by omega) (by omega) (by omega)), rfl, rfl, (by omega), (by omega), .inr rfl, trivial⟩ ?_
 refine e_seq <| g_seq <| g_seq <| g_region <| l_all 1 [o0] [1, 5, 6] [] [(1, .slice l.a l.xs.length l.cap), (qsjm_4 ad l cap), (6, .int .i64 0)] ⟨w, z, [(old0 w)]⟩ trivial ?_
 refine e_seq <| g_block <| g_loop (fun m a w' => ∃ (n2 : Nat) (i : Nat), m = (l.xs.length + 40) - i ∧ z ≤ n2 ∧ (i ≤ (l.xs.length + 40)) ∧ St 35 [(1, .slice l.a l.xs.length l.cap), (qsjm_4 ad l cap), (6, .int .i64 (i : Int))] [] ⟨w, n2, [(old0 w)]⟩ a w') ((l.xs.length + 40) - 0) ?_ ?_
 · intro a w' hs; exact ⟨z, 0, rfl, Nat.le_refl _, Nat.zero_le _, hs⟩
 · rintro m a w' ⟨n2, i, rfl, hn1, hki, hs⟩
   refine (?_ : G Try.prog 35 [(1, .slice l.a l.xs.length l.cap), (qsjm_4 ad l cap), (6, .int .i64 (i : Int))] [] ⟨w, n2, [(old0 w)]⟩ _ _ _) a w' hs
   clear hs a w'
   refine g_seq <| g_seq ?_
   by_cases h3 : ((i : Int) : Int) < ((l.xs.length + 40 - 0 : Nat) : Int)
   · refine g_region <| l_all 4 [o0, o0, o0, oT] [1, 5, 6, 16] [BT (((i : Int) : Int) < ((l.xs.length + 40 - 0 : Nat) : Int))] [(1, .slice l.a l.xs.length l.cap), (qsjm_4 ad l cap), (6, .int .i64 (i : Int)), (16, .bool true)] ⟨w, n2, [(old0 w)]⟩ ⟨bt (by omega), trivial⟩ ?_
     refine e_seq <| g_true <| g_skip <| e_seq <| g_seq <| g_block <| g_seq <| g_region <| l_run 1 [o0] [1, 5, 6, 19] [] [(1, .slice l.a l.xs.length l.cap), (qsjm_4 ad l cap), (6, .int .i64 (i : Int)), (19, .int .i64 (i : Int))] ⟨w, n2, [(old0 w)]⟩ trivial ?_
     refine l_call [] [] 39 #[.int .i64 (i : Int)] (some 20) trivial ?_
     intro w4 hw4
     refine (mark_calls w4 i (by omega)).mono ?_
     rintro e w5 ⟨rfl, hkw5⟩
     have hnw5 : n2 ≤ w5.heap.size := by have := hkw5.size; rw [hw4.size] at this; exact this
     refine ⟨_, _, rfl, hw4.keeps hkw5, ?_⟩
     refine l_keep [1, 5, 6, 20] [(1, .slice l.a l.xs.length l.cap), (qsjm_4 ad l cap), (6, .int .i64 (i : Int)), (20, .agg (TLeaf.arr (mark i)))] ?_
     refine l_all 2 [o0, (oa [.at 1, .at 1, .at 1])] [1, 5, 6, 7] [Qb w5.heap.size, Qb w5.heap.size, Qb w5.heap.size] [(1, .slice l.a l.xs.length l.cap), (qsjm_4 ad l cap), (6, .int .i64 (i : Int)), (qsjm_5 w5)] ⟨w, w5.heap.size + 1, [(old0 w), (qsjm_0 w5 i)]⟩ ⟨rfl, rfl, rfl, trivial⟩ ?_
     refine e_seq <| g_seq <| g_seq ?_
     by_cases h6 : ((i : Int) : Int) < ((l.xs.length : Nat) : Int)
     · refine g_region <| l_all 4 [o0, o0, o0, oT] [1, 5, 6, 7, 24] [BT (((i : Int) : Int) < ((l.xs.length : Nat) : Int))] [(1, .slice l.a l.xs.length l.cap), (qsjm_4 ad l cap), (6, .int .i64 (i : Int)), (qsjm_5 w5), (24, .bool true)] ⟨w, w5.heap.size + 1, [(old0 w), (qsjm_0 w5 i)]⟩ ⟨bt (by omega), trivial⟩ ?_
       refine e_seq <| g_true ?_
       obtain ⟨b7, o8, ha9, hF11, hc10⟩ := ((⟨hl, fun _ _ => trivial⟩ : SlOk TLeaf.cells 3 (fun _ _ _ => True) _ _ _)).1.all (show 0 < l.xs.length by omega)
       replace ha9 : l.a = some ⟨b7, o8, none⟩ := ha9
       refine g_eq [(qsjm_3 b7 o8 l), (qsjm_4 ad l cap), (6, .int .i64 (i : Int)), (qsjm_5 w5), (24, .bool true)] (by (try dsimp only [qsjm_0, qsjm_1, qsjm_2, qsjm_3, qsjm_4, qsjm_5, qsjm_6]); simp only [ha9]) ?_
       have hc12 := hc10 i (show i < l.xs.length by omega)
       have he13 := ((⟨hl, fun _ _ => trivial⟩ : SlOk TLeaf.cells 3 (fun _ _ _ => True) _ _ _)).2 i (show i < l.xs.length by omega)
       obtain ⟨y14, hy14⟩ : ∃ y_, y_ = gd l.xs i := ⟨_, rfl⟩
       rw [← hy14] at he13 hc12
       refine g_region <| l_all 5 [o0, o0, (oi i), (ol 0 (TLeaf.arr y14)), (oa [.at 1, .at 1, .at 1])] [1, 5, 6, 7] [((i : Int) : Int) = ((i : Nat) : Int), i < l.xs.length, (none : Option Nat) = none, OldR w b7 (o8 + i * 3) (TLeaf.arr y14), Qb w5.heap.size, Qb w5.heap.size, Qb w5.heap.size] [(qsjm_3 b7 o8 l), (qsjm_4 ad l cap), (6, .int .i64 (i : Int)), (qsjm_5 w5)] ⟨w, w5.heap.size + 1, (qsjm_6 w w5 y14)⟩ ⟨rfl, (by omega), rfl, old_row hc12, rfl, rfl, rfl, trivial⟩ ?_
       refine e_seq <| g_seq ?_
       obtain ⟨b15, o16, ha17, hF19, hc18⟩ := ((⟨hh, fun _ _ => trivial⟩ : SlOk TLeaf.cells 3 (fun _ _ _ => True) _ _ _)).1.all (show 0 < (wideX l.xs).length by omega)
       replace ha17 : ad = some ⟨b15, o16, none⟩ := ha17
       refine g_eq [(qsjm_3 b7 o8 l), (qsjm_1 b15 o16 l cap), (6, .int .i64 (i : Int)), (qsjm_5 w5)] (by (try dsimp only [qsjm_0, qsjm_1, qsjm_2, qsjm_3, qsjm_4, qsjm_5, qsjm_6]); simp only [ha17]) ?_
       have hc20 := hc18 i (show i < (wideX l.xs).length by omega)
       have he21 := ((⟨hh, fun _ _ => trivial⟩ : SlOk TLeaf.cells 3 (fun _ _ _ => True) _ _ _)).2 i (show i < (wideX l.xs).length by omega)
       obtain ⟨y22, hy22⟩ : ∃ y_, y_ = gd (wideX l.xs) i := ⟨_, rfl⟩
       rw [← hy22] at he21 hc20
       refine g_draw 6 [0, 1] (qsjm_6 w w5 y14) rfl rfl ?_
       refine w_take [(0, o0), (1, o0), (2, (oi i)), (3, (ol 0 (TLeaf.arr y22))), (4, (oa [.at 1, .at 1, .at 1])), (5, ⟨.seq true, none⟩)] [1, 5, 6, 34] [((i : Int) : Int) = ((i : Nat) : Int), i < l.xs.length + 40 - 0, (none : Option Nat) = none, OldR w b15 (o16 + i * 3) (TLeaf.arr y22), Qb w5.heap.size, Qb w5.heap.size, Qb w5.heap.size, ((y22.Page : Int) == (y14.Page : Int) && ((y22.Frame : Int) == (y14.Frame : Int) && ((y22.Rights : Int) == (y14.Rights : Int) && true))) = true] [true, true, true, true, true, true] [(qsjm_3 b7 o8 l), (qsjm_1 b15 o16 l cap), (6, .int .i64 (i : Int)), (34, .bool false)] rfl (by as_aux_lemma => kernel_rfl) (by as_aux_lemma => kernel_rfl) ⟨rfl, (by omega), rfl, old_row hc20, rfl, rfl, rfl, (by rw [show y22 = y14 from by rw [hy22, hy14]; exact wideX_lo (by omega)]; simp), trivial⟩ ?_
       refine w_done (by as_aux_lemma => kernel_rfl) ?_
       refine e_keep [1, 5, 6, 34] [(qsjm_3 b7 o8 l), (qsjm_1 b15 o16 l cap), (6, .int .i64 (i : Int)), (34, .bool false)] ?_
       refine e_seq <| g_false <| g_skip <| e_blk <| e_seq <| g_region <| l_all 3 [o0, (ov (.int .i64 ((i + 1 : Nat) : Int))), o0] [1, 5, 6] [Value.int .i64 (IntKind.i64.wrap (((i : Int) : Int) + 1)) = Value.int .i64 (((i + 1 : Nat) : Int))] [(qsjm_3 b7 o8 l), (qsjm_1 b15 o16 l cap), (6, .int .i64 ((i + 1 : Nat) : Int))] ⟨w, w5.heap.size + 1, (qsjm_6 w w5 y14)⟩ ⟨congrArg (Value.int .i64) (wr_i64 (by omega) (by omega) (by omega)), trivial⟩ ?_
       refine e_pick [0] [(old0 w)] rfl rfl ?_
       refine e_eqk [1, 5, 6] [(1, .slice l.a l.xs.length l.cap), (qsjm_4 ad l cap), (6, .int .i64 ((i + 1 : Nat) : Int))] (by (try dsimp only [qsjm_0, qsjm_1, qsjm_2, qsjm_3, qsjm_4, qsjm_5, qsjm_6]); simp only [ha9, ha17]; rfl) ?_
       refine e_inv (fun a w' hs => ⟨(l.xs.length + 40) - (i + 1), by omega, (w5.heap.size + 1), (i + 1), rfl, by omega, by omega, hs⟩)
     · refine g_region <| l_all 4 [o0, o0, o0, oF] [1, 5, 6, 7, 24] [BF (((i : Int) : Int) < ((l.xs.length : Nat) : Int))] [(1, .slice l.a l.xs.length l.cap), (qsjm_4 ad l cap), (6, .int .i64 (i : Int)), (qsjm_5 w5), (24, .bool false)] ⟨w, w5.heap.size + 1, [(old0 w), (qsjm_0 w5 i)]⟩ ⟨bf (by omega), trivial⟩ ?_
       refine e_seq <| g_false <| g_skip <| e_seq <| g_seq ?_
       obtain ⟨b23, o24, ha25, hF27, hc26⟩ := ((⟨hh, fun _ _ => trivial⟩ : SlOk TLeaf.cells 3 (fun _ _ _ => True) _ _ _)).1.all (show 0 < (wideX l.xs).length by omega)
       replace ha25 : ad = some ⟨b23, o24, none⟩ := ha25
       refine g_eq [(1, .slice l.a l.xs.length l.cap), (qsjm_2 b23 o24 l cap), (6, .int .i64 (i : Int)), (qsjm_5 w5), (24, .bool false)] (by (try dsimp only [qsjm_0, qsjm_1, qsjm_2, qsjm_3, qsjm_4, qsjm_5, qsjm_6]); simp only [ha25]) ?_
       have hc28 := hc26 i (show i < (wideX l.xs).length by omega)
       have he29 := ((⟨hh, fun _ _ => trivial⟩ : SlOk TLeaf.cells 3 (fun _ _ _ => True) _ _ _)).2 i (show i < (wideX l.xs).length by omega)
       obtain ⟨y30, hy30⟩ : ∃ y_, y_ = gd (wideX l.xs) i := ⟨_, rfl⟩
       rw [← hy30] at he29 hc28
       refine g_draw 6 [0, 1] [(old0 w), (qsjm_0 w5 i)] rfl rfl ?_
       refine w_take [(0, o0), (1, o0), (2, (oi i)), (3, (ol 0 (TLeaf.arr y30))), (4, (oa [.at 1, .at 1, .at 1])), (5, ⟨.seq true, none⟩)] [1, 5, 6, 34] [((i : Int) : Int) = ((i : Nat) : Int), i < l.xs.length + 40 - 0, (none : Option Nat) = none, OldR w b23 (o24 + i * 3) (TLeaf.arr y30), Qb w5.heap.size, Qb w5.heap.size, Qb w5.heap.size, ((y30.Page : Int) == ((mark i).Page : Int) && ((y30.Frame : Int) == ((mark i).Frame : Int) && ((y30.Rights : Int) == ((mark i).Rights : Int) && true))) = true] [true, true, true, true, true, true] [(1, .slice l.a l.xs.length l.cap), (qsjm_2 b23 o24 l cap), (6, .int .i64 (i : Int)), (34, .bool false)] rfl (by as_aux_lemma => kernel_rfl) (by as_aux_lemma => kernel_rfl) ⟨rfl, (by omega), rfl, old_row hc28, rfl, rfl, rfl, (by rw [show y30 = mark i from by rw [hy30]; exact wideX_hi (by omega) (by omega)]; simp), trivial⟩ ?_
       refine w_done (by as_aux_lemma => kernel_rfl) ?_
       refine e_keep [1, 5, 6, 34] [(1, .slice l.a l.xs.length l.cap), (qsjm_2 b23 o24 l cap), (6, .int .i64 (i : Int)), (34, .bool false)] ?_
       refine e_seq <| g_false <| g_skip <| e_blk <| e_seq <| g_region <| l_all 3 [o0, (ov (.int .i64 ((i + 1 : Nat) : Int))), o0] [1, 5, 6] [Value.int .i64 (IntKind.i64.wrap (((i : Int) : Int) + 1)) = Value.int .i64 (((i + 1 : Nat) : Int))] [(1, .slice l.a l.xs.length l.cap), (qsjm_2 b23 o24 l cap), (6, .int .i64 ((i + 1 : Nat) : Int))] ⟨w, w5.heap.size + 1, [(old0 w), (qsjm_0 w5 i)]⟩ ⟨congrArg (Value.int .i64) (wr_i64 (by omega) (by omega) (by omega)), trivial⟩ ?_
       refine e_pick [0] [(old0 w)] rfl rfl ?_
       refine e_eqk [1, 5, 6] [(1, .slice l.a l.xs.length l.cap), (qsjm_4 ad l cap), (6, .int .i64 ((i + 1 : Nat) : Int))] (by (try dsimp only [qsjm_0, qsjm_1, qsjm_2, qsjm_3, qsjm_4, qsjm_5, qsjm_6]); simp only [ha25]; rfl) ?_
       refine e_inv (fun a w' hs => ⟨(l.xs.length + 40) - (i + 1), by omega, (w5.heap.size + 1), (i + 1), rfl, by omega, by omega, hs⟩)
   · refine g_region <| l_all 4 [o0, o0, o0, oF] [1, 5, 6, 16] [BF (((i : Int) : Int) < ((l.xs.length + 40 - 0 : Nat) : Int))] [(1, .slice l.a l.xs.length l.cap), (qsjm_4 ad l cap), (6, .int .i64 (i : Int)), (16, .bool false)] ⟨w, n2, [(old0 w)]⟩ ⟨bf (by omega), trivial⟩ ?_
     refine e_seq <| g_false <| g_exit <| e_out <| e_outI <| e_hit <| e_seq <| g_seq <| g_region <| l_all 1 [o0] [4] [] [(4, .bool true)] ⟨w, n2, [(old0 w)]⟩ trivial ?_
     refine e_seq <| g_ret <| e_ret [] [] (.bool true) trivial ?_
     intro w31 hw31
     exact ⟨rfl, hw31.back rfl (show w.heap.size ≤ n2 by omega) (List.mem_cons_self ..)⟩
abbrev qlhe_0 (n8 : Nat) (mk : Int) (j : Nat) : Ch := .blk n8 (.cells #[.int .i64 (-mk), .int .i64 (j : Int), .int .i64 mk] 26 (0, 0)) true
abbrev qlhe_1 (n0 : Nat) (a10 : Option Addr) (Y : List TLeaf) (mk : Int) (j : Nat) (cp11 : Nat) : Ch := rowL n0 26 3 TLeaf.cells (.slice a10 ((Y ++ [(⟨-mk, (j : Int), mk⟩ : TLeaf)]).length) cp11) (Y ++ [(⟨-mk, (j : Int), mk⟩ : TLeaf)])
abbrev qlhe_2 (n0 : Nat) (aS : Option Addr) (X : List TLeaf) (cS : Nat) : Ch := rowL n0 26 3 TLeaf.cells (.slice aS X.length cS) X
abbrev qlhe_3 (n0 : Nat) (aT : Option Addr) (Y : List TLeaf) (cT : Nat) : Ch := rowL n0 26 3 TLeaf.cells (.slice aT Y.length cT) Y
theorem spoil_calls (w : World) (n0 : Nat) (ad : Option Addr) (cap : Nat) (xs : List TLeaf) (mk : Int) (hmk : 0 ≤ mk ∧ mk ≤ 1000) (hB : xs.length * 24 ≤ 140737488351232) (hn0 : n0 ≤ w.heap.size) (ho : w.ownsRow n0 26 3 (.slice ad xs.length cap) xs.length (xs.flatMap TLeaf.cells)) : Calls Try.prog 26 #[.slice ad xs.length cap, .int .i64 mk] w fun e w' => e = .returned (.tuple #[]) ∧ Keeps (fun b => (Value.slice ad xs.length cap).ownBlock = some b) w w' := by
 obtain ⟨z, hz⟩ : ∃ z, z = w.heap.size := ⟨_, rfl⟩
 refine calls_G (args := [.slice ad xs.length cap, .int .i64 mk]) 33 ⟨w, z, [(old (fun b => (Value.slice ad xs.length cap).ownBlock = some b) w), (rowL n0 26 3 TLeaf.cells (.slice ad xs.length cap) xs)]⟩ Try.func26 rfl (by kernel_rfl) (by kernel_rfl) (hz ▸ sat_row ho) ?_
 refine g_keep [0, 1] [(0, .slice ad xs.length cap), (1, .int .i64 mk)] ?_
 refine g_seq <| g_seq <| g_region <| l_all 1 [o0] [0, 1, 4] [] [(0, .slice ad xs.length cap), (1, .int .i64 mk), (4, .int .i64 0)] ⟨w, z, [(old (fun b => (Value.slice ad xs.length cap).ownBlock = some b) w), (rowL n0 26 3 TLeaf.cells (.slice ad xs.length cap) xs)]⟩ trivial ?_
 refine e_seq <| g_block <| g_loop (fun m a w' => ∃ (n2 : Nat) (i : Nat) (X : List TLeaf) (aS : Option Addr) (cS : Nat), m = xs.length - i ∧ z ≤ n2 ∧ (i ≤ xs.length) ∧ (X.length = xs.length) ∧ St 33 [(0, .slice aS X.length cS), (1, .int .i64 mk), (4, .int .i64 (i : Int))] [] ⟨w, n2, [(old (fun b => (Value.slice ad xs.length cap).ownBlock = some b) w), (qlhe_2 n0 aS X cS)]⟩ a w') (xs.length - 0) ?_ ?_
 · intro a w' hs; exact ⟨z, 0, xs, ad, cap, rfl, Nat.le_refl _, Nat.zero_le _, rfl, hs⟩
 · rintro m a w' ⟨n2, i, X, aS, cS, rfl, hn1, hki, hX, hs⟩
   refine (?_ : G Try.prog 33 [(0, .slice aS X.length cS), (1, .int .i64 mk), (4, .int .i64 (i : Int))] [] ⟨w, n2, [(old (fun b => (Value.slice ad xs.length cap).ownBlock = some b) w), (qlhe_2 n0 aS X cS)]⟩ _ _ _) a w' hs
   clear hs a w'
   refine g_seq <| g_seq ?_
   by_cases h3 : ((i : Int) : Int) < ((X.length : Nat) : Int)
   · refine g_region <| l_all 4 [o0, o0, o0, oT] [0, 1, 4, 9] [BT (((i : Int) : Int) < ((X.length : Nat) : Int))] [(0, .slice aS X.length cS), (1, .int .i64 mk), (4, .int .i64 (i : Int)), (9, .bool true)] ⟨w, n2, [(old (fun b => (Value.slice ad xs.length cap).ownBlock = some b) w), (qlhe_2 n0 aS X cS)]⟩ ⟨bt (by omega), trivial⟩ ?_
     refine e_seq <| g_true <| g_skip <| e_seq <| g_seq <| g_block <| g_rowat (base := n0) (e := 26) (sz := 3) (cells := TLeaf.cells) (a := aS) (n := X.length) (cap := cS) (xs := X) 1 (by omega) (fun b4 hg5 hb6 => ?_)
     subst hg5
     refine g_region <| l_run 9 [o0, o0, o0, o0, (ov (.int .i64 (mk + (i : Int)))), o0, o0, o0, (oi i)] [0, 1, 4, 19, 20] [Value.int .i64 (IntKind.i64.wrap ((mk : Int) + (i : Int))) = Value.int .i64 (mk + (i : Int)), ((i : Int) : Int) = ((i : Nat) : Int), i < X.length, (none : Option Nat) = none] [(0, .slice (some ⟨b4, 0, none⟩) X.length cS), (1, .int .i64 mk), (4, .int .i64 (i : Int)), (19, .agg #[.int .i64 (mk + (i : Int)), .int .i64 mk, .int .i64 mk]), (20, .pointer (some ⟨b4, 0 + offs 3 i, none⟩))] ⟨w, n2, [(old (fun b => (Value.slice ad xs.length cap).ownBlock = some b) w), (rowL n0 26 3 TLeaf.cells (.slice (some ⟨b4, 0, none⟩) X.length cS) X)]⟩ ⟨congrArg (Value.int .i64) (wr_i64 (by omega) (by omega) (by omega)), rfl, (by omega), rfl, trivial⟩ ?_
     refine l_rowsetN 1 i X (⟨mk + (i : Int), mk, mk⟩ : TLeaf) TLeaf.cells n0 26 3 b4 X.length cS #[.int .i64 (mk + (i : Int)), .int .i64 mk, .int .i64 mk] none (by omega) ?_
     refine l_keep [0, 1, 4] [(0, .slice (some ⟨b4, 0, none⟩) X.length cS), (1, .int .i64 mk), (4, .int .i64 (i : Int))] ?_
     refine l_nil (by kernel_rfl) ?_
     refine e_blk <| e_seq <| g_region <| l_all 3 [o0, (ov (.int .i64 ((i + 1 : Nat) : Int))), o0] [0, 1, 4] [Value.int .i64 (IntKind.i64.wrap (((i : Int) : Int) + 1)) = Value.int .i64 (((i + 1 : Nat) : Int))] [(0, .slice (some ⟨b4, 0, none⟩) X.length cS), (1, .int .i64 mk), (4, .int .i64 ((i + 1 : Nat) : Int))] ⟨w, n2, [(old (fun b => (Value.slice ad xs.length cap).ownBlock = some b) w), (rowL n0 26 3 TLeaf.cells (.slice (some ⟨b4, 0, none⟩) X.length cS) (X.set i (⟨mk + (i : Int), mk, mk⟩ : TLeaf)))]⟩ ⟨congrArg (Value.int .i64) (wr_i64 (by omega) (by omega) (by omega)), trivial⟩ ?_
     refine e_keep [0, 1, 4] [(0, .slice (some ⟨b4, 0, none⟩) X.length cS), (1, .int .i64 mk), (4, .int .i64 ((i + 1 : Nat) : Int))] ?_
     refine e_inv (fun a w' hs => ⟨xs.length - (i + 1), by omega, n2, (i + 1), (X.set i (⟨mk + (i : Int), mk, mk⟩ : TLeaf)), (some ⟨b4, 0, none⟩), cS, rfl, by omega, by omega, by rw [List.length_set]; exact hX, by (try dsimp only [qlhe_0, qlhe_1, qlhe_2, qlhe_3] at hs ⊢); rw [List.length_set]; exact hs⟩)
   · refine g_region <| l_all 4 [o0, o0, o0, oF] [0, 1, 4, 9] [BF (((i : Int) : Int) < ((X.length : Nat) : Int))] [(0, .slice aS X.length cS), (1, .int .i64 mk), (4, .int .i64 (i : Int)), (9, .bool false)] ⟨w, n2, [(old (fun b => (Value.slice ad xs.length cap).ownBlock = some b) w), (qlhe_2 n0 aS X cS)]⟩ ⟨bf (by omega), trivial⟩ ?_
     refine e_seq <| g_false <| g_exit <| e_out <| e_outI <| e_hit <| e_seq <| g_seq <| g_region <| l_all 1 [o0] [0, 1, 5] [] [(0, .slice aS X.length cS), (1, .int .i64 mk), (5, .int .i64 0)] ⟨w, n2, [(old (fun b => (Value.slice ad xs.length cap).ownBlock = some b) w), (qlhe_2 n0 aS X cS)]⟩ trivial ?_
     refine e_seq <| g_block <| g_loop (fun m a w' => ∃ (n8 : Nat) (j : Nat) (Y : List TLeaf) (aT : Option Addr) (cT : Nat), m = 40 - j ∧ n2 ≤ n8 ∧ (j ≤ 40) ∧ (Y.length = xs.length + j) ∧ St 33 [(0, .slice aT Y.length cT), (1, .int .i64 mk), (5, .int .i64 (j : Int))] [] ⟨w, n8, [(old (fun b => (Value.slice ad xs.length cap).ownBlock = some b) w), (qlhe_3 n0 aT Y cT)]⟩ a w') (40 - 0) ?_ ?_
     · intro a w' hs; exact ⟨n2, 0, X, aS, cS, rfl, Nat.le_refl _, Nat.zero_le _, hX, hs⟩
     · rintro m a w' ⟨n8, j, Y, aT, cT, rfl, hn7, hkj, hY, hs⟩
       refine (?_ : G Try.prog 33 [(0, .slice aT Y.length cT), (1, .int .i64 mk), (5, .int .i64 (j : Int))] [] ⟨w, n8, [(old (fun b => (Value.slice ad xs.length cap).ownBlock = some b) w), (qlhe_3 n0 aT Y cT)]⟩ _ _ _) a w' hs
       clear hs a w'
       refine g_seq <| g_seq ?_
       by_cases h9 : ((j : Int) : Int) < 40
       · refine g_region <| l_all 2 [o0, oT] [0, 1, 5, 22] [BT (((j : Int) : Int) < 40)] [(0, .slice aT Y.length cT), (1, .int .i64 mk), (5, .int .i64 (j : Int)), (22, .bool true)] ⟨w, n8, [(old (fun b => (Value.slice ad xs.length cap).ownBlock = some b) w), (qlhe_3 n0 aT Y cT)]⟩ ⟨bt (by omega), trivial⟩ ?_
         refine e_seq <| g_true <| g_skip <| e_seq <| g_seq <| g_block <| g_region <| l_run 7 [o0, o0, (ov (.int .i64 (-mk))), o0, o0, o0, o0] [1, 5, 25, 31] [Value.int .i64 (IntKind.i64.wrap ((0 : Int) - mk)) = Value.int .i64 (-mk)] [(1, .int .i64 mk), (5, .int .i64 (j : Int)), (25, .slice aT Y.length cT), (31, .slice (some ⟨n8, 0, none⟩) 1 1)] ⟨w, n8 + 1, [(old (fun b => (Value.slice ad xs.length cap).ownBlock = some b) w), (qlhe_3 n0 aT Y cT), (qlhe_0 n8 mk j)]⟩ ⟨congrArg (Value.int .i64) (wr_i64 (by omega) (by omega) (by omega)), trivial⟩ ?_
         refine l_pushB n0 1 2 Y [(⟨-mk, (j : Int), mk⟩ : TLeaf)] TLeaf.cells 26 3 24 (.slice aT Y.length cT) n8 1 1 #[.int .i64 (-mk), .int .i64 (j : Int), .int .i64 mk] 26 (0, 0) true (some 32) (by simp only [List.length_cons, List.length_nil]; omega) (by simp only [List.length_cons, List.length_nil]; omega) (show n0 ≤ n8 + 1 by omega) (fun a10 cp11 n12 (hn13 : n8 + 1 ≤ n12) => ?_)
         refine l_keep [1, 5, 32] [(1, .int .i64 mk), (5, .int .i64 (j : Int)), (32, .slice a10 ((Y ++ [(⟨-mk, (j : Int), mk⟩ : TLeaf)]).length) cp11)] ?_
         refine l_all 1 [o0] [1, 5, 0] [] [(1, .int .i64 mk), (5, .int .i64 (j : Int)), (0, .slice a10 ((Y ++ [(⟨-mk, (j : Int), mk⟩ : TLeaf)]).length) cp11)] ⟨w, n12, [(old (fun b => (Value.slice ad xs.length cap).ownBlock = some b) w), (qlhe_1 n0 a10 Y mk j cp11), (qlhe_0 n8 mk j)]⟩ trivial ?_
         refine e_blk <| e_seq <| g_region <| l_all 3 [o0, (ov (.int .i64 ((j + 1 : Nat) : Int))), o0] [1, 5, 0] [Value.int .i64 (IntKind.i64.wrap (((j : Int) : Int) + 1)) = Value.int .i64 (((j + 1 : Nat) : Int))] [(1, .int .i64 mk), (5, .int .i64 ((j + 1 : Nat) : Int)), (0, .slice a10 ((Y ++ [(⟨-mk, (j : Int), mk⟩ : TLeaf)]).length) cp11)] ⟨w, n12, [(old (fun b => (Value.slice ad xs.length cap).ownBlock = some b) w), (qlhe_1 n0 a10 Y mk j cp11), (qlhe_0 n8 mk j)]⟩ ⟨congrArg (Value.int .i64) (wr_i64 (by omega) (by omega) (by omega)), trivial⟩ ?_
         refine e_pick [0, 1] [(old (fun b => (Value.slice ad xs.length cap).ownBlock = some b) w), (qlhe_1 n0 a10 Y mk j cp11)] rfl rfl ?_
         refine e_keep [0, 1, 5] [(0, .slice a10 ((Y ++ [(⟨-mk, (j : Int), mk⟩ : TLeaf)]).length) cp11), (1, .int .i64 mk), (5, .int .i64 ((j + 1 : Nat) : Int))] ?_
         refine e_inv (fun a w' hs => ⟨40 - (j + 1), by omega, n12, (j + 1), (Y ++ [(⟨-mk, (j : Int), mk⟩ : TLeaf)]), a10, cp11, rfl, by omega, by omega, by rw [List.length_append, hY]; rfl, hs⟩)
       · refine g_region <| l_all 2 [o0, oF] [0, 1, 5, 22] [BF (((j : Int) : Int) < 40)] [(0, .slice aT Y.length cT), (1, .int .i64 mk), (5, .int .i64 (j : Int)), (22, .bool false)] ⟨w, n8, [(old (fun b => (Value.slice ad xs.length cap).ownBlock = some b) w), (qlhe_3 n0 aT Y cT)]⟩ ⟨bf (by omega), trivial⟩ ?_
         refine e_seq <| g_false <| g_exit <| e_out <| e_outI <| e_hit ?_
         -- the function's end
         refine e_end [] [] (.tuple #[]) trivial ?_
         intro w14 hw14
         exact ⟨rfl, hw14.back rfl (show w.heap.size ≤ n8 by omega) (List.mem_cons_self ..)⟩

end Go.Proofs.Ytbjcamafaolgiaa.Ly
