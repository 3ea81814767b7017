/- LayoutOwns: walked. No conditions. -/
import Derived.Test.YtpoeaajkgblkmaaLw
namespace Go.Proofs.Ytpoeaajkgblkmaa.Ly
open Go Go.Proofs.Ytpoeaajkgblkmaa.Eng Go.Proofs.Ytpoeaajkgblkmaa.Mem
set_option linter.unusedSimpArgs false
set_option linter.unusedVariables false
set_option maxRecDepth 100000

theorem wrap_ink (n : Int) : InK .i64 (IntKind.i64.wrap n) := by
  have h : -9223372036854775808 ≤ IntKind.i64.wrap n ∧ IntKind.i64.wrap n ≤ 9223372036854775807 := by
    unfold IntKind.wrap
    simp only [IntKind.bits, IntKind.signed, Bool.true_and, decide_eq_true_eq, show (2 : Int) ^ 64 = 18446744073709551616 from rfl, show (2 : Int) ^ (64 - 1) = 9223372036854775808 from rfl]
    split <;> omega
  exact h
abbrev owns_calls_m0 (w31 : World) (c : TConfig) : Ch := .blk w31.heap.size (.cells (TOwner.arr (ownR c (IntKind.i64.wrap (16 * c.Kernel)))) 54 (0, 0)) true
abbrev owns_calls_m1 (w33 : World) (c : TConfig) : Ch := .blk w33.heap.size (.cells (TOwner.arr (ownR c (IntKind.i64.wrap (16 * c.Kernel)))) 54 (0, 0)) true
abbrev owns_calls_m2 (b13 : Nat) (c : TConfig) (y11 : Int) : Ch := .blk b13 (.cells (TOwner.arr (ownR c y11)) 54 (0, 0)) true
abbrev owns_calls_m3 (z : Nat) (c : TConfig) : Ch := .blk z (.cells (TConfig.arr c) 30 (0, 0)) true
theorem owns_calls (w : World) (c : TConfig) (words : Sl Int) (hc : TConfig.ok Any w c) (hw : SlOk (fun x : Int => [Value.int .i64 x]) 1 (fun _ _ x => InK .i64 x) Any w words) : Calls Try.prog 8 #[.agg (TConfig.arr c), .slice words.a words.xs.length words.cap] w fun e w' => e = .returned (.bool true) ∧ Keeps (fun _ => False) w w' := by
 obtain ⟨z, hz⟩ : ∃ z, z = w.heap.size := ⟨_, rfl⟩
 refine calls_G (args := [.agg (TConfig.arr c), .slice words.a words.xs.length words.cap]) 70 ⟨w, z, [(old0 w)]⟩ Try.func8 rfl (by kernel_rfl) (by kernel_rfl) (sat_0 hz) ?_
 have hlw := hw.1.len
 refine g_keep [0, 1] [(0, .agg (TConfig.arr c)), (1, .slice words.a words.xs.length words.cap)] ?_
 refine g_seq <| g_region <| l_all 2 [o0, o0] [1, 2] [] [(1, .slice words.a words.xs.length words.cap), (2, .pointer (some ⟨z, 0, none⟩))] ⟨w, z + 1, [(old0 w), (owns_calls_m3 z c)]⟩ trivial ?_
 refine e_seq <| g_seq <| g_seq <| g_region <| l_all 3 [o0, o0, o0] [1, 2, 15, 16] [] [(1, .slice words.a words.xs.length words.cap), (2, .pointer (some ⟨z, 0, none⟩)), (15, .int .i64 ((words.xs.length : Nat) : Int)), (16, .int .i64 0)] ⟨w, z + 1, [(old0 w), (owns_calls_m3 z c)]⟩ trivial ?_
 refine e_seq <| g_block <| g_loop (fun m a w' => ∃ (n2 : Nat) (k : Nat), m = words.xs.length - k ∧ z + 1 ≤ n2 ∧ (k ≤ words.xs.length) ∧ St 70 [(1, .slice words.a words.xs.length words.cap), (2, .pointer (some ⟨z, 0, none⟩)), (15, .int .i64 ((words.xs.length : Nat) : Int)), (16, .int .i64 (k : Int))] [] ⟨w, n2, [(old0 w), (owns_calls_m3 z c)]⟩ a w') (words.xs.length - 0) ?_ ?_
 · intro a w' hs; exact ⟨(z + 1), 0, rfl, Nat.le_refl _, Nat.zero_le _, hs⟩
 · rintro m a w' ⟨n2, k, rfl, hn1, hkk, hs⟩
   refine (?_ : G Try.prog 70 [(1, .slice words.a words.xs.length words.cap), (2, .pointer (some ⟨z, 0, none⟩)), (15, .int .i64 ((words.xs.length : Nat) : Int)), (16, .int .i64 (k : Int))] [] ⟨w, n2, [(old0 w), (owns_calls_m3 z c)]⟩ _ _ _) a w' hs
   clear hs a w'
   refine g_seq ?_
   by_cases h3 : ((k : Int) : Int) < ((words.xs.length : Nat) : Int)
   · refine g_region <| l_all 1 [oT] [1, 2, 15, 16, 17] [BT (((k : Int) : Int) < ((words.xs.length : Nat) : Int))] [(1, .slice words.a words.xs.length words.cap), (2, .pointer (some ⟨z, 0, none⟩)), (15, .int .i64 ((words.xs.length : Nat) : Int)), (16, .int .i64 (k : Int)), (17, .bool true)] ⟨w, n2, [(old0 w), (owns_calls_m3 z c)]⟩ ⟨bt (by omega), trivial⟩ ?_
     refine e_seq <| g_seq <| g_true <| g_skip <| e_seq <| g_seq <| g_block <| g_seq <| g_region <| l_all 2 [o0, o0] [1, 2, 15, 16, 5] [] [(1, .slice words.a words.xs.length words.cap), (2, .pointer (some ⟨z, 0, none⟩)), (15, .int .i64 ((words.xs.length : Nat) : Int)), (16, .int .i64 (k : Int)), (5, .int .i64 (k : Int))] ⟨w, n2, [(old0 w), (owns_calls_m3 z c)]⟩ trivial ?_
     refine e_seq <| g_seq ?_
     obtain ⟨b4, o5, ha6, hF8, hc7⟩ := (hw).1.all (show 0 < words.xs.length by omega)
     replace ha6 : words.a = some ⟨b4, o5, none⟩ := ha6
     refine g_eq [(1, .slice (some ⟨b4, o5, none⟩) words.xs.length words.cap), (2, .pointer (some ⟨z, 0, none⟩)), (15, .int .i64 ((words.xs.length : Nat) : Int)), (16, .int .i64 (k : Int)), (5, .int .i64 (k : Int))] (by simp only [ha6]) ?_
     have hc9 := hc7 k (show k < words.xs.length by omega)
     have he10 := (hw).2 k (show k < words.xs.length by omega)
     obtain ⟨y11, hy11⟩ : ∃ y, y = gd words.xs k := ⟨_, rfl⟩
     rw [← hy11] at he10 hc9
     refine g_draw 12 [0, 1] [(old0 w), (owns_calls_m3 z c)] rfl rfl ?_
     refine w_take [(0, (oa [.at 1, .at 1, .at 1, .at 1, .at 1, .at 1, .at 1])), (1, o0), (2, o0), (3, (oi k)), (4, (oa [.via 0 (.int .i64 y11)]))] [1, 2, 15, 16, 5, 20, 24] [Qb z, Qb z, Qb z, Qb z, Qb z, Qb z, Qb z, ((k : Int) : Int) = ((k : Nat) : Int), k < words.xs.length, (none : Option Nat) = none, Old w b4 (o5 + k) (.int .i64 y11)] [true, true, true, true, true, false, false, false, false, false, false, false] [(1, .slice (some ⟨b4, o5, none⟩) words.xs.length words.cap), (2, .pointer (some ⟨z, 0, none⟩)), (15, .int .i64 ((words.xs.length : Nat) : Int)), (16, .int .i64 (k : Int)), (5, .int .i64 (k : Int)), (20, .agg (TConfig.arr c)), (24, .int .i64 y11)] rfl (by as_aux_lemma => kernel_rfl) (by as_aux_lemma => kernel_rfl) ⟨rfl, rfl, rfl, rfl, rfl, rfl, rfl, rfl, (by omega), rfl, old_cell' (hc9 0 _ rfl), trivial⟩ ?_
     refine w_join (fun x : {p : Nat × Nat // n2 ≤ p.1 ∧ n2 ≤ p.2} => ([(1, .slice (some ⟨b4, o5, none⟩) words.xs.length words.cap), (2, .pointer (some ⟨z, 0, none⟩)), (15, .int .i64 ((words.xs.length : Nat) : Int)), (16, .int .i64 (k : Int)), (5, .int .i64 (k : Int)), (6, .pointer (some ⟨x.1.2, 0, none⟩)), (7, .int .i64 (ownE c y11))], ⟨w, x.1.1, [(old0 w), (owns_calls_m3 z c), (.blk x.1.2 (.cells (TOwner.arr (ownR c y11)) 54 (0, 0)) true)]⟩)) (fun hK => ?_) ?_
     · refine w_all [5, 9] (by as_aux_lemma => kernel_rfl) rfl rfl ?_
       refine List.forall_mem_cons.2 ⟨?_, List.forall_mem_cons.2 ⟨?_, fun _ h => absurd h List.not_mem_nil⟩⟩
       · refine wo_call [] [] 23 #[.agg (TConfig.arr c), .int .i64 y11] (some 25) (by as_aux_lemma => kernel_rfl) rfl rfl trivial ?_
         intro w14 hw14
         refine (owner_calls w14 c y11 he10 (hc.ext (hw14.ext rfl) (fun _ h => h))).mono ?_
         rintro e w15 ⟨rfl, hkw15⟩
         have hnw15 : n2 ≤ w15.heap.size := by have := hkw15.size; rw [hw14.size] at this; exact this
         have hs16 := hw14.keeps hkw15
         refine ⟨_, _, rfl, hs16, .inr (fun c hc => hs16.all c (by first | exact hc | exact picks_mem (is := [0, 1]) rfl c hc)), ?_⟩
         refine w_keep [1, 2, 15, 16, 5, 25] [(1, .slice (some ⟨b4, o5, none⟩) words.xs.length words.cap), (2, .pointer (some ⟨z, 0, none⟩)), (15, .int .i64 ((words.xs.length : Nat) : Int)), (16, .int .i64 (k : Int)), (5, .int .i64 (k : Int)), (25, .tuple #[.agg (TOwner.arr (ownR c y11)), .int .i64 (ownE c y11)])] ?_
         refine w_take [(6, o0), (7, o0), (8, o0)] [1, 2, 15, 16, 5, 26, 27] [] [true, true, true, true, true, true, true, true, true, false, false, false] [(1, .slice (some ⟨b4, o5, none⟩) words.xs.length words.cap), (2, .pointer (some ⟨z, 0, none⟩)), (15, .int .i64 ((words.xs.length : Nat) : Int)), (16, .int .i64 (k : Int)), (5, .int .i64 (k : Int)), (26, .agg (TOwner.arr (ownR c y11))), (27, .int .i64 (ownE c y11))] rfl (by as_aux_lemma => kernel_rfl) (by as_aux_lemma => kernel_rfl) trivial ?_
         refine w_one 9 (by as_aux_lemma => kernel_rfl) rfl ?_
         refine wo_eff o0 [1, 2, 15, 16, 5, 26, 27, 6] [] [(1, .slice (some ⟨b4, o5, none⟩) words.xs.length words.cap), (2, .pointer (some ⟨z, 0, none⟩)), (15, .int .i64 ((words.xs.length : Nat) : Int)), (16, .int .i64 (k : Int)), (5, .int .i64 (k : Int)), (26, .agg (TOwner.arr (ownR c y11))), (27, .int .i64 (ownE c y11)), (6, .pointer (some ⟨w15.heap.size, 0, none⟩))] ⟨w, w15.heap.size + 1, [(old0 w), (owns_calls_m3 z c), (.blk w15.heap.size (.cells #[.int .i64 0, .int .i64 0, .int .i64 0] 54 (0, 0)) true)]⟩ [0, 1] (by as_aux_lemma => kernel_rfl) rfl trivial (.inr rfl) ?_
         refine w_one 10 (by as_aux_lemma => kernel_rfl) rfl ?_
         refine wo_eff (oa [.at 2, .at 2, .at 2]) [1, 2, 15, 16, 5, 27, 6] [Qb w15.heap.size, Qb w15.heap.size, Qb w15.heap.size] [(1, .slice (some ⟨b4, o5, none⟩) words.xs.length words.cap), (2, .pointer (some ⟨z, 0, none⟩)), (15, .int .i64 ((words.xs.length : Nat) : Int)), (16, .int .i64 (k : Int)), (5, .int .i64 (k : Int)), (27, .int .i64 (ownE c y11)), (6, .pointer (some ⟨w15.heap.size, 0, none⟩))] ⟨w, w15.heap.size + 1, [(old0 w), (owns_calls_m3 z c), (.blk w15.heap.size (.cells (TOwner.arr (ownR c y11)) 54 (0, 0)) true)]⟩ [0, 1] (by as_aux_lemma => kernel_rfl) rfl ⟨rfl, rfl, rfl, trivial⟩ (.inr rfl) ?_
         refine w_take [(11, o0)] [1, 2, 15, 16, 5, 6, 7] [] [true, true, true, true, true, true, true, true, true, true, true, true] [(1, .slice (some ⟨b4, o5, none⟩) words.xs.length words.cap), (2, .pointer (some ⟨z, 0, none⟩)), (15, .int .i64 ((words.xs.length : Nat) : Int)), (16, .int .i64 (k : Int)), (5, .int .i64 (k : Int)), (6, .pointer (some ⟨w15.heap.size, 0, none⟩)), (7, .int .i64 (ownE c y11))] rfl (by as_aux_lemma => kernel_rfl) (by as_aux_lemma => kernel_rfl) trivial ?_
         refine w_done (by as_aux_lemma => kernel_rfl) ?_
         refine e_keep [1, 2, 15, 16, 5, 6, 7] [(1, .slice (some ⟨b4, o5, none⟩) words.xs.length words.cap), (2, .pointer (some ⟨z, 0, none⟩)), (15, .int .i64 ((words.xs.length : Nat) : Int)), (16, .int .i64 (k : Int)), (5, .int .i64 (k : Int)), (6, .pointer (some ⟨w15.heap.size, 0, none⟩)), (7, .int .i64 (ownE c y11))] ?_
         refine e_pick [0, 1, 2] [(old0 w), (owns_calls_m3 z c), (.blk w15.heap.size (.cells (TOwner.arr (ownR c y11)) 54 (0, 0)) true)] rfl rfl ?_
         exact hK ⟨(w15.heap.size + 1, w15.heap.size), by first | omega | (dsimp only; omega)⟩
       · refine wo_eff o0 [1, 2, 15, 16, 5, 20, 24, 6] [] [(1, .slice (some ⟨b4, o5, none⟩) words.xs.length words.cap), (2, .pointer (some ⟨z, 0, none⟩)), (15, .int .i64 ((words.xs.length : Nat) : Int)), (16, .int .i64 (k : Int)), (5, .int .i64 (k : Int)), (20, .agg (TConfig.arr c)), (24, .int .i64 y11), (6, .pointer (some ⟨n2, 0, none⟩))] ⟨w, n2 + 1, [(old0 w), (owns_calls_m3 z c), (.blk n2 (.cells #[.int .i64 0, .int .i64 0, .int .i64 0] 54 (0, 0)) true)]⟩ [0, 1] (by as_aux_lemma => kernel_rfl) rfl trivial (.inr rfl) ?_
         refine w_one 5 (by as_aux_lemma => kernel_rfl) rfl ?_
         refine wo_call [] [] 23 #[.agg (TConfig.arr c), .int .i64 y11] (some 25) (by as_aux_lemma => kernel_rfl) rfl rfl trivial ?_
         intro w17 hw17
         refine (owner_calls w17 c y11 he10 (hc.ext (hw17.ext rfl) (fun _ h => h))).mono ?_
         rintro e w18 ⟨rfl, hkw18⟩
         have hnw18 : n2 + 1 ≤ w18.heap.size := by have := hkw18.size; rw [hw17.size] at this; exact this
         have hs19 := hw17.keeps hkw18
         refine ⟨_, _, rfl, hs19, .inr (fun c hc => hs19.all c (by first | exact hc | exact picks_mem (is := [0, 1]) rfl c hc)), ?_⟩
         refine w_keep [1, 2, 15, 16, 5, 6, 25] [(1, .slice (some ⟨b4, o5, none⟩) words.xs.length words.cap), (2, .pointer (some ⟨z, 0, none⟩)), (15, .int .i64 ((words.xs.length : Nat) : Int)), (16, .int .i64 (k : Int)), (5, .int .i64 (k : Int)), (6, .pointer (some ⟨n2, 0, none⟩)), (25, .tuple #[.agg (TOwner.arr (ownR c y11)), .int .i64 (ownE c y11)])] ?_
         refine w_take [(6, o0), (7, o0), (8, o0)] [1, 2, 15, 16, 5, 6, 26, 27] [] [true, true, true, true, true, true, true, true, true, true, false, false] [(1, .slice (some ⟨b4, o5, none⟩) words.xs.length words.cap), (2, .pointer (some ⟨z, 0, none⟩)), (15, .int .i64 ((words.xs.length : Nat) : Int)), (16, .int .i64 (k : Int)), (5, .int .i64 (k : Int)), (6, .pointer (some ⟨n2, 0, none⟩)), (26, .agg (TOwner.arr (ownR c y11))), (27, .int .i64 (ownE c y11))] rfl (by as_aux_lemma => kernel_rfl) (by as_aux_lemma => kernel_rfl) trivial ?_
         refine w_one 10 (by as_aux_lemma => kernel_rfl) rfl ?_
         refine wo_eff (oa [.at 2, .at 2, .at 2]) [1, 2, 15, 16, 5, 6, 27] [Qb n2, Qb n2, Qb n2] [(1, .slice (some ⟨b4, o5, none⟩) words.xs.length words.cap), (2, .pointer (some ⟨z, 0, none⟩)), (15, .int .i64 ((words.xs.length : Nat) : Int)), (16, .int .i64 (k : Int)), (5, .int .i64 (k : Int)), (6, .pointer (some ⟨n2, 0, none⟩)), (27, .int .i64 (ownE c y11))] ⟨w, w18.heap.size, [(old0 w), (owns_calls_m3 z c), (.blk n2 (.cells (TOwner.arr (ownR c y11)) 54 (0, 0)) true)]⟩ [0, 1] (by as_aux_lemma => kernel_rfl) rfl ⟨rfl, rfl, rfl, trivial⟩ (.inr rfl) ?_
         refine w_take [(11, o0)] [1, 2, 15, 16, 5, 6, 7] [] [true, true, true, true, true, true, true, true, true, true, true, true] [(1, .slice (some ⟨b4, o5, none⟩) words.xs.length words.cap), (2, .pointer (some ⟨z, 0, none⟩)), (15, .int .i64 ((words.xs.length : Nat) : Int)), (16, .int .i64 (k : Int)), (5, .int .i64 (k : Int)), (6, .pointer (some ⟨n2, 0, none⟩)), (7, .int .i64 (ownE c y11))] rfl (by as_aux_lemma => kernel_rfl) (by as_aux_lemma => kernel_rfl) trivial ?_
         refine w_done (by as_aux_lemma => kernel_rfl) ?_
         refine e_keep [1, 2, 15, 16, 5, 6, 7] [(1, .slice (some ⟨b4, o5, none⟩) words.xs.length words.cap), (2, .pointer (some ⟨z, 0, none⟩)), (15, .int .i64 ((words.xs.length : Nat) : Int)), (16, .int .i64 (k : Int)), (5, .int .i64 (k : Int)), (6, .pointer (some ⟨n2, 0, none⟩)), (7, .int .i64 (ownE c y11))] ?_
         refine e_pick [0, 1, 2] [(old0 w), (owns_calls_m3 z c), (.blk n2 (.cells (TOwner.arr (ownR c y11)) 54 (0, 0)) true)] rfl rfl ?_
         exact hK ⟨(w18.heap.size, n2), by first | omega | (dsimp only; omega)⟩
     rintro ⟨⟨n12, b13⟩, hJ20⟩
     simp only at hJ20
     show E _ _ [(1, .slice (some ⟨b4, o5, none⟩) words.xs.length words.cap), (2, .pointer (some ⟨z, 0, none⟩)), (15, .int .i64 ((words.xs.length : Nat) : Int)), (16, .int .i64 (k : Int)), (5, .int .i64 (k : Int)), (6, .pointer (some ⟨b13, 0, none⟩)), (7, .int .i64 (ownE c y11))] _ ⟨w, n12, [(old0 w), (owns_calls_m3 z c), (owns_calls_m2 b13 c y11)]⟩ _ _ _
     refine e_seq <| g_seq <| g_draw 12 [0, 1, 2] [(old0 w), (owns_calls_m3 z c), (owns_calls_m2 b13 c y11)] rfl rfl ?_
     refine w_take [(0, (oa [.at 1, .at 1, .at 1, .at 1, .at 1, .at 1, .at 1])), (1, o0), (2, o0), (3, (oi k)), (4, (oa [.via 0 (.int .i64 y11)]))] [1, 2, 15, 16, 6, 7, 29, 33] [Qb z, Qb z, Qb z, Qb z, Qb z, Qb z, Qb z, ((k : Int) : Int) = ((k : Nat) : Int), k < words.xs.length, (none : Option Nat) = none, Old w b4 (o5 + k) (.int .i64 y11)] [true, true, true, true, true, false, false, false, false, false, false, false] [(1, .slice (some ⟨b4, o5, none⟩) words.xs.length words.cap), (2, .pointer (some ⟨z, 0, none⟩)), (15, .int .i64 ((words.xs.length : Nat) : Int)), (16, .int .i64 (k : Int)), (6, .pointer (some ⟨b13, 0, none⟩)), (7, .int .i64 (ownE c y11)), (29, .agg (TConfig.arr c)), (33, .int .i64 y11)] rfl (by as_aux_lemma => kernel_rfl) (by as_aux_lemma => kernel_rfl) ⟨rfl, rfl, rfl, rfl, rfl, rfl, rfl, rfl, (by omega), rfl, old_cell' (hc9 0 _ rfl), trivial⟩ ?_
     refine w_join (fun x : {p : Nat × Nat // n12 ≤ p.1 ∧ n12 ≤ p.2} => ([(1, .slice (some ⟨b4, o5, none⟩) words.xs.length words.cap), (2, .pointer (some ⟨z, 0, none⟩)), (15, .int .i64 ((words.xs.length : Nat) : Int)), (16, .int .i64 (k : Int)), (6, .pointer (some ⟨b13, 0, none⟩)), (7, .int .i64 (ownE c y11)), (8, .pointer (some ⟨x.1.2, 0, none⟩)), (9, .int .i64 (ownE c y11))], ⟨w, x.1.1, [(old0 w), (owns_calls_m3 z c), (owns_calls_m2 b13 c y11), (.blk x.1.2 (.cells (TOwner.arr (ownR c y11)) 54 (0, 0)) true)]⟩)) (fun hK => ?_) ?_
     · refine w_all [5, 9] (by as_aux_lemma => kernel_rfl) rfl rfl ?_
       refine List.forall_mem_cons.2 ⟨?_, List.forall_mem_cons.2 ⟨?_, fun _ h => absurd h List.not_mem_nil⟩⟩
       · refine wo_call [] [] 24 #[.agg (TConfig.arr c), .int .i64 y11] (some 34) (by as_aux_lemma => kernel_rfl) rfl rfl trivial ?_
         intro w23 hw23
         refine (rowner_calls w23 c y11 he10 (hc.ext (hw23.ext rfl) (fun _ h => h))).mono ?_
         rintro e w24 ⟨rfl, hkw24⟩
         have hnw24 : n12 ≤ w24.heap.size := by have := hkw24.size; rw [hw23.size] at this; exact this
         have hs25 := hw23.keeps hkw24
         refine ⟨_, _, rfl, hs25, .inr (fun c hc => hs25.all c (by first | exact hc | exact picks_mem (is := [0, 1, 2]) rfl c hc)), ?_⟩
         refine w_keep [1, 2, 15, 16, 6, 7, 34] [(1, .slice (some ⟨b4, o5, none⟩) words.xs.length words.cap), (2, .pointer (some ⟨z, 0, none⟩)), (15, .int .i64 ((words.xs.length : Nat) : Int)), (16, .int .i64 (k : Int)), (6, .pointer (some ⟨b13, 0, none⟩)), (7, .int .i64 (ownE c y11)), (34, .tuple #[.agg (TOwner.arr (ownR c y11)), .int .i64 (ownE c y11)])] ?_
         refine w_take [(6, o0), (7, o0), (8, o0)] [1, 2, 15, 16, 6, 7, 35, 36] [] [true, true, true, true, true, true, true, true, true, false, false, false] [(1, .slice (some ⟨b4, o5, none⟩) words.xs.length words.cap), (2, .pointer (some ⟨z, 0, none⟩)), (15, .int .i64 ((words.xs.length : Nat) : Int)), (16, .int .i64 (k : Int)), (6, .pointer (some ⟨b13, 0, none⟩)), (7, .int .i64 (ownE c y11)), (35, .agg (TOwner.arr (ownR c y11))), (36, .int .i64 (ownE c y11))] rfl (by as_aux_lemma => kernel_rfl) (by as_aux_lemma => kernel_rfl) trivial ?_
         refine w_one 9 (by as_aux_lemma => kernel_rfl) rfl ?_
         refine wo_eff o0 [1, 2, 15, 16, 6, 7, 35, 36, 8] [] [(1, .slice (some ⟨b4, o5, none⟩) words.xs.length words.cap), (2, .pointer (some ⟨z, 0, none⟩)), (15, .int .i64 ((words.xs.length : Nat) : Int)), (16, .int .i64 (k : Int)), (6, .pointer (some ⟨b13, 0, none⟩)), (7, .int .i64 (ownE c y11)), (35, .agg (TOwner.arr (ownR c y11))), (36, .int .i64 (ownE c y11)), (8, .pointer (some ⟨w24.heap.size, 0, none⟩))] ⟨w, w24.heap.size + 1, [(old0 w), (owns_calls_m3 z c), (owns_calls_m2 b13 c y11), (.blk w24.heap.size (.cells #[.int .i64 0, .int .i64 0, .int .i64 0] 54 (0, 0)) true)]⟩ [0, 1, 2] (by as_aux_lemma => kernel_rfl) rfl trivial (.inr rfl) ?_
         refine w_one 10 (by as_aux_lemma => kernel_rfl) rfl ?_
         refine wo_eff (oa [.at 3, .at 3, .at 3]) [1, 2, 15, 16, 6, 7, 36, 8] [Qb w24.heap.size, Qb w24.heap.size, Qb w24.heap.size] [(1, .slice (some ⟨b4, o5, none⟩) words.xs.length words.cap), (2, .pointer (some ⟨z, 0, none⟩)), (15, .int .i64 ((words.xs.length : Nat) : Int)), (16, .int .i64 (k : Int)), (6, .pointer (some ⟨b13, 0, none⟩)), (7, .int .i64 (ownE c y11)), (36, .int .i64 (ownE c y11)), (8, .pointer (some ⟨w24.heap.size, 0, none⟩))] ⟨w, w24.heap.size + 1, [(old0 w), (owns_calls_m3 z c), (owns_calls_m2 b13 c y11), (.blk w24.heap.size (.cells (TOwner.arr (ownR c y11)) 54 (0, 0)) true)]⟩ [0, 1, 2] (by as_aux_lemma => kernel_rfl) rfl ⟨rfl, rfl, rfl, trivial⟩ (.inr rfl) ?_
         refine w_take [(11, o0)] [1, 2, 15, 16, 6, 7, 8, 9] [] [true, true, true, true, true, true, true, true, true, true, true, true] [(1, .slice (some ⟨b4, o5, none⟩) words.xs.length words.cap), (2, .pointer (some ⟨z, 0, none⟩)), (15, .int .i64 ((words.xs.length : Nat) : Int)), (16, .int .i64 (k : Int)), (6, .pointer (some ⟨b13, 0, none⟩)), (7, .int .i64 (ownE c y11)), (8, .pointer (some ⟨w24.heap.size, 0, none⟩)), (9, .int .i64 (ownE c y11))] rfl (by as_aux_lemma => kernel_rfl) (by as_aux_lemma => kernel_rfl) trivial ?_
         refine w_done (by as_aux_lemma => kernel_rfl) ?_
         refine e_keep [1, 2, 15, 16, 6, 7, 8, 9] [(1, .slice (some ⟨b4, o5, none⟩) words.xs.length words.cap), (2, .pointer (some ⟨z, 0, none⟩)), (15, .int .i64 ((words.xs.length : Nat) : Int)), (16, .int .i64 (k : Int)), (6, .pointer (some ⟨b13, 0, none⟩)), (7, .int .i64 (ownE c y11)), (8, .pointer (some ⟨w24.heap.size, 0, none⟩)), (9, .int .i64 (ownE c y11))] ?_
         refine e_pick [0, 1, 2, 3] [(old0 w), (owns_calls_m3 z c), (owns_calls_m2 b13 c y11), (.blk w24.heap.size (.cells (TOwner.arr (ownR c y11)) 54 (0, 0)) true)] rfl rfl ?_
         exact hK ⟨(w24.heap.size + 1, w24.heap.size), by first | omega | (dsimp only; omega)⟩
       · refine wo_eff o0 [1, 2, 15, 16, 6, 7, 29, 33, 8] [] [(1, .slice (some ⟨b4, o5, none⟩) words.xs.length words.cap), (2, .pointer (some ⟨z, 0, none⟩)), (15, .int .i64 ((words.xs.length : Nat) : Int)), (16, .int .i64 (k : Int)), (6, .pointer (some ⟨b13, 0, none⟩)), (7, .int .i64 (ownE c y11)), (29, .agg (TConfig.arr c)), (33, .int .i64 y11), (8, .pointer (some ⟨n12, 0, none⟩))] ⟨w, n12 + 1, [(old0 w), (owns_calls_m3 z c), (owns_calls_m2 b13 c y11), (.blk n12 (.cells #[.int .i64 0, .int .i64 0, .int .i64 0] 54 (0, 0)) true)]⟩ [0, 1, 2] (by as_aux_lemma => kernel_rfl) rfl trivial (.inr rfl) ?_
         refine w_one 5 (by as_aux_lemma => kernel_rfl) rfl ?_
         refine wo_call [] [] 24 #[.agg (TConfig.arr c), .int .i64 y11] (some 34) (by as_aux_lemma => kernel_rfl) rfl rfl trivial ?_
         intro w26 hw26
         refine (rowner_calls w26 c y11 he10 (hc.ext (hw26.ext rfl) (fun _ h => h))).mono ?_
         rintro e w27 ⟨rfl, hkw27⟩
         have hnw27 : n12 + 1 ≤ w27.heap.size := by have := hkw27.size; rw [hw26.size] at this; exact this
         have hs28 := hw26.keeps hkw27
         refine ⟨_, _, rfl, hs28, .inr (fun c hc => hs28.all c (by first | exact hc | exact picks_mem (is := [0, 1, 2]) rfl c hc)), ?_⟩
         refine w_keep [1, 2, 15, 16, 6, 7, 8, 34] [(1, .slice (some ⟨b4, o5, none⟩) words.xs.length words.cap), (2, .pointer (some ⟨z, 0, none⟩)), (15, .int .i64 ((words.xs.length : Nat) : Int)), (16, .int .i64 (k : Int)), (6, .pointer (some ⟨b13, 0, none⟩)), (7, .int .i64 (ownE c y11)), (8, .pointer (some ⟨n12, 0, none⟩)), (34, .tuple #[.agg (TOwner.arr (ownR c y11)), .int .i64 (ownE c y11)])] ?_
         refine w_take [(6, o0), (7, o0), (8, o0)] [1, 2, 15, 16, 6, 7, 8, 35, 36] [] [true, true, true, true, true, true, true, true, true, true, false, false] [(1, .slice (some ⟨b4, o5, none⟩) words.xs.length words.cap), (2, .pointer (some ⟨z, 0, none⟩)), (15, .int .i64 ((words.xs.length : Nat) : Int)), (16, .int .i64 (k : Int)), (6, .pointer (some ⟨b13, 0, none⟩)), (7, .int .i64 (ownE c y11)), (8, .pointer (some ⟨n12, 0, none⟩)), (35, .agg (TOwner.arr (ownR c y11))), (36, .int .i64 (ownE c y11))] rfl (by as_aux_lemma => kernel_rfl) (by as_aux_lemma => kernel_rfl) trivial ?_
         refine w_one 10 (by as_aux_lemma => kernel_rfl) rfl ?_
         refine wo_eff (oa [.at 3, .at 3, .at 3]) [1, 2, 15, 16, 6, 7, 8, 36] [Qb n12, Qb n12, Qb n12] [(1, .slice (some ⟨b4, o5, none⟩) words.xs.length words.cap), (2, .pointer (some ⟨z, 0, none⟩)), (15, .int .i64 ((words.xs.length : Nat) : Int)), (16, .int .i64 (k : Int)), (6, .pointer (some ⟨b13, 0, none⟩)), (7, .int .i64 (ownE c y11)), (8, .pointer (some ⟨n12, 0, none⟩)), (36, .int .i64 (ownE c y11))] ⟨w, w27.heap.size, [(old0 w), (owns_calls_m3 z c), (owns_calls_m2 b13 c y11), (.blk n12 (.cells (TOwner.arr (ownR c y11)) 54 (0, 0)) true)]⟩ [0, 1, 2] (by as_aux_lemma => kernel_rfl) rfl ⟨rfl, rfl, rfl, trivial⟩ (.inr rfl) ?_
         refine w_take [(11, o0)] [1, 2, 15, 16, 6, 7, 8, 9] [] [true, true, true, true, true, true, true, true, true, true, true, true] [(1, .slice (some ⟨b4, o5, none⟩) words.xs.length words.cap), (2, .pointer (some ⟨z, 0, none⟩)), (15, .int .i64 ((words.xs.length : Nat) : Int)), (16, .int .i64 (k : Int)), (6, .pointer (some ⟨b13, 0, none⟩)), (7, .int .i64 (ownE c y11)), (8, .pointer (some ⟨n12, 0, none⟩)), (9, .int .i64 (ownE c y11))] rfl (by as_aux_lemma => kernel_rfl) (by as_aux_lemma => kernel_rfl) trivial ?_
         refine w_done (by as_aux_lemma => kernel_rfl) ?_
         refine e_keep [1, 2, 15, 16, 6, 7, 8, 9] [(1, .slice (some ⟨b4, o5, none⟩) words.xs.length words.cap), (2, .pointer (some ⟨z, 0, none⟩)), (15, .int .i64 ((words.xs.length : Nat) : Int)), (16, .int .i64 (k : Int)), (6, .pointer (some ⟨b13, 0, none⟩)), (7, .int .i64 (ownE c y11)), (8, .pointer (some ⟨n12, 0, none⟩)), (9, .int .i64 (ownE c y11))] ?_
         refine e_pick [0, 1, 2, 3] [(old0 w), (owns_calls_m3 z c), (owns_calls_m2 b13 c y11), (.blk n12 (.cells (TOwner.arr (ownR c y11)) 54 (0, 0)) true)] rfl rfl ?_
         exact hK ⟨(w27.heap.size, n12), by first | omega | (dsimp only; omega)⟩
     rintro ⟨⟨n21, b22⟩, hJ29⟩
     simp only at hJ29
     show E _ _ [(1, .slice (some ⟨b4, o5, none⟩) words.xs.length words.cap), (2, .pointer (some ⟨z, 0, none⟩)), (15, .int .i64 ((words.xs.length : Nat) : Int)), (16, .int .i64 (k : Int)), (6, .pointer (some ⟨b13, 0, none⟩)), (7, .int .i64 (ownE c y11)), (8, .pointer (some ⟨b22, 0, none⟩)), (9, .int .i64 (ownE c y11))] _ ⟨w, n21, [(old0 w), (owns_calls_m3 z c), (owns_calls_m2 b13 c y11), (.blk b22 (.cells (TOwner.arr (ownR c y11)) 54 (0, 0)) true)]⟩ _ _ _
     refine e_seq <| g_seq <| g_region <| l_all 8 [(oa [.at 2, .at 2, .at 2]), (oa [.at 3, .at 3, .at 3]), ⟨.seq true, none⟩, o0, o0, o0, oF, o0] [1, 2, 15, 16, 44] [Qb b13, Qb b13, Qb b13, Qb b22, Qb b22, Qb b22, (((ownR c y11).Kind : Int) == ((ownR c y11).Kind : Int) && (((ownR c y11).Index : Int) == ((ownR c y11).Index : Int) && (((ownR c y11).Port : Int) == ((ownR c y11).Port : Int) && true))) = true, NF (ownE c y11) (ownE c y11)] [(1, .slice (some ⟨b4, o5, none⟩) words.xs.length words.cap), (2, .pointer (some ⟨z, 0, none⟩)), (15, .int .i64 ((words.xs.length : Nat) : Int)), (16, .int .i64 (k : Int)), (44, .bool false)] ⟨w, n21, [(old0 w), (owns_calls_m3 z c), (owns_calls_m2 b13 c y11), (.blk b22 (.cells (TOwner.arr (ownR c y11)) 54 (0, 0)) true)]⟩ ⟨rfl, rfl, rfl, rfl, rfl, rfl, (by simp), nf (by omega), trivial⟩ ?_
     refine e_seq <| g_false <| g_skip <| e_blk <| e_seq <| g_region <| l_all 2 [(ov (.int .i64 ((k + 1 : Nat) : Int))), o0] [1, 2, 15, 16] [Value.int .i64 (IntKind.i64.wrap (((k : Int) : Int) + 1)) = Value.int .i64 (((k + 1 : Nat) : Int))] [(1, .slice (some ⟨b4, o5, none⟩) words.xs.length words.cap), (2, .pointer (some ⟨z, 0, none⟩)), (15, .int .i64 ((words.xs.length : Nat) : Int)), (16, .int .i64 ((k + 1 : Nat) : Int))] ⟨w, n21, [(old0 w), (owns_calls_m3 z c), (owns_calls_m2 b13 c y11), (.blk b22 (.cells (TOwner.arr (ownR c y11)) 54 (0, 0)) true)]⟩ ⟨congrArg (Value.int .i64) (wr_i64 (by omega) (by omega) (by omega)), trivial⟩ ?_
     refine e_pick [0, 1] [(old0 w), (owns_calls_m3 z c)] rfl rfl ?_
     refine e_eqk [1, 2, 15, 16] [(1, .slice words.a words.xs.length words.cap), (2, .pointer (some ⟨z, 0, none⟩)), (15, .int .i64 ((words.xs.length : Nat) : Int)), (16, .int .i64 ((k + 1 : Nat) : Int))] (by simp only [ha6]; rfl) ?_
     refine e_inv (fun a w' hs => ⟨words.xs.length - (k + 1), by omega, n21, (k + 1), rfl, by omega, by omega, hs⟩)
   · refine g_region <| l_all 1 [oF] [1, 2, 15, 16, 17] [BF (((k : Int) : Int) < ((words.xs.length : Nat) : Int))] [(1, .slice words.a words.xs.length words.cap), (2, .pointer (some ⟨z, 0, none⟩)), (15, .int .i64 ((words.xs.length : Nat) : Int)), (16, .int .i64 (k : Int)), (17, .bool false)] ⟨w, n2, [(old0 w), (owns_calls_m3 z c)]⟩ ⟨bf (by omega), trivial⟩ ?_
     refine e_seq <| g_seq <| g_false <| g_exit <| e_out <| e_outI <| e_hit <| e_seq <| g_seq <| g_region <| l_run 4 [(oa [.at 1, .at 1, .at 1, .at 1, .at 1, .at 1, .at 1]), o0, (oa [.at 1]), o0] [2, 47, 50] [Qb z, Qb z, Qb z, Qb z, Qb z, Qb z, Qb z, Qb z] [(2, .pointer (some ⟨z, 0, none⟩)), (47, .agg (TConfig.arr c)), (50, .int .i64 (IntKind.i64.wrap (16 * c.Kernel)))] ⟨w, n2, [(old0 w), (owns_calls_m3 z c)]⟩ ⟨rfl, rfl, rfl, rfl, rfl, rfl, rfl, rfl, trivial⟩ ?_
     refine l_call [] [] 23 #[.agg (TConfig.arr c), .int .i64 (IntKind.i64.wrap (16 * c.Kernel))] (some 51) trivial ?_
     intro w30 hw30
     refine (owner_calls w30 c (IntKind.i64.wrap (16 * c.Kernel)) (wrap_ink _) (hc.ext (hw30.ext rfl) (fun _ h => h))).mono ?_
     rintro e w31 ⟨rfl, hkw31⟩
     have hnw31 : n2 ≤ w31.heap.size := by have := hkw31.size; rw [hw30.size] at this; exact this
     refine ⟨_, _, rfl, hw30.keeps hkw31, ?_⟩
     refine l_keep [2, 51] [(2, .pointer (some ⟨z, 0, none⟩)), (51, .tuple #[.agg (TOwner.arr (ownR c (IntKind.i64.wrap (16 * c.Kernel)))), .int .i64 (ownE c (IntKind.i64.wrap (16 * c.Kernel)))])] ?_
     refine l_all 6 [o0, o0, o0, o0, (oa [.at 2, .at 2, .at 2]), o0] [2, 10, 11] [Qb w31.heap.size, Qb w31.heap.size, Qb w31.heap.size] [(2, .pointer (some ⟨z, 0, none⟩)), (10, .pointer (some ⟨w31.heap.size, 0, none⟩)), (11, .int .i64 (ownE c (IntKind.i64.wrap (16 * c.Kernel))))] ⟨w, w31.heap.size + 1, [(old0 w), (owns_calls_m3 z c), (owns_calls_m0 w31 c)]⟩ ⟨rfl, rfl, rfl, trivial⟩ ?_
     refine e_seq <| g_seq <| g_region <| l_run 4 [(oa [.at 1, .at 1, .at 1, .at 1, .at 1, .at 1, .at 1]), o0, (oa [.at 1]), o0] [10, 11, 55, 58] [Qb z, Qb z, Qb z, Qb z, Qb z, Qb z, Qb z, Qb z] [(10, .pointer (some ⟨w31.heap.size, 0, none⟩)), (11, .int .i64 (ownE c (IntKind.i64.wrap (16 * c.Kernel)))), (55, .agg (TConfig.arr c)), (58, .int .i64 (IntKind.i64.wrap (16 * c.Kernel)))] ⟨w, w31.heap.size + 1, [(old0 w), (owns_calls_m3 z c), (owns_calls_m0 w31 c)]⟩ ⟨rfl, rfl, rfl, rfl, rfl, rfl, rfl, rfl, trivial⟩ ?_
     refine l_call [] [] 24 #[.agg (TConfig.arr c), .int .i64 (IntKind.i64.wrap (16 * c.Kernel))] (some 59) trivial ?_
     intro w32 hw32
     refine (rowner_calls w32 c (IntKind.i64.wrap (16 * c.Kernel)) (wrap_ink _) (hc.ext (hw32.ext rfl) (fun _ h => h))).mono ?_
     rintro e w33 ⟨rfl, hkw33⟩
     have hnw33 : w31.heap.size + 1 ≤ w33.heap.size := by have := hkw33.size; rw [hw32.size] at this; exact this
     refine ⟨_, _, rfl, hw32.keeps hkw33, ?_⟩
     refine l_keep [10, 11, 59] [(10, .pointer (some ⟨w31.heap.size, 0, none⟩)), (11, .int .i64 (ownE c (IntKind.i64.wrap (16 * c.Kernel)))), (59, .tuple #[.agg (TOwner.arr (ownR c (IntKind.i64.wrap (16 * c.Kernel)))), .int .i64 (ownE c (IntKind.i64.wrap (16 * c.Kernel)))])] ?_
     refine l_all 6 [o0, o0, o0, o0, (oa [.at 3, .at 3, .at 3]), o0] [10, 11, 12, 13] [Qb w33.heap.size, Qb w33.heap.size, Qb w33.heap.size] [(10, .pointer (some ⟨w31.heap.size, 0, none⟩)), (11, .int .i64 (ownE c (IntKind.i64.wrap (16 * c.Kernel)))), (12, .pointer (some ⟨w33.heap.size, 0, none⟩)), (13, .int .i64 (ownE c (IntKind.i64.wrap (16 * c.Kernel))))] ⟨w, w33.heap.size + 1, [(old0 w), (owns_calls_m3 z c), (owns_calls_m0 w31 c), (owns_calls_m1 w33 c)]⟩ ⟨rfl, rfl, rfl, trivial⟩ ?_
     refine e_seq <| g_seq <| g_region <| l_all 9 [(oa [.at 2, .at 2, .at 2]), (oa [.at 3, .at 3, .at 3]), ⟨.seq true, none⟩, o0, o0, o0, oT, o0, o0] [4] [Qb w31.heap.size, Qb w31.heap.size, Qb w31.heap.size, Qb w33.heap.size, Qb w33.heap.size, Qb w33.heap.size, (((ownR c (IntKind.i64.wrap (16 * c.Kernel))).Kind : Int) == ((ownR c (IntKind.i64.wrap (16 * c.Kernel))).Kind : Int) && (((ownR c (IntKind.i64.wrap (16 * c.Kernel))).Index : Int) == ((ownR c (IntKind.i64.wrap (16 * c.Kernel))).Index : Int) && (((ownR c (IntKind.i64.wrap (16 * c.Kernel))).Port : Int) == ((ownR c (IntKind.i64.wrap (16 * c.Kernel))).Port : Int) && true))) = true, ET (ownE c (IntKind.i64.wrap (16 * c.Kernel))) (ownE c (IntKind.i64.wrap (16 * c.Kernel)))] [(4, .bool true)] ⟨w, w33.heap.size + 1, [(old0 w), (owns_calls_m3 z c), (owns_calls_m0 w31 c), (owns_calls_m1 w33 c)]⟩ ⟨rfl, rfl, rfl, rfl, rfl, rfl, (by simp), et (by omega), trivial⟩ ?_
     refine e_seq <| g_ret <| e_ret [] [] (.bool true) trivial ?_
     intro w34 hw34
     exact ⟨rfl, hw34.back rfl (show w.heap.size ≤ w33.heap.size + 1 by omega) (List.mem_cons_self ..)⟩

end Go.Proofs.Ytpoeaajkgblkmaa.Ly
