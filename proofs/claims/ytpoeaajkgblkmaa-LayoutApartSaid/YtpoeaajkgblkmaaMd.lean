/- LayoutApart: walked. No conditions. -/
import Derived.Test.YtpoeaajkgblkmaaMc
namespace Go.Proofs.Ytpoeaajkgblkmaa.Ly
open Go Go.Proofs.Ytpoeaajkgblkmaa.Eng Go.Proofs.Ytpoeaajkgblkmaa.Mem
set_option linter.unusedSimpArgs false
set_option linter.unusedVariables false
set_option maxRecDepth 100000
abbrev qzwu_0 (w41 : World) : Ch := .blk w41.heap.size (.cells #[.int .i64 0, .slice none 0 0, .slice none 0 0, .int .i64 0] 34 (0, 0)) true
abbrev qzwu_1 (w49 : World) : Ch := .blk w49.heap.size (.cells #[.int .i64 0, .slice none 0 0, .slice none 0 0, .int .i64 0] 34 (0, 0)) true
abbrev qzwu_2 (w51 : World) : Ch := .blk w51.heap.size (.cells #[.int .i64 0, .slice none 0 0, .slice none 0 0, .int .i64 0] 34 (0, 0)) true
abbrev qzwu_3 (w45 : World) (lw45 : TLayout) : Ch := .blk w45.heap.size (.cells (TLayout.arr lw45) 34 (0, 0)) true
abbrev qzwu_4 (w5 : World) (lw5 : TLayout) : Ch := .blk w5.heap.size (.cells (TLayout.arr lw5) 34 (0, 0)) true
abbrev qzwu_5 (w7 : World) (c : TConfig) : Ch := .blk w7.heap.size (.cells (wantA c) 59 (0, 0)) true
abbrev qzwu_6 (z : Nat) (c : TConfig) : Ch := .blk z (.cells (TConfig.arr c) 30 (0, 0)) true
abbrev qzwu_7 (w : World) (z : Nat) (c : TConfig) (w2 : World) (w5 : World) (lw5 : TLayout) (w7 : World) : List Ch := [(old0 w), (qzwu_6 z c), (mid w2.heap.size w5), (qzwu_4 w5 lw5), (qzwu_5 w7 c)]
theorem apart_calls (w : World) (c : TConfig) (hc : TConfig.ok Any w c) : Calls Try.prog 9 #[.agg (TConfig.arr c)] w fun e w' => e = .returned (.bool true) ∧ Keeps (fun _ => False) w w' := by
 obtain ⟨z, hz⟩ : ∃ z, z = w.heap.size := ⟨_, rfl⟩
 refine calls_G (args := [.agg (TConfig.arr c)]) 105 ⟨w, z, [(old0 w)]⟩ Try.func9 rfl (by kernel_rfl) (by kernel_rfl) (sat_0 hz) ?_
 refine g_keep [0] [(0, .agg (TConfig.arr c))] ?_
 refine g_seq <| g_region <| l_all 2 [o0, o0] [1] [] [(1, .pointer (some ⟨z, 0, none⟩))] ⟨w, z + 1, [(old0 w), (qzwu_6 z c)]⟩ trivial ?_
 refine e_seq <| g_seq <| g_seq <| g_region <| l_run 1 [(oa [.at 1, .at 1, .at 1, .at 1, .at 1, .at 1, .at 1])] [1, 13] [Qb z, Qb z, Qb z, Qb z, Qb z, Qb z, Qb z] [(1, .pointer (some ⟨z, 0, none⟩)), (13, .agg (TConfig.arr c))] ⟨w, z + 1, [(old0 w), (qzwu_6 z c)]⟩ ⟨rfl, rfl, rfl, rfl, rfl, rfl, rfl, trivial⟩ ?_
 refine l_call [] [] 25 #[.agg (TConfig.arr c)] (some 14) trivial ?_
 intro w1 hw1
 refine (fits_calls w1 c (hc.ext (hw1.ext rfl) (fun _ h => h))).mono ?_
 rintro e w2 ⟨rfl, hkw2⟩
 have hnw2 : z + 1 ≤ w2.heap.size := by have := hkw2.size; rw [hw1.size] at this; exact this
 refine ⟨_, _, rfl, hw1.keeps hkw2, ?_⟩
 refine l_keep [1, 14] [(1, .pointer (some ⟨z, 0, none⟩)), (14, .bool (fitsB c))] ?_
 by_cases hfit : fitsB c = true
 · have hkl := kern_lt c; have hpnf := (fine_of (fits_is hfit).1).pn; have hcnf := (fine_of (fits_is hfit).1).cn
   refine l_all 1 [(ov (.bool false))] [1, 15] [Value.bool (!(fitsB c)) = Value.bool false] [(1, .pointer (some ⟨z, 0, none⟩)), (15, .bool false)] ⟨w, w2.heap.size, [(old0 w), (qzwu_6 z c)]⟩ ⟨by simp [hfit], trivial⟩ ?_
   refine e_seq <| g_false <| g_skip <| e_seq <| g_seq <| g_region <| l_run 1 [(oa [.at 1, .at 1, .at 1, .at 1, .at 1, .at 1, .at 1])] [1, 39] [Qb z, Qb z, Qb z, Qb z, Qb z, Qb z, Qb z] [(1, .pointer (some ⟨z, 0, none⟩)), (39, .agg (TConfig.arr c))] ⟨w, w2.heap.size, [(old0 w), (qzwu_6 z c)]⟩ ⟨rfl, rfl, rfl, rfl, rfl, rfl, rfl, trivial⟩ ?_
   refine l_call [] [] 15 #[.agg (TConfig.arr c)] (some 40) trivial ?_
   intro w3 hw3
   by_cases hok4 : confOk c = true
   · refine (of_yes w3 c (hc.ext (hw3.ext rfl) (fun _ h => h)) hok4).mono ?_
     rintro e w5 ⟨lw5, rfl, hIw5, hLw5, hOw5, hkw5⟩
     have hfw5 := fine_of hok4; have hknw5 := hfw5.kn; have hEw5 := hIw5.fin; have hEbw5 := tAt_bd hfw5 _ (Nat.le_refl _); have hpnw5 := hfw5.pn
     rw [hw3.size] at hLw5 hOw5
     have hnw5 : w2.heap.size ≤ w5.heap.size := by have := hkw5.size; rw [hw3.size] at this; exact this
     refine ⟨_, _, rfl, hw3.keepsM hkw5, ?_⟩
     have hbar := hIw5.bar
     refine l_keep [1, 40] [(1, .pointer (some ⟨z, 0, none⟩)), (40, .tuple #[.agg (TLayout.arr lw5), .int .i64 0])] ?_
     refine l_all 6 [o0, o0, o0, o0, (oa [.at 3, .at 3, .at 3, .at 3]), o0] [1, 7, 8] [Qb w5.heap.size, Qb w5.heap.size, Qb w5.heap.size, Qb w5.heap.size] [(1, .pointer (some ⟨z, 0, none⟩)), (7, .pointer (some ⟨w5.heap.size, 0, none⟩)), (8, .int .i64 0)] ⟨w, w5.heap.size + 1, [(old0 w), (qzwu_6 z c), (mid w2.heap.size w5), (qzwu_4 w5 lw5)]⟩ ⟨rfl, rfl, rfl, rfl, trivial⟩ ?_
     refine e_seq <| g_seq <| g_seq <| g_region <| l_all 2 [o0, o0] [1, 7, 44] [] [(1, .pointer (some ⟨z, 0, none⟩)), (7, .pointer (some ⟨w5.heap.size, 0, none⟩)), (44, .bool false)] ⟨w, w5.heap.size + 1, [(old0 w), (qzwu_6 z c), (mid w2.heap.size w5), (qzwu_4 w5 lw5)]⟩ trivial ?_
     refine e_seq <| g_false <| g_skip <| e_seq <| g_seq <| g_region <| l_run 2 [(oa [.at 1, .at 1, .at 1, .at 1, .at 1, .at 1, .at 1]), (oa [.at 3, .at 3, .at 3, .at 3])] [1, 7, 46, 47] [Qb z, Qb z, Qb z, Qb z, Qb z, Qb z, Qb z, Qb w5.heap.size, Qb w5.heap.size, Qb w5.heap.size, Qb w5.heap.size] [(1, .pointer (some ⟨z, 0, none⟩)), (7, .pointer (some ⟨w5.heap.size, 0, none⟩)), (46, .agg (TConfig.arr c)), (47, .agg (TLayout.arr lw5))] ⟨w, w5.heap.size + 1, [(old0 w), (qzwu_6 z c), (mid w2.heap.size w5), (qzwu_4 w5 lw5)]⟩ ⟨rfl, rfl, rfl, rfl, rfl, rfl, rfl, rfl, rfl, rfl, rfl, trivial⟩ ?_
     refine l_call [] [] 26 #[.agg (TConfig.arr c), .agg (TLayout.arr lw5)] (some 48) trivial ?_
     intro w6 hw6
     refine (wanted_calls w6 c lw5 (hc.ext (hw6.ext rfl) (fun _ h => h)) (hLw5.ext (hw6.extM 2) (fun _ _ => trivial)) hfit hIw5).mono ?_
     rintro e w7 ⟨rfl, hkw7⟩
     have hnw7 : w5.heap.size + 1 ≤ w7.heap.size := by have := hkw7.size; rw [hw6.size] at this; exact this
     refine ⟨_, _, rfl, hw6.keeps hkw7, ?_⟩
     refine l_keep [1, 7, 48] [(1, .pointer (some ⟨z, 0, none⟩)), (7, .pointer (some ⟨w5.heap.size, 0, none⟩)), (48, .tuple #[.agg (wantA c), .bool true])] ?_
     refine l_all 6 [o0, o0, o0, o0, (oa [.at 4, .at 4, .at 4, .at 4, .at 4, .at 4, .at 4, .at 4, .at 4, .at 4]), o0] [1, 7, 9, 10] [Qb w7.heap.size, Qb w7.heap.size, Qb w7.heap.size, Qb w7.heap.size, Qb w7.heap.size, Qb w7.heap.size, Qb w7.heap.size, Qb w7.heap.size, Qb w7.heap.size, Qb w7.heap.size] [(1, .pointer (some ⟨z, 0, none⟩)), (7, .pointer (some ⟨w5.heap.size, 0, none⟩)), (9, .pointer (some ⟨w7.heap.size, 0, none⟩)), (10, .bool true)] ⟨w, w7.heap.size + 1, (qzwu_7 w z c w2 w5 lw5 w7)⟩ ⟨rfl, rfl, rfl, rfl, rfl, rfl, rfl, rfl, rfl, rfl, trivial⟩ ?_
     refine e_seq <| g_seq <| g_seq <| g_region <| l_run 15 [o0, o0, o0, o0, (oa [.at 3]), o0, (oa [.at 1]), (ov (.int .i64 (16 * c.Kernel))), oF, o0, o0, (oa [.at 1, .at 1, .at 1, .at 1, .at 1, .at 1, .at 1]), o0, (oa [.at 3]), o0] [1, 7, 9, 61, 62, 64, 65] [Qb w5.heap.size, Qb z, Value.int .i64 (IntKind.i64.wrap ((16 : Int) * c.Kernel)) = Value.int .i64 (16 * c.Kernel), NF lw5.Barrier (16 * c.Kernel), Qb z, Qb z, Qb z, Qb z, Qb z, Qb z, Qb z, Qb w5.heap.size] [(1, .pointer (some ⟨z, 0, none⟩)), (7, .pointer (some ⟨w5.heap.size, 0, none⟩)), (9, .pointer (some ⟨w7.heap.size, 0, none⟩)), (61, .bool false), (62, .agg (TConfig.arr c)), (64, .int .i64 lw5.Barrier), (65, .agg #[.int .i64 2, .int .i64 0, .int .i64 0])] ⟨w, w7.heap.size + 1, (qzwu_7 w z c w2 w5 lw5 w7)⟩ ⟨rfl, rfl, congrArg (Value.int .i64) (wr_i64 (by omega) (by omega) (by omega)), nf (by omega), rfl, rfl, rfl, rfl, rfl, rfl, rfl, rfl, trivial⟩ ?_
     refine l_call [] [] 27 #[.agg (TConfig.arr c), .int .i64 lw5.Barrier, .int .i64 2, .agg #[.int .i64 2, .int .i64 0, .int .i64 0]] (some 66) trivial ?_
     intro w8 hw8
     refine (owned_calls w8 c lw5.Barrier 2 (⟨2, 0, 0⟩ : TOwner) (hc.ext (hw8.ext rfl) (fun _ h => h)) hfit (mem_bar (by omega))).mono ?_
     rintro e w9 ⟨rfl, hkw9⟩
     have hnw9 : w7.heap.size + 1 ≤ w9.heap.size := by have := hkw9.size; rw [hw8.size] at this; exact this
     refine ⟨_, _, rfl, hw8.keeps hkw9, ?_⟩
     refine l_keep [1, 7, 9, 61, 66] [(1, .pointer (some ⟨z, 0, none⟩)), (7, .pointer (some ⟨w5.heap.size, 0, none⟩)), (9, .pointer (some ⟨w7.heap.size, 0, none⟩)), (61, .bool false), (66, .bool true)] ?_
     refine l_all 2 [o0, o0] [1, 7, 9, 68] [] [(1, .pointer (some ⟨z, 0, none⟩)), (7, .pointer (some ⟨w5.heap.size, 0, none⟩)), (9, .pointer (some ⟨w7.heap.size, 0, none⟩)), (68, .bool false)] ⟨w, w9.heap.size, (qzwu_7 w z c w2 w5 lw5 w7)⟩ trivial ?_
     refine e_seq <| g_false <| g_skip <| e_seq <| g_seq <| g_seq <| g_region <| l_all 4 [o0, (oa [.at 3]), o0, o0] [1, 7, 9, 71, 72] [Qb w5.heap.size] [(1, .pointer (some ⟨z, 0, none⟩)), (7, .pointer (some ⟨w5.heap.size, 0, none⟩)), (9, .pointer (some ⟨w7.heap.size, 0, none⟩)), (71, .int .i64 ((lw5.Partitions.xs.length : Nat) : Int)), (72, .int .i64 0)] ⟨w, w9.heap.size, (qzwu_7 w z c w2 w5 lw5 w7)⟩ ⟨rfl, trivial⟩ ?_
     refine e_seq <| g_block ?_
     have hpli := hIw5.pl
     refine g_loop (fun m a w' => ∃ (n11 : Nat) (i : Nat), m = lw5.Partitions.xs.length - i ∧ w9.heap.size ≤ n11 ∧ (i ≤ lw5.Partitions.xs.length) ∧ St 105 [(1, .pointer (some ⟨z, 0, none⟩)), (7, .pointer (some ⟨w5.heap.size, 0, none⟩)), (9, .pointer (some ⟨w7.heap.size, 0, none⟩)), (71, .int .i64 ((lw5.Partitions.xs.length : Nat) : Int)), (72, .int .i64 (i : Int))] [] ⟨w, n11, (qzwu_7 w z c w2 w5 lw5 w7)⟩ a w') (lw5.Partitions.xs.length - 0) ?_ ?_
     · intro a w' hs; exact ⟨w9.heap.size, 0, rfl, Nat.le_refl _, Nat.zero_le _, hs⟩
     · rintro m a w' ⟨n11, i, rfl, hn10, hki, hs⟩
       refine (?_ : G Try.prog 105 [(1, .pointer (some ⟨z, 0, none⟩)), (7, .pointer (some ⟨w5.heap.size, 0, none⟩)), (9, .pointer (some ⟨w7.heap.size, 0, none⟩)), (71, .int .i64 ((lw5.Partitions.xs.length : Nat) : Int)), (72, .int .i64 (i : Int))] [] ⟨w, n11, (qzwu_7 w z c w2 w5 lw5 w7)⟩ _ _ _) a w' hs
       clear hs a w'
       refine g_seq ?_
       by_cases h12 : ((i : Int) : Int) < ((lw5.Partitions.xs.length : Nat) : Int)
       · refine g_region <| l_all 1 [oT] [1, 7, 9, 71, 72, 73] [BT (((i : Int) : Int) < ((lw5.Partitions.xs.length : Nat) : Int))] [(1, .pointer (some ⟨z, 0, none⟩)), (7, .pointer (some ⟨w5.heap.size, 0, none⟩)), (9, .pointer (some ⟨w7.heap.size, 0, none⟩)), (71, .int .i64 ((lw5.Partitions.xs.length : Nat) : Int)), (72, .int .i64 (i : Int)), (73, .bool true)] ⟨w, n11, (qzwu_7 w z c w2 w5 lw5 w7)⟩ ⟨bt (by omega), trivial⟩ ?_
         refine e_seq <| g_seq <| g_true <| g_skip <| e_seq <| g_seq <| g_block <| g_seq <| g_region <| l_all 2 [o0, o0] [1, 7, 9, 71, 72, 11] [] [(1, .pointer (some ⟨z, 0, none⟩)), (7, .pointer (some ⟨w5.heap.size, 0, none⟩)), (9, .pointer (some ⟨w7.heap.size, 0, none⟩)), (71, .int .i64 ((lw5.Partitions.xs.length : Nat) : Int)), (72, .int .i64 (i : Int)), (11, .int .i64 (i : Int))] ⟨w, n11, (qzwu_7 w z c w2 w5 lw5 w7)⟩ trivial ?_
         refine e_seq <| g_seq ?_
         obtain ⟨b13, o14, ha15, hF17, hc16⟩ := (hLw5.Partitions).1.all (show 0 < lw5.Partitions.xs.length by omega)
         replace ha15 : lw5.Partitions.a = some ⟨b13, o14, none⟩ := ha15
         have hc18 := hc16 i (show i < lw5.Partitions.xs.length by omega)
         have he19 := (hLw5.Partitions).2 i (show i < lw5.Partitions.xs.length by omega)
         obtain ⟨y20, hy20⟩ : ∃ y_, y_ = gd lw5.Partitions.xs i := ⟨_, rfl⟩
         rw [← hy20] at he19 hc18
         refine g_draw 9 [0, 1, 2, 3, 4] (qzwu_7 w z c w2 w5 lw5 w7) rfl rfl ?_
         refine w_take [(0, (oa [.at 1, .at 1, .at 1, .at 1, .at 1, .at 1, .at 1])), (1, o0), (2, ⟨.auto [.at 3], some (.slice (some ⟨b13, o14, none⟩) lw5.Partitions.xs.length lw5.Partitions.cap)⟩), (3, o0), (4, (oi i)), (5, (oa [.via 2 (.int .i64 y20.Lock), .via 2 (.int .i64 y20.Save), .via 2 (.int .i64 y20.State), .via 2 (.int .i64 y20.Root), .via 2 (.slice y20.Tables.a y20.Tables.xs.length y20.Tables.cap)])), (6, o0)] [1, 7, 9, 71, 72, 75, 80, 81] [Qb z, Qb z, Qb z, Qb z, Qb z, Qb z, Qb z, Qb w5.heap.size, Value.slice lw5.Partitions.a lw5.Partitions.xs.length lw5.Partitions.cap = Value.slice (some ⟨b13, o14, none⟩) lw5.Partitions.xs.length lw5.Partitions.cap, ((i : Int) : Int) = ((i : Nat) : Int), i < lw5.Partitions.xs.length, (none : Option Nat) = none, ∀ w', Ch.holds (mid w2.heap.size w5) w' → w'.cell? ⟨b13, o14 + i * 5, none⟩ = some (.int .i64 y20.Lock), ∀ w', Ch.holds (mid w2.heap.size w5) w' → w'.cell? ⟨b13, o14 + i * 5 + 1, none⟩ = some (.int .i64 y20.Save), ∀ w', Ch.holds (mid w2.heap.size w5) w' → w'.cell? ⟨b13, o14 + i * 5 + 2, none⟩ = some (.int .i64 y20.State), ∀ w', Ch.holds (mid w2.heap.size w5) w' → w'.cell? ⟨b13, o14 + i * 5 + 3, none⟩ = some (.int .i64 y20.Root), ∀ w', Ch.holds (mid w2.heap.size w5) w' → w'.cell? ⟨b13, o14 + i * 5 + 4, none⟩ = some (.slice y20.Tables.a y20.Tables.xs.length y20.Tables.cap)] [true, true, true, true, true, true, true, false, false] [(1, .pointer (some ⟨z, 0, none⟩)), (7, .pointer (some ⟨w5.heap.size, 0, none⟩)), (9, .pointer (some ⟨w7.heap.size, 0, none⟩)), (71, .int .i64 ((lw5.Partitions.xs.length : Nat) : Int)), (72, .int .i64 (i : Int)), (75, .agg (TConfig.arr c)), (80, .agg (TPartitionPlace.arr y20)), (81, .int .i64 (i : Int))] rfl (by as_aux_lemma => kernel_rfl) (by as_aux_lemma => kernel_rfl) ⟨rfl, rfl, rfl, rfl, rfl, rfl, rfl, rfl, congrArg (fun a => Value.slice a _ _) ha15, rfl, (by omega), rfl, mid_cell hF17 (hc18 0 _ rfl), mid_cell hF17 (hc18 1 _ rfl), mid_cell hF17 (hc18 2 _ rfl), mid_cell hF17 (hc18 3 _ rfl), mid_cell hF17 (hc18 4 _ rfl), trivial⟩ ?_
         refine w_one 7 (by as_aux_lemma => kernel_rfl) rfl ?_
         refine wo_call [] [] 28 #[.agg (TConfig.arr c), .agg (TPartitionPlace.arr y20), .int .i64 (i : Int)] (some 82) (by as_aux_lemma => kernel_rfl) rfl rfl trivial ?_
         intro w21 hw21
         refine (ownedP_calls w21 c y20 i (hc.ext (hw21.ext rfl) (fun _ h => h)) (he19.ext (hw21.extM 2) (fun _ _ => trivial)) (show i < c.Partitions.xs.length by omega) hfit (ps_is hIw5 (by omega) hy20)).mono ?_
         rintro e w22 ⟨rfl, hkw22⟩
         have hnw22 : n11 ≤ w22.heap.size := by have := hkw22.size; rw [hw21.size] at this; exact this
         have hs23 := hw21.keeps hkw22
         refine ⟨_, _, rfl, hs23, .inr (fun c hc => hs23.all c (by first | exact hc | exact picks_mem (is := [0, 1, 2, 3, 4]) rfl c hc)), ?_⟩
         refine w_keep [1, 7, 9, 71, 72, 82] [(1, .pointer (some ⟨z, 0, none⟩)), (7, .pointer (some ⟨w5.heap.size, 0, none⟩)), (9, .pointer (some ⟨w7.heap.size, 0, none⟩)), (71, .int .i64 ((lw5.Partitions.xs.length : Nat) : Int)), (72, .int .i64 (i : Int)), (82, .bool true)] ?_
         refine w_take [(8, o0)] [1, 7, 9, 71, 72, 83] [] [true, true, true, true, true, true, true, true, true] [(1, .pointer (some ⟨z, 0, none⟩)), (7, .pointer (some ⟨w5.heap.size, 0, none⟩)), (9, .pointer (some ⟨w7.heap.size, 0, none⟩)), (71, .int .i64 ((lw5.Partitions.xs.length : Nat) : Int)), (72, .int .i64 (i : Int)), (83, .bool false)] rfl (by as_aux_lemma => kernel_rfl) (by as_aux_lemma => kernel_rfl) trivial ?_
         refine w_done (by as_aux_lemma => kernel_rfl) ?_
         refine e_keep [1, 7, 9, 71, 72, 83] [(1, .pointer (some ⟨z, 0, none⟩)), (7, .pointer (some ⟨w5.heap.size, 0, none⟩)), (9, .pointer (some ⟨w7.heap.size, 0, none⟩)), (71, .int .i64 ((lw5.Partitions.xs.length : Nat) : Int)), (72, .int .i64 (i : Int)), (83, .bool false)] ?_
         refine e_seq <| g_false <| g_skip <| e_blk <| e_seq <| g_region <| l_all 2 [(ov (.int .i64 ((i + 1 : Nat) : Int))), o0] [1, 7, 9, 71, 72] [Value.int .i64 (IntKind.i64.wrap (((i : Int) : Int) + 1)) = Value.int .i64 (((i + 1 : Nat) : Int))] [(1, .pointer (some ⟨z, 0, none⟩)), (7, .pointer (some ⟨w5.heap.size, 0, none⟩)), (9, .pointer (some ⟨w7.heap.size, 0, none⟩)), (71, .int .i64 ((lw5.Partitions.xs.length : Nat) : Int)), (72, .int .i64 ((i + 1 : Nat) : Int))] ⟨w, w22.heap.size, (qzwu_7 w z c w2 w5 lw5 w7)⟩ ⟨congrArg (Value.int .i64) (wr_i64 (by omega) (by omega) (by omega)), trivial⟩ ?_
         refine e_keep [1, 7, 9, 71, 72] [(1, .pointer (some ⟨z, 0, none⟩)), (7, .pointer (some ⟨w5.heap.size, 0, none⟩)), (9, .pointer (some ⟨w7.heap.size, 0, none⟩)), (71, .int .i64 ((lw5.Partitions.xs.length : Nat) : Int)), (72, .int .i64 ((i + 1 : Nat) : Int))] ?_
         refine e_inv (fun a w' hs => ⟨lw5.Partitions.xs.length - (i + 1), by omega, w22.heap.size, (i + 1), rfl, by omega, by omega, hs⟩)
       · refine g_region <| l_all 1 [oF] [1, 7, 9, 71, 72, 73] [BF (((i : Int) : Int) < ((lw5.Partitions.xs.length : Nat) : Int))] [(1, .pointer (some ⟨z, 0, none⟩)), (7, .pointer (some ⟨w5.heap.size, 0, none⟩)), (9, .pointer (some ⟨w7.heap.size, 0, none⟩)), (71, .int .i64 ((lw5.Partitions.xs.length : Nat) : Int)), (72, .int .i64 (i : Int)), (73, .bool false)] ⟨w, n11, (qzwu_7 w z c w2 w5 lw5 w7)⟩ ⟨bf (by omega), trivial⟩ ?_
         refine e_seq <| g_seq <| g_false <| g_exit <| e_out <| e_outI <| e_hit <| e_seq <| g_seq <| g_seq <| g_region <| l_all 4 [o0, (oa [.at 3]), o0, o0] [1, 7, 9, 87, 88] [Qb w5.heap.size] [(1, .pointer (some ⟨z, 0, none⟩)), (7, .pointer (some ⟨w5.heap.size, 0, none⟩)), (9, .pointer (some ⟨w7.heap.size, 0, none⟩)), (87, .int .i64 ((lw5.Channels.xs.length : Nat) : Int)), (88, .int .i64 0)] ⟨w, n11, (qzwu_7 w z c w2 w5 lw5 w7)⟩ ⟨rfl, trivial⟩ ?_
         refine e_seq <| g_block ?_
         have hplk := hIw5.cl
         refine g_loop (fun m a w' => ∃ (n25 : Nat) (k : Nat), m = lw5.Channels.xs.length - k ∧ n11 ≤ n25 ∧ (k ≤ lw5.Channels.xs.length) ∧ St 105 [(1, .pointer (some ⟨z, 0, none⟩)), (7, .pointer (some ⟨w5.heap.size, 0, none⟩)), (9, .pointer (some ⟨w7.heap.size, 0, none⟩)), (87, .int .i64 ((lw5.Channels.xs.length : Nat) : Int)), (88, .int .i64 (k : Int))] [] ⟨w, n25, (qzwu_7 w z c w2 w5 lw5 w7)⟩ a w') (lw5.Channels.xs.length - 0) ?_ ?_
         · intro a w' hs; exact ⟨n11, 0, rfl, Nat.le_refl _, Nat.zero_le _, hs⟩
         · rintro m a w' ⟨n25, k, rfl, hn24, hkk, hs⟩
           refine (?_ : G Try.prog 105 [(1, .pointer (some ⟨z, 0, none⟩)), (7, .pointer (some ⟨w5.heap.size, 0, none⟩)), (9, .pointer (some ⟨w7.heap.size, 0, none⟩)), (87, .int .i64 ((lw5.Channels.xs.length : Nat) : Int)), (88, .int .i64 (k : Int))] [] ⟨w, n25, (qzwu_7 w z c w2 w5 lw5 w7)⟩ _ _ _) a w' hs
           clear hs a w'
           refine g_seq ?_
           by_cases h26 : ((k : Int) : Int) < ((lw5.Channels.xs.length : Nat) : Int)
           · refine g_region <| l_all 1 [oT] [1, 7, 9, 87, 88, 89] [BT (((k : Int) : Int) < ((lw5.Channels.xs.length : Nat) : Int))] [(1, .pointer (some ⟨z, 0, none⟩)), (7, .pointer (some ⟨w5.heap.size, 0, none⟩)), (9, .pointer (some ⟨w7.heap.size, 0, none⟩)), (87, .int .i64 ((lw5.Channels.xs.length : Nat) : Int)), (88, .int .i64 (k : Int)), (89, .bool true)] ⟨w, n25, (qzwu_7 w z c w2 w5 lw5 w7)⟩ ⟨bt (by omega), trivial⟩ ?_
             refine e_seq <| g_seq <| g_true <| g_skip <| e_seq <| g_seq <| g_block <| g_seq <| g_region <| l_all 2 [o0, o0] [1, 7, 9, 87, 88, 12] [] [(1, .pointer (some ⟨z, 0, none⟩)), (7, .pointer (some ⟨w5.heap.size, 0, none⟩)), (9, .pointer (some ⟨w7.heap.size, 0, none⟩)), (87, .int .i64 ((lw5.Channels.xs.length : Nat) : Int)), (88, .int .i64 (k : Int)), (12, .int .i64 (k : Int))] ⟨w, n25, (qzwu_7 w z c w2 w5 lw5 w7)⟩ trivial ?_
             refine e_seq <| g_seq ?_
             obtain ⟨b27, o28, ha29, hF31, hc30⟩ := (hLw5.Channels).1.all (show 0 < lw5.Channels.xs.length by omega)
             replace ha29 : lw5.Channels.a = some ⟨b27, o28, none⟩ := ha29
             have hc32 := hc30 k (show k < lw5.Channels.xs.length by omega)
             have he33 := (hLw5.Channels).2 k (show k < lw5.Channels.xs.length by omega)
             obtain ⟨y34, hy34⟩ : ∃ y_, y_ = gd lw5.Channels.xs k := ⟨_, rfl⟩
             rw [← hy34] at he33 hc32
             refine g_draw 9 [0, 1, 2, 3, 4] (qzwu_7 w z c w2 w5 lw5 w7) rfl rfl ?_
             refine w_take [(0, (oa [.at 1, .at 1, .at 1, .at 1, .at 1, .at 1, .at 1])), (1, o0), (2, ⟨.auto [.at 3], some (.slice (some ⟨b27, o28, none⟩) lw5.Channels.xs.length lw5.Channels.cap)⟩), (3, o0), (4, (oi k)), (5, (oa [.via 2 (.int .i64 y34.Lock), .via 2 (.int .i64 y34.Stage), .via 2 (.int .i64 y34.Partition), .via 2 (.int .i64 y34.Port), .via 2 (.slice y34.Dests.a y34.Dests.xs.length y34.Dests.cap)])), (6, o0)] [1, 7, 9, 87, 88, 91, 96, 97] [Qb z, Qb z, Qb z, Qb z, Qb z, Qb z, Qb z, Qb w5.heap.size, Value.slice lw5.Channels.a lw5.Channels.xs.length lw5.Channels.cap = Value.slice (some ⟨b27, o28, none⟩) lw5.Channels.xs.length lw5.Channels.cap, ((k : Int) : Int) = ((k : Nat) : Int), k < lw5.Channels.xs.length, (none : Option Nat) = none, ∀ w', Ch.holds (mid w2.heap.size w5) w' → w'.cell? ⟨b27, o28 + k * 5, none⟩ = some (.int .i64 y34.Lock), ∀ w', Ch.holds (mid w2.heap.size w5) w' → w'.cell? ⟨b27, o28 + k * 5 + 1, none⟩ = some (.int .i64 y34.Stage), ∀ w', Ch.holds (mid w2.heap.size w5) w' → w'.cell? ⟨b27, o28 + k * 5 + 2, none⟩ = some (.int .i64 y34.Partition), ∀ w', Ch.holds (mid w2.heap.size w5) w' → w'.cell? ⟨b27, o28 + k * 5 + 3, none⟩ = some (.int .i64 y34.Port), ∀ w', Ch.holds (mid w2.heap.size w5) w' → w'.cell? ⟨b27, o28 + k * 5 + 4, none⟩ = some (.slice y34.Dests.a y34.Dests.xs.length y34.Dests.cap)] [true, true, true, true, true, true, true, false, false] [(1, .pointer (some ⟨z, 0, none⟩)), (7, .pointer (some ⟨w5.heap.size, 0, none⟩)), (9, .pointer (some ⟨w7.heap.size, 0, none⟩)), (87, .int .i64 ((lw5.Channels.xs.length : Nat) : Int)), (88, .int .i64 (k : Int)), (91, .agg (TConfig.arr c)), (96, .agg (TChannelPlace.arr y34)), (97, .int .i64 (k : Int))] rfl (by as_aux_lemma => kernel_rfl) (by as_aux_lemma => kernel_rfl) ⟨rfl, rfl, rfl, rfl, rfl, rfl, rfl, rfl, congrArg (fun a => Value.slice a _ _) ha29, rfl, (by omega), rfl, mid_cell hF31 (hc32 0 _ rfl), mid_cell hF31 (hc32 1 _ rfl), mid_cell hF31 (hc32 2 _ rfl), mid_cell hF31 (hc32 3 _ rfl), mid_cell hF31 (hc32 4 _ rfl), trivial⟩ ?_
             refine w_one 7 (by as_aux_lemma => kernel_rfl) rfl ?_
             refine wo_call [] [] 29 #[.agg (TConfig.arr c), .agg (TChannelPlace.arr y34), .int .i64 (k : Int)] (some 98) (by as_aux_lemma => kernel_rfl) rfl rfl trivial ?_
             intro w35 hw35
             refine (ownedC_calls w35 c y34 k (hc.ext (hw35.ext rfl) (fun _ h => h)) (he33.ext (hw35.extM 2) (fun _ _ => trivial)) (show k < c.Channels.xs.length by omega) hfit (cs_is hIw5 (by omega) hy34)).mono ?_
             rintro e w36 ⟨rfl, hkw36⟩
             have hnw36 : n25 ≤ w36.heap.size := by have := hkw36.size; rw [hw35.size] at this; exact this
             have hs37 := hw35.keeps hkw36
             refine ⟨_, _, rfl, hs37, .inr (fun c hc => hs37.all c (by first | exact hc | exact picks_mem (is := [0, 1, 2, 3, 4]) rfl c hc)), ?_⟩
             refine w_keep [1, 7, 9, 87, 88, 98] [(1, .pointer (some ⟨z, 0, none⟩)), (7, .pointer (some ⟨w5.heap.size, 0, none⟩)), (9, .pointer (some ⟨w7.heap.size, 0, none⟩)), (87, .int .i64 ((lw5.Channels.xs.length : Nat) : Int)), (88, .int .i64 (k : Int)), (98, .bool true)] ?_
             refine w_take [(8, o0)] [1, 7, 9, 87, 88, 99] [] [true, true, true, true, true, true, true, true, true] [(1, .pointer (some ⟨z, 0, none⟩)), (7, .pointer (some ⟨w5.heap.size, 0, none⟩)), (9, .pointer (some ⟨w7.heap.size, 0, none⟩)), (87, .int .i64 ((lw5.Channels.xs.length : Nat) : Int)), (88, .int .i64 (k : Int)), (99, .bool false)] rfl (by as_aux_lemma => kernel_rfl) (by as_aux_lemma => kernel_rfl) trivial ?_
             refine w_done (by as_aux_lemma => kernel_rfl) ?_
             refine e_keep [1, 7, 9, 87, 88, 99] [(1, .pointer (some ⟨z, 0, none⟩)), (7, .pointer (some ⟨w5.heap.size, 0, none⟩)), (9, .pointer (some ⟨w7.heap.size, 0, none⟩)), (87, .int .i64 ((lw5.Channels.xs.length : Nat) : Int)), (88, .int .i64 (k : Int)), (99, .bool false)] ?_
             refine e_seq <| g_false <| g_skip <| e_blk <| e_seq <| g_region <| l_all 2 [(ov (.int .i64 ((k + 1 : Nat) : Int))), o0] [1, 7, 9, 87, 88] [Value.int .i64 (IntKind.i64.wrap (((k : Int) : Int) + 1)) = Value.int .i64 (((k + 1 : Nat) : Int))] [(1, .pointer (some ⟨z, 0, none⟩)), (7, .pointer (some ⟨w5.heap.size, 0, none⟩)), (9, .pointer (some ⟨w7.heap.size, 0, none⟩)), (87, .int .i64 ((lw5.Channels.xs.length : Nat) : Int)), (88, .int .i64 ((k + 1 : Nat) : Int))] ⟨w, w36.heap.size, (qzwu_7 w z c w2 w5 lw5 w7)⟩ ⟨congrArg (Value.int .i64) (wr_i64 (by omega) (by omega) (by omega)), trivial⟩ ?_
             refine e_keep [1, 7, 9, 87, 88] [(1, .pointer (some ⟨z, 0, none⟩)), (7, .pointer (some ⟨w5.heap.size, 0, none⟩)), (9, .pointer (some ⟨w7.heap.size, 0, none⟩)), (87, .int .i64 ((lw5.Channels.xs.length : Nat) : Int)), (88, .int .i64 ((k + 1 : Nat) : Int))] ?_
             refine e_inv (fun a w' hs => ⟨lw5.Channels.xs.length - (k + 1), by omega, w36.heap.size, (k + 1), rfl, by omega, by omega, hs⟩)
           · refine g_region <| l_all 1 [oF] [1, 7, 9, 87, 88, 89] [BF (((k : Int) : Int) < ((lw5.Channels.xs.length : Nat) : Int))] [(1, .pointer (some ⟨z, 0, none⟩)), (7, .pointer (some ⟨w5.heap.size, 0, none⟩)), (9, .pointer (some ⟨w7.heap.size, 0, none⟩)), (87, .int .i64 ((lw5.Channels.xs.length : Nat) : Int)), (88, .int .i64 (k : Int)), (89, .bool false)] ⟨w, n25, (qzwu_7 w z c w2 w5 lw5 w7)⟩ ⟨bf (by omega), trivial⟩ ?_
             refine e_seq <| g_seq <| g_false <| g_exit <| e_out <| e_outI <| e_hit <| e_seq <| g_seq <| g_region <| l_run 3 [(oa [.at 1, .at 1, .at 1, .at 1, .at 1, .at 1, .at 1]), (oa [.at 3, .at 3, .at 3, .at 3]), (oa [.at 4, .at 4, .at 4, .at 4, .at 4, .at 4, .at 4, .at 4, .at 4, .at 4])] [101, 102, 103] [Qb z, Qb z, Qb z, Qb z, Qb z, Qb z, Qb z, Qb w5.heap.size, Qb w5.heap.size, Qb w5.heap.size, Qb w5.heap.size, Qb w7.heap.size, Qb w7.heap.size, Qb w7.heap.size, Qb w7.heap.size, Qb w7.heap.size, Qb w7.heap.size, Qb w7.heap.size, Qb w7.heap.size, Qb w7.heap.size, Qb w7.heap.size] [(101, .agg (TConfig.arr c)), (102, .agg (TLayout.arr lw5)), (103, .agg (wantA c))] ⟨w, n25, (qzwu_7 w z c w2 w5 lw5 w7)⟩ ⟨rfl, rfl, rfl, rfl, rfl, rfl, rfl, rfl, rfl, rfl, rfl, rfl, rfl, rfl, rfl, rfl, rfl, rfl, rfl, rfl, rfl, trivial⟩ ?_
             refine l_call [] [] 30 #[.agg (TConfig.arr c), .agg (TLayout.arr lw5), .agg (wantA c)] (some 104) trivial ?_
             intro w38 hw38
             refine (counted_calls w38 c lw5 (hc.ext (hw38.ext rfl) (fun _ h => h)) (hLw5.ext (hw38.extM 2) (fun _ _ => trivial)) hfit hIw5).mono ?_
             rintro e w39 ⟨rfl, hkw39⟩
             have hnw39 : n25 ≤ w39.heap.size := by have := hkw39.size; rw [hw38.size] at this; exact this
             refine ⟨_, _, rfl, hw38.keeps hkw39, ?_⟩
             refine l_keep [104] [(104, .bool true)] ?_
             refine l_all 1 [o0] [2] [] [(2, .bool true)] ⟨w, w39.heap.size, (qzwu_7 w z c w2 w5 lw5 w7)⟩ trivial ?_
             refine e_seq <| g_ret <| e_ret [] [] (.bool true) trivial ?_
             intro w40 hw40
             exact ⟨rfl, hw40.back rfl (show w.heap.size ≤ w39.heap.size by omega) (List.mem_cons_self ..)⟩
   · refine (of_no w3 c (hc.ext (hw3.ext rfl) (fun _ h => h)) (Bool.eq_false_iff.2 hok4)).mono ?_
     rintro e w41 ⟨rfl, hkw41⟩
     have hnw41 : w2.heap.size ≤ w41.heap.size := by have := hkw41.size; rw [hw3.size] at this; exact this
     refine ⟨_, _, rfl, hw3.keeps hkw41, ?_⟩
     refine l_keep [1, 40] [(1, .pointer (some ⟨z, 0, none⟩)), (40, .tuple #[.agg #[.int .i64 0, .slice none 0 0, .slice none 0 0, .int .i64 0], .int .i64 150])] ?_
     refine l_all 6 [o0, o0, o0, o0, (oa [.at 2, .at 2, .at 2, .at 2]), o0] [1, 7, 8] [Qb w41.heap.size, Qb w41.heap.size, Qb w41.heap.size, Qb w41.heap.size] [(1, .pointer (some ⟨z, 0, none⟩)), (7, .pointer (some ⟨w41.heap.size, 0, none⟩)), (8, .int .i64 150)] ⟨w, w41.heap.size + 1, [(old0 w), (qzwu_6 z c), (qzwu_0 w41)]⟩ ⟨rfl, rfl, rfl, rfl, trivial⟩ ?_
     refine e_seq <| g_seq <| g_seq <| g_region <| l_all 2 [o0, o0] [1, 7, 44] [] [(1, .pointer (some ⟨z, 0, none⟩)), (7, .pointer (some ⟨w41.heap.size, 0, none⟩)), (44, .bool true)] ⟨w, w41.heap.size + 1, [(old0 w), (qzwu_6 z c), (qzwu_0 w41)]⟩ trivial ?_
     refine e_seq <| g_true <| g_seq <| g_region <| l_all 1 [o0] [2] [] [(2, .bool false)] ⟨w, w41.heap.size + 1, [(old0 w), (qzwu_6 z c), (qzwu_0 w41)]⟩ trivial ?_
     refine e_seq <| g_ret <| e_ret [] [] (.bool false) trivial ?_
     intro w42 hw42
     exact absurd (fits_is hfit).1 hok4
 · refine l_all 1 [(ov (.bool true))] [1, 15] [Value.bool (!(fitsB c)) = Value.bool true] [(1, .pointer (some ⟨z, 0, none⟩)), (15, .bool true)] ⟨w, w2.heap.size, [(old0 w), (qzwu_6 z c)]⟩ ⟨by simp [hfit], trivial⟩ ?_
   refine e_seq <| g_true <| g_seq <| g_region <| l_run 1 [(oa [.at 1, .at 1, .at 1, .at 1, .at 1, .at 1, .at 1])] [1, 17] [Qb z, Qb z, Qb z, Qb z, Qb z, Qb z, Qb z] [(1, .pointer (some ⟨z, 0, none⟩)), (17, .agg (TConfig.arr c))] ⟨w, w2.heap.size, [(old0 w), (qzwu_6 z c)]⟩ ⟨rfl, rfl, rfl, rfl, rfl, rfl, rfl, trivial⟩ ?_
   refine l_call [] [] 15 #[.agg (TConfig.arr c)] (some 18) trivial ?_
   intro w43 hw43
   by_cases hok44 : confOk c = true
   · refine (of_yes w43 c (hc.ext (hw43.ext rfl) (fun _ h => h)) hok44).mono ?_
     rintro e w45 ⟨lw45, rfl, hIw45, hLw45, hOw45, hkw45⟩
     have hfw45 := fine_of hok44; have hknw45 := hfw45.kn; have hEw45 := hIw45.fin; have hEbw45 := tAt_bd hfw45 _ (Nat.le_refl _); have hpnw45 := hfw45.pn
     rw [hw43.size] at hLw45 hOw45
     have hnw45 : w2.heap.size ≤ w45.heap.size := by have := hkw45.size; rw [hw43.size] at this; exact this
     refine ⟨_, _, rfl, hw43.keepsM hkw45, ?_⟩
     have hbar := hIw45.bar
     refine l_keep [1, 18] [(1, .pointer (some ⟨z, 0, none⟩)), (18, .tuple #[.agg (TLayout.arr lw45), .int .i64 0])] ?_
     refine l_all 6 [o0, o0, o0, o0, (oa [.at 3, .at 3, .at 3, .at 3]), o0] [1, 3, 4] [Qb w45.heap.size, Qb w45.heap.size, Qb w45.heap.size, Qb w45.heap.size] [(1, .pointer (some ⟨z, 0, none⟩)), (3, .pointer (some ⟨w45.heap.size, 0, none⟩)), (4, .int .i64 0)] ⟨w, w45.heap.size + 1, [(old0 w), (qzwu_6 z c), (mid w2.heap.size w45), (qzwu_3 w45 lw45)]⟩ ⟨rfl, rfl, rfl, rfl, trivial⟩ ?_
     refine e_seq <| g_seq <| g_region <| l_run 1 [(oa [.at 1, .at 1, .at 1, .at 1, .at 1, .at 1, .at 1])] [3, 4, 22] [Qb z, Qb z, Qb z, Qb z, Qb z, Qb z, Qb z] [(3, .pointer (some ⟨w45.heap.size, 0, none⟩)), (4, .int .i64 0), (22, .agg (TConfig.arr c))] ⟨w, w45.heap.size + 1, [(old0 w), (qzwu_6 z c), (mid w2.heap.size w45), (qzwu_3 w45 lw45)]⟩ ⟨rfl, rfl, rfl, rfl, rfl, rfl, rfl, trivial⟩ ?_
     refine l_call [] [] 17 #[.agg (TConfig.arr c)] (some 23) trivial ?_
     intro w46 hw46
     refine (rof_yes w46 c (hc.ext (hw46.ext rfl) (fun _ h => h)) hok44).mono ?_
     rintro e w47 ⟨lw47, rfl, hIw47, hLw47, hOw47, hkw47⟩
     have hfw47 := fine_of hok44; have hknw47 := hfw47.kn; have hEw47 := hIw47.fin; have hEbw47 := tAt_bd hfw47 _ (Nat.le_refl _); have hpnw47 := hfw47.pn
     rw [hw46.size] at hLw47 hOw47
     have hnw47 : w45.heap.size + 1 ≤ w47.heap.size := by have := hkw47.size; rw [hw46.size] at this; exact this
     refine ⟨_, _, rfl, hw46.keepsM hkw47, ?_⟩
     refine l_keep [3, 4, 23] [(3, .pointer (some ⟨w45.heap.size, 0, none⟩)), (4, .int .i64 0), (23, .tuple #[.agg (TLayout.arr lw47), .int .i64 0])] ?_
     refine l_all 6 [o0, o0, o0, o0, (oa [.at 5, .at 5, .at 5, .at 5]), o0] [3, 4, 6] [Qb w47.heap.size, Qb w47.heap.size, Qb w47.heap.size, Qb w47.heap.size] [(3, .pointer (some ⟨w45.heap.size, 0, none⟩)), (4, .int .i64 0), (6, .int .i64 0)] ⟨w, w47.heap.size + 1, [(old0 w), (qzwu_6 z c), (mid w2.heap.size w45), (qzwu_3 w45 lw45), (mid (w45.heap.size + 1) w47), (.blk w47.heap.size (.cells (TLayout.arr lw47) 34 (0, 0)) true)]⟩ ⟨rfl, rfl, rfl, rfl, trivial⟩ ?_
     refine e_seq <| g_seq <| g_region <| l_all 13 [o0, o0, o0, o0, o0, o0, o0, o0, o0, o0] [2] [] [(2, .bool true)] ⟨w, w47.heap.size + 1, [(old0 w), (qzwu_6 z c), (mid w2.heap.size w45), (qzwu_3 w45 lw45), (mid (w45.heap.size + 1) w47), (.blk w47.heap.size (.cells (TLayout.arr lw47) 34 (0, 0)) true)]⟩ trivial ?_
     refine e_seq <| g_ret <| e_ret [] [] (.bool true) trivial ?_
     intro w48 hw48
     exact ⟨rfl, hw48.back rfl (show w.heap.size ≤ w47.heap.size + 1 by omega) (List.mem_cons_self ..)⟩
   · refine (of_no w43 c (hc.ext (hw43.ext rfl) (fun _ h => h)) (Bool.eq_false_iff.2 hok44)).mono ?_
     rintro e w49 ⟨rfl, hkw49⟩
     have hnw49 : w2.heap.size ≤ w49.heap.size := by have := hkw49.size; rw [hw43.size] at this; exact this
     refine ⟨_, _, rfl, hw43.keeps hkw49, ?_⟩
     refine l_keep [1, 18] [(1, .pointer (some ⟨z, 0, none⟩)), (18, .tuple #[.agg #[.int .i64 0, .slice none 0 0, .slice none 0 0, .int .i64 0], .int .i64 150])] ?_
     refine l_all 6 [o0, o0, o0, o0, (oa [.at 2, .at 2, .at 2, .at 2]), o0] [1, 3, 4] [Qb w49.heap.size, Qb w49.heap.size, Qb w49.heap.size, Qb w49.heap.size] [(1, .pointer (some ⟨z, 0, none⟩)), (3, .pointer (some ⟨w49.heap.size, 0, none⟩)), (4, .int .i64 150)] ⟨w, w49.heap.size + 1, [(old0 w), (qzwu_6 z c), (qzwu_1 w49)]⟩ ⟨rfl, rfl, rfl, rfl, trivial⟩ ?_
     refine e_seq <| g_seq <| g_region <| l_run 1 [(oa [.at 1, .at 1, .at 1, .at 1, .at 1, .at 1, .at 1])] [3, 4, 22] [Qb z, Qb z, Qb z, Qb z, Qb z, Qb z, Qb z] [(3, .pointer (some ⟨w49.heap.size, 0, none⟩)), (4, .int .i64 150), (22, .agg (TConfig.arr c))] ⟨w, w49.heap.size + 1, [(old0 w), (qzwu_6 z c), (qzwu_1 w49)]⟩ ⟨rfl, rfl, rfl, rfl, rfl, rfl, rfl, trivial⟩ ?_
     refine l_call [] [] 17 #[.agg (TConfig.arr c)] (some 23) trivial ?_
     intro w50 hw50
     refine (rof_no w50 c (hc.ext (hw50.ext rfl) (fun _ h => h)) (Bool.eq_false_iff.2 hok44)).mono ?_
     rintro e w51 ⟨rfl, hkw51⟩
     have hnw51 : w49.heap.size + 1 ≤ w51.heap.size := by have := hkw51.size; rw [hw50.size] at this; exact this
     refine ⟨_, _, rfl, hw50.keeps hkw51, ?_⟩
     refine l_keep [3, 4, 23] [(3, .pointer (some ⟨w49.heap.size, 0, none⟩)), (4, .int .i64 150), (23, .tuple #[.agg #[.int .i64 0, .slice none 0 0, .slice none 0 0, .int .i64 0], .int .i64 150])] ?_
     refine l_all 6 [o0, o0, o0, o0, (oa [.at 3, .at 3, .at 3, .at 3]), o0] [3, 4, 6] [Qb w51.heap.size, Qb w51.heap.size, Qb w51.heap.size, Qb w51.heap.size] [(3, .pointer (some ⟨w49.heap.size, 0, none⟩)), (4, .int .i64 150), (6, .int .i64 150)] ⟨w, w51.heap.size + 1, [(old0 w), (qzwu_6 z c), (qzwu_1 w49), (qzwu_2 w51)]⟩ ⟨rfl, rfl, rfl, rfl, trivial⟩ ?_
     refine e_seq <| g_seq <| g_region <| l_all 13 [o0, o0, o0, o0, o0, o0, o0, o0, (oa [.at 2]), o0, o0, o0, o0] [2] [Qb w49.heap.size] [(2, .bool true)] ⟨w, w51.heap.size + 1, [(old0 w), (qzwu_6 z c), (qzwu_1 w49), (qzwu_2 w51)]⟩ ⟨rfl, trivial⟩ ?_
     refine e_seq <| g_ret <| e_ret [] [] (.bool true) trivial ?_
     intro w52 hw52
     exact ⟨rfl, hw52.back rfl (show w.heap.size ≤ w51.heap.size + 1 by omega) (List.mem_cons_self ..)⟩

end Go.Proofs.Ytpoeaajkgblkmaa.Ly
