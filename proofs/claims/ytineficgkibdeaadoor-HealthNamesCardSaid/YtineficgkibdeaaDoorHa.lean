/- HealthNames: the walk. No conditions. -/
import Derived.Test.YtineficgkibdeaaDoorEngQ
namespace Go.Proofs.YtineficgkibdeaaDoor.Ly
open Go Go.Proofs.YtineficgkibdeaaDoor.Eng Go.Proofs.YtineficgkibdeaaDoor.Mem
set_option linter.unusedSimpArgs false
set_option linter.unusedVariables false
set_option maxRecDepth 100000
def LaidAt (w : World) : Prop := (∀ (k : Nat) (v : Value), [Value.int .i64 (-1), .int .i64 (-1)][k]? = some v → w.cell? ⟨1, 0 + k, none⟩ = some v) ∧ (∀ (k : Nat) (v : Value), [Value.int .i64 0, .int .i64 0, .int .i64 0][k]? = some v → w.cell? ⟨0, 0 + k, none⟩ = some v)
theorem within_calls (w : World)  : Calls Tryd.prog 21 #[.int .i64 0, .int .i64 1, .int .i64 1024] w fun e w' => e = .returned (.bool false) ∧ Keeps (fun _ => False) w w' := by
 obtain ⟨z, hz⟩ : ∃ z, z = w.heap.size := ⟨_, rfl⟩
 refine calls_G (args := [i6 0, i6 1, i6 1024]) 15 ⟨w, z, [(old0 w)]⟩ Tryd.func21 rfl (by kernel_rfl) (by kernel_rfl) (sat_0 hz) ?_
 refine g_keep [0, 1, 2] [(0, i6 0), (1, i6 1), (2, i6 1024)] ?_
 refine q_cS 9 0 [] [[o0], [o0, o0, o0, o0, o0, o0]] [] [(6, .bool false)] rfl trivial ?_
 refine e_ret [] [] (.bool false) trivial ?_
 intro w1 hw1
 exact ⟨rfl, back0 hw1⟩
theorem unless_calls (w : World)  : Calls Tryd.prog 20 #[.bool false, .int .i64 400, .agg #[.int .i64 (-1), .int .i64 (-1)]] w fun e w' => e = .returned (.agg #[.int .i64 400, .int .i64 (-1), .int .i64 (-1)]) ∧ Keeps (fun _ => False) w w' := by
 obtain ⟨z, hz⟩ : ∃ z, z = w.heap.size := ⟨_, rfl⟩
 refine calls_G (args := [.bool false, i6 400, .agg #[i6 (-1), i6 (-1)]]) 12 ⟨w, z, [(old0 w)]⟩ Tryd.func20 rfl (by kernel_rfl) (by kernel_rfl) (sat_0 hz) ?_
 refine g_keep [0, 1, 2] [(0, .bool false), (1, i6 400), (2, .agg #[i6 (-1), i6 (-1)])] ?_
 refine q_c 17 0 [0] [[o0, o0], [o0], [o0, (an 2 1), o0, (an 3 2)]] [Qb z, Qb z, Qb (z + 1), Qb (z + 1), Qb (z + 1)] [(6, pt (z + 1))] ⟨w, z + 2, [(old0 w), (bk z #[i6 (-1), i6 (-1)] 33), (bk (z + 1) #[i6 400, i6 (-1), i6 (-1)] 64)]⟩ rfl ⟨rfl, rfl, rfl, rfl, rfl, trivial⟩ ?_
 refine e_ret [.at 2, .at 2, .at 2] [Qb (z + 1), Qb (z + 1), Qb (z + 1)] (.agg #[i6 400, i6 (-1), i6 (-1)]) ⟨rfl, rfl, rfl, trivial⟩ ?_
 intro w1 hw1
 exact ⟨rfl, back0 hw1⟩
abbrev q8hi_0 (z : Nat) : Ch := bk (z + 4) #[.func (.func 19) #[] #[pt (z + 3)], .func (.func 22) #[] #[pt (z + 3)], .func (.func 23) #[] #[pt (z + 3)], .func (.func 24) #[] #[pt (z + 3)], .func (.func 25) #[] #[pt (z + 3)]] 62
abbrev q8hi_1 (z : Nat) : Ch := bk (z + 1) #[i6 0, i6 0, i6 0, i6 0, .slice none 0 0, .slice none 0 0, .slice none 0 0] 30
abbrev q8hi_2 (z : Nat) : Ch := bk (z + 3) #[i6 0, i6 0, i6 0, i6 0, .slice none 0 0, .slice none 0 0, .slice none 0 0] 30
abbrev q8hi_3 (z : Nat) : Ch := bk z #[i6 0, i6 0, i6 0, i6 0, .slice none 0 0, .slice none 0 0, .slice none 0 0] 30
abbrev q8hi_4 (n9 : Nat) (z : Nat) : Ch := bk n9 #[.func (.func 32) #[] #[pt (z + 3)]] 62
abbrev q8hi_5 (w25 : World) : Ch := .blk w25.heap.size (.cells #[i6 400, i6 (-1), i6 (-1)] 64 (0, 0)) true
abbrev q8hi_6 (n16 : Nat) : Ch := bk n16 #[i6 400, i6 (-1), i6 (-1)] 64
abbrev q8hi_7 (z : Nat) : Ch := bk (z + 2) #[i6 (-1), i6 (-1)] 33
abbrev q8hi_8 (z : Nat) : Ch := bk (z + 2) #[i6 0, i6 0] 33
abbrev q8hi_9 (z : Nat) (b17 : Nat) (cp11 : Nat) : Ch := rowL z 62 1 (fun v : Value => [v]) (.slice (some ⟨b17, 0, none⟩) 6 cp11) (([(.func (.func 19) #[] #[pt (z + 3)] : Value), (.func (.func 22) #[] #[pt (z + 3)] : Value), (.func (.func 23) #[] #[pt (z + 3)] : Value), (.func (.func 24) #[] #[pt (z + 3)] : Value), (.func (.func 25) #[] #[pt (z + 3)] : Value)] : List Value) ++ [(.func (.func 32) #[] #[pt (z + 3)] : Value)])
abbrev q8hi_10 (z : Nat) (a10 : Option Addr) (cp11 : Nat) : Ch := rowL z 62 1 (fun v : Value => [v]) (.slice a10 6 cp11) (([(.func (.func 19) #[] #[pt (z + 3)] : Value), (.func (.func 22) #[] #[pt (z + 3)] : Value), (.func (.func 23) #[] #[pt (z + 3)] : Value), (.func (.func 24) #[] #[pt (z + 3)] : Value), (.func (.func 25) #[] #[pt (z + 3)] : Value)] : List Value) ++ [(.func (.func 32) #[] #[pt (z + 3)] : Value)])
abbrev q8hi_11 (z : Nat) : Nat × Value := (3, .slice (some ⟨z + 4, 0, none⟩) 5 5)
abbrev q8hi_12 (z : Nat) : Nat × Value := (3, pt (z + 2))
abbrev q8hi_13 (z : Nat) : Nat × Value := (1, pt (z + 3))
abbrev q8hi_14 (n16 : Nat) : Nat × Value := (1, pt n16)
abbrev q8hi_15 (w : World) (z : Nat) (b17 : Nat) (cp11 : Nat) (n9 : Nat) (n16 : Nat) : List Ch := [(old0 w), (q8hi_3 z), (q8hi_1 z), (q8hi_8 z), (q8hi_2 z), (q8hi_9 z b17 cp11), (q8hi_4 n9 z), (bk n16 #[i6 0, i6 0, i6 0] 64)]
abbrev q8hi_16 (w : World) (z : Nat) : List Ch := [(old0 w), (q8hi_3 z), (q8hi_1 z), (q8hi_8 z), (q8hi_2 z), (q8hi_0 z)]
theorem names_calls (w : World) (hL : LaidAt w) : Calls Tryd.prog 3 #[] w fun e w' => e = .returned (.bool true) ∧ Keeps (fun _ => False) w w' := by
 obtain ⟨z, hz⟩ : ∃ z, z = w.heap.size := ⟨_, rfl⟩
 refine calls_G (args := []) 34 ⟨w, z, [(old0 w)]⟩ Tryd.func3 rfl (by kernel_rfl) (by kernel_rfl) (sat_0 hz) ?_
 refine g_keep [] [] ?_
 refine q_cS 6 1 [] [[o0], [o0]] [] [(6, .agg #[i6 0, i6 0, i6 0, i6 0, .slice none 0 0, .slice none 0 0, .slice none 0 0])] rfl trivial ?_
 refine l_call [] [] 4 #[.agg #[i6 0, i6 0, i6 0, i6 0, .slice none 0 0, .slice none 0 0, .slice none 0 0]] (some 7) trivial ?_
 intro w1 hw1
 refine calls_G (args := [.agg #[i6 0, i6 0, i6 0, i6 0, .slice none 0 0, .slice none 0 0, .slice none 0 0]]) 65 ⟨w, z, [(old0 w)]⟩ Tryd.func4 rfl (by kernel_rfl) (by kernel_rfl) hw1 ?_
 refine q_c 7 1 [] [[o0, o0, o0], [(an 7 1)]] [Qb z, Qb z, Qb z, Qb z, Qb z, Qb z, Qb z] [(1, pt z), (12, .agg #[i6 0, i6 0, i6 0, i6 0, .slice none 0 0, .slice none 0 0, .slice none 0 0])] ⟨w, z + 1, [(old0 w), (q8hi_3 z)]⟩ rfl ⟨rfl, rfl, rfl, rfl, rfl, rfl, rfl, trivial⟩ ?_
 refine l_call [] [] 5 #[.agg #[i6 0, i6 0, i6 0, i6 0, .slice none 0 0, .slice none 0 0, .slice none 0 0]] (some 13) trivial ?_
 intro w2 hw2
 refine calls_G (args := [.agg #[i6 0, i6 0, i6 0, i6 0, .slice none 0 0, .slice none 0 0, .slice none 0 0]]) 25 ⟨w, z + 1, [(old0 w), (q8hi_3 z)]⟩ Tryd.func5 rfl (by kernel_rfl) (by kernel_rfl) hw2 ?_
 refine q_c 7 1 [] [[o0, o0, o0], [(an 7 2)]] [Qb (z + 1), Qb (z + 1), Qb (z + 1), Qb (z + 1), Qb (z + 1), Qb (z + 1), Qb (z + 1)] [(q8hi_12 z), (7, .agg #[i6 0, i6 0, i6 0, i6 0, .slice none 0 0, .slice none 0 0, .slice none 0 0])] ⟨w, z + 3, [(old0 w), (q8hi_3 z), (q8hi_1 z), (q8hi_8 z)]⟩ rfl ⟨rfl, rfl, rfl, rfl, rfl, rfl, rfl, trivial⟩ ?_
 refine l_call [] [] 8 #[.agg #[i6 0, i6 0, i6 0, i6 0, .slice none 0 0, .slice none 0 0, .slice none 0 0]] (some 8) trivial ?_
 intro w3 hw3
 refine calls_G (args := [.agg #[i6 0, i6 0, i6 0, i6 0, .slice none 0 0, .slice none 0 0, .slice none 0 0]]) 50 ⟨w, z + 3, [(old0 w), (q8hi_3 z), (q8hi_1 z), (q8hi_8 z)]⟩ Tryd.func8 rfl (by kernel_rfl) (by kernel_rfl) hw3 ?_
 refine q_c 14 0 [] [[o0, o0], [o0, o0, o0, o0, o0, o0, o0], [o0, (a1 4), o0, o0]] [Qb (z + 3)] [(q8hi_13 z), (q8hi_11 z), (15, i6 0), (16, i6 0)] ⟨w, z + 5, (q8hi_16 w z)⟩ rfl ⟨rfl, trivial⟩ ?_
 refine g_loop (fun m a w' => ∃ (n5 : Nat), m = 0 ∧ z + 5 ≤ n5 ∧ St 50 [(q8hi_13 z), (q8hi_11 z), (15, i6 0), (16, i6 0)] [] ⟨w, n5, (q8hi_16 w z)⟩ a w') (0) ?_ ?_
 · intro a w' hs; exact ⟨(z + 5), rfl, Nat.le_refl _, hs⟩
 · rintro m a w' ⟨n5, rfl, hn4, hs⟩
   refine (?_ : G Tryd.prog 50 [(q8hi_13 z), (q8hi_11 z), (15, i6 0), (16, i6 0)] [] ⟨w, n5, (q8hi_16 w z)⟩ _ _ _) a w' hs
   clear hs a w'
   refine q_cS 17 0 [0] [[o0], [o0, (a1 4), o0, o0]] [Qb (z + 3)] [(q8hi_13 z), (q8hi_11 z), (26, i6 0), (27, i6 0)] rfl ⟨rfl, trivial⟩ ?_
   refine g_loop (fun m a w' => ∃ (n7 : Nat), m = 0 ∧ n5 ≤ n7 ∧ St 50 [(q8hi_13 z), (q8hi_11 z), (26, i6 0), (27, i6 0)] [] ⟨w, n7, (q8hi_16 w z)⟩ a w') (0) ?_ ?_
   · intro a w' hs; exact ⟨n5, rfl, Nat.le_refl _, hs⟩
   · rintro m a w' ⟨n7, rfl, hn6, hs⟩
     refine (?_ : G Tryd.prog 50 [(q8hi_13 z), (q8hi_11 z), (26, i6 0), (27, i6 0)] [] ⟨w, n7, (q8hi_16 w z)⟩ _ _ _) a w' hs
     clear hs a w'
     refine q_cS 17 0 [0] [[o0], [o0, (a1 4), o0, o0]] [Qb (z + 3)] [(q8hi_13 z), (q8hi_11 z), (37, i6 0), (38, i6 0)] rfl ⟨rfl, trivial⟩ ?_
     refine g_loop (fun m a w' => ∃ (n9 : Nat), m = 0 ∧ n7 ≤ n9 ∧ St 50 [(q8hi_13 z), (q8hi_11 z), (37, i6 0), (38, i6 0)] [] ⟨w, n9, (q8hi_16 w z)⟩ a w') (0) ?_ ?_
     · intro a w' hs; exact ⟨n7, rfl, Nat.le_refl _, hs⟩
     · rintro m a w' ⟨n9, rfl, hn8, hs⟩
       refine (?_ : G Tryd.prog 50 [(q8hi_13 z), (q8hi_11 z), (37, i6 0), (38, i6 0)] [] ⟨w, n9, (q8hi_16 w z)⟩ _ _ _) a w' hs
       clear hs a w'
       refine q_c 13 3 [0] [[o0], [o0, o0, o0]] [] [(46, .slice (some ⟨z + 4, 0, none⟩) 5 5), (48, .slice (some ⟨n9, 0, none⟩) 1 1)] ⟨w, n9 + 1, [(old0 w), (q8hi_3 z), (q8hi_1 z), (q8hi_8 z), (q8hi_2 z), (q8hi_0 z), (q8hi_4 n9 z)]⟩ rfl trivial ?_
       refine l_blkrow 5 (z + 4) z 62 1 (fun v : Value => [v]) ([(.func (.func 19) #[] #[pt (z + 3)] : Value), (.func (.func 22) #[] #[pt (z + 3)] : Value), (.func (.func 23) #[] #[pt (z + 3)] : Value), (.func (.func 24) #[] #[pt (z + 3)] : Value), (.func (.func 25) #[] #[pt (z + 3)] : Value)] : List Value) #[.func (.func 19) #[] #[pt (z + 3)], .func (.func 22) #[] #[pt (z + 3)], .func (.func 23) #[] #[pt (z + 3)], .func (.func 24) #[] #[pt (z + 3)], .func (.func 25) #[] #[pt (z + 3)]] (by omega) (?_ : Lg _ _ _ _ ⟨w, n9 + 1, [(old0 w), (q8hi_3 z), (q8hi_1 z), (q8hi_8 z), (q8hi_2 z), (rowL z 62 1 (fun v : Value => [v]) (.slice (some ⟨z + 4, 0, none⟩) 5 5) ([(.func (.func 19) #[] #[pt (z + 3)] : Value), (.func (.func 22) #[] #[pt (z + 3)] : Value), (.func (.func 23) #[] #[pt (z + 3)] : Value), (.func (.func 24) #[] #[pt (z + 3)] : Value), (.func (.func 25) #[] #[pt (z + 3)] : Value)] : List Value)), (q8hi_4 n9 z)]⟩ _ _ _ _)
       refine l_push z 5 6 ([(.func (.func 19) #[] #[pt (z + 3)] : Value), (.func (.func 22) #[] #[pt (z + 3)] : Value), (.func (.func 23) #[] #[pt (z + 3)] : Value), (.func (.func 24) #[] #[pt (z + 3)] : Value), (.func (.func 25) #[] #[pt (z + 3)] : Value)] : List Value) [(.func (.func 32) #[] #[pt (z + 3)] : Value)] (fun v : Value => [v]) 62 1 8 (.slice (some ⟨z + 4, 0, none⟩) 5 5) n9 1 1 #[.func (.func 32) #[] #[pt (z + 3)]] 62 (0, 0) true (some 49) (by simp only [List.length_cons, List.length_nil]; omega) (show z ≤ n9 + 1 by omega) (fun a10 cp11 n12 (hn13 : n9 + 1 ≤ n12) => ?_)
       refine q_rS 3 0 [] [[o0]] [] [(2, .slice a10 6 cp11)] rfl trivial ?_
       refine e_ret [] [] (.slice a10 6 cp11) trivial ?_
       intro w14 hw14
       refine ⟨_, _, rfl, hw14, ?_⟩
       refine q_rS 3 0 [] [[o0, o0]] [] [(q8hi_12 z), (8, .slice a10 6 cp11), (9, i6 6), (10, i6 0)] rfl trivial ?_
       refine g_loop (fun m a w' => ∃ (n16 : Nat), m = 0 ∧ n12 ≤ n16 ∧ St 25 [(q8hi_12 z), (8, .slice a10 6 cp11), (9, i6 6), (10, i6 0)] [] ⟨w, n16, [(old0 w), (q8hi_3 z), (q8hi_1 z), (q8hi_8 z), (q8hi_2 z), (q8hi_10 z a10 cp11), (q8hi_4 n9 z)]⟩ a w') (0) ?_ ?_
       · intro a w' hs; exact ⟨n12, rfl, Nat.le_refl _, hs⟩
       · rintro m a w' ⟨n16, rfl, hn15, hs⟩
         refine (?_ : G Tryd.prog 25 [(q8hi_12 z), (8, .slice a10 6 cp11), (9, i6 6), (10, i6 0)] [] ⟨w, n16, [(old0 w), (q8hi_3 z), (q8hi_1 z), (q8hi_8 z), (q8hi_2 z), (q8hi_10 z a10 cp11), (q8hi_4 n9 z)]⟩ _ _ _) a w' hs
         clear hs a w'
         refine q_cS 11 0 [1] [[o0]] [] [(q8hi_12 z), (8, .slice a10 6 cp11), (9, i6 6), (10, i6 0), (11, .bool true)] rfl trivial ?_
         refine g_rowat (base := z) (e := 62) (sz := 1) (cells := (fun v : Value => [v])) (a := a10) (n := 6) (cap := cp11) (xs := (([(.func (.func 19) #[] #[pt (z + 3)] : Value), (.func (.func 22) #[] #[pt (z + 3)] : Value), (.func (.func 23) #[] #[pt (z + 3)] : Value), (.func (.func 24) #[] #[pt (z + 3)] : Value), (.func (.func 25) #[] #[pt (z + 3)] : Value)] : List Value) ++ [(.func (.func 32) #[] #[pt (z + 3)] : Value)])) 5 (by exact (show 0 < 6 by decide)) (fun b17 hg18 hb19 => ?_)
         subst hg18
         refine q_cS 5 1 [] [[(oi 0), (oa [.via 5 (.func (.func 19) #[] #[pt (z + 3)])]), o0], [o0]] [(0 : Int) = ((0 : Nat) : Int), 0 < 6, (none : Option Nat) = none, ∀ w', Ch.holds (q8hi_9 z b17 cp11) w' → w'.cell? ⟨b17, 0, none⟩ = some (.func (.func 19) #[] #[pt (z + 3)])] [(q8hi_12 z), (8, .slice (some ⟨b17, 0, none⟩) 6 cp11), (9, i6 6), (10, i6 0), (14, .func (.func 19) #[] #[pt (z + 3)])] rfl ⟨rfl, (by omega), rfl, rowL_cell (sz := 1) (j := 0) (k := 0) (fun _ => rfl) (by exact (show 0 < 6 by decide)) (by rfl), trivial⟩ ?_
         refine l_call [] [] 19 #[pt (z + 3)] (some 15) trivial ?_
         intro w20 hw20
         refine calls_G (args := [pt (z + 3)]) 7 ⟨w, n16, [(old0 w), (q8hi_3 z), (q8hi_1 z), (q8hi_8 z), (q8hi_2 z), (q8hi_9 z b17 cp11), (q8hi_4 n9 z)]⟩ Tryd.func19 rfl (by kernel_rfl) (by kernel_rfl) hw20 ?_
         refine q_c 5 0 [] [[o0]] [] [(0, pt (z + 3)), (q8hi_14 n16)] ⟨w, n16 + 1, (q8hi_15 w z b17 cp11 n9 n16)⟩ rfl trivial ?_
         refine g_draw 5 [0, 1, 2, 3, 4, 5, 6, 7] (q8hi_15 w z b17 cp11 n9 n16) rfl rfl ?_
         refine w_take [(0, o0), (1, (a1 4)), (3, (oa [.via 0 (i6 (-1)), .via 0 (i6 (-1))]))] [1, 3, 5] [Qb (z + 3), Old w 1 0 (i6 (-1)), Old w 1 1 (i6 (-1))] [true, true, false, true, false, false] [(q8hi_14 n16), (3, i6 0), (5, .agg #[i6 (-1), i6 (-1)])] rfl (by as_aux_lemma => kernel_rfl) (by as_aux_lemma => kernel_rfl) ⟨rfl, old_cell' (hL.1 0 _ rfl), old_cell' (hL.1 1 _ rfl), trivial⟩ ?_
         refine w_one 2 (by as_aux_lemma => kernel_rfl) rfl ?_
         refine wo_call [] [] 21 #[i6 0, i6 1, i6 1024] (some 4) (by as_aux_lemma => kernel_rfl) rfl rfl trivial ?_
         intro w21 hw21
         refine (within_calls w21 ).mono ?_
         rintro e w22 ⟨rfl, hkw22⟩
         have hnw22 : n16 + 1 ≤ w22.heap.size := size_of hw21 hkw22
         have hs23 := hw21.keeps hkw22
         refine ⟨_, _, rfl, hs23, .inr (fun c hc => hs23.all c (by first | exact hc | exact picks_mem (is := [0, 1, 2, 3, 4, 5, 6, 7]) rfl c hc)), ?_⟩
         refine w_keep [1, 5, 4] [(q8hi_14 n16), (5, .agg #[i6 (-1), i6 (-1)]), (4, .bool false)] ?_
         refine w_one 4 (by as_aux_lemma => kernel_rfl) rfl ?_
         refine wo_call [] [] 20 #[.bool false, i6 400, .agg #[i6 (-1), i6 (-1)]] (some 6) (by as_aux_lemma => kernel_rfl) rfl rfl trivial ?_
         intro w24 hw24
         refine (unless_calls w24 ).mono ?_
         rintro e w25 ⟨rfl, hkw25⟩
         have hnw25 : w22.heap.size ≤ w25.heap.size := size_of hw24 hkw25
         have hs26 := hw24.keeps hkw25
         refine ⟨_, _, rfl, hs26, .inr (fun c hc => hs26.all c (by first | exact hc | exact picks_mem (is := [0, 1, 2, 3, 4, 5, 6, 7]) rfl c hc)), ?_⟩
         refine w_keep [1, 6] [(q8hi_14 n16), (6, .agg #[i6 400, i6 (-1), i6 (-1)])] ?_
         refine w_one 5 (by as_aux_lemma => kernel_rfl) rfl ?_
         refine wo_eff (an 3 7) [1] [Qb n16, Qb n16, Qb n16] [(q8hi_14 n16)] ⟨w, w25.heap.size, [(old0 w), (q8hi_3 z), (q8hi_1 z), (q8hi_8 z), (q8hi_2 z), (q8hi_9 z b17 cp11), (q8hi_4 n9 z), (q8hi_6 n16)]⟩ [] (by as_aux_lemma => kernel_rfl) rfl ⟨rfl, rfl, rfl, trivial⟩ (.inl rfl) ?_
         refine w_free 6 [0, 1, 2, 3, 4, 5, 6, 7] [(old0 w), (q8hi_3 z), (q8hi_1 z), (q8hi_8 z), (q8hi_2 z), (q8hi_9 z b17 cp11), (q8hi_4 n9 z), (q8hi_6 n16)] rfl rfl ?_
         refine w_done (by as_aux_lemma => kernel_rfl) ?_
         refine e_keep [1] [(q8hi_14 n16)] ?_
         refine e_seq <| g_ret <| e_ret [.at 7, .at 7, .at 7] [Qb n16, Qb n16, Qb n16] (.agg #[i6 400, i6 (-1), i6 (-1)]) ⟨rfl, rfl, rfl, trivial⟩ ?_
         intro w27 hw27
         refine ⟨_, _, rfl, hw27, ?_⟩
         refine q_r 8 0 [1] [[o0, (an 3 8)], [(an 3 8), (oa [.via 0 (i6 0), .via 0 (i6 0), .via 0 (i6 0)]), ⟨.seq false, none⟩]] [Qb w25.heap.size, Qb w25.heap.size, Qb w25.heap.size, Qb w25.heap.size, Qb w25.heap.size, Qb w25.heap.size, Old w 0 0 (i6 0), Old w 0 1 (i6 0), Old w 0 2 (i6 0), ((400 : Int) == (0 : Int) && (((-1 : Int) == (0 : Int) && ((-1 : Int) == (0 : Int) && true)) && true)) = false] [(q8hi_12 z), (8, .slice (some ⟨b17, 0, none⟩) 6 cp11), (9, i6 6), (10, i6 0), (6, pt w25.heap.size), (18, .bool true)] ⟨w, w25.heap.size + 1, [(old0 w), (q8hi_3 z), (q8hi_1 z), (q8hi_8 z), (q8hi_2 z), (q8hi_9 z b17 cp11), (q8hi_4 n9 z), (q8hi_6 n16), (q8hi_5 w25)]⟩ rfl ⟨rfl, rfl, rfl, rfl, rfl, rfl, old_cell' (hL.2 0 _ rfl), old_cell' (hL.2 1 _ rfl), old_cell' (hL.2 2 _ rfl), rfl, trivial⟩ ?_
         refine g_draw 5 [0, 1, 2, 3, 4, 5, 6, 7, 8] [(old0 w), (q8hi_3 z), (q8hi_1 z), (q8hi_8 z), (q8hi_2 z), (q8hi_9 z b17 cp11), (q8hi_4 n9 z), (q8hi_6 n16), (q8hi_5 w25)] rfl rfl ?_
         refine w_take [(0, o0), (1, (a1 8)), (2, o0), (3, (an 2 8)), (4, o0)] [3, 22, 2] [Qb w25.heap.size, Qb w25.heap.size, Qb w25.heap.size] [true, true, true, true, true, false] [(q8hi_12 z), (22, .agg #[i6 (-1), i6 (-1)]), (2, i6 400)] rfl (by as_aux_lemma => kernel_rfl) (by as_aux_lemma => kernel_rfl) ⟨rfl, rfl, rfl, trivial⟩ ?_
         refine w_one 5 (by as_aux_lemma => kernel_rfl) rfl ?_
         refine wo_eff (an 2 3) [3, 2] [Qb (z + 2), Qb (z + 2)] [(q8hi_12 z), (2, i6 400)] ⟨w, w25.heap.size + 1, [(old0 w), (q8hi_3 z), (q8hi_1 z), (q8hi_7 z), (q8hi_2 z), (q8hi_9 z b17 cp11), (q8hi_4 n9 z), (q8hi_6 n16), (q8hi_5 w25)]⟩ [] (by as_aux_lemma => kernel_rfl) rfl ⟨rfl, rfl, trivial⟩ (.inl rfl) ?_
         refine w_free 6 [0, 1, 2, 3, 4, 5, 6, 7, 8] [(old0 w), (q8hi_3 z), (q8hi_1 z), (q8hi_7 z), (q8hi_2 z), (q8hi_9 z b17 cp11), (q8hi_4 n9 z), (q8hi_6 n16), (q8hi_5 w25)] rfl rfl ?_
         refine w_done (by as_aux_lemma => kernel_rfl) ?_
         refine e_keep [3, 2] [(q8hi_12 z), (2, i6 400)] ?_
         refine e_seq <| g_ret <| e_ret [.at 3, .at 3] [Qb (z + 2), Qb (z + 2)] (.tuple #[i6 400, .agg #[i6 (-1), i6 (-1)]]) ⟨rfl, rfl, trivial⟩ ?_
         intro w28 hw28
         refine ⟨_, _, rfl, hw28, ?_⟩
         refine q_r 12 0 [1] [[o0, o0, o0, o0, o0, (an 2 9)], [o0, o0], [o0, o0]] [Qb (w25.heap.size + 1), Qb (w25.heap.size + 1)] [(2, .pointer none), (3, i6 232)] ⟨w, w25.heap.size + 2, [(old0 w), (q8hi_3 z), (q8hi_1 z), (q8hi_7 z), (q8hi_2 z), (q8hi_9 z b17 cp11), (q8hi_4 n9 z), (q8hi_6 n16), (q8hi_5 w25), (bk (w25.heap.size + 1) #[i6 (-1), i6 (-1)] 33)]⟩ rfl ⟨rfl, rfl, trivial⟩ ?_
         refine e_ret [] [] (.tuple #[.pointer none, i6 232]) trivial ?_
         intro w29 hw29
         refine ⟨_, _, rfl, hw29, ?_⟩
         refine q_rS 15 0 [] [[o0, o0, o0, o0, o0], [o0, o0, o0, o0, o0, o0, o0, o0, o0, o0, o0, o0, o0], [o0], [o0, o0, o0, o0, o0, o0, o0, o0, o0, o0, o0, o0, o0]] [] [(0, .bool true)] rfl trivial ?_
         refine e_ret [] [] (.bool true) trivial ?_
         intro w30 hw30
         exact ⟨rfl, back0 hw30⟩

end Go.Proofs.YtineficgkibdeaaDoor.Ly
