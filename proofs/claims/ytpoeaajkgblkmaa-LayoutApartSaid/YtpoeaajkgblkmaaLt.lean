/- layout: fits. No conditions. -/
import Derived.Test.YtpoeaajkgblkmaaLp
namespace Go.Proofs.Ytpoeaajkgblkmaa.Ly
open Go Go.Proofs.Ytpoeaajkgblkmaa.Eng Go.Proofs.Ytpoeaajkgblkmaa.Mem
set_option linter.unusedSimpArgs false
set_option linter.unusedVariables false
set_option maxRecDepth 100000
def fitsB (c : TConfig) : Bool := confOk c && (decide (c.Frames ≤ 1024) && decide (tAt c c.Partitions.xs.length ≤ c.Frames))
abbrev q0ia_0 (w9 : World) : Ch := .blk w9.heap.size (.cells #[.int .i64 0, .slice none 0 0, .slice none 0 0, .int .i64 0] 34 (0, 0)) true
abbrev q0ia_1 (w3 : World) (lw3 : TLayout) : Ch := .blk w3.heap.size (.cells (TLayout.arr lw3) 34 (0, 0)) true
abbrev q0ia_2 (z : Nat) (c : TConfig) : Ch := .blk z (.cells (TConfig.arr c) 30 (0, 0)) true
theorem fits_calls (w : World) (c : TConfig) (hc : TConfig.ok Any w c) : Calls Try.prog 25 #[.agg (TConfig.arr c)] w fun e w' => e = .returned (.bool (fitsB c)) ∧ Keeps (fun _ => False) w w' := by
 obtain ⟨z, hz⟩ : ∃ z, z = w.heap.size := ⟨_, rfl⟩
 refine calls_G (args := [.agg (TConfig.arr c)]) 24 ⟨w, z, [(old0 w)]⟩ Try.func25 rfl (by kernel_rfl) (by kernel_rfl) (sat_0 hz) ?_
 refine g_keep [0] [(0, .agg (TConfig.arr c))] ?_
 refine g_seq <| g_region <| l_all 2 [o0, o0] [1] [] [(1, .pointer (some ⟨z, 0, none⟩))] ⟨w, z + 1, [(old0 w), (q0ia_2 z c)]⟩ trivial ?_
 refine e_seq <| g_seq <| g_region <| l_run 1 [(oa [.at 1, .at 1, .at 1, .at 1, .at 1, .at 1, .at 1])] [1, 6] [Qb z, Qb z, Qb z, Qb z, Qb z, Qb z, Qb z] [(1, .pointer (some ⟨z, 0, none⟩)), (6, .agg (TConfig.arr c))] ⟨w, z + 1, [(old0 w), (q0ia_2 z c)]⟩ ⟨rfl, rfl, rfl, rfl, rfl, rfl, rfl, trivial⟩ ?_
 refine l_call [] [] 17 #[.agg (TConfig.arr c)] (some 7) trivial ?_
 intro w1 hw1
 by_cases hok2 : confOk c = true
 · refine (rof_yes w1 c (hc.ext (hw1.ext rfl) (fun _ h => h)) hok2).mono ?_
   rintro e w3 ⟨lw3, rfl, hIw3, hLw3, hOw3, hkw3⟩
   have hfw3 := fine_of hok2; have hknw3 := hfw3.kn; have hEw3 := hIw3.fin; have hEbw3 := tAt_bd hfw3 _ (Nat.le_refl _); have hpnw3 := hfw3.pn
   rw [hw1.size] at hLw3 hOw3
   have hnw3 : z + 1 ≤ w3.heap.size := by have := hkw3.size; rw [hw1.size] at this; exact this
   refine ⟨_, _, rfl, hw1.keepsM hkw3, ?_⟩
   refine l_keep [1, 7] [(1, .pointer (some ⟨z, 0, none⟩)), (7, .tuple #[.agg (TLayout.arr lw3), .int .i64 0])] ?_
   refine l_all 6 [o0, o0, o0, o0, (oa [.at 3, .at 3, .at 3, .at 3]), o0] [1, 3, 4] [Qb w3.heap.size, Qb w3.heap.size, Qb w3.heap.size, Qb w3.heap.size] [(1, .pointer (some ⟨z, 0, none⟩)), (3, .pointer (some ⟨w3.heap.size, 0, none⟩)), (4, .int .i64 0)] ⟨w, w3.heap.size + 1, [(old0 w), (q0ia_2 z c), (mid (z + 1) w3), (q0ia_1 w3 lw3)]⟩ ⟨rfl, rfl, rfl, rfl, trivial⟩ ?_
   refine e_seq <| g_seq ?_
   by_cases h4 : (1024 : Int) < c.Frames
   · refine g_region <| l_all 15 [o0, o0, o0, o0, (oa [.at 1]), oF, o0, o0, o0, o0] [2] [Qb z, BF ((c.Frames : Int) ≤ 1024)] [(2, .bool false)] ⟨w, w3.heap.size + 1, [(old0 w), (q0ia_2 z c), (mid (z + 1) w3), (q0ia_1 w3 lw3)]⟩ ⟨rfl, bf (by omega), trivial⟩ ?_
     refine e_seq <| g_ret <| e_ret [] [] (.bool false) trivial ?_
     intro w5 hw5
     refine ⟨congrArg (fun b => Ending.returned (Value.bool b)) (Eq.symm (?_ : fitsB c = false)), hw5.back rfl (show w.heap.size ≤ w3.heap.size + 1 by omega) (List.mem_cons_self ..)⟩
     unfold fitsB; rw [hok2]; simp only [Bool.true_and]; simp; omega
   · by_cases h6 : (c.Frames : Int) < lw3.End
     · refine g_region <| l_all 15 [o0, o0, o0, o0, (oa [.at 1]), oT, o0, o0, o0, (oa [.at 3]), o0, (oa [.at 1]), oF, o0, o0] [2] [Qb z, BT ((c.Frames : Int) ≤ 1024), Qb w3.heap.size, Qb z, BF ((lw3.End : Int) ≤ c.Frames)] [(2, .bool false)] ⟨w, w3.heap.size + 1, [(old0 w), (q0ia_2 z c), (mid (z + 1) w3), (q0ia_1 w3 lw3)]⟩ ⟨rfl, bt (by omega), rfl, rfl, bf (by omega), trivial⟩ ?_
       refine e_seq <| g_ret <| e_ret [] [] (.bool false) trivial ?_
       intro w7 hw7
       refine ⟨congrArg (fun b => Ending.returned (Value.bool b)) (Eq.symm (?_ : fitsB c = false)), hw7.back rfl (show w.heap.size ≤ w3.heap.size + 1 by omega) (List.mem_cons_self ..)⟩
       unfold fitsB; rw [hok2]; simp only [Bool.true_and]; simp; omega
     · refine g_region <| l_all 15 [o0, o0, o0, o0, (oa [.at 1]), oT, o0, o0, o0, (oa [.at 3]), o0, (oa [.at 1]), oT, o0, o0] [2] [Qb z, BT ((c.Frames : Int) ≤ 1024), Qb w3.heap.size, Qb z, BT ((lw3.End : Int) ≤ c.Frames)] [(2, .bool true)] ⟨w, w3.heap.size + 1, [(old0 w), (q0ia_2 z c), (mid (z + 1) w3), (q0ia_1 w3 lw3)]⟩ ⟨rfl, bt (by omega), rfl, rfl, bt (by omega), trivial⟩ ?_
       refine e_seq <| g_ret <| e_ret [] [] (.bool true) trivial ?_
       intro w8 hw8
       refine ⟨congrArg (fun b => Ending.returned (Value.bool b)) (Eq.symm (?_ : fitsB c = true)), hw8.back rfl (show w.heap.size ≤ w3.heap.size + 1 by omega) (List.mem_cons_self ..)⟩
       unfold fitsB; rw [hok2]; simp only [Bool.true_and]; simp; omega
 · refine (rof_no w1 c (hc.ext (hw1.ext rfl) (fun _ h => h)) (Bool.eq_false_iff.2 hok2)).mono ?_
   rintro e w9 ⟨rfl, hkw9⟩
   have hnw9 : z + 1 ≤ w9.heap.size := by have := hkw9.size; rw [hw1.size] at this; exact this
   refine ⟨_, _, rfl, hw1.keeps hkw9, ?_⟩
   refine l_keep [1, 7] [(1, .pointer (some ⟨z, 0, none⟩)), (7, .tuple #[.agg #[.int .i64 0, .slice none 0 0, .slice none 0 0, .int .i64 0], .int .i64 150])] ?_
   refine l_all 6 [o0, o0, o0, o0, (oa [.at 2, .at 2, .at 2, .at 2]), o0] [1, 3, 4] [Qb w9.heap.size, Qb w9.heap.size, Qb w9.heap.size, Qb w9.heap.size] [(1, .pointer (some ⟨z, 0, none⟩)), (3, .pointer (some ⟨w9.heap.size, 0, none⟩)), (4, .int .i64 150)] ⟨w, w9.heap.size + 1, [(old0 w), (q0ia_2 z c), (q0ia_0 w9)]⟩ ⟨rfl, rfl, rfl, rfl, trivial⟩ ?_
   refine e_seq <| g_seq <| g_region <| l_all 15 [o0, o0, o0, o0, o0, o0, o0] [2] [] [(2, .bool false)] ⟨w, w9.heap.size + 1, [(old0 w), (q0ia_2 z c), (q0ia_0 w9)]⟩ trivial ?_
   refine e_seq <| g_ret <| e_ret [] [] (.bool false) trivial ?_
   intro w10 hw10
   refine ⟨congrArg (fun b => Ending.returned (Value.bool b)) (Eq.symm (?_ : fitsB c = false)), hw10.back rfl (show w.heap.size ≤ w9.heap.size + 1 by omega) (List.mem_cons_self ..)⟩
   unfold fitsB; rw [Bool.eq_false_iff.2 hok2]; rfl

end Go.Proofs.Ytpoeaajkgblkmaa.Ly
