/- layout: Need. No conditions. -/
import Derived.Test.YtnjhekfgmbpmlaaDoorLi
namespace Go.Proofs.YtnjhekfgmbpmlaaDoor.Ly
open Go Go.Proofs.YtnjhekfgmbpmlaaDoor.Eng Go.Proofs.YtnjhekfgmbpmlaaDoor.Mem
set_option linter.unusedSimpArgs false
set_option linter.unusedVariables false
set_option maxRecDepth 100000

def needOf (c : TConfig) : Int := if confOk c = true then tAt c c.Partitions.xs.length - c.Kernel else 0
def errOf (c : TConfig) : Int := if confOk c = true then 0 else 150
theorem need_calls (w : World) (c : TConfig) (hc : TConfig.ok Any w c) : Calls Tryd.prog 12 #[.agg (TConfig.arr c)] w fun e w' => e = .returned (.tuple #[.int .i64 (needOf c), .int .i64 (errOf c)]) ∧ Keeps (fun _ => False) w w' := by
 obtain ⟨z, hz⟩ : ∃ z, z = w.heap.size := ⟨_, rfl⟩
 refine calls_G (args := [.agg (TConfig.arr c)]) 19 ⟨w, z, [(old0 w)]⟩ Tryd.func12 rfl (by kernel_rfl) (by kernel_rfl) (sat_0 hz) ?_
 refine g_keep [0] [(0, .agg (TConfig.arr c))] ?_
 refine q_c 6 1 [] [[o0, o0, o0], [(an 7 1)]] [Qb z, Qb z, Qb z, Qb z, Qb z, Qb z, Qb z] [(1, pt z), (7, .agg (TConfig.arr c))] ⟨w, z + 1, [(old0 w), (bk z (TConfig.arr c) 26)]⟩ rfl ⟨rfl, rfl, rfl, rfl, rfl, rfl, rfl, trivial⟩ ?_
 refine l_call [] [] 31 #[.agg (TConfig.arr c)] (some 8) trivial ?_
 intro w1 hw1
 by_cases hok2 : confOk c = true
 · refine (of_yes w1 c (hc.ext (hw1.ext rfl) (fun _ h => h)) hok2).mono ?_
   rintro e w3 ⟨lw3, rfl, hIw3, hLw3, hOw3, hkw3⟩
   have hfw3 := fine_of hok2; have hknw3 := hfw3.kn; have hEw3 := hIw3.fin; have hEbw3 := tAt_bd hfw3 _ (Nat.le_refl _); have hpnw3 := hfw3.pn
   rw [hw1.size] at hLw3 hOw3
   have hnw3 : z + 1 ≤ w3.heap.size := size_of hw1 hkw3
   refine ⟨_, _, rfl, hw1.keepsM hkw3, ?_⟩
   refine q_r 15 0 [0] [[o0, o0, o0, o0, (an 4 3), o0], [o0, o0], [o0, (a1 3), o0, (a1 1), (ov (i6 (lw3.End - c.Kernel))), o0, o0]] [Qb w3.heap.size, Qb w3.heap.size, Qb w3.heap.size, Qb w3.heap.size, Qb w3.heap.size, Qb z, Wr ((lw3.End : Int) - c.Kernel) (lw3.End - c.Kernel)] [(2, i6 (lw3.End - c.Kernel)), (3, i6 0)] ⟨w, w3.heap.size + 1, [(old0 w), (bk z (TConfig.arr c) 26), (mid (z + 1) w3), (.blk w3.heap.size (.cells (TLayout.arr lw3) 79 (0, 0)) true)]⟩ rfl ⟨rfl, rfl, rfl, rfl, rfl, rfl, wrI, trivial⟩ ?_
   refine e_ret [] [] (.tuple #[i6 (lw3.End - c.Kernel), i6 0]) trivial ?_
   intro w4 hw4
   refine ⟨?_, back0 hw4⟩
   unfold needOf errOf; rw [if_pos hok2, if_pos hok2]; rw [← hEw3]
 · refine (of_no w1 c (hc.ext (hw1.ext rfl) (fun _ h => h)) (Bool.eq_false_iff.2 hok2)).mono ?_
   rintro e w5 ⟨rfl, hkw5⟩
   have hnw5 : z + 1 ≤ w5.heap.size := size_of hw1 hkw5
   refine ⟨_, _, rfl, hw1.keeps hkw5, ?_⟩
   refine q_r 13 0 [1] [[o0, o0, o0, o0, (an 4 2), o0], [o0, o0], [o0, o0, o0]] [Qb w5.heap.size, Qb w5.heap.size, Qb w5.heap.size, Qb w5.heap.size] [(2, i6 0), (3, i6 150)] ⟨w, w5.heap.size + 1, [(old0 w), (bk z (TConfig.arr c) 26), (.blk w5.heap.size (.cells #[i6 0, .slice none 0 0, .slice none 0 0, i6 0] 79 (0, 0)) true)]⟩ rfl ⟨rfl, rfl, rfl, rfl, trivial⟩ ?_
   refine e_ret [] [] (.tuple #[i6 0, i6 150]) trivial ?_
   intro w6 hw6
   refine ⟨?_, back0 hw6⟩
   unfold needOf errOf; rw [if_neg hok2, if_neg hok2]

end Go.Proofs.YtnjhekfgmbpmlaaDoor.Ly
