/- admit: the questions, one by one. No conditions. -/
import Derived.Test.YtnjhekfgmbpmlaaDoorAh
namespace Go.Proofs.YtnjhekfgmbpmlaaDoor.Ad
open Go Go.Proofs.YtnjhekfgmbpmlaaDoor.Eng Go.Proofs.YtnjhekfgmbpmlaaDoor.Mem Go.Proofs.YtnjhekfgmbpmlaaDoor.Ly
set_option linter.unusedSimpArgs false
set_option linter.unusedVariables false
set_option maxRecDepth 100000
def whole1 (c : TConfig) : Tfound := unl (win c.Frames 1 1024) 400 ⟨-1, -1⟩
def whole2 (c : TConfig) : Tfound := unl (win c.Major 1 16384) 401 ⟨-1, -1⟩
def whole3 (c : TConfig) : Tfound := unl (win ((c.Cores.xs.length : Nat) : Int) 1 4) 402 ⟨-1, -1⟩
def whole4 (c : TConfig) : Tfound := unl (win ((c.Partitions.xs.length : Nat) : Int) 1 8) 403 ⟨-1, -1⟩
def whole5 (c : TConfig) : Tfound := unl (decide (((c.Channels.xs.length : Nat) : Int) ≤ 16)) 404 ⟨-1, -1⟩
def kernQ (c : TConfig) : Tfound := unl (kernB c) 423 ⟨-1, -1⟩
theorem q1_calls (w : World) (hL : LaidAt w) (c : TConfig) (hc : TConfig.ok Any w c) (bc : Nat) (hbc : ∀ (k : Nat) (v : Value), (TConfig.cells c)[k]? = some v → w.cell? ⟨bc, 0 + k, none⟩ = some v) : Calls Tryd.prog 40 #[.pointer (some ⟨bc, 0, none⟩)] w fun e w' => e = .returned (.agg (Tfound.arr (whole1 c))) ∧ Keeps (fun _ => False) w w' := by
 obtain ⟨z, hz⟩ : ∃ z, z = w.heap.size := ⟨_, rfl⟩
 refine calls_G (args := [pt bc]) 7 ⟨w, z, [(old0 w)]⟩ Tryd.func40 rfl (by kernel_rfl) (by kernel_rfl) (sat_0 hz) ?_
 have hpl := hc.Partitions.1.len; have hpc := hc.Cores.1.len; have hpch := hc.Channels.1.len
 refine g_keep [0] [(0, pt bc)] ?_
 refine q_c 5 0 [] [[o0]] [] [(0, pt bc), (1, pt z)] ⟨w, z + 1, [(old0 w), (bk z #[i6 0, i6 0, i6 0] 73)]⟩ rfl trivial ?_
 refine g_draw 5 [0, 1] [(old0 w), (bk z #[i6 0, i6 0, i6 0] 73)] rfl rfl ?_
 refine w_chainN [.tk 0 o0, .tk 1 (oa [.via 0 (i6 c.Frames)]), .tk 3 (oa [.via 0 (i6 (-1)), .via 0 (i6 (-1))]), .cl 2 (.bool (win c.Frames 1 1024)), .cl 4 (.agg (Tfound.arr (unl (win c.Frames 1 1024) 400 ⟨-1, -1⟩)))] [1, 6] [(42, #[i6 c.Frames, i6 1, i6 1024], .bool (win c.Frames 1 1024)), (41, #[.bool (win c.Frames 1 1024), i6 400, .agg #[i6 (-1), i6 (-1)]], .agg (Tfound.arr (unl (win c.Frames 1 1024) 400 ⟨-1, -1⟩)))] [true, true, true, true, true, false] [Old w bc 0 (i6 c.Frames), Old w 1 0 (i6 (-1)), Old w 1 1 (i6 (-1))] [(1, pt z), (6, .agg (Tfound.arr (unl (win c.Frames 1 1024) 400 ⟨-1, -1⟩)))] [0, 1] ⟨old_cell' (hbc 0 _ rfl), old_cell' (hL.1 0 _ rfl), old_cell' (hL.1 1 _ rfl), trivial⟩ ⟨fun w1 hw1 => within_calls w1 c.Frames 1 1024, fun w2 hw2 => unless_calls w2 (hL.ext (hw2.ext rfl)) (win c.Frames 1 1024) 400 (-1) (-1), trivial⟩ (fun n3 hn4 => ?_)
 replace hn4 : z + 1 ≤ n3 := hn4
 refine w_one 5 (by as_aux_lemma => kernel_rfl) rfl ?_
 refine wo_eff (an 3 1) [1] [Qb z, Qb z, Qb z] [(1, pt z)] ⟨w, n3, [(old0 w), (.blk z (.cells (Tfound.arr (unl (win c.Frames 1 1024) 400 ⟨-1, -1⟩)) 73 (0, 0)) true)]⟩ [] (by as_aux_lemma => kernel_rfl) rfl ⟨rfl, rfl, rfl, trivial⟩ (.inl rfl) ?_
 refine w_free 6 [0, 1] [(old0 w), (.blk z (.cells (Tfound.arr (unl (win c.Frames 1 1024) 400 ⟨-1, -1⟩)) 73 (0, 0)) true)] rfl rfl ?_
 refine w_done (by as_aux_lemma => kernel_rfl) ?_
 refine e_keep [1] [(1, pt z)] ?_
 refine e_seq <| g_ret <| e_ret [.at 1, .at 1, .at 1] [Qb z, Qb z, Qb z] (.agg #[i6 ((unl (win c.Frames 1 1024) 400 ⟨-1, -1⟩).e), i6 ((unl (win c.Frames 1 1024) 400 ⟨-1, -1⟩).where_.First), i6 ((unl (win c.Frames 1 1024) 400 ⟨-1, -1⟩).where_.Second)]) ⟨rfl, rfl, rfl, trivial⟩ ?_
 intro w5 hw5
 exact ⟨congrArg (fun t => Ending.returned (Value.agg (Tfound.arr t))) (show (unl (win c.Frames 1 1024) 400 ⟨-1, -1⟩) = whole1 c from by unfold whole1; first | rfl | rw [decide_eq_false (by omega)] | rw [decide_eq_true (by omega)]), back0 hw5⟩
theorem q2_calls (w : World) (hL : LaidAt w) (c : TConfig) (hc : TConfig.ok Any w c) (bc : Nat) (hbc : ∀ (k : Nat) (v : Value), (TConfig.cells c)[k]? = some v → w.cell? ⟨bc, 0 + k, none⟩ = some v) : Calls Tryd.prog 43 #[.pointer (some ⟨bc, 0, none⟩)] w fun e w' => e = .returned (.agg (Tfound.arr (whole2 c))) ∧ Keeps (fun _ => False) w w' := by
 obtain ⟨z, hz⟩ : ∃ z, z = w.heap.size := ⟨_, rfl⟩
 refine calls_G (args := [pt bc]) 7 ⟨w, z, [(old0 w)]⟩ Tryd.func43 rfl (by kernel_rfl) (by kernel_rfl) (sat_0 hz) ?_
 have hpl := hc.Partitions.1.len; have hpc := hc.Cores.1.len; have hpch := hc.Channels.1.len
 refine g_keep [0] [(0, pt bc)] ?_
 refine q_c 5 0 [] [[o0]] [] [(0, pt bc), (1, pt z)] ⟨w, z + 1, [(old0 w), (bk z #[i6 0, i6 0, i6 0] 73)]⟩ rfl trivial ?_
 refine g_draw 5 [0, 1] [(old0 w), (bk z #[i6 0, i6 0, i6 0] 73)] rfl rfl ?_
 refine w_chainN [.tk 0 o0, .tk 1 (oa [.via 0 (i6 c.Major)]), .tk 3 (oa [.via 0 (i6 (-1)), .via 0 (i6 (-1))]), .cl 2 (.bool (win c.Major 1 16384)), .cl 4 (.agg (Tfound.arr (unl (win c.Major 1 16384) 401 ⟨-1, -1⟩)))] [1, 6] [(42, #[i6 c.Major, i6 1, i6 16384], .bool (win c.Major 1 16384)), (41, #[.bool (win c.Major 1 16384), i6 401, .agg #[i6 (-1), i6 (-1)]], .agg (Tfound.arr (unl (win c.Major 1 16384) 401 ⟨-1, -1⟩)))] [true, true, true, true, true, false] [Old w bc 1 (i6 c.Major), Old w 1 0 (i6 (-1)), Old w 1 1 (i6 (-1))] [(1, pt z), (6, .agg (Tfound.arr (unl (win c.Major 1 16384) 401 ⟨-1, -1⟩)))] [0, 1] ⟨old_cell' (hbc 1 _ rfl), old_cell' (hL.1 0 _ rfl), old_cell' (hL.1 1 _ rfl), trivial⟩ ⟨fun w1 hw1 => within_calls w1 c.Major 1 16384, fun w2 hw2 => unless_calls w2 (hL.ext (hw2.ext rfl)) (win c.Major 1 16384) 401 (-1) (-1), trivial⟩ (fun n3 hn4 => ?_)
 replace hn4 : z + 1 ≤ n3 := hn4
 refine w_one 5 (by as_aux_lemma => kernel_rfl) rfl ?_
 refine wo_eff (an 3 1) [1] [Qb z, Qb z, Qb z] [(1, pt z)] ⟨w, n3, [(old0 w), (.blk z (.cells (Tfound.arr (unl (win c.Major 1 16384) 401 ⟨-1, -1⟩)) 73 (0, 0)) true)]⟩ [] (by as_aux_lemma => kernel_rfl) rfl ⟨rfl, rfl, rfl, trivial⟩ (.inl rfl) ?_
 refine w_free 6 [0, 1] [(old0 w), (.blk z (.cells (Tfound.arr (unl (win c.Major 1 16384) 401 ⟨-1, -1⟩)) 73 (0, 0)) true)] rfl rfl ?_
 refine w_done (by as_aux_lemma => kernel_rfl) ?_
 refine e_keep [1] [(1, pt z)] ?_
 refine e_seq <| g_ret <| e_ret [.at 1, .at 1, .at 1] [Qb z, Qb z, Qb z] (.agg #[i6 ((unl (win c.Major 1 16384) 401 ⟨-1, -1⟩).e), i6 ((unl (win c.Major 1 16384) 401 ⟨-1, -1⟩).where_.First), i6 ((unl (win c.Major 1 16384) 401 ⟨-1, -1⟩).where_.Second)]) ⟨rfl, rfl, rfl, trivial⟩ ?_
 intro w5 hw5
 exact ⟨congrArg (fun t => Ending.returned (Value.agg (Tfound.arr t))) (show (unl (win c.Major 1 16384) 401 ⟨-1, -1⟩) = whole2 c from by unfold whole2; first | rfl | rw [decide_eq_false (by omega)] | rw [decide_eq_true (by omega)]), back0 hw5⟩
abbrev qis8_0 (z : Nat) (c : TConfig) : Ch := .blk z (.cells (Tfound.arr (unl (win ((c.Cores.xs.length : Nat) : Int) 1 4) 402 ⟨-1, -1⟩)) 73 (0, 0)) true
theorem q3_calls (w : World) (hL : LaidAt w) (c : TConfig) (hc : TConfig.ok Any w c) (bc : Nat) (hbc : ∀ (k : Nat) (v : Value), (TConfig.cells c)[k]? = some v → w.cell? ⟨bc, 0 + k, none⟩ = some v) : Calls Tryd.prog 44 #[.pointer (some ⟨bc, 0, none⟩)] w fun e w' => e = .returned (.agg (Tfound.arr (whole3 c))) ∧ Keeps (fun _ => False) w w' := by
 obtain ⟨z, hz⟩ : ∃ z, z = w.heap.size := ⟨_, rfl⟩
 refine calls_G (args := [pt bc]) 8 ⟨w, z, [(old0 w)]⟩ Tryd.func44 rfl (by kernel_rfl) (by kernel_rfl) (sat_0 hz) ?_
 have hpl := hc.Partitions.1.len; have hpc := hc.Cores.1.len; have hpch := hc.Channels.1.len
 refine g_keep [0] [(0, pt bc)] ?_
 refine q_c 5 0 [] [[o0]] [] [(0, pt bc), (1, pt z)] ⟨w, z + 1, [(old0 w), (bk z #[i6 0, i6 0, i6 0] 73)]⟩ rfl trivial ?_
 refine g_draw 6 [0, 1] [(old0 w), (bk z #[i6 0, i6 0, i6 0] 73)] rfl rfl ?_
 refine w_chainN [.tk 0 o0, .tk 1 (oa [.via 0 (.slice c.Cores.a c.Cores.xs.length c.Cores.cap)]), .tk 2 o0, .tk 4 (oa [.via 0 (i6 (-1)), .via 0 (i6 (-1))]), .cl 3 (.bool (win ((c.Cores.xs.length : Nat) : Int) 1 4)), .cl 5 (.agg (Tfound.arr (unl (win ((c.Cores.xs.length : Nat) : Int) 1 4) 402 ⟨-1, -1⟩)))] [1, 7] [(42, #[i6 ((c.Cores.xs.length : Nat) : Int), i6 1, i6 4], .bool (win ((c.Cores.xs.length : Nat) : Int) 1 4)), (41, #[.bool (win ((c.Cores.xs.length : Nat) : Int) 1 4), i6 402, .agg #[i6 (-1), i6 (-1)]], .agg (Tfound.arr (unl (win ((c.Cores.xs.length : Nat) : Int) 1 4) 402 ⟨-1, -1⟩)))] [true, true, true, true, true, true, false] [Old w bc 4 (.slice c.Cores.a c.Cores.xs.length c.Cores.cap), Old w 1 0 (i6 (-1)), Old w 1 1 (i6 (-1))] [(1, pt z), (7, .agg (Tfound.arr (unl (win ((c.Cores.xs.length : Nat) : Int) 1 4) 402 ⟨-1, -1⟩)))] [0, 1] ⟨old_cell' (hbc 4 _ rfl), old_cell' (hL.1 0 _ rfl), old_cell' (hL.1 1 _ rfl), trivial⟩ ⟨fun w1 hw1 => within_calls w1 ((c.Cores.xs.length : Nat) : Int) 1 4, fun w2 hw2 => unless_calls w2 (hL.ext (hw2.ext rfl)) (win ((c.Cores.xs.length : Nat) : Int) 1 4) 402 (-1) (-1), trivial⟩ (fun n3 hn4 => ?_)
 replace hn4 : z + 1 ≤ n3 := hn4
 refine w_one 6 (by as_aux_lemma => kernel_rfl) rfl ?_
 refine wo_eff (an 3 1) [1] [Qb z, Qb z, Qb z] [(1, pt z)] ⟨w, n3, [(old0 w), (qis8_0 z c)]⟩ [] (by as_aux_lemma => kernel_rfl) rfl ⟨rfl, rfl, rfl, trivial⟩ (.inl rfl) ?_
 refine w_free 7 [0, 1] [(old0 w), (qis8_0 z c)] rfl rfl ?_
 refine w_done (by as_aux_lemma => kernel_rfl) ?_
 refine e_keep [1] [(1, pt z)] ?_
 refine e_seq <| g_ret <| e_ret [.at 1, .at 1, .at 1] [Qb z, Qb z, Qb z] (.agg #[i6 ((unl (win ((c.Cores.xs.length : Nat) : Int) 1 4) 402 ⟨-1, -1⟩).e), i6 ((unl (win ((c.Cores.xs.length : Nat) : Int) 1 4) 402 ⟨-1, -1⟩).where_.First), i6 ((unl (win ((c.Cores.xs.length : Nat) : Int) 1 4) 402 ⟨-1, -1⟩).where_.Second)]) ⟨rfl, rfl, rfl, trivial⟩ ?_
 intro w5 hw5
 exact ⟨congrArg (fun t => Ending.returned (Value.agg (Tfound.arr t))) (show (unl (win ((c.Cores.xs.length : Nat) : Int) 1 4) 402 ⟨-1, -1⟩) = whole3 c from by unfold whole3; first | rfl | rw [decide_eq_false (by omega)] | rw [decide_eq_true (by omega)]), back0 hw5⟩
abbrev qimu_0 (z : Nat) (c : TConfig) : Ch := .blk z (.cells (Tfound.arr (unl (win ((c.Partitions.xs.length : Nat) : Int) 1 8) 403 ⟨-1, -1⟩)) 73 (0, 0)) true
theorem q4_calls (w : World) (hL : LaidAt w) (c : TConfig) (hc : TConfig.ok Any w c) (bc : Nat) (hbc : ∀ (k : Nat) (v : Value), (TConfig.cells c)[k]? = some v → w.cell? ⟨bc, 0 + k, none⟩ = some v) : Calls Tryd.prog 45 #[.pointer (some ⟨bc, 0, none⟩)] w fun e w' => e = .returned (.agg (Tfound.arr (whole4 c))) ∧ Keeps (fun _ => False) w w' := by
 obtain ⟨z, hz⟩ : ∃ z, z = w.heap.size := ⟨_, rfl⟩
 refine calls_G (args := [pt bc]) 8 ⟨w, z, [(old0 w)]⟩ Tryd.func45 rfl (by kernel_rfl) (by kernel_rfl) (sat_0 hz) ?_
 have hpl := hc.Partitions.1.len; have hpc := hc.Cores.1.len; have hpch := hc.Channels.1.len
 refine g_keep [0] [(0, pt bc)] ?_
 refine q_c 5 0 [] [[o0]] [] [(0, pt bc), (1, pt z)] ⟨w, z + 1, [(old0 w), (bk z #[i6 0, i6 0, i6 0] 73)]⟩ rfl trivial ?_
 refine g_draw 6 [0, 1] [(old0 w), (bk z #[i6 0, i6 0, i6 0] 73)] rfl rfl ?_
 refine w_chainN [.tk 0 o0, .tk 1 (oa [.via 0 (.slice c.Partitions.a c.Partitions.xs.length c.Partitions.cap)]), .tk 2 o0, .tk 4 (oa [.via 0 (i6 (-1)), .via 0 (i6 (-1))]), .cl 3 (.bool (win ((c.Partitions.xs.length : Nat) : Int) 1 8)), .cl 5 (.agg (Tfound.arr (unl (win ((c.Partitions.xs.length : Nat) : Int) 1 8) 403 ⟨-1, -1⟩)))] [1, 7] [(42, #[i6 ((c.Partitions.xs.length : Nat) : Int), i6 1, i6 8], .bool (win ((c.Partitions.xs.length : Nat) : Int) 1 8)), (41, #[.bool (win ((c.Partitions.xs.length : Nat) : Int) 1 8), i6 403, .agg #[i6 (-1), i6 (-1)]], .agg (Tfound.arr (unl (win ((c.Partitions.xs.length : Nat) : Int) 1 8) 403 ⟨-1, -1⟩)))] [true, true, true, true, true, true, false] [Old w bc 5 (.slice c.Partitions.a c.Partitions.xs.length c.Partitions.cap), Old w 1 0 (i6 (-1)), Old w 1 1 (i6 (-1))] [(1, pt z), (7, .agg (Tfound.arr (unl (win ((c.Partitions.xs.length : Nat) : Int) 1 8) 403 ⟨-1, -1⟩)))] [0, 1] ⟨old_cell' (hbc 5 _ rfl), old_cell' (hL.1 0 _ rfl), old_cell' (hL.1 1 _ rfl), trivial⟩ ⟨fun w1 hw1 => within_calls w1 ((c.Partitions.xs.length : Nat) : Int) 1 8, fun w2 hw2 => unless_calls w2 (hL.ext (hw2.ext rfl)) (win ((c.Partitions.xs.length : Nat) : Int) 1 8) 403 (-1) (-1), trivial⟩ (fun n3 hn4 => ?_)
 replace hn4 : z + 1 ≤ n3 := hn4
 refine w_one 6 (by as_aux_lemma => kernel_rfl) rfl ?_
 refine wo_eff (an 3 1) [1] [Qb z, Qb z, Qb z] [(1, pt z)] ⟨w, n3, [(old0 w), (qimu_0 z c)]⟩ [] (by as_aux_lemma => kernel_rfl) rfl ⟨rfl, rfl, rfl, trivial⟩ (.inl rfl) ?_
 refine w_free 7 [0, 1] [(old0 w), (qimu_0 z c)] rfl rfl ?_
 refine w_done (by as_aux_lemma => kernel_rfl) ?_
 refine e_keep [1] [(1, pt z)] ?_
 refine e_seq <| g_ret <| e_ret [.at 1, .at 1, .at 1] [Qb z, Qb z, Qb z] (.agg #[i6 ((unl (win ((c.Partitions.xs.length : Nat) : Int) 1 8) 403 ⟨-1, -1⟩).e), i6 ((unl (win ((c.Partitions.xs.length : Nat) : Int) 1 8) 403 ⟨-1, -1⟩).where_.First), i6 ((unl (win ((c.Partitions.xs.length : Nat) : Int) 1 8) 403 ⟨-1, -1⟩).where_.Second)]) ⟨rfl, rfl, rfl, trivial⟩ ?_
 intro w5 hw5
 exact ⟨congrArg (fun t => Ending.returned (Value.agg (Tfound.arr t))) (show (unl (win ((c.Partitions.xs.length : Nat) : Int) 1 8) 403 ⟨-1, -1⟩) = whole4 c from by unfold whole4; first | rfl | rw [decide_eq_false (by omega)] | rw [decide_eq_true (by omega)]), back0 hw5⟩
theorem q5_calls (w : World) (hL : LaidAt w) (c : TConfig) (hc : TConfig.ok Any w c) (bc : Nat) (hbc : ∀ (k : Nat) (v : Value), (TConfig.cells c)[k]? = some v → w.cell? ⟨bc, 0 + k, none⟩ = some v) : Calls Tryd.prog 46 #[.pointer (some ⟨bc, 0, none⟩)] w fun e w' => e = .returned (.agg (Tfound.arr (whole5 c))) ∧ Keeps (fun _ => False) w w' := by
 obtain ⟨z, hz⟩ : ∃ z, z = w.heap.size := ⟨_, rfl⟩
 refine calls_G (args := [pt bc]) 8 ⟨w, z, [(old0 w)]⟩ Tryd.func46 rfl (by kernel_rfl) (by kernel_rfl) (sat_0 hz) ?_
 have hpl := hc.Partitions.1.len; have hpc := hc.Cores.1.len; have hpch := hc.Channels.1.len
 refine g_keep [0] [(0, pt bc)] ?_
 refine q_c 5 0 [] [[o0]] [] [(0, pt bc), (1, pt z)] ⟨w, z + 1, [(old0 w), (bk z #[i6 0, i6 0, i6 0] 73)]⟩ rfl trivial ?_
 by_cases h1 : (16 : Int) < ((c.Channels.xs.length : Nat) : Int)
 · refine q_cS 1 5 [] [[o0, (oa [.via 0 (.slice c.Channels.a c.Channels.xs.length c.Channels.cap)]), o0, oF, (oa [.via 0 (i6 (-1)), .via 0 (i6 (-1))])]] [Old w bc 6 (.slice c.Channels.a c.Channels.xs.length c.Channels.cap), BF ((((c.Channels.xs.length : Nat) : Int) : Int) ≤ 16), Old w 1 0 (i6 (-1)), Old w 1 1 (i6 (-1))] [(1, pt z), (5, .bool false), (6, .agg #[i6 (-1), i6 (-1)])] rfl ⟨old_cell' (hbc 6 _ rfl), bf (by omega), old_cell' (hL.1 0 _ rfl), old_cell' (hL.1 1 _ rfl), trivial⟩ ?_
   refine l_call [] [] 41 #[.bool false, i6 404, .agg #[i6 (-1), i6 (-1)]] (some 7) trivial ?_
   intro w2 hw2
   refine (unless_calls w2 (hL.ext (hw2.ext rfl)) false 404 (-1) (-1)).mono ?_
   rintro e w3 ⟨rfl, hkw3⟩
   have hnw3 : z + 1 ≤ w3.heap.size := size_of hw2 hkw3
   refine ⟨_, _, rfl, hw2.keeps hkw3, ?_⟩
   refine q_r 3 0 [] [[(an 3 1)]] [Qb z, Qb z, Qb z] [(1, pt z)] ⟨w, w3.heap.size, [(old0 w), (bk z (Tfound.arr (unl false 404 ⟨-1, -1⟩)) 73)]⟩ rfl ⟨rfl, rfl, rfl, trivial⟩ ?_
   refine e_ret [.at 1, .at 1, .at 1] [Qb z, Qb z, Qb z] (.agg #[i6 ((unl false 404 ⟨-1, -1⟩).e), i6 ((unl false 404 ⟨-1, -1⟩).where_.First), i6 ((unl false 404 ⟨-1, -1⟩).where_.Second)]) ⟨rfl, rfl, rfl, trivial⟩ ?_
   intro w4 hw4
   exact ⟨congrArg (fun t => Ending.returned (Value.agg (Tfound.arr t))) (show (unl false 404 ⟨-1, -1⟩) = whole5 c from by unfold whole5; first | rfl | rw [decide_eq_false (by omega)] | rw [decide_eq_true (by omega)]), back0 hw4⟩
 · refine q_cS 1 5 [] [[o0, (oa [.via 0 (.slice c.Channels.a c.Channels.xs.length c.Channels.cap)]), o0, oT, (oa [.via 0 (i6 (-1)), .via 0 (i6 (-1))])]] [Old w bc 6 (.slice c.Channels.a c.Channels.xs.length c.Channels.cap), BT ((((c.Channels.xs.length : Nat) : Int) : Int) ≤ 16), Old w 1 0 (i6 (-1)), Old w 1 1 (i6 (-1))] [(1, pt z), (5, .bool true), (6, .agg #[i6 (-1), i6 (-1)])] rfl ⟨old_cell' (hbc 6 _ rfl), bt (by omega), old_cell' (hL.1 0 _ rfl), old_cell' (hL.1 1 _ rfl), trivial⟩ ?_
   refine l_call [] [] 41 #[.bool true, i6 404, .agg #[i6 (-1), i6 (-1)]] (some 7) trivial ?_
   intro w5 hw5
   refine (unless_calls w5 (hL.ext (hw5.ext rfl)) true 404 (-1) (-1)).mono ?_
   rintro e w6 ⟨rfl, hkw6⟩
   have hnw6 : z + 1 ≤ w6.heap.size := size_of hw5 hkw6
   refine ⟨_, _, rfl, hw5.keeps hkw6, ?_⟩
   refine q_r 3 0 [] [[(an 3 1)]] [Qb z, Qb z, Qb z] [(1, pt z)] ⟨w, w6.heap.size, [(old0 w), (bk z (Tfound.arr (unl true 404 ⟨-1, -1⟩)) 73)]⟩ rfl ⟨rfl, rfl, rfl, trivial⟩ ?_
   refine e_ret [.at 1, .at 1, .at 1] [Qb z, Qb z, Qb z] (.agg #[i6 ((unl true 404 ⟨-1, -1⟩).e), i6 ((unl true 404 ⟨-1, -1⟩).where_.First), i6 ((unl true 404 ⟨-1, -1⟩).where_.Second)]) ⟨rfl, rfl, rfl, trivial⟩ ?_
   intro w7 hw7
   exact ⟨congrArg (fun t => Ending.returned (Value.agg (Tfound.arr t))) (show (unl true 404 ⟨-1, -1⟩) = whole5 c from by unfold whole5; first | rfl | rw [decide_eq_false (by omega)] | rw [decide_eq_true (by omega)]), back0 hw7⟩
theorem q6_calls (w : World) (hL : LaidAt w) (c : TConfig) (hc : TConfig.ok Any w c) (bc : Nat) (hbc : ∀ (k : Nat) (v : Value), (TConfig.cells c)[k]? = some v → w.cell? ⟨bc, 0 + k, none⟩ = some v) (b p : Nat) (hb : ∀ (k : Nat) (v : Value), [Value.int .i64 (p : Nat)][k]? = some v → w.cell? ⟨b, 0 + k, none⟩ = some v) (hp : p < c.Partitions.xs.length) (hFr : 1 ≤ c.Frames ∧ c.Frames ≤ 1024) (hpf : ∀ q, q < p → partQ c q = fineF) : Calls Tryd.prog 47 #[.pointer (some ⟨bc, 0, none⟩), .pointer (some ⟨b, 0, none⟩)] w fun e w' => e = .returned (.agg (Tfound.arr (partQ c p))) ∧ Keeps (fun _ => False) w w' := by
 obtain ⟨z, hz⟩ : ∃ z, z = w.heap.size := ⟨_, rfl⟩
 refine calls_G (args := [pt bc, pt b]) 6 ⟨w, z, [(old0 w)]⟩ Tryd.func47 rfl (by kernel_rfl) (by kernel_rfl) (sat_0 hz) ?_
 have hpl := hc.Partitions.1.len; have hpc := hc.Cores.1.len; have hpch := hc.Channels.1.len
 refine g_keep [0, 1] [(0, pt bc), (1, pt b)] ?_
 refine q_c 6 2 [] [[o0], [(ol 0 (TConfig.arr c)), (oa [.via 0 (i6 (p : Int))])]] [OldR w bc 0 (TConfig.arr c), Old w b 0 (i6 (p : Int))] [(2, pt z), (3, .agg (TConfig.arr c)), (4, i6 (p : Int))] ⟨w, z + 1, [(old0 w), (bk z #[i6 0, i6 0, i6 0] 73)]⟩ rfl ⟨old_row hbc, old_cell' (hb 0 _ rfl), trivial⟩ ?_
 refine l_call [] [] 48 #[.agg (TConfig.arr c), i6 (p : Int)] (some 5) trivial ?_
 intro w1 hw1
 refine (partition_calls w1 (hL.ext (hw1.ext rfl)) c (hc.ext (hw1.ext rfl) (fun _ h => h)) p hp hFr hpf).mono ?_
 rintro e w2 ⟨rfl, hkw2⟩
 have hnw2 : z + 1 ≤ w2.heap.size := size_of hw1 hkw2
 refine ⟨_, _, rfl, hw1.keeps hkw2, ?_⟩
 refine q_r 3 0 [] [[(an 3 1)]] [Qb z, Qb z, Qb z] [(2, pt z)] ⟨w, w2.heap.size, [(old0 w), (bk z (Tfound.arr (partQ c p)) 73)]⟩ rfl ⟨rfl, rfl, rfl, trivial⟩ ?_
 refine e_ret [.at 1, .at 1, .at 1] [Qb z, Qb z, Qb z] (.agg #[i6 ((partQ c p).e), i6 ((partQ c p).where_.First), i6 ((partQ c p).where_.Second)]) ⟨rfl, rfl, rfl, trivial⟩ ?_
 intro w3 hw3
 exact ⟨rfl, back0 hw3⟩
theorem q7_calls (w : World) (hL : LaidAt w) (c : TConfig) (hc : TConfig.ok Any w c) (bc : Nat) (hbc : ∀ (k : Nat) (v : Value), (TConfig.cells c)[k]? = some v → w.cell? ⟨bc, 0 + k, none⟩ = some v) (b p : Nat) (hb : ∀ (k : Nat) (v : Value), [Value.int .i64 (p : Nat)][k]? = some v → w.cell? ⟨b, 0 + k, none⟩ = some v) (hp : p < c.Channels.xs.length) (hm : c.Partitions.xs.length ≤ 1024) (hq : ∀ p, p < c.Partitions.xs.length → (gd c.Partitions.xs p).Ports.xs.length ≤ 1024) : Calls Tryd.prog 49 #[.pointer (some ⟨bc, 0, none⟩), .pointer (some ⟨b, 0, none⟩)] w fun e w' => e = .returned (.agg (Tfound.arr (chanQ c p))) ∧ Keeps (fun _ => False) w w' := by
 obtain ⟨z, hz⟩ : ∃ z, z = w.heap.size := ⟨_, rfl⟩
 refine calls_G (args := [pt bc, pt b]) 6 ⟨w, z, [(old0 w)]⟩ Tryd.func49 rfl (by kernel_rfl) (by kernel_rfl) (sat_0 hz) ?_
 have hpl := hc.Partitions.1.len; have hpc := hc.Cores.1.len; have hpch := hc.Channels.1.len
 refine g_keep [0, 1] [(0, pt bc), (1, pt b)] ?_
 refine q_c 6 2 [] [[o0], [(ol 0 (TConfig.arr c)), (oa [.via 0 (i6 (p : Int))])]] [OldR w bc 0 (TConfig.arr c), Old w b 0 (i6 (p : Int))] [(2, pt z), (3, .agg (TConfig.arr c)), (4, i6 (p : Int))] ⟨w, z + 1, [(old0 w), (bk z #[i6 0, i6 0, i6 0] 73)]⟩ rfl ⟨old_row hbc, old_cell' (hb 0 _ rfl), trivial⟩ ?_
 refine l_call [] [] 50 #[.agg (TConfig.arr c), i6 (p : Int)] (some 5) trivial ?_
 intro w1 hw1
 refine (channel_calls w1 (hL.ext (hw1.ext rfl)) c (hc.ext (hw1.ext rfl) (fun _ h => h)) p hp hm hq).mono ?_
 rintro e w2 ⟨rfl, hkw2⟩
 have hnw2 : z + 1 ≤ w2.heap.size := size_of hw1 hkw2
 refine ⟨_, _, rfl, hw1.keeps hkw2, ?_⟩
 refine q_r 3 0 [] [[(an 3 1)]] [Qb z, Qb z, Qb z] [(2, pt z)] ⟨w, w2.heap.size, [(old0 w), (bk z (Tfound.arr (chanQ c p)) 73)]⟩ rfl ⟨rfl, rfl, rfl, trivial⟩ ?_
 refine e_ret [.at 1, .at 1, .at 1] [Qb z, Qb z, Qb z] (.agg #[i6 ((chanQ c p).e), i6 ((chanQ c p).where_.First), i6 ((chanQ c p).where_.Second)]) ⟨rfl, rfl, rfl, trivial⟩ ?_
 intro w3 hw3
 exact ⟨rfl, back0 hw3⟩
theorem q8_calls (w : World) (hL : LaidAt w) (c : TConfig) (hc : TConfig.ok Any w c) (bc : Nat) (hbc : ∀ (k : Nat) (v : Value), (TConfig.cells c)[k]? = some v → w.cell? ⟨bc, 0 + k, none⟩ = some v) (b p : Nat) (hb : ∀ (k : Nat) (v : Value), [Value.int .i64 (p : Nat)][k]? = some v → w.cell? ⟨b, 0 + k, none⟩ = some v) (hp : p < c.Cores.xs.length)  : Calls Tryd.prog 51 #[.pointer (some ⟨bc, 0, none⟩), .pointer (some ⟨b, 0, none⟩)] w fun e w' => e = .returned (.agg (Tfound.arr (coreQ c p))) ∧ Keeps (fun _ => False) w w' := by
 obtain ⟨z, hz⟩ : ∃ z, z = w.heap.size := ⟨_, rfl⟩
 refine calls_G (args := [pt bc, pt b]) 6 ⟨w, z, [(old0 w)]⟩ Tryd.func51 rfl (by kernel_rfl) (by kernel_rfl) (sat_0 hz) ?_
 have hpl := hc.Partitions.1.len; have hpc := hc.Cores.1.len; have hpch := hc.Channels.1.len
 refine g_keep [0, 1] [(0, pt bc), (1, pt b)] ?_
 refine q_c 6 2 [] [[o0], [(ol 0 (TConfig.arr c)), (oa [.via 0 (i6 (p : Int))])]] [OldR w bc 0 (TConfig.arr c), Old w b 0 (i6 (p : Int))] [(2, pt z), (3, .agg (TConfig.arr c)), (4, i6 (p : Int))] ⟨w, z + 1, [(old0 w), (bk z #[i6 0, i6 0, i6 0] 73)]⟩ rfl ⟨old_row hbc, old_cell' (hb 0 _ rfl), trivial⟩ ?_
 refine l_call [] [] 52 #[.agg (TConfig.arr c), i6 (p : Int)] (some 5) trivial ?_
 intro w1 hw1
 refine (core_calls w1 (hL.ext (hw1.ext rfl)) c (hc.ext (hw1.ext rfl) (fun _ h => h)) p hp).mono ?_
 rintro e w2 ⟨rfl, hkw2⟩
 have hnw2 : z + 1 ≤ w2.heap.size := size_of hw1 hkw2
 refine ⟨_, _, rfl, hw1.keeps hkw2, ?_⟩
 refine q_r 3 0 [] [[(an 3 1)]] [Qb z, Qb z, Qb z] [(2, pt z)] ⟨w, w2.heap.size, [(old0 w), (bk z (Tfound.arr (coreQ c p)) 73)]⟩ rfl ⟨rfl, rfl, rfl, trivial⟩ ?_
 refine e_ret [.at 1, .at 1, .at 1] [Qb z, Qb z, Qb z] (.agg #[i6 ((coreQ c p).e), i6 ((coreQ c p).where_.First), i6 ((coreQ c p).where_.Second)]) ⟨rfl, rfl, rfl, trivial⟩ ?_
 intro w3 hw3
 exact ⟨rfl, back0 hw3⟩
theorem q9_calls (w : World) (hL : LaidAt w) (c : TConfig) (hc : TConfig.ok Any w c) (bc : Nat) (hbc : ∀ (k : Nat) (v : Value), (TConfig.cells c)[k]? = some v → w.cell? ⟨bc, 0 + k, none⟩ = some v) (hFr : 1 ≤ c.Frames ∧ c.Frames ≤ 1024) (hpf : ∀ q, q < c.Partitions.xs.length → partQ c q = fineF) : Calls Tryd.prog 53 #[.pointer (some ⟨bc, 0, none⟩)] w fun e w' => e = .returned (.agg (Tfound.arr (kernQ c))) ∧ Keeps (fun _ => False) w w' := by
 obtain ⟨z, hz⟩ : ∃ z, z = w.heap.size := ⟨_, rfl⟩
 refine calls_G (args := [pt bc]) 6 ⟨w, z, [(old0 w)]⟩ Tryd.func53 rfl (by kernel_rfl) (by kernel_rfl) (sat_0 hz) ?_
 have hpl := hc.Partitions.1.len; have hpc := hc.Cores.1.len; have hpch := hc.Channels.1.len
 refine g_keep [0] [(0, pt bc)] ?_
 refine q_c 5 0 [] [[o0]] [] [(0, pt bc), (1, pt z)] ⟨w, z + 1, [(old0 w), (bk z #[i6 0, i6 0, i6 0] 73)]⟩ rfl trivial ?_
 refine g_draw 4 [0, 1] [(old0 w), (bk z #[i6 0, i6 0, i6 0] 73)] rfl rfl ?_
 refine w_chainN [.tk 0 (ol 0 (TConfig.arr c)), .tk 2 (oa [.via 0 (i6 (-1)), .via 0 (i6 (-1))]), .cl 1 (.bool (kernB c)), .cl 3 (.agg (Tfound.arr (unl (kernB c) 423 ⟨-1, -1⟩)))] [1, 5] [(54, #[.agg (TConfig.arr c)], .bool (kernB c)), (41, #[.bool (kernB c), i6 423, .agg #[i6 (-1), i6 (-1)]], .agg (Tfound.arr (unl (kernB c) 423 ⟨-1, -1⟩)))] [true, true, true, true, false] [OldR w bc 0 (TConfig.arr c), Old w 1 0 (i6 (-1)), Old w 1 1 (i6 (-1))] [(1, pt z), (5, .agg (Tfound.arr (unl (kernB c) 423 ⟨-1, -1⟩)))] [0, 1] ⟨old_row hbc, old_cell' (hL.1 0 _ rfl), old_cell' (hL.1 1 _ rfl), trivial⟩ ⟨fun w1 hw1 => kernel_calls w1 (hL.ext (hw1.ext rfl)) c (hc.ext (hw1.ext rfl) (fun _ h => h)) hFr hpf, fun w2 hw2 => unless_calls w2 (hL.ext (hw2.ext rfl)) (kernB c) 423 (-1) (-1), trivial⟩ (fun n3 hn4 => ?_)
 replace hn4 : z + 1 ≤ n3 := hn4
 refine w_one 4 (by as_aux_lemma => kernel_rfl) rfl ?_
 refine wo_eff (an 3 1) [1] [Qb z, Qb z, Qb z] [(1, pt z)] ⟨w, n3, [(old0 w), (.blk z (.cells (Tfound.arr (unl (kernB c) 423 ⟨-1, -1⟩)) 73 (0, 0)) true)]⟩ [] (by as_aux_lemma => kernel_rfl) rfl ⟨rfl, rfl, rfl, trivial⟩ (.inl rfl) ?_
 refine w_free 5 [0, 1] [(old0 w), (.blk z (.cells (Tfound.arr (unl (kernB c) 423 ⟨-1, -1⟩)) 73 (0, 0)) true)] rfl rfl ?_
 refine w_done (by as_aux_lemma => kernel_rfl) ?_
 refine e_keep [1] [(1, pt z)] ?_
 refine e_seq <| g_ret <| e_ret [.at 1, .at 1, .at 1] [Qb z, Qb z, Qb z] (.agg #[i6 ((unl (kernB c) 423 ⟨-1, -1⟩).e), i6 ((unl (kernB c) 423 ⟨-1, -1⟩).where_.First), i6 ((unl (kernB c) 423 ⟨-1, -1⟩).where_.Second)]) ⟨rfl, rfl, rfl, trivial⟩ ?_
 intro w5 hw5
 exact ⟨congrArg (fun t => Ending.returned (Value.agg (Tfound.arr t))) (show (unl (kernB c) 423 ⟨-1, -1⟩) = kernQ c from by unfold kernQ; first | rfl | rw [decide_eq_false (by omega)] | rw [decide_eq_true (by omega)]), back0 hw5⟩

end Go.Proofs.YtnjhekfgmbpmlaaDoor.Ad
