/- layout: Stage; the document's body. No conditions. -/
import Derived.Test.YtnjhekfgmbpmlaaDoorLa
namespace Go.Proofs.YtnjhekfgmbpmlaaDoor.Ly
open Go Go.Proofs.YtnjhekfgmbpmlaaDoor.Eng Go.Proofs.YtnjhekfgmbpmlaaDoor.Mem
set_option linter.unusedSimpArgs false
set_option linter.unusedVariables false
set_option maxRecDepth 100000

def bodyOf (h : TChannel) : Int := if h.Words < 1 ∨ h.Words > 16 then 0 else if h.Kind = 1 then h.Words else if h.Kind = 2 ∧ 1 ≤ h.Depth ∧ h.Depth ≤ 8 then h.Depth * (1 + h.Words) else 0
def stageOf (h : TChannel) : Int := if bodyOf h = 0 then 0 else if h.Kind = 1 then 2 + h.Words else 1 + bodyOf h
def portOf (h : TChannel) : Int := if bodyOf h = 0 then 0 else 3 + bodyOf h
theorem body_bd (h : TChannel) : 0 ≤ bodyOf h ∧ bodyOf h ≤ 136 := by
  unfold bodyOf
  split
  · omega
  · split
    · omega
    · split
      · rename_i h1 h2 h3
        have hd : h.Depth = 1 ∨ h.Depth = 2 ∨ h.Depth = 3 ∨ h.Depth = 4 ∨ h.Depth = 5 ∨ h.Depth = 6 ∨ h.Depth = 7 ∨ h.Depth = 8 := by omega
        rcases hd with e | e | e | e | e | e | e | e <;> rw [e] <;> omega
      · omega
theorem body_a {h : TChannel} (h1 : h.Words < 1 ∨ h.Words > 16) : bodyOf h = 0 := by unfold bodyOf; rw [if_pos h1]
theorem body_b {h : TChannel} (h1 : ¬ h.Words < 1) (h2 : ¬ 16 < h.Words) (h3 : h.Kind = 1) : bodyOf h = h.Words := by unfold bodyOf; rw [if_neg (by omega), if_pos h3]
theorem body_c {h : TChannel} (h1 : ¬ h.Words < 1) (h2 : ¬ 16 < h.Words) (h3 : ¬ h.Kind = 1) (h4 : h.Kind = 2) (h5 : 1 ≤ h.Depth) (h6 : h.Depth ≤ 8) : bodyOf h = h.Depth * (1 + h.Words) := by unfold bodyOf; rw [if_neg (by omega), if_neg h3, if_pos ⟨h4, h5, h6⟩]
theorem body_d {h : TChannel} (h1 : ¬ h.Words < 1) (h2 : ¬ 16 < h.Words) (h3 : ¬ h.Kind = 1) (h4 : ¬ (h.Kind = 2 ∧ 1 ≤ h.Depth ∧ h.Depth ≤ 8)) : bodyOf h = 0 := by unfold bodyOf; rw [if_neg (by omega), if_neg h3, if_neg h4]
theorem body_w (h : TChannel) : bodyOf h = 0 ∨ (1 ≤ h.Words ∧ h.Words ≤ 16) := by
  unfold bodyOf; split
  · exact .inl rfl
  · right; omega
theorem stage_a {h : TChannel} (h1 : bodyOf h = 0) : 0 = stageOf h := by unfold stageOf; rw [if_pos h1]
theorem stage_b {h : TChannel} (h1 : ¬ h.Words < 1) (h2 : ¬ 16 < h.Words) (h3 : h.Kind = 1) : 2 + h.Words = stageOf h := by unfold stageOf; rw [body_b h1 h2 h3, if_neg (by omega), if_pos h3]
theorem stage_c {h : TChannel} (h1 : ¬ h.Words < 1) (h2 : ¬ 16 < h.Words) (h3 : ¬ h.Kind = 1) (h4 : h.Kind = 2) (h5 : 1 ≤ h.Depth) (h6 : h.Depth ≤ 8) : 1 + h.Depth * (1 + h.Words) = stageOf h := by
  unfold stageOf; rw [body_c h1 h2 h3 h4 h5 h6, if_neg ?_, if_neg h3]
  have := Int.mul_pos (show 0 < h.Depth by omega) (show 0 < 1 + h.Words by omega)
  omega
theorem stage_bd (h : TChannel) : 0 ≤ stageOf h ∧ stageOf h ≤ 137 := by
  have hb := body_bd h
  unfold stageOf
  split
  · omega
  · split
    · rename_i h1 h2
      unfold bodyOf at h1
      split at h1
      · exact absurd rfl h1
      · omega
    · omega
theorem port_bd (h : TChannel) : 0 ≤ portOf h ∧ portOf h ≤ 139 := by
  have hb := body_bd h
  unfold portOf
  split <;> omega
theorem stage_port (h : TChannel) : stageOf h = 0 ↔ portOf h = 0 := by
  have hb := body_bd h
  unfold stageOf portOf
  split
  · simp
  · split
    · rename_i h1 h2
      unfold bodyOf at h1 hb
      constructor
      · intro e
        split at h1
        · exact absurd rfl h1
        · omega
      · intro e; exfalso; unfold bodyOf at e; omega
    · omega
theorem port_b {h : TChannel} (h1 : ¬ stageOf h = 0) (h2 : h.Kind = 1) : stageOf h + 1 = portOf h := by
  unfold stageOf portOf at *
  split at h1
  · exact absurd rfl h1
  · rename_i hb
    rw [if_neg hb, if_neg hb, if_pos h2]
    unfold bodyOf at hb ⊢
    split at hb
    · exact absurd rfl hb
    · rename_i h3
      rw [if_neg h3, if_pos h2]; omega
theorem port_c {h : TChannel} (h1 : ¬ stageOf h = 0) (h2 : ¬ h.Kind = 1) : stageOf h + 2 = portOf h := by
  unfold stageOf portOf at *
  split at h1
  · exact absurd rfl h1
  · rename_i hb
    rw [if_neg hb, if_neg hb, if_neg h2]; omega
theorem stage_calls (w : World) (h : TChannel) (hh : TChannel.ok Any w h) : Calls Tryd.prog 59 #[.agg (TChannel.arr h)] w fun e w' => e = .returned (.int .i64 (stageOf h)) ∧ Keeps (fun _ => False) w w' := by
 obtain ⟨z, hz⟩ : ∃ z, z = w.heap.size := ⟨_, rfl⟩
 refine calls_G (args := [.agg (TChannel.arr h)]) 40 ⟨w, z, [(old0 w)]⟩ Tryd.func59 rfl (by kernel_rfl) (by kernel_rfl) (sat_0 hz) ?_
 refine g_keep [0] [(0, .agg (TChannel.arr h))] ?_
 refine q_c 7 0 [] [[o0, o0]] [] [(1, pt z)] ⟨w, z + 1, [(old0 w), (bk z (TChannel.arr h) 55)]⟩ rfl trivial ?_
 by_cases h1 : (h.Words : Int) < 1
 · refine q_cS 9 0 [1] [[o0, (a1 1), oT, o0, o0, o0], [o0]] [Qb z, BT ((h.Words : Int) < 1)] [(2, i6 0)] rfl ⟨rfl, bt (by omega), trivial⟩ ?_
   refine e_ret [] [] (i6 0) trivial ?_
   intro w2 hw2
   refine ⟨congrArg (fun n => Ending.returned (i6 n)) (?_ : (0 : Int) = stageOf h), back0 hw2⟩
   first
     | exact stage_a (body_a (by omega))
     | exact stage_b (by omega) (by omega) (by omega)
     | exact stage_c (by omega) (by omega) (by omega) (by omega) (by omega) (by omega)
     | exact stage_a (body_d (by omega) (by omega) (by omega) (by omega))
 · by_cases h3 : (16 : Int) < h.Words
   · refine q_cS 9 0 [1] [[o0, (a1 1), oF, o0, o0, (a1 1), oT, o0, o0], [o0]] [Qb z, BF ((h.Words : Int) < 1), Qb z, BT ((h.Words : Int) > 16)] [(2, i6 0)] rfl ⟨rfl, bf (by omega), rfl, bt (by omega), trivial⟩ ?_
     refine e_ret [] [] (i6 0) trivial ?_
     intro w4 hw4
     refine ⟨congrArg (fun n => Ending.returned (i6 n)) (?_ : (0 : Int) = stageOf h), back0 hw4⟩
     first
       | exact stage_a (body_a (by omega))
       | exact stage_b (by omega) (by omega) (by omega)
       | exact stage_c (by omega) (by omega) (by omega) (by omega) (by omega) (by omega)
       | exact stage_a (body_d (by omega) (by omega) (by omega) (by omega))
   · refine q_cS 5 0 [0] [[o0, (a1 1), oF, o0, o0, (a1 1), oF, o0, o0]] [Qb z, BF ((h.Words : Int) < 1), Qb z, BF ((h.Words : Int) > 16)] [(1, pt z), (3, .bool false)] rfl ⟨rfl, bf (by omega), rfl, bf (by omega), trivial⟩ ?_
     by_cases h5 : (h.Kind : Int) = 1
     · refine q_cS 9 0 [1] [[o0, (a1 1), oT, o0], [o0, (a1 1), (ov (i6 (2 + h.Words))), o0]] [Qb z, ET h.Kind 1, Qb z, Wr ((2 : Int) + h.Words) (2 + h.Words)] [(2, i6 (2 + h.Words))] rfl ⟨rfl, et (by omega), rfl, wrI, trivial⟩ ?_
       refine e_ret [] [] (i6 (2 + h.Words)) trivial ?_
       intro w6 hw6
       refine ⟨congrArg (fun n => Ending.returned (i6 n)) (?_ : (2 + h.Words : Int) = stageOf h), back0 hw6⟩
       first
         | exact stage_a (body_a (by omega))
         | exact stage_b (by omega) (by omega) (by omega)
         | exact stage_c (by omega) (by omega) (by omega) (by omega) (by omega) (by omega)
         | exact stage_a (body_d (by omega) (by omega) (by omega) (by omega))
     · refine q_cS 5 0 [0] [[o0, (a1 1), oF, o0]] [Qb z, EF h.Kind 1] [(1, pt z), (12, .bool false)] rfl ⟨rfl, ef (by omega), trivial⟩ ?_
       by_cases h7 : (h.Kind : Int) = 2
       · by_cases h8 : (h.Depth : Int) < 1
         · refine q_cS 12 0 [0] [[o0, (a1 1), oT, o0, o0, (a1 1), oF, o0, o0, o0, o0], [o0]] [Qb z, ET h.Kind 2, Qb z, BF ((h.Depth : Int) ≥ 1)] [(2, i6 0)] rfl ⟨rfl, et (by omega), rfl, bf (by omega), trivial⟩ ?_
           refine e_ret [] [] (i6 0) trivial ?_
           intro w9 hw9
           refine ⟨congrArg (fun n => Ending.returned (i6 n)) (?_ : (0 : Int) = stageOf h), back0 hw9⟩
           first
             | exact stage_a (body_a (by omega))
             | exact stage_b (by omega) (by omega) (by omega)
             | exact stage_c (by omega) (by omega) (by omega) (by omega) (by omega) (by omega)
             | exact stage_a (body_d (by omega) (by omega) (by omega) (by omega))
         · by_cases h10 : (8 : Int) < h.Depth
           · refine q_cS 12 0 [0] [[o0, (a1 1), oT, o0, o0, (a1 1), oT, o0, o0, o0, (a1 1), oF, o0, o0], [o0]] [Qb z, ET h.Kind 2, Qb z, BT ((h.Depth : Int) ≥ 1), Qb z, BF ((h.Depth : Int) ≤ 8)] [(2, i6 0)] rfl ⟨rfl, et (by omega), rfl, bt (by omega), rfl, bf (by omega), trivial⟩ ?_
             refine e_ret [] [] (i6 0) trivial ?_
             intro w11 hw11
             refine ⟨congrArg (fun n => Ending.returned (i6 n)) (?_ : (0 : Int) = stageOf h), back0 hw11⟩
             first
               | exact stage_a (body_a (by omega))
               | exact stage_b (by omega) (by omega) (by omega)
               | exact stage_c (by omega) (by omega) (by omega) (by omega) (by omega) (by omega)
               | exact stage_a (body_d (by omega) (by omega) (by omega) (by omega))
           · refine q_cS 6 0 [1] [[o0, (a1 1), oT, o0, o0, (a1 1), oT, o0, o0, o0, (a1 1), oT, o0, o0]] [Qb z, ET h.Kind 2, Qb z, BT ((h.Depth : Int) ≥ 1), Qb z, BT ((h.Depth : Int) ≤ 8)] [(1, pt z), (19, .bool true)] rfl ⟨rfl, et (by omega), rfl, bt (by omega), rfl, bt (by omega), trivial⟩ ?_
             have hm12 := mul_bd (a := h.Depth) (b := 1 + h.Words) (by omega) (by omega) (by omega) (by omega)
             refine q_rS 3 0 [] [[o0, (a1 1), o0, (a1 1), (ov (i6 (1 + h.Words))), (ov (i6 (h.Depth * (1 + h.Words)))), (ov (i6 (1 + (h.Depth * (1 + h.Words))))), o0]] [Qb z, Qb z, Wr ((1 : Int) + h.Words) (1 + h.Words), Wr ((h.Depth : Int) * (1 + h.Words)) (h.Depth * (1 + h.Words)), Wr ((1 : Int) + (h.Depth * (1 + h.Words))) (1 + (h.Depth * (1 + h.Words)))] [(2, i6 (1 + (h.Depth * (1 + h.Words))))] rfl ⟨rfl, rfl, wrI, wrI, wrI, trivial⟩ ?_
             refine e_ret [] [] (i6 (1 + (h.Depth * (1 + h.Words)))) trivial ?_
             intro w13 hw13
             refine ⟨congrArg (fun n => Ending.returned (i6 n)) (?_ : (1 + (h.Depth * (1 + h.Words)) : Int) = stageOf h), back0 hw13⟩
             first
               | exact stage_a (body_a (by omega))
               | exact stage_b (by omega) (by omega) (by omega)
               | exact stage_c (by omega) (by omega) (by omega) (by omega) (by omega) (by omega)
               | exact stage_a (body_d (by omega) (by omega) (by omega) (by omega))
       · refine q_cS 12 0 [0] [[o0, (a1 1), oF, o0, o0, o0, o0, o0], [o0]] [Qb z, EF h.Kind 2] [(2, i6 0)] rfl ⟨rfl, ef (by omega), trivial⟩ ?_
         refine e_ret [] [] (i6 0) trivial ?_
         intro w14 hw14
         refine ⟨congrArg (fun n => Ending.returned (i6 n)) (?_ : (0 : Int) = stageOf h), back0 hw14⟩
         first
           | exact stage_a (body_a (by omega))
           | exact stage_b (by omega) (by omega) (by omega)
           | exact stage_c (by omega) (by omega) (by omega) (by omega) (by omega) (by omega)
           | exact stage_a (body_d (by omega) (by omega) (by omega) (by omega))
theorem body_calls (w : World) (h : TChannel) (hh : TChannel.ok Any w h) : Calls Tryd.prog 85 #[.agg (TChannel.arr h)] w fun e w' => e = .returned (.int .i64 (bodyOf h)) ∧ Keeps (fun _ => False) w w' := by
 obtain ⟨z, hz⟩ : ∃ z, z = w.heap.size := ⟨_, rfl⟩
 refine calls_G (args := [.agg (TChannel.arr h)]) 35 ⟨w, z, [(old0 w)]⟩ Tryd.func85 rfl (by kernel_rfl) (by kernel_rfl) (sat_0 hz) ?_
 refine g_keep [0] [(0, .agg (TChannel.arr h))] ?_
 refine q_c 6 0 [] [[o0, o0]] [] [(1, pt z)] ⟨w, z + 1, [(old0 w), (bk z (TChannel.arr h) 55)]⟩ rfl trivial ?_
 by_cases h1 : (h.Words : Int) < 1
 · refine q_cS 9 0 [1] [[o0, (a1 1), oT, o0, o0], [o0]] [Qb z, BT ((h.Words : Int) < 1)] [(2, i6 0)] rfl ⟨rfl, bt (by omega), trivial⟩ ?_
   refine e_ret [] [] (i6 0) trivial ?_
   intro w2 hw2
   refine ⟨congrArg (fun n => Ending.returned (i6 n)) (?_ : (0 : Int) = bodyOf h), back0 hw2⟩
   first
     | exact (body_a (by omega)).symm
     | exact (body_b (by omega) (by omega) (by omega)).symm
     | exact (body_c (by omega) (by omega) (by omega) (by omega) (by omega) (by omega)).symm
     | exact (body_d (by omega) (by omega) (by omega) (by omega)).symm
 · by_cases h3 : (16 : Int) < h.Words
   · refine q_cS 9 0 [1] [[o0, (a1 1), oF, o0, o0, (a1 1), oT, o0], [o0]] [Qb z, BF ((h.Words : Int) < 1), Qb z, BT ((h.Words : Int) > 16)] [(2, i6 0)] rfl ⟨rfl, bf (by omega), rfl, bt (by omega), trivial⟩ ?_
     refine e_ret [] [] (i6 0) trivial ?_
     intro w4 hw4
     refine ⟨congrArg (fun n => Ending.returned (i6 n)) (?_ : (0 : Int) = bodyOf h), back0 hw4⟩
     first
       | exact (body_a (by omega)).symm
       | exact (body_b (by omega) (by omega) (by omega)).symm
       | exact (body_c (by omega) (by omega) (by omega) (by omega) (by omega) (by omega)).symm
       | exact (body_d (by omega) (by omega) (by omega) (by omega)).symm
   · refine q_cS 8 0 [0] [[o0, (a1 1), oF, o0, o0, (a1 1), oF, o0]] [Qb z, BF ((h.Words : Int) < 1), Qb z, BF ((h.Words : Int) > 16)] [(1, pt z), (10, .bool false)] rfl ⟨rfl, bf (by omega), rfl, bf (by omega), trivial⟩ ?_
     by_cases h5 : (h.Kind : Int) = 1
     · refine q_cS 9 0 [1] [[o0, (a1 1), oT], [o0, (a1 1), o0]] [Qb z, ET h.Kind 1, Qb z] [(2, i6 h.Words)] rfl ⟨rfl, et (by omega), rfl, trivial⟩ ?_
       refine e_ret [] [] (i6 h.Words) trivial ?_
       intro w6 hw6
       refine ⟨congrArg (fun n => Ending.returned (i6 n)) (?_ : (h.Words : Int) = bodyOf h), back0 hw6⟩
       first
         | exact (body_a (by omega)).symm
         | exact (body_b (by omega) (by omega) (by omega)).symm
         | exact (body_c (by omega) (by omega) (by omega) (by omega) (by omega) (by omega)).symm
         | exact (body_d (by omega) (by omega) (by omega) (by omega)).symm
     · refine q_cS 8 0 [0] [[o0, (a1 1), oF]] [Qb z, EF h.Kind 1] [(1, pt z), (13, .bool false)] rfl ⟨rfl, ef (by omega), trivial⟩ ?_
       by_cases h7 : (h.Kind : Int) = 2
       · by_cases h8 : (h.Depth : Int) < 1
         · refine q_cS 11 0 [0] [[o0, (a1 1), oT, o0, o0, (a1 1), oF, o0, o0, o0], [o0]] [Qb z, ET h.Kind 2, Qb z, BF ((h.Depth : Int) ≥ 1)] [(2, i6 0)] rfl ⟨rfl, et (by omega), rfl, bf (by omega), trivial⟩ ?_
           refine e_ret [] [] (i6 0) trivial ?_
           intro w9 hw9
           refine ⟨congrArg (fun n => Ending.returned (i6 n)) (?_ : (0 : Int) = bodyOf h), back0 hw9⟩
           first
             | exact (body_a (by omega)).symm
             | exact (body_b (by omega) (by omega) (by omega)).symm
             | exact (body_c (by omega) (by omega) (by omega) (by omega) (by omega) (by omega)).symm
             | exact (body_d (by omega) (by omega) (by omega) (by omega)).symm
         · by_cases h10 : (8 : Int) < h.Depth
           · refine q_cS 11 0 [0] [[o0, (a1 1), oT, o0, o0, (a1 1), oT, o0, o0, o0, (a1 1), oF, o0], [o0]] [Qb z, ET h.Kind 2, Qb z, BT ((h.Depth : Int) ≥ 1), Qb z, BF ((h.Depth : Int) ≤ 8)] [(2, i6 0)] rfl ⟨rfl, et (by omega), rfl, bt (by omega), rfl, bf (by omega), trivial⟩ ?_
             refine e_ret [] [] (i6 0) trivial ?_
             intro w11 hw11
             refine ⟨congrArg (fun n => Ending.returned (i6 n)) (?_ : (0 : Int) = bodyOf h), back0 hw11⟩
             first
               | exact (body_a (by omega)).symm
               | exact (body_b (by omega) (by omega) (by omega)).symm
               | exact (body_c (by omega) (by omega) (by omega) (by omega) (by omega) (by omega)).symm
               | exact (body_d (by omega) (by omega) (by omega) (by omega)).symm
           · refine q_cS 6 0 [1] [[o0, (a1 1), oT, o0, o0, (a1 1), oT, o0, o0, o0, (a1 1), oT, o0]] [Qb z, ET h.Kind 2, Qb z, BT ((h.Depth : Int) ≥ 1), Qb z, BT ((h.Depth : Int) ≤ 8)] [(1, pt z), (28, .bool true)] rfl ⟨rfl, et (by omega), rfl, bt (by omega), rfl, bt (by omega), trivial⟩ ?_
             have hm12 := mul_bd (a := h.Depth) (b := 1 + h.Words) (by omega) (by omega) (by omega) (by omega)
             refine q_rS 3 0 [] [[o0, (a1 1), o0, (a1 1), (ov (i6 (1 + h.Words))), (ov (i6 (h.Depth * (1 + h.Words)))), o0]] [Qb z, Qb z, Wr ((1 : Int) + h.Words) (1 + h.Words), Wr ((h.Depth : Int) * (1 + h.Words)) (h.Depth * (1 + h.Words))] [(2, i6 (h.Depth * (1 + h.Words)))] rfl ⟨rfl, rfl, wrI, wrI, trivial⟩ ?_
             refine e_ret [] [] (i6 (h.Depth * (1 + h.Words))) trivial ?_
             intro w13 hw13
             refine ⟨congrArg (fun n => Ending.returned (i6 n)) (?_ : (h.Depth * (1 + h.Words) : Int) = bodyOf h), back0 hw13⟩
             first
               | exact (body_a (by omega)).symm
               | exact (body_b (by omega) (by omega) (by omega)).symm
               | exact (body_c (by omega) (by omega) (by omega) (by omega) (by omega) (by omega)).symm
               | exact (body_d (by omega) (by omega) (by omega) (by omega)).symm
       · refine q_cS 11 0 [0] [[o0, (a1 1), oF, o0, o0, o0, o0], [o0]] [Qb z, EF h.Kind 2] [(2, i6 0)] rfl ⟨rfl, ef (by omega), trivial⟩ ?_
         refine e_ret [] [] (i6 0) trivial ?_
         intro w14 hw14
         refine ⟨congrArg (fun n => Ending.returned (i6 n)) (?_ : (0 : Int) = bodyOf h), back0 hw14⟩
         first
           | exact (body_a (by omega)).symm
           | exact (body_b (by omega) (by omega) (by omega)).symm
           | exact (body_c (by omega) (by omega) (by omega) (by omega) (by omega) (by omega)).symm
           | exact (body_d (by omega) (by omega) (by omega) (by omega)).symm
theorem rstage_calls (w : World) (h : TChannel) (hh : TChannel.ok Any w h) : Calls Tryd.prog 83 #[.agg (TChannel.arr h)] w fun e w' => e = .returned (.int .i64 (stageOf h)) ∧ Keeps (fun _ => False) w w' := by
 obtain ⟨z, hz⟩ : ∃ z, z = w.heap.size := ⟨_, rfl⟩
 refine calls_G (args := [.agg (TChannel.arr h)]) 16 ⟨w, z, [(old0 w)]⟩ Tryd.func83 rfl (by kernel_rfl) (by kernel_rfl) (sat_0 hz) ?_
 have hbd := body_bd h; have hsd := stage_bd h; have hwd := body_w h
 refine g_keep [0] [(0, .agg (TChannel.arr h))] ?_
 refine q_c 6 1 [] [[o0, o0], [(an 3 1)]] [Qb z, Qb z, Qb z] [(1, pt z), (4, .agg (TChannel.arr h))] ⟨w, z + 1, [(old0 w), (bk z (TChannel.arr h) 55)]⟩ rfl ⟨rfl, rfl, rfl, trivial⟩ ?_
 refine l_call [] [] 85 #[.agg (TChannel.arr h)] (some 5) trivial ?_
 intro w1 hw1
 refine (body_calls w1 h (hh.ext (hw1.ext rfl) (fun _ h => h))).mono ?_
 rintro e w2 ⟨rfl, hkw2⟩
 have hnw2 : z + 1 ≤ w2.heap.size := size_of hw1 hkw2
 refine ⟨_, _, rfl, hw1.keeps hkw2, ?_⟩
 refine q_rS 4 0 [] [[o0]] [] [(1, pt z), (3, i6 (bodyOf h))] rfl trivial ?_
 by_cases h3 : (bodyOf h : Int) = 0
 · refine q_cS 9 0 [1] [[o0, oT], [o0]] [ET (bodyOf h) 0] [(2, i6 0)] rfl ⟨et (by omega), trivial⟩ ?_
   refine e_ret [] [] (i6 0) trivial ?_
   intro w4 hw4
   refine ⟨congrArg (fun n => Ending.returned (i6 n)) (?_ : (0 : Int) = stageOf h), back0 hw4⟩
   unfold stageOf
   first
     | (rw [if_pos (by omega)])
     | (rw [if_neg (by omega), if_pos (by omega)])
     | (rw [if_neg (by omega), if_neg (by omega)])
 · refine q_cS 8 0 [0] [[o0, oF]] [EF (bodyOf h) 0] [(1, pt z), (3, i6 (bodyOf h)), (7, .bool false)] rfl ⟨ef (by omega), trivial⟩ ?_
   by_cases h5 : (h.Kind : Int) = 1
   · refine q_cS 9 0 [1] [[o0, (a1 1), oT], [o0, (a1 1), (ov (i6 (2 + h.Words))), o0]] [Qb z, ET h.Kind 1, Qb z, Wr ((2 : Int) + h.Words) (2 + h.Words)] [(2, i6 (2 + h.Words))] rfl ⟨rfl, et (by omega), rfl, wrI, trivial⟩ ?_
     refine e_ret [] [] (i6 (2 + h.Words)) trivial ?_
     intro w6 hw6
     refine ⟨congrArg (fun n => Ending.returned (i6 n)) (?_ : (2 + h.Words : Int) = stageOf h), back0 hw6⟩
     unfold stageOf
     first
       | (rw [if_pos (by omega)])
       | (rw [if_neg (by omega), if_pos (by omega)])
       | (rw [if_neg (by omega), if_neg (by omega)])
   · refine q_cS 11 0 [0] [[o0, (a1 1), oF], [o0, (ov (i6 (1 + (bodyOf h)))), o0]] [Qb z, EF h.Kind 1, Wr ((1 : Int) + (bodyOf h)) (1 + (bodyOf h))] [(2, i6 (1 + (bodyOf h)))] rfl ⟨rfl, ef (by omega), wrI, trivial⟩ ?_
     refine e_ret [] [] (i6 (1 + (bodyOf h))) trivial ?_
     intro w7 hw7
     refine ⟨congrArg (fun n => Ending.returned (i6 n)) (?_ : (1 + (bodyOf h) : Int) = stageOf h), back0 hw7⟩
     unfold stageOf
     first
       | (rw [if_pos (by omega)])
       | (rw [if_neg (by omega), if_pos (by omega)])
       | (rw [if_neg (by omega), if_neg (by omega)])
theorem rport_calls (w : World) (h : TChannel) (hh : TChannel.ok Any w h) : Calls Tryd.prog 81 #[.agg (TChannel.arr h)] w fun e w' => e = .returned (.int .i64 (portOf h)) ∧ Keeps (fun _ => False) w w' := by
 obtain ⟨z, hz⟩ : ∃ z, z = w.heap.size := ⟨_, rfl⟩
 refine calls_G (args := [.agg (TChannel.arr h)]) 10 ⟨w, z, [(old0 w)]⟩ Tryd.func81 rfl (by kernel_rfl) (by kernel_rfl) (sat_0 hz) ?_
 have hbd := body_bd h; have hsd := stage_bd h; have hwd := body_w h
 refine g_keep [0] [(0, .agg (TChannel.arr h))] ?_
 refine q_c 6 1 [] [[o0, o0], [(an 3 1)]] [Qb z, Qb z, Qb z] [(4, .agg (TChannel.arr h))] ⟨w, z + 1, [(old0 w), (bk z (TChannel.arr h) 55)]⟩ rfl ⟨rfl, rfl, rfl, trivial⟩ ?_
 refine l_call [] [] 85 #[.agg (TChannel.arr h)] (some 5) trivial ?_
 intro w1 hw1
 refine (body_calls w1 h (hh.ext (hw1.ext rfl) (fun _ h => h))).mono ?_
 rintro e w2 ⟨rfl, hkw2⟩
 have hnw2 : z + 1 ≤ w2.heap.size := size_of hw1 hkw2
 refine ⟨_, _, rfl, hw1.keeps hkw2, ?_⟩
 refine q_rS 4 0 [] [[o0]] [] [(3, i6 (bodyOf h))] rfl trivial ?_
 by_cases h3 : (bodyOf h : Int) = 0
 · refine q_cS 9 0 [1] [[o0, oT], [o0]] [ET (bodyOf h) 0] [(2, i6 0)] rfl ⟨et (by omega), trivial⟩ ?_
   refine e_ret [] [] (i6 0) trivial ?_
   intro w4 hw4
   refine ⟨congrArg (fun n => Ending.returned (i6 n)) (?_ : (0 : Int) = portOf h), back0 hw4⟩
   unfold portOf
   first
     | (rw [if_pos (by omega)])
     | (rw [if_neg (by omega)])
 · refine q_cS 11 0 [0] [[o0, oF], [o0, (ov (i6 (3 + (bodyOf h)))), o0]] [EF (bodyOf h) 0, Wr ((3 : Int) + (bodyOf h)) (3 + (bodyOf h))] [(2, i6 (3 + (bodyOf h)))] rfl ⟨ef (by omega), wrI, trivial⟩ ?_
   refine e_ret [] [] (i6 (3 + (bodyOf h))) trivial ?_
   intro w5 hw5
   refine ⟨congrArg (fun n => Ending.returned (i6 n)) (?_ : (3 + (bodyOf h) : Int) = portOf h), back0 hw5⟩
   unfold portOf
   first
     | (rw [if_pos (by omega)])
     | (rw [if_neg (by omega)])
theorem port_calls (w : World) (h : TChannel) (hh : TChannel.ok Any w h) : Calls Tryd.prog 60 #[.agg (TChannel.arr h)] w fun e w' => e = .returned (.int .i64 (portOf h)) ∧ Keeps (fun _ => False) w w' := by
 obtain ⟨z, hz⟩ : ∃ z, z = w.heap.size := ⟨_, rfl⟩
 refine calls_G (args := [.agg (TChannel.arr h)]) 17 ⟨w, z, [(old0 w)]⟩ Tryd.func60 rfl (by kernel_rfl) (by kernel_rfl) (sat_0 hz) ?_
 have hbd := body_bd h; have hsd := stage_bd h; have hwd := body_w h; have hsp := stage_port h
 refine g_keep [0] [(0, .agg (TChannel.arr h))] ?_
 refine q_c 6 1 [] [[o0, o0], [(an 3 1)]] [Qb z, Qb z, Qb z] [(1, pt z), (4, .agg (TChannel.arr h))] ⟨w, z + 1, [(old0 w), (bk z (TChannel.arr h) 55)]⟩ rfl ⟨rfl, rfl, rfl, trivial⟩ ?_
 refine l_call [] [] 59 #[.agg (TChannel.arr h)] (some 5) trivial ?_
 intro w1 hw1
 refine (stage_calls w1 h (hh.ext (hw1.ext rfl) (fun _ h => h))).mono ?_
 rintro e w2 ⟨rfl, hkw2⟩
 have hnw2 : z + 1 ≤ w2.heap.size := size_of hw1 hkw2
 refine ⟨_, _, rfl, hw1.keeps hkw2, ?_⟩
 refine q_rS 4 0 [] [[o0]] [] [(1, pt z), (3, i6 (stageOf h))] rfl trivial ?_
 by_cases h3 : (stageOf h : Int) = 0
 · refine q_cS 9 0 [1] [[o0, oT, o0], [o0]] [ET (stageOf h) 0] [(2, i6 0)] rfl ⟨et (by omega), trivial⟩ ?_
   refine e_ret [] [] (i6 0) trivial ?_
   intro w4 hw4
   refine ⟨congrArg (fun n => Ending.returned (i6 n)) (?_ : (0 : Int) = portOf h), back0 hw4⟩
   first
     | (have := hsp.1 (by omega); omega)
     | exact port_b (by omega) (by omega)
     | exact port_c (by omega) (by omega)
 · refine q_cS 5 0 [0] [[o0, oF, o0]] [EF (stageOf h) 0] [(1, pt z), (3, i6 (stageOf h)), (8, .bool false)] rfl ⟨ef (by omega), trivial⟩ ?_
   by_cases h5 : (h.Kind : Int) = 1
   · refine q_cS 9 0 [1] [[o0, (a1 1), oT, o0], [o0, (ov (i6 ((stageOf h) + 1))), o0]] [Qb z, ET h.Kind 1, Wr ((stageOf h : Int) + 1) ((stageOf h) + 1)] [(2, i6 ((stageOf h) + 1))] rfl ⟨rfl, et (by omega), wrI, trivial⟩ ?_
     refine e_ret [] [] (i6 ((stageOf h) + 1)) trivial ?_
     intro w6 hw6
     refine ⟨congrArg (fun n => Ending.returned (i6 n)) (?_ : ((stageOf h) + 1 : Int) = portOf h), back0 hw6⟩
     first
       | (have := hsp.1 (by omega); omega)
       | exact port_b (by omega) (by omega)
       | exact port_c (by omega) (by omega)
   · refine q_cS 9 0 [0] [[o0, (a1 1), oF, o0], [o0, (ov (i6 ((stageOf h) + 2))), o0]] [Qb z, EF h.Kind 1, Wr ((stageOf h : Int) + 2) ((stageOf h) + 2)] [(2, i6 ((stageOf h) + 2))] rfl ⟨rfl, ef (by omega), wrI, trivial⟩ ?_
     refine e_ret [] [] (i6 ((stageOf h) + 2)) trivial ?_
     intro w7 hw7
     refine ⟨congrArg (fun n => Ending.returned (i6 n)) (?_ : ((stageOf h) + 2 : Int) = portOf h), back0 hw7⟩
     first
       | (have := hsp.1 (by omega); omega)
       | exact port_b (by omega) (by omega)
       | exact port_c (by omega) (by omega)

end Go.Proofs.YtnjhekfgmbpmlaaDoor.Ly
