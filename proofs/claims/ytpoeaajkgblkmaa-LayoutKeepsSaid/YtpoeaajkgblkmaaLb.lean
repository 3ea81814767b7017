/- layout: Stage; the document's body. No conditions. -/
import Derived.Test.YtpoeaajkgblkmaaLa
namespace Go.Proofs.Ytpoeaajkgblkmaa.Ly
open Go Go.Proofs.Ytpoeaajkgblkmaa.Eng Go.Proofs.Ytpoeaajkgblkmaa.Mem
set_option linter.unusedSimpArgs false
set_option linter.unusedVariables false
set_option maxRecDepth 100000

def bodyOf (h : TChannel) : Int := if h.Words < 1 ∨ h.Words > 16 then 0 else if h.Kind = 1 then h.Words else if h.Kind = 2 ∧ 1 ≤ h.Depth ∧ h.Depth ≤ 8 then h.Depth * (1 + h.Words) else 0
def stageOf (h : TChannel) : Int := if bodyOf h = 0 then 0 else if h.Kind = 1 then 2 + h.Words else 1 + bodyOf h
def portOf (h : TChannel) : Int := if bodyOf h = 0 then 0 else 3 + bodyOf h
theorem body_bd (h : TChannel) : 0 ≤ bodyOf h ∧ bodyOf h ≤ 136 := by
  unfold bodyOf
  split
  · omega
  · split
    · omega
    · split
      · rename_i h1 h2 h3
        have hd : h.Depth = 1 ∨ h.Depth = 2 ∨ h.Depth = 3 ∨ h.Depth = 4 ∨ h.Depth = 5 ∨ h.Depth = 6 ∨ h.Depth = 7 ∨ h.Depth = 8 := by omega
        rcases hd with e | e | e | e | e | e | e | e <;> rw [e] <;> omega
      · omega
theorem body_a {h : TChannel} (h1 : h.Words < 1 ∨ h.Words > 16) : bodyOf h = 0 := by unfold bodyOf; rw [if_pos h1]
theorem body_b {h : TChannel} (h1 : ¬ h.Words < 1) (h2 : ¬ 16 < h.Words) (h3 : h.Kind = 1) : bodyOf h = h.Words := by unfold bodyOf; rw [if_neg (by omega), if_pos h3]
theorem body_c {h : TChannel} (h1 : ¬ h.Words < 1) (h2 : ¬ 16 < h.Words) (h3 : ¬ h.Kind = 1) (h4 : h.Kind = 2) (h5 : 1 ≤ h.Depth) (h6 : h.Depth ≤ 8) : bodyOf h = h.Depth * (1 + h.Words) := by unfold bodyOf; rw [if_neg (by omega), if_neg h3, if_pos ⟨h4, h5, h6⟩]
theorem body_d {h : TChannel} (h1 : ¬ h.Words < 1) (h2 : ¬ 16 < h.Words) (h3 : ¬ h.Kind = 1) (h4 : ¬ (h.Kind = 2 ∧ 1 ≤ h.Depth ∧ h.Depth ≤ 8)) : bodyOf h = 0 := by unfold bodyOf; rw [if_neg (by omega), if_neg h3, if_neg h4]
theorem body_w (h : TChannel) : bodyOf h = 0 ∨ (1 ≤ h.Words ∧ h.Words ≤ 16) := by
  unfold bodyOf; split
  · exact .inl rfl
  · right; omega
theorem stage_a {h : TChannel} (h1 : bodyOf h = 0) : 0 = stageOf h := by unfold stageOf; rw [if_pos h1]
theorem stage_b {h : TChannel} (h1 : ¬ h.Words < 1) (h2 : ¬ 16 < h.Words) (h3 : h.Kind = 1) : 2 + h.Words = stageOf h := by unfold stageOf; rw [body_b h1 h2 h3, if_neg (by omega), if_pos h3]
theorem stage_c {h : TChannel} (h1 : ¬ h.Words < 1) (h2 : ¬ 16 < h.Words) (h3 : ¬ h.Kind = 1) (h4 : h.Kind = 2) (h5 : 1 ≤ h.Depth) (h6 : h.Depth ≤ 8) : 1 + h.Depth * (1 + h.Words) = stageOf h := by
  unfold stageOf; rw [body_c h1 h2 h3 h4 h5 h6, if_neg ?_, if_neg h3]
  have := Int.mul_pos (show 0 < h.Depth by omega) (show 0 < 1 + h.Words by omega)
  omega
theorem stage_bd (h : TChannel) : 0 ≤ stageOf h ∧ stageOf h ≤ 137 := by
  have hb := body_bd h
  unfold stageOf
  split
  · omega
  · split
    · rename_i h1 h2
      unfold bodyOf at h1
      split at h1
      · exact absurd rfl h1
      · omega
    · omega
theorem port_bd (h : TChannel) : 0 ≤ portOf h ∧ portOf h ≤ 139 := by
  have hb := body_bd h
  unfold portOf
  split <;> omega
theorem stage_port (h : TChannel) : stageOf h = 0 ↔ portOf h = 0 := by
  have hb := body_bd h
  unfold stageOf portOf
  split
  · simp
  · split
    · rename_i h1 h2
      unfold bodyOf at h1 hb
      constructor
      · intro e
        split at h1
        · exact absurd rfl h1
        · omega
      · intro e; exfalso; unfold bodyOf at e; omega
    · omega
theorem port_b {h : TChannel} (h1 : ¬ stageOf h = 0) (h2 : h.Kind = 1) : stageOf h + 1 = portOf h := by
  unfold stageOf portOf at *
  split at h1
  · exact absurd rfl h1
  · rename_i hb
    rw [if_neg hb, if_neg hb, if_pos h2]
    unfold bodyOf at hb ⊢
    split at hb
    · exact absurd rfl hb
    · rename_i h3
      rw [if_neg h3, if_pos h2]; omega
theorem port_c {h : TChannel} (h1 : ¬ stageOf h = 0) (h2 : ¬ h.Kind = 1) : stageOf h + 2 = portOf h := by
  unfold stageOf portOf at *
  split at h1
  · exact absurd rfl h1
  · rename_i hb
    rw [if_neg hb, if_neg hb, if_neg h2]; omega
abbrev qdsb_0 (z : Nat) (h : TChannel) : Ch := .blk z (.cells (TChannel.arr h) 23 (0, 0)) true
theorem stage_calls (w : World) (h : TChannel) (hh : TChannel.ok Any w h) : Calls Try.prog 11 #[.agg (TChannel.arr h)] w fun e w' => e = .returned (.int .i64 (stageOf h)) ∧ Keeps (fun _ => False) w w' := by
 obtain ⟨z, hz⟩ : ∃ z, z = w.heap.size := ⟨_, rfl⟩
 refine calls_G (args := [.agg (TChannel.arr h)]) 40 ⟨w, z, [(old0 w)]⟩ Try.func11 rfl (by kernel_rfl) (by kernel_rfl) (sat_0 hz) ?_
 refine g_keep [0] [(0, .agg (TChannel.arr h))] ?_
 refine g_seq <| g_region <| l_all 2 [o0, o0] [1] [] [(1, .pointer (some ⟨z, 0, none⟩))] ⟨w, z + 1, [(old0 w), (qdsb_0 z h)]⟩ trivial ?_
 refine e_seq <| g_seq <| g_block <| g_seq ?_
 by_cases h1 : (h.Words : Int) < 1
 · refine g_region <| l_all 9 [o0, (oa [.at 1]), oT, o0, o0, o0] [1, 3] [Qb z, BT ((h.Words : Int) < 1)] [(1, .pointer (some ⟨z, 0, none⟩)), (3, .bool true)] ⟨w, z + 1, [(old0 w), (qdsb_0 z h)]⟩ ⟨rfl, bt (by omega), trivial⟩ ?_
   refine e_seq <| g_true <| g_seq <| g_region <| l_all 1 [o0] [2] [] [(2, .int .i64 0)] ⟨w, z + 1, [(old0 w), (qdsb_0 z h)]⟩ trivial ?_
   refine e_seq <| g_ret <| e_ret [] [] (.int .i64 0) trivial ?_
   intro w2 hw2
   refine ⟨congrArg (fun n => Ending.returned (Value.int .i64 n)) (?_ : (0 : Int) = stageOf h), hw2.back rfl (show w.heap.size ≤ z + 1 by omega) (List.mem_cons_self ..)⟩
   first
     | exact stage_a (body_a (by omega))
     | exact stage_b (by omega) (by omega) (by omega)
     | exact stage_c (by omega) (by omega) (by omega) (by omega) (by omega) (by omega)
     | exact stage_a (body_d (by omega) (by omega) (by omega) (by omega))
 · by_cases h3 : (16 : Int) < h.Words
   · refine g_region <| l_all 9 [o0, (oa [.at 1]), oF, o0, o0, (oa [.at 1]), oT, o0, o0] [1, 3] [Qb z, BF ((h.Words : Int) < 1), Qb z, BT ((h.Words : Int) > 16)] [(1, .pointer (some ⟨z, 0, none⟩)), (3, .bool true)] ⟨w, z + 1, [(old0 w), (qdsb_0 z h)]⟩ ⟨rfl, bf (by omega), rfl, bt (by omega), trivial⟩ ?_
     refine e_seq <| g_true <| g_seq <| g_region <| l_all 1 [o0] [2] [] [(2, .int .i64 0)] ⟨w, z + 1, [(old0 w), (qdsb_0 z h)]⟩ trivial ?_
     refine e_seq <| g_ret <| e_ret [] [] (.int .i64 0) trivial ?_
     intro w4 hw4
     refine ⟨congrArg (fun n => Ending.returned (Value.int .i64 n)) (?_ : (0 : Int) = stageOf h), hw4.back rfl (show w.heap.size ≤ z + 1 by omega) (List.mem_cons_self ..)⟩
     first
       | exact stage_a (body_a (by omega))
       | exact stage_b (by omega) (by omega) (by omega)
       | exact stage_c (by omega) (by omega) (by omega) (by omega) (by omega) (by omega)
       | exact stage_a (body_d (by omega) (by omega) (by omega) (by omega))
   · refine g_region <| l_all 9 [o0, (oa [.at 1]), oF, o0, o0, (oa [.at 1]), oF, o0, o0] [1, 3] [Qb z, BF ((h.Words : Int) < 1), Qb z, BF ((h.Words : Int) > 16)] [(1, .pointer (some ⟨z, 0, none⟩)), (3, .bool false)] ⟨w, z + 1, [(old0 w), (qdsb_0 z h)]⟩ ⟨rfl, bf (by omega), rfl, bf (by omega), trivial⟩ ?_
     refine e_seq <| g_false <| g_seq ?_
     by_cases h5 : (h.Kind : Int) = 1
     · refine g_region <| l_all 4 [o0, (oa [.at 1]), oT, o0] [1, 12] [Qb z, ET h.Kind 1] [(1, .pointer (some ⟨z, 0, none⟩)), (12, .bool true)] ⟨w, z + 1, [(old0 w), (qdsb_0 z h)]⟩ ⟨rfl, et (by omega), trivial⟩ ?_
       refine e_seq <| g_true <| g_seq <| g_region <| l_all 4 [o0, (oa [.at 1]), (ov (.int .i64 (2 + h.Words))), o0] [2] [Qb z, Value.int .i64 (IntKind.i64.wrap ((2 : Int) + h.Words)) = Value.int .i64 (2 + h.Words)] [(2, .int .i64 (2 + h.Words))] ⟨w, z + 1, [(old0 w), (qdsb_0 z h)]⟩ ⟨rfl, congrArg (Value.int .i64) (wr_i64 (by omega) (by omega) (by omega)), trivial⟩ ?_
       refine e_seq <| g_ret <| e_ret [] [] (.int .i64 (2 + h.Words)) trivial ?_
       intro w6 hw6
       refine ⟨congrArg (fun n => Ending.returned (Value.int .i64 n)) (?_ : (2 + h.Words : Int) = stageOf h), hw6.back rfl (show w.heap.size ≤ z + 1 by omega) (List.mem_cons_self ..)⟩
       first
         | exact stage_a (body_a (by omega))
         | exact stage_b (by omega) (by omega) (by omega)
         | exact stage_c (by omega) (by omega) (by omega) (by omega) (by omega) (by omega)
         | exact stage_a (body_d (by omega) (by omega) (by omega) (by omega))
     · refine g_region <| l_all 4 [o0, (oa [.at 1]), oF, o0] [1, 12] [Qb z, EF h.Kind 1] [(1, .pointer (some ⟨z, 0, none⟩)), (12, .bool false)] ⟨w, z + 1, [(old0 w), (qdsb_0 z h)]⟩ ⟨rfl, ef (by omega), trivial⟩ ?_
       refine e_seq <| g_false <| g_seq ?_
       by_cases h7 : (h.Kind : Int) = 2
       · by_cases h8 : (h.Depth : Int) < 1
         · refine g_region <| l_all 14 [o0, (oa [.at 1]), oT, o0, o0, (oa [.at 1]), oF, o0, o0, o0, o0] [1, 19] [Qb z, ET h.Kind 2, Qb z, BF ((h.Depth : Int) ≥ 1)] [(1, .pointer (some ⟨z, 0, none⟩)), (19, .bool false)] ⟨w, z + 1, [(old0 w), (qdsb_0 z h)]⟩ ⟨rfl, et (by omega), rfl, bf (by omega), trivial⟩ ?_
           refine e_seq <| g_false <| g_skip <| e_blk <| e_seq <| g_seq <| g_region <| l_all 1 [o0] [2] [] [(2, .int .i64 0)] ⟨w, z + 1, [(old0 w), (qdsb_0 z h)]⟩ trivial ?_
           refine e_seq <| g_ret <| e_ret [] [] (.int .i64 0) trivial ?_
           intro w9 hw9
           refine ⟨congrArg (fun n => Ending.returned (Value.int .i64 n)) (?_ : (0 : Int) = stageOf h), hw9.back rfl (show w.heap.size ≤ z + 1 by omega) (List.mem_cons_self ..)⟩
           first
             | exact stage_a (body_a (by omega))
             | exact stage_b (by omega) (by omega) (by omega)
             | exact stage_c (by omega) (by omega) (by omega) (by omega) (by omega) (by omega)
             | exact stage_a (body_d (by omega) (by omega) (by omega) (by omega))
         · by_cases h10 : (8 : Int) < h.Depth
           · refine g_region <| l_all 14 [o0, (oa [.at 1]), oT, o0, o0, (oa [.at 1]), oT, o0, o0, o0, (oa [.at 1]), oF, o0, o0] [1, 19] [Qb z, ET h.Kind 2, Qb z, BT ((h.Depth : Int) ≥ 1), Qb z, BF ((h.Depth : Int) ≤ 8)] [(1, .pointer (some ⟨z, 0, none⟩)), (19, .bool false)] ⟨w, z + 1, [(old0 w), (qdsb_0 z h)]⟩ ⟨rfl, et (by omega), rfl, bt (by omega), rfl, bf (by omega), trivial⟩ ?_
             refine e_seq <| g_false <| g_skip <| e_blk <| e_seq <| g_seq <| g_region <| l_all 1 [o0] [2] [] [(2, .int .i64 0)] ⟨w, z + 1, [(old0 w), (qdsb_0 z h)]⟩ trivial ?_
             refine e_seq <| g_ret <| e_ret [] [] (.int .i64 0) trivial ?_
             intro w11 hw11
             refine ⟨congrArg (fun n => Ending.returned (Value.int .i64 n)) (?_ : (0 : Int) = stageOf h), hw11.back rfl (show w.heap.size ≤ z + 1 by omega) (List.mem_cons_self ..)⟩
             first
               | exact stage_a (body_a (by omega))
               | exact stage_b (by omega) (by omega) (by omega)
               | exact stage_c (by omega) (by omega) (by omega) (by omega) (by omega) (by omega)
               | exact stage_a (body_d (by omega) (by omega) (by omega) (by omega))
           · refine g_region <| l_all 14 [o0, (oa [.at 1]), oT, o0, o0, (oa [.at 1]), oT, o0, o0, o0, (oa [.at 1]), oT, o0, o0] [1, 19] [Qb z, ET h.Kind 2, Qb z, BT ((h.Depth : Int) ≥ 1), Qb z, BT ((h.Depth : Int) ≤ 8)] [(1, .pointer (some ⟨z, 0, none⟩)), (19, .bool true)] ⟨w, z + 1, [(old0 w), (qdsb_0 z h)]⟩ ⟨rfl, et (by omega), rfl, bt (by omega), rfl, bt (by omega), trivial⟩ ?_
             refine e_seq <| g_true <| g_seq <| g_region ?_
             have hm12 := mul_bd (a := h.Depth) (b := 1 + h.Words) (by omega) (by omega) (by omega) (by omega)
             refine l_all 8 [o0, (oa [.at 1]), o0, (oa [.at 1]), (ov (.int .i64 (1 + h.Words))), (ov (.int .i64 (h.Depth * (1 + h.Words)))), (ov (.int .i64 (1 + (h.Depth * (1 + h.Words))))), o0] [2] [Qb z, Qb z, Value.int .i64 (IntKind.i64.wrap ((1 : Int) + h.Words)) = Value.int .i64 (1 + h.Words), Value.int .i64 (IntKind.i64.wrap ((h.Depth : Int) * (1 + h.Words))) = Value.int .i64 (h.Depth * (1 + h.Words)), Value.int .i64 (IntKind.i64.wrap ((1 : Int) + (h.Depth * (1 + h.Words)))) = Value.int .i64 (1 + (h.Depth * (1 + h.Words)))] [(2, .int .i64 (1 + (h.Depth * (1 + h.Words))))] ⟨w, z + 1, [(old0 w), (qdsb_0 z h)]⟩ ⟨rfl, rfl, congrArg (Value.int .i64) (wr_i64 (by omega) (by omega) (by omega)), congrArg (Value.int .i64) (wr_i64 (by omega) (by omega) (by omega)), congrArg (Value.int .i64) (wr_i64 (by omega) (by omega) (by omega)), trivial⟩ ?_
             refine e_seq <| g_ret <| e_ret [] [] (.int .i64 (1 + (h.Depth * (1 + h.Words)))) trivial ?_
             intro w13 hw13
             refine ⟨congrArg (fun n => Ending.returned (Value.int .i64 n)) (?_ : (1 + (h.Depth * (1 + h.Words)) : Int) = stageOf h), hw13.back rfl (show w.heap.size ≤ z + 1 by omega) (List.mem_cons_self ..)⟩
             first
               | exact stage_a (body_a (by omega))
               | exact stage_b (by omega) (by omega) (by omega)
               | exact stage_c (by omega) (by omega) (by omega) (by omega) (by omega) (by omega)
               | exact stage_a (body_d (by omega) (by omega) (by omega) (by omega))
       · refine g_region <| l_all 14 [o0, (oa [.at 1]), oF, o0, o0, o0, o0, o0] [1, 19] [Qb z, EF h.Kind 2] [(1, .pointer (some ⟨z, 0, none⟩)), (19, .bool false)] ⟨w, z + 1, [(old0 w), (qdsb_0 z h)]⟩ ⟨rfl, ef (by omega), trivial⟩ ?_
         refine e_seq <| g_false <| g_skip <| e_blk <| e_seq <| g_seq <| g_region <| l_all 1 [o0] [2] [] [(2, .int .i64 0)] ⟨w, z + 1, [(old0 w), (qdsb_0 z h)]⟩ trivial ?_
         refine e_seq <| g_ret <| e_ret [] [] (.int .i64 0) trivial ?_
         intro w14 hw14
         refine ⟨congrArg (fun n => Ending.returned (Value.int .i64 n)) (?_ : (0 : Int) = stageOf h), hw14.back rfl (show w.heap.size ≤ z + 1 by omega) (List.mem_cons_self ..)⟩
         first
           | exact stage_a (body_a (by omega))
           | exact stage_b (by omega) (by omega) (by omega)
           | exact stage_c (by omega) (by omega) (by omega) (by omega) (by omega) (by omega)
           | exact stage_a (body_d (by omega) (by omega) (by omega) (by omega))
abbrev q01z_0 (z : Nat) (h : TChannel) : Ch := .blk z (.cells (TChannel.arr h) 23 (0, 0)) true
theorem body_calls (w : World) (h : TChannel) (hh : TChannel.ok Any w h) : Calls Try.prog 35 #[.agg (TChannel.arr h)] w fun e w' => e = .returned (.int .i64 (bodyOf h)) ∧ Keeps (fun _ => False) w w' := by
 obtain ⟨z, hz⟩ : ∃ z, z = w.heap.size := ⟨_, rfl⟩
 refine calls_G (args := [.agg (TChannel.arr h)]) 35 ⟨w, z, [(old0 w)]⟩ Try.func35 rfl (by kernel_rfl) (by kernel_rfl) (sat_0 hz) ?_
 refine g_keep [0] [(0, .agg (TChannel.arr h))] ?_
 refine g_seq <| g_region <| l_all 2 [o0, o0] [1] [] [(1, .pointer (some ⟨z, 0, none⟩))] ⟨w, z + 1, [(old0 w), (q01z_0 z h)]⟩ trivial ?_
 refine e_seq <| g_seq <| g_seq ?_
 by_cases h1 : (h.Words : Int) < 1
 · refine g_region <| l_all 8 [o0, (oa [.at 1]), oT, o0, o0] [1, 10] [Qb z, BT ((h.Words : Int) < 1)] [(1, .pointer (some ⟨z, 0, none⟩)), (10, .bool true)] ⟨w, z + 1, [(old0 w), (q01z_0 z h)]⟩ ⟨rfl, bt (by omega), trivial⟩ ?_
   refine e_seq <| g_true <| g_seq <| g_region <| l_all 1 [o0] [2] [] [(2, .int .i64 0)] ⟨w, z + 1, [(old0 w), (q01z_0 z h)]⟩ trivial ?_
   refine e_seq <| g_ret <| e_ret [] [] (.int .i64 0) trivial ?_
   intro w2 hw2
   refine ⟨congrArg (fun n => Ending.returned (Value.int .i64 n)) (?_ : (0 : Int) = bodyOf h), hw2.back rfl (show w.heap.size ≤ z + 1 by omega) (List.mem_cons_self ..)⟩
   first
     | exact (body_a (by omega)).symm
     | exact (body_b (by omega) (by omega) (by omega)).symm
     | exact (body_c (by omega) (by omega) (by omega) (by omega) (by omega) (by omega)).symm
     | exact (body_d (by omega) (by omega) (by omega) (by omega)).symm
 · by_cases h3 : (16 : Int) < h.Words
   · refine g_region <| l_all 8 [o0, (oa [.at 1]), oF, o0, o0, (oa [.at 1]), oT, o0] [1, 10] [Qb z, BF ((h.Words : Int) < 1), Qb z, BT ((h.Words : Int) > 16)] [(1, .pointer (some ⟨z, 0, none⟩)), (10, .bool true)] ⟨w, z + 1, [(old0 w), (q01z_0 z h)]⟩ ⟨rfl, bf (by omega), rfl, bt (by omega), trivial⟩ ?_
     refine e_seq <| g_true <| g_seq <| g_region <| l_all 1 [o0] [2] [] [(2, .int .i64 0)] ⟨w, z + 1, [(old0 w), (q01z_0 z h)]⟩ trivial ?_
     refine e_seq <| g_ret <| e_ret [] [] (.int .i64 0) trivial ?_
     intro w4 hw4
     refine ⟨congrArg (fun n => Ending.returned (Value.int .i64 n)) (?_ : (0 : Int) = bodyOf h), hw4.back rfl (show w.heap.size ≤ z + 1 by omega) (List.mem_cons_self ..)⟩
     first
       | exact (body_a (by omega)).symm
       | exact (body_b (by omega) (by omega) (by omega)).symm
       | exact (body_c (by omega) (by omega) (by omega) (by omega) (by omega) (by omega)).symm
       | exact (body_d (by omega) (by omega) (by omega) (by omega)).symm
   · refine g_region <| l_all 8 [o0, (oa [.at 1]), oF, o0, o0, (oa [.at 1]), oF, o0] [1, 10] [Qb z, BF ((h.Words : Int) < 1), Qb z, BF ((h.Words : Int) > 16)] [(1, .pointer (some ⟨z, 0, none⟩)), (10, .bool false)] ⟨w, z + 1, [(old0 w), (q01z_0 z h)]⟩ ⟨rfl, bf (by omega), rfl, bf (by omega), trivial⟩ ?_
     refine e_seq <| g_false <| g_skip <| e_seq <| g_seq <| g_seq ?_
     by_cases h5 : (h.Kind : Int) = 1
     · refine g_region <| l_all 3 [o0, (oa [.at 1]), oT] [1, 13] [Qb z, ET h.Kind 1] [(1, .pointer (some ⟨z, 0, none⟩)), (13, .bool true)] ⟨w, z + 1, [(old0 w), (q01z_0 z h)]⟩ ⟨rfl, et (by omega), trivial⟩ ?_
       refine e_seq <| g_true <| g_seq <| g_region <| l_all 3 [o0, (oa [.at 1]), o0] [2] [Qb z] [(2, .int .i64 h.Words)] ⟨w, z + 1, [(old0 w), (q01z_0 z h)]⟩ ⟨rfl, trivial⟩ ?_
       refine e_seq <| g_ret <| e_ret [] [] (.int .i64 h.Words) trivial ?_
       intro w6 hw6
       refine ⟨congrArg (fun n => Ending.returned (Value.int .i64 n)) (?_ : (h.Words : Int) = bodyOf h), hw6.back rfl (show w.heap.size ≤ z + 1 by omega) (List.mem_cons_self ..)⟩
       first
         | exact (body_a (by omega)).symm
         | exact (body_b (by omega) (by omega) (by omega)).symm
         | exact (body_c (by omega) (by omega) (by omega) (by omega) (by omega) (by omega)).symm
         | exact (body_d (by omega) (by omega) (by omega) (by omega)).symm
     · refine g_region <| l_all 3 [o0, (oa [.at 1]), oF] [1, 13] [Qb z, EF h.Kind 1] [(1, .pointer (some ⟨z, 0, none⟩)), (13, .bool false)] ⟨w, z + 1, [(old0 w), (q01z_0 z h)]⟩ ⟨rfl, ef (by omega), trivial⟩ ?_
       refine e_seq <| g_false <| g_skip <| e_seq <| g_seq <| g_seq ?_
       by_cases h7 : (h.Kind : Int) = 2
       · by_cases h8 : (h.Depth : Int) < 1
         · refine g_region <| l_all 13 [o0, (oa [.at 1]), oT, o0, o0, (oa [.at 1]), oF, o0, o0, o0] [1, 28] [Qb z, ET h.Kind 2, Qb z, BF ((h.Depth : Int) ≥ 1)] [(1, .pointer (some ⟨z, 0, none⟩)), (28, .bool false)] ⟨w, z + 1, [(old0 w), (q01z_0 z h)]⟩ ⟨rfl, et (by omega), rfl, bf (by omega), trivial⟩ ?_
           refine e_seq <| g_false <| g_skip <| e_seq <| g_seq <| g_region <| l_all 1 [o0] [2] [] [(2, .int .i64 0)] ⟨w, z + 1, [(old0 w), (q01z_0 z h)]⟩ trivial ?_
           refine e_seq <| g_ret <| e_ret [] [] (.int .i64 0) trivial ?_
           intro w9 hw9
           refine ⟨congrArg (fun n => Ending.returned (Value.int .i64 n)) (?_ : (0 : Int) = bodyOf h), hw9.back rfl (show w.heap.size ≤ z + 1 by omega) (List.mem_cons_self ..)⟩
           first
             | exact (body_a (by omega)).symm
             | exact (body_b (by omega) (by omega) (by omega)).symm
             | exact (body_c (by omega) (by omega) (by omega) (by omega) (by omega) (by omega)).symm
             | exact (body_d (by omega) (by omega) (by omega) (by omega)).symm
         · by_cases h10 : (8 : Int) < h.Depth
           · refine g_region <| l_all 13 [o0, (oa [.at 1]), oT, o0, o0, (oa [.at 1]), oT, o0, o0, o0, (oa [.at 1]), oF, o0] [1, 28] [Qb z, ET h.Kind 2, Qb z, BT ((h.Depth : Int) ≥ 1), Qb z, BF ((h.Depth : Int) ≤ 8)] [(1, .pointer (some ⟨z, 0, none⟩)), (28, .bool false)] ⟨w, z + 1, [(old0 w), (q01z_0 z h)]⟩ ⟨rfl, et (by omega), rfl, bt (by omega), rfl, bf (by omega), trivial⟩ ?_
             refine e_seq <| g_false <| g_skip <| e_seq <| g_seq <| g_region <| l_all 1 [o0] [2] [] [(2, .int .i64 0)] ⟨w, z + 1, [(old0 w), (q01z_0 z h)]⟩ trivial ?_
             refine e_seq <| g_ret <| e_ret [] [] (.int .i64 0) trivial ?_
             intro w11 hw11
             refine ⟨congrArg (fun n => Ending.returned (Value.int .i64 n)) (?_ : (0 : Int) = bodyOf h), hw11.back rfl (show w.heap.size ≤ z + 1 by omega) (List.mem_cons_self ..)⟩
             first
               | exact (body_a (by omega)).symm
               | exact (body_b (by omega) (by omega) (by omega)).symm
               | exact (body_c (by omega) (by omega) (by omega) (by omega) (by omega) (by omega)).symm
               | exact (body_d (by omega) (by omega) (by omega) (by omega)).symm
           · refine g_region <| l_all 13 [o0, (oa [.at 1]), oT, o0, o0, (oa [.at 1]), oT, o0, o0, o0, (oa [.at 1]), oT, o0] [1, 28] [Qb z, ET h.Kind 2, Qb z, BT ((h.Depth : Int) ≥ 1), Qb z, BT ((h.Depth : Int) ≤ 8)] [(1, .pointer (some ⟨z, 0, none⟩)), (28, .bool true)] ⟨w, z + 1, [(old0 w), (q01z_0 z h)]⟩ ⟨rfl, et (by omega), rfl, bt (by omega), rfl, bt (by omega), trivial⟩ ?_
             refine e_seq <| g_true <| g_seq <| g_region ?_
             have hm12 := mul_bd (a := h.Depth) (b := 1 + h.Words) (by omega) (by omega) (by omega) (by omega)
             refine l_all 7 [o0, (oa [.at 1]), o0, (oa [.at 1]), (ov (.int .i64 (1 + h.Words))), (ov (.int .i64 (h.Depth * (1 + h.Words)))), o0] [2] [Qb z, Qb z, Value.int .i64 (IntKind.i64.wrap ((1 : Int) + h.Words)) = Value.int .i64 (1 + h.Words), Value.int .i64 (IntKind.i64.wrap ((h.Depth : Int) * (1 + h.Words))) = Value.int .i64 (h.Depth * (1 + h.Words))] [(2, .int .i64 (h.Depth * (1 + h.Words)))] ⟨w, z + 1, [(old0 w), (q01z_0 z h)]⟩ ⟨rfl, rfl, congrArg (Value.int .i64) (wr_i64 (by omega) (by omega) (by omega)), congrArg (Value.int .i64) (wr_i64 (by omega) (by omega) (by omega)), trivial⟩ ?_
             refine e_seq <| g_ret <| e_ret [] [] (.int .i64 (h.Depth * (1 + h.Words))) trivial ?_
             intro w13 hw13
             refine ⟨congrArg (fun n => Ending.returned (Value.int .i64 n)) (?_ : (h.Depth * (1 + h.Words) : Int) = bodyOf h), hw13.back rfl (show w.heap.size ≤ z + 1 by omega) (List.mem_cons_self ..)⟩
             first
               | exact (body_a (by omega)).symm
               | exact (body_b (by omega) (by omega) (by omega)).symm
               | exact (body_c (by omega) (by omega) (by omega) (by omega) (by omega) (by omega)).symm
               | exact (body_d (by omega) (by omega) (by omega) (by omega)).symm
       · refine g_region <| l_all 13 [o0, (oa [.at 1]), oF, o0, o0, o0, o0] [1, 28] [Qb z, EF h.Kind 2] [(1, .pointer (some ⟨z, 0, none⟩)), (28, .bool false)] ⟨w, z + 1, [(old0 w), (q01z_0 z h)]⟩ ⟨rfl, ef (by omega), trivial⟩ ?_
         refine e_seq <| g_false <| g_skip <| e_seq <| g_seq <| g_region <| l_all 1 [o0] [2] [] [(2, .int .i64 0)] ⟨w, z + 1, [(old0 w), (q01z_0 z h)]⟩ trivial ?_
         refine e_seq <| g_ret <| e_ret [] [] (.int .i64 0) trivial ?_
         intro w14 hw14
         refine ⟨congrArg (fun n => Ending.returned (Value.int .i64 n)) (?_ : (0 : Int) = bodyOf h), hw14.back rfl (show w.heap.size ≤ z + 1 by omega) (List.mem_cons_self ..)⟩
         first
           | exact (body_a (by omega)).symm
           | exact (body_b (by omega) (by omega) (by omega)).symm
           | exact (body_c (by omega) (by omega) (by omega) (by omega) (by omega) (by omega)).symm
           | exact (body_d (by omega) (by omega) (by omega) (by omega)).symm
abbrev qqhv_0 (z : Nat) (h : TChannel) : Ch := .blk z (.cells (TChannel.arr h) 23 (0, 0)) true
theorem rstage_calls (w : World) (h : TChannel) (hh : TChannel.ok Any w h) : Calls Try.prog 13 #[.agg (TChannel.arr h)] w fun e w' => e = .returned (.int .i64 (stageOf h)) ∧ Keeps (fun _ => False) w w' := by
 obtain ⟨z, hz⟩ : ∃ z, z = w.heap.size := ⟨_, rfl⟩
 refine calls_G (args := [.agg (TChannel.arr h)]) 16 ⟨w, z, [(old0 w)]⟩ Try.func13 rfl (by kernel_rfl) (by kernel_rfl) (sat_0 hz) ?_
 have hbd := body_bd h; have hsd := stage_bd h; have hwd := body_w h
 refine g_keep [0] [(0, .agg (TChannel.arr h))] ?_
 refine g_seq <| g_region <| l_all 2 [o0, o0] [1] [] [(1, .pointer (some ⟨z, 0, none⟩))] ⟨w, z + 1, [(old0 w), (qqhv_0 z h)]⟩ trivial ?_
 refine e_seq <| g_seq <| g_region <| l_run 1 [(oa [.at 1, .at 1, .at 1])] [1, 4] [Qb z, Qb z, Qb z] [(1, .pointer (some ⟨z, 0, none⟩)), (4, .agg (TChannel.arr h))] ⟨w, z + 1, [(old0 w), (qqhv_0 z h)]⟩ ⟨rfl, rfl, rfl, trivial⟩ ?_
 refine l_call [] [] 35 #[.agg (TChannel.arr h)] (some 5) trivial ?_
 intro w1 hw1
 refine (body_calls w1 h (hh.ext (hw1.ext rfl) (fun _ h => h))).mono ?_
 rintro e w2 ⟨rfl, hkw2⟩
 have hnw2 : z + 1 ≤ w2.heap.size := by have := hkw2.size; rw [hw1.size] at this; exact this
 refine ⟨_, _, rfl, hw1.keeps hkw2, ?_⟩
 refine l_keep [1, 5] [(1, .pointer (some ⟨z, 0, none⟩)), (5, .int .i64 (bodyOf h))] ?_
 refine l_all 1 [o0] [1, 3] [] [(1, .pointer (some ⟨z, 0, none⟩)), (3, .int .i64 (bodyOf h))] ⟨w, w2.heap.size, [(old0 w), (qqhv_0 z h)]⟩ trivial ?_
 refine e_seq <| g_seq <| g_seq ?_
 by_cases h3 : (bodyOf h : Int) = 0
 · refine g_region <| l_all 2 [o0, oT] [1, 3, 7] [ET (bodyOf h) 0] [(1, .pointer (some ⟨z, 0, none⟩)), (3, .int .i64 (bodyOf h)), (7, .bool true)] ⟨w, w2.heap.size, [(old0 w), (qqhv_0 z h)]⟩ ⟨et (by omega), trivial⟩ ?_
   refine e_seq <| g_true <| g_seq <| g_region <| l_all 1 [o0] [2] [] [(2, .int .i64 0)] ⟨w, w2.heap.size, [(old0 w), (qqhv_0 z h)]⟩ trivial ?_
   refine e_seq <| g_ret <| e_ret [] [] (.int .i64 0) trivial ?_
   intro w4 hw4
   refine ⟨congrArg (fun n => Ending.returned (Value.int .i64 n)) (?_ : (0 : Int) = stageOf h), hw4.back rfl (show w.heap.size ≤ w2.heap.size by omega) (List.mem_cons_self ..)⟩
   unfold stageOf
   first
     | (rw [if_pos (by omega)])
     | (rw [if_neg (by omega), if_pos (by omega)])
     | (rw [if_neg (by omega), if_neg (by omega)])
 · refine g_region <| l_all 2 [o0, oF] [1, 3, 7] [EF (bodyOf h) 0] [(1, .pointer (some ⟨z, 0, none⟩)), (3, .int .i64 (bodyOf h)), (7, .bool false)] ⟨w, w2.heap.size, [(old0 w), (qqhv_0 z h)]⟩ ⟨ef (by omega), trivial⟩ ?_
   refine e_seq <| g_false <| g_skip <| e_seq <| g_seq <| g_seq ?_
   by_cases h5 : (h.Kind : Int) = 1
   · refine g_region <| l_all 3 [o0, (oa [.at 1]), oT] [1, 3, 10] [Qb z, ET h.Kind 1] [(1, .pointer (some ⟨z, 0, none⟩)), (3, .int .i64 (bodyOf h)), (10, .bool true)] ⟨w, w2.heap.size, [(old0 w), (qqhv_0 z h)]⟩ ⟨rfl, et (by omega), trivial⟩ ?_
     refine e_seq <| g_true <| g_seq <| g_region <| l_all 4 [o0, (oa [.at 1]), (ov (.int .i64 (2 + h.Words))), o0] [2] [Qb z, Value.int .i64 (IntKind.i64.wrap ((2 : Int) + h.Words)) = Value.int .i64 (2 + h.Words)] [(2, .int .i64 (2 + h.Words))] ⟨w, w2.heap.size, [(old0 w), (qqhv_0 z h)]⟩ ⟨rfl, congrArg (Value.int .i64) (wr_i64 (by omega) (by omega) (by omega)), trivial⟩ ?_
     refine e_seq <| g_ret <| e_ret [] [] (.int .i64 (2 + h.Words)) trivial ?_
     intro w6 hw6
     refine ⟨congrArg (fun n => Ending.returned (Value.int .i64 n)) (?_ : (2 + h.Words : Int) = stageOf h), hw6.back rfl (show w.heap.size ≤ w2.heap.size by omega) (List.mem_cons_self ..)⟩
     unfold stageOf
     first
       | (rw [if_pos (by omega)])
       | (rw [if_neg (by omega), if_pos (by omega)])
       | (rw [if_neg (by omega), if_neg (by omega)])
   · refine g_region <| l_all 3 [o0, (oa [.at 1]), oF] [1, 3, 10] [Qb z, EF h.Kind 1] [(1, .pointer (some ⟨z, 0, none⟩)), (3, .int .i64 (bodyOf h)), (10, .bool false)] ⟨w, w2.heap.size, [(old0 w), (qqhv_0 z h)]⟩ ⟨rfl, ef (by omega), trivial⟩ ?_
     refine e_seq <| g_false <| g_skip <| e_seq <| g_seq <| g_region <| l_all 3 [o0, (ov (.int .i64 (1 + (bodyOf h)))), o0] [2] [Value.int .i64 (IntKind.i64.wrap ((1 : Int) + (bodyOf h))) = Value.int .i64 (1 + (bodyOf h))] [(2, .int .i64 (1 + (bodyOf h)))] ⟨w, w2.heap.size, [(old0 w), (qqhv_0 z h)]⟩ ⟨congrArg (Value.int .i64) (wr_i64 (by omega) (by omega) (by omega)), trivial⟩ ?_
     refine e_seq <| g_ret <| e_ret [] [] (.int .i64 (1 + (bodyOf h))) trivial ?_
     intro w7 hw7
     refine ⟨congrArg (fun n => Ending.returned (Value.int .i64 n)) (?_ : (1 + (bodyOf h) : Int) = stageOf h), hw7.back rfl (show w.heap.size ≤ w2.heap.size by omega) (List.mem_cons_self ..)⟩
     unfold stageOf
     first
       | (rw [if_pos (by omega)])
       | (rw [if_neg (by omega), if_pos (by omega)])
       | (rw [if_neg (by omega), if_neg (by omega)])
abbrev qyom_0 (z : Nat) (h : TChannel) : Ch := .blk z (.cells (TChannel.arr h) 23 (0, 0)) true
theorem rport_calls (w : World) (h : TChannel) (hh : TChannel.ok Any w h) : Calls Try.prog 14 #[.agg (TChannel.arr h)] w fun e w' => e = .returned (.int .i64 (portOf h)) ∧ Keeps (fun _ => False) w w' := by
 obtain ⟨z, hz⟩ : ∃ z, z = w.heap.size := ⟨_, rfl⟩
 refine calls_G (args := [.agg (TChannel.arr h)]) 10 ⟨w, z, [(old0 w)]⟩ Try.func14 rfl (by kernel_rfl) (by kernel_rfl) (sat_0 hz) ?_
 have hbd := body_bd h; have hsd := stage_bd h; have hwd := body_w h
 refine g_keep [0] [(0, .agg (TChannel.arr h))] ?_
 refine g_seq <| g_region <| l_all 2 [o0, o0] [1] [] [(1, .pointer (some ⟨z, 0, none⟩))] ⟨w, z + 1, [(old0 w), (qyom_0 z h)]⟩ trivial ?_
 refine e_seq <| g_seq <| g_region <| l_run 1 [(oa [.at 1, .at 1, .at 1])] [4] [Qb z, Qb z, Qb z] [(4, .agg (TChannel.arr h))] ⟨w, z + 1, [(old0 w), (qyom_0 z h)]⟩ ⟨rfl, rfl, rfl, trivial⟩ ?_
 refine l_call [] [] 35 #[.agg (TChannel.arr h)] (some 5) trivial ?_
 intro w1 hw1
 refine (body_calls w1 h (hh.ext (hw1.ext rfl) (fun _ h => h))).mono ?_
 rintro e w2 ⟨rfl, hkw2⟩
 have hnw2 : z + 1 ≤ w2.heap.size := by have := hkw2.size; rw [hw1.size] at this; exact this
 refine ⟨_, _, rfl, hw1.keeps hkw2, ?_⟩
 refine l_keep [5] [(5, .int .i64 (bodyOf h))] ?_
 refine l_all 1 [o0] [3] [] [(3, .int .i64 (bodyOf h))] ⟨w, w2.heap.size, [(old0 w), (qyom_0 z h)]⟩ trivial ?_
 refine e_seq <| g_seq <| g_seq ?_
 by_cases h3 : (bodyOf h : Int) = 0
 · refine g_region <| l_all 2 [o0, oT] [3, 7] [ET (bodyOf h) 0] [(3, .int .i64 (bodyOf h)), (7, .bool true)] ⟨w, w2.heap.size, [(old0 w), (qyom_0 z h)]⟩ ⟨et (by omega), trivial⟩ ?_
   refine e_seq <| g_true <| g_seq <| g_region <| l_all 1 [o0] [2] [] [(2, .int .i64 0)] ⟨w, w2.heap.size, [(old0 w), (qyom_0 z h)]⟩ trivial ?_
   refine e_seq <| g_ret <| e_ret [] [] (.int .i64 0) trivial ?_
   intro w4 hw4
   refine ⟨congrArg (fun n => Ending.returned (Value.int .i64 n)) (?_ : (0 : Int) = portOf h), hw4.back rfl (show w.heap.size ≤ w2.heap.size by omega) (List.mem_cons_self ..)⟩
   unfold portOf
   first
     | (rw [if_pos (by omega)])
     | (rw [if_neg (by omega)])
 · refine g_region <| l_all 2 [o0, oF] [3, 7] [EF (bodyOf h) 0] [(3, .int .i64 (bodyOf h)), (7, .bool false)] ⟨w, w2.heap.size, [(old0 w), (qyom_0 z h)]⟩ ⟨ef (by omega), trivial⟩ ?_
   refine e_seq <| g_false <| g_skip <| e_seq <| g_seq <| g_region <| l_all 3 [o0, (ov (.int .i64 (3 + (bodyOf h)))), o0] [2] [Value.int .i64 (IntKind.i64.wrap ((3 : Int) + (bodyOf h))) = Value.int .i64 (3 + (bodyOf h))] [(2, .int .i64 (3 + (bodyOf h)))] ⟨w, w2.heap.size, [(old0 w), (qyom_0 z h)]⟩ ⟨congrArg (Value.int .i64) (wr_i64 (by omega) (by omega) (by omega)), trivial⟩ ?_
   refine e_seq <| g_ret <| e_ret [] [] (.int .i64 (3 + (bodyOf h))) trivial ?_
   intro w5 hw5
   refine ⟨congrArg (fun n => Ending.returned (Value.int .i64 n)) (?_ : (3 + (bodyOf h) : Int) = portOf h), hw5.back rfl (show w.heap.size ≤ w2.heap.size by omega) (List.mem_cons_self ..)⟩
   unfold portOf
   first
     | (rw [if_pos (by omega)])
     | (rw [if_neg (by omega)])
abbrev q1vi_0 (z : Nat) (h : TChannel) : Ch := .blk z (.cells (TChannel.arr h) 23 (0, 0)) true
theorem port_calls (w : World) (h : TChannel) (hh : TChannel.ok Any w h) : Calls Try.prog 12 #[.agg (TChannel.arr h)] w fun e w' => e = .returned (.int .i64 (portOf h)) ∧ Keeps (fun _ => False) w w' := by
 obtain ⟨z, hz⟩ : ∃ z, z = w.heap.size := ⟨_, rfl⟩
 refine calls_G (args := [.agg (TChannel.arr h)]) 17 ⟨w, z, [(old0 w)]⟩ Try.func12 rfl (by kernel_rfl) (by kernel_rfl) (sat_0 hz) ?_
 have hbd := body_bd h; have hsd := stage_bd h; have hwd := body_w h; have hsp := stage_port h
 refine g_keep [0] [(0, .agg (TChannel.arr h))] ?_
 refine g_seq <| g_region <| l_all 2 [o0, o0] [1] [] [(1, .pointer (some ⟨z, 0, none⟩))] ⟨w, z + 1, [(old0 w), (q1vi_0 z h)]⟩ trivial ?_
 refine e_seq <| g_seq <| g_region <| l_run 1 [(oa [.at 1, .at 1, .at 1])] [1, 4] [Qb z, Qb z, Qb z] [(1, .pointer (some ⟨z, 0, none⟩)), (4, .agg (TChannel.arr h))] ⟨w, z + 1, [(old0 w), (q1vi_0 z h)]⟩ ⟨rfl, rfl, rfl, trivial⟩ ?_
 refine l_call [] [] 11 #[.agg (TChannel.arr h)] (some 5) trivial ?_
 intro w1 hw1
 refine (stage_calls w1 h (hh.ext (hw1.ext rfl) (fun _ h => h))).mono ?_
 rintro e w2 ⟨rfl, hkw2⟩
 have hnw2 : z + 1 ≤ w2.heap.size := by have := hkw2.size; rw [hw1.size] at this; exact this
 refine ⟨_, _, rfl, hw1.keeps hkw2, ?_⟩
 refine l_keep [1, 5] [(1, .pointer (some ⟨z, 0, none⟩)), (5, .int .i64 (stageOf h))] ?_
 refine l_all 1 [o0] [1, 3] [] [(1, .pointer (some ⟨z, 0, none⟩)), (3, .int .i64 (stageOf h))] ⟨w, w2.heap.size, [(old0 w), (q1vi_0 z h)]⟩ trivial ?_
 refine e_seq <| g_block <| g_seq ?_
 by_cases h3 : (stageOf h : Int) = 0
 · refine g_region <| l_all 3 [o0, oT, o0] [1, 3, 8] [ET (stageOf h) 0] [(1, .pointer (some ⟨z, 0, none⟩)), (3, .int .i64 (stageOf h)), (8, .bool true)] ⟨w, w2.heap.size, [(old0 w), (q1vi_0 z h)]⟩ ⟨et (by omega), trivial⟩ ?_
   refine e_seq <| g_true <| g_seq <| g_region <| l_all 1 [o0] [2] [] [(2, .int .i64 0)] ⟨w, w2.heap.size, [(old0 w), (q1vi_0 z h)]⟩ trivial ?_
   refine e_seq <| g_ret <| e_ret [] [] (.int .i64 0) trivial ?_
   intro w4 hw4
   refine ⟨congrArg (fun n => Ending.returned (Value.int .i64 n)) (?_ : (0 : Int) = portOf h), hw4.back rfl (show w.heap.size ≤ w2.heap.size by omega) (List.mem_cons_self ..)⟩
   first
     | (have := hsp.1 (by omega); omega)
     | exact port_b (by omega) (by omega)
     | exact port_c (by omega) (by omega)
 · refine g_region <| l_all 3 [o0, oF, o0] [1, 3, 8] [EF (stageOf h) 0] [(1, .pointer (some ⟨z, 0, none⟩)), (3, .int .i64 (stageOf h)), (8, .bool false)] ⟨w, w2.heap.size, [(old0 w), (q1vi_0 z h)]⟩ ⟨ef (by omega), trivial⟩ ?_
   refine e_seq <| g_false <| g_seq ?_
   by_cases h5 : (h.Kind : Int) = 1
   · refine g_region <| l_all 4 [o0, (oa [.at 1]), oT, o0] [3, 11] [Qb z, ET h.Kind 1] [(3, .int .i64 (stageOf h)), (11, .bool true)] ⟨w, w2.heap.size, [(old0 w), (q1vi_0 z h)]⟩ ⟨rfl, et (by omega), trivial⟩ ?_
     refine e_seq <| g_true <| g_seq <| g_region <| l_all 3 [o0, (ov (.int .i64 ((stageOf h) + 1))), o0] [2] [Value.int .i64 (IntKind.i64.wrap ((stageOf h : Int) + 1)) = Value.int .i64 ((stageOf h) + 1)] [(2, .int .i64 ((stageOf h) + 1))] ⟨w, w2.heap.size, [(old0 w), (q1vi_0 z h)]⟩ ⟨congrArg (Value.int .i64) (wr_i64 (by omega) (by omega) (by omega)), trivial⟩ ?_
     refine e_seq <| g_ret <| e_ret [] [] (.int .i64 ((stageOf h) + 1)) trivial ?_
     intro w6 hw6
     refine ⟨congrArg (fun n => Ending.returned (Value.int .i64 n)) (?_ : ((stageOf h) + 1 : Int) = portOf h), hw6.back rfl (show w.heap.size ≤ w2.heap.size by omega) (List.mem_cons_self ..)⟩
     first
       | (have := hsp.1 (by omega); omega)
       | exact port_b (by omega) (by omega)
       | exact port_c (by omega) (by omega)
   · refine g_region <| l_all 4 [o0, (oa [.at 1]), oF, o0] [3, 11] [Qb z, EF h.Kind 1] [(3, .int .i64 (stageOf h)), (11, .bool false)] ⟨w, w2.heap.size, [(old0 w), (q1vi_0 z h)]⟩ ⟨rfl, ef (by omega), trivial⟩ ?_
     refine e_seq <| g_false <| g_seq <| g_region <| l_all 3 [o0, (ov (.int .i64 ((stageOf h) + 2))), o0] [2] [Value.int .i64 (IntKind.i64.wrap ((stageOf h : Int) + 2)) = Value.int .i64 ((stageOf h) + 2)] [(2, .int .i64 ((stageOf h) + 2))] ⟨w, w2.heap.size, [(old0 w), (q1vi_0 z h)]⟩ ⟨congrArg (Value.int .i64) (wr_i64 (by omega) (by omega) (by omega)), trivial⟩ ?_
     refine e_seq <| g_ret <| e_ret [] [] (.int .i64 ((stageOf h) + 2)) trivial ?_
     intro w7 hw7
     refine ⟨congrArg (fun n => Ending.returned (Value.int .i64 n)) (?_ : ((stageOf h) + 2 : Int) = portOf h), hw7.back rfl (show w.heap.size ≤ w2.heap.size by omega) (List.mem_cons_self ..)⟩
     first
       | (have := hsp.1 (by omega); omega)
       | exact port_b (by omega) (by omega)
       | exact port_c (by omega) (by omega)

end Go.Proofs.Ytpoeaajkgblkmaa.Ly
