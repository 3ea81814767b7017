/- admit: kernel. No conditions. -/
import Derived.Test.YtnjhekfgmbpmlaaDoorAg
import Derived.Test.YtnjhekfgmbpmlaaDoorLz
namespace Go.Proofs.YtnjhekfgmbpmlaaDoor.Ad
open Go Go.Proofs.YtnjhekfgmbpmlaaDoor.Eng Go.Proofs.YtnjhekfgmbpmlaaDoor.Mem Go.Proofs.YtnjhekfgmbpmlaaDoor.Ly
set_option linter.unusedSimpArgs false
set_option linter.unusedVariables false
set_option maxRecDepth 100000

def ovlQ (c : TConfig) (q n : Nat) : Bool := meet (regC c q n).Frame (regC c q n).Pages c.Kernel c.Room
def ovlP (c : TConfig) (q : Nat) : Bool := (List.range (parC c q).Regions.xs.length).any (ovlQ c q)
def kernB (c : TConfig) : Bool := win c.Kernel 0 (c.Frames - 1) && win c.Room 1 (c.Frames - c.Kernel) && !(List.range c.Partitions.xs.length).any (ovlP c) && (decide (errOf c = 0) && decide (needOf c ≤ c.Room))
abbrev q69q_0 (n10 : Nat) (y19 : TPartition) : Ch := bk n10 (TPartition.arr y19) 41
abbrev q69q_1 (z : Nat) (c : TConfig) : Ch := bk z (TConfig.arr c) 26
abbrev q69q_2 (b12 : Nat) (o13 : Nat) (c : TConfig) : Nat × Value := (28, .slice (some ⟨b12, o13, none⟩) c.Partitions.xs.length c.Partitions.cap)
abbrev q69q_3 (b23 : Nat) (o24 : Nat) (y19 : TPartition) : Nat × Value := (35, .slice (some ⟨b23, o24, none⟩) y19.Regions.xs.length y19.Regions.cap)
abbrev q69q_4 (c : TConfig) : Nat × Value := (28, .slice c.Partitions.a c.Partitions.xs.length c.Partitions.cap)
abbrev q69q_5 (y19 : TPartition) : Nat × Value := (35, .slice y19.Regions.a y19.Regions.xs.length y19.Regions.cap)
abbrev q69q_6 (c : TConfig) : Nat × Value := (29, i6 ((c.Partitions.xs.length : Nat) : Int))
abbrev q69q_7 (y19 : TPartition) : Nat × Value := (36, i6 ((y19.Regions.xs.length : Nat) : Int))
theorem kernel_calls (w : World) (hL : LaidAt w) (c : TConfig) (hc : TConfig.ok Any w c) (hFr : 1 ≤ c.Frames ∧ c.Frames ≤ 1024) (hpf : ∀ q, q < c.Partitions.xs.length → partQ c q = fineF) : Calls Tryd.prog 54 #[.agg (TConfig.arr c)] w fun e w' => e = .returned (.bool (kernB c)) ∧ Keeps (fun _ => False) w w' := by
 obtain ⟨z, hz⟩ : ∃ z, z = w.heap.size := ⟨_, rfl⟩
 refine calls_G (args := [.agg (TConfig.arr c)]) 65 ⟨w, z, [(old0 w)]⟩ Tryd.func54 rfl (by kernel_rfl) (by kernel_rfl) (sat_0 hz) ?_
 have hpl := hc.Partitions.1.len; have hkk : (-9223372036854775808 : Int) ≤ c.Kernel ∧ c.Kernel ≤ 9223372036854775807 := hc.Kernel; have hrr : (-9223372036854775808 : Int) ≤ c.Room ∧ c.Room ≤ 9223372036854775807 := hc.Room
 refine g_keep [0] [(0, .agg (TConfig.arr c))] ?_
 refine q_c 7 5 [] [[o0, o0], [o0, (a1 1), o0, (a1 1), (ov (i6 (c.Frames - 1)))]] [Qb z, Qb z, Wr ((c.Frames : Int) - 1) (c.Frames - 1)] [(1, pt z), (10, i6 c.Kernel), (13, i6 (c.Frames - 1))] ⟨w, z + 1, [(old0 w), (q69q_1 z c)]⟩ rfl ⟨rfl, rfl, wrI, trivial⟩ ?_
 refine l_call [] [] 42 #[i6 c.Kernel, i6 0, i6 (c.Frames - 1)] (some 14) trivial ?_
 intro w1 hw1
 refine (within_calls w1 c.Kernel 0 (c.Frames - 1)).mono ?_
 rintro e w2 ⟨rfl, hkw2⟩
 have hnw2 : z + 1 ≤ w2.heap.size := size_of hw1 hkw2
 refine ⟨_, _, rfl, hw1.keeps hkw2, ?_⟩
 refine l_keep [1, 14] [(1, pt z), (14, .bool (win c.Kernel 0 (c.Frames - 1)))] ?_
 by_cases h3 : (win c.Kernel 0 (c.Frames - 1)) = true
 · have hd4 := win_yes h3
   refine q_rS 0 9 [] [[(ov (.bool false)), o0, o0, (a1 1), o0, (a1 1), o0, (a1 1), (ov (i6 (c.Frames - c.Kernel)))]] [Value.bool (!(win c.Kernel 0 (c.Frames - 1))) = Value.bool false, Qb z, Qb z, Qb z, Wr ((c.Frames : Int) - c.Kernel) (c.Frames - c.Kernel)] [(1, pt z), (16, .bool false), (18, i6 c.Room), (23, i6 (c.Frames - c.Kernel))] rfl ⟨by simp [h3], rfl, rfl, rfl, wrI, trivial⟩ ?_
   refine l_call [] [] 42 #[i6 c.Room, i6 1, i6 (c.Frames - c.Kernel)] (some 24) trivial ?_
   intro w5 hw5
   refine (within_calls w5 c.Room 1 (c.Frames - c.Kernel)).mono ?_
   rintro e w6 ⟨rfl, hkw6⟩
   have hnw6 : w2.heap.size ≤ w6.heap.size := size_of hw5 hkw6
   refine ⟨_, _, rfl, hw5.keeps hkw6, ?_⟩
   refine l_keep [1, 16, 24] [(1, pt z), (16, .bool false), (24, .bool (win c.Room 1 (c.Frames - c.Kernel)))] ?_
   by_cases h7 : (win c.Room 1 (c.Frames - c.Kernel)) = true
   · have hd8 := win_yes h7
     refine q_rS 11 0 [0] [[(ov (.bool false)), o0], [o0, (a1 1), o0, o0]] [Value.bool (!(win c.Room 1 (c.Frames - c.Kernel))) = Value.bool false, Qb z] [(1, pt z), (q69q_4 c), (q69q_6 c), (30, i6 0)] rfl ⟨by simp [h7], rfl, trivial⟩ ?_
     refine g_loop (fun m a w' => ∃ (n10 : Nat) (q : Nat), m = c.Partitions.xs.length - q ∧ w6.heap.size ≤ n10 ∧ (q ≤ c.Partitions.xs.length) ∧ (∀ a, a < q → ovlP c a = false) ∧ St 65 [(1, pt z), (q69q_4 c), (q69q_6 c), (30, i6 (q : Int))] [] ⟨w, n10, [(old0 w), (q69q_1 z c)]⟩ a w') (c.Partitions.xs.length - 0) ?_ ?_
     · intro a w' hs; exact ⟨w6.heap.size, 0, rfl, Nat.le_refl _, Nat.zero_le _, fun i hi => absurd hi (Nat.not_lt_zero i), hs⟩
     · rintro m a w' ⟨n10, q, rfl, hn9, hkq, hg, hs⟩
       refine (?_ : G Tryd.prog 65 [(1, pt z), (q69q_4 c), (q69q_6 c), (30, i6 (q : Int))] [] ⟨w, n10, [(old0 w), (q69q_1 z c)]⟩ _ _ _) a w' hs
       clear hs a w'
       refine g_seq ?_
       by_cases h11 : ((q : Int) : Int) < ((c.Partitions.xs.length : Nat) : Int)
       · refine q_cS 10 0 [1] [[oT]] [BT (((q : Int) : Int) < ((c.Partitions.xs.length : Nat) : Int))] [(1, pt z), (q69q_4 c), (q69q_6 c), (30, i6 (q : Int)), (31, .bool true)] rfl ⟨bt (by omega), trivial⟩ ?_
         obtain ⟨b12, o13, ha14, hF16, hc15⟩ := (hc.Partitions).1.all (show 0 < c.Partitions.xs.length by omega)
         replace ha14 : c.Partitions.a = some ⟨b12, o13, none⟩ := ha14
         refine g_eq [(1, pt z), (q69q_2 b12 o13 c), (q69q_6 c), (30, i6 (q : Int)), (31, .bool true)] (by (try dsimp only [q69q_0, q69q_1, q69q_2, q69q_3, q69q_4, q69q_5, q69q_6, q69q_7]); simp only [ha14]) ?_
         have hc17 := hc15 q (show q < c.Partitions.xs.length by omega)
         have he18 := (hc.Partitions).2 q (show q < c.Partitions.xs.length by omega)
         obtain ⟨y19, hy19⟩ : ∃ y_, y_ = gd c.Partitions.xs q := ⟨_, rfl⟩
         rw [← hy19] at he18 hc17
         have hyly19 := he18.Regions.1.len
         refine q_c 8 0 [] [[(oi q), (ol 0 (TPartition.arr y19)), o0, (an 8 2)], [o0, (a1 2), o0, o0]] [((q : Int) : Int) = ((q : Nat) : Int), q < c.Partitions.xs.length, (none : Option Nat) = none, OldR w b12 (o13 + q * 8) (TPartition.arr y19), Qb n10, Qb n10, Qb n10, Qb n10, Qb n10, Qb n10, Qb n10, Qb n10, Qb n10] [(1, pt z), (q69q_2 b12 o13 c), (q69q_6 c), (30, i6 (q : Int)), (q69q_5 y19), (q69q_7 y19), (37, i6 0)] ⟨w, n10 + 1, [(old0 w), (q69q_1 z c), (q69q_0 n10 y19)]⟩ rfl ⟨rfl, (by omega), rfl, old_row hc17, rfl, rfl, rfl, rfl, rfl, rfl, rfl, rfl, rfl, trivial⟩ ?_
         refine g_loop (fun m a w' => ∃ (n21 : Nat) (n : Nat), m = y19.Regions.xs.length - n ∧ n10 + 1 ≤ n21 ∧ (n ≤ y19.Regions.xs.length) ∧ (∀ a, a < n → ovlQ c q a = false) ∧ St 65 [(1, pt z), (q69q_2 b12 o13 c), (q69q_6 c), (30, i6 (q : Int)), (q69q_5 y19), (q69q_7 y19), (37, i6 (n : Int))] [] ⟨w, n21, [(old0 w), (q69q_1 z c), (q69q_0 n10 y19)]⟩ a w') (y19.Regions.xs.length - 0) ?_ ?_
         · intro a w' hs; exact ⟨(n10 + 1), 0, rfl, Nat.le_refl _, Nat.zero_le _, fun i hi => absurd hi (Nat.not_lt_zero i), hs⟩
         · rintro m a w' ⟨n21, n, rfl, hn20, hkn, hh, hs⟩
           refine (?_ : G Tryd.prog 65 [(1, pt z), (q69q_2 b12 o13 c), (q69q_6 c), (30, i6 (q : Int)), (q69q_5 y19), (q69q_7 y19), (37, i6 (n : Int))] [] ⟨w, n21, [(old0 w), (q69q_1 z c), (q69q_0 n10 y19)]⟩ _ _ _) a w' hs
           clear hs a w'
           refine g_seq ?_
           by_cases h22 : ((n : Int) : Int) < ((y19.Regions.xs.length : Nat) : Int)
           · refine q_cS 10 0 [1] [[oT]] [BT (((n : Int) : Int) < ((y19.Regions.xs.length : Nat) : Int))] [(1, pt z), (q69q_2 b12 o13 c), (q69q_6 c), (30, i6 (q : Int)), (q69q_5 y19), (q69q_7 y19), (37, i6 (n : Int)), (38, .bool true)] rfl ⟨bt (by omega), trivial⟩ ?_
             obtain ⟨b23, o24, ha25, hF27, hc26⟩ := (he18.Regions).1.all (show 0 < y19.Regions.xs.length by omega)
             replace ha25 : y19.Regions.a = some ⟨b23, o24, none⟩ := ha25
             refine g_eq [(1, pt z), (q69q_2 b12 o13 c), (q69q_6 c), (30, i6 (q : Int)), (q69q_3 b23 o24 y19), (q69q_7 y19), (37, i6 (n : Int)), (38, .bool true)] (by (try dsimp only [q69q_0, q69q_1, q69q_2, q69q_3, q69q_4, q69q_5, q69q_6, q69q_7]); simp only [ha25]) ?_
             have hc28 := hc26 n (show n < y19.Regions.xs.length by omega)
             have he29 := (he18.Regions).2 n (show n < y19.Regions.xs.length by omega)
             obtain ⟨y30, hy30⟩ : ∃ y_, y_ = gd y19.Regions.xs n := ⟨_, rfl⟩
             rw [← hy30] at he29 hc28
             refine q_c 5 8 [] [[(oi n), (ol 0 (TRegion.arr y30)), o0, (an 4 3)], [o0, (a1 3), o0, (a1 3), o0, (a1 1), o0, (a1 1)]] [((n : Int) : Int) = ((n : Nat) : Int), n < y19.Regions.xs.length, (none : Option Nat) = none, OldR w b23 (o24 + n * 4) (TRegion.arr y30), Qb n21, Qb n21, Qb n21, Qb n21, Qb n21, Qb n21, Qb z, Qb z] [(1, pt z), (q69q_2 b12 o13 c), (q69q_6 c), (30, i6 (q : Int)), (q69q_3 b23 o24 y19), (q69q_7 y19), (37, i6 (n : Int)), (42, i6 y30.Frame), (44, i6 y30.Pages), (46, i6 c.Kernel), (48, i6 c.Room)] ⟨w, n21 + 1, [(old0 w), (q69q_1 z c), (q69q_0 n10 y19), (bk n21 (TRegion.arr y30) 49)]⟩ rfl ⟨rfl, (by omega), rfl, old_row hc28, rfl, rfl, rfl, rfl, rfl, rfl, rfl, rfl, trivial⟩ ?_
             refine l_call [] [] 73 #[i6 y30.Frame, i6 y30.Pages, i6 c.Kernel, i6 c.Room] (some 49) trivial ?_
             intro w31 hw31
             have hm33 := partB_bd hFr.2 (partQ_fine (hpf q (by omega))) n (by dsimp only [parC]; rw [← hy19]; omega); dsimp only [regC] at hm33; rw [← hy19, ← hy30] at hm33; unfold Bd at hm33
             refine (meet_calls w31 y30.Frame y30.Pages c.Kernel c.Room (by omega) (by omega) (by omega) (by omega)).mono ?_
             rintro e w32 ⟨rfl, hkw32⟩
             have hnw32 : n21 + 1 ≤ w32.heap.size := size_of hw31 hkw32
             refine ⟨_, _, rfl, hw31.keeps hkw32, ?_⟩
             refine l_keep [1, 28, 29, 30, 35, 36, 37, 49] [(1, pt z), (q69q_2 b12 o13 c), (q69q_6 c), (30, i6 (q : Int)), (q69q_3 b23 o24 y19), (q69q_7 y19), (37, i6 (n : Int)), (49, .bool (meet y30.Frame y30.Pages c.Kernel c.Room))] ?_
             refine l_nil (by kernel_rfl) ?_
             refine e_seq ?_
             by_cases h34 : (meet y30.Frame y30.Pages c.Kernel c.Room) = true
             · refine q_cS 6 0 [3] [[o0]] [Value.bool (meet y30.Frame y30.Pages c.Kernel c.Room) = Value.bool true] [(2, .bool false)] rfl ⟨(congrArg Value.bool h34), trivial⟩ ?_
               refine e_ret [] [] (.bool false) trivial ?_
               intro w35 hw35
               refine ⟨congrArg (fun b => Ending.returned (Value.bool b)) (?_ : false = kernB c), back0 hw35⟩
               have en : regC c q n = y30 := (by dsimp only [regC]; rw [← hy19, ← hy30])
               have eo : (List.range c.Partitions.xs.length).any (ovlP c) = true := range_any (k := q) (by omega) (range_any (k := n) (by dsimp only [parC]; rw [← hy19]; omega) (by unfold ovlQ; rw [en]; exact h34))
               unfold kernB; simp [eo]
             · refine q_cS 6 0 [2] [[(ov (i6 ((n + 1 : Nat) : Int))), o0]] [Value.bool (meet y30.Frame y30.Pages c.Kernel c.Room) = Value.bool false, Wr (((n : Int) : Int) + 1) (((n + 1 : Nat) : Int))] [(1, pt z), (q69q_2 b12 o13 c), (q69q_6 c), (30, i6 (q : Int)), (q69q_3 b23 o24 y19), (q69q_7 y19), (37, i6 ((n + 1 : Nat) : Int))] rfl ⟨(congrArg Value.bool (Bool.eq_false_iff.2 h34)), wrI, trivial⟩ ?_
               refine e_pick [0, 1, 2] [(old0 w), (q69q_1 z c), (q69q_0 n10 y19)] rfl rfl ?_
               refine e_eqk [1, 28, 29, 30, 35, 36, 37] [(1, pt z), (q69q_2 b12 o13 c), (q69q_6 c), (30, i6 (q : Int)), (q69q_5 y19), (q69q_7 y19), (37, i6 ((n + 1 : Nat) : Int))] (by (try dsimp only [q69q_0, q69q_1, q69q_2, q69q_3, q69q_4, q69q_5, q69q_6, q69q_7]); simp only [ha25]; rfl) ?_
               refine e_inv (fun a w' hs => ⟨y19.Regions.xs.length - (n + 1), by omega, w32.heap.size, (n + 1), rfl, by omega, by omega, upto_ hh (by have en : regC c q n = y30 := (by dsimp only [regC]; rw [← hy19, ← hy30]); unfold ovlQ; rw [en]; simpa using h34), hs⟩)
           · refine q_cS 13 0 [0] [[oF], [(ov (i6 ((q + 1 : Nat) : Int))), o0]] [BF (((n : Int) : Int) < ((y19.Regions.xs.length : Nat) : Int)), Wr (((q : Int) : Int) + 1) (((q + 1 : Nat) : Int))] [(1, pt z), (q69q_2 b12 o13 c), (q69q_6 c), (30, i6 ((q + 1 : Nat) : Int))] rfl ⟨bf (by omega), wrI, trivial⟩ ?_
             refine e_pick [0, 1] [(old0 w), (q69q_1 z c)] rfl rfl ?_
             refine e_eqk [1, 28, 29, 30] [(1, pt z), (q69q_4 c), (q69q_6 c), (30, i6 ((q + 1 : Nat) : Int))] (by (try dsimp only [q69q_0, q69q_1, q69q_2, q69q_3, q69q_4, q69q_5, q69q_6, q69q_7]); simp only [ha14]; rfl) ?_
             refine e_inv (fun a w' hs => ⟨c.Partitions.xs.length - (q + 1), by omega, n21, (q + 1), rfl, by omega, by omega, upto_ hg (range_none (fun i hi => hh i (by dsimp only [parC] at hi; rw [← hy19] at hi; omega))), hs⟩)
       · refine q_cS 12 1 [0] [[oF], [(an 7 1)]] [BF (((q : Int) : Int) < ((c.Partitions.xs.length : Nat) : Int)), Qb z, Qb z, Qb z, Qb z, Qb z, Qb z, Qb z] [(1, pt z), (53, .agg (TConfig.arr c))] rfl ⟨bf (by omega), rfl, rfl, rfl, rfl, rfl, rfl, rfl, trivial⟩ ?_
         refine l_call [] [] 12 #[.agg (TConfig.arr c)] (some 54) trivial ?_
         intro w36 hw36
         refine (need_calls w36 c (hc.ext (hw36.ext rfl) (fun _ h => h))).mono ?_
         rintro e w37 ⟨rfl, hkw37⟩
         have hnw37 : n10 ≤ w37.heap.size := size_of hw36 hkw37
         refine ⟨_, _, rfl, hw36.keeps hkw37, ?_⟩
         refine q_rS 3 0 [] [[o0, o0, o0, o0, o0]] [] [(1, pt z), (7, i6 (needOf c)), (8, i6 (errOf c))] rfl trivial ?_
         by_cases h38 : (errOf c : Int) = 0
         · by_cases h39 : (c.Room : Int) < needOf c
           · refine q_cS 4 0 [] [[o0, oT, o0, o0, o0, (a1 1), oF, o0, o0]] [ET (errOf c) 0, Qb z, BF ((needOf c : Int) ≤ c.Room)] [(2, .bool false)] rfl ⟨et (by omega), rfl, bf (by omega), trivial⟩ ?_
             refine e_ret [] [] (.bool false) trivial ?_
             intro w40 hw40
             refine ⟨congrArg (fun b => Ending.returned (Value.bool b)) (?_ : false = kernB c), back0 hw40⟩
             have eo : (List.range c.Partitions.xs.length).any (ovlP c) = false := range_none (fun i hi => hg i (by omega))
             unfold kernB; rw [eo]; simp [h3, h7]; first | done | omega
           · refine q_cS 4 0 [] [[o0, oT, o0, o0, o0, (a1 1), oT, o0, o0]] [ET (errOf c) 0, Qb z, BT ((needOf c : Int) ≤ c.Room)] [(2, .bool true)] rfl ⟨et (by omega), rfl, bt (by omega), trivial⟩ ?_
             refine e_ret [] [] (.bool true) trivial ?_
             intro w41 hw41
             refine ⟨congrArg (fun b => Ending.returned (Value.bool b)) (?_ : true = kernB c), back0 hw41⟩
             have eo : (List.range c.Partitions.xs.length).any (ovlP c) = false := range_none (fun i hi => hg i (by omega))
             unfold kernB; rw [eo]; simp [h3, h7]; first | done | omega
         · refine q_cS 4 0 [] [[o0, oF, o0, o0, o0]] [EF (errOf c) 0] [(2, .bool false)] rfl ⟨ef (by omega), trivial⟩ ?_
           refine e_ret [] [] (.bool false) trivial ?_
           intro w42 hw42
           refine ⟨congrArg (fun b => Ending.returned (Value.bool b)) (?_ : false = kernB c), back0 hw42⟩
           have eo : (List.range c.Partitions.xs.length).any (ovlP c) = false := range_none (fun i hi => hg i (by omega))
           unfold kernB; rw [eo]; simp [h3, h7]; first | done | omega
   · have hd43 := win_no h7
     refine q_rS 8 0 [1] [[(ov (.bool true)), o0], [o0]] [Value.bool (!(win c.Room 1 (c.Frames - c.Kernel))) = Value.bool true] [(2, .bool false)] rfl ⟨by simp [h7], trivial⟩ ?_
     refine e_ret [] [] (.bool false) trivial ?_
     intro w44 hw44
     refine ⟨congrArg (fun b => Ending.returned (Value.bool b)) (?_ : false = kernB c), back0 hw44⟩
     unfold kernB; simp [h3, h7]
 · have hd45 := win_no h3
   refine q_rS 8 0 [1] [[(ov (.bool true)), o0, o0], [o0]] [Value.bool (!(win c.Kernel 0 (c.Frames - 1))) = Value.bool true] [(2, .bool false)] rfl ⟨by simp [h3], trivial⟩ ?_
   refine e_ret [] [] (.bool false) trivial ?_
   intro w46 hw46
   refine ⟨congrArg (fun b => Ending.returned (Value.bool b)) (?_ : false = kernB c), back0 hw46⟩
   unfold kernB; simp [h3]

end Go.Proofs.YtnjhekfgmbpmlaaDoor.Ad
