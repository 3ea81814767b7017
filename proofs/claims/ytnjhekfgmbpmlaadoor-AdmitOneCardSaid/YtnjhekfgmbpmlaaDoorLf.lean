/- layout: can. No conditions. -/
import Derived.Test.YtnjhekfgmbpmlaaDoorLe
namespace Go.Proofs.YtnjhekfgmbpmlaaDoor.Ly
open Go Go.Proofs.YtnjhekfgmbpmlaaDoor.Eng Go.Proofs.YtnjhekfgmbpmlaaDoor.Mem
set_option linter.unusedSimpArgs false
set_option linter.unusedVariables false
set_option maxRecDepth 100000
theorem tend_ok (F : Nat → Prop) (W : World) (x : Tend) : True := trivial
abbrev q0ma_0 (z : Nat) (c : TConfig) : Ch := bk z (TConfig.arr c) 26
abbrev q0ma_1 (b11 : Nat) (o12 : Nat) (c : TConfig) : Nat × Value := (30, .slice (some ⟨b11, o12, none⟩) c.Partitions.xs.length c.Partitions.cap)
abbrev q0ma_2 (b26 : Nat) (o27 : Nat) (c : TConfig) : Nat × Value := (42, .slice (some ⟨b26, o27, none⟩) c.Channels.xs.length c.Channels.cap)
abbrev q0ma_3 (c : TConfig) : Nat × Value := (30, .slice c.Partitions.a c.Partitions.xs.length c.Partitions.cap)
abbrev q0ma_4 (c : TConfig) : Nat × Value := (42, .slice c.Channels.a c.Channels.xs.length c.Channels.cap)
abbrev q0ma_5 (c : TConfig) : Nat × Value := (31, i6 ((c.Partitions.xs.length : Nat) : Int))
abbrev q0ma_6 (c : TConfig) : Nat × Value := (43, i6 ((c.Channels.xs.length : Nat) : Int))
theorem can_calls (w : World) (c : TConfig) (hc : TConfig.ok Any w c) : Calls Tryd.prog 56 #[.agg (TConfig.arr c)] w fun e w' => e = .returned (.bool (confOk c)) ∧ Keeps (fun _ => False) w w' := by
 obtain ⟨z, hz⟩ : ∃ z, z = w.heap.size := ⟨_, rfl⟩
 refine calls_G (args := [.agg (TConfig.arr c)]) 82 ⟨w, z, [(old0 w)]⟩ Tryd.func56 rfl (by kernel_rfl) (by kernel_rfl) (sat_0 hz) ?_
 have hlC := hc.Channels.1.len
 refine g_keep [0] [(0, .agg (TConfig.arr c))] ?_
 refine q_c 6 0 [] [[o0, o0]] [] [(1, pt z)] ⟨w, z + 1, [(old0 w), (q0ma_0 z c)]⟩ rfl trivial ?_
 by_cases h1 : (c.Kernel : Int) < 0
 · refine q_cS 9 0 [1] [[o0, (a1 1), oT, o0, o0, o0, o0, o0, o0], [o0]] [Qb z, BT ((c.Kernel : Int) < 0)] [(2, .bool false)] rfl ⟨rfl, bt (by omega), trivial⟩ ?_
   refine e_ret [] [] (.bool false) trivial ?_
   intro w2 hw2
   refine ⟨congrArg (fun b => Ending.returned (Value.bool b)) (Eq.symm (?_ : confOk c = false)), back0 hw2⟩
   exact conf_no1 (by omega)
 · by_cases h3 : (c.Kernel : Int) < 1024
   · by_cases h4 : (8 : Int) < ((c.Partitions.xs.length : Nat) : Int)
     · refine q_cS 9 0 [1] [[o0, (a1 1), oF, o0, o0, (a1 1), oF, o0, o0, o0, (a1 1), o0, oT, o0, o0, o0], [o0]] [Qb z, BF ((c.Kernel : Int) < 0), Qb z, BF ((c.Kernel : Int) ≥ 1024), Qb z, BT ((((c.Partitions.xs.length : Nat) : Int) : Int) > 8)] [(2, .bool false)] rfl ⟨rfl, bf (by omega), rfl, bf (by omega), rfl, bt (by omega), trivial⟩ ?_
       refine e_ret [] [] (.bool false) trivial ?_
       intro w5 hw5
       refine ⟨congrArg (fun b => Ending.returned (Value.bool b)) (Eq.symm (?_ : confOk c = false)), back0 hw5⟩
       exact conf_no1 (by omega)
     · by_cases h6 : (16 : Int) < ((c.Channels.xs.length : Nat) : Int)
       · refine q_cS 9 0 [1] [[o0, (a1 1), oF, o0, o0, (a1 1), oF, o0, o0, o0, (a1 1), o0, oF, o0, o0, o0, (a1 1), o0, oT, o0], [o0]] [Qb z, BF ((c.Kernel : Int) < 0), Qb z, BF ((c.Kernel : Int) ≥ 1024), Qb z, BF ((((c.Partitions.xs.length : Nat) : Int) : Int) > 8), Qb z, BT ((((c.Channels.xs.length : Nat) : Int) : Int) > 16)] [(2, .bool false)] rfl ⟨rfl, bf (by omega), rfl, bf (by omega), rfl, bf (by omega), rfl, bt (by omega), trivial⟩ ?_
         refine e_ret [] [] (.bool false) trivial ?_
         intro w7 hw7
         refine ⟨congrArg (fun b => Ending.returned (Value.bool b)) (Eq.symm (?_ : confOk c = false)), back0 hw7⟩
         exact conf_no1 (by omega)
       · refine q_cS 12 0 [0] [[o0, (a1 1), oF, o0, o0, (a1 1), oF, o0, o0, o0, (a1 1), o0, oF, o0, o0, o0, (a1 1), o0, oF, o0], [o0, (a1 1), o0, o0]] [Qb z, BF ((c.Kernel : Int) < 0), Qb z, BF ((c.Kernel : Int) ≥ 1024), Qb z, BF ((((c.Partitions.xs.length : Nat) : Int) : Int) > 8), Qb z, BF ((((c.Channels.xs.length : Nat) : Int) : Int) > 16), Qb z] [(1, pt z), (q0ma_3 c), (q0ma_5 c), (32, i6 0)] rfl ⟨rfl, bf (by omega), rfl, bf (by omega), rfl, bf (by omega), rfl, bf (by omega), rfl, trivial⟩ ?_
         refine g_loop (fun m a w' => ∃ (n9 : Nat) (k : Nat), m = c.Partitions.xs.length - k ∧ z + 1 ≤ n9 ∧ (k ≤ c.Partitions.xs.length) ∧ (∀ i, i < k → partOk c.Channels.xs.length (gd c.Partitions.xs i) = true) ∧ St 82 [(1, pt z), (q0ma_3 c), (q0ma_5 c), (32, i6 (k : Int))] [] ⟨w, n9, [(old0 w), (q0ma_0 z c)]⟩ a w') (c.Partitions.xs.length - 0) ?_ ?_
         · intro a w' hs; exact ⟨(z + 1), 0, rfl, Nat.le_refl _, Nat.zero_le _, fun i hi => absurd hi (Nat.not_lt_zero i), hs⟩
         · rintro m a w' ⟨n9, k, rfl, hn8, hkk, hp, hs⟩
           refine (?_ : G Tryd.prog 82 [(1, pt z), (q0ma_3 c), (q0ma_5 c), (32, i6 (k : Int))] [] ⟨w, n9, [(old0 w), (q0ma_0 z c)]⟩ _ _ _) a w' hs
           clear hs a w'
           refine g_seq ?_
           by_cases h10 : ((k : Int) : Int) < ((c.Partitions.xs.length : Nat) : Int)
           · refine q_cS 10 0 [1] [[oT]] [BT (((k : Int) : Int) < ((c.Partitions.xs.length : Nat) : Int))] [(1, pt z), (q0ma_3 c), (q0ma_5 c), (32, i6 (k : Int)), (33, .bool true)] rfl ⟨bt (by omega), trivial⟩ ?_
             obtain ⟨b11, o12, ha13, hF15, hc14⟩ := (hc.Partitions).1.all (show 0 < c.Partitions.xs.length by omega)
             replace ha13 : c.Partitions.a = some ⟨b11, o12, none⟩ := ha13
             refine g_eq [(1, pt z), (q0ma_1 b11 o12 c), (q0ma_5 c), (32, i6 (k : Int)), (33, .bool true)] (by (try dsimp only [q0ma_0, q0ma_1, q0ma_2, q0ma_3, q0ma_4, q0ma_5, q0ma_6]); simp only [ha13]) ?_
             have hc16 := hc14 k (show k < c.Partitions.xs.length by omega)
             have he17 := (hc.Partitions).2 k (show k < c.Partitions.xs.length by omega)
             obtain ⟨y18, hy18⟩ : ∃ y_, y_ = gd c.Partitions.xs k := ⟨_, rfl⟩
             rw [← hy18] at he17 hc16
             refine q_c 5 2 [] [[(oi k), (ol 0 (TPartition.arr y18)), o0, (an 8 2)], [(an 7 1), (an 8 2)]] [((k : Int) : Int) = ((k : Nat) : Int), k < c.Partitions.xs.length, (none : Option Nat) = none, OldR w b11 (o12 + k * 8) (TPartition.arr y18), Qb n9, Qb n9, Qb n9, Qb n9, Qb n9, Qb n9, Qb n9, Qb n9, Qb z, Qb z, Qb z, Qb z, Qb z, Qb z, Qb z, Qb n9, Qb n9, Qb n9, Qb n9, Qb n9, Qb n9, Qb n9, Qb n9] [(1, pt z), (q0ma_1 b11 o12 c), (q0ma_5 c), (32, i6 (k : Int)), (36, .agg (TConfig.arr c)), (37, .agg (TPartition.arr y18))] ⟨w, n9 + 1, [(old0 w), (q0ma_0 z c), (bk n9 (TPartition.arr y18) 41)]⟩ rfl ⟨rfl, (by omega), rfl, old_row hc16, rfl, rfl, rfl, rfl, rfl, rfl, rfl, rfl, rfl, rfl, rfl, rfl, rfl, rfl, rfl, rfl, rfl, rfl, rfl, rfl, rfl, rfl, rfl, trivial⟩ ?_
             refine l_call [] [] 74 #[.agg (TConfig.arr c), .agg (TPartition.arr y18)] (some 38) trivial ?_
             intro w19 hw19
             refine (partition_calls w19 c y18 (hc.ext (hw19.ext rfl) (fun _ h => h)) (he17.ext (hw19.ext rfl) (fun _ h => h))).mono ?_
             rintro e w20 ⟨rfl, hkw20⟩
             have hnw20 : n9 + 1 ≤ w20.heap.size := size_of hw19 hkw20
             refine ⟨_, _, rfl, hw19.keeps hkw20, ?_⟩
             refine l_keep [1, 30, 31, 32, 38] [(1, pt z), (q0ma_1 b11 o12 c), (q0ma_5 c), (32, i6 (k : Int)), (38, .bool (partOk c.Channels.xs.length y18))] ?_
             by_cases h21 : (partOk c.Channels.xs.length y18) = true
             · refine q_rS 8 0 [0] [[(ov (.bool false))], [(ov (i6 ((k + 1 : Nat) : Int))), o0]] [Value.bool (!(partOk c.Channels.xs.length y18)) = Value.bool false, Wr (((k : Int) : Int) + 1) (((k + 1 : Nat) : Int))] [(1, pt z), (q0ma_1 b11 o12 c), (q0ma_5 c), (32, i6 ((k + 1 : Nat) : Int))] rfl ⟨by simp [h21], wrI, trivial⟩ ?_
               refine e_pick [0, 1] [(old0 w), (q0ma_0 z c)] rfl rfl ?_
               refine e_eqk [1, 30, 31, 32] [(1, pt z), (q0ma_3 c), (q0ma_5 c), (32, i6 ((k + 1 : Nat) : Int))] (by (try dsimp only [q0ma_0, q0ma_1, q0ma_2, q0ma_3, q0ma_4, q0ma_5, q0ma_6]); simp only [ha13]; rfl) ?_
               refine e_inv (fun a w' hs => ⟨c.Partitions.xs.length - (k + 1), by omega, w20.heap.size, (k + 1), rfl, by omega, by omega, upto hp (by rw [← hy18]; exact h21), hs⟩)
             · refine q_rS 8 0 [1] [[(ov (.bool true))], [o0]] [Value.bool (!(partOk c.Channels.xs.length y18)) = Value.bool true] [(2, .bool false)] rfl ⟨by simp [h21], trivial⟩ ?_
               refine e_ret [] [] (.bool false) trivial ?_
               intro w22 hw22
               refine ⟨congrArg (fun b => Ending.returned (Value.bool b)) (Eq.symm (?_ : confOk c = false)), back0 hw22⟩
               exact conf_no2 (k := k) (by omega) (by rw [← hy18]; exact Bool.eq_false_iff.2 h21)
           · refine q_cS 16 0 [0] [[oF], [o0, (a1 1), o0, o0]] [BF (((k : Int) : Int) < ((c.Partitions.xs.length : Nat) : Int)), Qb z] [(1, pt z), (q0ma_4 c), (q0ma_6 c), (44, i6 0)] rfl ⟨bf (by omega), rfl, trivial⟩ ?_
             refine g_loop (fun m a w' => ∃ (n24 : Nat) (k2 : Nat), m = c.Channels.xs.length - k2 ∧ n9 ≤ n24 ∧ (k2 ≤ c.Channels.xs.length) ∧ (∀ i, i < k2 → chanOk c i = true) ∧ St 82 [(1, pt z), (q0ma_4 c), (q0ma_6 c), (44, i6 (k2 : Int))] [] ⟨w, n24, [(old0 w), (q0ma_0 z c)]⟩ a w') (c.Channels.xs.length - 0) ?_ ?_
             · intro a w' hs; exact ⟨n9, 0, rfl, Nat.le_refl _, Nat.zero_le _, fun i hi => absurd hi (Nat.not_lt_zero i), hs⟩
             · rintro m a w' ⟨n24, k2, rfl, hn23, hkk2, hch, hs⟩
               refine (?_ : G Tryd.prog 82 [(1, pt z), (q0ma_4 c), (q0ma_6 c), (44, i6 (k2 : Int))] [] ⟨w, n24, [(old0 w), (q0ma_0 z c)]⟩ _ _ _) a w' hs
               clear hs a w'
               refine g_seq ?_
               by_cases h25 : ((k2 : Int) : Int) < ((c.Channels.xs.length : Nat) : Int)
               · refine q_cS 10 0 [1] [[oT]] [BT (((k2 : Int) : Int) < ((c.Channels.xs.length : Nat) : Int))] [(1, pt z), (q0ma_4 c), (q0ma_6 c), (44, i6 (k2 : Int)), (45, .bool true)] rfl ⟨bt (by omega), trivial⟩ ?_
                 obtain ⟨b26, o27, ha28, hF30, hc29⟩ := (hc.Channels).1.all (show 0 < c.Channels.xs.length by omega)
                 replace ha28 : c.Channels.a = some ⟨b26, o27, none⟩ := ha28
                 refine g_eq [(1, pt z), (q0ma_2 b26 o27 c), (q0ma_6 c), (44, i6 (k2 : Int)), (45, .bool true)] (by (try dsimp only [q0ma_0, q0ma_1, q0ma_2, q0ma_3, q0ma_4, q0ma_5, q0ma_6]); simp only [ha28]) ?_
                 have hc31 := hc29 k2 (show k2 < c.Channels.xs.length by omega)
                 have he32 := (hc.Channels).2 k2 (show k2 < c.Channels.xs.length by omega)
                 obtain ⟨y33, hy33⟩ : ∃ y_, y_ = gd c.Channels.xs k2 := ⟨_, rfl⟩
                 rw [← hy33] at he32 hc31
                 have hsb := stage_bd y33; have hsp := stage_port y33; have hec1 := endsOf_cnt c k2 true; have hec2 := endsOf_cnt c k2 false
                 refine q_c 5 2 [] [[o0, (oi k2), (ol 0 (TChannel.arr y33)), o0, o0, (an 3 2)], [(an 7 1), o0]] [((k2 : Int) : Int) = ((k2 : Nat) : Int), k2 < c.Channels.xs.length, (none : Option Nat) = none, OldR w b26 (o27 + k2 * 3) (TChannel.arr y33), Qb n24, Qb n24, Qb n24, Qb z, Qb z, Qb z, Qb z, Qb z, Qb z, Qb z] [(1, pt z), (q0ma_2 b26 o27 c), (q0ma_6 c), (44, i6 (k2 : Int)), (6, pt n24), (50, .agg (TConfig.arr c)), (51, i6 (k2 : Int))] ⟨w, n24 + 1, [(old0 w), (q0ma_0 z c), (bk n24 (TChannel.arr y33) 55)]⟩ rfl ⟨rfl, (by omega), rfl, old_row hc31, rfl, rfl, rfl, rfl, rfl, rfl, rfl, rfl, rfl, rfl, trivial⟩ ?_
                 refine l_call [] [] 58 #[.agg (TConfig.arr c), i6 (k2 : Int)] (some 52) trivial ?_
                 intro w34 hw34
                 refine (ends_calls w34 c (k2 : Int) (hc.ext (hw34.ext rfl) (fun _ h => h)) (by omega) (fun i hi => part_ports (hp i (by omega)))).mono ?_
                 rintro e w35 ⟨ax36, cp37, ax38, cp39, rfl, hSw35, hDw35, hkw35⟩
                 have hnw35 : n24 + 1 ≤ w35.heap.size := size_of hw34 hkw35
                 rw [hw34.size] at hSw35 hDw35
                 refine ⟨_, _, rfl, hw34.keepsM hkw35, ?_⟩
                 refine q_rS 5 1 [] [[o0, o0, o0, o0, o0], [(an 3 2)]] [Qb n24, Qb n24, Qb n24] [(1, pt z), (q0ma_2 b26 o27 c), (q0ma_6 c), (44, i6 (k2 : Int)), (6, pt n24), (7, .slice ax36 ((endsOf c (k2 : Int) true).length) cp37), (8, .slice ax38 ((endsOf c (k2 : Int) false).length) cp39), (55, .agg (TChannel.arr y33))] rfl ⟨rfl, rfl, rfl, trivial⟩ ?_
                 refine l_call [] [] 59 #[.agg (TChannel.arr y33)] (some 56) trivial ?_
                 intro w40 hw40
                 refine (stage_calls w40 y33 (he32.ext (hw40.ext rfl) (fun _ h => h))).mono ?_
                 rintro e w41 ⟨rfl, hkw41⟩
                 have hnw41 : w35.heap.size ≤ w41.heap.size := size_of hw40 hkw41
                 refine ⟨_, _, rfl, hw40.keeps hkw41, ?_⟩
                 refine l_keep [1, 42, 43, 44, 6, 7, 8, 56] [(1, pt z), (q0ma_2 b26 o27 c), (q0ma_6 c), (44, i6 (k2 : Int)), (6, pt n24), (7, .slice ax36 ((endsOf c (k2 : Int) true).length) cp37), (8, .slice ax38 ((endsOf c (k2 : Int) false).length) cp39), (56, i6 (stageOf y33))] ?_
                 by_cases h42 : (stageOf y33 : Int) = 0
                 · refine q_rS 8 0 [1] [[oT, o0, o0], [o0]] [ET (stageOf y33) 0] [(2, .bool false)] rfl ⟨et (by omega), trivial⟩ ?_
                   refine e_ret [] [] (.bool false) trivial ?_
                   intro w43 hw43
                   refine ⟨congrArg (fun b => Ending.returned (Value.bool b)) (Eq.symm (?_ : confOk c = false)), back0 hw43⟩
                   exact conf_no3 (k := k2) (by omega) (chan_no (by rw [← hy33]; first | omega | (left; exact (stage_port _).1 (by omega))))
                 · by_cases h44 : (y33.Kind : Int) = 1
                   · by_cases h45 : (y33.Depth : Int) = 0
                     · refine q_rS 6 0 [0] [[oF, o0, o0, (a1 2), oT, o0, o0, (a1 2), oF, o0, o0]] [EF (stageOf y33) 0, Qb n24, ET y33.Kind 1, Qb n24, NF y33.Depth 0] [(1, pt z), (q0ma_2 b26 o27 c), (q0ma_6 c), (44, i6 (k2 : Int)), (7, .slice ax36 ((endsOf c (k2 : Int) true).length) cp37), (8, .slice ax38 ((endsOf c (k2 : Int) false).length) cp39), (67, .bool false)] rfl ⟨ef (by omega), rfl, et (by omega), rfl, nf (by omega), trivial⟩ ?_
                       by_cases h46 : ((((endsOf c (k2 : Int) true).length : Nat) : Int) : Int) = 1
                       · by_cases h47 : ((((endsOf c (k2 : Int) false).length : Nat) : Int) : Int) < 1
                         · refine q_cS 9 0 [1] [[o0, o0, oF, o0, o0, o0, oT, o0, o0, o0], [o0]] [NF (((endsOf c (k2 : Int) true).length : Nat) : Int) 1, BT (((((endsOf c (k2 : Int) false).length : Nat) : Int) : Int) < 1)] [(2, .bool false)] rfl ⟨nf (by omega), bt (by omega), trivial⟩ ?_
                           refine e_ret [] [] (.bool false) trivial ?_
                           intro w48 hw48
                           refine ⟨congrArg (fun b => Ending.returned (Value.bool b)) (Eq.symm (?_ : confOk c = false)), back0 hw48⟩
                           exact conf_no3 (k := k2) (by omega) (chan_no (by rw [← hy33]; first | omega | (left; exact (stage_port _).1 (by omega))))
                         · by_cases h49 : (4 : Int) < (((endsOf c (k2 : Int) false).length : Nat) : Int)
                           · refine q_cS 9 0 [1] [[o0, o0, oF, o0, o0, o0, oF, o0, o0, o0, o0, oT, o0], [o0]] [NF (((endsOf c (k2 : Int) true).length : Nat) : Int) 1, BF (((((endsOf c (k2 : Int) false).length : Nat) : Int) : Int) < 1), BT (((((endsOf c (k2 : Int) false).length : Nat) : Int) : Int) > 4)] [(2, .bool false)] rfl ⟨nf (by omega), bf (by omega), bt (by omega), trivial⟩ ?_
                             refine e_ret [] [] (.bool false) trivial ?_
                             intro w50 hw50
                             refine ⟨congrArg (fun b => Ending.returned (Value.bool b)) (Eq.symm (?_ : confOk c = false)), back0 hw50⟩
                             exact conf_no3 (k := k2) (by omega) (chan_no (by rw [← hy33]; first | omega | (left; exact (stage_port _).1 (by omega))))
                           · refine q_cS 9 0 [0] [[o0, o0, oF, o0, o0, o0, oF, o0, o0, o0, o0, oF, o0], [(ov (i6 ((k2 + 1 : Nat) : Int))), o0]] [NF (((endsOf c (k2 : Int) true).length : Nat) : Int) 1, BF (((((endsOf c (k2 : Int) false).length : Nat) : Int) : Int) < 1), BF (((((endsOf c (k2 : Int) false).length : Nat) : Int) : Int) > 4), Wr (((k2 : Int) : Int) + 1) (((k2 + 1 : Nat) : Int))] [(1, pt z), (q0ma_2 b26 o27 c), (q0ma_6 c), (44, i6 ((k2 + 1 : Nat) : Int))] rfl ⟨nf (by omega), bf (by omega), bf (by omega), wrI, trivial⟩ ?_
                             refine e_pick [0, 1] [(old0 w), (q0ma_0 z c)] rfl rfl ?_
                             refine e_eqk [1, 42, 43, 44] [(1, pt z), (q0ma_4 c), (q0ma_6 c), (44, i6 ((k2 + 1 : Nat) : Int))] (by (try dsimp only [q0ma_0, q0ma_1, q0ma_2, q0ma_3, q0ma_4, q0ma_5, q0ma_6]); simp only [ha28]; rfl) ?_
                             refine e_inv (fun a w' hs => ⟨c.Channels.xs.length - (k2 + 1), by omega, w41.heap.size, (k2 + 1), rfl, by omega, by omega, upto hch (chan_yes (by rw [← hy33]; intro e; exact absurd (hsp.2 e) (by omega)) (by rw [← hy33]; omega) (by omega) (by omega)), hs⟩)
                       · refine q_cS 9 0 [1] [[o0, o0, oT, o0, o0, o0, o0], [o0]] [NT (((endsOf c (k2 : Int) true).length : Nat) : Int) 1] [(2, .bool false)] rfl ⟨nt (by omega), trivial⟩ ?_
                         refine e_ret [] [] (.bool false) trivial ?_
                         intro w51 hw51
                         refine ⟨congrArg (fun b => Ending.returned (Value.bool b)) (Eq.symm (?_ : confOk c = false)), back0 hw51⟩
                         exact conf_no3 (k := k2) (by omega) (chan_no (by rw [← hy33]; first | omega | (left; exact (stage_port _).1 (by omega))))
                     · refine q_rS 8 0 [1] [[oF, o0, o0, (a1 2), oT, o0, o0, (a1 2), oT, o0, o0], [o0]] [EF (stageOf y33) 0, Qb n24, ET y33.Kind 1, Qb n24, NT y33.Depth 0] [(2, .bool false)] rfl ⟨ef (by omega), rfl, et (by omega), rfl, nt (by omega), trivial⟩ ?_
                       refine e_ret [] [] (.bool false) trivial ?_
                       intro w52 hw52
                       refine ⟨congrArg (fun b => Ending.returned (Value.bool b)) (Eq.symm (?_ : confOk c = false)), back0 hw52⟩
                       exact conf_no3 (k := k2) (by omega) (chan_no (by rw [← hy33]; first | omega | (left; exact (stage_port _).1 (by omega))))
                   · refine q_rS 6 0 [0] [[oF, o0, o0, (a1 2), oF, o0, o0, o0]] [EF (stageOf y33) 0, Qb n24, EF y33.Kind 1] [(1, pt z), (q0ma_2 b26 o27 c), (q0ma_6 c), (44, i6 (k2 : Int)), (7, .slice ax36 ((endsOf c (k2 : Int) true).length) cp37), (8, .slice ax38 ((endsOf c (k2 : Int) false).length) cp39), (67, .bool false)] rfl ⟨ef (by omega), rfl, ef (by omega), trivial⟩ ?_
                     by_cases h53 : ((((endsOf c (k2 : Int) true).length : Nat) : Int) : Int) = 1
                     · by_cases h54 : ((((endsOf c (k2 : Int) false).length : Nat) : Int) : Int) < 1
                       · refine q_cS 9 0 [1] [[o0, o0, oF, o0, o0, o0, oT, o0, o0, o0], [o0]] [NF (((endsOf c (k2 : Int) true).length : Nat) : Int) 1, BT (((((endsOf c (k2 : Int) false).length : Nat) : Int) : Int) < 1)] [(2, .bool false)] rfl ⟨nf (by omega), bt (by omega), trivial⟩ ?_
                         refine e_ret [] [] (.bool false) trivial ?_
                         intro w55 hw55
                         refine ⟨congrArg (fun b => Ending.returned (Value.bool b)) (Eq.symm (?_ : confOk c = false)), back0 hw55⟩
                         exact conf_no3 (k := k2) (by omega) (chan_no (by rw [← hy33]; first | omega | (left; exact (stage_port _).1 (by omega))))
                       · by_cases h56 : (4 : Int) < (((endsOf c (k2 : Int) false).length : Nat) : Int)
                         · refine q_cS 9 0 [1] [[o0, o0, oF, o0, o0, o0, oF, o0, o0, o0, o0, oT, o0], [o0]] [NF (((endsOf c (k2 : Int) true).length : Nat) : Int) 1, BF (((((endsOf c (k2 : Int) false).length : Nat) : Int) : Int) < 1), BT (((((endsOf c (k2 : Int) false).length : Nat) : Int) : Int) > 4)] [(2, .bool false)] rfl ⟨nf (by omega), bf (by omega), bt (by omega), trivial⟩ ?_
                           refine e_ret [] [] (.bool false) trivial ?_
                           intro w57 hw57
                           refine ⟨congrArg (fun b => Ending.returned (Value.bool b)) (Eq.symm (?_ : confOk c = false)), back0 hw57⟩
                           exact conf_no3 (k := k2) (by omega) (chan_no (by rw [← hy33]; first | omega | (left; exact (stage_port _).1 (by omega))))
                         · refine q_cS 9 0 [0] [[o0, o0, oF, o0, o0, o0, oF, o0, o0, o0, o0, oF, o0], [(ov (i6 ((k2 + 1 : Nat) : Int))), o0]] [NF (((endsOf c (k2 : Int) true).length : Nat) : Int) 1, BF (((((endsOf c (k2 : Int) false).length : Nat) : Int) : Int) < 1), BF (((((endsOf c (k2 : Int) false).length : Nat) : Int) : Int) > 4), Wr (((k2 : Int) : Int) + 1) (((k2 + 1 : Nat) : Int))] [(1, pt z), (q0ma_2 b26 o27 c), (q0ma_6 c), (44, i6 ((k2 + 1 : Nat) : Int))] rfl ⟨nf (by omega), bf (by omega), bf (by omega), wrI, trivial⟩ ?_
                           refine e_pick [0, 1] [(old0 w), (q0ma_0 z c)] rfl rfl ?_
                           refine e_eqk [1, 42, 43, 44] [(1, pt z), (q0ma_4 c), (q0ma_6 c), (44, i6 ((k2 + 1 : Nat) : Int))] (by (try dsimp only [q0ma_0, q0ma_1, q0ma_2, q0ma_3, q0ma_4, q0ma_5, q0ma_6]); simp only [ha28]; rfl) ?_
                           refine e_inv (fun a w' hs => ⟨c.Channels.xs.length - (k2 + 1), by omega, w41.heap.size, (k2 + 1), rfl, by omega, by omega, upto hch (chan_yes (by rw [← hy33]; intro e; exact absurd (hsp.2 e) (by omega)) (by rw [← hy33]; omega) (by omega) (by omega)), hs⟩)
                     · refine q_cS 9 0 [1] [[o0, o0, oT, o0, o0, o0, o0], [o0]] [NT (((endsOf c (k2 : Int) true).length : Nat) : Int) 1] [(2, .bool false)] rfl ⟨nt (by omega), trivial⟩ ?_
                       refine e_ret [] [] (.bool false) trivial ?_
                       intro w58 hw58
                       refine ⟨congrArg (fun b => Ending.returned (Value.bool b)) (Eq.symm (?_ : confOk c = false)), back0 hw58⟩
                       exact conf_no3 (k := k2) (by omega) (chan_no (by rw [← hy33]; first | omega | (left; exact (stage_port _).1 (by omega))))
               · refine q_cS 15 0 [0] [[oF], [o0]] [BF (((k2 : Int) : Int) < ((c.Channels.xs.length : Nat) : Int))] [(2, .bool true)] rfl ⟨bf (by omega), trivial⟩ ?_
                 refine e_ret [] [] (.bool true) trivial ?_
                 intro w59 hw59
                 refine ⟨congrArg (fun b => Ending.returned (Value.bool b)) (Eq.symm (?_ : confOk c = true)), back0 hw59⟩
                 exact conf_yes (by omega) (by omega) (by omega) (fun i hi => hp i (by omega)) (fun i hi => hch i (by omega))
   · refine q_cS 9 0 [1] [[o0, (a1 1), oF, o0, o0, (a1 1), oT, o0, o0, o0, o0, o0], [o0]] [Qb z, BF ((c.Kernel : Int) < 0), Qb z, BT ((c.Kernel : Int) ≥ 1024)] [(2, .bool false)] rfl ⟨rfl, bf (by omega), rfl, bt (by omega), trivial⟩ ?_
     refine e_ret [] [] (.bool false) trivial ?_
     intro w60 hw60
     refine ⟨congrArg (fun b => Ending.returned (Value.bool b)) (Eq.symm (?_ : confOk c = false)), back0 hw60⟩
     exact conf_no1 (by omega)

end Go.Proofs.YtnjhekfgmbpmlaaDoor.Ly
