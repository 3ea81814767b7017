/- layout: can. No conditions. -/
import Derived.Test.YtpoeaajkgblkmaaLe
namespace Go.Proofs.Ytpoeaajkgblkmaa.Ly
open Go Go.Proofs.Ytpoeaajkgblkmaa.Eng Go.Proofs.Ytpoeaajkgblkmaa.Mem
set_option linter.unusedSimpArgs false
set_option linter.unusedVariables false
set_option maxRecDepth 100000
theorem tend_ok (F : Nat → Prop) (W : World) (x : Tend) : True := trivial
abbrev q0ma_0 (n9 : Nat) (y18 : TPartition) : Ch := .blk n9 (.cells (TPartition.arr y18) 76 (0, 0)) true
abbrev q0ma_1 (n24 : Nat) (y33 : TChannel) : Ch := .blk n24 (.cells (TChannel.arr y33) 23 (0, 0)) true
abbrev q0ma_2 (z : Nat) (c : TConfig) : Ch := .blk z (.cells (TConfig.arr c) 30 (0, 0)) true
abbrev q0ma_3 (w : World) (z : Nat) (c : TConfig) (n24 : Nat) (y33 : TChannel) (w35 : World) : List Ch := [(old0 w), (q0ma_2 z c), (q0ma_1 n24 y33), (mid (n24 + 1) w35)]
theorem can_calls (w : World) (c : TConfig) (hc : TConfig.ok Any w c) : Calls Try.prog 36 #[.agg (TConfig.arr c)] w fun e w' => e = .returned (.bool (confOk c)) ∧ Keeps (fun _ => False) w w' := by
 obtain ⟨z, hz⟩ : ∃ z, z = w.heap.size := ⟨_, rfl⟩
 refine calls_G (args := [.agg (TConfig.arr c)]) 82 ⟨w, z, [(old0 w)]⟩ Try.func36 rfl (by kernel_rfl) (by kernel_rfl) (sat_0 hz) ?_
 have hlC := hc.Channels.1.len
 refine g_keep [0] [(0, .agg (TConfig.arr c))] ?_
 refine g_seq <| g_region <| l_all 2 [o0, o0] [1] [] [(1, .pointer (some ⟨z, 0, none⟩))] ⟨w, z + 1, [(old0 w), (q0ma_2 z c)]⟩ trivial ?_
 refine e_seq <| g_seq <| g_seq ?_
 by_cases h1 : (c.Kernel : Int) < 0
 · refine g_region <| l_all 20 [o0, (oa [.at 1]), oT, o0, o0, o0, o0, o0, o0] [1, 28] [Qb z, BT ((c.Kernel : Int) < 0)] [(1, .pointer (some ⟨z, 0, none⟩)), (28, .bool true)] ⟨w, z + 1, [(old0 w), (q0ma_2 z c)]⟩ ⟨rfl, bt (by omega), trivial⟩ ?_
   refine e_seq <| g_true <| g_seq <| g_region <| l_all 1 [o0] [2] [] [(2, .bool false)] ⟨w, z + 1, [(old0 w), (q0ma_2 z c)]⟩ trivial ?_
   refine e_seq <| g_ret <| e_ret [] [] (.bool false) trivial ?_
   intro w2 hw2
   refine ⟨congrArg (fun b => Ending.returned (Value.bool b)) (Eq.symm (?_ : confOk c = false)), hw2.back rfl (show w.heap.size ≤ z + 1 by omega) (List.mem_cons_self ..)⟩
   exact conf_no1 (by omega)
 · by_cases h3 : (c.Kernel : Int) < 1024
   · by_cases h4 : (8 : Int) < ((c.Partitions.xs.length : Nat) : Int)
     · refine g_region <| l_all 20 [o0, (oa [.at 1]), oF, o0, o0, (oa [.at 1]), oF, o0, o0, o0, (oa [.at 1]), o0, oT, o0, o0, o0] [1, 28] [Qb z, BF ((c.Kernel : Int) < 0), Qb z, BF ((c.Kernel : Int) ≥ 1024), Qb z, BT ((((c.Partitions.xs.length : Nat) : Int) : Int) > 8)] [(1, .pointer (some ⟨z, 0, none⟩)), (28, .bool true)] ⟨w, z + 1, [(old0 w), (q0ma_2 z c)]⟩ ⟨rfl, bf (by omega), rfl, bf (by omega), rfl, bt (by omega), trivial⟩ ?_
       refine e_seq <| g_true <| g_seq <| g_region <| l_all 1 [o0] [2] [] [(2, .bool false)] ⟨w, z + 1, [(old0 w), (q0ma_2 z c)]⟩ trivial ?_
       refine e_seq <| g_ret <| e_ret [] [] (.bool false) trivial ?_
       intro w5 hw5
       refine ⟨congrArg (fun b => Ending.returned (Value.bool b)) (Eq.symm (?_ : confOk c = false)), hw5.back rfl (show w.heap.size ≤ z + 1 by omega) (List.mem_cons_self ..)⟩
       exact conf_no1 (by omega)
     · by_cases h6 : (16 : Int) < ((c.Channels.xs.length : Nat) : Int)
       · refine g_region <| l_all 20 [o0, (oa [.at 1]), oF, o0, o0, (oa [.at 1]), oF, o0, o0, o0, (oa [.at 1]), o0, oF, o0, o0, o0, (oa [.at 1]), o0, oT, o0] [1, 28] [Qb z, BF ((c.Kernel : Int) < 0), Qb z, BF ((c.Kernel : Int) ≥ 1024), Qb z, BF ((((c.Partitions.xs.length : Nat) : Int) : Int) > 8), Qb z, BT ((((c.Channels.xs.length : Nat) : Int) : Int) > 16)] [(1, .pointer (some ⟨z, 0, none⟩)), (28, .bool true)] ⟨w, z + 1, [(old0 w), (q0ma_2 z c)]⟩ ⟨rfl, bf (by omega), rfl, bf (by omega), rfl, bf (by omega), rfl, bt (by omega), trivial⟩ ?_
         refine e_seq <| g_true <| g_seq <| g_region <| l_all 1 [o0] [2] [] [(2, .bool false)] ⟨w, z + 1, [(old0 w), (q0ma_2 z c)]⟩ trivial ?_
         refine e_seq <| g_ret <| e_ret [] [] (.bool false) trivial ?_
         intro w7 hw7
         refine ⟨congrArg (fun b => Ending.returned (Value.bool b)) (Eq.symm (?_ : confOk c = false)), hw7.back rfl (show w.heap.size ≤ z + 1 by omega) (List.mem_cons_self ..)⟩
         exact conf_no1 (by omega)
       · refine g_region <| l_all 20 [o0, (oa [.at 1]), oF, o0, o0, (oa [.at 1]), oF, o0, o0, o0, (oa [.at 1]), o0, oF, o0, o0, o0, (oa [.at 1]), o0, oF, o0] [1, 28] [Qb z, BF ((c.Kernel : Int) < 0), Qb z, BF ((c.Kernel : Int) ≥ 1024), Qb z, BF ((((c.Partitions.xs.length : Nat) : Int) : Int) > 8), Qb z, BF ((((c.Channels.xs.length : Nat) : Int) : Int) > 16)] [(1, .pointer (some ⟨z, 0, none⟩)), (28, .bool false)] ⟨w, z + 1, [(old0 w), (q0ma_2 z c)]⟩ ⟨rfl, bf (by omega), rfl, bf (by omega), rfl, bf (by omega), rfl, bf (by omega), trivial⟩ ?_
         refine e_seq <| g_false <| g_skip <| e_seq <| g_seq <| g_seq <| g_region <| l_all 4 [o0, (oa [.at 1]), o0, o0] [1, 30, 31, 32] [Qb z] [(1, .pointer (some ⟨z, 0, none⟩)), (30, .slice c.Partitions.a c.Partitions.xs.length c.Partitions.cap), (31, .int .i64 ((c.Partitions.xs.length : Nat) : Int)), (32, .int .i64 0)] ⟨w, z + 1, [(old0 w), (q0ma_2 z c)]⟩ ⟨rfl, trivial⟩ ?_
         refine e_seq <| g_block <| g_loop (fun m a w' => ∃ (n9 : Nat) (k : Nat), m = c.Partitions.xs.length - k ∧ z + 1 ≤ n9 ∧ (k ≤ c.Partitions.xs.length) ∧ (∀ i, i < k → partOk c.Channels.xs.length (gd c.Partitions.xs i) = true) ∧ St 82 [(1, .pointer (some ⟨z, 0, none⟩)), (30, .slice c.Partitions.a c.Partitions.xs.length c.Partitions.cap), (31, .int .i64 ((c.Partitions.xs.length : Nat) : Int)), (32, .int .i64 (k : Int))] [] ⟨w, n9, [(old0 w), (q0ma_2 z c)]⟩ a w') (c.Partitions.xs.length - 0) ?_ ?_
         · intro a w' hs; exact ⟨(z + 1), 0, rfl, Nat.le_refl _, Nat.zero_le _, fun i hi => absurd hi (Nat.not_lt_zero i), hs⟩
         · rintro m a w' ⟨n9, k, rfl, hn8, hkk, hp, hs⟩
           refine (?_ : G Try.prog 82 [(1, .pointer (some ⟨z, 0, none⟩)), (30, .slice c.Partitions.a c.Partitions.xs.length c.Partitions.cap), (31, .int .i64 ((c.Partitions.xs.length : Nat) : Int)), (32, .int .i64 (k : Int))] [] ⟨w, n9, [(old0 w), (q0ma_2 z c)]⟩ _ _ _) a w' hs
           clear hs a w'
           refine g_seq ?_
           by_cases h10 : ((k : Int) : Int) < ((c.Partitions.xs.length : Nat) : Int)
           · refine g_region <| l_all 1 [oT] [1, 30, 31, 32, 33] [BT (((k : Int) : Int) < ((c.Partitions.xs.length : Nat) : Int))] [(1, .pointer (some ⟨z, 0, none⟩)), (30, .slice c.Partitions.a c.Partitions.xs.length c.Partitions.cap), (31, .int .i64 ((c.Partitions.xs.length : Nat) : Int)), (32, .int .i64 (k : Int)), (33, .bool true)] ⟨w, n9, [(old0 w), (q0ma_2 z c)]⟩ ⟨bt (by omega), trivial⟩ ?_
             refine e_seq <| g_seq <| g_true <| g_skip <| e_seq <| g_seq <| g_block <| g_seq ?_
             obtain ⟨b11, o12, ha13, hF15, hc14⟩ := (hc.Partitions).1.all (show 0 < c.Partitions.xs.length by omega)
             replace ha13 : c.Partitions.a = some ⟨b11, o12, none⟩ := ha13
             refine g_eq [(1, .pointer (some ⟨z, 0, none⟩)), (30, .slice (some ⟨b11, o12, none⟩) c.Partitions.xs.length c.Partitions.cap), (31, .int .i64 ((c.Partitions.xs.length : Nat) : Int)), (32, .int .i64 (k : Int)), (33, .bool true)] (by simp only [ha13]) ?_
             have hc16 := hc14 k (show k < c.Partitions.xs.length by omega)
             have he17 := (hc.Partitions).2 k (show k < c.Partitions.xs.length by omega)
             obtain ⟨y18, hy18⟩ : ∃ y_, y_ = gd c.Partitions.xs k := ⟨_, rfl⟩
             rw [← hy18] at he17 hc16
             refine g_region <| l_all 4 [(oi k), (ol 0 (TPartition.arr y18)), o0, (oa [.at 2, .at 2, .at 2, .at 2, .at 2, .at 2, .at 2, .at 2])] [1, 30, 31, 32, 4] [((k : Int) : Int) = ((k : Nat) : Int), k < c.Partitions.xs.length, (none : Option Nat) = none, OldR w b11 (o12 + k * 8) (TPartition.arr y18), Qb n9, Qb n9, Qb n9, Qb n9, Qb n9, Qb n9, Qb n9, Qb n9] [(1, .pointer (some ⟨z, 0, none⟩)), (30, .slice (some ⟨b11, o12, none⟩) c.Partitions.xs.length c.Partitions.cap), (31, .int .i64 ((c.Partitions.xs.length : Nat) : Int)), (32, .int .i64 (k : Int)), (4, .pointer (some ⟨n9, 0, none⟩))] ⟨w, n9 + 1, [(old0 w), (q0ma_2 z c), (q0ma_0 n9 y18)]⟩ ⟨rfl, (by omega), rfl, old_row hc16, rfl, rfl, rfl, rfl, rfl, rfl, rfl, rfl, trivial⟩ ?_
             refine e_seq <| g_seq <| g_region <| l_run 2 [(oa [.at 1, .at 1, .at 1, .at 1, .at 1, .at 1, .at 1]), (oa [.at 2, .at 2, .at 2, .at 2, .at 2, .at 2, .at 2, .at 2])] [1, 30, 31, 32, 36, 37] [Qb z, Qb z, Qb z, Qb z, Qb z, Qb z, Qb z, Qb n9, Qb n9, Qb n9, Qb n9, Qb n9, Qb n9, Qb n9, Qb n9] [(1, .pointer (some ⟨z, 0, none⟩)), (30, .slice (some ⟨b11, o12, none⟩) c.Partitions.xs.length c.Partitions.cap), (31, .int .i64 ((c.Partitions.xs.length : Nat) : Int)), (32, .int .i64 (k : Int)), (36, .agg (TConfig.arr c)), (37, .agg (TPartition.arr y18))] ⟨w, n9 + 1, [(old0 w), (q0ma_2 z c), (q0ma_0 n9 y18)]⟩ ⟨rfl, rfl, rfl, rfl, rfl, rfl, rfl, rfl, rfl, rfl, rfl, rfl, rfl, rfl, rfl, trivial⟩ ?_
             refine l_call [] [] 48 #[.agg (TConfig.arr c), .agg (TPartition.arr y18)] (some 38) trivial ?_
             intro w19 hw19
             refine (partition_calls w19 c y18 (hc.ext (hw19.ext rfl) (fun _ h => h)) (he17.ext (hw19.ext rfl) (fun _ h => h))).mono ?_
             rintro e w20 ⟨rfl, hkw20⟩
             have hnw20 : n9 + 1 ≤ w20.heap.size := by have := hkw20.size; rw [hw19.size] at this; exact this
             refine ⟨_, _, rfl, hw19.keeps hkw20, ?_⟩
             refine l_keep [1, 30, 31, 32, 38] [(1, .pointer (some ⟨z, 0, none⟩)), (30, .slice (some ⟨b11, o12, none⟩) c.Partitions.xs.length c.Partitions.cap), (31, .int .i64 ((c.Partitions.xs.length : Nat) : Int)), (32, .int .i64 (k : Int)), (38, .bool (partOk c.Channels.xs.length y18))] ?_
             by_cases h21 : (partOk c.Channels.xs.length y18) = true
             · refine l_all 1 [(ov (.bool false))] [1, 30, 31, 32, 39] [Value.bool (!(partOk c.Channels.xs.length y18)) = Value.bool false] [(1, .pointer (some ⟨z, 0, none⟩)), (30, .slice (some ⟨b11, o12, none⟩) c.Partitions.xs.length c.Partitions.cap), (31, .int .i64 ((c.Partitions.xs.length : Nat) : Int)), (32, .int .i64 (k : Int)), (39, .bool false)] ⟨w, w20.heap.size, [(old0 w), (q0ma_2 z c), (q0ma_0 n9 y18)]⟩ ⟨by simp [h21], trivial⟩ ?_
               refine e_seq <| g_false <| g_skip <| e_blk <| e_seq <| g_region <| l_all 2 [(ov (.int .i64 ((k + 1 : Nat) : Int))), o0] [1, 30, 31, 32] [Value.int .i64 (IntKind.i64.wrap (((k : Int) : Int) + 1)) = Value.int .i64 (((k + 1 : Nat) : Int))] [(1, .pointer (some ⟨z, 0, none⟩)), (30, .slice (some ⟨b11, o12, none⟩) c.Partitions.xs.length c.Partitions.cap), (31, .int .i64 ((c.Partitions.xs.length : Nat) : Int)), (32, .int .i64 ((k + 1 : Nat) : Int))] ⟨w, w20.heap.size, [(old0 w), (q0ma_2 z c), (q0ma_0 n9 y18)]⟩ ⟨congrArg (Value.int .i64) (wr_i64 (by omega) (by omega) (by omega)), trivial⟩ ?_
               refine e_pick [0, 1] [(old0 w), (q0ma_2 z c)] rfl rfl ?_
               refine e_eqk [1, 30, 31, 32] [(1, .pointer (some ⟨z, 0, none⟩)), (30, .slice c.Partitions.a c.Partitions.xs.length c.Partitions.cap), (31, .int .i64 ((c.Partitions.xs.length : Nat) : Int)), (32, .int .i64 ((k + 1 : Nat) : Int))] (by simp only [ha13]; rfl) ?_
               refine e_inv (fun a w' hs => ⟨c.Partitions.xs.length - (k + 1), by omega, w20.heap.size, (k + 1), rfl, by omega, by omega, upto hp (by rw [← hy18]; exact h21), hs⟩)
             · refine l_all 1 [(ov (.bool true))] [1, 30, 31, 32, 39] [Value.bool (!(partOk c.Channels.xs.length y18)) = Value.bool true] [(1, .pointer (some ⟨z, 0, none⟩)), (30, .slice (some ⟨b11, o12, none⟩) c.Partitions.xs.length c.Partitions.cap), (31, .int .i64 ((c.Partitions.xs.length : Nat) : Int)), (32, .int .i64 (k : Int)), (39, .bool true)] ⟨w, w20.heap.size, [(old0 w), (q0ma_2 z c), (q0ma_0 n9 y18)]⟩ ⟨by simp [h21], trivial⟩ ?_
               refine e_seq <| g_true <| g_seq <| g_region <| l_all 1 [o0] [2] [] [(2, .bool false)] ⟨w, w20.heap.size, [(old0 w), (q0ma_2 z c), (q0ma_0 n9 y18)]⟩ trivial ?_
               refine e_seq <| g_ret <| e_ret [] [] (.bool false) trivial ?_
               intro w22 hw22
               refine ⟨congrArg (fun b => Ending.returned (Value.bool b)) (Eq.symm (?_ : confOk c = false)), hw22.back rfl (show w.heap.size ≤ w20.heap.size by omega) (List.mem_cons_self ..)⟩
               exact conf_no2 (k := k) (by omega) (by rw [← hy18]; exact Bool.eq_false_iff.2 h21)
           · refine g_region <| l_all 1 [oF] [1, 30, 31, 32, 33] [BF (((k : Int) : Int) < ((c.Partitions.xs.length : Nat) : Int))] [(1, .pointer (some ⟨z, 0, none⟩)), (30, .slice c.Partitions.a c.Partitions.xs.length c.Partitions.cap), (31, .int .i64 ((c.Partitions.xs.length : Nat) : Int)), (32, .int .i64 (k : Int)), (33, .bool false)] ⟨w, n9, [(old0 w), (q0ma_2 z c)]⟩ ⟨bf (by omega), trivial⟩ ?_
             refine e_seq <| g_seq <| g_false <| g_exit <| e_out <| e_outI <| e_hit <| e_seq <| g_seq <| g_seq <| g_region <| l_all 4 [o0, (oa [.at 1]), o0, o0] [1, 42, 43, 44] [Qb z] [(1, .pointer (some ⟨z, 0, none⟩)), (42, .slice c.Channels.a c.Channels.xs.length c.Channels.cap), (43, .int .i64 ((c.Channels.xs.length : Nat) : Int)), (44, .int .i64 0)] ⟨w, n9, [(old0 w), (q0ma_2 z c)]⟩ ⟨rfl, trivial⟩ ?_
             refine e_seq <| g_block <| g_loop (fun m a w' => ∃ (n24 : Nat) (k2 : Nat), m = c.Channels.xs.length - k2 ∧ n9 ≤ n24 ∧ (k2 ≤ c.Channels.xs.length) ∧ (∀ i, i < k2 → chanOk c i = true) ∧ St 82 [(1, .pointer (some ⟨z, 0, none⟩)), (42, .slice c.Channels.a c.Channels.xs.length c.Channels.cap), (43, .int .i64 ((c.Channels.xs.length : Nat) : Int)), (44, .int .i64 (k2 : Int))] [] ⟨w, n24, [(old0 w), (q0ma_2 z c)]⟩ a w') (c.Channels.xs.length - 0) ?_ ?_
             · intro a w' hs; exact ⟨n9, 0, rfl, Nat.le_refl _, Nat.zero_le _, fun i hi => absurd hi (Nat.not_lt_zero i), hs⟩
             · rintro m a w' ⟨n24, k2, rfl, hn23, hkk2, hch, hs⟩
               refine (?_ : G Try.prog 82 [(1, .pointer (some ⟨z, 0, none⟩)), (42, .slice c.Channels.a c.Channels.xs.length c.Channels.cap), (43, .int .i64 ((c.Channels.xs.length : Nat) : Int)), (44, .int .i64 (k2 : Int))] [] ⟨w, n24, [(old0 w), (q0ma_2 z c)]⟩ _ _ _) a w' hs
               clear hs a w'
               refine g_seq ?_
               by_cases h25 : ((k2 : Int) : Int) < ((c.Channels.xs.length : Nat) : Int)
               · refine g_region <| l_all 1 [oT] [1, 42, 43, 44, 45] [BT (((k2 : Int) : Int) < ((c.Channels.xs.length : Nat) : Int))] [(1, .pointer (some ⟨z, 0, none⟩)), (42, .slice c.Channels.a c.Channels.xs.length c.Channels.cap), (43, .int .i64 ((c.Channels.xs.length : Nat) : Int)), (44, .int .i64 (k2 : Int)), (45, .bool true)] ⟨w, n24, [(old0 w), (q0ma_2 z c)]⟩ ⟨bt (by omega), trivial⟩ ?_
                 refine e_seq <| g_seq <| g_true <| g_skip <| e_seq <| g_seq <| g_block <| g_seq ?_
                 obtain ⟨b26, o27, ha28, hF30, hc29⟩ := (hc.Channels).1.all (show 0 < c.Channels.xs.length by omega)
                 replace ha28 : c.Channels.a = some ⟨b26, o27, none⟩ := ha28
                 refine g_eq [(1, .pointer (some ⟨z, 0, none⟩)), (42, .slice (some ⟨b26, o27, none⟩) c.Channels.xs.length c.Channels.cap), (43, .int .i64 ((c.Channels.xs.length : Nat) : Int)), (44, .int .i64 (k2 : Int)), (45, .bool true)] (by simp only [ha28]) ?_
                 have hc31 := hc29 k2 (show k2 < c.Channels.xs.length by omega)
                 have he32 := (hc.Channels).2 k2 (show k2 < c.Channels.xs.length by omega)
                 obtain ⟨y33, hy33⟩ : ∃ y_, y_ = gd c.Channels.xs k2 := ⟨_, rfl⟩
                 rw [← hy33] at he32 hc31
                 have hsb := stage_bd y33; have hsp := stage_port y33; have hec1 := endsOf_cnt c k2 true; have hec2 := endsOf_cnt c k2 false
                 refine g_region <| l_all 6 [o0, (oi k2), (ol 0 (TChannel.arr y33)), o0, o0, (oa [.at 2, .at 2, .at 2])] [1, 42, 43, 44, 6, 5] [((k2 : Int) : Int) = ((k2 : Nat) : Int), k2 < c.Channels.xs.length, (none : Option Nat) = none, OldR w b26 (o27 + k2 * 3) (TChannel.arr y33), Qb n24, Qb n24, Qb n24] [(1, .pointer (some ⟨z, 0, none⟩)), (42, .slice (some ⟨b26, o27, none⟩) c.Channels.xs.length c.Channels.cap), (43, .int .i64 ((c.Channels.xs.length : Nat) : Int)), (44, .int .i64 (k2 : Int)), (6, .pointer (some ⟨n24, 0, none⟩)), (5, .int .i64 (k2 : Int))] ⟨w, n24 + 1, [(old0 w), (q0ma_2 z c), (q0ma_1 n24 y33)]⟩ ⟨rfl, (by omega), rfl, old_row hc31, rfl, rfl, rfl, trivial⟩ ?_
                 refine e_seq <| g_seq <| g_region <| l_run 2 [(oa [.at 1, .at 1, .at 1, .at 1, .at 1, .at 1, .at 1]), o0] [1, 42, 43, 44, 6, 50, 51] [Qb z, Qb z, Qb z, Qb z, Qb z, Qb z, Qb z] [(1, .pointer (some ⟨z, 0, none⟩)), (42, .slice (some ⟨b26, o27, none⟩) c.Channels.xs.length c.Channels.cap), (43, .int .i64 ((c.Channels.xs.length : Nat) : Int)), (44, .int .i64 (k2 : Int)), (6, .pointer (some ⟨n24, 0, none⟩)), (50, .agg (TConfig.arr c)), (51, .int .i64 (k2 : Int))] ⟨w, n24 + 1, [(old0 w), (q0ma_2 z c), (q0ma_1 n24 y33)]⟩ ⟨rfl, rfl, rfl, rfl, rfl, rfl, rfl, trivial⟩ ?_
                 refine l_call [] [] 38 #[.agg (TConfig.arr c), .int .i64 (k2 : Int)] (some 52) trivial ?_
                 intro w34 hw34
                 refine (ends_calls w34 c (k2 : Int) (hc.ext (hw34.ext rfl) (fun _ h => h)) (by omega) (fun i hi => part_ports (hp i (by omega)))).mono ?_
                 rintro e w35 ⟨a36, cp37, a38, cp39, rfl, hSw35, hDw35, hkw35⟩
                 have hnw35 : n24 + 1 ≤ w35.heap.size := by have := hkw35.size; rw [hw34.size] at this; exact this
                 rw [hw34.size] at hSw35 hDw35
                 refine ⟨_, _, rfl, hw34.keepsM hkw35, ?_⟩
                 refine l_keep [1, 42, 43, 44, 6, 52] [(1, .pointer (some ⟨z, 0, none⟩)), (42, .slice (some ⟨b26, o27, none⟩) c.Channels.xs.length c.Channels.cap), (43, .int .i64 ((c.Channels.xs.length : Nat) : Int)), (44, .int .i64 (k2 : Int)), (6, .pointer (some ⟨n24, 0, none⟩)), (52, .tuple #[.slice a36 ((endsOf c (k2 : Int) true).length) cp37, .slice a38 ((endsOf c (k2 : Int) false).length) cp39])] ?_
                 refine l_all 5 [o0, o0, o0, o0, o0] [1, 42, 43, 44, 6, 7, 8] [] [(1, .pointer (some ⟨z, 0, none⟩)), (42, .slice (some ⟨b26, o27, none⟩) c.Channels.xs.length c.Channels.cap), (43, .int .i64 ((c.Channels.xs.length : Nat) : Int)), (44, .int .i64 (k2 : Int)), (6, .pointer (some ⟨n24, 0, none⟩)), (7, .slice a36 ((endsOf c (k2 : Int) true).length) cp37), (8, .slice a38 ((endsOf c (k2 : Int) false).length) cp39)] ⟨w, w35.heap.size, (q0ma_3 w z c n24 y33 w35)⟩ trivial ?_
                 refine e_seq <| g_seq <| g_seq <| g_region <| l_run 1 [(oa [.at 2, .at 2, .at 2])] [1, 42, 43, 44, 6, 7, 8, 55] [Qb n24, Qb n24, Qb n24] [(1, .pointer (some ⟨z, 0, none⟩)), (42, .slice (some ⟨b26, o27, none⟩) c.Channels.xs.length c.Channels.cap), (43, .int .i64 ((c.Channels.xs.length : Nat) : Int)), (44, .int .i64 (k2 : Int)), (6, .pointer (some ⟨n24, 0, none⟩)), (7, .slice a36 ((endsOf c (k2 : Int) true).length) cp37), (8, .slice a38 ((endsOf c (k2 : Int) false).length) cp39), (55, .agg (TChannel.arr y33))] ⟨w, w35.heap.size, (q0ma_3 w z c n24 y33 w35)⟩ ⟨rfl, rfl, rfl, trivial⟩ ?_
                 refine l_call [] [] 11 #[.agg (TChannel.arr y33)] (some 56) trivial ?_
                 intro w40 hw40
                 refine (stage_calls w40 y33 (he32.ext (hw40.ext rfl) (fun _ h => h))).mono ?_
                 rintro e w41 ⟨rfl, hkw41⟩
                 have hnw41 : w35.heap.size ≤ w41.heap.size := by have := hkw41.size; rw [hw40.size] at this; exact this
                 refine ⟨_, _, rfl, hw40.keeps hkw41, ?_⟩
                 refine l_keep [1, 42, 43, 44, 6, 7, 8, 56] [(1, .pointer (some ⟨z, 0, none⟩)), (42, .slice (some ⟨b26, o27, none⟩) c.Channels.xs.length c.Channels.cap), (43, .int .i64 ((c.Channels.xs.length : Nat) : Int)), (44, .int .i64 (k2 : Int)), (6, .pointer (some ⟨n24, 0, none⟩)), (7, .slice a36 ((endsOf c (k2 : Int) true).length) cp37), (8, .slice a38 ((endsOf c (k2 : Int) false).length) cp39), (56, .int .i64 (stageOf y33))] ?_
                 by_cases h42 : (stageOf y33 : Int) = 0
                 · refine l_all 11 [oT, o0, o0] [1, 42, 43, 44, 7, 8, 67] [ET (stageOf y33) 0] [(1, .pointer (some ⟨z, 0, none⟩)), (42, .slice (some ⟨b26, o27, none⟩) c.Channels.xs.length c.Channels.cap), (43, .int .i64 ((c.Channels.xs.length : Nat) : Int)), (44, .int .i64 (k2 : Int)), (7, .slice a36 ((endsOf c (k2 : Int) true).length) cp37), (8, .slice a38 ((endsOf c (k2 : Int) false).length) cp39), (67, .bool true)] ⟨w, w41.heap.size, (q0ma_3 w z c n24 y33 w35)⟩ ⟨et (by omega), trivial⟩ ?_
                   refine e_seq <| g_true <| g_seq <| g_region <| l_all 1 [o0] [2] [] [(2, .bool false)] ⟨w, w41.heap.size, (q0ma_3 w z c n24 y33 w35)⟩ trivial ?_
                   refine e_seq <| g_ret <| e_ret [] [] (.bool false) trivial ?_
                   intro w43 hw43
                   refine ⟨congrArg (fun b => Ending.returned (Value.bool b)) (Eq.symm (?_ : confOk c = false)), hw43.back rfl (show w.heap.size ≤ w41.heap.size by omega) (List.mem_cons_self ..)⟩
                   exact conf_no3 (k := k2) (by omega) (chan_no (by rw [← hy33]; first | omega | (left; exact (stage_port _).1 (by omega))))
                 · by_cases h44 : (y33.Kind : Int) = 1
                   · by_cases h45 : (y33.Depth : Int) = 0
                     · refine l_all 11 [oF, o0, o0, (oa [.at 2]), oT, o0, o0, (oa [.at 2]), oF, o0, o0] [1, 42, 43, 44, 7, 8, 67] [EF (stageOf y33) 0, Qb n24, ET y33.Kind 1, Qb n24, NF y33.Depth 0] [(1, .pointer (some ⟨z, 0, none⟩)), (42, .slice (some ⟨b26, o27, none⟩) c.Channels.xs.length c.Channels.cap), (43, .int .i64 ((c.Channels.xs.length : Nat) : Int)), (44, .int .i64 (k2 : Int)), (7, .slice a36 ((endsOf c (k2 : Int) true).length) cp37), (8, .slice a38 ((endsOf c (k2 : Int) false).length) cp39), (67, .bool false)] ⟨w, w41.heap.size, (q0ma_3 w z c n24 y33 w35)⟩ ⟨ef (by omega), rfl, et (by omega), rfl, nf (by omega), trivial⟩ ?_
                       refine e_seq <| g_false <| g_skip <| e_seq <| g_seq ?_
                       by_cases h46 : ((((endsOf c (k2 : Int) true).length : Nat) : Int) : Int) = 1
                       · by_cases h47 : ((((endsOf c (k2 : Int) false).length : Nat) : Int) : Int) < 1
                         · refine g_region <| l_all 13 [o0, o0, oF, o0, o0, o0, oT, o0, o0, o0] [1, 42, 43, 44, 80] [NF (((endsOf c (k2 : Int) true).length : Nat) : Int) 1, BT (((((endsOf c (k2 : Int) false).length : Nat) : Int) : Int) < 1)] [(1, .pointer (some ⟨z, 0, none⟩)), (42, .slice (some ⟨b26, o27, none⟩) c.Channels.xs.length c.Channels.cap), (43, .int .i64 ((c.Channels.xs.length : Nat) : Int)), (44, .int .i64 (k2 : Int)), (80, .bool true)] ⟨w, w41.heap.size, (q0ma_3 w z c n24 y33 w35)⟩ ⟨nf (by omega), bt (by omega), trivial⟩ ?_
                           refine e_seq <| g_true <| g_seq <| g_region <| l_all 1 [o0] [2] [] [(2, .bool false)] ⟨w, w41.heap.size, (q0ma_3 w z c n24 y33 w35)⟩ trivial ?_
                           refine e_seq <| g_ret <| e_ret [] [] (.bool false) trivial ?_
                           intro w48 hw48
                           refine ⟨congrArg (fun b => Ending.returned (Value.bool b)) (Eq.symm (?_ : confOk c = false)), hw48.back rfl (show w.heap.size ≤ w41.heap.size by omega) (List.mem_cons_self ..)⟩
                           exact conf_no3 (k := k2) (by omega) (chan_no (by rw [← hy33]; first | omega | (left; exact (stage_port _).1 (by omega))))
                         · by_cases h49 : (4 : Int) < (((endsOf c (k2 : Int) false).length : Nat) : Int)
                           · refine g_region <| l_all 13 [o0, o0, oF, o0, o0, o0, oF, o0, o0, o0, o0, oT, o0] [1, 42, 43, 44, 80] [NF (((endsOf c (k2 : Int) true).length : Nat) : Int) 1, BF (((((endsOf c (k2 : Int) false).length : Nat) : Int) : Int) < 1), BT (((((endsOf c (k2 : Int) false).length : Nat) : Int) : Int) > 4)] [(1, .pointer (some ⟨z, 0, none⟩)), (42, .slice (some ⟨b26, o27, none⟩) c.Channels.xs.length c.Channels.cap), (43, .int .i64 ((c.Channels.xs.length : Nat) : Int)), (44, .int .i64 (k2 : Int)), (80, .bool true)] ⟨w, w41.heap.size, (q0ma_3 w z c n24 y33 w35)⟩ ⟨nf (by omega), bf (by omega), bt (by omega), trivial⟩ ?_
                             refine e_seq <| g_true <| g_seq <| g_region <| l_all 1 [o0] [2] [] [(2, .bool false)] ⟨w, w41.heap.size, (q0ma_3 w z c n24 y33 w35)⟩ trivial ?_
                             refine e_seq <| g_ret <| e_ret [] [] (.bool false) trivial ?_
                             intro w50 hw50
                             refine ⟨congrArg (fun b => Ending.returned (Value.bool b)) (Eq.symm (?_ : confOk c = false)), hw50.back rfl (show w.heap.size ≤ w41.heap.size by omega) (List.mem_cons_self ..)⟩
                             exact conf_no3 (k := k2) (by omega) (chan_no (by rw [← hy33]; first | omega | (left; exact (stage_port _).1 (by omega))))
                           · refine g_region <| l_all 13 [o0, o0, oF, o0, o0, o0, oF, o0, o0, o0, o0, oF, o0] [1, 42, 43, 44, 80] [NF (((endsOf c (k2 : Int) true).length : Nat) : Int) 1, BF (((((endsOf c (k2 : Int) false).length : Nat) : Int) : Int) < 1), BF (((((endsOf c (k2 : Int) false).length : Nat) : Int) : Int) > 4)] [(1, .pointer (some ⟨z, 0, none⟩)), (42, .slice (some ⟨b26, o27, none⟩) c.Channels.xs.length c.Channels.cap), (43, .int .i64 ((c.Channels.xs.length : Nat) : Int)), (44, .int .i64 (k2 : Int)), (80, .bool false)] ⟨w, w41.heap.size, (q0ma_3 w z c n24 y33 w35)⟩ ⟨nf (by omega), bf (by omega), bf (by omega), trivial⟩ ?_
                             refine e_seq <| g_false <| g_skip <| e_blk <| e_seq <| g_region <| l_all 2 [(ov (.int .i64 ((k2 + 1 : Nat) : Int))), o0] [1, 42, 43, 44] [Value.int .i64 (IntKind.i64.wrap (((k2 : Int) : Int) + 1)) = Value.int .i64 (((k2 + 1 : Nat) : Int))] [(1, .pointer (some ⟨z, 0, none⟩)), (42, .slice (some ⟨b26, o27, none⟩) c.Channels.xs.length c.Channels.cap), (43, .int .i64 ((c.Channels.xs.length : Nat) : Int)), (44, .int .i64 ((k2 + 1 : Nat) : Int))] ⟨w, w41.heap.size, (q0ma_3 w z c n24 y33 w35)⟩ ⟨congrArg (Value.int .i64) (wr_i64 (by omega) (by omega) (by omega)), trivial⟩ ?_
                             refine e_pick [0, 1] [(old0 w), (q0ma_2 z c)] rfl rfl ?_
                             refine e_eqk [1, 42, 43, 44] [(1, .pointer (some ⟨z, 0, none⟩)), (42, .slice c.Channels.a c.Channels.xs.length c.Channels.cap), (43, .int .i64 ((c.Channels.xs.length : Nat) : Int)), (44, .int .i64 ((k2 + 1 : Nat) : Int))] (by simp only [ha28]; rfl) ?_
                             refine e_inv (fun a w' hs => ⟨c.Channels.xs.length - (k2 + 1), by omega, w41.heap.size, (k2 + 1), rfl, by omega, by omega, upto hch (chan_yes (by rw [← hy33]; intro e; exact absurd (hsp.2 e) (by omega)) (by rw [← hy33]; omega) (by omega) (by omega)), hs⟩)
                       · refine g_region <| l_all 13 [o0, o0, oT, o0, o0, o0, o0] [1, 42, 43, 44, 80] [NT (((endsOf c (k2 : Int) true).length : Nat) : Int) 1] [(1, .pointer (some ⟨z, 0, none⟩)), (42, .slice (some ⟨b26, o27, none⟩) c.Channels.xs.length c.Channels.cap), (43, .int .i64 ((c.Channels.xs.length : Nat) : Int)), (44, .int .i64 (k2 : Int)), (80, .bool true)] ⟨w, w41.heap.size, (q0ma_3 w z c n24 y33 w35)⟩ ⟨nt (by omega), trivial⟩ ?_
                         refine e_seq <| g_true <| g_seq <| g_region <| l_all 1 [o0] [2] [] [(2, .bool false)] ⟨w, w41.heap.size, (q0ma_3 w z c n24 y33 w35)⟩ trivial ?_
                         refine e_seq <| g_ret <| e_ret [] [] (.bool false) trivial ?_
                         intro w51 hw51
                         refine ⟨congrArg (fun b => Ending.returned (Value.bool b)) (Eq.symm (?_ : confOk c = false)), hw51.back rfl (show w.heap.size ≤ w41.heap.size by omega) (List.mem_cons_self ..)⟩
                         exact conf_no3 (k := k2) (by omega) (chan_no (by rw [← hy33]; first | omega | (left; exact (stage_port _).1 (by omega))))
                     · refine l_all 11 [oF, o0, o0, (oa [.at 2]), oT, o0, o0, (oa [.at 2]), oT, o0, o0] [1, 42, 43, 44, 7, 8, 67] [EF (stageOf y33) 0, Qb n24, ET y33.Kind 1, Qb n24, NT y33.Depth 0] [(1, .pointer (some ⟨z, 0, none⟩)), (42, .slice (some ⟨b26, o27, none⟩) c.Channels.xs.length c.Channels.cap), (43, .int .i64 ((c.Channels.xs.length : Nat) : Int)), (44, .int .i64 (k2 : Int)), (7, .slice a36 ((endsOf c (k2 : Int) true).length) cp37), (8, .slice a38 ((endsOf c (k2 : Int) false).length) cp39), (67, .bool true)] ⟨w, w41.heap.size, (q0ma_3 w z c n24 y33 w35)⟩ ⟨ef (by omega), rfl, et (by omega), rfl, nt (by omega), trivial⟩ ?_
                       refine e_seq <| g_true <| g_seq <| g_region <| l_all 1 [o0] [2] [] [(2, .bool false)] ⟨w, w41.heap.size, (q0ma_3 w z c n24 y33 w35)⟩ trivial ?_
                       refine e_seq <| g_ret <| e_ret [] [] (.bool false) trivial ?_
                       intro w52 hw52
                       refine ⟨congrArg (fun b => Ending.returned (Value.bool b)) (Eq.symm (?_ : confOk c = false)), hw52.back rfl (show w.heap.size ≤ w41.heap.size by omega) (List.mem_cons_self ..)⟩
                       exact conf_no3 (k := k2) (by omega) (chan_no (by rw [← hy33]; first | omega | (left; exact (stage_port _).1 (by omega))))
                   · refine l_all 11 [oF, o0, o0, (oa [.at 2]), oF, o0, o0, o0] [1, 42, 43, 44, 7, 8, 67] [EF (stageOf y33) 0, Qb n24, EF y33.Kind 1] [(1, .pointer (some ⟨z, 0, none⟩)), (42, .slice (some ⟨b26, o27, none⟩) c.Channels.xs.length c.Channels.cap), (43, .int .i64 ((c.Channels.xs.length : Nat) : Int)), (44, .int .i64 (k2 : Int)), (7, .slice a36 ((endsOf c (k2 : Int) true).length) cp37), (8, .slice a38 ((endsOf c (k2 : Int) false).length) cp39), (67, .bool false)] ⟨w, w41.heap.size, (q0ma_3 w z c n24 y33 w35)⟩ ⟨ef (by omega), rfl, ef (by omega), trivial⟩ ?_
                     refine e_seq <| g_false <| g_skip <| e_seq <| g_seq ?_
                     by_cases h53 : ((((endsOf c (k2 : Int) true).length : Nat) : Int) : Int) = 1
                     · by_cases h54 : ((((endsOf c (k2 : Int) false).length : Nat) : Int) : Int) < 1
                       · refine g_region <| l_all 13 [o0, o0, oF, o0, o0, o0, oT, o0, o0, o0] [1, 42, 43, 44, 80] [NF (((endsOf c (k2 : Int) true).length : Nat) : Int) 1, BT (((((endsOf c (k2 : Int) false).length : Nat) : Int) : Int) < 1)] [(1, .pointer (some ⟨z, 0, none⟩)), (42, .slice (some ⟨b26, o27, none⟩) c.Channels.xs.length c.Channels.cap), (43, .int .i64 ((c.Channels.xs.length : Nat) : Int)), (44, .int .i64 (k2 : Int)), (80, .bool true)] ⟨w, w41.heap.size, (q0ma_3 w z c n24 y33 w35)⟩ ⟨nf (by omega), bt (by omega), trivial⟩ ?_
                         refine e_seq <| g_true <| g_seq <| g_region <| l_all 1 [o0] [2] [] [(2, .bool false)] ⟨w, w41.heap.size, (q0ma_3 w z c n24 y33 w35)⟩ trivial ?_
                         refine e_seq <| g_ret <| e_ret [] [] (.bool false) trivial ?_
                         intro w55 hw55
                         refine ⟨congrArg (fun b => Ending.returned (Value.bool b)) (Eq.symm (?_ : confOk c = false)), hw55.back rfl (show w.heap.size ≤ w41.heap.size by omega) (List.mem_cons_self ..)⟩
                         exact conf_no3 (k := k2) (by omega) (chan_no (by rw [← hy33]; first | omega | (left; exact (stage_port _).1 (by omega))))
                       · by_cases h56 : (4 : Int) < (((endsOf c (k2 : Int) false).length : Nat) : Int)
                         · refine g_region <| l_all 13 [o0, o0, oF, o0, o0, o0, oF, o0, o0, o0, o0, oT, o0] [1, 42, 43, 44, 80] [NF (((endsOf c (k2 : Int) true).length : Nat) : Int) 1, BF (((((endsOf c (k2 : Int) false).length : Nat) : Int) : Int) < 1), BT (((((endsOf c (k2 : Int) false).length : Nat) : Int) : Int) > 4)] [(1, .pointer (some ⟨z, 0, none⟩)), (42, .slice (some ⟨b26, o27, none⟩) c.Channels.xs.length c.Channels.cap), (43, .int .i64 ((c.Channels.xs.length : Nat) : Int)), (44, .int .i64 (k2 : Int)), (80, .bool true)] ⟨w, w41.heap.size, (q0ma_3 w z c n24 y33 w35)⟩ ⟨nf (by omega), bf (by omega), bt (by omega), trivial⟩ ?_
                           refine e_seq <| g_true <| g_seq <| g_region <| l_all 1 [o0] [2] [] [(2, .bool false)] ⟨w, w41.heap.size, (q0ma_3 w z c n24 y33 w35)⟩ trivial ?_
                           refine e_seq <| g_ret <| e_ret [] [] (.bool false) trivial ?_
                           intro w57 hw57
                           refine ⟨congrArg (fun b => Ending.returned (Value.bool b)) (Eq.symm (?_ : confOk c = false)), hw57.back rfl (show w.heap.size ≤ w41.heap.size by omega) (List.mem_cons_self ..)⟩
                           exact conf_no3 (k := k2) (by omega) (chan_no (by rw [← hy33]; first | omega | (left; exact (stage_port _).1 (by omega))))
                         · refine g_region <| l_all 13 [o0, o0, oF, o0, o0, o0, oF, o0, o0, o0, o0, oF, o0] [1, 42, 43, 44, 80] [NF (((endsOf c (k2 : Int) true).length : Nat) : Int) 1, BF (((((endsOf c (k2 : Int) false).length : Nat) : Int) : Int) < 1), BF (((((endsOf c (k2 : Int) false).length : Nat) : Int) : Int) > 4)] [(1, .pointer (some ⟨z, 0, none⟩)), (42, .slice (some ⟨b26, o27, none⟩) c.Channels.xs.length c.Channels.cap), (43, .int .i64 ((c.Channels.xs.length : Nat) : Int)), (44, .int .i64 (k2 : Int)), (80, .bool false)] ⟨w, w41.heap.size, (q0ma_3 w z c n24 y33 w35)⟩ ⟨nf (by omega), bf (by omega), bf (by omega), trivial⟩ ?_
                           refine e_seq <| g_false <| g_skip <| e_blk <| e_seq <| g_region <| l_all 2 [(ov (.int .i64 ((k2 + 1 : Nat) : Int))), o0] [1, 42, 43, 44] [Value.int .i64 (IntKind.i64.wrap (((k2 : Int) : Int) + 1)) = Value.int .i64 (((k2 + 1 : Nat) : Int))] [(1, .pointer (some ⟨z, 0, none⟩)), (42, .slice (some ⟨b26, o27, none⟩) c.Channels.xs.length c.Channels.cap), (43, .int .i64 ((c.Channels.xs.length : Nat) : Int)), (44, .int .i64 ((k2 + 1 : Nat) : Int))] ⟨w, w41.heap.size, (q0ma_3 w z c n24 y33 w35)⟩ ⟨congrArg (Value.int .i64) (wr_i64 (by omega) (by omega) (by omega)), trivial⟩ ?_
                           refine e_pick [0, 1] [(old0 w), (q0ma_2 z c)] rfl rfl ?_
                           refine e_eqk [1, 42, 43, 44] [(1, .pointer (some ⟨z, 0, none⟩)), (42, .slice c.Channels.a c.Channels.xs.length c.Channels.cap), (43, .int .i64 ((c.Channels.xs.length : Nat) : Int)), (44, .int .i64 ((k2 + 1 : Nat) : Int))] (by simp only [ha28]; rfl) ?_
                           refine e_inv (fun a w' hs => ⟨c.Channels.xs.length - (k2 + 1), by omega, w41.heap.size, (k2 + 1), rfl, by omega, by omega, upto hch (chan_yes (by rw [← hy33]; intro e; exact absurd (hsp.2 e) (by omega)) (by rw [← hy33]; omega) (by omega) (by omega)), hs⟩)
                     · refine g_region <| l_all 13 [o0, o0, oT, o0, o0, o0, o0] [1, 42, 43, 44, 80] [NT (((endsOf c (k2 : Int) true).length : Nat) : Int) 1] [(1, .pointer (some ⟨z, 0, none⟩)), (42, .slice (some ⟨b26, o27, none⟩) c.Channels.xs.length c.Channels.cap), (43, .int .i64 ((c.Channels.xs.length : Nat) : Int)), (44, .int .i64 (k2 : Int)), (80, .bool true)] ⟨w, w41.heap.size, (q0ma_3 w z c n24 y33 w35)⟩ ⟨nt (by omega), trivial⟩ ?_
                       refine e_seq <| g_true <| g_seq <| g_region <| l_all 1 [o0] [2] [] [(2, .bool false)] ⟨w, w41.heap.size, (q0ma_3 w z c n24 y33 w35)⟩ trivial ?_
                       refine e_seq <| g_ret <| e_ret [] [] (.bool false) trivial ?_
                       intro w58 hw58
                       refine ⟨congrArg (fun b => Ending.returned (Value.bool b)) (Eq.symm (?_ : confOk c = false)), hw58.back rfl (show w.heap.size ≤ w41.heap.size by omega) (List.mem_cons_self ..)⟩
                       exact conf_no3 (k := k2) (by omega) (chan_no (by rw [← hy33]; first | omega | (left; exact (stage_port _).1 (by omega))))
               · refine g_region <| l_all 1 [oF] [1, 42, 43, 44, 45] [BF (((k2 : Int) : Int) < ((c.Channels.xs.length : Nat) : Int))] [(1, .pointer (some ⟨z, 0, none⟩)), (42, .slice c.Channels.a c.Channels.xs.length c.Channels.cap), (43, .int .i64 ((c.Channels.xs.length : Nat) : Int)), (44, .int .i64 (k2 : Int)), (45, .bool false)] ⟨w, n24, [(old0 w), (q0ma_2 z c)]⟩ ⟨bf (by omega), trivial⟩ ?_
                 refine e_seq <| g_seq <| g_false <| g_exit <| e_out <| e_outI <| e_hit <| e_seq <| g_seq <| g_region <| l_all 1 [o0] [2] [] [(2, .bool true)] ⟨w, n24, [(old0 w), (q0ma_2 z c)]⟩ trivial ?_
                 refine e_seq <| g_ret <| e_ret [] [] (.bool true) trivial ?_
                 intro w59 hw59
                 refine ⟨congrArg (fun b => Ending.returned (Value.bool b)) (Eq.symm (?_ : confOk c = true)), hw59.back rfl (show w.heap.size ≤ n24 by omega) (List.mem_cons_self ..)⟩
                 exact conf_yes (by omega) (by omega) (by omega) (fun i hi => hp i (by omega)) (fun i hi => hch i (by omega))
   · refine g_region <| l_all 20 [o0, (oa [.at 1]), oF, o0, o0, (oa [.at 1]), oT, o0, o0, o0, o0, o0] [1, 28] [Qb z, BF ((c.Kernel : Int) < 0), Qb z, BT ((c.Kernel : Int) ≥ 1024)] [(1, .pointer (some ⟨z, 0, none⟩)), (28, .bool true)] ⟨w, z + 1, [(old0 w), (q0ma_2 z c)]⟩ ⟨rfl, bf (by omega), rfl, bt (by omega), trivial⟩ ?_
     refine e_seq <| g_true <| g_seq <| g_region <| l_all 1 [o0] [2] [] [(2, .bool false)] ⟨w, z + 1, [(old0 w), (q0ma_2 z c)]⟩ trivial ?_
     refine e_seq <| g_ret <| e_ret [] [] (.bool false) trivial ?_
     intro w60 hw60
     refine ⟨congrArg (fun b => Ending.returned (Value.bool b)) (Eq.symm (?_ : confOk c = false)), hw60.back rfl (show w.heap.size ≤ z + 1 by omega) (List.mem_cons_self ..)⟩
     exact conf_no1 (by omega)

end Go.Proofs.Ytpoeaajkgblkmaa.Ly
