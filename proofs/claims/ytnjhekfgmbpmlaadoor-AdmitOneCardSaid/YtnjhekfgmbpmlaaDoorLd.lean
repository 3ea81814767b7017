/- layout: the document's may. No conditions. -/
import Derived.Test.YtnjhekfgmbpmlaaDoorLc
namespace Go.Proofs.YtnjhekfgmbpmlaaDoor.Ly
open Go Go.Proofs.YtnjhekfgmbpmlaaDoor.Eng Go.Proofs.YtnjhekfgmbpmlaaDoor.Mem
set_option linter.unusedSimpArgs false
set_option linter.unusedVariables false
set_option maxRecDepth 100000
abbrev qw0d_0 (n25 : Nat) (y34 : TChannel) : Ch := bk n25 (TChannel.arr y34) 55
abbrev qw0d_1 (z : Nat) (c : TConfig) : Ch := bk z (TConfig.arr c) 26
abbrev qw0d_2 (k2 : Nat) (c : TConfig) (k3 : Nat) (y51 : TPartition) : Nat × Value := (6, i6 (((sumN (fun x => endsN x (k2 : Int) true) c.Partitions.xs k3) + (endsN y51 (k2 : Int) true) : Nat) : Int))
abbrev qw0d_3 (k2 : Nat) (c : TConfig) (k3 : Nat) (y73 : TPartition) : Nat × Value := (6, i6 (((sumN (fun x => endsN x (k2 : Int) true) c.Partitions.xs k3) + (endsN y73 (k2 : Int) true) : Nat) : Int))
abbrev qw0d_4 (k2 : Nat) (c : TConfig) (k3 : Nat) : Nat × Value := (7, i6 ((sumN (fun x => endsN x (k2 : Int) false) c.Partitions.xs k3 : Nat) : Int))
abbrev qw0d_5 (k2 : Nat) (c : TConfig) (k3 : Nat) : Nat × Value := (6, i6 ((sumN (fun x => endsN x (k2 : Int) true) c.Partitions.xs k3 : Nat) : Int))
abbrev qw0d_6 (c : TConfig) : Nat × Value := (31, i6 ((c.Partitions.xs.length : Nat) : Int))
abbrev qw0d_7 (c : TConfig) : Nat × Value := (72, i6 ((c.Partitions.xs.length : Nat) : Int))
abbrev qw0d_8 (c : TConfig) : Nat × Value := (48, i6 ((c.Channels.xs.length : Nat) : Int))
theorem rmay_calls (w : World) (c : TConfig) (hc : TConfig.ok Any w c) : Calls Tryd.prog 76 #[.agg (TConfig.arr c)] w fun e w' => e = .returned (.bool (confOk c)) ∧ Keeps (fun _ => False) w w' := by
 obtain ⟨z, hz⟩ : ∃ z, z = w.heap.size := ⟨_, rfl⟩
 refine calls_G (args := [.agg (TConfig.arr c)]) 106 ⟨w, z, [(old0 w)]⟩ Tryd.func76 rfl (by kernel_rfl) (by kernel_rfl) (sat_0 hz) ?_
 have hlC := hc.Channels.1.len
 refine g_keep [0] [(0, .agg (TConfig.arr c))] ?_
 refine q_c 6 0 [] [[o0, o0]] [] [(1, pt z)] ⟨w, z + 1, [(old0 w), (qw0d_1 z c)]⟩ rfl trivial ?_
 by_cases h1 : (c.Kernel : Int) < 0
 · refine q_cS 9 0 [1] [[o0, (a1 1), oT, o0, o0, o0, o0, o0, o0], [o0]] [Qb z, BT ((c.Kernel : Int) < 0)] [(2, .bool false)] rfl ⟨rfl, bt (by omega), trivial⟩ ?_
   refine e_ret [] [] (.bool false) trivial ?_
   intro w2 hw2
   refine ⟨congrArg (fun b => Ending.returned (Value.bool b)) (Eq.symm (?_ : confOk c = false)), back0 hw2⟩
   exact conf_no1 (by omega)
 · by_cases h3 : (c.Kernel : Int) < 1024
   · by_cases h4 : (8 : Int) < ((c.Partitions.xs.length : Nat) : Int)
     · refine q_cS 9 0 [1] [[o0, (a1 1), oF, o0, o0, (a1 1), oF, o0, o0, o0, (a1 1), o0, oT, o0, o0, o0], [o0]] [Qb z, BF ((c.Kernel : Int) < 0), Qb z, BF ((c.Kernel : Int) ≥ 1024), Qb z, BT ((((c.Partitions.xs.length : Nat) : Int) : Int) > 8)] [(2, .bool false)] rfl ⟨rfl, bf (by omega), rfl, bf (by omega), rfl, bt (by omega), trivial⟩ ?_
       refine e_ret [] [] (.bool false) trivial ?_
       intro w5 hw5
       refine ⟨congrArg (fun b => Ending.returned (Value.bool b)) (Eq.symm (?_ : confOk c = false)), back0 hw5⟩
       exact conf_no1 (by omega)
     · by_cases h6 : (16 : Int) < ((c.Channels.xs.length : Nat) : Int)
       · refine q_cS 9 0 [1] [[o0, (a1 1), oF, o0, o0, (a1 1), oF, o0, o0, o0, (a1 1), o0, oF, o0, o0, o0, (a1 1), o0, oT, o0], [o0]] [Qb z, BF ((c.Kernel : Int) < 0), Qb z, BF ((c.Kernel : Int) ≥ 1024), Qb z, BF ((((c.Partitions.xs.length : Nat) : Int) : Int) > 8), Qb z, BT ((((c.Channels.xs.length : Nat) : Int) : Int) > 16)] [(2, .bool false)] rfl ⟨rfl, bf (by omega), rfl, bf (by omega), rfl, bf (by omega), rfl, bt (by omega), trivial⟩ ?_
         refine e_ret [] [] (.bool false) trivial ?_
         intro w7 hw7
         refine ⟨congrArg (fun b => Ending.returned (Value.bool b)) (Eq.symm (?_ : confOk c = false)), back0 hw7⟩
         exact conf_no1 (by omega)
       · refine q_cS 12 0 [0] [[o0, (a1 1), oF, o0, o0, (a1 1), oF, o0, o0, o0, (a1 1), o0, oF, o0, o0, o0, (a1 1), o0, oF, o0], [o0, (a1 1), o0, o0]] [Qb z, BF ((c.Kernel : Int) < 0), Qb z, BF ((c.Kernel : Int) ≥ 1024), Qb z, BF ((((c.Partitions.xs.length : Nat) : Int) : Int) > 8), Qb z, BF ((((c.Channels.xs.length : Nat) : Int) : Int) > 16), Qb z] [(1, pt z), (qw0d_6 c), (32, i6 0)] rfl ⟨rfl, bf (by omega), rfl, bf (by omega), rfl, bf (by omega), rfl, bf (by omega), rfl, trivial⟩ ?_
         refine g_loop (fun m a w' => ∃ (n9 : Nat) (k : Nat), m = c.Partitions.xs.length - k ∧ z + 1 ≤ n9 ∧ (k ≤ c.Partitions.xs.length) ∧ (∀ i, i < k → partOk c.Channels.xs.length (gd c.Partitions.xs i) = true) ∧ St 106 [(1, pt z), (qw0d_6 c), (32, i6 (k : Int))] [] ⟨w, n9, [(old0 w), (qw0d_1 z c)]⟩ a w') (c.Partitions.xs.length - 0) ?_ ?_
         · intro a w' hs; exact ⟨(z + 1), 0, rfl, Nat.le_refl _, Nat.zero_le _, fun i hi => absurd hi (Nat.not_lt_zero i), hs⟩
         · rintro m a w' ⟨n9, k, rfl, hn8, hkk, hp, hs⟩
           refine (?_ : G Tryd.prog 106 [(1, pt z), (qw0d_6 c), (32, i6 (k : Int))] [] ⟨w, n9, [(old0 w), (qw0d_1 z c)]⟩ _ _ _) a w' hs
           clear hs a w'
           refine g_seq ?_
           by_cases h10 : ((k : Int) : Int) < ((c.Partitions.xs.length : Nat) : Int)
           · refine q_cS 14 0 [1] [[oT], [o0, o0]] [BT (((k : Int) : Int) < ((c.Partitions.xs.length : Nat) : Int))] [(1, pt z), (qw0d_6 c), (32, i6 (k : Int)), (3, i6 (k : Int))] rfl ⟨bt (by omega), trivial⟩ ?_
             obtain ⟨b11, o12, ha13, hF15, hc14⟩ := (hc.Partitions).1.all (show 0 < c.Partitions.xs.length by omega)
             replace ha13 : c.Partitions.a = some ⟨b11, o12, none⟩ := ha13
             have hc16 := hc14 k (show k < c.Partitions.xs.length by omega)
             have he17 := (hc.Partitions).2 k (show k < c.Partitions.xs.length by omega)
             obtain ⟨y18, hy18⟩ : ∃ y_, y_ = gd c.Partitions.xs k := ⟨_, rfl⟩
             rw [← hy18] at he17 hc16
             refine g_draw 10 [0, 1] [(old0 w), (qw0d_1 z c)] rfl rfl ?_
             refine w_take [(0, o0), (1, ⟨.auto [.at 1], some (.slice (some ⟨b11, o12, none⟩) c.Partitions.xs.length c.Partitions.cap)⟩), (2, o0), (3, (oi k)), (4, (ol 0 (TPartition.arr y18))), (5, o0), (6, (a1 1)), (7, o0)] [1, 31, 32, 39, 42] [Qb z, Value.slice c.Partitions.a c.Partitions.xs.length c.Partitions.cap = Value.slice (some ⟨b11, o12, none⟩) c.Partitions.xs.length c.Partitions.cap, ((k : Int) : Int) = ((k : Nat) : Int), k < c.Partitions.xs.length, (none : Option Nat) = none, OldR w b11 (o12 + k * 8) (TPartition.arr y18), Qb z] [true, true, true, true, true, true, true, true, false, false] [(1, pt z), (qw0d_6 c), (32, i6 (k : Int)), (39, .agg (TPartition.arr y18)), (42, i6 ((c.Channels.xs.length : Nat) : Int))] rfl (by as_aux_lemma => kernel_rfl) (by as_aux_lemma => kernel_rfl) ⟨rfl, congrArg (fun a => Value.slice a _ _) ha13, rfl, (by omega), rfl, old_row hc16, rfl, trivial⟩ ?_
             refine w_one 8 (by as_aux_lemma => kernel_rfl) rfl ?_
             refine wo_call [] [] 80 #[.agg (TPartition.arr y18), i6 ((c.Channels.xs.length : Nat) : Int)] (some 43) (by as_aux_lemma => kernel_rfl) rfl rfl trivial ?_
             intro w19 hw19
             refine (rpart_calls w19 y18 c.Channels.xs.length (he17.ext (hw19.ext rfl) (fun _ h => h))).mono ?_
             rintro e w20 ⟨rfl, hkw20⟩
             have hnw20 : n9 ≤ w20.heap.size := size_of hw19 hkw20
             have hs21 := hw19.keeps hkw20
             refine ⟨_, _, rfl, hs21, .inr (fun c hc => hs21.all c (by first | exact hc | exact picks_mem (is := [0, 1]) rfl c hc)), ?_⟩
             refine w_keep [1, 31, 32, 43] [(1, pt z), (qw0d_6 c), (32, i6 (k : Int)), (43, .bool (partOk c.Channels.xs.length y18))] ?_
             by_cases h22 : (partOk c.Channels.xs.length y18) = true
             · refine w_take [(9, (ov (.bool false)))] [1, 31, 32, 44] [Value.bool (!(partOk c.Channels.xs.length y18)) = Value.bool false] [true, true, true, true, true, true, true, true, true, true] [(1, pt z), (qw0d_6 c), (32, i6 (k : Int)), (44, .bool false)] rfl (by as_aux_lemma => kernel_rfl) (by as_aux_lemma => kernel_rfl) ⟨by simp [h22], trivial⟩ ?_
               refine w_done (by as_aux_lemma => kernel_rfl) ?_
               refine q_oS 7 0 [0] [[(ov (i6 ((k + 1 : Nat) : Int))), o0]] [Wr (((k : Int) : Int) + 1) (((k + 1 : Nat) : Int))] [(1, pt z), (qw0d_6 c), (32, i6 ((k + 1 : Nat) : Int))] rfl ⟨wrI, trivial⟩ ?_
               refine e_inv (fun a w' hs => ⟨c.Partitions.xs.length - (k + 1), by omega, w20.heap.size, (k + 1), rfl, by omega, by omega, upto hp (by rw [← hy18]; exact h22), hs⟩)
             · refine w_take [(9, (ov (.bool true)))] [1, 31, 32, 44] [Value.bool (!(partOk c.Channels.xs.length y18)) = Value.bool true] [true, true, true, true, true, true, true, true, true, true] [(1, pt z), (qw0d_6 c), (32, i6 (k : Int)), (44, .bool true)] rfl (by as_aux_lemma => kernel_rfl) (by as_aux_lemma => kernel_rfl) ⟨by simp [h22], trivial⟩ ?_
               refine w_done (by as_aux_lemma => kernel_rfl) ?_
               refine q_oS 7 0 [1] [[o0]] [] [(2, .bool false)] rfl trivial ?_
               refine e_ret [] [] (.bool false) trivial ?_
               intro w23 hw23
               refine ⟨congrArg (fun b => Ending.returned (Value.bool b)) (Eq.symm (?_ : confOk c = false)), back0 hw23⟩
               exact conf_no2 (k := k) (by omega) (by rw [← hy18]; exact Bool.eq_false_iff.2 h22)
           · refine q_cS 16 0 [0] [[oF], [o0, (a1 1), o0, o0]] [BF (((k : Int) : Int) < ((c.Partitions.xs.length : Nat) : Int)), Qb z] [(1, pt z), (qw0d_8 c), (49, i6 0)] rfl ⟨bf (by omega), rfl, trivial⟩ ?_
             refine g_loop (fun m a w' => ∃ (n25 : Nat) (k2 : Nat), m = c.Channels.xs.length - k2 ∧ n9 ≤ n25 ∧ (k2 ≤ c.Channels.xs.length) ∧ (∀ i, i < k2 → chanOk c i = true) ∧ St 106 [(1, pt z), (qw0d_8 c), (49, i6 (k2 : Int))] [] ⟨w, n25, [(old0 w), (qw0d_1 z c)]⟩ a w') (c.Channels.xs.length - 0) ?_ ?_
             · intro a w' hs; exact ⟨n9, 0, rfl, Nat.le_refl _, Nat.zero_le _, fun i hi => absurd hi (Nat.not_lt_zero i), hs⟩
             · rintro m a w' ⟨n25, k2, rfl, hn24, hkk2, hch, hs⟩
               refine (?_ : G Tryd.prog 106 [(1, pt z), (qw0d_8 c), (49, i6 (k2 : Int))] [] ⟨w, n25, [(old0 w), (qw0d_1 z c)]⟩ _ _ _) a w' hs
               clear hs a w'
               refine g_seq ?_
               by_cases h26 : ((k2 : Int) : Int) < ((c.Channels.xs.length : Nat) : Int)
               · refine q_cS 14 0 [1] [[oT], [o0, o0]] [BT (((k2 : Int) : Int) < ((c.Channels.xs.length : Nat) : Int))] [(1, pt z), (qw0d_8 c), (49, i6 (k2 : Int)), (4, i6 (k2 : Int))] rfl ⟨bt (by omega), trivial⟩ ?_
                 obtain ⟨b27, o28, ha29, hF31, hc30⟩ := (hc.Channels).1.all (show 0 < c.Channels.xs.length by omega)
                 replace ha29 : c.Channels.a = some ⟨b27, o28, none⟩ := ha29
                 have hc32 := hc30 k2 (show k2 < c.Channels.xs.length by omega)
                 have he33 := (hc.Channels).2 k2 (show k2 < c.Channels.xs.length by omega)
                 obtain ⟨y34, hy34⟩ : ∃ y_, y_ = gd c.Channels.xs k2 := ⟨_, rfl⟩
                 rw [← hy34] at he33 hc32
                 refine q_c 6 1 [] [[o0, ⟨.auto [.at 1], some (.slice (some ⟨b27, o28, none⟩) c.Channels.xs.length c.Channels.cap)⟩, o0, (oi k2), (ol 0 (TChannel.arr y34)), o0, (an 3 2)], [(an 3 2)]] [Qb z, Value.slice c.Channels.a c.Channels.xs.length c.Channels.cap = Value.slice (some ⟨b27, o28, none⟩) c.Channels.xs.length c.Channels.cap, ((k2 : Int) : Int) = ((k2 : Nat) : Int), k2 < c.Channels.xs.length, (none : Option Nat) = none, OldR w b27 (o28 + k2 * 3) (TChannel.arr y34), Qb n25, Qb n25, Qb n25, Qb n25, Qb n25, Qb n25] [(1, pt z), (qw0d_8 c), (49, i6 (k2 : Int)), (4, i6 (k2 : Int)), (5, pt n25), (57, .agg (TChannel.arr y34))] ⟨w, n25 + 1, [(old0 w), (qw0d_1 z c), (qw0d_0 n25 y34)]⟩ rfl ⟨rfl, congrArg (fun a => Value.slice a _ _) ha29, rfl, (by omega), rfl, old_row hc32, rfl, rfl, rfl, rfl, rfl, rfl, trivial⟩ ?_
                 refine l_call [] [] 81 #[.agg (TChannel.arr y34)] (some 58) trivial ?_
                 intro w35 hw35
                 refine (rport_calls w35 y34 (he33.ext (hw35.ext rfl) (fun _ h => h))).mono ?_
                 rintro e w36 ⟨rfl, hkw36⟩
                 have hnw36 : n25 + 1 ≤ w36.heap.size := size_of hw35 hkw36
                 refine ⟨_, _, rfl, hw35.keeps hkw36, ?_⟩
                 refine l_keep [1, 48, 49, 4, 5, 58] [(1, pt z), (qw0d_8 c), (49, i6 (k2 : Int)), (4, i6 (k2 : Int)), (5, pt n25), (58, i6 (portOf y34))] ?_
                 by_cases h37 : (portOf y34 : Int) = 0
                 · refine q_rS 8 0 [1] [[oT, o0, o0], [o0]] [ET (portOf y34) 0] [(2, .bool false)] rfl ⟨et (by omega), trivial⟩ ?_
                   refine e_ret [] [] (.bool false) trivial ?_
                   intro w38 hw38
                   refine ⟨congrArg (fun b => Ending.returned (Value.bool b)) (Eq.symm (?_ : confOk c = false)), back0 hw38⟩
                   exact conf_no3 (k := k2) (by omega) (chan_no (by rw [← hy34]; first | omega | (right; right; unfold nEnds; rw [show c.Partitions.xs.length = k3 by omega]; omega)))
                 · by_cases h39 : (y34.Kind : Int) = 1
                   · by_cases h40 : (y34.Depth : Int) = 0
                     · refine q_rS 19 0 [0] [[oF, o0, o0, (a1 2), oT, o0, o0, (a1 2), oF, o0, o0], [o0], [o0], [o0, (a1 1), o0, o0]] [EF (portOf y34) 0, Qb n25, ET y34.Kind 1, Qb n25, NF y34.Depth 0, Qb z] [(1, pt z), (4, i6 (k2 : Int)), (6, i6 0), (7, i6 0), (qw0d_8 c), (49, i6 (k2 : Int)), (qw0d_7 c), (73, i6 0)] rfl ⟨ef (by omega), rfl, et (by omega), rfl, nf (by omega), rfl, trivial⟩ ?_
                       refine g_loop (fun m a w' => ∃ (n42 : Nat) (k3 : Nat), m = c.Partitions.xs.length - k3 ∧ w36.heap.size ≤ n42 ∧ (k3 ≤ c.Partitions.xs.length) ∧ St 106 [(1, pt z), (4, i6 (k2 : Int)), (qw0d_5 k2 c k3), (qw0d_4 k2 c k3), (qw0d_8 c), (49, i6 (k2 : Int)), (qw0d_7 c), (73, i6 (k3 : Int))] [] ⟨w, n42, [(old0 w), (qw0d_1 z c), (qw0d_0 n25 y34)]⟩ a w') (c.Partitions.xs.length - 0) ?_ ?_
                       · intro a w' hs; exact ⟨w36.heap.size, 0, rfl, Nat.le_refl _, Nat.zero_le _, hs⟩
                       · rintro m a w' ⟨n42, k3, rfl, hn41, hkk3, hs⟩
                         refine (?_ : G Tryd.prog 106 [(1, pt z), (4, i6 (k2 : Int)), (qw0d_5 k2 c k3), (qw0d_4 k2 c k3), (qw0d_8 c), (49, i6 (k2 : Int)), (qw0d_7 c), (73, i6 (k3 : Int))] [] ⟨w, n42, [(old0 w), (qw0d_1 z c), (qw0d_0 n25 y34)]⟩ _ _ _) a w' hs
                         clear hs a w'
                         have hsa := sumN_le (f := fun x => endsN x (k2 : Int) true) (B := 8) (xs := c.Partitions.xs) (fun i hi => endsN_le (hp i (by omega)) _ _) k3 hkk3
                         have hsb := sumN_le (f := fun x => endsN x (k2 : Int) false) (B := 8) (xs := c.Partitions.xs) (fun i hi => endsN_le (hp i (by omega)) _ _) k3 hkk3
                         refine g_seq ?_
                         by_cases h43 : ((k3 : Int) : Int) < ((c.Partitions.xs.length : Nat) : Int)
                         · refine q_cS 14 0 [1] [[oT], [o0, o0]] [BT (((k3 : Int) : Int) < ((c.Partitions.xs.length : Nat) : Int))] [(1, pt z), (4, i6 (k2 : Int)), (qw0d_5 k2 c k3), (qw0d_4 k2 c k3), (qw0d_8 c), (49, i6 (k2 : Int)), (qw0d_7 c), (73, i6 (k3 : Int)), (8, i6 (k3 : Int))] rfl ⟨bt (by omega), trivial⟩ ?_
                           obtain ⟨b44, o45, ha46, hF48, hc47⟩ := (hc.Partitions).1.all (show 0 < c.Partitions.xs.length by omega)
                           replace ha46 : c.Partitions.a = some ⟨b44, o45, none⟩ := ha46
                           have hc49 := hc47 k3 (show k3 < c.Partitions.xs.length by omega)
                           have he50 := (hc.Partitions).2 k3 (show k3 < c.Partitions.xs.length by omega)
                           obtain ⟨y51, hy51⟩ : ∃ y_, y_ = gd c.Partitions.xs k3 := ⟨_, rfl⟩
                           rw [← hy51] at he50 hc49
                           have hqy51 := hp k3 (by omega); rw [← hy51] at hqy51; have hl1y51 := endsN_le hqy51 (k2 : Int) true; have hl2y51 := endsN_le hqy51 (k2 : Int) false
                           refine q_cS 1 7 [] [[o0, o0, ⟨.auto [.at 1], some (.slice (some ⟨b44, o45, none⟩) c.Partitions.xs.length c.Partitions.cap)⟩, o0, (oi k3), (ol 0 (TPartition.arr y51)), o0]] [Qb z, Value.slice c.Partitions.a c.Partitions.xs.length c.Partitions.cap = Value.slice (some ⟨b44, o45, none⟩) c.Partitions.xs.length c.Partitions.cap, ((k3 : Int) : Int) = ((k3 : Nat) : Int), k3 < c.Partitions.xs.length, (none : Option Nat) = none, OldR w b44 (o45 + k3 * 8) (TPartition.arr y51)] [(1, pt z), (4, i6 (k2 : Int)), (qw0d_4 k2 c k3), (qw0d_8 c), (49, i6 (k2 : Int)), (qw0d_7 c), (73, i6 (k3 : Int)), (8, i6 (k3 : Int)), (76, i6 ((sumN (fun x => endsN x (k2 : Int) true) c.Partitions.xs k3 : Nat) : Int)), (81, .agg (TPartition.arr y51)), (82, i6 (k2 : Int))] rfl ⟨rfl, congrArg (fun a => Value.slice a _ _) ha46, rfl, (by omega), rfl, old_row hc49, trivial⟩ ?_
                           refine l_call [] [] 82 #[.agg (TPartition.arr y51), i6 (k2 : Int), .bool true] (some 83) trivial ?_
                           intro w52 hw52
                           refine (rends_calls w52 y51 (k2 : Int) true (he50.ext (hw52.ext rfl) (fun _ h => h))).mono ?_
                           rintro e w53 ⟨rfl, hkw53⟩
                           have hnw53 : n42 ≤ w53.heap.size := size_of hw52 hkw53
                           refine ⟨_, _, rfl, hw52.keeps hkw53, ?_⟩
                           refine q_rS 3 7 [] [[(ov (i6 (((sumN (fun x => endsN x (k2 : Int) true) c.Partitions.xs k3) + (endsN y51 (k2 : Int) true) : Nat) : Int))), o0], [o0, o0, ⟨.auto [.at 1], some (.slice (some ⟨b44, o45, none⟩) c.Partitions.xs.length c.Partitions.cap)⟩, o0, (oi k3), (ol 0 (TPartition.arr y51)), o0]] [Wr ((((sumN (fun x => endsN x (k2 : Int) true) c.Partitions.xs k3 : Nat) : Int) : Int) + ((endsN y51 (k2 : Int) true : Nat) : Int)) ((((sumN (fun x => endsN x (k2 : Int) true) c.Partitions.xs k3) + (endsN y51 (k2 : Int) true) : Nat) : Int)), Qb z, Value.slice c.Partitions.a c.Partitions.xs.length c.Partitions.cap = Value.slice (some ⟨b44, o45, none⟩) c.Partitions.xs.length c.Partitions.cap, ((k3 : Int) : Int) = ((k3 : Nat) : Int), k3 < c.Partitions.xs.length, (none : Option Nat) = none, OldR w b44 (o45 + k3 * 8) (TPartition.arr y51)] [(1, pt z), (4, i6 (k2 : Int)), (qw0d_8 c), (49, i6 (k2 : Int)), (qw0d_7 c), (73, i6 (k3 : Int)), (qw0d_2 k2 c k3 y51), (85, i6 ((sumN (fun x => endsN x (k2 : Int) false) c.Partitions.xs k3 : Nat) : Int)), (90, .agg (TPartition.arr y51)), (91, i6 (k2 : Int))] rfl ⟨wrI, rfl, congrArg (fun a => Value.slice a _ _) ha46, rfl, (by omega), rfl, old_row hc49, trivial⟩ ?_
                           refine l_call [] [] 82 #[.agg (TPartition.arr y51), i6 (k2 : Int), .bool false] (some 92) trivial ?_
                           intro w54 hw54
                           refine (rends_calls w54 y51 (k2 : Int) false (he50.ext (hw54.ext rfl) (fun _ h => h))).mono ?_
                           rintro e w55 ⟨rfl, hkw55⟩
                           have hnw55 : w53.heap.size ≤ w55.heap.size := size_of hw54 hkw55
                           refine ⟨_, _, rfl, hw54.keeps hkw55, ?_⟩
                           refine q_rS 5 0 [] [[(ov (i6 (((sumN (fun x => endsN x (k2 : Int) false) c.Partitions.xs k3) + (endsN y51 (k2 : Int) false) : Nat) : Int))), o0], [(ov (i6 ((k3 + 1 : Nat) : Int))), o0]] [Wr ((((sumN (fun x => endsN x (k2 : Int) false) c.Partitions.xs k3 : Nat) : Int) : Int) + ((endsN y51 (k2 : Int) false : Nat) : Int)) ((((sumN (fun x => endsN x (k2 : Int) false) c.Partitions.xs k3) + (endsN y51 (k2 : Int) false) : Nat) : Int)), Wr (((k3 : Int) : Int) + 1) (((k3 + 1 : Nat) : Int))] [(1, pt z), (4, i6 (k2 : Int)), (qw0d_8 c), (49, i6 (k2 : Int)), (qw0d_7 c), (73, i6 ((k3 + 1 : Nat) : Int)), (qw0d_2 k2 c k3 y51), (7, i6 (((sumN (fun x => endsN x (k2 : Int) false) c.Partitions.xs k3) + (endsN y51 (k2 : Int) false) : Nat) : Int))] rfl ⟨wrI, wrI, trivial⟩ ?_
                           have hT1 := sumN_succ (f := fun x => endsN x (k2 : Int) true) (show k3 < c.Partitions.xs.length by omega)
                           have hT2 := sumN_succ (f := fun x => endsN x (k2 : Int) false) (show k3 < c.Partitions.xs.length by omega)
                           rw [← hy51] at hT1 hT2
                           refine e_keep [1, 4, 6, 7, 48, 49, 72, 73] [(1, pt z), (4, i6 (k2 : Int)), (qw0d_2 k2 c k3 y51), (7, i6 (((sumN (fun x => endsN x (k2 : Int) false) c.Partitions.xs k3) + (endsN y51 (k2 : Int) false) : Nat) : Int)), (qw0d_8 c), (49, i6 (k2 : Int)), (qw0d_7 c), (73, i6 ((k3 + 1 : Nat) : Int))] ?_
                           refine e_inv (fun a w' hs => ⟨c.Partitions.xs.length - (k3 + 1), by omega, w55.heap.size, (k3 + 1), rfl, by omega, by omega, by (try dsimp only [qw0d_0, qw0d_1, qw0d_2, qw0d_3, qw0d_4, qw0d_5, qw0d_6, qw0d_7, qw0d_8] at hs ⊢); rw [hT1, hT2]; exact hs⟩)
                         · refine q_cS 11 0 [0] [[oF]] [BF (((k3 : Int) : Int) < ((c.Partitions.xs.length : Nat) : Int))] [(1, pt z), (4, i6 (k2 : Int)), (qw0d_5 k2 c k3), (qw0d_4 k2 c k3), (qw0d_8 c), (49, i6 (k2 : Int)), (qw0d_7 c), (73, i6 (k3 : Int)), (74, .bool false)] rfl ⟨bf (by omega), trivial⟩ ?_
                           by_cases h56 : (((sumN (fun x => endsN x (k2 : Int) true) c.Partitions.xs k3 : Nat) : Int) : Int) = 1
                           · by_cases h57 : (((sumN (fun x => endsN x (k2 : Int) false) c.Partitions.xs k3 : Nat) : Int) : Int) < 1
                             · refine q_cS 9 0 [1] [[o0, oF, o0, o0, oT, o0, o0, o0], [o0]] [NF ((sumN (fun x => endsN x (k2 : Int) true) c.Partitions.xs k3 : Nat) : Int) 1, BT ((((sumN (fun x => endsN x (k2 : Int) false) c.Partitions.xs k3 : Nat) : Int) : Int) < 1)] [(2, .bool false)] rfl ⟨nf (by omega), bt (by omega), trivial⟩ ?_
                               refine e_ret [] [] (.bool false) trivial ?_
                               intro w58 hw58
                               refine ⟨congrArg (fun b => Ending.returned (Value.bool b)) (Eq.symm (?_ : confOk c = false)), back0 hw58⟩
                               exact conf_no3 (k := k2) (by omega) (chan_no (by rw [← hy34]; first | omega | (right; right; unfold nEnds; rw [show c.Partitions.xs.length = k3 by omega]; omega)))
                             · by_cases h59 : (4 : Int) < ((sumN (fun x => endsN x (k2 : Int) false) c.Partitions.xs k3 : Nat) : Int)
                               · refine q_cS 9 0 [1] [[o0, oF, o0, o0, oF, o0, o0, o0, oT, o0], [o0]] [NF ((sumN (fun x => endsN x (k2 : Int) true) c.Partitions.xs k3 : Nat) : Int) 1, BF ((((sumN (fun x => endsN x (k2 : Int) false) c.Partitions.xs k3 : Nat) : Int) : Int) < 1), BT ((((sumN (fun x => endsN x (k2 : Int) false) c.Partitions.xs k3 : Nat) : Int) : Int) > 4)] [(2, .bool false)] rfl ⟨nf (by omega), bf (by omega), bt (by omega), trivial⟩ ?_
                                 refine e_ret [] [] (.bool false) trivial ?_
                                 intro w60 hw60
                                 refine ⟨congrArg (fun b => Ending.returned (Value.bool b)) (Eq.symm (?_ : confOk c = false)), back0 hw60⟩
                                 exact conf_no3 (k := k2) (by omega) (chan_no (by rw [← hy34]; first | omega | (right; right; unfold nEnds; rw [show c.Partitions.xs.length = k3 by omega]; omega)))
                               · refine q_cS 9 0 [0] [[o0, oF, o0, o0, oF, o0, o0, o0, oF, o0], [(ov (i6 ((k2 + 1 : Nat) : Int))), o0]] [NF ((sumN (fun x => endsN x (k2 : Int) true) c.Partitions.xs k3 : Nat) : Int) 1, BF ((((sumN (fun x => endsN x (k2 : Int) false) c.Partitions.xs k3 : Nat) : Int) : Int) < 1), BF ((((sumN (fun x => endsN x (k2 : Int) false) c.Partitions.xs k3 : Nat) : Int) : Int) > 4), Wr (((k2 : Int) : Int) + 1) (((k2 + 1 : Nat) : Int))] [(1, pt z), (qw0d_8 c), (49, i6 ((k2 + 1 : Nat) : Int))] rfl ⟨nf (by omega), bf (by omega), bf (by omega), wrI, trivial⟩ ?_
                                 refine e_pick [0, 1] [(old0 w), (qw0d_1 z c)] rfl rfl ?_
                                 refine e_keep [1, 48, 49] [(1, pt z), (qw0d_8 c), (49, i6 ((k2 + 1 : Nat) : Int))] ?_
                                 refine e_inv (fun a w' hs => ⟨c.Channels.xs.length - (k2 + 1), by omega, n42, (k2 + 1), rfl, by omega, by omega, upto hch (chan_yes (by rw [← hy34]; omega) (by rw [← hy34]; omega) (by unfold nEnds; rw [show c.Partitions.xs.length = k3 by omega]; omega) (by unfold nEnds; rw [show c.Partitions.xs.length = k3 by omega]; omega)), hs⟩)
                           · refine q_cS 9 0 [1] [[o0, oT, o0, o0, o0, o0], [o0]] [NT ((sumN (fun x => endsN x (k2 : Int) true) c.Partitions.xs k3 : Nat) : Int) 1] [(2, .bool false)] rfl ⟨nt (by omega), trivial⟩ ?_
                             refine e_ret [] [] (.bool false) trivial ?_
                             intro w61 hw61
                             refine ⟨congrArg (fun b => Ending.returned (Value.bool b)) (Eq.symm (?_ : confOk c = false)), back0 hw61⟩
                             exact conf_no3 (k := k2) (by omega) (chan_no (by rw [← hy34]; first | omega | (right; right; unfold nEnds; rw [show c.Partitions.xs.length = k3 by omega]; omega)))
                     · refine q_rS 8 0 [1] [[oF, o0, o0, (a1 2), oT, o0, o0, (a1 2), oT, o0, o0], [o0]] [EF (portOf y34) 0, Qb n25, ET y34.Kind 1, Qb n25, NT y34.Depth 0] [(2, .bool false)] rfl ⟨ef (by omega), rfl, et (by omega), rfl, nt (by omega), trivial⟩ ?_
                       refine e_ret [] [] (.bool false) trivial ?_
                       intro w62 hw62
                       refine ⟨congrArg (fun b => Ending.returned (Value.bool b)) (Eq.symm (?_ : confOk c = false)), back0 hw62⟩
                       exact conf_no3 (k := k2) (by omega) (chan_no (by rw [← hy34]; first | omega | (right; right; unfold nEnds; rw [show c.Partitions.xs.length = k3 by omega]; omega)))
                   · refine q_rS 19 0 [0] [[oF, o0, o0, (a1 2), oF, o0, o0, o0], [o0], [o0], [o0, (a1 1), o0, o0]] [EF (portOf y34) 0, Qb n25, EF y34.Kind 1, Qb z] [(1, pt z), (4, i6 (k2 : Int)), (6, i6 0), (7, i6 0), (qw0d_8 c), (49, i6 (k2 : Int)), (qw0d_7 c), (73, i6 0)] rfl ⟨ef (by omega), rfl, ef (by omega), rfl, trivial⟩ ?_
                     refine g_loop (fun m a w' => ∃ (n64 : Nat) (k3 : Nat), m = c.Partitions.xs.length - k3 ∧ w36.heap.size ≤ n64 ∧ (k3 ≤ c.Partitions.xs.length) ∧ St 106 [(1, pt z), (4, i6 (k2 : Int)), (qw0d_5 k2 c k3), (qw0d_4 k2 c k3), (qw0d_8 c), (49, i6 (k2 : Int)), (qw0d_7 c), (73, i6 (k3 : Int))] [] ⟨w, n64, [(old0 w), (qw0d_1 z c), (qw0d_0 n25 y34)]⟩ a w') (c.Partitions.xs.length - 0) ?_ ?_
                     · intro a w' hs; exact ⟨w36.heap.size, 0, rfl, Nat.le_refl _, Nat.zero_le _, hs⟩
                     · rintro m a w' ⟨n64, k3, rfl, hn63, hkk3, hs⟩
                       refine (?_ : G Tryd.prog 106 [(1, pt z), (4, i6 (k2 : Int)), (qw0d_5 k2 c k3), (qw0d_4 k2 c k3), (qw0d_8 c), (49, i6 (k2 : Int)), (qw0d_7 c), (73, i6 (k3 : Int))] [] ⟨w, n64, [(old0 w), (qw0d_1 z c), (qw0d_0 n25 y34)]⟩ _ _ _) a w' hs
                       clear hs a w'
                       have hsa := sumN_le (f := fun x => endsN x (k2 : Int) true) (B := 8) (xs := c.Partitions.xs) (fun i hi => endsN_le (hp i (by omega)) _ _) k3 hkk3
                       have hsb := sumN_le (f := fun x => endsN x (k2 : Int) false) (B := 8) (xs := c.Partitions.xs) (fun i hi => endsN_le (hp i (by omega)) _ _) k3 hkk3
                       refine g_seq ?_
                       by_cases h65 : ((k3 : Int) : Int) < ((c.Partitions.xs.length : Nat) : Int)
                       · refine q_cS 14 0 [1] [[oT], [o0, o0]] [BT (((k3 : Int) : Int) < ((c.Partitions.xs.length : Nat) : Int))] [(1, pt z), (4, i6 (k2 : Int)), (qw0d_5 k2 c k3), (qw0d_4 k2 c k3), (qw0d_8 c), (49, i6 (k2 : Int)), (qw0d_7 c), (73, i6 (k3 : Int)), (8, i6 (k3 : Int))] rfl ⟨bt (by omega), trivial⟩ ?_
                         obtain ⟨b66, o67, ha68, hF70, hc69⟩ := (hc.Partitions).1.all (show 0 < c.Partitions.xs.length by omega)
                         replace ha68 : c.Partitions.a = some ⟨b66, o67, none⟩ := ha68
                         have hc71 := hc69 k3 (show k3 < c.Partitions.xs.length by omega)
                         have he72 := (hc.Partitions).2 k3 (show k3 < c.Partitions.xs.length by omega)
                         obtain ⟨y73, hy73⟩ : ∃ y_, y_ = gd c.Partitions.xs k3 := ⟨_, rfl⟩
                         rw [← hy73] at he72 hc71
                         have hqy73 := hp k3 (by omega); rw [← hy73] at hqy73; have hl1y73 := endsN_le hqy73 (k2 : Int) true; have hl2y73 := endsN_le hqy73 (k2 : Int) false
                         refine q_cS 1 7 [] [[o0, o0, ⟨.auto [.at 1], some (.slice (some ⟨b66, o67, none⟩) c.Partitions.xs.length c.Partitions.cap)⟩, o0, (oi k3), (ol 0 (TPartition.arr y73)), o0]] [Qb z, Value.slice c.Partitions.a c.Partitions.xs.length c.Partitions.cap = Value.slice (some ⟨b66, o67, none⟩) c.Partitions.xs.length c.Partitions.cap, ((k3 : Int) : Int) = ((k3 : Nat) : Int), k3 < c.Partitions.xs.length, (none : Option Nat) = none, OldR w b66 (o67 + k3 * 8) (TPartition.arr y73)] [(1, pt z), (4, i6 (k2 : Int)), (qw0d_4 k2 c k3), (qw0d_8 c), (49, i6 (k2 : Int)), (qw0d_7 c), (73, i6 (k3 : Int)), (8, i6 (k3 : Int)), (76, i6 ((sumN (fun x => endsN x (k2 : Int) true) c.Partitions.xs k3 : Nat) : Int)), (81, .agg (TPartition.arr y73)), (82, i6 (k2 : Int))] rfl ⟨rfl, congrArg (fun a => Value.slice a _ _) ha68, rfl, (by omega), rfl, old_row hc71, trivial⟩ ?_
                         refine l_call [] [] 82 #[.agg (TPartition.arr y73), i6 (k2 : Int), .bool true] (some 83) trivial ?_
                         intro w74 hw74
                         refine (rends_calls w74 y73 (k2 : Int) true (he72.ext (hw74.ext rfl) (fun _ h => h))).mono ?_
                         rintro e w75 ⟨rfl, hkw75⟩
                         have hnw75 : n64 ≤ w75.heap.size := size_of hw74 hkw75
                         refine ⟨_, _, rfl, hw74.keeps hkw75, ?_⟩
                         refine q_rS 3 7 [] [[(ov (i6 (((sumN (fun x => endsN x (k2 : Int) true) c.Partitions.xs k3) + (endsN y73 (k2 : Int) true) : Nat) : Int))), o0], [o0, o0, ⟨.auto [.at 1], some (.slice (some ⟨b66, o67, none⟩) c.Partitions.xs.length c.Partitions.cap)⟩, o0, (oi k3), (ol 0 (TPartition.arr y73)), o0]] [Wr ((((sumN (fun x => endsN x (k2 : Int) true) c.Partitions.xs k3 : Nat) : Int) : Int) + ((endsN y73 (k2 : Int) true : Nat) : Int)) ((((sumN (fun x => endsN x (k2 : Int) true) c.Partitions.xs k3) + (endsN y73 (k2 : Int) true) : Nat) : Int)), Qb z, Value.slice c.Partitions.a c.Partitions.xs.length c.Partitions.cap = Value.slice (some ⟨b66, o67, none⟩) c.Partitions.xs.length c.Partitions.cap, ((k3 : Int) : Int) = ((k3 : Nat) : Int), k3 < c.Partitions.xs.length, (none : Option Nat) = none, OldR w b66 (o67 + k3 * 8) (TPartition.arr y73)] [(1, pt z), (4, i6 (k2 : Int)), (qw0d_8 c), (49, i6 (k2 : Int)), (qw0d_7 c), (73, i6 (k3 : Int)), (qw0d_3 k2 c k3 y73), (85, i6 ((sumN (fun x => endsN x (k2 : Int) false) c.Partitions.xs k3 : Nat) : Int)), (90, .agg (TPartition.arr y73)), (91, i6 (k2 : Int))] rfl ⟨wrI, rfl, congrArg (fun a => Value.slice a _ _) ha68, rfl, (by omega), rfl, old_row hc71, trivial⟩ ?_
                         refine l_call [] [] 82 #[.agg (TPartition.arr y73), i6 (k2 : Int), .bool false] (some 92) trivial ?_
                         intro w76 hw76
                         refine (rends_calls w76 y73 (k2 : Int) false (he72.ext (hw76.ext rfl) (fun _ h => h))).mono ?_
                         rintro e w77 ⟨rfl, hkw77⟩
                         have hnw77 : w75.heap.size ≤ w77.heap.size := size_of hw76 hkw77
                         refine ⟨_, _, rfl, hw76.keeps hkw77, ?_⟩
                         refine q_rS 5 0 [] [[(ov (i6 (((sumN (fun x => endsN x (k2 : Int) false) c.Partitions.xs k3) + (endsN y73 (k2 : Int) false) : Nat) : Int))), o0], [(ov (i6 ((k3 + 1 : Nat) : Int))), o0]] [Wr ((((sumN (fun x => endsN x (k2 : Int) false) c.Partitions.xs k3 : Nat) : Int) : Int) + ((endsN y73 (k2 : Int) false : Nat) : Int)) ((((sumN (fun x => endsN x (k2 : Int) false) c.Partitions.xs k3) + (endsN y73 (k2 : Int) false) : Nat) : Int)), Wr (((k3 : Int) : Int) + 1) (((k3 + 1 : Nat) : Int))] [(1, pt z), (4, i6 (k2 : Int)), (qw0d_8 c), (49, i6 (k2 : Int)), (qw0d_7 c), (73, i6 ((k3 + 1 : Nat) : Int)), (qw0d_3 k2 c k3 y73), (7, i6 (((sumN (fun x => endsN x (k2 : Int) false) c.Partitions.xs k3) + (endsN y73 (k2 : Int) false) : Nat) : Int))] rfl ⟨wrI, wrI, trivial⟩ ?_
                         have hT1 := sumN_succ (f := fun x => endsN x (k2 : Int) true) (show k3 < c.Partitions.xs.length by omega)
                         have hT2 := sumN_succ (f := fun x => endsN x (k2 : Int) false) (show k3 < c.Partitions.xs.length by omega)
                         rw [← hy73] at hT1 hT2
                         refine e_keep [1, 4, 6, 7, 48, 49, 72, 73] [(1, pt z), (4, i6 (k2 : Int)), (qw0d_3 k2 c k3 y73), (7, i6 (((sumN (fun x => endsN x (k2 : Int) false) c.Partitions.xs k3) + (endsN y73 (k2 : Int) false) : Nat) : Int)), (qw0d_8 c), (49, i6 (k2 : Int)), (qw0d_7 c), (73, i6 ((k3 + 1 : Nat) : Int))] ?_
                         refine e_inv (fun a w' hs => ⟨c.Partitions.xs.length - (k3 + 1), by omega, w77.heap.size, (k3 + 1), rfl, by omega, by omega, by (try dsimp only [qw0d_0, qw0d_1, qw0d_2, qw0d_3, qw0d_4, qw0d_5, qw0d_6, qw0d_7, qw0d_8] at hs ⊢); rw [hT1, hT2]; exact hs⟩)
                       · refine q_cS 11 0 [0] [[oF]] [BF (((k3 : Int) : Int) < ((c.Partitions.xs.length : Nat) : Int))] [(1, pt z), (4, i6 (k2 : Int)), (qw0d_5 k2 c k3), (qw0d_4 k2 c k3), (qw0d_8 c), (49, i6 (k2 : Int)), (qw0d_7 c), (73, i6 (k3 : Int)), (74, .bool false)] rfl ⟨bf (by omega), trivial⟩ ?_
                         by_cases h78 : (((sumN (fun x => endsN x (k2 : Int) true) c.Partitions.xs k3 : Nat) : Int) : Int) = 1
                         · by_cases h79 : (((sumN (fun x => endsN x (k2 : Int) false) c.Partitions.xs k3 : Nat) : Int) : Int) < 1
                           · refine q_cS 9 0 [1] [[o0, oF, o0, o0, oT, o0, o0, o0], [o0]] [NF ((sumN (fun x => endsN x (k2 : Int) true) c.Partitions.xs k3 : Nat) : Int) 1, BT ((((sumN (fun x => endsN x (k2 : Int) false) c.Partitions.xs k3 : Nat) : Int) : Int) < 1)] [(2, .bool false)] rfl ⟨nf (by omega), bt (by omega), trivial⟩ ?_
                             refine e_ret [] [] (.bool false) trivial ?_
                             intro w80 hw80
                             refine ⟨congrArg (fun b => Ending.returned (Value.bool b)) (Eq.symm (?_ : confOk c = false)), back0 hw80⟩
                             exact conf_no3 (k := k2) (by omega) (chan_no (by rw [← hy34]; first | omega | (right; right; unfold nEnds; rw [show c.Partitions.xs.length = k3 by omega]; omega)))
                           · by_cases h81 : (4 : Int) < ((sumN (fun x => endsN x (k2 : Int) false) c.Partitions.xs k3 : Nat) : Int)
                             · refine q_cS 9 0 [1] [[o0, oF, o0, o0, oF, o0, o0, o0, oT, o0], [o0]] [NF ((sumN (fun x => endsN x (k2 : Int) true) c.Partitions.xs k3 : Nat) : Int) 1, BF ((((sumN (fun x => endsN x (k2 : Int) false) c.Partitions.xs k3 : Nat) : Int) : Int) < 1), BT ((((sumN (fun x => endsN x (k2 : Int) false) c.Partitions.xs k3 : Nat) : Int) : Int) > 4)] [(2, .bool false)] rfl ⟨nf (by omega), bf (by omega), bt (by omega), trivial⟩ ?_
                               refine e_ret [] [] (.bool false) trivial ?_
                               intro w82 hw82
                               refine ⟨congrArg (fun b => Ending.returned (Value.bool b)) (Eq.symm (?_ : confOk c = false)), back0 hw82⟩
                               exact conf_no3 (k := k2) (by omega) (chan_no (by rw [← hy34]; first | omega | (right; right; unfold nEnds; rw [show c.Partitions.xs.length = k3 by omega]; omega)))
                             · refine q_cS 9 0 [0] [[o0, oF, o0, o0, oF, o0, o0, o0, oF, o0], [(ov (i6 ((k2 + 1 : Nat) : Int))), o0]] [NF ((sumN (fun x => endsN x (k2 : Int) true) c.Partitions.xs k3 : Nat) : Int) 1, BF ((((sumN (fun x => endsN x (k2 : Int) false) c.Partitions.xs k3 : Nat) : Int) : Int) < 1), BF ((((sumN (fun x => endsN x (k2 : Int) false) c.Partitions.xs k3 : Nat) : Int) : Int) > 4), Wr (((k2 : Int) : Int) + 1) (((k2 + 1 : Nat) : Int))] [(1, pt z), (qw0d_8 c), (49, i6 ((k2 + 1 : Nat) : Int))] rfl ⟨nf (by omega), bf (by omega), bf (by omega), wrI, trivial⟩ ?_
                               refine e_pick [0, 1] [(old0 w), (qw0d_1 z c)] rfl rfl ?_
                               refine e_keep [1, 48, 49] [(1, pt z), (qw0d_8 c), (49, i6 ((k2 + 1 : Nat) : Int))] ?_
                               refine e_inv (fun a w' hs => ⟨c.Channels.xs.length - (k2 + 1), by omega, n64, (k2 + 1), rfl, by omega, by omega, upto hch (chan_yes (by rw [← hy34]; omega) (by rw [← hy34]; omega) (by unfold nEnds; rw [show c.Partitions.xs.length = k3 by omega]; omega) (by unfold nEnds; rw [show c.Partitions.xs.length = k3 by omega]; omega)), hs⟩)
                         · refine q_cS 9 0 [1] [[o0, oT, o0, o0, o0, o0], [o0]] [NT ((sumN (fun x => endsN x (k2 : Int) true) c.Partitions.xs k3 : Nat) : Int) 1] [(2, .bool false)] rfl ⟨nt (by omega), trivial⟩ ?_
                           refine e_ret [] [] (.bool false) trivial ?_
                           intro w83 hw83
                           refine ⟨congrArg (fun b => Ending.returned (Value.bool b)) (Eq.symm (?_ : confOk c = false)), back0 hw83⟩
                           exact conf_no3 (k := k2) (by omega) (chan_no (by rw [← hy34]; first | omega | (right; right; unfold nEnds; rw [show c.Partitions.xs.length = k3 by omega]; omega)))
               · refine q_cS 15 0 [0] [[oF], [o0]] [BF (((k2 : Int) : Int) < ((c.Channels.xs.length : Nat) : Int))] [(2, .bool true)] rfl ⟨bf (by omega), trivial⟩ ?_
                 refine e_ret [] [] (.bool true) trivial ?_
                 intro w84 hw84
                 refine ⟨congrArg (fun b => Ending.returned (Value.bool b)) (Eq.symm (?_ : confOk c = true)), back0 hw84⟩
                 exact conf_yes (by omega) (by omega) (by omega) (fun i hi => hp i (by omega)) (fun i hi => hch i (by omega))
   · refine q_cS 9 0 [1] [[o0, (a1 1), oF, o0, o0, (a1 1), oT, o0, o0, o0, o0, o0], [o0]] [Qb z, BF ((c.Kernel : Int) < 0), Qb z, BT ((c.Kernel : Int) ≥ 1024)] [(2, .bool false)] rfl ⟨rfl, bf (by omega), rfl, bt (by omega), trivial⟩ ?_
     refine e_ret [] [] (.bool false) trivial ?_
     intro w85 hw85
     refine ⟨congrArg (fun b => Ending.returned (Value.bool b)) (Eq.symm (?_ : confOk c = false)), back0 hw85⟩
     exact conf_no1 (by omega)

end Go.Proofs.YtnjhekfgmbpmlaaDoor.Ly
