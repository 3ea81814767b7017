/- The document's holds. No conditions. -/
import Derived.Test.YtmmkacfeocnblaaXa
namespace Go.Proofs.Ytmmkacfeocnblaa.Ly
open Go Go.Proofs.Ytmmkacfeocnblaa.Eng Go.Proofs.Ytmmkacfeocnblaa.Mem
set_option linter.unusedSimpArgs false
set_option linter.unusedVariables false
set_option maxRecDepth 100000

theorem okR_is (y : TRegion) : okR y = ([y.Page, y.Pages, y.Frame, y.Rights] : List Int).all okNum := by unfold okR; simp [Bool.and_assoc]
theorem okP_is (y : TPort) : okP y = ([y.Channel] : List Int).all okNum := by unfold okP; simp
theorem okC_is (y : TChannel) : okC y = ([y.Kind, y.Words, y.Depth] : List Int).all okNum := by unfold okC; simp [Bool.and_assoc]
abbrev qnwl_0 (z : Nat) (p : TPartition) : Ch := bk (z + 1) #[i6 p.Entry, i6 p.Action, i6 p.Restarts, i6 p.Inputs, i6 p.Outputs] 3
abbrev qnwl_1 (z : Nat) (p : TPartition) : Ch := bk z (TPartition.arr p) 69
abbrev qnwl_2 (p : TPartition) : Nat × Value := (39, i6 ((p.Regions.xs.length : Nat) : Int))
abbrev qnwl_3 (p : TPartition) : Nat × Value := (62, i6 ((p.Ports.xs.length : Nat) : Int))
theorem holdsP_calls (w : World) (p : TPartition) (hp : TPartition.ok Any w p) : Calls Try.prog 68 #[.agg (TPartition.arr p)] w fun e w' => e = .returned (.bool (okPt p)) ∧ Keeps (fun _ => False) w w' := by
 obtain ⟨z, hz⟩ : ∃ z, z = w.heap.size := ⟨_, rfl⟩
 refine calls_G (args := [.agg (TPartition.arr p)]) 76 ⟨w, z, [(old0 w)]⟩ Try.func68 rfl (by kernel_rfl) (by kernel_rfl) (sat_0 hz) ?_
 have hrl := hp.Regions.1.len; have hpl := hp.Ports.1.len; have hnl := hp.Name
 refine g_keep [0] [(0, .agg (TPartition.arr p))] ?_
 refine q_c 6 0 [] [[o0, o0]] [] [(1, pt z)] ⟨w, z + 1, [(old0 w), (qnwl_1 z p)]⟩ rfl trivial ?_
 by_cases h1 : (255 : Int) < ((p.Name.size : Nat) : Int)
 · refine q_cS 9 0 [1] [[o0, (a1 1), o0, oT, o0, o0, o0, o0, o0, o0], [o0]] [Qb z, BT ((((p.Name.size : Nat) : Int) : Int) > 255)] [(2, .bool false)] rfl ⟨rfl, bt (by omega), trivial⟩ ?_
   refine e_ret [] [] (.bool false) trivial ?_
   intro w2 hw2
   exact ⟨congrArg (fun b => Ending.returned (Value.bool b)) (Eq.symm (by unfold okPt; rw [decide_eq_false (by omega : ¬ p.Name.size ≤ 255)]; simp)), back0 hw2⟩
 · by_cases h3 : (255 : Int) < ((p.Regions.xs.length : Nat) : Int)
   · refine q_cS 9 0 [1] [[o0, (a1 1), o0, oF, o0, o0, (a1 1), o0, oT, o0, o0, o0, o0, o0], [o0]] [Qb z, BF ((((p.Name.size : Nat) : Int) : Int) > 255), Qb z, BT ((((p.Regions.xs.length : Nat) : Int) : Int) > 255)] [(2, .bool false)] rfl ⟨rfl, bf (by omega), rfl, bt (by omega), trivial⟩ ?_
     refine e_ret [] [] (.bool false) trivial ?_
     intro w4 hw4
     exact ⟨congrArg (fun b => Ending.returned (Value.bool b)) (Eq.symm (by unfold okPt; rw [lst_no1 (ok := okR) (xs := p.Regions.xs) (by omega)]; simp)), back0 hw4⟩
   · by_cases h5 : (255 : Int) < ((p.Ports.xs.length : Nat) : Int)
     · refine q_cS 9 0 [1] [[o0, (a1 1), o0, oF, o0, o0, (a1 1), o0, oF, o0, o0, o0, (a1 1), o0, oT, o0, o0, o0], [o0]] [Qb z, BF ((((p.Name.size : Nat) : Int) : Int) > 255), Qb z, BF ((((p.Regions.xs.length : Nat) : Int) : Int) > 255), Qb z, BT ((((p.Ports.xs.length : Nat) : Int) : Int) > 255)] [(2, .bool false)] rfl ⟨rfl, bf (by omega), rfl, bf (by omega), rfl, bt (by omega), trivial⟩ ?_
       refine e_ret [] [] (.bool false) trivial ?_
       intro w6 hw6
       exact ⟨congrArg (fun b => Ending.returned (Value.bool b)) (Eq.symm (by unfold okPt; rw [lst_no1 (ok := okP) (xs := p.Ports.xs) (by omega)]; simp)), back0 hw6⟩
     · refine q_c 1 28 [] [[o0, (a1 1), o0, oF, o0, o0, (a1 1), o0, oF, o0, o0, o0, (a1 1), o0, oF, o0, o0, o0, (a1 1), o0, (a1 1), o0, (a1 1), o0, (a1 1), o0, (a1 1), o0]] [Qb z, BF ((((p.Name.size : Nat) : Int) : Int) > 255), Qb z, BF ((((p.Regions.xs.length : Nat) : Int) : Int) > 255), Qb z, BF ((((p.Ports.xs.length : Nat) : Int) : Int) > 255), Qb z, Qb z, Qb z, Qb z, Qb z] [(1, pt z), (22, .bool false), (33, .slice (some ⟨z + 1, 0, none⟩) 5 5)] ⟨w, z + 2, [(old0 w), (qnwl_1 z p), (qnwl_0 z p)]⟩ rfl ⟨rfl, bf (by omega), rfl, bf (by omega), rfl, bf (by omega), rfl, rfl, rfl, rfl, rfl, trivial⟩ ?_
       refine l_call [] [] 66 #[.slice (some ⟨z + 1, 0, none⟩) 5 5] (some 34) trivial ?_
       intro w7 hw7
       refine (may_calls w7 ⟨some ⟨z + 1, 0, none⟩, 5, ([p.Entry, p.Action, p.Restarts, p.Inputs, p.Outputs] : List Int)⟩ (blk_sl (hw7.at (i := 2) rfl) rfl (by simp) (by simp))).mono ?_
       rintro e w8 ⟨rfl, hkw8⟩
       have hnw8 : z + 2 ≤ w8.heap.size := size_of hw7 hkw8
       refine ⟨_, _, rfl, hw7.keeps hkw8, ?_⟩
       refine l_keep [1, 22, 34] [(1, pt z), (22, .bool false), (34, .bool (([p.Entry, p.Action, p.Restarts, p.Inputs, p.Outputs] : List Int).all okNum))] ?_
       by_cases h9 : (([p.Entry, p.Action, p.Restarts, p.Inputs, p.Outputs] : List Int).all okNum) = true
       · refine q_rS 11 0 [0] [[(ov (.bool false)), o0], [o0, (a1 1), o0, o0]] [Value.bool (!(([p.Entry, p.Action, p.Restarts, p.Inputs, p.Outputs] : List Int).all okNum)) = Value.bool false, Qb z] [(1, pt z), (qnwl_2 p), (40, i6 0)] rfl ⟨by simp [h9], rfl, trivial⟩ ?_
         refine g_loop (fun m a w' => ∃ (n11 : Nat) (i : Nat), m = p.Regions.xs.length - i ∧ w8.heap.size ≤ n11 ∧ (i ≤ p.Regions.xs.length) ∧ (∀ q, q < i → okR (gd p.Regions.xs q) = true) ∧ St 76 [(1, pt z), (qnwl_2 p), (40, i6 (i : Int))] [] ⟨w, n11, [(old0 w), (qnwl_1 z p), (qnwl_0 z p)]⟩ a w') (p.Regions.xs.length - 0) ?_ ?_
         · intro a w' hs; exact ⟨w8.heap.size, 0, rfl, Nat.le_refl _, Nat.zero_le _, fun q hq => absurd hq (Nat.not_lt_zero q), hs⟩
         · rintro m a w' ⟨n11, i, rfl, hn10, hki, hokR, hs⟩
           refine (?_ : G Try.prog 76 [(1, pt z), (qnwl_2 p), (40, i6 (i : Int))] [] ⟨w, n11, [(old0 w), (qnwl_1 z p), (qnwl_0 z p)]⟩ _ _ _) a w' hs
           clear hs a w'
           refine g_seq ?_
           by_cases h12 : ((i : Int) : Int) < ((p.Regions.xs.length : Nat) : Int)
           · refine q_cS 14 0 [1] [[oT], [o0, o0]] [BT (((i : Int) : Int) < ((p.Regions.xs.length : Nat) : Int))] [(1, pt z), (qnwl_2 p), (40, i6 (i : Int)), (3, i6 (i : Int))] rfl ⟨bt (by omega), trivial⟩ ?_
             obtain ⟨b13, o14, ha15, hF17, hc16⟩ := (hp.Regions).1.all (show 0 < p.Regions.xs.length by omega)
             replace ha15 : p.Regions.a = some ⟨b13, o14, none⟩ := ha15
             have hc18 := hc16 i (show i < p.Regions.xs.length by omega)
             have he19 := (hp.Regions).2 i (show i < p.Regions.xs.length by omega)
             obtain ⟨y20, hy20⟩ : ∃ y_, y_ = gd p.Regions.xs i := ⟨_, rfl⟩
             rw [← hy20] at he19 hc18
             refine q_c 5 9 [] [[o0, ⟨.auto [.at 1], some (.slice (some ⟨b13, o14, none⟩) p.Regions.xs.length p.Regions.cap)⟩, o0, (oi i), (ol 0 (TRegion.arr y20)), o0, (an 4 3)], [o0, (a1 3), o0, (a1 3), o0, (a1 3), o0, (a1 3), o0]] [Qb z, Value.slice p.Regions.a p.Regions.xs.length p.Regions.cap = Value.slice (some ⟨b13, o14, none⟩) p.Regions.xs.length p.Regions.cap, ((i : Int) : Int) = ((i : Nat) : Int), i < p.Regions.xs.length, (none : Option Nat) = none, OldR w b13 (o14 + i * 4) (TRegion.arr y20), Qb n11, Qb n11, Qb n11, Qb n11, Qb n11, Qb n11, Qb n11, Qb n11] [(1, pt z), (qnwl_2 p), (40, i6 (i : Int)), (56, .slice (some ⟨n11 + 1, 0, none⟩) 4 4)] ⟨w, n11 + 2, [(old0 w), (qnwl_1 z p), (qnwl_0 z p), (bk n11 (TRegion.arr y20) 99), (bk (n11 + 1) #[i6 y20.Page, i6 y20.Pages, i6 y20.Frame, i6 y20.Rights] 3)]⟩ rfl ⟨rfl, congrArg (fun a => Value.slice a _ _) ha15, rfl, (by omega), rfl, old_row hc18, rfl, rfl, rfl, rfl, rfl, rfl, rfl, rfl, trivial⟩ ?_
             refine l_call [] [] 66 #[.slice (some ⟨n11 + 1, 0, none⟩) 4 4] (some 57) trivial ?_
             intro w21 hw21
             refine (may_calls w21 ⟨some ⟨n11 + 1, 0, none⟩, 4, ([y20.Page, y20.Pages, y20.Frame, y20.Rights] : List Int)⟩ (blk_sl (hw21.at (i := 4) rfl) rfl (by simp) (by simp))).mono ?_
             rintro e w22 ⟨rfl, hkw22⟩
             have hnw22 : n11 + 2 ≤ w22.heap.size := size_of hw21 hkw22
             refine ⟨_, _, rfl, hw21.keeps hkw22, ?_⟩
             refine l_keep [1, 39, 40, 57] [(1, pt z), (qnwl_2 p), (40, i6 (i : Int)), (57, .bool (([y20.Page, y20.Pages, y20.Frame, y20.Rights] : List Int).all okNum))] ?_
             by_cases h23 : (([y20.Page, y20.Pages, y20.Frame, y20.Rights] : List Int).all okNum) = true
             · refine q_rS 8 0 [0] [[(ov (.bool false))], [(ov (i6 ((i + 1 : Nat) : Int))), o0]] [Value.bool (!(([y20.Page, y20.Pages, y20.Frame, y20.Rights] : List Int).all okNum)) = Value.bool false, Wr (((i : Int) : Int) + 1) (((i + 1 : Nat) : Int))] [(1, pt z), (qnwl_2 p), (40, i6 ((i + 1 : Nat) : Int))] rfl ⟨by simp [h23], wrI, trivial⟩ ?_
               refine e_pick [0, 1, 2] [(old0 w), (qnwl_1 z p), (qnwl_0 z p)] rfl rfl ?_
               refine e_keep [1, 39, 40] [(1, pt z), (qnwl_2 p), (40, i6 ((i + 1 : Nat) : Int))] ?_
               refine e_inv (fun a w' hs => ⟨p.Regions.xs.length - (i + 1), by omega, w22.heap.size, (i + 1), rfl, by omega, by omega, all_push hokR (by rw [← hy20, okR_is]; exact h23), hs⟩)
             · refine q_rS 8 0 [1] [[(ov (.bool true))], [o0]] [Value.bool (!(([y20.Page, y20.Pages, y20.Frame, y20.Rights] : List Int).all okNum)) = Value.bool true] [(2, .bool false)] rfl ⟨by simp [h23], trivial⟩ ?_
               refine e_ret [] [] (.bool false) trivial ?_
               intro w24 hw24
               exact ⟨congrArg (fun b => Ending.returned (Value.bool b)) (Eq.symm (by unfold okPt; rw [lst_no2 (ok := okR) (xs := p.Regions.xs) (i := i) (by omega) (by rw [← hy20]; rw [okR_is]; exact Bool.eq_false_iff.2 h23)]; simp)), back0 hw24⟩
           · refine q_cS 16 0 [0] [[oF], [o0, (a1 1), o0, o0]] [BF (((i : Int) : Int) < ((p.Regions.xs.length : Nat) : Int)), Qb z] [(1, pt z), (qnwl_3 p), (63, i6 0)] rfl ⟨bf (by omega), rfl, trivial⟩ ?_
             refine g_loop (fun m a w' => ∃ (n26 : Nat) (j : Nat), m = p.Ports.xs.length - j ∧ n11 ≤ n26 ∧ (j ≤ p.Ports.xs.length) ∧ (∀ q, q < j → okP (gd p.Ports.xs q) = true) ∧ St 76 [(1, pt z), (qnwl_3 p), (63, i6 (j : Int))] [] ⟨w, n26, [(old0 w), (qnwl_1 z p), (qnwl_0 z p)]⟩ a w') (p.Ports.xs.length - 0) ?_ ?_
             · intro a w' hs; exact ⟨n11, 0, rfl, Nat.le_refl _, Nat.zero_le _, fun q hq => absurd hq (Nat.not_lt_zero q), hs⟩
             · rintro m a w' ⟨n26, j, rfl, hn25, hkj, hokP, hs⟩
               refine (?_ : G Try.prog 76 [(1, pt z), (qnwl_3 p), (63, i6 (j : Int))] [] ⟨w, n26, [(old0 w), (qnwl_1 z p), (qnwl_0 z p)]⟩ _ _ _) a w' hs
               clear hs a w'
               refine g_seq ?_
               by_cases h27 : ((j : Int) : Int) < ((p.Ports.xs.length : Nat) : Int)
               · refine q_cS 14 0 [1] [[oT], [o0, o0]] [BT (((j : Int) : Int) < ((p.Ports.xs.length : Nat) : Int))] [(1, pt z), (qnwl_3 p), (63, i6 (j : Int)), (5, i6 (j : Int))] rfl ⟨bt (by omega), trivial⟩ ?_
                 obtain ⟨b28, o29, ha30, hF32, hc31⟩ := (hp.Ports).1.all (show 0 < p.Ports.xs.length by omega)
                 replace ha30 : p.Ports.a = some ⟨b28, o29, none⟩ := ha30
                 have hc33 := hc31 j (show j < p.Ports.xs.length by omega)
                 have he34 := (hp.Ports).2 j (show j < p.Ports.xs.length by omega)
                 obtain ⟨y35, hy35⟩ : ∃ y_, y_ = gd p.Ports.xs j := ⟨_, rfl⟩
                 rw [← hy35] at he34 hc33
                 refine q_c 1 7 [] [[o0, ⟨.auto [.at 1], some (.slice (some ⟨b28, o29, none⟩) p.Ports.xs.length p.Ports.cap)⟩, o0, (oi j), o0, (oa [.via 0 (i6 y35.Channel)]), o0]] [Qb z, Value.slice p.Ports.a p.Ports.xs.length p.Ports.cap = Value.slice (some ⟨b28, o29, none⟩) p.Ports.xs.length p.Ports.cap, ((j : Int) : Int) = ((j : Nat) : Int), j < p.Ports.xs.length, (none : Option Nat) = none, Old w b28 (o29 + j * 2) (i6 y35.Channel)] [(1, pt z), (qnwl_3 p), (63, i6 (j : Int)), (72, .slice (some ⟨n26, 0, none⟩) 1 1)] ⟨w, n26 + 1, [(old0 w), (qnwl_1 z p), (qnwl_0 z p), (bk n26 #[i6 y35.Channel] 3)]⟩ rfl ⟨rfl, congrArg (fun a => Value.slice a _ _) ha30, rfl, (by omega), rfl, old_cell' (hc33 0 _ rfl), trivial⟩ ?_
                 refine l_call [] [] 66 #[.slice (some ⟨n26, 0, none⟩) 1 1] (some 73) trivial ?_
                 intro w36 hw36
                 refine (may_calls w36 ⟨some ⟨n26, 0, none⟩, 1, ([y35.Channel] : List Int)⟩ (blk_sl (hw36.at (i := 3) rfl) rfl (by simp) (by simp))).mono ?_
                 rintro e w37 ⟨rfl, hkw37⟩
                 have hnw37 : n26 + 1 ≤ w37.heap.size := size_of hw36 hkw37
                 refine ⟨_, _, rfl, hw36.keeps hkw37, ?_⟩
                 refine l_keep [1, 62, 63, 73] [(1, pt z), (qnwl_3 p), (63, i6 (j : Int)), (73, .bool (([y35.Channel] : List Int).all okNum))] ?_
                 by_cases h38 : (([y35.Channel] : List Int).all okNum) = true
                 · refine q_rS 8 0 [0] [[(ov (.bool false))], [(ov (i6 ((j + 1 : Nat) : Int))), o0]] [Value.bool (!(([y35.Channel] : List Int).all okNum)) = Value.bool false, Wr (((j : Int) : Int) + 1) (((j + 1 : Nat) : Int))] [(1, pt z), (qnwl_3 p), (63, i6 ((j + 1 : Nat) : Int))] rfl ⟨by simp [h38], wrI, trivial⟩ ?_
                   refine e_pick [0, 1, 2] [(old0 w), (qnwl_1 z p), (qnwl_0 z p)] rfl rfl ?_
                   refine e_keep [1, 62, 63] [(1, pt z), (qnwl_3 p), (63, i6 ((j + 1 : Nat) : Int))] ?_
                   refine e_inv (fun a w' hs => ⟨p.Ports.xs.length - (j + 1), by omega, w37.heap.size, (j + 1), rfl, by omega, by omega, all_push hokP (by rw [← hy35, okP_is]; exact h38), hs⟩)
                 · refine q_rS 8 0 [1] [[(ov (.bool true))], [o0]] [Value.bool (!(([y35.Channel] : List Int).all okNum)) = Value.bool true] [(2, .bool false)] rfl ⟨by simp [h38], trivial⟩ ?_
                   refine e_ret [] [] (.bool false) trivial ?_
                   intro w39 hw39
                   exact ⟨congrArg (fun b => Ending.returned (Value.bool b)) (Eq.symm (by unfold okPt; rw [lst_no2 (ok := okP) (xs := p.Ports.xs) (i := j) (by omega) (by rw [← hy35]; rw [okP_is]; exact Bool.eq_false_iff.2 h38)]; simp)), back0 hw39⟩
               · refine q_cS 15 0 [0] [[oF], [o0]] [BF (((j : Int) : Int) < ((p.Ports.xs.length : Nat) : Int))] [(2, .bool true)] rfl ⟨bf (by omega), trivial⟩ ?_
                 refine e_ret [] [] (.bool true) trivial ?_
                 intro w40 hw40
                 exact ⟨congrArg (fun b => Ending.returned (Value.bool b)) (Eq.symm (by unfold okPt; rw [decide_eq_true (by omega : p.Name.size ≤ 255), show (ns5 p).all okNum = true from h9, lst_yes (ok := okR) (xs := p.Regions.xs) (by omega) (fun q hq => hokR q (by omega)), lst_yes (ok := okP) (xs := p.Ports.xs) (by omega) (fun q hq => hokP q (by omega))]; rfl)), back0 hw40⟩
       · refine q_rS 8 0 [1] [[(ov (.bool true)), o0], [o0]] [Value.bool (!(([p.Entry, p.Action, p.Restarts, p.Inputs, p.Outputs] : List Int).all okNum)) = Value.bool true] [(2, .bool false)] rfl ⟨by simp [h9], trivial⟩ ?_
         refine e_ret [] [] (.bool false) trivial ?_
         intro w41 hw41
         exact ⟨congrArg (fun b => Ending.returned (Value.bool b)) (Eq.symm (by unfold okPt; rw [show (ns5 p).all okNum = false from Bool.eq_false_iff.2 h9]; simp)), back0 hw41⟩
abbrev qrh7_0 (z : Nat) (c : TConfig) : Ch := bk (z + 1) #[i6 c.Frames, i6 c.Major, i6 c.Kernel, i6 c.Room] 3
abbrev qrh7_1 (z : Nat) (c : TConfig) : Ch := bk z (TConfig.arr c) 26
abbrev qrh7_2 (c : TConfig) : Nat × Value := (52, i6 ((c.Partitions.xs.length : Nat) : Int))
abbrev qrh7_3 (c : TConfig) : Nat × Value := (66, i6 ((c.Channels.xs.length : Nat) : Int))
abbrev qrh7_4 (c : TConfig) : Nat × Value := (38, i6 ((c.Cores.xs.length : Nat) : Int))
theorem holds_calls (w : World) (c : TConfig) (hc : TConfig.ok Any w c) : Calls Try.prog 36 #[.agg (TConfig.arr c)] w fun e w' => e = .returned (.bool (okCf c)) ∧ Keeps (fun _ => False) w w' := by
 obtain ⟨z, hz⟩ : ∃ z, z = w.heap.size := ⟨_, rfl⟩
 refine calls_G (args := [.agg (TConfig.arr c)]) 85 ⟨w, z, [(old0 w)]⟩ Try.func36 rfl (by kernel_rfl) (by kernel_rfl) (sat_0 hz) ?_
 have hl1 := hc.Cores.1.len; have hl2 := hc.Partitions.1.len; have hl3 := hc.Channels.1.len
 refine g_keep [0] [(0, .agg (TConfig.arr c))] ?_
 refine q_c 6 0 [] [[o0, o0]] [] [(1, pt z)] ⟨w, z + 1, [(old0 w), (qrh7_1 z c)]⟩ rfl trivial ?_
 by_cases h1 : (255 : Int) < ((c.Cores.xs.length : Nat) : Int)
 · refine q_cS 9 0 [1] [[o0, (a1 1), o0, oT, o0, o0, o0, o0, o0, o0], [o0]] [Qb z, BT ((((c.Cores.xs.length : Nat) : Int) : Int) > 255)] [(2, .bool false)] rfl ⟨rfl, bt (by omega), trivial⟩ ?_
   refine e_ret [] [] (.bool false) trivial ?_
   intro w2 hw2
   exact ⟨congrArg (fun b => Ending.returned (Value.bool b)) (Eq.symm (by unfold okCf; rw [lst_no1 (ok := okWs) (xs := c.Cores.xs) (by omega)]; simp)), back0 hw2⟩
 · by_cases h3 : (255 : Int) < ((c.Partitions.xs.length : Nat) : Int)
   · refine q_cS 9 0 [1] [[o0, (a1 1), o0, oF, o0, o0, (a1 1), o0, oT, o0, o0, o0, o0, o0], [o0]] [Qb z, BF ((((c.Cores.xs.length : Nat) : Int) : Int) > 255), Qb z, BT ((((c.Partitions.xs.length : Nat) : Int) : Int) > 255)] [(2, .bool false)] rfl ⟨rfl, bf (by omega), rfl, bt (by omega), trivial⟩ ?_
     refine e_ret [] [] (.bool false) trivial ?_
     intro w4 hw4
     exact ⟨congrArg (fun b => Ending.returned (Value.bool b)) (Eq.symm (by unfold okCf; rw [lst_no1 (ok := okPt) (xs := c.Partitions.xs) (by omega)]; simp)), back0 hw4⟩
   · by_cases h5 : (255 : Int) < ((c.Channels.xs.length : Nat) : Int)
     · refine q_cS 9 0 [1] [[o0, (a1 1), o0, oF, o0, o0, (a1 1), o0, oF, o0, o0, o0, (a1 1), o0, oT, o0, o0, o0], [o0]] [Qb z, BF ((((c.Cores.xs.length : Nat) : Int) : Int) > 255), Qb z, BF ((((c.Partitions.xs.length : Nat) : Int) : Int) > 255), Qb z, BT ((((c.Channels.xs.length : Nat) : Int) : Int) > 255)] [(2, .bool false)] rfl ⟨rfl, bf (by omega), rfl, bf (by omega), rfl, bt (by omega), trivial⟩ ?_
       refine e_ret [] [] (.bool false) trivial ?_
       intro w6 hw6
       exact ⟨congrArg (fun b => Ending.returned (Value.bool b)) (Eq.symm (by unfold okCf; rw [lst_no1 (ok := okC) (xs := c.Channels.xs) (by omega)]; simp)), back0 hw6⟩
     · refine q_c 1 26 [] [[o0, (a1 1), o0, oF, o0, o0, (a1 1), o0, oF, o0, o0, o0, (a1 1), o0, oF, o0, o0, o0, (a1 1), o0, (a1 1), o0, (a1 1), o0, (a1 1), o0]] [Qb z, BF ((((c.Cores.xs.length : Nat) : Int) : Int) > 255), Qb z, BF ((((c.Partitions.xs.length : Nat) : Int) : Int) > 255), Qb z, BF ((((c.Channels.xs.length : Nat) : Int) : Int) > 255), Qb z, Qb z, Qb z, Qb z] [(1, pt z), (23, .bool false), (32, .slice (some ⟨z + 1, 0, none⟩) 4 4)] ⟨w, z + 2, [(old0 w), (qrh7_1 z c), (qrh7_0 z c)]⟩ rfl ⟨rfl, bf (by omega), rfl, bf (by omega), rfl, bf (by omega), rfl, rfl, rfl, rfl, trivial⟩ ?_
       refine l_call [] [] 66 #[.slice (some ⟨z + 1, 0, none⟩) 4 4] (some 33) trivial ?_
       intro w7 hw7
       refine (may_calls w7 ⟨some ⟨z + 1, 0, none⟩, 4, ([c.Frames, c.Major, c.Kernel, c.Room] : List Int)⟩ (blk_sl (hw7.at (i := 2) rfl) rfl (by simp) (by simp))).mono ?_
       rintro e w8 ⟨rfl, hkw8⟩
       have hnw8 : z + 2 ≤ w8.heap.size := size_of hw7 hkw8
       refine ⟨_, _, rfl, hw7.keeps hkw8, ?_⟩
       refine l_keep [1, 23, 33] [(1, pt z), (23, .bool false), (33, .bool (([c.Frames, c.Major, c.Kernel, c.Room] : List Int).all okNum))] ?_
       by_cases h9 : (([c.Frames, c.Major, c.Kernel, c.Room] : List Int).all okNum) = true
       · refine q_rS 11 0 [0] [[(ov (.bool false)), o0], [o0, (a1 1), o0, o0]] [Value.bool (!(([c.Frames, c.Major, c.Kernel, c.Room] : List Int).all okNum)) = Value.bool false, Qb z] [(1, pt z), (qrh7_4 c), (39, i6 0)] rfl ⟨by simp [h9], rfl, trivial⟩ ?_
         refine g_loop (fun m a w' => ∃ (n11 : Nat) (i : Nat), m = c.Cores.xs.length - i ∧ w8.heap.size ≤ n11 ∧ (i ≤ c.Cores.xs.length) ∧ (∀ q, q < i → okWs (gd c.Cores.xs q) = true) ∧ St 85 [(1, pt z), (qrh7_4 c), (39, i6 (i : Int))] [] ⟨w, n11, [(old0 w), (qrh7_1 z c), (qrh7_0 z c)]⟩ a w') (c.Cores.xs.length - 0) ?_ ?_
         · intro a w' hs; exact ⟨w8.heap.size, 0, rfl, Nat.le_refl _, Nat.zero_le _, fun q hq => absurd hq (Nat.not_lt_zero q), hs⟩
         · rintro m a w' ⟨n11, i, rfl, hn10, hki, hok1, hs⟩
           refine (?_ : G Try.prog 85 [(1, pt z), (qrh7_4 c), (39, i6 (i : Int))] [] ⟨w, n11, [(old0 w), (qrh7_1 z c), (qrh7_0 z c)]⟩ _ _ _) a w' hs
           clear hs a w'
           refine g_seq ?_
           by_cases h12 : ((i : Int) : Int) < ((c.Cores.xs.length : Nat) : Int)
           · refine q_cS 14 0 [1] [[oT], [o0, o0]] [BT (((i : Int) : Int) < ((c.Cores.xs.length : Nat) : Int))] [(1, pt z), (qrh7_4 c), (39, i6 (i : Int)), (3, i6 (i : Int))] rfl ⟨bt (by omega), trivial⟩ ?_
             obtain ⟨b13, o14, ha15, hF17, hc16⟩ := (hc.Cores).1.all (show 0 < c.Cores.xs.length by omega)
             replace ha15 : c.Cores.a = some ⟨b13, o14, none⟩ := ha15
             have hc18 := hc16 i (show i < c.Cores.xs.length by omega)
             have he19 := (hc.Cores).2 i (show i < c.Cores.xs.length by omega)
             obtain ⟨y20, hy20⟩ : ∃ y_, y_ = gd c.Cores.xs i := ⟨_, rfl⟩
             rw [← hy20] at he19 hc18
             refine q_cS 1 5 [] [[o0, ⟨.auto [.at 1], some (.slice (some ⟨b13, o14, none⟩) c.Cores.xs.length c.Cores.cap)⟩, o0, (oi i), (oa [.via 0 (.slice y20.a y20.xs.length y20.cap)])]] [Qb z, Value.slice c.Cores.a c.Cores.xs.length c.Cores.cap = Value.slice (some ⟨b13, o14, none⟩) c.Cores.xs.length c.Cores.cap, ((i : Int) : Int) = ((i : Nat) : Int), i < c.Cores.xs.length, (none : Option Nat) = none, Old w b13 (o14 + i) (.slice y20.a y20.xs.length y20.cap)] [(1, pt z), (qrh7_4 c), (39, i6 (i : Int)), (46, .slice y20.a y20.xs.length y20.cap)] rfl ⟨rfl, congrArg (fun a => Value.slice a _ _) ha15, rfl, (by omega), rfl, old_cell' (hc18 0 _ rfl), trivial⟩ ?_
             refine l_call [] [] 67 #[.slice y20.a y20.xs.length y20.cap] (some 47) trivial ?_
             intro w21 hw21
             refine (holdsW_calls w21 y20 (slOk_ext (hw21.ext rfl) (fun _ h => h) he19 (fun _ h => TWindow.ok.ext (hw21.ext rfl) (fun _ h => h) h))).mono ?_
             rintro e w22 ⟨rfl, hkw22⟩
             have hnw22 : n11 ≤ w22.heap.size := size_of hw21 hkw22
             refine ⟨_, _, rfl, hw21.keeps hkw22, ?_⟩
             refine l_keep [1, 38, 39, 47] [(1, pt z), (qrh7_4 c), (39, i6 (i : Int)), (47, .bool (okWs y20))] ?_
             by_cases h23 : (okWs y20) = true
             · refine q_rS 8 0 [0] [[(ov (.bool false))], [(ov (i6 ((i + 1 : Nat) : Int))), o0]] [Value.bool (!(okWs y20)) = Value.bool false, Wr (((i : Int) : Int) + 1) (((i + 1 : Nat) : Int))] [(1, pt z), (qrh7_4 c), (39, i6 ((i + 1 : Nat) : Int))] rfl ⟨by simp [h23], wrI, trivial⟩ ?_
               refine e_inv (fun a w' hs => ⟨c.Cores.xs.length - (i + 1), by omega, w22.heap.size, (i + 1), rfl, by omega, by omega, all_push hok1 (by rw [← hy20]; exact h23), hs⟩)
             · refine q_rS 8 0 [1] [[(ov (.bool true))], [o0]] [Value.bool (!(okWs y20)) = Value.bool true] [(2, .bool false)] rfl ⟨by simp [h23], trivial⟩ ?_
               refine e_ret [] [] (.bool false) trivial ?_
               intro w24 hw24
               exact ⟨congrArg (fun b => Ending.returned (Value.bool b)) (Eq.symm (by unfold okCf; rw [lst_no2 (ok := okWs) (xs := c.Cores.xs) (i := i) (by omega) (by rw [← hy20]; exact Bool.eq_false_iff.2 h23)]; simp)), back0 hw24⟩
           · refine q_cS 16 0 [0] [[oF], [o0, (a1 1), o0, o0]] [BF (((i : Int) : Int) < ((c.Cores.xs.length : Nat) : Int)), Qb z] [(1, pt z), (qrh7_2 c), (53, i6 0)] rfl ⟨bf (by omega), rfl, trivial⟩ ?_
             refine g_loop (fun m a w' => ∃ (n26 : Nat) (j : Nat), m = c.Partitions.xs.length - j ∧ n11 ≤ n26 ∧ (j ≤ c.Partitions.xs.length) ∧ (∀ q, q < j → okPt (gd c.Partitions.xs q) = true) ∧ St 85 [(1, pt z), (qrh7_2 c), (53, i6 (j : Int))] [] ⟨w, n26, [(old0 w), (qrh7_1 z c), (qrh7_0 z c)]⟩ a w') (c.Partitions.xs.length - 0) ?_ ?_
             · intro a w' hs; exact ⟨n11, 0, rfl, Nat.le_refl _, Nat.zero_le _, fun q hq => absurd hq (Nat.not_lt_zero q), hs⟩
             · rintro m a w' ⟨n26, j, rfl, hn25, hkj, hok2, hs⟩
               refine (?_ : G Try.prog 85 [(1, pt z), (qrh7_2 c), (53, i6 (j : Int))] [] ⟨w, n26, [(old0 w), (qrh7_1 z c), (qrh7_0 z c)]⟩ _ _ _) a w' hs
               clear hs a w'
               refine g_seq ?_
               by_cases h27 : ((j : Int) : Int) < ((c.Partitions.xs.length : Nat) : Int)
               · refine q_cS 14 0 [1] [[oT], [o0, o0]] [BT (((j : Int) : Int) < ((c.Partitions.xs.length : Nat) : Int))] [(1, pt z), (qrh7_2 c), (53, i6 (j : Int)), (4, i6 (j : Int))] rfl ⟨bt (by omega), trivial⟩ ?_
                 obtain ⟨b28, o29, ha30, hF32, hc31⟩ := (hc.Partitions).1.all (show 0 < c.Partitions.xs.length by omega)
                 replace ha30 : c.Partitions.a = some ⟨b28, o29, none⟩ := ha30
                 have hc33 := hc31 j (show j < c.Partitions.xs.length by omega)
                 have he34 := (hc.Partitions).2 j (show j < c.Partitions.xs.length by omega)
                 obtain ⟨y35, hy35⟩ : ∃ y_, y_ = gd c.Partitions.xs j := ⟨_, rfl⟩
                 rw [← hy35] at he34 hc33
                 refine q_cS 1 5 [] [[o0, ⟨.auto [.at 1], some (.slice (some ⟨b28, o29, none⟩) c.Partitions.xs.length c.Partitions.cap)⟩, o0, (oi j), (ol 0 (TPartition.arr y35))]] [Qb z, Value.slice c.Partitions.a c.Partitions.xs.length c.Partitions.cap = Value.slice (some ⟨b28, o29, none⟩) c.Partitions.xs.length c.Partitions.cap, ((j : Int) : Int) = ((j : Nat) : Int), j < c.Partitions.xs.length, (none : Option Nat) = none, OldR w b28 (o29 + j * 8) (TPartition.arr y35)] [(1, pt z), (qrh7_2 c), (53, i6 (j : Int)), (60, .agg (TPartition.arr y35))] rfl ⟨rfl, congrArg (fun a => Value.slice a _ _) ha30, rfl, (by omega), rfl, old_row hc33, trivial⟩ ?_
                 refine l_call [] [] 68 #[.agg (TPartition.arr y35)] (some 61) trivial ?_
                 intro w36 hw36
                 refine (holdsP_calls w36 y35 (he34.ext (hw36.ext rfl) (fun _ h => h))).mono ?_
                 rintro e w37 ⟨rfl, hkw37⟩
                 have hnw37 : n26 ≤ w37.heap.size := size_of hw36 hkw37
                 refine ⟨_, _, rfl, hw36.keeps hkw37, ?_⟩
                 refine l_keep [1, 52, 53, 61] [(1, pt z), (qrh7_2 c), (53, i6 (j : Int)), (61, .bool (okPt y35))] ?_
                 by_cases h38 : (okPt y35) = true
                 · refine q_rS 8 0 [0] [[(ov (.bool false))], [(ov (i6 ((j + 1 : Nat) : Int))), o0]] [Value.bool (!(okPt y35)) = Value.bool false, Wr (((j : Int) : Int) + 1) (((j + 1 : Nat) : Int))] [(1, pt z), (qrh7_2 c), (53, i6 ((j + 1 : Nat) : Int))] rfl ⟨by simp [h38], wrI, trivial⟩ ?_
                   refine e_inv (fun a w' hs => ⟨c.Partitions.xs.length - (j + 1), by omega, w37.heap.size, (j + 1), rfl, by omega, by omega, all_push hok2 (by rw [← hy35]; exact h38), hs⟩)
                 · refine q_rS 8 0 [1] [[(ov (.bool true))], [o0]] [Value.bool (!(okPt y35)) = Value.bool true] [(2, .bool false)] rfl ⟨by simp [h38], trivial⟩ ?_
                   refine e_ret [] [] (.bool false) trivial ?_
                   intro w39 hw39
                   exact ⟨congrArg (fun b => Ending.returned (Value.bool b)) (Eq.symm (by unfold okCf; rw [lst_no2 (ok := okPt) (xs := c.Partitions.xs) (i := j) (by omega) (by rw [← hy35]; exact Bool.eq_false_iff.2 h38)]; simp)), back0 hw39⟩
               · refine q_cS 16 0 [0] [[oF], [o0, (a1 1), o0, o0]] [BF (((j : Int) : Int) < ((c.Partitions.xs.length : Nat) : Int)), Qb z] [(1, pt z), (qrh7_3 c), (67, i6 0)] rfl ⟨bf (by omega), rfl, trivial⟩ ?_
                 refine g_loop (fun m a w' => ∃ (n41 : Nat) (k : Nat), m = c.Channels.xs.length - k ∧ n26 ≤ n41 ∧ (k ≤ c.Channels.xs.length) ∧ (∀ q, q < k → okC (gd c.Channels.xs q) = true) ∧ St 85 [(1, pt z), (qrh7_3 c), (67, i6 (k : Int))] [] ⟨w, n41, [(old0 w), (qrh7_1 z c), (qrh7_0 z c)]⟩ a w') (c.Channels.xs.length - 0) ?_ ?_
                 · intro a w' hs; exact ⟨n26, 0, rfl, Nat.le_refl _, Nat.zero_le _, fun q hq => absurd hq (Nat.not_lt_zero q), hs⟩
                 · rintro m a w' ⟨n41, k, rfl, hn40, hkk, hok3, hs⟩
                   refine (?_ : G Try.prog 85 [(1, pt z), (qrh7_3 c), (67, i6 (k : Int))] [] ⟨w, n41, [(old0 w), (qrh7_1 z c), (qrh7_0 z c)]⟩ _ _ _) a w' hs
                   clear hs a w'
                   refine g_seq ?_
                   by_cases h42 : ((k : Int) : Int) < ((c.Channels.xs.length : Nat) : Int)
                   · refine q_cS 14 0 [1] [[oT], [o0, o0]] [BT (((k : Int) : Int) < ((c.Channels.xs.length : Nat) : Int))] [(1, pt z), (qrh7_3 c), (67, i6 (k : Int)), (5, i6 (k : Int))] rfl ⟨bt (by omega), trivial⟩ ?_
                     obtain ⟨b43, o44, ha45, hF47, hc46⟩ := (hc.Channels).1.all (show 0 < c.Channels.xs.length by omega)
                     replace ha45 : c.Channels.a = some ⟨b43, o44, none⟩ := ha45
                     have hc48 := hc46 k (show k < c.Channels.xs.length by omega)
                     have he49 := (hc.Channels).2 k (show k < c.Channels.xs.length by omega)
                     obtain ⟨y50, hy50⟩ : ∃ y_, y_ = gd c.Channels.xs k := ⟨_, rfl⟩
                     rw [← hy50] at he49 hc48
                     refine q_c 5 7 [] [[o0, ⟨.auto [.at 1], some (.slice (some ⟨b43, o44, none⟩) c.Channels.xs.length c.Channels.cap)⟩, o0, (oi k), (ol 0 (TChannel.arr y50)), o0, (an 3 3)], [o0, (a1 3), o0, (a1 3), o0, (a1 3), o0]] [Qb z, Value.slice c.Channels.a c.Channels.xs.length c.Channels.cap = Value.slice (some ⟨b43, o44, none⟩) c.Channels.xs.length c.Channels.cap, ((k : Int) : Int) = ((k : Nat) : Int), k < c.Channels.xs.length, (none : Option Nat) = none, OldR w b43 (o44 + k * 3) (TChannel.arr y50), Qb n41, Qb n41, Qb n41, Qb n41, Qb n41, Qb n41] [(1, pt z), (qrh7_3 c), (67, i6 (k : Int)), (81, .slice (some ⟨n41 + 1, 0, none⟩) 3 3)] ⟨w, n41 + 2, [(old0 w), (qrh7_1 z c), (qrh7_0 z c), (bk n41 (TChannel.arr y50) 74), (bk (n41 + 1) #[i6 y50.Kind, i6 y50.Words, i6 y50.Depth] 3)]⟩ rfl ⟨rfl, congrArg (fun a => Value.slice a _ _) ha45, rfl, (by omega), rfl, old_row hc48, rfl, rfl, rfl, rfl, rfl, rfl, trivial⟩ ?_
                     refine l_call [] [] 66 #[.slice (some ⟨n41 + 1, 0, none⟩) 3 3] (some 82) trivial ?_
                     intro w51 hw51
                     refine (may_calls w51 ⟨some ⟨n41 + 1, 0, none⟩, 3, ([y50.Kind, y50.Words, y50.Depth] : List Int)⟩ (blk_sl (hw51.at (i := 4) rfl) rfl (by simp) (by simp))).mono ?_
                     rintro e w52 ⟨rfl, hkw52⟩
                     have hnw52 : n41 + 2 ≤ w52.heap.size := size_of hw51 hkw52
                     refine ⟨_, _, rfl, hw51.keeps hkw52, ?_⟩
                     refine l_keep [1, 66, 67, 82] [(1, pt z), (qrh7_3 c), (67, i6 (k : Int)), (82, .bool (([y50.Kind, y50.Words, y50.Depth] : List Int).all okNum))] ?_
                     by_cases h53 : (([y50.Kind, y50.Words, y50.Depth] : List Int).all okNum) = true
                     · refine q_rS 8 0 [0] [[(ov (.bool false))], [(ov (i6 ((k + 1 : Nat) : Int))), o0]] [Value.bool (!(([y50.Kind, y50.Words, y50.Depth] : List Int).all okNum)) = Value.bool false, Wr (((k : Int) : Int) + 1) (((k + 1 : Nat) : Int))] [(1, pt z), (qrh7_3 c), (67, i6 ((k + 1 : Nat) : Int))] rfl ⟨by simp [h53], wrI, trivial⟩ ?_
                       refine e_pick [0, 1, 2] [(old0 w), (qrh7_1 z c), (qrh7_0 z c)] rfl rfl ?_
                       refine e_keep [1, 66, 67] [(1, pt z), (qrh7_3 c), (67, i6 ((k + 1 : Nat) : Int))] ?_
                       refine e_inv (fun a w' hs => ⟨c.Channels.xs.length - (k + 1), by omega, w52.heap.size, (k + 1), rfl, by omega, by omega, all_push hok3 (by rw [← hy50, okC_is]; exact h53), hs⟩)
                     · refine q_rS 8 0 [1] [[(ov (.bool true))], [o0]] [Value.bool (!(([y50.Kind, y50.Words, y50.Depth] : List Int).all okNum)) = Value.bool true] [(2, .bool false)] rfl ⟨by simp [h53], trivial⟩ ?_
                       refine e_ret [] [] (.bool false) trivial ?_
                       intro w54 hw54
                       exact ⟨congrArg (fun b => Ending.returned (Value.bool b)) (Eq.symm (by unfold okCf; rw [lst_no2 (ok := okC) (xs := c.Channels.xs) (i := k) (by omega) (by rw [← hy50]; rw [okC_is]; exact Bool.eq_false_iff.2 h53)]; simp)), back0 hw54⟩
                   · refine q_cS 15 0 [0] [[oF], [o0]] [BF (((k : Int) : Int) < ((c.Channels.xs.length : Nat) : Int))] [(2, .bool true)] rfl ⟨bf (by omega), trivial⟩ ?_
                     refine e_ret [] [] (.bool true) trivial ?_
                     intro w55 hw55
                     exact ⟨congrArg (fun b => Ending.returned (Value.bool b)) (Eq.symm (by unfold okCf; rw [show (ns4 c).all okNum = true from h9, lst_yes (ok := okWs) (xs := c.Cores.xs) (by omega) (fun q hq => hok1 q (by omega)), lst_yes (ok := okPt) (xs := c.Partitions.xs) (by omega) (fun q hq => hok2 q (by omega)), lst_yes (ok := okC) (xs := c.Channels.xs) (by omega) (fun q hq => hok3 q (by omega))]; rfl)), back0 hw55⟩
       · refine q_rS 8 0 [1] [[(ov (.bool true)), o0], [o0]] [Value.bool (!(([c.Frames, c.Major, c.Kernel, c.Room] : List Int).all okNum)) = Value.bool true] [(2, .bool false)] rfl ⟨by simp [h9], trivial⟩ ?_
         refine e_ret [] [] (.bool false) trivial ?_
         intro w56 hw56
         exact ⟨congrArg (fun b => Ending.returned (Value.bool b)) (Eq.symm (by unfold okCf; rw [show (ns4 c).all okNum = false from Bool.eq_false_iff.2 h9]; simp)), back0 hw56⟩

end Go.Proofs.Ytmmkacfeocnblaa.Ly
