/- Packed: Cc, Row. No conditions. -/
import Derived.Test.YtnjhekfgmbpmlaaDoorPo5
import Derived.Test.YtnjhekfgmbpmlaaDoorRows
import Derived.WalkKit
import Derived.ProofKit
import Derived.OpenShut
import Derived.ShutString
import Derived.ChangeOld
import Derived.Below
import Derived.Carry
import Derived.SizedLaws
namespace Go.Proofs.YtnjhekfgmbpmlaaDoor.Ad
open Go Go.Proofs.YtnjhekfgmbpmlaaDoor.Eng Go.Proofs.YtnjhekfgmbpmlaaDoor.Mem Go.Proofs.YtnjhekfgmbpmlaaDoor.Ly
set_option linter.unusedSimpArgs false
set_option linter.unusedVariables false
set_option maxRecDepth 100000
abbrev qroy_0 (w13 : World) (d2 : TConfig) (b19 : Nat) (cP : Nat) : Ch := .blk w13.heap.size (.cells #[i6 d2.Frames, i6 d2.Major, i6 d2.Kernel, i6 d2.Room, .slice d2.Cores.a d2.Cores.xs.length d2.Cores.cap, .slice (some ⟨b19, 0, none⟩) d2.Partitions.xs.length cP, .slice d2.Channels.a d2.Channels.xs.length d2.Channels.cap] 26 (0, 0)) true
abbrev qroy_1 (w13 : World) (d2 : TConfig) (b29 : Nat) (cC : Nat) (aP : Option Addr) (cP : Nat) : Ch := .blk w13.heap.size (.cells #[i6 d2.Frames, i6 d2.Major, i6 d2.Kernel, i6 d2.Room, .slice (some ⟨b29, 0, none⟩) d2.Cores.xs.length cC, .slice aP d2.Partitions.xs.length cP, .slice d2.Channels.a d2.Channels.xs.length d2.Channels.cap] 26 (0, 0)) true
abbrev qroy_2 (w13 : World) (d2 : TConfig) (aP : Option Addr) (cP : Nat) : Ch := .blk w13.heap.size (.cells #[i6 d2.Frames, i6 d2.Major, i6 d2.Kernel, i6 d2.Room, .slice d2.Cores.a d2.Cores.xs.length d2.Cores.cap, .slice aP d2.Partitions.xs.length cP, .slice d2.Channels.a d2.Channels.xs.length d2.Channels.cap] 26 (0, 0)) true
abbrev qroy_3 (w13 : World) (d2 : TConfig) (aC : Option Addr) (cC : Nat) (aP : Option Addr) (cP : Nat) : Ch := .blk w13.heap.size (.cells #[i6 d2.Frames, i6 d2.Major, i6 d2.Kernel, i6 d2.Room, .slice aC d2.Cores.xs.length cC, .slice aP d2.Partitions.xs.length cP, .slice d2.Channels.a d2.Channels.xs.length d2.Channels.cap] 26 (0, 0)) true
abbrev qroy_4 (n17 : Nat) (xR : List TRegion) (i1 : Nat) : Ch := bk n17 #[i6 ((gd xR i1).Page), i6 ((gd xR i1).Pages), i6 ((gd xR i1).Frame), i6 ((gd xR i1).Rights)] 49
abbrev qroy_5 (n27 : Nat) (xW : List TWindow) (i1 : Nat) : Ch := bk n27 #[i6 ((gd xW i1).Partition), i6 ((gd xW i1).Usable), i6 ((gd xW i1).Slack)] 44
abbrev qroy_6 (w11 : World) (c : TConfig) : Ch := .blk w11.heap.size (.cells #[i6 ((checkF c).where_.First), i6 ((checkF c).where_.Second)] 34 (0, 0)) true
abbrev qroy_7 (z : Nat) (c : TConfig) : Ch := bk z (TConfig.arr c) 26
abbrev qroy_8 (w11 : World) (one : Int) (another : Int) (d2 : TConfig) (p : Nat) : Ch := famC (w11.heap.size + 1) 49 4 TRegion.cells ((swU one.toNat another.toNat (d2.Partitions.xs.map TPartition.Regions) p).eraseIdx p)
abbrev qroy_9 (w11 : World) (b29 : Nat) (d2 : TConfig) (cC : Nat) : Ch := rowL (w11.heap.size + 1) 42 1 (fun x : Sl TWindow => [Sl.val x]) (.slice (some ⟨b29, 0, none⟩) d2.Cores.xs.length cC) d2.Cores.xs
abbrev qroy_10 (w11 : World) (d2 : TConfig) : Ch := rowL (w11.heap.size + 1) 42 1 (fun x : Sl TWindow => [Sl.val x]) (.slice d2.Cores.a d2.Cores.xs.length d2.Cores.cap) d2.Cores.xs
abbrev qroy_11 (w11 : World) (b19 : Nat) (d2 : TConfig) (cP : Nat) : Ch := rowL (w11.heap.size + 1) 41 8 TPartition.cells (.slice (some ⟨b19, 0, none⟩) d2.Partitions.xs.length cP) d2.Partitions.xs
abbrev qroy_12 (w11 : World) (d2 : TConfig) : Ch := rowL (w11.heap.size + 1) 55 3 TChannel.cells (.slice d2.Channels.a d2.Channels.xs.length d2.Channels.cap) d2.Channels.xs
abbrev qroy_13 (w11 : World) (one : Int) (another : Int) (d2 : TConfig) (p : Nat) : Ch := famC (w11.heap.size + 1) 49 4 TRegion.cells (swU one.toNat another.toNat (d2.Partitions.xs.map TPartition.Regions) p)
abbrev qroy_14 (w11 : World) (aC : Option Addr) (d2 : TConfig) (cC : Nat) : Ch := rowL (w11.heap.size + 1) 42 1 (fun x : Sl TWindow => [Sl.val x]) (.slice aC d2.Cores.xs.length cC) d2.Cores.xs
abbrev qroy_15 (w11 : World) (aP : Option Addr) (d2 : TConfig) (cP : Nat) : Ch := rowL (w11.heap.size + 1) 41 8 TPartition.cells (.slice aP d2.Partitions.xs.length cP) d2.Partitions.xs
abbrev qroy_16 (w11 : World) (one : Int) (another : Int) (d2 : TConfig) (i : Nat) : Ch := famC (w11.heap.size + 1) 44 3 TWindow.cells ((swU one.toNat another.toNat d2.Cores.xs i).eraseIdx i)
abbrev qroy_17 (w11 : World) (b23 : Nat) (xR : List TRegion) (cR : Nat) : Ch := rowL (w11.heap.size + 1) 49 4 TRegion.cells (.slice (some ⟨b23, 0, none⟩) xR.length cR) xR
abbrev qroy_18 (w11 : World) (b33 : Nat) (xW : List TWindow) (cW : Nat) : Ch := rowL (w11.heap.size + 1) 44 3 TWindow.cells (.slice (some ⟨b33, 0, none⟩) xW.length cW) xW
abbrev qroy_19 (w11 : World) (d2 : TConfig) : Ch := famC (w11.heap.size + 1) 57 2 TPort.cells (d2.Partitions.xs.map TPartition.Ports)
abbrev qroy_20 (w11 : World) (d2 : TConfig) : Ch := famC (w11.heap.size + 1) 44 3 TWindow.cells d2.Cores.xs
abbrev qroy_21 (xR : List TRegion) (i1 : Nat) : Nat × Value := (73, .agg #[i6 ((gd xR i1).Page), i6 ((gd xR i1).Pages), i6 ((gd xR i1).Frame), i6 ((gd xR i1).Rights)])
abbrev qroy_22 (xW : List TWindow) (i1 : Nat) : Nat × Value := (115, .agg #[i6 ((gd xW i1).Partition), i6 ((gd xW i1).Usable), i6 ((gd xW i1).Slack)])
abbrev qroy_23 (b23 : Nat) (xR : List TRegion) (cR : Nat) : Nat × Value := (11, .slice (some ⟨b23, 0, none⟩) xR.length cR)
abbrev qroy_24 (b33 : Nat) (xW : List TWindow) (cW : Nat) : Nat × Value := (14, .slice (some ⟨b33, 0, none⟩) xW.length cW)
abbrev qroy_25 (w13 : World) : Nat × Value := (9, pt w13.heap.size)
abbrev qroy_26 (n17 : Nat) : Nat × Value := (12, pt n17)
abbrev qroy_27 (n27 : Nat) : Nat × Value := (15, pt n27)
set_option maxHeartbeats 2000000 in
theorem order_calls (w : World) (hL : LaidAt w) (c : TConfig) (hc : TConfig.ok Any w c) (hLim : Lim c) (one another : Int) (h1 : InK .i64 one) (h2 : InK .i64 another) : Calls Tryd.prog 5 #[.agg (TConfig.arr c), .int .i64 one, .int .i64 another] w fun e w' => e = .returned (.bool true) ∧ Keeps (fun _ => False) w w' := by
 obtain ⟨z, hz⟩ : ∃ z, z = w.heap.size := ⟨_, rfl⟩
 refine calls_G (args := [.agg (TConfig.arr c), i6 one, i6 another]) 133 ⟨w, z, [(old0 w)]⟩ Tryd.func5 rfl (by kernel_rfl) (by kernel_rfl) (sat_0 hz) ?_
 have hpl := hc.Partitions.1.len; have hpc := hc.Cores.1.len; have h1b : (-9223372036854775808 : Int) ≤ one ∧ one ≤ 9223372036854775807 := h1; have h2b : (-9223372036854775808 : Int) ≤ another ∧ another ≤ 9223372036854775807 := h2
 refine g_keep [0, 1, 2] [(0, .agg (TConfig.arr c)), (1, i6 one), (2, i6 another)] ?_
 refine q_c 6 0 [] [[o0, o0]] [] [(1, i6 one), (2, i6 another), (3, pt z)] ⟨w, z + 1, [(old0 w), (qroy_7 z c)]⟩ rfl trivial ?_
 by_cases h1 : (one : Int) < 0
 · refine q_cS 9 0 [1] [[o0, oT, o0, o0], [o0]] [BT ((one : Int) < 0)] [(6, .bool true)] rfl ⟨bt (by omega), trivial⟩ ?_
   refine e_ret [] [] (.bool true) trivial ?_
   intro w2 hw2
   exact ⟨rfl, back0 hw2⟩
 · by_cases h3 : (another : Int) < 0
   · refine q_cS 9 0 [1] [[o0, oF, o0, o0, oT, o0], [o0]] [BF ((one : Int) < 0), BT ((another : Int) < 0)] [(6, .bool true)] rfl ⟨bf (by omega), bt (by omega), trivial⟩ ?_
     refine e_ret [] [] (.bool true) trivial ?_
     intro w4 hw4
     exact ⟨rfl, back0 hw4⟩
   · refine q_cS 8 1 [0] [[o0, oF, o0, o0, oF, o0], [(an 7 1)]] [BF ((one : Int) < 0), BF ((another : Int) < 0), Qb z, Qb z, Qb z, Qb z, Qb z, Qb z, Qb z] [(1, i6 one), (2, i6 another), (3, pt z), (25, .agg (TConfig.arr c))] rfl ⟨bf (by omega), bf (by omega), rfl, rfl, rfl, rfl, rfl, rfl, rfl, trivial⟩ ?_
     refine l_call [] [] 11 #[.agg (TConfig.arr c)] (some 26) trivial ?_
     intro w5 hw5
     refine (copied_calls w5 c (hc.ext (hw5.ext rfl) (fun _ h => h)) hLim).mono ?_
     rintro e w6 ⟨d7, rfl, hs8, ho9, hkw6⟩
     have hnw6 : z + 1 ≤ w6.heap.size := size_of hw5 hkw6
     replace ho9 := own_ok hc hs8 ho9
     rw [hw5.size] at ho9
     refine ⟨_, _, rfl, hw5.keepsM hkw6, ?_⟩
     refine l_keep [1, 2, 3, 26] [(1, i6 one), (2, i6 another), (3, pt z), (26, .agg (TConfig.arr d7))] ?_
     refine l_call [] [] 9 #[.agg (TConfig.arr d7)] (some 27) trivial ?_
     intro w10 hw10
     refine (check_copy w10 (hL.ext (hw10.ext rfl)) c d7 (ho9.ext (hw10.extM 2) (fun _ _ => trivial)) hs8 hLim).mono ?_
     rintro e w11 ⟨rfl, hkw11⟩
     have hnw11 : w6.heap.size ≤ w11.heap.size := size_of hw10 hkw11
     refine ⟨_, _, rfl, hw10.keeps hkw11, ?_⟩
     refine q_r 4 1 [] [[o0, o0, o0, o0, o0, (an 2 3)], [(an 7 1)]] [Qb w11.heap.size, Qb w11.heap.size, Qb z, Qb z, Qb z, Qb z, Qb z, Qb z, Qb z] [(1, i6 one), (2, i6 another), (7, i6 ((checkF c).e)), (30, .agg (TConfig.arr c))] ⟨w, w11.heap.size + 1, [(old0 w), (qroy_7 z c), (mid (z + 1) w6), (qroy_6 w11 c)]⟩ rfl ⟨rfl, rfl, rfl, rfl, rfl, rfl, rfl, rfl, rfl, trivial⟩ ?_
     refine l_call [] [] 11 #[.agg (TConfig.arr c)] (some 31) trivial ?_
     intro w12 hw12
     refine (copied_calls w12 c (hc.ext (hw12.ext rfl) (fun _ h => h)) hLim).mono ?_
     rintro e w13 ⟨d2, rfl, hsd2, ho15, hkw13⟩
     have hnw13 : w11.heap.size + 1 ≤ w13.heap.size := size_of hw12 hkw13
     have hok2 := own_ok hc hsd2 ho15; rw [hw12.size] at ho15; obtain ⟨w02, ho15⟩ := ho15
     have hx2 := str_xs hsd2; have hpl2 := hc.Partitions.1.len; have hcl2 := hc.Cores.1.len
     refine ⟨_, _, rfl, hw12.keepsO hkw13 ho15 (conf_new ho15), ?_⟩
     refine q_r 8 0 [] [[o0, (an 7 10)], [o0]] [Qb w13.heap.size, Qb w13.heap.size, Qb w13.heap.size, Qb w13.heap.size, Qb w13.heap.size, Qb w13.heap.size, Qb w13.heap.size] [(1, i6 one), (2, i6 another), (7, i6 ((checkF c).e)), (qroy_25 w13), (10, i6 0)] ⟨w, w13.heap.size + 1, [(old0 w), (qroy_7 z c), (mid (z + 1) w6), (qroy_6 w11 c), (qroy_10 w11 d2), (qroy_20 w11 d2), (rowL (w11.heap.size + 1) 41 8 TPartition.cells (.slice d2.Partitions.a d2.Partitions.xs.length d2.Partitions.cap) d2.Partitions.xs), (famC (w11.heap.size + 1) 49 4 TRegion.cells (d2.Partitions.xs.map TPartition.Regions)), (qroy_19 w11 d2), (qroy_12 w11 d2), (.blk w13.heap.size (.cells (TConfig.arr d2) 26 (0, 0)) true)]⟩ rfl ⟨rfl, rfl, rfl, rfl, rfl, rfl, rfl, trivial⟩ ?_
     refine g_loop (fun m a w' => ∃ (n17 : Nat) (p : Nat) (aP : Option Addr) (cP : Nat), m = d2.Partitions.xs.length - p ∧ w13.heap.size + 1 ≤ n17 ∧ (p ≤ d2.Partitions.xs.length) ∧ St 133 [(1, i6 one), (2, i6 another), (7, i6 ((checkF c).e)), (qroy_25 w13), (10, i6 (p : Int))] [] ⟨w, n17, [(old0 w), (qroy_7 z c), (mid (z + 1) w6), (qroy_6 w11 c), (qroy_10 w11 d2), (qroy_20 w11 d2), (qroy_15 w11 aP d2 cP), (qroy_13 w11 one another d2 p), (qroy_19 w11 d2), (qroy_12 w11 d2), (qroy_2 w13 d2 aP cP)]⟩ a w') (d2.Partitions.xs.length - 0) ?_ ?_
     · intro a w' hs; exact ⟨(w13.heap.size + 1), 0, d2.Partitions.a, d2.Partitions.cap, rfl, Nat.le_refl _, Nat.zero_le _, (by (try dsimp only [qroy_0, qroy_1, qroy_2, qroy_3, qroy_4, qroy_5, qroy_6, qroy_7, qroy_8, qroy_9, qroy_10, qroy_11, qroy_12, qroy_13, qroy_14, qroy_15, qroy_16, qroy_17, qroy_18, qroy_19, qroy_20, qroy_21, qroy_22, qroy_23, qroy_24, qroy_25, qroy_26, qroy_27] at hs ⊢); rw [swU_zero]; exact hs)⟩
     · rintro m a w' ⟨n17, p, aP, cP, rfl, hn16, hkp, hs⟩
       refine (?_ : G Tryd.prog 133 [(1, i6 one), (2, i6 another), (7, i6 ((checkF c).e)), (qroy_25 w13), (10, i6 (p : Int))] [] ⟨w, n17, [(old0 w), (qroy_7 z c), (mid (z + 1) w6), (qroy_6 w11 c), (qroy_10 w11 d2), (qroy_20 w11 d2), (qroy_15 w11 aP d2 cP), (qroy_13 w11 one another d2 p), (qroy_19 w11 d2), (qroy_12 w11 d2), (qroy_2 w13 d2 aP cP)]⟩ _ _ _) a w' hs
       clear hs a w'
       refine g_seq <| g_seq ?_
       by_cases h18 : ((p : Int) : Int) < ((d2.Partitions.xs.length : Nat) : Int)
       · refine q_cS 9 0 [1] [[o0, o0, (a1 10), o0, oT]] [Qb w13.heap.size, BT (((p : Int) : Int) < ((d2.Partitions.xs.length : Nat) : Int))] [(1, i6 one), (2, i6 another), (7, i6 ((checkF c).e)), (qroy_25 w13), (10, i6 (p : Int)), (36, .bool true)] rfl ⟨rfl, bt (by omega), trivial⟩ ?_
         obtain ⟨y, hy⟩ : ∃ y_, y_ = gd d2.Partitions.xs p := ⟨_, rfl⟩
         obtain ⟨⟨aR, cR, xR⟩, hx⟩ : ∃ x_ : Sl TRegion, x_ = gd (swU one.toNat another.toNat (d2.Partitions.xs.map TPartition.Regions) p) p := ⟨_, rfl⟩
         have hyr : y.Regions = ⟨aR, cR, xR⟩ := (by rw [hx, swU_lo (by rw [List.length_map]; omega) (Nat.le_refl _), gd_reg, hy]); have hxl : xR.length ≤ 140737488351232 := (by have h9 := (hc.Partitions.2 p (by omega)).Regions.1.len; have h8 := congrArg (fun x : TPartition => x.Regions.xs.length) (hx2.2.2.2.2 p); have h7 : (gd d2.Partitions.xs p).Regions.xs.length = (gd c.Partitions.xs p).Regions.xs.length := h8; rw [← hy, hyr] at h7; simp only at h7; omega)
         refine g_famOut 7 [0, 1, 2, 3, 4, 5, 6, 8, 9, 10] (w11.heap.size + 1) 49 4 TRegion.cells (swU one.toNat another.toNat (d2.Partitions.xs.map TPartition.Regions) p) p ⟨aR, cR, xR⟩ hx (by rw [swU_len, List.length_map]; omega) [(old0 w), (qroy_7 z c), (mid (z + 1) w6), (qroy_6 w11 c), (qroy_10 w11 d2), (qroy_20 w11 d2), (qroy_15 w11 aP d2 cP), (qroy_19 w11 d2), (qroy_12 w11 d2), (qroy_2 w13 d2 aP cP)] ?_
         refine g_rowat (base := (w11.heap.size + 1)) (e := 41) (sz := 8) (cells := TPartition.cells) (a := aP) (n := d2.Partitions.xs.length) (cap := cP) (xs := d2.Partitions.xs) 6 (by omega) (fun b19 hg20 hb21 => ?_)
         subst hg20
         refine q_cS 4 0 [] [[o0, (a1 9), o0, (oi p), o0, (oa [.via 6 (.slice aR xR.length cR)]), o0]] [Qb w13.heap.size, ((p : Int) : Int) = ((p : Nat) : Int), p < d2.Partitions.xs.length, (none : Option Nat) = none, ∀ w', Ch.holds (qroy_11 w11 b19 d2 cP) w' → w'.cell? ⟨b19, 0 + offs 8 p + 6, none⟩ = some (.slice aR xR.length cR)] [(1, i6 one), (2, i6 another), (7, i6 ((checkF c).e)), (qroy_25 w13), (10, i6 (p : Int)), (11, .slice aR xR.length cR)] rfl ⟨rfl, rfl, (by omega), rfl, rowL_cell (sz := 8) (j := p) (k := 6) (fun _ => rfl) (by omega) (by rw [← hy]; show some y.Regions.val = _; rw [hyr]; rfl), trivial⟩ ?_
         by_cases h22 : (0 : Int) < ((xR.length : Nat) : Int)
         · refine q_cS 6 4 [1] [[o0, o0, oT], [o0, o0, o0, o0]] [BT ((((xR.length : Nat) : Int) : Int) > 0)] [(1, i6 one), (2, i6 another), (7, i6 ((checkF c).e)), (qroy_25 w13), (10, i6 (p : Int)), (11, .slice aR xR.length cR), (48, .slice aR xR.length cR), (49, i6 one), (51, i6 ((xR.length : Nat) : Int))] rfl ⟨bt (by omega), trivial⟩ ?_
           obtain ⟨i1, hi1e⟩ : ∃ q, q = one.toNat % xR.length := ⟨_, rfl⟩; obtain ⟨j1, hj1e⟩ : ∃ q, q = another.toNat % xR.length := ⟨_, rfl⟩
           have hi1 : i1 < xR.length := (by rw [hi1e]; exact Nat.mod_lt _ (by omega)); have hj1 : j1 < xR.length := (by rw [hj1e]; exact Nat.mod_lt _ (by omega))
           refine l_div false .i64 one ((xR.length : Nat) : Int) (i1 : Int) (some 52) (by omega) ((mod_int (by omega) _).trans (by rw [← hi1e])) ?_
           refine l_keep [1, 2, 7, 9, 10, 11, 48, 52] [(1, i6 one), (2, i6 another), (7, i6 ((checkF c).e)), (qroy_25 w13), (10, i6 (p : Int)), (11, .slice aR xR.length cR), (48, .slice aR xR.length cR), (52, i6 (i1 : Int))] ?_
           refine l_rowat (base := (w11.heap.size + 1)) (e := 49) (sz := 4) (cells := TRegion.cells) (a := aR) (n := xR.length) (cap := cR) (xs := xR) 11 (by omega) (fun b23 hg24 hb25 => ?_)
           subst hg24
           refine q_r 3 0 [] [[(oi i1), (oa [.via 11 (i6 ((gd xR i1).Page)), .via 11 (i6 ((gd xR i1).Pages)), .via 11 (i6 ((gd xR i1).Frame)), .via 11 (i6 ((gd xR i1).Rights))]), o0, (an 4 12)]] [((i1 : Int) : Int) = ((i1 : Nat) : Int), i1 < xR.length, (none : Option Nat) = none, ∀ w', Ch.holds (qroy_17 w11 b23 xR cR) w' → w'.cell? ⟨b23, 0 + offs 4 i1, none⟩ = some (i6 ((gd xR i1).Page)), ∀ w', Ch.holds (qroy_17 w11 b23 xR cR) w' → w'.cell? ⟨b23, 0 + offs 4 i1 + 1, none⟩ = some (i6 ((gd xR i1).Pages)), ∀ w', Ch.holds (qroy_17 w11 b23 xR cR) w' → w'.cell? ⟨b23, 0 + offs 4 i1 + 2, none⟩ = some (i6 ((gd xR i1).Frame)), ∀ w', Ch.holds (qroy_17 w11 b23 xR cR) w' → w'.cell? ⟨b23, 0 + offs 4 i1 + 3, none⟩ = some (i6 ((gd xR i1).Rights)), Qb n17, Qb n17, Qb n17, Qb n17] [(1, i6 one), (2, i6 another), (7, i6 ((checkF c).e)), (qroy_25 w13), (10, i6 (p : Int)), (qroy_23 b23 xR cR), (qroy_26 n17)] ⟨w, n17 + 1, [(old0 w), (qroy_7 z c), (mid (z + 1) w6), (qroy_6 w11 c), (qroy_10 w11 d2), (qroy_20 w11 d2), (qroy_11 w11 b19 d2 cP), (qroy_19 w11 d2), (qroy_12 w11 d2), (qroy_0 w13 d2 b19 cP), (qroy_8 w11 one another d2 p), (qroy_17 w11 b23 xR cR), (qroy_4 n17 xR i1)]⟩ rfl ⟨rfl, (by omega), rfl, rowL_cell (sz := 4) (j := i1) (k := 0) (fun _ => rfl) (by omega) rfl, rowL_cell (sz := 4) (j := i1) (k := 1) (fun _ => rfl) (by omega) rfl, rowL_cell (sz := 4) (j := i1) (k := 2) (fun _ => rfl) (by omega) rfl, rowL_cell (sz := 4) (j := i1) (k := 3) (fun _ => rfl) (by omega) rfl, rfl, rfl, rfl, rfl, trivial⟩ ?_
           refine g_draw 13 [0, 1, 2, 3, 4, 5, 6, 7, 8, 9, 10, 11, 12] [(old0 w), (qroy_7 z c), (mid (z + 1) w6), (qroy_6 w11 c), (qroy_10 w11 d2), (qroy_20 w11 d2), (qroy_11 w11 b19 d2 cP), (qroy_19 w11 d2), (qroy_12 w11 d2), (qroy_0 w13 d2 b19 cP), (qroy_8 w11 one another d2 p), (qroy_17 w11 b23 xR cR), (qroy_4 n17 xR i1)] rfl rfl ?_
           refine w_take [(0, o0), (1, o0), (2, o0), (3, o0), (5, o0), (6, o0), (7, o0), (8, o0)] [1, 2, 7, 9, 10, 11, 12, 55, 56, 58, 60, 61, 63] [] [true, true, true, true, false, true, true, true, true, false, false, false, false, false] [(1, i6 one), (2, i6 another), (7, i6 ((checkF c).e)), (qroy_25 w13), (10, i6 (p : Int)), (qroy_23 b23 xR cR), (qroy_26 n17), (55, .slice (some ⟨b23, 0, none⟩) xR.length cR), (56, i6 one), (58, i6 ((xR.length : Nat) : Int)), (60, .slice (some ⟨b23, 0, none⟩) xR.length cR), (61, i6 another), (63, i6 ((xR.length : Nat) : Int))] rfl (by as_aux_lemma => kernel_rfl) (by as_aux_lemma => kernel_rfl) trivial ?_
           refine w_div 4 .i64 one ((xR.length : Nat) : Int) (i1 : Int) (some 59) (by omega) ((mod_int (by omega) _).trans (by rw [← hi1e])) ?_
           refine w_keep [1, 2, 7, 9, 10, 11, 12, 55, 60, 61, 63, 59] [(1, i6 one), (2, i6 another), (7, i6 ((checkF c).e)), (qroy_25 w13), (10, i6 (p : Int)), (qroy_23 b23 xR cR), (qroy_26 n17), (55, .slice (some ⟨b23, 0, none⟩) xR.length cR), (60, .slice (some ⟨b23, 0, none⟩) xR.length cR), (61, i6 another), (63, i6 ((xR.length : Nat) : Int)), (59, i6 (i1 : Int))] ?_
           refine w_div 9 .i64 another ((xR.length : Nat) : Int) (j1 : Int) (some 64) (by omega) ((mod_int (by omega) _).trans (by rw [← hj1e])) ?_
           refine w_keep [1, 2, 7, 9, 10, 11, 12, 55, 60, 59, 64] [(1, i6 one), (2, i6 another), (7, i6 ((checkF c).e)), (qroy_25 w13), (10, i6 (p : Int)), (qroy_23 b23 xR cR), (qroy_26 n17), (55, .slice (some ⟨b23, 0, none⟩) xR.length cR), (60, .slice (some ⟨b23, 0, none⟩) xR.length cR), (59, i6 (i1 : Int)), (64, i6 (j1 : Int))] ?_
           refine w_take [(10, (oi j1)), (11, (oa [.via 11 (i6 ((gd xR j1).Page)), .via 11 (i6 ((gd xR j1).Pages)), .via 11 (i6 ((gd xR j1).Frame)), .via 11 (i6 ((gd xR j1).Rights))])), (12, (oi i1))] [1, 2, 7, 9, 10, 11, 12, 66, 67] [((j1 : Int) : Int) = ((j1 : Nat) : Int), j1 < xR.length, (none : Option Nat) = none, ∀ w', Ch.holds (qroy_17 w11 b23 xR cR) w' → w'.cell? ⟨b23, 0 + offs 4 j1, none⟩ = some (i6 ((gd xR j1).Page)), ∀ w', Ch.holds (qroy_17 w11 b23 xR cR) w' → w'.cell? ⟨b23, 0 + offs 4 j1 + 1, none⟩ = some (i6 ((gd xR j1).Pages)), ∀ w', Ch.holds (qroy_17 w11 b23 xR cR) w' → w'.cell? ⟨b23, 0 + offs 4 j1 + 2, none⟩ = some (i6 ((gd xR j1).Frame)), ∀ w', Ch.holds (qroy_17 w11 b23 xR cR) w' → w'.cell? ⟨b23, 0 + offs 4 j1 + 3, none⟩ = some (i6 ((gd xR j1).Rights)), ((i1 : Int) : Int) = ((i1 : Nat) : Int), i1 < xR.length, (none : Option Nat) = none] [true, true, true, true, true, true, true, true, true, true, true, true, true, false] [(1, i6 one), (2, i6 another), (7, i6 ((checkF c).e)), (qroy_25 w13), (10, i6 (p : Int)), (qroy_23 b23 xR cR), (qroy_26 n17), (66, .agg #[i6 ((gd xR j1).Page), i6 ((gd xR j1).Pages), i6 ((gd xR j1).Frame), i6 ((gd xR j1).Rights)]), (67, .pointer (some ⟨b23, 0 + offs 4 i1, none⟩))] rfl (by as_aux_lemma => kernel_rfl) (by as_aux_lemma => kernel_rfl) ⟨rfl, (by omega), rfl, rowL_cell (sz := 4) (j := j1) (k := 0) (fun _ => rfl) (by omega) rfl, rowL_cell (sz := 4) (j := j1) (k := 1) (fun _ => rfl) (by omega) rfl, rowL_cell (sz := 4) (j := j1) (k := 2) (fun _ => rfl) (by omega) rfl, rowL_cell (sz := 4) (j := j1) (k := 3) (fun _ => rfl) (by omega) rfl, rfl, (by omega), rfl, trivial⟩ ?_
           refine w_one 13 (by as_aux_lemma => kernel_rfl) rfl ?_
           refine wo_rowsetN 11 i1 xR (gd xR j1) TRegion.cells (w11.heap.size + 1) 49 4 b23 xR.length cR #[i6 ((gd xR j1).Page), i6 ((gd xR j1).Pages), i6 ((gd xR j1).Frame), i6 ((gd xR j1).Rights)] none (by (try simp only [List.length_set]); omega) rfl ?_
           refine w_keep [1, 2, 7, 9, 10, 11, 12] [(1, i6 one), (2, i6 another), (7, i6 ((checkF c).e)), (qroy_25 w13), (10, i6 (p : Int)), (qroy_23 b23 xR cR), (qroy_26 n17)] ?_
           refine w_free 14 [0, 1, 2, 3, 4, 5, 6, 7, 8, 9, 10, 11, 12] [(old0 w), (qroy_7 z c), (mid (z + 1) w6), (qroy_6 w11 c), (qroy_10 w11 d2), (qroy_20 w11 d2), (qroy_11 w11 b19 d2 cP), (qroy_19 w11 d2), (qroy_12 w11 d2), (qroy_0 w13 d2 b19 cP), (qroy_8 w11 one another d2 p), (rowL (w11.heap.size + 1) 49 4 TRegion.cells (.slice (some ⟨b23, 0, none⟩) xR.length cR) (xR.set i1 (gd xR j1))), (qroy_4 n17 xR i1)] rfl rfl ?_
           refine w_done (by as_aux_lemma => kernel_rfl) ?_
           refine e_keep [1, 2, 7, 9, 10, 11, 12] [(1, i6 one), (2, i6 another), (7, i6 ((checkF c).e)), (qroy_25 w13), (10, i6 (p : Int)), (qroy_23 b23 xR cR), (qroy_26 n17)] ?_
           refine e_seq <| g_draw 7 [0, 1, 2, 3, 4, 5, 6, 7, 8, 9, 10, 11, 12] [(old0 w), (qroy_7 z c), (mid (z + 1) w6), (qroy_6 w11 c), (qroy_10 w11 d2), (qroy_20 w11 d2), (qroy_11 w11 b19 d2 cP), (qroy_19 w11 d2), (qroy_12 w11 d2), (qroy_0 w13 d2 b19 cP), (qroy_8 w11 one another d2 p), (rowL (w11.heap.size + 1) 49 4 TRegion.cells (.slice (some ⟨b23, 0, none⟩) xR.length cR) (xR.set i1 (gd xR j1))), (qroy_4 n17 xR i1)] rfl rfl ?_
           refine w_take [(0, o0), (1, o0), (2, o0), (3, o0), (5, (an 4 12))] [1, 2, 7, 9, 10, 68, 69, 71, 73] [Qb n17, Qb n17, Qb n17, Qb n17] [true, true, true, true, false, true, false, false] [(1, i6 one), (2, i6 another), (7, i6 ((checkF c).e)), (qroy_25 w13), (10, i6 (p : Int)), (68, .slice (some ⟨b23, 0, none⟩) xR.length cR), (69, i6 another), (71, i6 ((xR.length : Nat) : Int)), (qroy_21 xR i1)] rfl (by as_aux_lemma => kernel_rfl) (by as_aux_lemma => kernel_rfl) ⟨rfl, rfl, rfl, rfl, trivial⟩ ?_
           refine w_div 4 .i64 another ((xR.length : Nat) : Int) (j1 : Int) (some 72) (by omega) ((mod_int (by omega) _).trans (by rw [← hj1e])) ?_
           refine w_keep [1, 2, 7, 9, 10, 68, 73, 72] [(1, i6 one), (2, i6 another), (7, i6 ((checkF c).e)), (qroy_25 w13), (10, i6 (p : Int)), (68, .slice (some ⟨b23, 0, none⟩) xR.length cR), (qroy_21 xR i1), (72, i6 (j1 : Int))] ?_
           refine w_take [(6, (oi j1))] [1, 2, 7, 9, 10, 73, 74] [((j1 : Int) : Int) = ((j1 : Nat) : Int), j1 < xR.length, (none : Option Nat) = none] [true, true, true, true, true, true, true, false] [(1, i6 one), (2, i6 another), (7, i6 ((checkF c).e)), (qroy_25 w13), (10, i6 (p : Int)), (qroy_21 xR i1), (74, .pointer (some ⟨b23, 0 + offs 4 j1, none⟩))] rfl (by as_aux_lemma => kernel_rfl) (by as_aux_lemma => kernel_rfl) ⟨rfl, (by omega), rfl, trivial⟩ ?_
           refine w_one 7 (by as_aux_lemma => kernel_rfl) rfl ?_
           refine wo_rowsetN 11 j1 (xR.set i1 (gd xR j1)) (gd xR i1) TRegion.cells (w11.heap.size + 1) 49 4 b23 xR.length cR #[i6 ((gd xR i1).Page), i6 ((gd xR i1).Pages), i6 ((gd xR i1).Frame), i6 ((gd xR i1).Rights)] none (by (try simp only [List.length_set]); omega) rfl ?_
           refine w_keep [1, 2, 7, 9, 10] [(1, i6 one), (2, i6 another), (7, i6 ((checkF c).e)), (qroy_25 w13), (10, i6 (p : Int))] ?_
           refine w_free 8 [0, 1, 2, 3, 4, 5, 6, 7, 8, 9, 10, 11, 12] [(old0 w), (qroy_7 z c), (mid (z + 1) w6), (qroy_6 w11 c), (qroy_10 w11 d2), (qroy_20 w11 d2), (qroy_11 w11 b19 d2 cP), (qroy_19 w11 d2), (qroy_12 w11 d2), (qroy_0 w13 d2 b19 cP), (qroy_8 w11 one another d2 p), (rowL (w11.heap.size + 1) 49 4 TRegion.cells (.slice (some ⟨b23, 0, none⟩) xR.length cR) ((xR.set i1 (gd xR j1)).set j1 (gd xR i1))), (qroy_4 n17 xR i1)] rfl rfl ?_
           refine w_done (by as_aux_lemma => kernel_rfl) ?_
           refine q_oS 4 0 [] [[o0, (ov (i6 ((p + 1 : Nat) : Int))), o0]] [Wr (((p : Int) : Int) + 1) (((p + 1 : Nat) : Int))] [(1, i6 one), (2, i6 another), (7, i6 ((checkF c).e)), (qroy_25 w13), (10, i6 ((p + 1 : Nat) : Int))] rfl ⟨wrI, trivial⟩ ?_
           refine e_eqA ⟨w, n17 + 1, [(old0 w), (qroy_7 z c), (mid (z + 1) w6), (qroy_6 w11 c), (qroy_10 w11 d2), (qroy_20 w11 d2), (qroy_11 w11 b19 d2 cP), (qroy_19 w11 d2), (qroy_12 w11 d2), (qroy_0 w13 d2 b19 cP), (qroy_8 w11 one another d2 p), (rowL (w11.heap.size + 1) 49 4 TRegion.cells (.slice (some ⟨b23, 0, none⟩) ((((xR.set i1 (gd xR j1)).set j1 (gd xR i1))).length) cR) ((xR.set i1 (gd xR j1)).set j1 (gd xR i1))), (qroy_4 n17 xR i1)]⟩ (by simp only [List.length_set]; rfl) ?_
           refine e_famIn 10 11 [0, 1, 2, 3, 4, 5, 6, 7, 8, 9, 12] (w11.heap.size + 1) 49 4 TRegion.cells (swU one.toNat another.toNat (d2.Partitions.xs.map TPartition.Regions) p) p (by rw [swU_len, List.length_map]; omega) (some ⟨b23, 0, none⟩) cR ((xR.set i1 (gd xR j1)).set j1 (gd xR i1)) [(old0 w), (qroy_7 z c), (mid (z + 1) w6), (qroy_6 w11 c), (qroy_10 w11 d2), (qroy_20 w11 d2), (qroy_11 w11 b19 d2 cP), (qroy_19 w11 d2), (qroy_12 w11 d2), (qroy_0 w13 d2 b19 cP), (qroy_4 n17 xR i1)] ?_
           refine e_pick [0, 1, 2, 3, 4, 5, 6, 11, 7, 8, 9] [(old0 w), (qroy_7 z c), (mid (z + 1) w6), (qroy_6 w11 c), (qroy_10 w11 d2), (qroy_20 w11 d2), (qroy_11 w11 b19 d2 cP), (famC (w11.heap.size + 1) 49 4 TRegion.cells ((swU one.toNat another.toNat (d2.Partitions.xs.map TPartition.Regions) p).set p ⟨(some ⟨b23, 0, none⟩), cR, ((xR.set i1 (gd xR j1)).set j1 (gd xR i1))⟩)), (qroy_19 w11 d2), (qroy_12 w11 d2), (qroy_0 w13 d2 b19 cP)] rfl rfl ?_
           refine e_keep [1, 2, 7, 9, 10] [(1, i6 one), (2, i6 another), (7, i6 ((checkF c).e)), (qroy_25 w13), (10, i6 ((p + 1 : Nat) : Int))] ?_
           refine e_inv (fun a w' hs => ⟨d2.Partitions.xs.length - (p + 1), by omega, (n17 + 1), (p + 1), (some ⟨b19, 0, none⟩), cP, rfl, by omega, by omega, (by (try dsimp only [qroy_0, qroy_1, qroy_2, qroy_3, qroy_4, qroy_5, qroy_6, qroy_7, qroy_8, qroy_9, qroy_10, qroy_11, qroy_12, qroy_13, qroy_14, qroy_15, qroy_16, qroy_17, qroy_18, qroy_19, qroy_20, qroy_21, qroy_22, qroy_23, qroy_24, qroy_25, qroy_26, qroy_27] at hs ⊢); rw [← swU_set (by rw [List.length_map]; omega) hx (swL_at (by omega) hi1e hj1e rfl rfl)]; exact hs)⟩)
         · refine q_cS 9 0 [0] [[o0, o0, oF], [o0, (ov (i6 ((p + 1 : Nat) : Int))), o0]] [BF ((((xR.length : Nat) : Int) : Int) > 0), Wr (((p : Int) : Int) + 1) (((p + 1 : Nat) : Int))] [(1, i6 one), (2, i6 another), (7, i6 ((checkF c).e)), (qroy_25 w13), (10, i6 ((p + 1 : Nat) : Int))] rfl ⟨bf (by omega), wrI, trivial⟩ ?_
           refine e_famIn 10 11 [0, 1, 2, 3, 4, 5, 6, 7, 8, 9] (w11.heap.size + 1) 49 4 TRegion.cells (swU one.toNat another.toNat (d2.Partitions.xs.map TPartition.Regions) p) p (by rw [swU_len, List.length_map]; omega) aR cR xR [(old0 w), (qroy_7 z c), (mid (z + 1) w6), (qroy_6 w11 c), (qroy_10 w11 d2), (qroy_20 w11 d2), (qroy_11 w11 b19 d2 cP), (qroy_19 w11 d2), (qroy_12 w11 d2), (qroy_0 w13 d2 b19 cP)] ?_
           refine e_pick [0, 1, 2, 3, 4, 5, 6, 10, 7, 8, 9] [(old0 w), (qroy_7 z c), (mid (z + 1) w6), (qroy_6 w11 c), (qroy_10 w11 d2), (qroy_20 w11 d2), (qroy_11 w11 b19 d2 cP), (famC (w11.heap.size + 1) 49 4 TRegion.cells ((swU one.toNat another.toNat (d2.Partitions.xs.map TPartition.Regions) p).set p ⟨aR, cR, xR⟩)), (qroy_19 w11 d2), (qroy_12 w11 d2), (qroy_0 w13 d2 b19 cP)] rfl rfl ?_
           refine e_keep [1, 2, 7, 9, 10] [(1, i6 one), (2, i6 another), (7, i6 ((checkF c).e)), (qroy_25 w13), (10, i6 ((p + 1 : Nat) : Int))] ?_
           refine e_inv (fun a w' hs => ⟨d2.Partitions.xs.length - (p + 1), by omega, n17, (p + 1), (some ⟨b19, 0, none⟩), cP, rfl, by omega, by omega, (by (try dsimp only [qroy_0, qroy_1, qroy_2, qroy_3, qroy_4, qroy_5, qroy_6, qroy_7, qroy_8, qroy_9, qroy_10, qroy_11, qroy_12, qroy_13, qroy_14, qroy_15, qroy_16, qroy_17, qroy_18, qroy_19, qroy_20, qroy_21, qroy_22, qroy_23, qroy_24, qroy_25, qroy_26, qroy_27] at hs ⊢); rw [← swU_set (by rw [List.length_map]; omega) hx (swL_nil (by omega)).symm]; exact hs)⟩)
       · refine q_cS 15 0 [0] [[o0, o0, (a1 10), o0, oF], [o0]] [Qb w13.heap.size, BF (((p : Int) : Int) < ((d2.Partitions.xs.length : Nat) : Int))] [(1, i6 one), (2, i6 another), (7, i6 ((checkF c).e)), (qroy_25 w13), (13, i6 0)] rfl ⟨rfl, bf (by omega), trivial⟩ ?_
         refine g_loop (fun m a w' => ∃ (n27 : Nat) (i : Nat) (aC : Option Addr) (cC : Nat), m = d2.Cores.xs.length - i ∧ n17 ≤ n27 ∧ (i ≤ d2.Cores.xs.length) ∧ St 133 [(1, i6 one), (2, i6 another), (7, i6 ((checkF c).e)), (qroy_25 w13), (13, i6 (i : Int))] [] ⟨w, n27, [(old0 w), (qroy_7 z c), (mid (z + 1) w6), (qroy_6 w11 c), (qroy_14 w11 aC d2 cC), (famC (w11.heap.size + 1) 44 3 TWindow.cells (swU one.toNat another.toNat d2.Cores.xs i)), (qroy_15 w11 aP d2 cP), (qroy_13 w11 one another d2 p), (qroy_19 w11 d2), (qroy_12 w11 d2), (qroy_3 w13 d2 aC cC aP cP)]⟩ a w') (d2.Cores.xs.length - 0) ?_ ?_
         · intro a w' hs; exact ⟨n17, 0, d2.Cores.a, d2.Cores.cap, rfl, Nat.le_refl _, Nat.zero_le _, (by (try dsimp only [qroy_0, qroy_1, qroy_2, qroy_3, qroy_4, qroy_5, qroy_6, qroy_7, qroy_8, qroy_9, qroy_10, qroy_11, qroy_12, qroy_13, qroy_14, qroy_15, qroy_16, qroy_17, qroy_18, qroy_19, qroy_20, qroy_21, qroy_22, qroy_23, qroy_24, qroy_25, qroy_26, qroy_27] at hs ⊢); rw [swU_zero]; exact hs)⟩
         · rintro m a w' ⟨n27, i, aC, cC, rfl, hn26, hki, hs⟩
           refine (?_ : G Tryd.prog 133 [(1, i6 one), (2, i6 another), (7, i6 ((checkF c).e)), (qroy_25 w13), (13, i6 (i : Int))] [] ⟨w, n27, [(old0 w), (qroy_7 z c), (mid (z + 1) w6), (qroy_6 w11 c), (qroy_14 w11 aC d2 cC), (famC (w11.heap.size + 1) 44 3 TWindow.cells (swU one.toNat another.toNat d2.Cores.xs i)), (qroy_15 w11 aP d2 cP), (qroy_13 w11 one another d2 p), (qroy_19 w11 d2), (qroy_12 w11 d2), (qroy_3 w13 d2 aC cC aP cP)]⟩ _ _ _) a w' hs
           clear hs a w'
           refine g_seq <| g_seq ?_
           by_cases h28 : ((i : Int) : Int) < ((d2.Cores.xs.length : Nat) : Int)
           · refine q_cS 9 0 [1] [[o0, o0, (a1 10), o0, oT]] [Qb w13.heap.size, BT (((i : Int) : Int) < ((d2.Cores.xs.length : Nat) : Int))] [(1, i6 one), (2, i6 another), (7, i6 ((checkF c).e)), (qroy_25 w13), (13, i6 (i : Int)), (79, .bool true)] rfl ⟨rfl, bt (by omega), trivial⟩ ?_
             obtain ⟨⟨aW, cW, xW⟩, hx⟩ : ∃ x_ : Sl TWindow, x_ = gd (swU one.toNat another.toNat d2.Cores.xs i) i := ⟨_, rfl⟩
             have hyr : gd d2.Cores.xs i = ⟨aW, cW, xW⟩ := (by rw [hx, swU_lo (by omega) (Nat.le_refl _)]); have hxl : xW.length ≤ 140737488351232 := (by have h9 := (hc.Cores.2 i (by omega)).1.len; have h7 := hx2.2.2.2.1 i; rw [hyr] at h7; simp only at h7; rw [h7]; exact h9)
             refine g_famOut 5 [0, 1, 2, 3, 4, 6, 7, 8, 9, 10] (w11.heap.size + 1) 44 3 TWindow.cells (swU one.toNat another.toNat d2.Cores.xs i) i ⟨aW, cW, xW⟩ hx (by rw [swU_len]; omega) [(old0 w), (qroy_7 z c), (mid (z + 1) w6), (qroy_6 w11 c), (qroy_14 w11 aC d2 cC), (qroy_15 w11 aP d2 cP), (qroy_13 w11 one another d2 p), (qroy_19 w11 d2), (qroy_12 w11 d2), (qroy_3 w13 d2 aC cC aP cP)] ?_
             refine g_rowat (base := (w11.heap.size + 1)) (e := 42) (sz := 1) (cells := (fun x : Sl TWindow => [Sl.val x])) (a := aC) (n := d2.Cores.xs.length) (cap := cC) (xs := d2.Cores.xs) 4 (by omega) (fun b29 hg30 hb31 => ?_)
             subst hg30
             refine q_cS 4 0 [] [[o0, (a1 9), o0, (oi i), (oa [.via 4 (.slice aW xW.length cW)]), o0]] [Qb w13.heap.size, ((i : Int) : Int) = ((i : Nat) : Int), i < d2.Cores.xs.length, (none : Option Nat) = none, ∀ w', Ch.holds (qroy_9 w11 b29 d2 cC) w' → w'.cell? ⟨b29, 0 + i, none⟩ = some (.slice aW xW.length cW)] [(1, i6 one), (2, i6 another), (7, i6 ((checkF c).e)), (qroy_25 w13), (13, i6 (i : Int)), (14, .slice aW xW.length cW)] rfl ⟨rfl, rfl, (by omega), rfl, rowL_cell (sz := 1) (j := i) (k := 0) (fun _ => rfl) (by omega) (by show some (Sl.val _) = _; rw [hyr]; rfl), trivial⟩ ?_
             by_cases h32 : (0 : Int) < ((xW.length : Nat) : Int)
             · refine q_cS 6 4 [1] [[o0, o0, oT], [o0, o0, o0, o0]] [BT ((((xW.length : Nat) : Int) : Int) > 0)] [(1, i6 one), (2, i6 another), (7, i6 ((checkF c).e)), (qroy_25 w13), (13, i6 (i : Int)), (14, .slice aW xW.length cW), (90, .slice aW xW.length cW), (91, i6 one), (93, i6 ((xW.length : Nat) : Int))] rfl ⟨bt (by omega), trivial⟩ ?_
               obtain ⟨i1, hi1e⟩ : ∃ q, q = one.toNat % xW.length := ⟨_, rfl⟩; obtain ⟨j1, hj1e⟩ : ∃ q, q = another.toNat % xW.length := ⟨_, rfl⟩
               have hi1 : i1 < xW.length := (by rw [hi1e]; exact Nat.mod_lt _ (by omega)); have hj1 : j1 < xW.length := (by rw [hj1e]; exact Nat.mod_lt _ (by omega))
               refine l_div false .i64 one ((xW.length : Nat) : Int) (i1 : Int) (some 94) (by omega) ((mod_int (by omega) _).trans (by rw [← hi1e])) ?_
               refine l_keep [1, 2, 7, 9, 13, 14, 90, 94] [(1, i6 one), (2, i6 another), (7, i6 ((checkF c).e)), (qroy_25 w13), (13, i6 (i : Int)), (14, .slice aW xW.length cW), (90, .slice aW xW.length cW), (94, i6 (i1 : Int))] ?_
               refine l_rowat (base := (w11.heap.size + 1)) (e := 44) (sz := 3) (cells := TWindow.cells) (a := aW) (n := xW.length) (cap := cW) (xs := xW) 11 (by omega) (fun b33 hg34 hb35 => ?_)
               subst hg34
               refine q_r 3 0 [] [[(oi i1), (oa [.via 11 (i6 ((gd xW i1).Partition)), .via 11 (i6 ((gd xW i1).Usable)), .via 11 (i6 ((gd xW i1).Slack))]), o0, (an 3 12)]] [((i1 : Int) : Int) = ((i1 : Nat) : Int), i1 < xW.length, (none : Option Nat) = none, ∀ w', Ch.holds (qroy_18 w11 b33 xW cW) w' → w'.cell? ⟨b33, 0 + offs 3 i1, none⟩ = some (i6 ((gd xW i1).Partition)), ∀ w', Ch.holds (qroy_18 w11 b33 xW cW) w' → w'.cell? ⟨b33, 0 + offs 3 i1 + 1, none⟩ = some (i6 ((gd xW i1).Usable)), ∀ w', Ch.holds (qroy_18 w11 b33 xW cW) w' → w'.cell? ⟨b33, 0 + offs 3 i1 + 2, none⟩ = some (i6 ((gd xW i1).Slack)), Qb n27, Qb n27, Qb n27] [(1, i6 one), (2, i6 another), (7, i6 ((checkF c).e)), (qroy_25 w13), (13, i6 (i : Int)), (qroy_24 b33 xW cW), (qroy_27 n27)] ⟨w, n27 + 1, [(old0 w), (qroy_7 z c), (mid (z + 1) w6), (qroy_6 w11 c), (qroy_9 w11 b29 d2 cC), (qroy_15 w11 aP d2 cP), (qroy_13 w11 one another d2 p), (qroy_19 w11 d2), (qroy_12 w11 d2), (qroy_1 w13 d2 b29 cC aP cP), (qroy_16 w11 one another d2 i), (qroy_18 w11 b33 xW cW), (qroy_5 n27 xW i1)]⟩ rfl ⟨rfl, (by omega), rfl, rowL_cell (sz := 3) (j := i1) (k := 0) (fun _ => rfl) (by omega) rfl, rowL_cell (sz := 3) (j := i1) (k := 1) (fun _ => rfl) (by omega) rfl, rowL_cell (sz := 3) (j := i1) (k := 2) (fun _ => rfl) (by omega) rfl, rfl, rfl, rfl, trivial⟩ ?_
               refine g_draw 13 [0, 1, 2, 3, 4, 5, 6, 7, 8, 9, 10, 11, 12] [(old0 w), (qroy_7 z c), (mid (z + 1) w6), (qroy_6 w11 c), (qroy_9 w11 b29 d2 cC), (qroy_15 w11 aP d2 cP), (qroy_13 w11 one another d2 p), (qroy_19 w11 d2), (qroy_12 w11 d2), (qroy_1 w13 d2 b29 cC aP cP), (qroy_16 w11 one another d2 i), (qroy_18 w11 b33 xW cW), (qroy_5 n27 xW i1)] rfl rfl ?_
               refine w_take [(0, o0), (1, o0), (2, o0), (3, o0), (5, o0), (6, o0), (7, o0), (8, o0)] [1, 2, 7, 9, 13, 14, 15, 97, 98, 100, 102, 103, 105] [] [true, true, true, true, false, true, true, true, true, false, false, false, false, false] [(1, i6 one), (2, i6 another), (7, i6 ((checkF c).e)), (qroy_25 w13), (13, i6 (i : Int)), (qroy_24 b33 xW cW), (qroy_27 n27), (97, .slice (some ⟨b33, 0, none⟩) xW.length cW), (98, i6 one), (100, i6 ((xW.length : Nat) : Int)), (102, .slice (some ⟨b33, 0, none⟩) xW.length cW), (103, i6 another), (105, i6 ((xW.length : Nat) : Int))] rfl (by as_aux_lemma => kernel_rfl) (by as_aux_lemma => kernel_rfl) trivial ?_
               refine w_div 4 .i64 one ((xW.length : Nat) : Int) (i1 : Int) (some 101) (by omega) ((mod_int (by omega) _).trans (by rw [← hi1e])) ?_
               refine w_keep [1, 2, 7, 9, 13, 14, 15, 97, 102, 103, 105, 101] [(1, i6 one), (2, i6 another), (7, i6 ((checkF c).e)), (qroy_25 w13), (13, i6 (i : Int)), (qroy_24 b33 xW cW), (qroy_27 n27), (97, .slice (some ⟨b33, 0, none⟩) xW.length cW), (102, .slice (some ⟨b33, 0, none⟩) xW.length cW), (103, i6 another), (105, i6 ((xW.length : Nat) : Int)), (101, i6 (i1 : Int))] ?_
               refine w_div 9 .i64 another ((xW.length : Nat) : Int) (j1 : Int) (some 106) (by omega) ((mod_int (by omega) _).trans (by rw [← hj1e])) ?_
               refine w_keep [1, 2, 7, 9, 13, 14, 15, 97, 102, 101, 106] [(1, i6 one), (2, i6 another), (7, i6 ((checkF c).e)), (qroy_25 w13), (13, i6 (i : Int)), (qroy_24 b33 xW cW), (qroy_27 n27), (97, .slice (some ⟨b33, 0, none⟩) xW.length cW), (102, .slice (some ⟨b33, 0, none⟩) xW.length cW), (101, i6 (i1 : Int)), (106, i6 (j1 : Int))] ?_
               refine w_take [(10, (oi j1)), (11, (oa [.via 11 (i6 ((gd xW j1).Partition)), .via 11 (i6 ((gd xW j1).Usable)), .via 11 (i6 ((gd xW j1).Slack))])), (12, (oi i1))] [1, 2, 7, 9, 13, 14, 15, 108, 109] [((j1 : Int) : Int) = ((j1 : Nat) : Int), j1 < xW.length, (none : Option Nat) = none, ∀ w', Ch.holds (qroy_18 w11 b33 xW cW) w' → w'.cell? ⟨b33, 0 + offs 3 j1, none⟩ = some (i6 ((gd xW j1).Partition)), ∀ w', Ch.holds (qroy_18 w11 b33 xW cW) w' → w'.cell? ⟨b33, 0 + offs 3 j1 + 1, none⟩ = some (i6 ((gd xW j1).Usable)), ∀ w', Ch.holds (qroy_18 w11 b33 xW cW) w' → w'.cell? ⟨b33, 0 + offs 3 j1 + 2, none⟩ = some (i6 ((gd xW j1).Slack)), ((i1 : Int) : Int) = ((i1 : Nat) : Int), i1 < xW.length, (none : Option Nat) = none] [true, true, true, true, true, true, true, true, true, true, true, true, true, false] [(1, i6 one), (2, i6 another), (7, i6 ((checkF c).e)), (qroy_25 w13), (13, i6 (i : Int)), (qroy_24 b33 xW cW), (qroy_27 n27), (108, .agg #[i6 ((gd xW j1).Partition), i6 ((gd xW j1).Usable), i6 ((gd xW j1).Slack)]), (109, .pointer (some ⟨b33, 0 + offs 3 i1, none⟩))] rfl (by as_aux_lemma => kernel_rfl) (by as_aux_lemma => kernel_rfl) ⟨rfl, (by omega), rfl, rowL_cell (sz := 3) (j := j1) (k := 0) (fun _ => rfl) (by omega) rfl, rowL_cell (sz := 3) (j := j1) (k := 1) (fun _ => rfl) (by omega) rfl, rowL_cell (sz := 3) (j := j1) (k := 2) (fun _ => rfl) (by omega) rfl, rfl, (by omega), rfl, trivial⟩ ?_
               refine w_one 13 (by as_aux_lemma => kernel_rfl) rfl ?_
               refine wo_rowsetN 11 i1 xW (gd xW j1) TWindow.cells (w11.heap.size + 1) 44 3 b33 xW.length cW #[i6 ((gd xW j1).Partition), i6 ((gd xW j1).Usable), i6 ((gd xW j1).Slack)] none (by (try simp only [List.length_set]); omega) rfl ?_
               refine w_keep [1, 2, 7, 9, 13, 14, 15] [(1, i6 one), (2, i6 another), (7, i6 ((checkF c).e)), (qroy_25 w13), (13, i6 (i : Int)), (qroy_24 b33 xW cW), (qroy_27 n27)] ?_
               refine w_free 14 [0, 1, 2, 3, 4, 5, 6, 7, 8, 9, 10, 11, 12] [(old0 w), (qroy_7 z c), (mid (z + 1) w6), (qroy_6 w11 c), (qroy_9 w11 b29 d2 cC), (qroy_15 w11 aP d2 cP), (qroy_13 w11 one another d2 p), (qroy_19 w11 d2), (qroy_12 w11 d2), (qroy_1 w13 d2 b29 cC aP cP), (qroy_16 w11 one another d2 i), (rowL (w11.heap.size + 1) 44 3 TWindow.cells (.slice (some ⟨b33, 0, none⟩) xW.length cW) (xW.set i1 (gd xW j1))), (qroy_5 n27 xW i1)] rfl rfl ?_
               refine w_done (by as_aux_lemma => kernel_rfl) ?_
               refine e_keep [1, 2, 7, 9, 13, 14, 15] [(1, i6 one), (2, i6 another), (7, i6 ((checkF c).e)), (qroy_25 w13), (13, i6 (i : Int)), (qroy_24 b33 xW cW), (qroy_27 n27)] ?_
               refine e_seq <| g_draw 7 [0, 1, 2, 3, 4, 5, 6, 7, 8, 9, 10, 11, 12] [(old0 w), (qroy_7 z c), (mid (z + 1) w6), (qroy_6 w11 c), (qroy_9 w11 b29 d2 cC), (qroy_15 w11 aP d2 cP), (qroy_13 w11 one another d2 p), (qroy_19 w11 d2), (qroy_12 w11 d2), (qroy_1 w13 d2 b29 cC aP cP), (qroy_16 w11 one another d2 i), (rowL (w11.heap.size + 1) 44 3 TWindow.cells (.slice (some ⟨b33, 0, none⟩) xW.length cW) (xW.set i1 (gd xW j1))), (qroy_5 n27 xW i1)] rfl rfl ?_
               refine w_take [(0, o0), (1, o0), (2, o0), (3, o0), (5, (an 3 12))] [1, 2, 7, 9, 13, 110, 111, 113, 115] [Qb n27, Qb n27, Qb n27] [true, true, true, true, false, true, false, false] [(1, i6 one), (2, i6 another), (7, i6 ((checkF c).e)), (qroy_25 w13), (13, i6 (i : Int)), (110, .slice (some ⟨b33, 0, none⟩) xW.length cW), (111, i6 another), (113, i6 ((xW.length : Nat) : Int)), (qroy_22 xW i1)] rfl (by as_aux_lemma => kernel_rfl) (by as_aux_lemma => kernel_rfl) ⟨rfl, rfl, rfl, trivial⟩ ?_
               refine w_div 4 .i64 another ((xW.length : Nat) : Int) (j1 : Int) (some 114) (by omega) ((mod_int (by omega) _).trans (by rw [← hj1e])) ?_
               refine w_keep [1, 2, 7, 9, 13, 110, 115, 114] [(1, i6 one), (2, i6 another), (7, i6 ((checkF c).e)), (qroy_25 w13), (13, i6 (i : Int)), (110, .slice (some ⟨b33, 0, none⟩) xW.length cW), (qroy_22 xW i1), (114, i6 (j1 : Int))] ?_
               refine w_take [(6, (oi j1))] [1, 2, 7, 9, 13, 115, 116] [((j1 : Int) : Int) = ((j1 : Nat) : Int), j1 < xW.length, (none : Option Nat) = none] [true, true, true, true, true, true, true, false] [(1, i6 one), (2, i6 another), (7, i6 ((checkF c).e)), (qroy_25 w13), (13, i6 (i : Int)), (qroy_22 xW i1), (116, .pointer (some ⟨b33, 0 + offs 3 j1, none⟩))] rfl (by as_aux_lemma => kernel_rfl) (by as_aux_lemma => kernel_rfl) ⟨rfl, (by omega), rfl, trivial⟩ ?_
               refine w_one 7 (by as_aux_lemma => kernel_rfl) rfl ?_
               refine wo_rowsetN 11 j1 (xW.set i1 (gd xW j1)) (gd xW i1) TWindow.cells (w11.heap.size + 1) 44 3 b33 xW.length cW #[i6 ((gd xW i1).Partition), i6 ((gd xW i1).Usable), i6 ((gd xW i1).Slack)] none (by (try simp only [List.length_set]); omega) rfl ?_
               refine w_keep [1, 2, 7, 9, 13] [(1, i6 one), (2, i6 another), (7, i6 ((checkF c).e)), (qroy_25 w13), (13, i6 (i : Int))] ?_
               refine w_free 8 [0, 1, 2, 3, 4, 5, 6, 7, 8, 9, 10, 11, 12] [(old0 w), (qroy_7 z c), (mid (z + 1) w6), (qroy_6 w11 c), (qroy_9 w11 b29 d2 cC), (qroy_15 w11 aP d2 cP), (qroy_13 w11 one another d2 p), (qroy_19 w11 d2), (qroy_12 w11 d2), (qroy_1 w13 d2 b29 cC aP cP), (qroy_16 w11 one another d2 i), (rowL (w11.heap.size + 1) 44 3 TWindow.cells (.slice (some ⟨b33, 0, none⟩) xW.length cW) ((xW.set i1 (gd xW j1)).set j1 (gd xW i1))), (qroy_5 n27 xW i1)] rfl rfl ?_
               refine w_done (by as_aux_lemma => kernel_rfl) ?_
               refine q_oS 4 0 [] [[o0, (ov (i6 ((i + 1 : Nat) : Int))), o0]] [Wr (((i : Int) : Int) + 1) (((i + 1 : Nat) : Int))] [(1, i6 one), (2, i6 another), (7, i6 ((checkF c).e)), (qroy_25 w13), (13, i6 ((i + 1 : Nat) : Int))] rfl ⟨wrI, trivial⟩ ?_
               refine e_eqA ⟨w, n27 + 1, [(old0 w), (qroy_7 z c), (mid (z + 1) w6), (qroy_6 w11 c), (qroy_9 w11 b29 d2 cC), (qroy_15 w11 aP d2 cP), (qroy_13 w11 one another d2 p), (qroy_19 w11 d2), (qroy_12 w11 d2), (qroy_1 w13 d2 b29 cC aP cP), (qroy_16 w11 one another d2 i), (rowL (w11.heap.size + 1) 44 3 TWindow.cells (.slice (some ⟨b33, 0, none⟩) ((((xW.set i1 (gd xW j1)).set j1 (gd xW i1))).length) cW) ((xW.set i1 (gd xW j1)).set j1 (gd xW i1))), (qroy_5 n27 xW i1)]⟩ (by simp only [List.length_set]; rfl) ?_
               refine e_famIn 10 11 [0, 1, 2, 3, 4, 5, 6, 7, 8, 9, 12] (w11.heap.size + 1) 44 3 TWindow.cells (swU one.toNat another.toNat d2.Cores.xs i) i (by rw [swU_len]; omega) (some ⟨b33, 0, none⟩) cW ((xW.set i1 (gd xW j1)).set j1 (gd xW i1)) [(old0 w), (qroy_7 z c), (mid (z + 1) w6), (qroy_6 w11 c), (qroy_9 w11 b29 d2 cC), (qroy_15 w11 aP d2 cP), (qroy_13 w11 one another d2 p), (qroy_19 w11 d2), (qroy_12 w11 d2), (qroy_1 w13 d2 b29 cC aP cP), (qroy_5 n27 xW i1)] ?_
               refine e_pick [0, 1, 2, 3, 4, 11, 5, 6, 7, 8, 9] [(old0 w), (qroy_7 z c), (mid (z + 1) w6), (qroy_6 w11 c), (qroy_9 w11 b29 d2 cC), (famC (w11.heap.size + 1) 44 3 TWindow.cells ((swU one.toNat another.toNat d2.Cores.xs i).set i ⟨(some ⟨b33, 0, none⟩), cW, ((xW.set i1 (gd xW j1)).set j1 (gd xW i1))⟩)), (qroy_15 w11 aP d2 cP), (qroy_13 w11 one another d2 p), (qroy_19 w11 d2), (qroy_12 w11 d2), (qroy_1 w13 d2 b29 cC aP cP)] rfl rfl ?_
               refine e_keep [1, 2, 7, 9, 13] [(1, i6 one), (2, i6 another), (7, i6 ((checkF c).e)), (qroy_25 w13), (13, i6 ((i + 1 : Nat) : Int))] ?_
               refine e_inv (fun a w' hs => ⟨d2.Cores.xs.length - (i + 1), by omega, (n27 + 1), (i + 1), (some ⟨b29, 0, none⟩), cC, rfl, by omega, by omega, (by (try dsimp only [qroy_0, qroy_1, qroy_2, qroy_3, qroy_4, qroy_5, qroy_6, qroy_7, qroy_8, qroy_9, qroy_10, qroy_11, qroy_12, qroy_13, qroy_14, qroy_15, qroy_16, qroy_17, qroy_18, qroy_19, qroy_20, qroy_21, qroy_22, qroy_23, qroy_24, qroy_25, qroy_26, qroy_27] at hs ⊢); rw [← swU_set (by omega) hx (swL_at (by omega) hi1e hj1e rfl rfl)]; exact hs)⟩)
             · refine q_cS 9 0 [0] [[o0, o0, oF], [o0, (ov (i6 ((i + 1 : Nat) : Int))), o0]] [BF ((((xW.length : Nat) : Int) : Int) > 0), Wr (((i : Int) : Int) + 1) (((i + 1 : Nat) : Int))] [(1, i6 one), (2, i6 another), (7, i6 ((checkF c).e)), (qroy_25 w13), (13, i6 ((i + 1 : Nat) : Int))] rfl ⟨bf (by omega), wrI, trivial⟩ ?_
               refine e_famIn 10 11 [0, 1, 2, 3, 4, 5, 6, 7, 8, 9] (w11.heap.size + 1) 44 3 TWindow.cells (swU one.toNat another.toNat d2.Cores.xs i) i (by rw [swU_len]; omega) aW cW xW [(old0 w), (qroy_7 z c), (mid (z + 1) w6), (qroy_6 w11 c), (qroy_9 w11 b29 d2 cC), (qroy_15 w11 aP d2 cP), (qroy_13 w11 one another d2 p), (qroy_19 w11 d2), (qroy_12 w11 d2), (qroy_1 w13 d2 b29 cC aP cP)] ?_
               refine e_pick [0, 1, 2, 3, 4, 10, 5, 6, 7, 8, 9] [(old0 w), (qroy_7 z c), (mid (z + 1) w6), (qroy_6 w11 c), (qroy_9 w11 b29 d2 cC), (famC (w11.heap.size + 1) 44 3 TWindow.cells ((swU one.toNat another.toNat d2.Cores.xs i).set i ⟨aW, cW, xW⟩)), (qroy_15 w11 aP d2 cP), (qroy_13 w11 one another d2 p), (qroy_19 w11 d2), (qroy_12 w11 d2), (qroy_1 w13 d2 b29 cC aP cP)] rfl rfl ?_
               refine e_keep [1, 2, 7, 9, 13] [(1, i6 one), (2, i6 another), (7, i6 ((checkF c).e)), (qroy_25 w13), (13, i6 ((i + 1 : Nat) : Int))] ?_
               refine e_inv (fun a w' hs => ⟨d2.Cores.xs.length - (i + 1), by omega, n27, (i + 1), (some ⟨b29, 0, none⟩), cC, rfl, by omega, by omega, (by (try dsimp only [qroy_0, qroy_1, qroy_2, qroy_3, qroy_4, qroy_5, qroy_6, qroy_7, qroy_8, qroy_9, qroy_10, qroy_11, qroy_12, qroy_13, qroy_14, qroy_15, qroy_16, qroy_17, qroy_18, qroy_19, qroy_20, qroy_21, qroy_22, qroy_23, qroy_24, qroy_25, qroy_26, qroy_27] at hs ⊢); rw [← swU_set (by omega) hx (swL_nil (by omega)).symm]; exact hs)⟩)
           · refine q_cS 11 1 [0] [[o0, o0, (a1 10), o0, oF], [(an 7 10)]] [Qb w13.heap.size, BF (((i : Int) : Int) < ((d2.Cores.xs.length : Nat) : Int)), Qb w13.heap.size, Qb w13.heap.size, Qb w13.heap.size, Qb w13.heap.size, Qb w13.heap.size, Qb w13.heap.size, Qb w13.heap.size] [(7, i6 ((checkF c).e)), (118, .agg #[i6 d2.Frames, i6 d2.Major, i6 d2.Kernel, i6 d2.Room, .slice aC d2.Cores.xs.length cC, .slice aP d2.Partitions.xs.length cP, .slice d2.Channels.a d2.Channels.xs.length d2.Channels.cap])] rfl ⟨rfl, bf (by omega), rfl, rfl, rfl, rfl, rfl, rfl, rfl, trivial⟩ ?_
             refine l_call [] [] 9 #[.agg #[i6 d2.Frames, i6 d2.Major, i6 d2.Kernel, i6 d2.Room, .slice aC d2.Cores.xs.length cC, .slice aP d2.Partitions.xs.length cP, .slice d2.Channels.a d2.Channels.xs.length d2.Channels.cap]] (some 119) trivial ?_
             intro w36 hw36
             have hPm : PermC c (swC one.toNat another.toNat d2 aC cC aP cP) := swC_perm hsd2
             have hO : ConfOwn (w11.heap.size + 1) w36 (swC one.toNat another.toNat d2 aC cC aP cP) := ⟨w, by
               have h4 := hw36.pick [4, 5, 6, 7, 8, 9] rfl rfl
               rw [hw36.size]
               (try dsimp only [qroy_0, qroy_1, qroy_2, qroy_3, qroy_4, qroy_5, qroy_6, qroy_7, qroy_8, qroy_9, qroy_10, qroy_11, qroy_12, qroy_13, qroy_14, qroy_15, qroy_16, qroy_17, qroy_18, qroy_19, qroy_20, qroy_21, qroy_22, qroy_23, qroy_24, qroy_25, qroy_26, qroy_27] at h4)
               have hii : i = d2.Cores.xs.length := by omega
               have hpp : p = d2.Partitions.xs.length := by omega
               rw [hii, hpp] at h4
               unfold confS swC; simp only [swP_regs, swP_ports]
               rw [show Sl.val (⟨aC, cC, swU one.toNat another.toNat d2.Cores.xs d2.Cores.xs.length⟩ : Sl (Sl TWindow)) = .slice aC d2.Cores.xs.length cC from by unfold Sl.val; rw [swU_len], show Sl.val (⟨aP, cP, swP one.toNat another.toNat d2⟩ : Sl TPartition) = .slice aP d2.Partitions.xs.length cP from by unfold Sl.val; rw [swP_len], row_same (swU_len) swU_cells, row_same swP_len swP_cells]
               exact h4⟩
             have hok3 := own_ok2 hc hPm hO
             have hck := check_calls w36 (hL.ext (hw36.ext rfl)) (swC one.toNat another.toNat d2 aC cC aP cP) (hok3.ext (Ext.refl _ _) (fun _ _ => trivial)) (by rw [hPm.pl, hPm.cl, hPm.ch]; exact hLim.sum)
             have hE : TConfig.arr (swC one.toNat another.toNat d2 aC cC aP cP) = #[i6 d2.Frames, i6 d2.Major, i6 d2.Kernel, i6 d2.Room, .slice aC d2.Cores.xs.length cC, .slice aP d2.Partitions.xs.length cP, .slice d2.Channels.a d2.Channels.xs.length d2.Channels.cap] := by simp only [swC, TConfig.arr, swU_len, swP_len]
             rw [hE] at hck
             have hcp := check_perm hPm; obtain ⟨F2, hF2⟩ : ∃ F, F = checkF (swC one.toNat another.toNat d2 aC cC aP cP) := ⟨_, rfl⟩; rw [← hF2] at hcp hck
             refine hck.mono ?_
             rintro e w37 ⟨rfl, hkw37⟩
             have hnw37 : n27 ≤ w37.heap.size := size_of hw36 hkw37
             refine ⟨_, _, rfl, hw36.keeps hkw37, ?_⟩
             refine q_r 3 0 [] [[o0, o0, o0, o0, o0, (an 2 11)]] [Qb w37.heap.size, Qb w37.heap.size] [(7, i6 ((checkF c).e)), (16, i6 F2.e)] ⟨w, w37.heap.size + 1, [(old0 w), (qroy_7 z c), (mid (z + 1) w6), (qroy_6 w11 c), (qroy_14 w11 aC d2 cC), (famC (w11.heap.size + 1) 44 3 TWindow.cells (swU one.toNat another.toNat d2.Cores.xs i)), (qroy_15 w11 aP d2 cP), (qroy_13 w11 one another d2 p), (qroy_19 w11 d2), (qroy_12 w11 d2), (qroy_3 w13 d2 aC cC aP cP), (.blk w37.heap.size (.cells #[i6 F2.where_.First, i6 F2.where_.Second] 34 (0, 0)) true)]⟩ rfl ⟨rfl, rfl, trivial⟩ ?_
             by_cases h38 : ((checkF c).e : Int) = 0
             · have hF := check_fine h38; have hG := good_of hF; have hwF : (checkF c).where_.First = 0 ∧ (checkF c).where_.Second = 0 := by rw [hF]; exact ⟨rfl, rfl⟩
               have hGf := hG.fr; have hGk := hG.kern; have hGp := hG.pn; have hGn := hG.need; have hGe := hG.err
               by_cases h39 : (F2.e : Int) = 0
               · refine q_cS 1 6 [] [[o0, oT, o0, oT, o0, o0]] [ET ((checkF c).e) 0, ET F2.e 0] [(127, .bool true)] rfl ⟨et (by omega), et (by omega), trivial⟩ ?_
                 refine l_call [] [] 6 #[i6 0] (some 128) trivial ?_
                 intro w40 hw40
                 refine (one_calls w40 (hL.ext (hw40.ext rfl)) 0 lit_ok).mono ?_
                 rintro e w41 ⟨rfl, hkw41⟩
                 have hnw41 : w37.heap.size + 1 ≤ w41.heap.size := size_of hw40 hkw41
                 refine ⟨_, _, rfl, hw40.keeps hkw41, ?_⟩
                 refine q_rS 0 2 [] [[o0, o0]] [] [(130, .bool true)] rfl trivial ?_
                 refine l_call [] [] 6 #[i6 2] (some 131) trivial ?_
                 intro w42 hw42
                 refine (one_calls w42 (hL.ext (hw42.ext rfl)) 2 lit_ok).mono ?_
                 rintro e w43 ⟨rfl, hkw43⟩
                 have hnw43 : w41.heap.size ≤ w43.heap.size := size_of hw42 hkw43
                 refine ⟨_, _, rfl, hw42.keeps hkw43, ?_⟩
                 refine q_rS 3 0 [] [[o0, o0]] [] [(6, .bool true)] rfl trivial ?_
                 refine e_ret [] [] (.bool true) trivial ?_
                 intro w44 hw44
                 exact ⟨rfl, back0 hw44⟩
               · refine q_cS 4 0 [] [[o0, oT, o0, oF, o0, o0, o0, o0, o0, o0]] [ET ((checkF c).e) 0, EF F2.e 0] [(6, .bool false)] rfl ⟨et (by omega), ef (by omega), trivial⟩ ?_
                 refine e_ret [] [] (.bool false) trivial ?_
                 intro w45 hw45
                 exfalso; first | omega | (simp_all)
             · have hbad := check_bad h38
               by_cases h46 : (F2.e : Int) = 0
               · refine q_cS 4 0 [] [[o0, oF, o0, oT, o0, o0, o0, o0, o0, o0]] [EF ((checkF c).e) 0, ET F2.e 0] [(6, .bool false)] rfl ⟨ef (by omega), et (by omega), trivial⟩ ?_
                 refine e_ret [] [] (.bool false) trivial ?_
                 intro w47 hw47
                 exfalso; first | omega | (simp_all)
               · refine q_cS 1 6 [] [[o0, oF, o0, oF, o0, o0]] [EF ((checkF c).e) 0, EF F2.e 0] [(127, .bool true)] rfl ⟨ef (by omega), ef (by omega), trivial⟩ ?_
                 refine l_call [] [] 6 #[i6 0] (some 128) trivial ?_
                 intro w48 hw48
                 refine (one_calls w48 (hL.ext (hw48.ext rfl)) 0 lit_ok).mono ?_
                 rintro e w49 ⟨rfl, hkw49⟩
                 have hnw49 : w37.heap.size + 1 ≤ w49.heap.size := size_of hw48 hkw49
                 refine ⟨_, _, rfl, hw48.keeps hkw49, ?_⟩
                 refine q_rS 0 2 [] [[o0, o0]] [] [(130, .bool true)] rfl trivial ?_
                 refine l_call [] [] 6 #[i6 2] (some 131) trivial ?_
                 intro w50 hw50
                 refine (one_calls w50 (hL.ext (hw50.ext rfl)) 2 lit_ok).mono ?_
                 rintro e w51 ⟨rfl, hkw51⟩
                 have hnw51 : w49.heap.size ≤ w51.heap.size := size_of hw50 hkw51
                 refine ⟨_, _, rfl, hw50.keeps hkw51, ?_⟩
                 refine q_rS 3 0 [] [[o0, o0]] [] [(6, .bool true)] rfl trivial ?_
                 refine e_ret [] [] (.bool true) trivial ?_
                 intro w52 hw52
                 exact ⟨rfl, back0 hw52⟩
end Go.Proofs.YtnjhekfgmbpmlaaDoor.Ad
namespace Go.Proofs.YtnjhekfgmbpmlaaDoor.Row
open Go.ChangeShapes Go.WideShapes Go.ChangeAt Go.RowKit
set_option linter.unusedVariables false
section
variable {H : Type} {enc : TypeId × Value → H} {P : Program}
theorem trodAll_below (hl : laidOutB P = true) {W W' : World} (hb : Below W.heap.size W W') :
    ∀ {ts : List TypeId} {vs : List Value} {ds : List (DataW H)} {ps : List MemPlace},
      ts.all (fun t => P.readableRec t && decide (t < P.types.size)) = true → (∀ x ∈ ps, x.block < W.heap.size) →
      DataW.TrodAll enc P W 0 (fun _ => true) true ts vs ds ps → DataW.TrodAll enc P W' 0 (fun b => decide (b < W.heap.size)) true ts vs ds ps := by
  intro ts
  induction ts with
  | nil =>
    intro vs ds ps _ _ h
    obtain ⟨rfl, rfl, rfl⟩ := trodAll_nil h
    exact trodAll_mk0
  | cons t ts ih =>
    intro vs ds ps ht hlt h
    obtain ⟨v0, vs0, d0, ds0, p0, q0, rfl, rfl, rfl, h0, r0⟩ := trodAll_cons h
    simp only [List.all_cons, Bool.and_eq_true, decide_eq_true_eq] at ht
    refine trodAll_cons_mk (Below.trod hl ht.1.1 ht.1.2 h0 hb (fun x hx => hlt x (by simp [hx]))) (ih ht.2 (fun x hx => hlt x (by simp [hx])) r0)
theorem post_true (hl : laidOutB P = true) {f : Func} {s : ChangeSpec} {tb : TypeId} {W W' : World} {args : Array Value} {ds gs : List (DataW H)} {before : List MemPlace}
    (hts : f.params.toList.all (fun t => P.readableRec t && decide (t < P.types.size)) = true) (hres : f.resultTypes = #[tb]) (hbool : P.underlying tb = some .bool)
    (hvars : s.vars = []) (hfn : s.fn H (ds ++ gs) = { results := [.lit (.bool true)], args := ds })
    (hW : DataW.Whole enc P f.params.toList s.vars false W args.toList ds gs before) (bel : Below W.heap.size W W') :
    s.post enc P f false true false false W args (.bool true) W' := by
  have hW' := hW
  obtain ⟨p, q, hA, hV, rfl, hfz, hnd⟩ := hW
  rw [hvars] at hV
  obtain ⟨rfl, rfl⟩ := trodVars_none hV
  have hlt : ∀ x ∈ p, x.block < W.heap.size := fun x hx => hW'.lt x (by simp [hx])
  refine ⟨ds, [], _, [], p, [], hW', ?_, ?_, ?_, bel.frame _, fun h => by cases h⟩
  · rw [hfn, hres]; exact trodAll_mk1 (shut_bool hbool _)
  · rw [hfn]; exact trodAll_below hl bel hts hlt hA
  · rw [hfn, hvars]; rfl
end
end Go.Proofs.YtnjhekfgmbpmlaaDoor.Row
