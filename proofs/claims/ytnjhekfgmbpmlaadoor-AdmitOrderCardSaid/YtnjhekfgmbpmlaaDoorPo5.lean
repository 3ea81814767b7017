/- Packed: Ak, Al, An, Aq, Bb, Lm, Ln, Lo, Bd, Ca, EngH, EngZ, Ao, Ap, EngR, EngV, EngO, Cb, At, Am. No conditions. -/
import Derived.Test.YtnjhekfgmbpmlaaDoorPo4
import Derived.Deep.Slices
import Derived.SizedLaws
import Derived.WideShapes
import Derived.DataReads
import Derived.Lib.SlBytesConst
namespace Go.Proofs.YtnjhekfgmbpmlaaDoor.Ad
open Go Go.Proofs.YtnjhekfgmbpmlaaDoor.Eng Go.Proofs.YtnjhekfgmbpmlaaDoor.Mem Go.Proofs.YtnjhekfgmbpmlaaDoor.Ly
set_option linter.unusedSimpArgs false
set_option linter.unusedVariables false
set_option maxRecDepth 100000
abbrev qdvx_0 (n10 : Nat) (z : Nat) : Ch := bk (n10 + 1) #[.func (.func 49) #[] #[pt (z + 2), pt n10]] 71
abbrev qdvx_1 (n17 : Nat) (z : Nat) : Ch := bk (n17 + 1) #[.func (.func 51) #[] #[pt (z + 2), pt n17]] 71
abbrev qdvx_2 (n3 : Nat) (z : Nat) : Ch := bk (n3 + 1) #[.func (.func 47) #[] #[pt (z + 2), pt n3]] 71
abbrev qdvx_3 (z : Nat) (c : TConfig) (p : Nat) : Ch := bk (z + 1) #[i6 ((partQ c p).where_.First), i6 ((partQ c p).where_.Second)] 34
abbrev qdvx_4 (z : Nat) (c : TConfig) (p : Nat) : Ch := bk (z + 1) #[i6 ((chanQ c p).where_.First), i6 ((chanQ c p).where_.Second)] 34
abbrev qdvx_5 (z : Nat) (c : TConfig) (p : Nat) : Ch := bk (z + 1) #[i6 ((coreQ c p).where_.First), i6 ((coreQ c p).where_.Second)] 34
abbrev qdvx_6 (z : Nat) (c : TConfig) : Ch := bk (z + 1) #[i6 ((whole1 c).where_.First), i6 ((whole1 c).where_.Second)] 34
abbrev qdvx_7 (z : Nat) (c : TConfig) : Ch := bk (z + 1) #[i6 ((whole2 c).where_.First), i6 ((whole2 c).where_.Second)] 34
abbrev qdvx_8 (z : Nat) (c : TConfig) : Ch := bk (z + 1) #[i6 ((whole3 c).where_.First), i6 ((whole3 c).where_.Second)] 34
abbrev qdvx_9 (z : Nat) (c : TConfig) : Ch := bk (z + 1) #[i6 ((whole4 c).where_.First), i6 ((whole4 c).where_.Second)] 34
abbrev qdvx_10 (z : Nat) (c : TConfig) : Ch := bk (z + 1) #[i6 ((whole5 c).where_.First), i6 ((whole5 c).where_.Second)] 34
abbrev qdvx_11 (z : Nat) (c : TConfig) : Ch := bk (z + 1) #[i6 ((kernQ c).where_.First), i6 ((kernQ c).where_.Second)] 34
abbrev qdvx_12 (n17 : Nat) (z : Nat) : Ch := bk n17 #[.func (.func 53) #[] #[pt (z + 2)]] 71
abbrev qdvx_13 (w70 : World) (c : TConfig) (p : Nat) : Ch := .blk w70.heap.size (.cells (Tfound.arr (partQ c p)) 73 (0, 0)) true
abbrev qdvx_14 (w77 : World) (c : TConfig) (p : Nat) : Ch := .blk w77.heap.size (.cells (Tfound.arr (chanQ c p)) 73 (0, 0)) true
abbrev qdvx_15 (w84 : World) (c : TConfig) (p : Nat) : Ch := .blk w84.heap.size (.cells (Tfound.arr (coreQ c p)) 73 (0, 0)) true
abbrev qdvx_16 (w35 : World) (c : TConfig) : Ch := .blk w35.heap.size (.cells (Tfound.arr (whole1 c)) 73 (0, 0)) true
abbrev qdvx_17 (w42 : World) (c : TConfig) : Ch := .blk w42.heap.size (.cells (Tfound.arr (whole2 c)) 73 (0, 0)) true
abbrev qdvx_18 (w49 : World) (c : TConfig) : Ch := .blk w49.heap.size (.cells (Tfound.arr (whole3 c)) 73 (0, 0)) true
abbrev qdvx_19 (w56 : World) (c : TConfig) : Ch := .blk w56.heap.size (.cells (Tfound.arr (whole4 c)) 73 (0, 0)) true
abbrev qdvx_20 (w63 : World) (c : TConfig) : Ch := .blk w63.heap.size (.cells (Tfound.arr (whole5 c)) 73 (0, 0)) true
abbrev qdvx_21 (w91 : World) (c : TConfig) : Ch := .blk w91.heap.size (.cells (Tfound.arr (kernQ c)) 73 (0, 0)) true
abbrev qdvx_22 (z : Nat) : Ch := bk (z + 1) #[i6 0, i6 0] 34
abbrev qdvx_23 (z : Nat) (c : TConfig) : Ch := bk (z + 2) (TConfig.arr c) 26
abbrev qdvx_24 (z : Nat) (c : TConfig) : Ch := bk z (TConfig.arr c) 26
abbrev qdvx_25 (z : Nat) (ax19 : Option Addr) (B1 : List Nat) (B2 : List Nat) (B3 : List Nat) (n17 : Nat) (cp20 : Nat) : Ch := rowL z 71 1 (fun v : Value => [v]) (.slice ax19 ((ask5 (z + 2) ++ clo 47 (z + 2) B1 ++ clo 49 (z + 2) B2 ++ clo 51 (z + 2) B3 ++ [(.func (.func 51) #[] #[pt (z + 2), pt n17] : Value)]).length) cp20) (ask5 (z + 2) ++ clo 47 (z + 2) B1 ++ clo 49 (z + 2) B2 ++ clo 51 (z + 2) B3 ++ [(.func (.func 51) #[] #[pt (z + 2), pt n17] : Value)])
abbrev qdvx_26 (z : Nat) (ax12 : Option Addr) (B1 : List Nat) (B2 : List Nat) (n10 : Nat) (cp13 : Nat) : Ch := rowL z 71 1 (fun v : Value => [v]) (.slice ax12 ((ask5 (z + 2) ++ clo 47 (z + 2) B1 ++ clo 49 (z + 2) B2 ++ [(.func (.func 49) #[] #[pt (z + 2), pt n10] : Value)]).length) cp13) (ask5 (z + 2) ++ clo 47 (z + 2) B1 ++ clo 49 (z + 2) B2 ++ [(.func (.func 49) #[] #[pt (z + 2), pt n10] : Value)])
abbrev qdvx_27 (z : Nat) (ax5 : Option Addr) (B1 : List Nat) (n3 : Nat) (cp6 : Nat) : Ch := rowL z 71 1 (fun v : Value => [v]) (.slice ax5 ((ask5 (z + 2) ++ clo 47 (z + 2) B1 ++ [(.func (.func 47) #[] #[pt (z + 2), pt n3] : Value)]).length) cp6) (ask5 (z + 2) ++ clo 47 (z + 2) B1 ++ [(.func (.func 47) #[] #[pt (z + 2), pt n3] : Value)])
abbrev qdvx_28 (z : Nat) (aL3 : Option Addr) (B1 : List Nat) (B2 : List Nat) (B3 : List Nat) (cL3 : Nat) : Ch := rowL z 71 1 (fun v : Value => [v]) (.slice aL3 ((ask5 (z + 2) ++ clo 47 (z + 2) B1 ++ clo 49 (z + 2) B2 ++ clo 51 (z + 2) B3).length) cL3) (ask5 (z + 2) ++ clo 47 (z + 2) B1 ++ clo 49 (z + 2) B2 ++ clo 51 (z + 2) B3)
abbrev qdvx_29 (z : Nat) (aL2 : Option Addr) (B1 : List Nat) (B2 : List Nat) (cL2 : Nat) : Ch := rowL z 71 1 (fun v : Value => [v]) (.slice aL2 ((ask5 (z + 2) ++ clo 47 (z + 2) B1 ++ clo 49 (z + 2) B2).length) cL2) (ask5 (z + 2) ++ clo 47 (z + 2) B1 ++ clo 49 (z + 2) B2)
abbrev qdvx_30 (z : Nat) (aL1 : Option Addr) (B1 : List Nat) (cL1 : Nat) : Ch := rowL z 71 1 (fun v : Value => [v]) (.slice aL1 ((ask5 (z + 2) ++ clo 47 (z + 2) B1).length) cL1) (ask5 (z + 2) ++ clo 47 (z + 2) B1)
abbrev qdvx_31 (z : Nat) (b31 : Nat) (B1 : List Nat) (B2 : List Nat) (B3 : List Nat) (cR : Nat) : Ch := rowL z 71 1 (fun v : Value => [v]) (.slice (some ⟨b31, 0, none⟩) ((asks (z + 2) B1 B2 B3).length) cR) (asks (z + 2) B1 B2 B3)
abbrev qdvx_32 (z : Nat) (b38 : Nat) (B1 : List Nat) (B2 : List Nat) (B3 : List Nat) (cR : Nat) : Ch := rowL z 71 1 (fun v : Value => [v]) (.slice (some ⟨b38, 0, none⟩) ((asks (z + 2) B1 B2 B3).length) cR) (asks (z + 2) B1 B2 B3)
abbrev qdvx_33 (z : Nat) (b45 : Nat) (B1 : List Nat) (B2 : List Nat) (B3 : List Nat) (cR : Nat) : Ch := rowL z 71 1 (fun v : Value => [v]) (.slice (some ⟨b45, 0, none⟩) ((asks (z + 2) B1 B2 B3).length) cR) (asks (z + 2) B1 B2 B3)
abbrev qdvx_34 (z : Nat) (b52 : Nat) (B1 : List Nat) (B2 : List Nat) (B3 : List Nat) (cR : Nat) : Ch := rowL z 71 1 (fun v : Value => [v]) (.slice (some ⟨b52, 0, none⟩) ((asks (z + 2) B1 B2 B3).length) cR) (asks (z + 2) B1 B2 B3)
abbrev qdvx_35 (z : Nat) (b59 : Nat) (B1 : List Nat) (B2 : List Nat) (B3 : List Nat) (cR : Nat) : Ch := rowL z 71 1 (fun v : Value => [v]) (.slice (some ⟨b59, 0, none⟩) ((asks (z + 2) B1 B2 B3).length) cR) (asks (z + 2) B1 B2 B3)
abbrev qdvx_36 (z : Nat) (b66 : Nat) (B1 : List Nat) (B2 : List Nat) (B3 : List Nat) (cR : Nat) : Ch := rowL z 71 1 (fun v : Value => [v]) (.slice (some ⟨b66, 0, none⟩) ((asks (z + 2) B1 B2 B3).length) cR) (asks (z + 2) B1 B2 B3)
abbrev qdvx_37 (z : Nat) (b73 : Nat) (B1 : List Nat) (B2 : List Nat) (B3 : List Nat) (cR : Nat) : Ch := rowL z 71 1 (fun v : Value => [v]) (.slice (some ⟨b73, 0, none⟩) ((asks (z + 2) B1 B2 B3).length) cR) (asks (z + 2) B1 B2 B3)
abbrev qdvx_38 (z : Nat) (b80 : Nat) (B1 : List Nat) (B2 : List Nat) (B3 : List Nat) (cR : Nat) : Ch := rowL z 71 1 (fun v : Value => [v]) (.slice (some ⟨b80, 0, none⟩) ((asks (z + 2) B1 B2 B3).length) cR) (asks (z + 2) B1 B2 B3)
abbrev qdvx_39 (z : Nat) (b87 : Nat) (B1 : List Nat) (B2 : List Nat) (B3 : List Nat) (cR : Nat) : Ch := rowL z 71 1 (fun v : Value => [v]) (.slice (some ⟨b87, 0, none⟩) ((asks (z + 2) B1 B2 B3).length) cR) (asks (z + 2) B1 B2 B3)
abbrev qdvx_40 (ax19 : Option Addr) (z : Nat) (B1 : List Nat) (B2 : List Nat) (B3 : List Nat) (n17 : Nat) (cp20 : Nat) : Nat × Value := (3, .slice ax19 ((ask5 (z + 2) ++ clo 47 (z + 2) B1 ++ clo 49 (z + 2) B2 ++ clo 51 (z + 2) B3 ++ [(.func (.func 51) #[] #[pt (z + 2), pt n17] : Value)]).length) cp20)
abbrev qdvx_41 (ax12 : Option Addr) (z : Nat) (B1 : List Nat) (B2 : List Nat) (n10 : Nat) (cp13 : Nat) : Nat × Value := (3, .slice ax12 ((ask5 (z + 2) ++ clo 47 (z + 2) B1 ++ clo 49 (z + 2) B2 ++ [(.func (.func 49) #[] #[pt (z + 2), pt n10] : Value)]).length) cp13)
abbrev qdvx_42 (ax5 : Option Addr) (z : Nat) (B1 : List Nat) (n3 : Nat) (cp6 : Nat) : Nat × Value := (3, .slice ax5 ((ask5 (z + 2) ++ clo 47 (z + 2) B1 ++ [(.func (.func 47) #[] #[pt (z + 2), pt n3] : Value)]).length) cp6)
abbrev qdvx_43 (b31 : Nat) (z : Nat) (B1 : List Nat) (B2 : List Nat) (B3 : List Nat) (cR : Nat) : Nat × Value := (8, .slice (some ⟨b31, 0, none⟩) ((asks (z + 2) B1 B2 B3).length) cR)
abbrev qdvx_44 (b38 : Nat) (z : Nat) (B1 : List Nat) (B2 : List Nat) (B3 : List Nat) (cR : Nat) : Nat × Value := (8, .slice (some ⟨b38, 0, none⟩) ((asks (z + 2) B1 B2 B3).length) cR)
abbrev qdvx_45 (b45 : Nat) (z : Nat) (B1 : List Nat) (B2 : List Nat) (B3 : List Nat) (cR : Nat) : Nat × Value := (8, .slice (some ⟨b45, 0, none⟩) ((asks (z + 2) B1 B2 B3).length) cR)
abbrev qdvx_46 (b52 : Nat) (z : Nat) (B1 : List Nat) (B2 : List Nat) (B3 : List Nat) (cR : Nat) : Nat × Value := (8, .slice (some ⟨b52, 0, none⟩) ((asks (z + 2) B1 B2 B3).length) cR)
abbrev qdvx_47 (b59 : Nat) (z : Nat) (B1 : List Nat) (B2 : List Nat) (B3 : List Nat) (cR : Nat) : Nat × Value := (8, .slice (some ⟨b59, 0, none⟩) ((asks (z + 2) B1 B2 B3).length) cR)
abbrev qdvx_48 (b66 : Nat) (z : Nat) (B1 : List Nat) (B2 : List Nat) (B3 : List Nat) (cR : Nat) : Nat × Value := (8, .slice (some ⟨b66, 0, none⟩) ((asks (z + 2) B1 B2 B3).length) cR)
abbrev qdvx_49 (b73 : Nat) (z : Nat) (B1 : List Nat) (B2 : List Nat) (B3 : List Nat) (cR : Nat) : Nat × Value := (8, .slice (some ⟨b73, 0, none⟩) ((asks (z + 2) B1 B2 B3).length) cR)
abbrev qdvx_50 (b80 : Nat) (z : Nat) (B1 : List Nat) (B2 : List Nat) (B3 : List Nat) (cR : Nat) : Nat × Value := (8, .slice (some ⟨b80, 0, none⟩) ((asks (z + 2) B1 B2 B3).length) cR)
abbrev qdvx_51 (b87 : Nat) (z : Nat) (B1 : List Nat) (B2 : List Nat) (B3 : List Nat) (cR : Nat) : Nat × Value := (8, .slice (some ⟨b87, 0, none⟩) ((asks (z + 2) B1 B2 B3).length) cR)
abbrev qdvx_52 (z : Nat) (B1 : List Nat) (B2 : List Nat) (B3 : List Nat) : Nat × Value := (9, i6 (((asks (z + 2) B1 B2 B3).length : Nat) : Int))
abbrev qdvx_53 (c : TConfig) : Nat × Value := (15, i6 ((c.Partitions.xs.length : Nat) : Int))
abbrev qdvx_54 (c : TConfig) : Nat × Value := (26, i6 ((c.Channels.xs.length : Nat) : Int))
abbrev qdvx_55 (c : TConfig) : Nat × Value := (37, i6 ((c.Cores.xs.length : Nat) : Int))
abbrev qdvx_56 (z : Nat) : Nat × Value := (3, pt (z + 1))
abbrev qdvx_57 (z : Nat) : Nat × Value := (1, pt (z + 2))
abbrev qdvx_58 (k : Nat) : Nat × Value := (10, i6 ((k + 1 : Nat) : Int))
set_option maxHeartbeats 4000000 in
theorem check_calls (w : World) (hL : LaidAt w) (c : TConfig) (hc : TConfig.ok Any w c) (hS : c.Partitions.xs.length + c.Channels.xs.length + c.Cores.xs.length ≤ 15000000000000) : Calls Tryd.prog 9 #[.agg (TConfig.arr c)] w fun e w' => e = .returned (.tuple #[.int .i64 (checkF c).e, .agg #[.int .i64 (checkF c).where_.First, .int .i64 (checkF c).where_.Second]]) ∧ Keeps (fun _ => False) w w' := by
 obtain ⟨z, hz⟩ : ∃ z, z = w.heap.size := ⟨_, rfl⟩
 refine calls_G (args := [.agg (TConfig.arr c)]) 25 ⟨w, z, [(old0 w)]⟩ Tryd.func9 rfl (by kernel_rfl) (by kernel_rfl) (sat_0 hz) ?_
 have hpl := hc.Partitions.1.len; have hpc := hc.Cores.1.len; have hpch := hc.Channels.1.len
 refine g_keep [0] [(0, .agg (TConfig.arr c))] ?_
 refine q_c 7 1 [] [[o0, o0, o0], [(an 7 1)]] [Qb z, Qb z, Qb z, Qb z, Qb z, Qb z, Qb z] [(qdvx_56 z), (7, .agg (TConfig.arr c))] ⟨w, z + 2, [(old0 w), (qdvx_24 z c), (qdvx_22 z)]⟩ rfl ⟨rfl, rfl, rfl, rfl, rfl, rfl, rfl, trivial⟩ ?_
 refine l_call [] [] 28 #[.agg (TConfig.arr c)] (some 8) trivial ?_
 intro w1 hw1
 refine calls_G (args := [.agg (TConfig.arr c)]) 50 ⟨w, z + 2, [(old0 w), (qdvx_24 z c), (qdvx_22 z)]⟩ Tryd.func28 rfl (by kernel_rfl) (by kernel_rfl) hw1 ?_
 refine q_c 14 0 [] [[o0, o0], [o0, o0, o0, o0, o0, o0, o0], [o0, (a1 3), o0, o0]] [Qb (z + 2)] [(qdvx_57 z), (3, .slice (some ⟨z + 3, 0, none⟩) 5 5), (qdvx_53 c), (16, i6 0)] ⟨w, z + 4, [(old0 w), (qdvx_24 z c), (qdvx_22 z), (qdvx_23 z c), (bk (z + 3) #[.func (.func 40) #[] #[pt (z + 2)], .func (.func 43) #[] #[pt (z + 2)], .func (.func 44) #[] #[pt (z + 2)], .func (.func 45) #[] #[pt (z + 2)], .func (.func 46) #[] #[pt (z + 2)]] 71)]⟩ rfl ⟨rfl, trivial⟩ ?_
 refine g_blkrow 4 (z + 3) z 71 1 (fun v : Value => [v]) (ask5 (z + 2)) #[.func (.func 40) #[] #[pt (z + 2)], .func (.func 43) #[] #[pt (z + 2)], .func (.func 44) #[] #[pt (z + 2)], .func (.func 45) #[] #[pt (z + 2)], .func (.func 46) #[] #[pt (z + 2)]] (by omega) (?_ : G _ _ _ _ ⟨w, z + 4, [(old0 w), (qdvx_24 z c), (qdvx_22 z), (qdvx_23 z c), (rowL z 71 1 (fun v : Value => [v]) (.slice (some ⟨z + 3, 0, none⟩) 5 5) (ask5 (z + 2)))]⟩ _ _ _)
 refine g_caps0 3 ?_
 refine g_loop (fun m a w' => ∃ (n3 : Nat) (p0 : Nat) (B1 : List Nat) (aL1 : Option Addr) (cL1 : Nat), m = c.Partitions.xs.length - p0 ∧ z + 4 ≤ n3 ∧ (p0 ≤ c.Partitions.xs.length) ∧ (B1.length = p0) ∧ St 50 [(qdvx_57 z), (3, .slice aL1 ((ask5 (z + 2) ++ clo 47 (z + 2) B1).length) cL1), (qdvx_53 c), (16, i6 (p0 : Int))] [] ⟨w, n3, [(old0 w), (qdvx_24 z c), (qdvx_22 z), (qdvx_23 z c), (qdvx_30 z aL1 B1 cL1), (caps 3 B1)]⟩ a w') (c.Partitions.xs.length - 0) ?_ ?_
 · intro a w' hs; exact ⟨(z + 4), 0, ([]), (some ⟨z + 3, 0, none⟩), 5, rfl, Nat.le_refl _, Nat.zero_le _, rfl, (by (try dsimp only [qdvx_0, qdvx_1, qdvx_2, qdvx_3, qdvx_4, qdvx_5, qdvx_6, qdvx_7, qdvx_8, qdvx_9, qdvx_10, qdvx_11, qdvx_12, qdvx_13, qdvx_14, qdvx_15, qdvx_16, qdvx_17, qdvx_18, qdvx_19, qdvx_20, qdvx_21, qdvx_22, qdvx_23, qdvx_24, qdvx_25, qdvx_26, qdvx_27, qdvx_28, qdvx_29, qdvx_30, qdvx_31, qdvx_32, qdvx_33, qdvx_34, qdvx_35, qdvx_36, qdvx_37, qdvx_38, qdvx_39, qdvx_40, qdvx_41, qdvx_42, qdvx_43, qdvx_44, qdvx_45, qdvx_46, qdvx_47, qdvx_48, qdvx_49, qdvx_50, qdvx_51, qdvx_52, qdvx_53, qdvx_54, qdvx_55, qdvx_56, qdvx_57, qdvx_58] at hs ⊢); rw [show clo 47 (z + 2) [] = [] from rfl, List.append_nil]; exact hs)⟩
 · rintro m a w' ⟨n3, p0, B1, aL1, cL1, rfl, hn2, hkp0, hB1, hs⟩
   refine (?_ : G Tryd.prog 50 [(qdvx_57 z), (3, .slice aL1 ((ask5 (z + 2) ++ clo 47 (z + 2) B1).length) cL1), (qdvx_53 c), (16, i6 (p0 : Int))] [] ⟨w, n3, [(old0 w), (qdvx_24 z c), (qdvx_22 z), (qdvx_23 z c), (qdvx_30 z aL1 B1 cL1), (caps 3 B1)]⟩ _ _ _) a w' hs
   clear hs a w'
   have hxl1 : (ask5 (z + 2) ++ clo 47 (z + 2) B1).length = 5 + p0 := by simp only [List.length_append, clo_len, hB1]; rfl
   refine g_seq ?_
   by_cases h4 : ((p0 : Int) : Int) < ((c.Partitions.xs.length : Nat) : Int)
   · refine q_c 14 3 [1] [[oT], [o0, o0, (a1 6)], [o0, o0, o0]] [BT (((p0 : Int) : Int) < ((c.Partitions.xs.length : Nat) : Int)), Qb n3] [(qdvx_57 z), (qdvx_53 c), (16, i6 (p0 : Int)), (19, .slice aL1 ((ask5 (z + 2) ++ clo 47 (z + 2) B1).length) cL1), (21, .slice (some ⟨n3 + 1, 0, none⟩) 1 1)] ⟨w, n3 + 2, [(old0 w), (qdvx_24 z c), (qdvx_22 z), (qdvx_23 z c), (qdvx_30 z aL1 B1 cL1), (caps 3 B1), (bk n3 #[i6 (p0 : Int)] 3), (qdvx_2 n3 z)]⟩ rfl ⟨bt (by omega), rfl, trivial⟩ ?_
     refine l_pushB z 4 7 (ask5 (z + 2) ++ clo 47 (z + 2) B1) [(.func (.func 47) #[] #[pt (z + 2), pt n3] : Value)] (fun v : Value => [v]) 71 1 8 (.slice aL1 ((ask5 (z + 2) ++ clo 47 (z + 2) B1).length) cL1) (n3 + 1) 1 1 #[.func (.func 47) #[] #[pt (z + 2), pt n3]] 71 (0, 0) true (some 22) (by simp only [List.length_cons, List.length_nil]; omega) (by simp only [List.length_cons, List.length_nil]; omega) (show z ≤ n3 + 2 by omega) (fun ax5 cp6 n7 (hn8 : n3 + 2 ≤ n7) => ?_)
     refine q_rS 5 0 [] [[o0], [(ov (i6 ((p0 + 1 : Nat) : Int))), o0]] [Wr (((p0 : Int) : Int) + 1) (((p0 + 1 : Nat) : Int))] [(qdvx_57 z), (qdvx_53 c), (16, i6 ((p0 + 1 : Nat) : Int)), (qdvx_42 ax5 z B1 n3 cp6)] rfl ⟨wrI, trivial⟩ ?_
     refine e_caps 5 6 [0, 1, 2, 3, 4, 7] 3 B1 n3 p0 [(old0 w), (qdvx_24 z c), (qdvx_22 z), (qdvx_23 z c), (qdvx_27 z ax5 B1 n3 cp6), (qdvx_2 n3 z)] hB1 ?_
     refine e_pick [0, 1, 2, 3, 4, 6] [(old0 w), (qdvx_24 z c), (qdvx_22 z), (qdvx_23 z c), (qdvx_27 z ax5 B1 n3 cp6), (caps 3 (B1 ++ [n3]))] rfl rfl ?_
     refine e_keep [1, 3, 15, 16] [(qdvx_57 z), (qdvx_42 ax5 z B1 n3 cp6), (qdvx_53 c), (16, i6 ((p0 + 1 : Nat) : Int))] ?_
     refine e_inv (fun a w' hs => ⟨c.Partitions.xs.length - (p0 + 1), by omega, n7, (p0 + 1), (B1 ++ [n3]), ax5, cp6, rfl, by omega, by omega, (by rw [List.length_append, hB1]; rfl), (by (try dsimp only [qdvx_0, qdvx_1, qdvx_2, qdvx_3, qdvx_4, qdvx_5, qdvx_6, qdvx_7, qdvx_8, qdvx_9, qdvx_10, qdvx_11, qdvx_12, qdvx_13, qdvx_14, qdvx_15, qdvx_16, qdvx_17, qdvx_18, qdvx_19, qdvx_20, qdvx_21, qdvx_22, qdvx_23, qdvx_24, qdvx_25, qdvx_26, qdvx_27, qdvx_28, qdvx_29, qdvx_30, qdvx_31, qdvx_32, qdvx_33, qdvx_34, qdvx_35, qdvx_36, qdvx_37, qdvx_38, qdvx_39, qdvx_40, qdvx_41, qdvx_42, qdvx_43, qdvx_44, qdvx_45, qdvx_46, qdvx_47, qdvx_48, qdvx_49, qdvx_50, qdvx_51, qdvx_52, qdvx_53, qdvx_54, qdvx_55, qdvx_56, qdvx_57, qdvx_58] at hs ⊢); rw [clo_snoc, ← List.append_assoc]; exact hs)⟩)
   · refine q_cS 16 0 [0] [[oF], [o0, (a1 3), o0, o0]] [BF (((p0 : Int) : Int) < ((c.Partitions.xs.length : Nat) : Int)), Qb (z + 2)] [(qdvx_57 z), (3, .slice aL1 ((ask5 (z + 2) ++ clo 47 (z + 2) B1).length) cL1), (qdvx_54 c), (27, i6 0)] rfl ⟨bf (by omega), rfl, trivial⟩ ?_
     refine g_caps0 3 ?_
     refine g_loop (fun m a w' => ∃ (n10 : Nat) (h0 : Nat) (B2 : List Nat) (aL2 : Option Addr) (cL2 : Nat), m = c.Channels.xs.length - h0 ∧ n3 ≤ n10 ∧ (h0 ≤ c.Channels.xs.length) ∧ (B2.length = h0) ∧ St 50 [(qdvx_57 z), (3, .slice aL2 ((ask5 (z + 2) ++ clo 47 (z + 2) B1 ++ clo 49 (z + 2) B2).length) cL2), (qdvx_54 c), (27, i6 (h0 : Int))] [] ⟨w, n10, [(old0 w), (qdvx_24 z c), (qdvx_22 z), (qdvx_23 z c), (qdvx_29 z aL2 B1 B2 cL2), (caps 3 B1), (caps 3 B2)]⟩ a w') (c.Channels.xs.length - 0) ?_ ?_
     · intro a w' hs; exact ⟨n3, 0, ([]), aL1, cL1, rfl, Nat.le_refl _, Nat.zero_le _, rfl, (by (try dsimp only [qdvx_0, qdvx_1, qdvx_2, qdvx_3, qdvx_4, qdvx_5, qdvx_6, qdvx_7, qdvx_8, qdvx_9, qdvx_10, qdvx_11, qdvx_12, qdvx_13, qdvx_14, qdvx_15, qdvx_16, qdvx_17, qdvx_18, qdvx_19, qdvx_20, qdvx_21, qdvx_22, qdvx_23, qdvx_24, qdvx_25, qdvx_26, qdvx_27, qdvx_28, qdvx_29, qdvx_30, qdvx_31, qdvx_32, qdvx_33, qdvx_34, qdvx_35, qdvx_36, qdvx_37, qdvx_38, qdvx_39, qdvx_40, qdvx_41, qdvx_42, qdvx_43, qdvx_44, qdvx_45, qdvx_46, qdvx_47, qdvx_48, qdvx_49, qdvx_50, qdvx_51, qdvx_52, qdvx_53, qdvx_54, qdvx_55, qdvx_56, qdvx_57, qdvx_58] at hs ⊢); rw [show clo 49 (z + 2) [] = [] from rfl, List.append_nil]; exact hs)⟩
     · rintro m a w' ⟨n10, h0, B2, aL2, cL2, rfl, hn9, hkh0, hB2, hs⟩
       refine (?_ : G Tryd.prog 50 [(qdvx_57 z), (3, .slice aL2 ((ask5 (z + 2) ++ clo 47 (z + 2) B1 ++ clo 49 (z + 2) B2).length) cL2), (qdvx_54 c), (27, i6 (h0 : Int))] [] ⟨w, n10, [(old0 w), (qdvx_24 z c), (qdvx_22 z), (qdvx_23 z c), (qdvx_29 z aL2 B1 B2 cL2), (caps 3 B1), (caps 3 B2)]⟩ _ _ _) a w' hs
       clear hs a w'
       have hxl2 : (ask5 (z + 2) ++ clo 47 (z + 2) B1 ++ clo 49 (z + 2) B2).length = 5 + B1.length + h0 := by simp only [List.length_append, clo_len, hB2]; rfl
       refine g_seq ?_
       by_cases h11 : ((h0 : Int) : Int) < ((c.Channels.xs.length : Nat) : Int)
       · refine q_c 14 3 [1] [[oT], [o0, o0, (a1 7)], [o0, o0, o0]] [BT (((h0 : Int) : Int) < ((c.Channels.xs.length : Nat) : Int)), Qb n10] [(qdvx_57 z), (qdvx_54 c), (27, i6 (h0 : Int)), (30, .slice aL2 ((ask5 (z + 2) ++ clo 47 (z + 2) B1 ++ clo 49 (z + 2) B2).length) cL2), (32, .slice (some ⟨n10 + 1, 0, none⟩) 1 1)] ⟨w, n10 + 2, [(old0 w), (qdvx_24 z c), (qdvx_22 z), (qdvx_23 z c), (qdvx_29 z aL2 B1 B2 cL2), (caps 3 B1), (caps 3 B2), (bk n10 #[i6 (h0 : Int)] 3), (qdvx_0 n10 z)]⟩ rfl ⟨bt (by omega), rfl, trivial⟩ ?_
         refine l_pushB z 4 8 (ask5 (z + 2) ++ clo 47 (z + 2) B1 ++ clo 49 (z + 2) B2) [(.func (.func 49) #[] #[pt (z + 2), pt n10] : Value)] (fun v : Value => [v]) 71 1 8 (.slice aL2 ((ask5 (z + 2) ++ clo 47 (z + 2) B1 ++ clo 49 (z + 2) B2).length) cL2) (n10 + 1) 1 1 #[.func (.func 49) #[] #[pt (z + 2), pt n10]] 71 (0, 0) true (some 33) (by simp only [List.length_cons, List.length_nil]; omega) (by simp only [List.length_cons, List.length_nil]; omega) (show z ≤ n10 + 2 by omega) (fun ax12 cp13 n14 (hn15 : n10 + 2 ≤ n14) => ?_)
         refine q_rS 5 0 [] [[o0], [(ov (i6 ((h0 + 1 : Nat) : Int))), o0]] [Wr (((h0 : Int) : Int) + 1) (((h0 + 1 : Nat) : Int))] [(qdvx_57 z), (qdvx_54 c), (27, i6 ((h0 + 1 : Nat) : Int)), (qdvx_41 ax12 z B1 B2 n10 cp13)] rfl ⟨wrI, trivial⟩ ?_
         refine e_caps 6 7 [0, 1, 2, 3, 4, 5, 8] 3 B2 n10 h0 [(old0 w), (qdvx_24 z c), (qdvx_22 z), (qdvx_23 z c), (qdvx_26 z ax12 B1 B2 n10 cp13), (caps 3 B1), (qdvx_0 n10 z)] hB2 ?_
         refine e_pick [0, 1, 2, 3, 4, 5, 7] [(old0 w), (qdvx_24 z c), (qdvx_22 z), (qdvx_23 z c), (qdvx_26 z ax12 B1 B2 n10 cp13), (caps 3 B1), (caps 3 (B2 ++ [n10]))] rfl rfl ?_
         refine e_keep [1, 3, 26, 27] [(qdvx_57 z), (qdvx_41 ax12 z B1 B2 n10 cp13), (qdvx_54 c), (27, i6 ((h0 + 1 : Nat) : Int))] ?_
         refine e_inv (fun a w' hs => ⟨c.Channels.xs.length - (h0 + 1), by omega, n14, (h0 + 1), (B2 ++ [n10]), ax12, cp13, rfl, by omega, by omega, (by rw [List.length_append, hB2]; rfl), (by (try dsimp only [qdvx_0, qdvx_1, qdvx_2, qdvx_3, qdvx_4, qdvx_5, qdvx_6, qdvx_7, qdvx_8, qdvx_9, qdvx_10, qdvx_11, qdvx_12, qdvx_13, qdvx_14, qdvx_15, qdvx_16, qdvx_17, qdvx_18, qdvx_19, qdvx_20, qdvx_21, qdvx_22, qdvx_23, qdvx_24, qdvx_25, qdvx_26, qdvx_27, qdvx_28, qdvx_29, qdvx_30, qdvx_31, qdvx_32, qdvx_33, qdvx_34, qdvx_35, qdvx_36, qdvx_37, qdvx_38, qdvx_39, qdvx_40, qdvx_41, qdvx_42, qdvx_43, qdvx_44, qdvx_45, qdvx_46, qdvx_47, qdvx_48, qdvx_49, qdvx_50, qdvx_51, qdvx_52, qdvx_53, qdvx_54, qdvx_55, qdvx_56, qdvx_57, qdvx_58] at hs ⊢); rw [clo_snoc, ← List.append_assoc]; exact hs)⟩)
       · refine q_cS 16 0 [0] [[oF], [o0, (a1 3), o0, o0]] [BF (((h0 : Int) : Int) < ((c.Channels.xs.length : Nat) : Int)), Qb (z + 2)] [(qdvx_57 z), (3, .slice aL2 ((ask5 (z + 2) ++ clo 47 (z + 2) B1 ++ clo 49 (z + 2) B2).length) cL2), (qdvx_55 c), (38, i6 0)] rfl ⟨bf (by omega), rfl, trivial⟩ ?_
         refine g_caps0 3 ?_
         refine g_loop (fun m a w' => ∃ (n17 : Nat) (k0 : Nat) (B3 : List Nat) (aL3 : Option Addr) (cL3 : Nat), m = c.Cores.xs.length - k0 ∧ n10 ≤ n17 ∧ (k0 ≤ c.Cores.xs.length) ∧ (B3.length = k0) ∧ St 50 [(qdvx_57 z), (3, .slice aL3 ((ask5 (z + 2) ++ clo 47 (z + 2) B1 ++ clo 49 (z + 2) B2 ++ clo 51 (z + 2) B3).length) cL3), (qdvx_55 c), (38, i6 (k0 : Int))] [] ⟨w, n17, [(old0 w), (qdvx_24 z c), (qdvx_22 z), (qdvx_23 z c), (qdvx_28 z aL3 B1 B2 B3 cL3), (caps 3 B1), (caps 3 B2), (caps 3 B3)]⟩ a w') (c.Cores.xs.length - 0) ?_ ?_
         · intro a w' hs; exact ⟨n10, 0, ([]), aL2, cL2, rfl, Nat.le_refl _, Nat.zero_le _, rfl, (by (try dsimp only [qdvx_0, qdvx_1, qdvx_2, qdvx_3, qdvx_4, qdvx_5, qdvx_6, qdvx_7, qdvx_8, qdvx_9, qdvx_10, qdvx_11, qdvx_12, qdvx_13, qdvx_14, qdvx_15, qdvx_16, qdvx_17, qdvx_18, qdvx_19, qdvx_20, qdvx_21, qdvx_22, qdvx_23, qdvx_24, qdvx_25, qdvx_26, qdvx_27, qdvx_28, qdvx_29, qdvx_30, qdvx_31, qdvx_32, qdvx_33, qdvx_34, qdvx_35, qdvx_36, qdvx_37, qdvx_38, qdvx_39, qdvx_40, qdvx_41, qdvx_42, qdvx_43, qdvx_44, qdvx_45, qdvx_46, qdvx_47, qdvx_48, qdvx_49, qdvx_50, qdvx_51, qdvx_52, qdvx_53, qdvx_54, qdvx_55, qdvx_56, qdvx_57, qdvx_58] at hs ⊢); rw [show clo 51 (z + 2) [] = [] from rfl, List.append_nil]; exact hs)⟩
         · rintro m a w' ⟨n17, k0, B3, aL3, cL3, rfl, hn16, hkk0, hB3, hs⟩
           refine (?_ : G Tryd.prog 50 [(qdvx_57 z), (3, .slice aL3 ((ask5 (z + 2) ++ clo 47 (z + 2) B1 ++ clo 49 (z + 2) B2 ++ clo 51 (z + 2) B3).length) cL3), (qdvx_55 c), (38, i6 (k0 : Int))] [] ⟨w, n17, [(old0 w), (qdvx_24 z c), (qdvx_22 z), (qdvx_23 z c), (qdvx_28 z aL3 B1 B2 B3 cL3), (caps 3 B1), (caps 3 B2), (caps 3 B3)]⟩ _ _ _) a w' hs
           clear hs a w'
           have hxl3 : (ask5 (z + 2) ++ clo 47 (z + 2) B1 ++ clo 49 (z + 2) B2 ++ clo 51 (z + 2) B3).length = 5 + B1.length + B2.length + k0 := by simp only [List.length_append, clo_len, hB3]; rfl
           refine g_seq ?_
           by_cases h18 : ((k0 : Int) : Int) < ((c.Cores.xs.length : Nat) : Int)
           · refine q_c 14 3 [1] [[oT], [o0, o0, (a1 8)], [o0, o0, o0]] [BT (((k0 : Int) : Int) < ((c.Cores.xs.length : Nat) : Int)), Qb n17] [(qdvx_57 z), (qdvx_55 c), (38, i6 (k0 : Int)), (41, .slice aL3 ((ask5 (z + 2) ++ clo 47 (z + 2) B1 ++ clo 49 (z + 2) B2 ++ clo 51 (z + 2) B3).length) cL3), (43, .slice (some ⟨n17 + 1, 0, none⟩) 1 1)] ⟨w, n17 + 2, [(old0 w), (qdvx_24 z c), (qdvx_22 z), (qdvx_23 z c), (qdvx_28 z aL3 B1 B2 B3 cL3), (caps 3 B1), (caps 3 B2), (caps 3 B3), (bk n17 #[i6 (k0 : Int)] 3), (qdvx_1 n17 z)]⟩ rfl ⟨bt (by omega), rfl, trivial⟩ ?_
             refine l_pushB z 4 9 (ask5 (z + 2) ++ clo 47 (z + 2) B1 ++ clo 49 (z + 2) B2 ++ clo 51 (z + 2) B3) [(.func (.func 51) #[] #[pt (z + 2), pt n17] : Value)] (fun v : Value => [v]) 71 1 8 (.slice aL3 ((ask5 (z + 2) ++ clo 47 (z + 2) B1 ++ clo 49 (z + 2) B2 ++ clo 51 (z + 2) B3).length) cL3) (n17 + 1) 1 1 #[.func (.func 51) #[] #[pt (z + 2), pt n17]] 71 (0, 0) true (some 44) (by simp only [List.length_cons, List.length_nil]; omega) (by simp only [List.length_cons, List.length_nil]; omega) (show z ≤ n17 + 2 by omega) (fun ax19 cp20 n21 (hn22 : n17 + 2 ≤ n21) => ?_)
             refine q_rS 5 0 [] [[o0], [(ov (i6 ((k0 + 1 : Nat) : Int))), o0]] [Wr (((k0 : Int) : Int) + 1) (((k0 + 1 : Nat) : Int))] [(qdvx_57 z), (qdvx_55 c), (38, i6 ((k0 + 1 : Nat) : Int)), (qdvx_40 ax19 z B1 B2 B3 n17 cp20)] rfl ⟨wrI, trivial⟩ ?_
             refine e_caps 7 8 [0, 1, 2, 3, 4, 5, 6, 9] 3 B3 n17 k0 [(old0 w), (qdvx_24 z c), (qdvx_22 z), (qdvx_23 z c), (qdvx_25 z ax19 B1 B2 B3 n17 cp20), (caps 3 B1), (caps 3 B2), (qdvx_1 n17 z)] hB3 ?_
             refine e_pick [0, 1, 2, 3, 4, 5, 6, 8] [(old0 w), (qdvx_24 z c), (qdvx_22 z), (qdvx_23 z c), (qdvx_25 z ax19 B1 B2 B3 n17 cp20), (caps 3 B1), (caps 3 B2), (caps 3 (B3 ++ [n17]))] rfl rfl ?_
             refine e_keep [1, 3, 37, 38] [(qdvx_57 z), (qdvx_40 ax19 z B1 B2 B3 n17 cp20), (qdvx_55 c), (38, i6 ((k0 + 1 : Nat) : Int))] ?_
             refine e_inv (fun a w' hs => ⟨c.Cores.xs.length - (k0 + 1), by omega, n21, (k0 + 1), (B3 ++ [n17]), ax19, cp20, rfl, by omega, by omega, (by rw [List.length_append, hB3]; rfl), (by (try dsimp only [qdvx_0, qdvx_1, qdvx_2, qdvx_3, qdvx_4, qdvx_5, qdvx_6, qdvx_7, qdvx_8, qdvx_9, qdvx_10, qdvx_11, qdvx_12, qdvx_13, qdvx_14, qdvx_15, qdvx_16, qdvx_17, qdvx_18, qdvx_19, qdvx_20, qdvx_21, qdvx_22, qdvx_23, qdvx_24, qdvx_25, qdvx_26, qdvx_27, qdvx_28, qdvx_29, qdvx_30, qdvx_31, qdvx_32, qdvx_33, qdvx_34, qdvx_35, qdvx_36, qdvx_37, qdvx_38, qdvx_39, qdvx_40, qdvx_41, qdvx_42, qdvx_43, qdvx_44, qdvx_45, qdvx_46, qdvx_47, qdvx_48, qdvx_49, qdvx_50, qdvx_51, qdvx_52, qdvx_53, qdvx_54, qdvx_55, qdvx_56, qdvx_57, qdvx_58] at hs ⊢); rw [clo_snoc, ← List.append_assoc]; exact hs)⟩)
           · refine q_c 12 3 [0] [[oF], [o0, o0, o0]] [BF (((k0 : Int) : Int) < ((c.Cores.xs.length : Nat) : Int))] [(46, .slice aL3 ((ask5 (z + 2) ++ clo 47 (z + 2) B1 ++ clo 49 (z + 2) B2 ++ clo 51 (z + 2) B3).length) cL3), (48, .slice (some ⟨n17, 0, none⟩) 1 1)] ⟨w, n17 + 1, [(old0 w), (qdvx_24 z c), (qdvx_22 z), (qdvx_23 z c), (qdvx_28 z aL3 B1 B2 B3 cL3), (caps 3 B1), (caps 3 B2), (caps 3 B3), (qdvx_12 n17 z)]⟩ rfl ⟨bf (by omega), trivial⟩ ?_
             refine l_pushB z 4 8 (ask5 (z + 2) ++ clo 47 (z + 2) B1 ++ clo 49 (z + 2) B2 ++ clo 51 (z + 2) B3) [(.func (.func 53) #[] #[pt (z + 2)] : Value)] (fun v : Value => [v]) 71 1 8 (.slice aL3 ((ask5 (z + 2) ++ clo 47 (z + 2) B1 ++ clo 49 (z + 2) B2 ++ clo 51 (z + 2) B3).length) cL3) n17 1 1 #[.func (.func 53) #[] #[pt (z + 2)]] 71 (0, 0) true (some 49) (by simp only [List.length_cons, List.length_nil]; omega) (by simp only [List.length_cons, List.length_nil]; omega) (show z ≤ n17 + 1 by omega) (fun ax23 cp24 n25 (hn26 : n17 + 1 ≤ n25) => ?_)
             refine q_rS 3 0 [] [[o0]] [] [(2, .slice ax23 ((ask5 (z + 2) ++ clo 47 (z + 2) B1 ++ clo 49 (z + 2) B2 ++ clo 51 (z + 2) B3 ++ [(.func (.func 53) #[] #[pt (z + 2)] : Value)]).length) cp24)] rfl trivial ?_
             refine e_ret [] [] (.slice ax23 ((ask5 (z + 2) ++ clo 47 (z + 2) B1 ++ clo 49 (z + 2) B2 ++ clo 51 (z + 2) B3 ++ [(.func (.func 53) #[] #[pt (z + 2)] : Value)]).length) cp24) trivial ?_
             intro w27 hw27
             refine ⟨_, _, rfl, hw27, ?_⟩
             refine q_rS 3 0 [] [[o0, o0]] [] [(qdvx_56 z), (8, .slice ax23 ((ask5 (z + 2) ++ clo 47 (z + 2) B1 ++ clo 49 (z + 2) B2 ++ clo 51 (z + 2) B3 ++ [(.func (.func 53) #[] #[pt (z + 2)] : Value)]).length) cp24), (9, i6 (((ask5 (z + 2) ++ clo 47 (z + 2) B1 ++ clo 49 (z + 2) B2 ++ clo 51 (z + 2) B3 ++ [(.func (.func 53) #[] #[pt (z + 2)] : Value)]).length : Nat) : Int)), (10, i6 0)] rfl trivial ?_
             refine g_loop (fun m a w' => ∃ (n29 : Nat) (k : Nat) (aR : Option Addr) (cR : Nat), m = (asks (z + 2) B1 B2 B3).length - k ∧ n25 ≤ n29 ∧ (k ≤ (asks (z + 2) B1 B2 B3).length) ∧ (∀ i, i < k → gd (answers c) i = fineF) ∧ St 25 [(qdvx_56 z), (8, .slice aR ((asks (z + 2) B1 B2 B3).length) cR), (qdvx_52 z B1 B2 B3), (10, i6 (k : Int))] [] ⟨w, n29, [(old0 w), (qdvx_24 z c), (qdvx_22 z), (qdvx_23 z c), (rowL z 71 1 (fun v : Value => [v]) (.slice aR ((asks (z + 2) B1 B2 B3).length) cR) (asks (z + 2) B1 B2 B3)), (caps 3 B1), (caps 3 B2), (caps 3 B3), (qdvx_12 n17 z)]⟩ a w') ((asks (z + 2) B1 B2 B3).length - 0) ?_ ?_
             · intro a w' hs; exact ⟨n25, 0, ax23, cp24, rfl, Nat.le_refl _, Nat.zero_le _, fun i hi => absurd hi (Nat.not_lt_zero i), hs⟩
             · rintro m a w' ⟨n29, k, aR, cR, rfl, hn28, hkk, hf, hs⟩
               refine (?_ : G Tryd.prog 25 [(qdvx_56 z), (8, .slice aR ((asks (z + 2) B1 B2 B3).length) cR), (qdvx_52 z B1 B2 B3), (10, i6 (k : Int))] [] ⟨w, n29, [(old0 w), (qdvx_24 z c), (qdvx_22 z), (qdvx_23 z c), (rowL z 71 1 (fun v : Value => [v]) (.slice aR ((asks (z + 2) B1 B2 B3).length) cR) (asks (z + 2) B1 B2 B3)), (caps 3 B1), (caps 3 B2), (caps 3 B3), (qdvx_12 n17 z)]⟩ _ _ _) a w' hs
               clear hs a w'
               have hB1 : B1.length = c.Partitions.xs.length := by omega
               have hB2 : B2.length = c.Channels.xs.length := by omega
               have hB3 : B3.length = c.Cores.xs.length := by omega
               have htot : (asks (z + 2) B1 B2 B3).length = _ := asks_len
               refine g_seq ?_
               by_cases h30 : ((k : Int) : Int) < (((asks (z + 2) B1 B2 B3).length : Nat) : Int)
               · refine q_cS 10 0 [1] [[oT]] [BT (((k : Int) : Int) < (((asks (z + 2) B1 B2 B3).length : Nat) : Int))] [(qdvx_56 z), (8, .slice aR ((asks (z + 2) B1 B2 B3).length) cR), (qdvx_52 z B1 B2 B3), (10, i6 (k : Int)), (11, .bool true)] rfl ⟨bt (by omega), trivial⟩ ?_
                 rcases kinds (c := c) (bc := z + 2) hB1 hB2 hB3 (k := k) (by omega) with ⟨hk0, hv, ha⟩ | ⟨hk0, hv, ha⟩ | ⟨hk0, hv, ha⟩ | ⟨hk0, hv, ha⟩ | ⟨hk0, hv, ha⟩ | ⟨p, b, hk0, hp, hb, hv, ha⟩ | ⟨p, b, hk0, hp, hb, hv, ha⟩ | ⟨p, b, hk0, hp, hb, hv, ha⟩ | ⟨hk0, hv, ha⟩
                 · refine g_rowat (base := z) (e := 71) (sz := 1) (cells := (fun v : Value => [v])) (a := aR) (n := ((asks (z + 2) B1 B2 B3).length)) (cap := cR) (xs := (asks (z + 2) B1 B2 B3)) 4 (by omega) (fun b31 hg32 hb33 => ?_)
                   subst hg32
                   refine q_cS 5 1 [] [[(oi k), (oa [.via 4 (.func (.func 40) #[] #[pt (z + 2)])]), o0], [o0]] [((k : Int) : Int) = ((k : Nat) : Int), k < (asks (z + 2) B1 B2 B3).length, (none : Option Nat) = none, ∀ w', Ch.holds (qdvx_31 z b31 B1 B2 B3 cR) w' → w'.cell? ⟨b31, 0 + k, none⟩ = some (.func (.func 40) #[] #[pt (z + 2)])] [(qdvx_56 z), (qdvx_43 b31 z B1 B2 B3 cR), (qdvx_52 z B1 B2 B3), (10, i6 (k : Int)), (14, .func (.func 40) #[] #[pt (z + 2)])] rfl ⟨rfl, (by omega), rfl, rowL_cell (sz := 1) (j := k) (k := 0) (fun _ => rfl) (by omega) (congrArg some hv), trivial⟩ ?_
                   refine l_call [] [] 40 #[pt (z + 2)] (some 15) trivial ?_
                   intro w34 hw34
                   refine (q1_calls w34 (hL.ext (hw34.ext rfl)) c (hc.ext (hw34.ext rfl) (fun _ h => h)) (z + 2) (blk_cells hw34 (i := 3))).mono ?_
                   rintro e w35 ⟨rfl, hkw35⟩
                   have hnw35 : n29 ≤ w35.heap.size := size_of hw34 hkw35
                   refine ⟨_, _, rfl, hw34.keeps hkw35, ?_⟩
                   refine q_r 3 0 [] [[o0, (an 3 9)]] [Qb w35.heap.size, Qb w35.heap.size, Qb w35.heap.size] [(qdvx_56 z), (qdvx_43 b31 z B1 B2 B3 cR), (qdvx_52 z B1 B2 B3), (10, i6 (k : Int)), (6, pt w35.heap.size)] ⟨w, w35.heap.size + 1, [(old0 w), (qdvx_24 z c), (qdvx_22 z), (qdvx_23 z c), (qdvx_31 z b31 B1 B2 B3 cR), (caps 3 B1), (caps 3 B2), (caps 3 B3), (qdvx_12 n17 z), (qdvx_16 w35 c)]⟩ rfl ⟨rfl, rfl, rfl, trivial⟩ ?_
                   by_cases h36 : (((whole1 c).e : Int) == (0 : Int) && ((((whole1 c).where_.First : Int) == (0 : Int) && (((whole1 c).where_.Second : Int) == (0 : Int) && true)) && true)) = true
                   · refine q_cS 9 0 [0] [[(an 3 9), (oa [.via 0 (i6 0), .via 0 (i6 0), .via 0 (i6 0)]), ⟨.seq true, none⟩], [(ov (i6 ((k + 1 : Nat) : Int))), o0]] [Qb w35.heap.size, Qb w35.heap.size, Qb w35.heap.size, Old w 0 0 (i6 0), Old w 0 1 (i6 0), Old w 0 2 (i6 0), (((whole1 c).e : Int) == (0 : Int) && ((((whole1 c).where_.First : Int) == (0 : Int) && (((whole1 c).where_.Second : Int) == (0 : Int) && true)) && true)) = true, Wr (((k : Int) : Int) + 1) (((k + 1 : Nat) : Int))] [(qdvx_56 z), (qdvx_43 b31 z B1 B2 B3 cR), (qdvx_52 z B1 B2 B3), (qdvx_58 k)] rfl ⟨rfl, rfl, rfl, old_cell' (hL.2 0 _ rfl), old_cell' (hL.2 1 _ rfl), old_cell' (hL.2 2 _ rfl), h36, wrI, trivial⟩ ?_
                     refine e_pick [0, 1, 2, 3, 4, 5, 6, 7, 8] [(old0 w), (qdvx_24 z c), (qdvx_22 z), (qdvx_23 z c), (qdvx_31 z b31 B1 B2 B3 cR), (caps 3 B1), (caps 3 B2), (caps 3 B3), (qdvx_12 n17 z)] rfl rfl ?_
                     refine e_keep [3, 8, 9, 10] [(qdvx_56 z), (qdvx_43 b31 z B1 B2 B3 cR), (qdvx_52 z B1 B2 B3), (qdvx_58 k)] ?_
                     refine e_inv (fun a w' hs => ⟨(asks (z + 2) B1 B2 B3).length - (k + 1), by omega, (w35.heap.size + 1), (k + 1), (some ⟨b31, 0, none⟩), cR, rfl, by omega, by omega, upto_ hf (by rw [ha]; exact fine_eq.1 h36), hs⟩)
                   · refine q_cS 5 0 [1] [[(an 3 9), (oa [.via 0 (i6 0), .via 0 (i6 0), .via 0 (i6 0)]), ⟨.seq false, none⟩]] [Qb w35.heap.size, Qb w35.heap.size, Qb w35.heap.size, Old w 0 0 (i6 0), Old w 0 1 (i6 0), Old w 0 2 (i6 0), (((whole1 c).e : Int) == (0 : Int) && ((((whole1 c).where_.First : Int) == (0 : Int) && (((whole1 c).where_.Second : Int) == (0 : Int) && true)) && true)) = false] [(qdvx_56 z), (qdvx_43 b31 z B1 B2 B3 cR), (qdvx_52 z B1 B2 B3), (10, i6 (k : Int)), (6, pt w35.heap.size), (18, .bool true)] rfl ⟨rfl, rfl, rfl, old_cell' (hL.2 0 _ rfl), old_cell' (hL.2 1 _ rfl), old_cell' (hL.2 2 _ rfl), (Bool.eq_false_iff.2 h36), trivial⟩ ?_
                     refine g_draw 5 [0, 1, 2, 3, 4, 5, 6, 7, 8, 9] [(old0 w), (qdvx_24 z c), (qdvx_22 z), (qdvx_23 z c), (qdvx_31 z b31 B1 B2 B3 cR), (caps 3 B1), (caps 3 B2), (caps 3 B3), (qdvx_12 n17 z), (qdvx_16 w35 c)] rfl rfl ?_
                     refine w_take [(0, o0), (1, (a1 9)), (2, o0), (3, (an 2 9)), (4, o0)] [3, 22, 2] [Qb w35.heap.size, Qb w35.heap.size, Qb w35.heap.size] [true, true, true, true, true, false] [(qdvx_56 z), (22, .agg #[i6 ((whole1 c).where_.First), i6 ((whole1 c).where_.Second)]), (2, i6 ((whole1 c).e))] rfl (by as_aux_lemma => kernel_rfl) (by as_aux_lemma => kernel_rfl) ⟨rfl, rfl, rfl, trivial⟩ ?_
                     refine w_one 5 (by as_aux_lemma => kernel_rfl) rfl ?_
                     refine wo_eff (an 2 2) [3, 2] [Qb (z + 1), Qb (z + 1)] [(qdvx_56 z), (2, i6 ((whole1 c).e))] ⟨w, w35.heap.size + 1, [(old0 w), (qdvx_24 z c), (qdvx_6 z c), (qdvx_23 z c), (qdvx_31 z b31 B1 B2 B3 cR), (caps 3 B1), (caps 3 B2), (caps 3 B3), (qdvx_12 n17 z), (qdvx_16 w35 c)]⟩ [] (by as_aux_lemma => kernel_rfl) rfl ⟨rfl, rfl, trivial⟩ (.inl rfl) ?_
                     refine w_free 6 [0, 1, 2, 3, 4, 5, 6, 7, 8, 9] [(old0 w), (qdvx_24 z c), (qdvx_6 z c), (qdvx_23 z c), (qdvx_31 z b31 B1 B2 B3 cR), (caps 3 B1), (caps 3 B2), (caps 3 B3), (qdvx_12 n17 z), (qdvx_16 w35 c)] rfl rfl ?_
                     refine w_done (by as_aux_lemma => kernel_rfl) ?_
                     refine e_keep [3, 2] [(qdvx_56 z), (2, i6 ((whole1 c).e))] ?_
                     refine e_seq <| g_ret <| e_ret [.at 2, .at 2] [Qb (z + 1), Qb (z + 1)] (.tuple #[i6 ((whole1 c).e), .agg #[i6 ((whole1 c).where_.First), i6 ((whole1 c).where_.Second)]]) ⟨rfl, rfl, trivial⟩ ?_
                     intro w37 hw37
                     exact ⟨congrArg (fun t : Tfound => Ending.returned (.tuple #[i6 t.e, .agg #[i6 t.where_.First, i6 t.where_.Second]])) ((fst_at (xs := answers c) (k := k) (by rw [answers_len]; omega) hf (by rw [ha]; exact fun x => h36 (fine_eq.2 x))).trans ha).symm, back0 hw37⟩
                 · refine g_rowat (base := z) (e := 71) (sz := 1) (cells := (fun v : Value => [v])) (a := aR) (n := ((asks (z + 2) B1 B2 B3).length)) (cap := cR) (xs := (asks (z + 2) B1 B2 B3)) 4 (by omega) (fun b38 hg39 hb40 => ?_)
                   subst hg39
                   refine q_cS 5 1 [] [[(oi k), (oa [.via 4 (.func (.func 43) #[] #[pt (z + 2)])]), o0], [o0]] [((k : Int) : Int) = ((k : Nat) : Int), k < (asks (z + 2) B1 B2 B3).length, (none : Option Nat) = none, ∀ w', Ch.holds (qdvx_32 z b38 B1 B2 B3 cR) w' → w'.cell? ⟨b38, 0 + k, none⟩ = some (.func (.func 43) #[] #[pt (z + 2)])] [(qdvx_56 z), (qdvx_44 b38 z B1 B2 B3 cR), (qdvx_52 z B1 B2 B3), (10, i6 (k : Int)), (14, .func (.func 43) #[] #[pt (z + 2)])] rfl ⟨rfl, (by omega), rfl, rowL_cell (sz := 1) (j := k) (k := 0) (fun _ => rfl) (by omega) (congrArg some hv), trivial⟩ ?_
                   refine l_call [] [] 43 #[pt (z + 2)] (some 15) trivial ?_
                   intro w41 hw41
                   refine (q2_calls w41 (hL.ext (hw41.ext rfl)) c (hc.ext (hw41.ext rfl) (fun _ h => h)) (z + 2) (blk_cells hw41 (i := 3))).mono ?_
                   rintro e w42 ⟨rfl, hkw42⟩
                   have hnw42 : n29 ≤ w42.heap.size := size_of hw41 hkw42
                   refine ⟨_, _, rfl, hw41.keeps hkw42, ?_⟩
                   refine q_r 3 0 [] [[o0, (an 3 9)]] [Qb w42.heap.size, Qb w42.heap.size, Qb w42.heap.size] [(qdvx_56 z), (qdvx_44 b38 z B1 B2 B3 cR), (qdvx_52 z B1 B2 B3), (10, i6 (k : Int)), (6, pt w42.heap.size)] ⟨w, w42.heap.size + 1, [(old0 w), (qdvx_24 z c), (qdvx_22 z), (qdvx_23 z c), (qdvx_32 z b38 B1 B2 B3 cR), (caps 3 B1), (caps 3 B2), (caps 3 B3), (qdvx_12 n17 z), (qdvx_17 w42 c)]⟩ rfl ⟨rfl, rfl, rfl, trivial⟩ ?_
                   by_cases h43 : (((whole2 c).e : Int) == (0 : Int) && ((((whole2 c).where_.First : Int) == (0 : Int) && (((whole2 c).where_.Second : Int) == (0 : Int) && true)) && true)) = true
                   · refine q_cS 9 0 [0] [[(an 3 9), (oa [.via 0 (i6 0), .via 0 (i6 0), .via 0 (i6 0)]), ⟨.seq true, none⟩], [(ov (i6 ((k + 1 : Nat) : Int))), o0]] [Qb w42.heap.size, Qb w42.heap.size, Qb w42.heap.size, Old w 0 0 (i6 0), Old w 0 1 (i6 0), Old w 0 2 (i6 0), (((whole2 c).e : Int) == (0 : Int) && ((((whole2 c).where_.First : Int) == (0 : Int) && (((whole2 c).where_.Second : Int) == (0 : Int) && true)) && true)) = true, Wr (((k : Int) : Int) + 1) (((k + 1 : Nat) : Int))] [(qdvx_56 z), (qdvx_44 b38 z B1 B2 B3 cR), (qdvx_52 z B1 B2 B3), (qdvx_58 k)] rfl ⟨rfl, rfl, rfl, old_cell' (hL.2 0 _ rfl), old_cell' (hL.2 1 _ rfl), old_cell' (hL.2 2 _ rfl), h43, wrI, trivial⟩ ?_
                     refine e_pick [0, 1, 2, 3, 4, 5, 6, 7, 8] [(old0 w), (qdvx_24 z c), (qdvx_22 z), (qdvx_23 z c), (qdvx_32 z b38 B1 B2 B3 cR), (caps 3 B1), (caps 3 B2), (caps 3 B3), (qdvx_12 n17 z)] rfl rfl ?_
                     refine e_keep [3, 8, 9, 10] [(qdvx_56 z), (qdvx_44 b38 z B1 B2 B3 cR), (qdvx_52 z B1 B2 B3), (qdvx_58 k)] ?_
                     refine e_inv (fun a w' hs => ⟨(asks (z + 2) B1 B2 B3).length - (k + 1), by omega, (w42.heap.size + 1), (k + 1), (some ⟨b38, 0, none⟩), cR, rfl, by omega, by omega, upto_ hf (by rw [ha]; exact fine_eq.1 h43), hs⟩)
                   · refine q_cS 5 0 [1] [[(an 3 9), (oa [.via 0 (i6 0), .via 0 (i6 0), .via 0 (i6 0)]), ⟨.seq false, none⟩]] [Qb w42.heap.size, Qb w42.heap.size, Qb w42.heap.size, Old w 0 0 (i6 0), Old w 0 1 (i6 0), Old w 0 2 (i6 0), (((whole2 c).e : Int) == (0 : Int) && ((((whole2 c).where_.First : Int) == (0 : Int) && (((whole2 c).where_.Second : Int) == (0 : Int) && true)) && true)) = false] [(qdvx_56 z), (qdvx_44 b38 z B1 B2 B3 cR), (qdvx_52 z B1 B2 B3), (10, i6 (k : Int)), (6, pt w42.heap.size), (18, .bool true)] rfl ⟨rfl, rfl, rfl, old_cell' (hL.2 0 _ rfl), old_cell' (hL.2 1 _ rfl), old_cell' (hL.2 2 _ rfl), (Bool.eq_false_iff.2 h43), trivial⟩ ?_
                     refine g_draw 5 [0, 1, 2, 3, 4, 5, 6, 7, 8, 9] [(old0 w), (qdvx_24 z c), (qdvx_22 z), (qdvx_23 z c), (qdvx_32 z b38 B1 B2 B3 cR), (caps 3 B1), (caps 3 B2), (caps 3 B3), (qdvx_12 n17 z), (qdvx_17 w42 c)] rfl rfl ?_
                     refine w_take [(0, o0), (1, (a1 9)), (2, o0), (3, (an 2 9)), (4, o0)] [3, 22, 2] [Qb w42.heap.size, Qb w42.heap.size, Qb w42.heap.size] [true, true, true, true, true, false] [(qdvx_56 z), (22, .agg #[i6 ((whole2 c).where_.First), i6 ((whole2 c).where_.Second)]), (2, i6 ((whole2 c).e))] rfl (by as_aux_lemma => kernel_rfl) (by as_aux_lemma => kernel_rfl) ⟨rfl, rfl, rfl, trivial⟩ ?_
                     refine w_one 5 (by as_aux_lemma => kernel_rfl) rfl ?_
                     refine wo_eff (an 2 2) [3, 2] [Qb (z + 1), Qb (z + 1)] [(qdvx_56 z), (2, i6 ((whole2 c).e))] ⟨w, w42.heap.size + 1, [(old0 w), (qdvx_24 z c), (qdvx_7 z c), (qdvx_23 z c), (qdvx_32 z b38 B1 B2 B3 cR), (caps 3 B1), (caps 3 B2), (caps 3 B3), (qdvx_12 n17 z), (qdvx_17 w42 c)]⟩ [] (by as_aux_lemma => kernel_rfl) rfl ⟨rfl, rfl, trivial⟩ (.inl rfl) ?_
                     refine w_free 6 [0, 1, 2, 3, 4, 5, 6, 7, 8, 9] [(old0 w), (qdvx_24 z c), (qdvx_7 z c), (qdvx_23 z c), (qdvx_32 z b38 B1 B2 B3 cR), (caps 3 B1), (caps 3 B2), (caps 3 B3), (qdvx_12 n17 z), (qdvx_17 w42 c)] rfl rfl ?_
                     refine w_done (by as_aux_lemma => kernel_rfl) ?_
                     refine e_keep [3, 2] [(qdvx_56 z), (2, i6 ((whole2 c).e))] ?_
                     refine e_seq <| g_ret <| e_ret [.at 2, .at 2] [Qb (z + 1), Qb (z + 1)] (.tuple #[i6 ((whole2 c).e), .agg #[i6 ((whole2 c).where_.First), i6 ((whole2 c).where_.Second)]]) ⟨rfl, rfl, trivial⟩ ?_
                     intro w44 hw44
                     exact ⟨congrArg (fun t : Tfound => Ending.returned (.tuple #[i6 t.e, .agg #[i6 t.where_.First, i6 t.where_.Second]])) ((fst_at (xs := answers c) (k := k) (by rw [answers_len]; omega) hf (by rw [ha]; exact fun x => h43 (fine_eq.2 x))).trans ha).symm, back0 hw44⟩
                 · refine g_rowat (base := z) (e := 71) (sz := 1) (cells := (fun v : Value => [v])) (a := aR) (n := ((asks (z + 2) B1 B2 B3).length)) (cap := cR) (xs := (asks (z + 2) B1 B2 B3)) 4 (by omega) (fun b45 hg46 hb47 => ?_)
                   subst hg46
                   refine q_cS 5 1 [] [[(oi k), (oa [.via 4 (.func (.func 44) #[] #[pt (z + 2)])]), o0], [o0]] [((k : Int) : Int) = ((k : Nat) : Int), k < (asks (z + 2) B1 B2 B3).length, (none : Option Nat) = none, ∀ w', Ch.holds (qdvx_33 z b45 B1 B2 B3 cR) w' → w'.cell? ⟨b45, 0 + k, none⟩ = some (.func (.func 44) #[] #[pt (z + 2)])] [(qdvx_56 z), (qdvx_45 b45 z B1 B2 B3 cR), (qdvx_52 z B1 B2 B3), (10, i6 (k : Int)), (14, .func (.func 44) #[] #[pt (z + 2)])] rfl ⟨rfl, (by omega), rfl, rowL_cell (sz := 1) (j := k) (k := 0) (fun _ => rfl) (by omega) (congrArg some hv), trivial⟩ ?_
                   refine l_call [] [] 44 #[pt (z + 2)] (some 15) trivial ?_
                   intro w48 hw48
                   refine (q3_calls w48 (hL.ext (hw48.ext rfl)) c (hc.ext (hw48.ext rfl) (fun _ h => h)) (z + 2) (blk_cells hw48 (i := 3))).mono ?_
                   rintro e w49 ⟨rfl, hkw49⟩
                   have hnw49 : n29 ≤ w49.heap.size := size_of hw48 hkw49
                   refine ⟨_, _, rfl, hw48.keeps hkw49, ?_⟩
                   refine q_r 3 0 [] [[o0, (an 3 9)]] [Qb w49.heap.size, Qb w49.heap.size, Qb w49.heap.size] [(qdvx_56 z), (qdvx_45 b45 z B1 B2 B3 cR), (qdvx_52 z B1 B2 B3), (10, i6 (k : Int)), (6, pt w49.heap.size)] ⟨w, w49.heap.size + 1, [(old0 w), (qdvx_24 z c), (qdvx_22 z), (qdvx_23 z c), (qdvx_33 z b45 B1 B2 B3 cR), (caps 3 B1), (caps 3 B2), (caps 3 B3), (qdvx_12 n17 z), (qdvx_18 w49 c)]⟩ rfl ⟨rfl, rfl, rfl, trivial⟩ ?_
                   by_cases h50 : (((whole3 c).e : Int) == (0 : Int) && ((((whole3 c).where_.First : Int) == (0 : Int) && (((whole3 c).where_.Second : Int) == (0 : Int) && true)) && true)) = true
                   · refine q_cS 9 0 [0] [[(an 3 9), (oa [.via 0 (i6 0), .via 0 (i6 0), .via 0 (i6 0)]), ⟨.seq true, none⟩], [(ov (i6 ((k + 1 : Nat) : Int))), o0]] [Qb w49.heap.size, Qb w49.heap.size, Qb w49.heap.size, Old w 0 0 (i6 0), Old w 0 1 (i6 0), Old w 0 2 (i6 0), (((whole3 c).e : Int) == (0 : Int) && ((((whole3 c).where_.First : Int) == (0 : Int) && (((whole3 c).where_.Second : Int) == (0 : Int) && true)) && true)) = true, Wr (((k : Int) : Int) + 1) (((k + 1 : Nat) : Int))] [(qdvx_56 z), (qdvx_45 b45 z B1 B2 B3 cR), (qdvx_52 z B1 B2 B3), (qdvx_58 k)] rfl ⟨rfl, rfl, rfl, old_cell' (hL.2 0 _ rfl), old_cell' (hL.2 1 _ rfl), old_cell' (hL.2 2 _ rfl), h50, wrI, trivial⟩ ?_
                     refine e_pick [0, 1, 2, 3, 4, 5, 6, 7, 8] [(old0 w), (qdvx_24 z c), (qdvx_22 z), (qdvx_23 z c), (qdvx_33 z b45 B1 B2 B3 cR), (caps 3 B1), (caps 3 B2), (caps 3 B3), (qdvx_12 n17 z)] rfl rfl ?_
                     refine e_keep [3, 8, 9, 10] [(qdvx_56 z), (qdvx_45 b45 z B1 B2 B3 cR), (qdvx_52 z B1 B2 B3), (qdvx_58 k)] ?_
                     refine e_inv (fun a w' hs => ⟨(asks (z + 2) B1 B2 B3).length - (k + 1), by omega, (w49.heap.size + 1), (k + 1), (some ⟨b45, 0, none⟩), cR, rfl, by omega, by omega, upto_ hf (by rw [ha]; exact fine_eq.1 h50), hs⟩)
                   · refine q_cS 5 0 [1] [[(an 3 9), (oa [.via 0 (i6 0), .via 0 (i6 0), .via 0 (i6 0)]), ⟨.seq false, none⟩]] [Qb w49.heap.size, Qb w49.heap.size, Qb w49.heap.size, Old w 0 0 (i6 0), Old w 0 1 (i6 0), Old w 0 2 (i6 0), (((whole3 c).e : Int) == (0 : Int) && ((((whole3 c).where_.First : Int) == (0 : Int) && (((whole3 c).where_.Second : Int) == (0 : Int) && true)) && true)) = false] [(qdvx_56 z), (qdvx_45 b45 z B1 B2 B3 cR), (qdvx_52 z B1 B2 B3), (10, i6 (k : Int)), (6, pt w49.heap.size), (18, .bool true)] rfl ⟨rfl, rfl, rfl, old_cell' (hL.2 0 _ rfl), old_cell' (hL.2 1 _ rfl), old_cell' (hL.2 2 _ rfl), (Bool.eq_false_iff.2 h50), trivial⟩ ?_
                     refine g_draw 5 [0, 1, 2, 3, 4, 5, 6, 7, 8, 9] [(old0 w), (qdvx_24 z c), (qdvx_22 z), (qdvx_23 z c), (qdvx_33 z b45 B1 B2 B3 cR), (caps 3 B1), (caps 3 B2), (caps 3 B3), (qdvx_12 n17 z), (qdvx_18 w49 c)] rfl rfl ?_
                     refine w_take [(0, o0), (1, (a1 9)), (2, o0), (3, (an 2 9)), (4, o0)] [3, 22, 2] [Qb w49.heap.size, Qb w49.heap.size, Qb w49.heap.size] [true, true, true, true, true, false] [(qdvx_56 z), (22, .agg #[i6 ((whole3 c).where_.First), i6 ((whole3 c).where_.Second)]), (2, i6 ((whole3 c).e))] rfl (by as_aux_lemma => kernel_rfl) (by as_aux_lemma => kernel_rfl) ⟨rfl, rfl, rfl, trivial⟩ ?_
                     refine w_one 5 (by as_aux_lemma => kernel_rfl) rfl ?_
                     refine wo_eff (an 2 2) [3, 2] [Qb (z + 1), Qb (z + 1)] [(qdvx_56 z), (2, i6 ((whole3 c).e))] ⟨w, w49.heap.size + 1, [(old0 w), (qdvx_24 z c), (qdvx_8 z c), (qdvx_23 z c), (qdvx_33 z b45 B1 B2 B3 cR), (caps 3 B1), (caps 3 B2), (caps 3 B3), (qdvx_12 n17 z), (qdvx_18 w49 c)]⟩ [] (by as_aux_lemma => kernel_rfl) rfl ⟨rfl, rfl, trivial⟩ (.inl rfl) ?_
                     refine w_free 6 [0, 1, 2, 3, 4, 5, 6, 7, 8, 9] [(old0 w), (qdvx_24 z c), (qdvx_8 z c), (qdvx_23 z c), (qdvx_33 z b45 B1 B2 B3 cR), (caps 3 B1), (caps 3 B2), (caps 3 B3), (qdvx_12 n17 z), (qdvx_18 w49 c)] rfl rfl ?_
                     refine w_done (by as_aux_lemma => kernel_rfl) ?_
                     refine e_keep [3, 2] [(qdvx_56 z), (2, i6 ((whole3 c).e))] ?_
                     refine e_seq <| g_ret <| e_ret [.at 2, .at 2] [Qb (z + 1), Qb (z + 1)] (.tuple #[i6 ((whole3 c).e), .agg #[i6 ((whole3 c).where_.First), i6 ((whole3 c).where_.Second)]]) ⟨rfl, rfl, trivial⟩ ?_
                     intro w51 hw51
                     exact ⟨congrArg (fun t : Tfound => Ending.returned (.tuple #[i6 t.e, .agg #[i6 t.where_.First, i6 t.where_.Second]])) ((fst_at (xs := answers c) (k := k) (by rw [answers_len]; omega) hf (by rw [ha]; exact fun x => h50 (fine_eq.2 x))).trans ha).symm, back0 hw51⟩
                 · refine g_rowat (base := z) (e := 71) (sz := 1) (cells := (fun v : Value => [v])) (a := aR) (n := ((asks (z + 2) B1 B2 B3).length)) (cap := cR) (xs := (asks (z + 2) B1 B2 B3)) 4 (by omega) (fun b52 hg53 hb54 => ?_)
                   subst hg53
                   refine q_cS 5 1 [] [[(oi k), (oa [.via 4 (.func (.func 45) #[] #[pt (z + 2)])]), o0], [o0]] [((k : Int) : Int) = ((k : Nat) : Int), k < (asks (z + 2) B1 B2 B3).length, (none : Option Nat) = none, ∀ w', Ch.holds (qdvx_34 z b52 B1 B2 B3 cR) w' → w'.cell? ⟨b52, 0 + k, none⟩ = some (.func (.func 45) #[] #[pt (z + 2)])] [(qdvx_56 z), (qdvx_46 b52 z B1 B2 B3 cR), (qdvx_52 z B1 B2 B3), (10, i6 (k : Int)), (14, .func (.func 45) #[] #[pt (z + 2)])] rfl ⟨rfl, (by omega), rfl, rowL_cell (sz := 1) (j := k) (k := 0) (fun _ => rfl) (by omega) (congrArg some hv), trivial⟩ ?_
                   refine l_call [] [] 45 #[pt (z + 2)] (some 15) trivial ?_
                   intro w55 hw55
                   refine (q4_calls w55 (hL.ext (hw55.ext rfl)) c (hc.ext (hw55.ext rfl) (fun _ h => h)) (z + 2) (blk_cells hw55 (i := 3))).mono ?_
                   rintro e w56 ⟨rfl, hkw56⟩
                   have hnw56 : n29 ≤ w56.heap.size := size_of hw55 hkw56
                   refine ⟨_, _, rfl, hw55.keeps hkw56, ?_⟩
                   refine q_r 3 0 [] [[o0, (an 3 9)]] [Qb w56.heap.size, Qb w56.heap.size, Qb w56.heap.size] [(qdvx_56 z), (qdvx_46 b52 z B1 B2 B3 cR), (qdvx_52 z B1 B2 B3), (10, i6 (k : Int)), (6, pt w56.heap.size)] ⟨w, w56.heap.size + 1, [(old0 w), (qdvx_24 z c), (qdvx_22 z), (qdvx_23 z c), (qdvx_34 z b52 B1 B2 B3 cR), (caps 3 B1), (caps 3 B2), (caps 3 B3), (qdvx_12 n17 z), (qdvx_19 w56 c)]⟩ rfl ⟨rfl, rfl, rfl, trivial⟩ ?_
                   by_cases h57 : (((whole4 c).e : Int) == (0 : Int) && ((((whole4 c).where_.First : Int) == (0 : Int) && (((whole4 c).where_.Second : Int) == (0 : Int) && true)) && true)) = true
                   · refine q_cS 9 0 [0] [[(an 3 9), (oa [.via 0 (i6 0), .via 0 (i6 0), .via 0 (i6 0)]), ⟨.seq true, none⟩], [(ov (i6 ((k + 1 : Nat) : Int))), o0]] [Qb w56.heap.size, Qb w56.heap.size, Qb w56.heap.size, Old w 0 0 (i6 0), Old w 0 1 (i6 0), Old w 0 2 (i6 0), (((whole4 c).e : Int) == (0 : Int) && ((((whole4 c).where_.First : Int) == (0 : Int) && (((whole4 c).where_.Second : Int) == (0 : Int) && true)) && true)) = true, Wr (((k : Int) : Int) + 1) (((k + 1 : Nat) : Int))] [(qdvx_56 z), (qdvx_46 b52 z B1 B2 B3 cR), (qdvx_52 z B1 B2 B3), (qdvx_58 k)] rfl ⟨rfl, rfl, rfl, old_cell' (hL.2 0 _ rfl), old_cell' (hL.2 1 _ rfl), old_cell' (hL.2 2 _ rfl), h57, wrI, trivial⟩ ?_
                     refine e_pick [0, 1, 2, 3, 4, 5, 6, 7, 8] [(old0 w), (qdvx_24 z c), (qdvx_22 z), (qdvx_23 z c), (qdvx_34 z b52 B1 B2 B3 cR), (caps 3 B1), (caps 3 B2), (caps 3 B3), (qdvx_12 n17 z)] rfl rfl ?_
                     refine e_keep [3, 8, 9, 10] [(qdvx_56 z), (qdvx_46 b52 z B1 B2 B3 cR), (qdvx_52 z B1 B2 B3), (qdvx_58 k)] ?_
                     refine e_inv (fun a w' hs => ⟨(asks (z + 2) B1 B2 B3).length - (k + 1), by omega, (w56.heap.size + 1), (k + 1), (some ⟨b52, 0, none⟩), cR, rfl, by omega, by omega, upto_ hf (by rw [ha]; exact fine_eq.1 h57), hs⟩)
                   · refine q_cS 5 0 [1] [[(an 3 9), (oa [.via 0 (i6 0), .via 0 (i6 0), .via 0 (i6 0)]), ⟨.seq false, none⟩]] [Qb w56.heap.size, Qb w56.heap.size, Qb w56.heap.size, Old w 0 0 (i6 0), Old w 0 1 (i6 0), Old w 0 2 (i6 0), (((whole4 c).e : Int) == (0 : Int) && ((((whole4 c).where_.First : Int) == (0 : Int) && (((whole4 c).where_.Second : Int) == (0 : Int) && true)) && true)) = false] [(qdvx_56 z), (qdvx_46 b52 z B1 B2 B3 cR), (qdvx_52 z B1 B2 B3), (10, i6 (k : Int)), (6, pt w56.heap.size), (18, .bool true)] rfl ⟨rfl, rfl, rfl, old_cell' (hL.2 0 _ rfl), old_cell' (hL.2 1 _ rfl), old_cell' (hL.2 2 _ rfl), (Bool.eq_false_iff.2 h57), trivial⟩ ?_
                     refine g_draw 5 [0, 1, 2, 3, 4, 5, 6, 7, 8, 9] [(old0 w), (qdvx_24 z c), (qdvx_22 z), (qdvx_23 z c), (qdvx_34 z b52 B1 B2 B3 cR), (caps 3 B1), (caps 3 B2), (caps 3 B3), (qdvx_12 n17 z), (qdvx_19 w56 c)] rfl rfl ?_
                     refine w_take [(0, o0), (1, (a1 9)), (2, o0), (3, (an 2 9)), (4, o0)] [3, 22, 2] [Qb w56.heap.size, Qb w56.heap.size, Qb w56.heap.size] [true, true, true, true, true, false] [(qdvx_56 z), (22, .agg #[i6 ((whole4 c).where_.First), i6 ((whole4 c).where_.Second)]), (2, i6 ((whole4 c).e))] rfl (by as_aux_lemma => kernel_rfl) (by as_aux_lemma => kernel_rfl) ⟨rfl, rfl, rfl, trivial⟩ ?_
                     refine w_one 5 (by as_aux_lemma => kernel_rfl) rfl ?_
                     refine wo_eff (an 2 2) [3, 2] [Qb (z + 1), Qb (z + 1)] [(qdvx_56 z), (2, i6 ((whole4 c).e))] ⟨w, w56.heap.size + 1, [(old0 w), (qdvx_24 z c), (qdvx_9 z c), (qdvx_23 z c), (qdvx_34 z b52 B1 B2 B3 cR), (caps 3 B1), (caps 3 B2), (caps 3 B3), (qdvx_12 n17 z), (qdvx_19 w56 c)]⟩ [] (by as_aux_lemma => kernel_rfl) rfl ⟨rfl, rfl, trivial⟩ (.inl rfl) ?_
                     refine w_free 6 [0, 1, 2, 3, 4, 5, 6, 7, 8, 9] [(old0 w), (qdvx_24 z c), (qdvx_9 z c), (qdvx_23 z c), (qdvx_34 z b52 B1 B2 B3 cR), (caps 3 B1), (caps 3 B2), (caps 3 B3), (qdvx_12 n17 z), (qdvx_19 w56 c)] rfl rfl ?_
                     refine w_done (by as_aux_lemma => kernel_rfl) ?_
                     refine e_keep [3, 2] [(qdvx_56 z), (2, i6 ((whole4 c).e))] ?_
                     refine e_seq <| g_ret <| e_ret [.at 2, .at 2] [Qb (z + 1), Qb (z + 1)] (.tuple #[i6 ((whole4 c).e), .agg #[i6 ((whole4 c).where_.First), i6 ((whole4 c).where_.Second)]]) ⟨rfl, rfl, trivial⟩ ?_
                     intro w58 hw58
                     exact ⟨congrArg (fun t : Tfound => Ending.returned (.tuple #[i6 t.e, .agg #[i6 t.where_.First, i6 t.where_.Second]])) ((fst_at (xs := answers c) (k := k) (by rw [answers_len]; omega) hf (by rw [ha]; exact fun x => h57 (fine_eq.2 x))).trans ha).symm, back0 hw58⟩
                 · refine g_rowat (base := z) (e := 71) (sz := 1) (cells := (fun v : Value => [v])) (a := aR) (n := ((asks (z + 2) B1 B2 B3).length)) (cap := cR) (xs := (asks (z + 2) B1 B2 B3)) 4 (by omega) (fun b59 hg60 hb61 => ?_)
                   subst hg60
                   refine q_cS 5 1 [] [[(oi k), (oa [.via 4 (.func (.func 46) #[] #[pt (z + 2)])]), o0], [o0]] [((k : Int) : Int) = ((k : Nat) : Int), k < (asks (z + 2) B1 B2 B3).length, (none : Option Nat) = none, ∀ w', Ch.holds (qdvx_35 z b59 B1 B2 B3 cR) w' → w'.cell? ⟨b59, 0 + k, none⟩ = some (.func (.func 46) #[] #[pt (z + 2)])] [(qdvx_56 z), (qdvx_47 b59 z B1 B2 B3 cR), (qdvx_52 z B1 B2 B3), (10, i6 (k : Int)), (14, .func (.func 46) #[] #[pt (z + 2)])] rfl ⟨rfl, (by omega), rfl, rowL_cell (sz := 1) (j := k) (k := 0) (fun _ => rfl) (by omega) (congrArg some hv), trivial⟩ ?_
                   refine l_call [] [] 46 #[pt (z + 2)] (some 15) trivial ?_
                   intro w62 hw62
                   refine (q5_calls w62 (hL.ext (hw62.ext rfl)) c (hc.ext (hw62.ext rfl) (fun _ h => h)) (z + 2) (blk_cells hw62 (i := 3))).mono ?_
                   rintro e w63 ⟨rfl, hkw63⟩
                   have hnw63 : n29 ≤ w63.heap.size := size_of hw62 hkw63
                   refine ⟨_, _, rfl, hw62.keeps hkw63, ?_⟩
                   refine q_r 3 0 [] [[o0, (an 3 9)]] [Qb w63.heap.size, Qb w63.heap.size, Qb w63.heap.size] [(qdvx_56 z), (qdvx_47 b59 z B1 B2 B3 cR), (qdvx_52 z B1 B2 B3), (10, i6 (k : Int)), (6, pt w63.heap.size)] ⟨w, w63.heap.size + 1, [(old0 w), (qdvx_24 z c), (qdvx_22 z), (qdvx_23 z c), (qdvx_35 z b59 B1 B2 B3 cR), (caps 3 B1), (caps 3 B2), (caps 3 B3), (qdvx_12 n17 z), (qdvx_20 w63 c)]⟩ rfl ⟨rfl, rfl, rfl, trivial⟩ ?_
                   by_cases h64 : (((whole5 c).e : Int) == (0 : Int) && ((((whole5 c).where_.First : Int) == (0 : Int) && (((whole5 c).where_.Second : Int) == (0 : Int) && true)) && true)) = true
                   · refine q_cS 9 0 [0] [[(an 3 9), (oa [.via 0 (i6 0), .via 0 (i6 0), .via 0 (i6 0)]), ⟨.seq true, none⟩], [(ov (i6 ((k + 1 : Nat) : Int))), o0]] [Qb w63.heap.size, Qb w63.heap.size, Qb w63.heap.size, Old w 0 0 (i6 0), Old w 0 1 (i6 0), Old w 0 2 (i6 0), (((whole5 c).e : Int) == (0 : Int) && ((((whole5 c).where_.First : Int) == (0 : Int) && (((whole5 c).where_.Second : Int) == (0 : Int) && true)) && true)) = true, Wr (((k : Int) : Int) + 1) (((k + 1 : Nat) : Int))] [(qdvx_56 z), (qdvx_47 b59 z B1 B2 B3 cR), (qdvx_52 z B1 B2 B3), (qdvx_58 k)] rfl ⟨rfl, rfl, rfl, old_cell' (hL.2 0 _ rfl), old_cell' (hL.2 1 _ rfl), old_cell' (hL.2 2 _ rfl), h64, wrI, trivial⟩ ?_
                     refine e_pick [0, 1, 2, 3, 4, 5, 6, 7, 8] [(old0 w), (qdvx_24 z c), (qdvx_22 z), (qdvx_23 z c), (qdvx_35 z b59 B1 B2 B3 cR), (caps 3 B1), (caps 3 B2), (caps 3 B3), (qdvx_12 n17 z)] rfl rfl ?_
                     refine e_keep [3, 8, 9, 10] [(qdvx_56 z), (qdvx_47 b59 z B1 B2 B3 cR), (qdvx_52 z B1 B2 B3), (qdvx_58 k)] ?_
                     refine e_inv (fun a w' hs => ⟨(asks (z + 2) B1 B2 B3).length - (k + 1), by omega, (w63.heap.size + 1), (k + 1), (some ⟨b59, 0, none⟩), cR, rfl, by omega, by omega, upto_ hf (by rw [ha]; exact fine_eq.1 h64), hs⟩)
                   · refine q_cS 5 0 [1] [[(an 3 9), (oa [.via 0 (i6 0), .via 0 (i6 0), .via 0 (i6 0)]), ⟨.seq false, none⟩]] [Qb w63.heap.size, Qb w63.heap.size, Qb w63.heap.size, Old w 0 0 (i6 0), Old w 0 1 (i6 0), Old w 0 2 (i6 0), (((whole5 c).e : Int) == (0 : Int) && ((((whole5 c).where_.First : Int) == (0 : Int) && (((whole5 c).where_.Second : Int) == (0 : Int) && true)) && true)) = false] [(qdvx_56 z), (qdvx_47 b59 z B1 B2 B3 cR), (qdvx_52 z B1 B2 B3), (10, i6 (k : Int)), (6, pt w63.heap.size), (18, .bool true)] rfl ⟨rfl, rfl, rfl, old_cell' (hL.2 0 _ rfl), old_cell' (hL.2 1 _ rfl), old_cell' (hL.2 2 _ rfl), (Bool.eq_false_iff.2 h64), trivial⟩ ?_
                     refine g_draw 5 [0, 1, 2, 3, 4, 5, 6, 7, 8, 9] [(old0 w), (qdvx_24 z c), (qdvx_22 z), (qdvx_23 z c), (qdvx_35 z b59 B1 B2 B3 cR), (caps 3 B1), (caps 3 B2), (caps 3 B3), (qdvx_12 n17 z), (qdvx_20 w63 c)] rfl rfl ?_
                     refine w_take [(0, o0), (1, (a1 9)), (2, o0), (3, (an 2 9)), (4, o0)] [3, 22, 2] [Qb w63.heap.size, Qb w63.heap.size, Qb w63.heap.size] [true, true, true, true, true, false] [(qdvx_56 z), (22, .agg #[i6 ((whole5 c).where_.First), i6 ((whole5 c).where_.Second)]), (2, i6 ((whole5 c).e))] rfl (by as_aux_lemma => kernel_rfl) (by as_aux_lemma => kernel_rfl) ⟨rfl, rfl, rfl, trivial⟩ ?_
                     refine w_one 5 (by as_aux_lemma => kernel_rfl) rfl ?_
                     refine wo_eff (an 2 2) [3, 2] [Qb (z + 1), Qb (z + 1)] [(qdvx_56 z), (2, i6 ((whole5 c).e))] ⟨w, w63.heap.size + 1, [(old0 w), (qdvx_24 z c), (qdvx_10 z c), (qdvx_23 z c), (qdvx_35 z b59 B1 B2 B3 cR), (caps 3 B1), (caps 3 B2), (caps 3 B3), (qdvx_12 n17 z), (qdvx_20 w63 c)]⟩ [] (by as_aux_lemma => kernel_rfl) rfl ⟨rfl, rfl, trivial⟩ (.inl rfl) ?_
                     refine w_free 6 [0, 1, 2, 3, 4, 5, 6, 7, 8, 9] [(old0 w), (qdvx_24 z c), (qdvx_10 z c), (qdvx_23 z c), (qdvx_35 z b59 B1 B2 B3 cR), (caps 3 B1), (caps 3 B2), (caps 3 B3), (qdvx_12 n17 z), (qdvx_20 w63 c)] rfl rfl ?_
                     refine w_done (by as_aux_lemma => kernel_rfl) ?_
                     refine e_keep [3, 2] [(qdvx_56 z), (2, i6 ((whole5 c).e))] ?_
                     refine e_seq <| g_ret <| e_ret [.at 2, .at 2] [Qb (z + 1), Qb (z + 1)] (.tuple #[i6 ((whole5 c).e), .agg #[i6 ((whole5 c).where_.First), i6 ((whole5 c).where_.Second)]]) ⟨rfl, rfl, trivial⟩ ?_
                     intro w65 hw65
                     exact ⟨congrArg (fun t : Tfound => Ending.returned (.tuple #[i6 t.e, .agg #[i6 t.where_.First, i6 t.where_.Second]])) ((fst_at (xs := answers c) (k := k) (by rw [answers_len]; omega) hf (by rw [ha]; exact fun x => h64 (fine_eq.2 x))).trans ha).symm, back0 hw65⟩
                 · have hFr := frames_of hf (by omega)
                   have hpf : ∀ q, q < p → partQ c q = fineF := fun q hq => part_of hf (by omega) (by omega)
                   refine g_rowat (base := z) (e := 71) (sz := 1) (cells := (fun v : Value => [v])) (a := aR) (n := ((asks (z + 2) B1 B2 B3).length)) (cap := cR) (xs := (asks (z + 2) B1 B2 B3)) 4 (by omega) (fun b66 hg67 hb68 => ?_)
                   subst hg67
                   refine q_cS 5 1 [] [[(oi k), (oa [.via 4 (.func (.func 47) #[] #[pt (z + 2), pt b])]), o0], [o0]] [((k : Int) : Int) = ((k : Nat) : Int), k < (asks (z + 2) B1 B2 B3).length, (none : Option Nat) = none, ∀ w', Ch.holds (qdvx_36 z b66 B1 B2 B3 cR) w' → w'.cell? ⟨b66, 0 + k, none⟩ = some (.func (.func 47) #[] #[pt (z + 2), pt b])] [(qdvx_56 z), (qdvx_48 b66 z B1 B2 B3 cR), (qdvx_52 z B1 B2 B3), (10, i6 (k : Int)), (14, .func (.func 47) #[] #[pt (z + 2), pt b])] rfl ⟨rfl, (by omega), rfl, rowL_cell (sz := 1) (j := k) (k := 0) (fun _ => rfl) (by omega) (congrArg some hv), trivial⟩ ?_
                   refine l_call [] [] 47 #[pt (z + 2), pt b] (some 15) trivial ?_
                   intro w69 hw69
                   refine (q6_calls w69 (hL.ext (hw69.ext rfl)) c (hc.ext (hw69.ext rfl) (fun _ h => h)) (z + 2) (blk_cells hw69 (i := 3)) b p (caps_cells hw69 hb (i := 5)) hp hFr hpf).mono ?_
                   rintro e w70 ⟨rfl, hkw70⟩
                   have hnw70 : n29 ≤ w70.heap.size := size_of hw69 hkw70
                   refine ⟨_, _, rfl, hw69.keeps hkw70, ?_⟩
                   refine q_r 3 0 [] [[o0, (an 3 9)]] [Qb w70.heap.size, Qb w70.heap.size, Qb w70.heap.size] [(qdvx_56 z), (qdvx_48 b66 z B1 B2 B3 cR), (qdvx_52 z B1 B2 B3), (10, i6 (k : Int)), (6, pt w70.heap.size)] ⟨w, w70.heap.size + 1, [(old0 w), (qdvx_24 z c), (qdvx_22 z), (qdvx_23 z c), (qdvx_36 z b66 B1 B2 B3 cR), (caps 3 B1), (caps 3 B2), (caps 3 B3), (qdvx_12 n17 z), (qdvx_13 w70 c p)]⟩ rfl ⟨rfl, rfl, rfl, trivial⟩ ?_
                   by_cases h71 : (((partQ c p).e : Int) == (0 : Int) && ((((partQ c p).where_.First : Int) == (0 : Int) && (((partQ c p).where_.Second : Int) == (0 : Int) && true)) && true)) = true
                   · refine q_cS 9 0 [0] [[(an 3 9), (oa [.via 0 (i6 0), .via 0 (i6 0), .via 0 (i6 0)]), ⟨.seq true, none⟩], [(ov (i6 ((k + 1 : Nat) : Int))), o0]] [Qb w70.heap.size, Qb w70.heap.size, Qb w70.heap.size, Old w 0 0 (i6 0), Old w 0 1 (i6 0), Old w 0 2 (i6 0), (((partQ c p).e : Int) == (0 : Int) && ((((partQ c p).where_.First : Int) == (0 : Int) && (((partQ c p).where_.Second : Int) == (0 : Int) && true)) && true)) = true, Wr (((k : Int) : Int) + 1) (((k + 1 : Nat) : Int))] [(qdvx_56 z), (qdvx_48 b66 z B1 B2 B3 cR), (qdvx_52 z B1 B2 B3), (qdvx_58 k)] rfl ⟨rfl, rfl, rfl, old_cell' (hL.2 0 _ rfl), old_cell' (hL.2 1 _ rfl), old_cell' (hL.2 2 _ rfl), h71, wrI, trivial⟩ ?_
                     refine e_pick [0, 1, 2, 3, 4, 5, 6, 7, 8] [(old0 w), (qdvx_24 z c), (qdvx_22 z), (qdvx_23 z c), (qdvx_36 z b66 B1 B2 B3 cR), (caps 3 B1), (caps 3 B2), (caps 3 B3), (qdvx_12 n17 z)] rfl rfl ?_
                     refine e_keep [3, 8, 9, 10] [(qdvx_56 z), (qdvx_48 b66 z B1 B2 B3 cR), (qdvx_52 z B1 B2 B3), (qdvx_58 k)] ?_
                     refine e_inv (fun a w' hs => ⟨(asks (z + 2) B1 B2 B3).length - (k + 1), by omega, (w70.heap.size + 1), (k + 1), (some ⟨b66, 0, none⟩), cR, rfl, by omega, by omega, upto_ hf (by rw [ha]; exact fine_eq.1 h71), hs⟩)
                   · refine q_cS 5 0 [1] [[(an 3 9), (oa [.via 0 (i6 0), .via 0 (i6 0), .via 0 (i6 0)]), ⟨.seq false, none⟩]] [Qb w70.heap.size, Qb w70.heap.size, Qb w70.heap.size, Old w 0 0 (i6 0), Old w 0 1 (i6 0), Old w 0 2 (i6 0), (((partQ c p).e : Int) == (0 : Int) && ((((partQ c p).where_.First : Int) == (0 : Int) && (((partQ c p).where_.Second : Int) == (0 : Int) && true)) && true)) = false] [(qdvx_56 z), (qdvx_48 b66 z B1 B2 B3 cR), (qdvx_52 z B1 B2 B3), (10, i6 (k : Int)), (6, pt w70.heap.size), (18, .bool true)] rfl ⟨rfl, rfl, rfl, old_cell' (hL.2 0 _ rfl), old_cell' (hL.2 1 _ rfl), old_cell' (hL.2 2 _ rfl), (Bool.eq_false_iff.2 h71), trivial⟩ ?_
                     refine g_draw 5 [0, 1, 2, 3, 4, 5, 6, 7, 8, 9] [(old0 w), (qdvx_24 z c), (qdvx_22 z), (qdvx_23 z c), (qdvx_36 z b66 B1 B2 B3 cR), (caps 3 B1), (caps 3 B2), (caps 3 B3), (qdvx_12 n17 z), (qdvx_13 w70 c p)] rfl rfl ?_
                     refine w_take [(0, o0), (1, (a1 9)), (2, o0), (3, (an 2 9)), (4, o0)] [3, 22, 2] [Qb w70.heap.size, Qb w70.heap.size, Qb w70.heap.size] [true, true, true, true, true, false] [(qdvx_56 z), (22, .agg #[i6 ((partQ c p).where_.First), i6 ((partQ c p).where_.Second)]), (2, i6 ((partQ c p).e))] rfl (by as_aux_lemma => kernel_rfl) (by as_aux_lemma => kernel_rfl) ⟨rfl, rfl, rfl, trivial⟩ ?_
                     refine w_one 5 (by as_aux_lemma => kernel_rfl) rfl ?_
                     refine wo_eff (an 2 2) [3, 2] [Qb (z + 1), Qb (z + 1)] [(qdvx_56 z), (2, i6 ((partQ c p).e))] ⟨w, w70.heap.size + 1, [(old0 w), (qdvx_24 z c), (qdvx_3 z c p), (qdvx_23 z c), (qdvx_36 z b66 B1 B2 B3 cR), (caps 3 B1), (caps 3 B2), (caps 3 B3), (qdvx_12 n17 z), (qdvx_13 w70 c p)]⟩ [] (by as_aux_lemma => kernel_rfl) rfl ⟨rfl, rfl, trivial⟩ (.inl rfl) ?_
                     refine w_free 6 [0, 1, 2, 3, 4, 5, 6, 7, 8, 9] [(old0 w), (qdvx_24 z c), (qdvx_3 z c p), (qdvx_23 z c), (qdvx_36 z b66 B1 B2 B3 cR), (caps 3 B1), (caps 3 B2), (caps 3 B3), (qdvx_12 n17 z), (qdvx_13 w70 c p)] rfl rfl ?_
                     refine w_done (by as_aux_lemma => kernel_rfl) ?_
                     refine e_keep [3, 2] [(qdvx_56 z), (2, i6 ((partQ c p).e))] ?_
                     refine e_seq <| g_ret <| e_ret [.at 2, .at 2] [Qb (z + 1), Qb (z + 1)] (.tuple #[i6 ((partQ c p).e), .agg #[i6 ((partQ c p).where_.First), i6 ((partQ c p).where_.Second)]]) ⟨rfl, rfl, trivial⟩ ?_
                     intro w72 hw72
                     exact ⟨congrArg (fun t : Tfound => Ending.returned (.tuple #[i6 t.e, .agg #[i6 t.where_.First, i6 t.where_.Second]])) ((fst_at (xs := answers c) (k := k) (by rw [answers_len]; omega) hf (by rw [ha]; exact fun x => h71 (fine_eq.2 x))).trans ha).symm, back0 hw72⟩
                 · have hm := parts_of hf (by omega); have hq := ports_of hf (by omega)
                   refine g_rowat (base := z) (e := 71) (sz := 1) (cells := (fun v : Value => [v])) (a := aR) (n := ((asks (z + 2) B1 B2 B3).length)) (cap := cR) (xs := (asks (z + 2) B1 B2 B3)) 4 (by omega) (fun b73 hg74 hb75 => ?_)
                   subst hg74
                   refine q_cS 5 1 [] [[(oi k), (oa [.via 4 (.func (.func 49) #[] #[pt (z + 2), pt b])]), o0], [o0]] [((k : Int) : Int) = ((k : Nat) : Int), k < (asks (z + 2) B1 B2 B3).length, (none : Option Nat) = none, ∀ w', Ch.holds (qdvx_37 z b73 B1 B2 B3 cR) w' → w'.cell? ⟨b73, 0 + k, none⟩ = some (.func (.func 49) #[] #[pt (z + 2), pt b])] [(qdvx_56 z), (qdvx_49 b73 z B1 B2 B3 cR), (qdvx_52 z B1 B2 B3), (10, i6 (k : Int)), (14, .func (.func 49) #[] #[pt (z + 2), pt b])] rfl ⟨rfl, (by omega), rfl, rowL_cell (sz := 1) (j := k) (k := 0) (fun _ => rfl) (by omega) (congrArg some hv), trivial⟩ ?_
                   refine l_call [] [] 49 #[pt (z + 2), pt b] (some 15) trivial ?_
                   intro w76 hw76
                   refine (q7_calls w76 (hL.ext (hw76.ext rfl)) c (hc.ext (hw76.ext rfl) (fun _ h => h)) (z + 2) (blk_cells hw76 (i := 3)) b p (caps_cells hw76 hb (i := 6)) hp hm hq).mono ?_
                   rintro e w77 ⟨rfl, hkw77⟩
                   have hnw77 : n29 ≤ w77.heap.size := size_of hw76 hkw77
                   refine ⟨_, _, rfl, hw76.keeps hkw77, ?_⟩
                   refine q_r 3 0 [] [[o0, (an 3 9)]] [Qb w77.heap.size, Qb w77.heap.size, Qb w77.heap.size] [(qdvx_56 z), (qdvx_49 b73 z B1 B2 B3 cR), (qdvx_52 z B1 B2 B3), (10, i6 (k : Int)), (6, pt w77.heap.size)] ⟨w, w77.heap.size + 1, [(old0 w), (qdvx_24 z c), (qdvx_22 z), (qdvx_23 z c), (qdvx_37 z b73 B1 B2 B3 cR), (caps 3 B1), (caps 3 B2), (caps 3 B3), (qdvx_12 n17 z), (qdvx_14 w77 c p)]⟩ rfl ⟨rfl, rfl, rfl, trivial⟩ ?_
                   by_cases h78 : (((chanQ c p).e : Int) == (0 : Int) && ((((chanQ c p).where_.First : Int) == (0 : Int) && (((chanQ c p).where_.Second : Int) == (0 : Int) && true)) && true)) = true
                   · refine q_cS 9 0 [0] [[(an 3 9), (oa [.via 0 (i6 0), .via 0 (i6 0), .via 0 (i6 0)]), ⟨.seq true, none⟩], [(ov (i6 ((k + 1 : Nat) : Int))), o0]] [Qb w77.heap.size, Qb w77.heap.size, Qb w77.heap.size, Old w 0 0 (i6 0), Old w 0 1 (i6 0), Old w 0 2 (i6 0), (((chanQ c p).e : Int) == (0 : Int) && ((((chanQ c p).where_.First : Int) == (0 : Int) && (((chanQ c p).where_.Second : Int) == (0 : Int) && true)) && true)) = true, Wr (((k : Int) : Int) + 1) (((k + 1 : Nat) : Int))] [(qdvx_56 z), (qdvx_49 b73 z B1 B2 B3 cR), (qdvx_52 z B1 B2 B3), (qdvx_58 k)] rfl ⟨rfl, rfl, rfl, old_cell' (hL.2 0 _ rfl), old_cell' (hL.2 1 _ rfl), old_cell' (hL.2 2 _ rfl), h78, wrI, trivial⟩ ?_
                     refine e_pick [0, 1, 2, 3, 4, 5, 6, 7, 8] [(old0 w), (qdvx_24 z c), (qdvx_22 z), (qdvx_23 z c), (qdvx_37 z b73 B1 B2 B3 cR), (caps 3 B1), (caps 3 B2), (caps 3 B3), (qdvx_12 n17 z)] rfl rfl ?_
                     refine e_keep [3, 8, 9, 10] [(qdvx_56 z), (qdvx_49 b73 z B1 B2 B3 cR), (qdvx_52 z B1 B2 B3), (qdvx_58 k)] ?_
                     refine e_inv (fun a w' hs => ⟨(asks (z + 2) B1 B2 B3).length - (k + 1), by omega, (w77.heap.size + 1), (k + 1), (some ⟨b73, 0, none⟩), cR, rfl, by omega, by omega, upto_ hf (by rw [ha]; exact fine_eq.1 h78), hs⟩)
                   · refine q_cS 5 0 [1] [[(an 3 9), (oa [.via 0 (i6 0), .via 0 (i6 0), .via 0 (i6 0)]), ⟨.seq false, none⟩]] [Qb w77.heap.size, Qb w77.heap.size, Qb w77.heap.size, Old w 0 0 (i6 0), Old w 0 1 (i6 0), Old w 0 2 (i6 0), (((chanQ c p).e : Int) == (0 : Int) && ((((chanQ c p).where_.First : Int) == (0 : Int) && (((chanQ c p).where_.Second : Int) == (0 : Int) && true)) && true)) = false] [(qdvx_56 z), (qdvx_49 b73 z B1 B2 B3 cR), (qdvx_52 z B1 B2 B3), (10, i6 (k : Int)), (6, pt w77.heap.size), (18, .bool true)] rfl ⟨rfl, rfl, rfl, old_cell' (hL.2 0 _ rfl), old_cell' (hL.2 1 _ rfl), old_cell' (hL.2 2 _ rfl), (Bool.eq_false_iff.2 h78), trivial⟩ ?_
                     refine g_draw 5 [0, 1, 2, 3, 4, 5, 6, 7, 8, 9] [(old0 w), (qdvx_24 z c), (qdvx_22 z), (qdvx_23 z c), (qdvx_37 z b73 B1 B2 B3 cR), (caps 3 B1), (caps 3 B2), (caps 3 B3), (qdvx_12 n17 z), (qdvx_14 w77 c p)] rfl rfl ?_
                     refine w_take [(0, o0), (1, (a1 9)), (2, o0), (3, (an 2 9)), (4, o0)] [3, 22, 2] [Qb w77.heap.size, Qb w77.heap.size, Qb w77.heap.size] [true, true, true, true, true, false] [(qdvx_56 z), (22, .agg #[i6 ((chanQ c p).where_.First), i6 ((chanQ c p).where_.Second)]), (2, i6 ((chanQ c p).e))] rfl (by as_aux_lemma => kernel_rfl) (by as_aux_lemma => kernel_rfl) ⟨rfl, rfl, rfl, trivial⟩ ?_
                     refine w_one 5 (by as_aux_lemma => kernel_rfl) rfl ?_
                     refine wo_eff (an 2 2) [3, 2] [Qb (z + 1), Qb (z + 1)] [(qdvx_56 z), (2, i6 ((chanQ c p).e))] ⟨w, w77.heap.size + 1, [(old0 w), (qdvx_24 z c), (qdvx_4 z c p), (qdvx_23 z c), (qdvx_37 z b73 B1 B2 B3 cR), (caps 3 B1), (caps 3 B2), (caps 3 B3), (qdvx_12 n17 z), (qdvx_14 w77 c p)]⟩ [] (by as_aux_lemma => kernel_rfl) rfl ⟨rfl, rfl, trivial⟩ (.inl rfl) ?_
                     refine w_free 6 [0, 1, 2, 3, 4, 5, 6, 7, 8, 9] [(old0 w), (qdvx_24 z c), (qdvx_4 z c p), (qdvx_23 z c), (qdvx_37 z b73 B1 B2 B3 cR), (caps 3 B1), (caps 3 B2), (caps 3 B3), (qdvx_12 n17 z), (qdvx_14 w77 c p)] rfl rfl ?_
                     refine w_done (by as_aux_lemma => kernel_rfl) ?_
                     refine e_keep [3, 2] [(qdvx_56 z), (2, i6 ((chanQ c p).e))] ?_
                     refine e_seq <| g_ret <| e_ret [.at 2, .at 2] [Qb (z + 1), Qb (z + 1)] (.tuple #[i6 ((chanQ c p).e), .agg #[i6 ((chanQ c p).where_.First), i6 ((chanQ c p).where_.Second)]]) ⟨rfl, rfl, trivial⟩ ?_
                     intro w79 hw79
                     exact ⟨congrArg (fun t : Tfound => Ending.returned (.tuple #[i6 t.e, .agg #[i6 t.where_.First, i6 t.where_.Second]])) ((fst_at (xs := answers c) (k := k) (by rw [answers_len]; omega) hf (by rw [ha]; exact fun x => h78 (fine_eq.2 x))).trans ha).symm, back0 hw79⟩
                 · refine g_rowat (base := z) (e := 71) (sz := 1) (cells := (fun v : Value => [v])) (a := aR) (n := ((asks (z + 2) B1 B2 B3).length)) (cap := cR) (xs := (asks (z + 2) B1 B2 B3)) 4 (by omega) (fun b80 hg81 hb82 => ?_)
                   subst hg81
                   refine q_cS 5 1 [] [[(oi k), (oa [.via 4 (.func (.func 51) #[] #[pt (z + 2), pt b])]), o0], [o0]] [((k : Int) : Int) = ((k : Nat) : Int), k < (asks (z + 2) B1 B2 B3).length, (none : Option Nat) = none, ∀ w', Ch.holds (qdvx_38 z b80 B1 B2 B3 cR) w' → w'.cell? ⟨b80, 0 + k, none⟩ = some (.func (.func 51) #[] #[pt (z + 2), pt b])] [(qdvx_56 z), (qdvx_50 b80 z B1 B2 B3 cR), (qdvx_52 z B1 B2 B3), (10, i6 (k : Int)), (14, .func (.func 51) #[] #[pt (z + 2), pt b])] rfl ⟨rfl, (by omega), rfl, rowL_cell (sz := 1) (j := k) (k := 0) (fun _ => rfl) (by omega) (congrArg some hv), trivial⟩ ?_
                   refine l_call [] [] 51 #[pt (z + 2), pt b] (some 15) trivial ?_
                   intro w83 hw83
                   refine (q8_calls w83 (hL.ext (hw83.ext rfl)) c (hc.ext (hw83.ext rfl) (fun _ h => h)) (z + 2) (blk_cells hw83 (i := 3)) b p (caps_cells hw83 hb (i := 7)) hp).mono ?_
                   rintro e w84 ⟨rfl, hkw84⟩
                   have hnw84 : n29 ≤ w84.heap.size := size_of hw83 hkw84
                   refine ⟨_, _, rfl, hw83.keeps hkw84, ?_⟩
                   refine q_r 3 0 [] [[o0, (an 3 9)]] [Qb w84.heap.size, Qb w84.heap.size, Qb w84.heap.size] [(qdvx_56 z), (qdvx_50 b80 z B1 B2 B3 cR), (qdvx_52 z B1 B2 B3), (10, i6 (k : Int)), (6, pt w84.heap.size)] ⟨w, w84.heap.size + 1, [(old0 w), (qdvx_24 z c), (qdvx_22 z), (qdvx_23 z c), (qdvx_38 z b80 B1 B2 B3 cR), (caps 3 B1), (caps 3 B2), (caps 3 B3), (qdvx_12 n17 z), (qdvx_15 w84 c p)]⟩ rfl ⟨rfl, rfl, rfl, trivial⟩ ?_
                   by_cases h85 : (((coreQ c p).e : Int) == (0 : Int) && ((((coreQ c p).where_.First : Int) == (0 : Int) && (((coreQ c p).where_.Second : Int) == (0 : Int) && true)) && true)) = true
                   · refine q_cS 9 0 [0] [[(an 3 9), (oa [.via 0 (i6 0), .via 0 (i6 0), .via 0 (i6 0)]), ⟨.seq true, none⟩], [(ov (i6 ((k + 1 : Nat) : Int))), o0]] [Qb w84.heap.size, Qb w84.heap.size, Qb w84.heap.size, Old w 0 0 (i6 0), Old w 0 1 (i6 0), Old w 0 2 (i6 0), (((coreQ c p).e : Int) == (0 : Int) && ((((coreQ c p).where_.First : Int) == (0 : Int) && (((coreQ c p).where_.Second : Int) == (0 : Int) && true)) && true)) = true, Wr (((k : Int) : Int) + 1) (((k + 1 : Nat) : Int))] [(qdvx_56 z), (qdvx_50 b80 z B1 B2 B3 cR), (qdvx_52 z B1 B2 B3), (qdvx_58 k)] rfl ⟨rfl, rfl, rfl, old_cell' (hL.2 0 _ rfl), old_cell' (hL.2 1 _ rfl), old_cell' (hL.2 2 _ rfl), h85, wrI, trivial⟩ ?_
                     refine e_pick [0, 1, 2, 3, 4, 5, 6, 7, 8] [(old0 w), (qdvx_24 z c), (qdvx_22 z), (qdvx_23 z c), (qdvx_38 z b80 B1 B2 B3 cR), (caps 3 B1), (caps 3 B2), (caps 3 B3), (qdvx_12 n17 z)] rfl rfl ?_
                     refine e_keep [3, 8, 9, 10] [(qdvx_56 z), (qdvx_50 b80 z B1 B2 B3 cR), (qdvx_52 z B1 B2 B3), (qdvx_58 k)] ?_
                     refine e_inv (fun a w' hs => ⟨(asks (z + 2) B1 B2 B3).length - (k + 1), by omega, (w84.heap.size + 1), (k + 1), (some ⟨b80, 0, none⟩), cR, rfl, by omega, by omega, upto_ hf (by rw [ha]; exact fine_eq.1 h85), hs⟩)
                   · refine q_cS 5 0 [1] [[(an 3 9), (oa [.via 0 (i6 0), .via 0 (i6 0), .via 0 (i6 0)]), ⟨.seq false, none⟩]] [Qb w84.heap.size, Qb w84.heap.size, Qb w84.heap.size, Old w 0 0 (i6 0), Old w 0 1 (i6 0), Old w 0 2 (i6 0), (((coreQ c p).e : Int) == (0 : Int) && ((((coreQ c p).where_.First : Int) == (0 : Int) && (((coreQ c p).where_.Second : Int) == (0 : Int) && true)) && true)) = false] [(qdvx_56 z), (qdvx_50 b80 z B1 B2 B3 cR), (qdvx_52 z B1 B2 B3), (10, i6 (k : Int)), (6, pt w84.heap.size), (18, .bool true)] rfl ⟨rfl, rfl, rfl, old_cell' (hL.2 0 _ rfl), old_cell' (hL.2 1 _ rfl), old_cell' (hL.2 2 _ rfl), (Bool.eq_false_iff.2 h85), trivial⟩ ?_
                     refine g_draw 5 [0, 1, 2, 3, 4, 5, 6, 7, 8, 9] [(old0 w), (qdvx_24 z c), (qdvx_22 z), (qdvx_23 z c), (qdvx_38 z b80 B1 B2 B3 cR), (caps 3 B1), (caps 3 B2), (caps 3 B3), (qdvx_12 n17 z), (qdvx_15 w84 c p)] rfl rfl ?_
                     refine w_take [(0, o0), (1, (a1 9)), (2, o0), (3, (an 2 9)), (4, o0)] [3, 22, 2] [Qb w84.heap.size, Qb w84.heap.size, Qb w84.heap.size] [true, true, true, true, true, false] [(qdvx_56 z), (22, .agg #[i6 ((coreQ c p).where_.First), i6 ((coreQ c p).where_.Second)]), (2, i6 ((coreQ c p).e))] rfl (by as_aux_lemma => kernel_rfl) (by as_aux_lemma => kernel_rfl) ⟨rfl, rfl, rfl, trivial⟩ ?_
                     refine w_one 5 (by as_aux_lemma => kernel_rfl) rfl ?_
                     refine wo_eff (an 2 2) [3, 2] [Qb (z + 1), Qb (z + 1)] [(qdvx_56 z), (2, i6 ((coreQ c p).e))] ⟨w, w84.heap.size + 1, [(old0 w), (qdvx_24 z c), (qdvx_5 z c p), (qdvx_23 z c), (qdvx_38 z b80 B1 B2 B3 cR), (caps 3 B1), (caps 3 B2), (caps 3 B3), (qdvx_12 n17 z), (qdvx_15 w84 c p)]⟩ [] (by as_aux_lemma => kernel_rfl) rfl ⟨rfl, rfl, trivial⟩ (.inl rfl) ?_
                     refine w_free 6 [0, 1, 2, 3, 4, 5, 6, 7, 8, 9] [(old0 w), (qdvx_24 z c), (qdvx_5 z c p), (qdvx_23 z c), (qdvx_38 z b80 B1 B2 B3 cR), (caps 3 B1), (caps 3 B2), (caps 3 B3), (qdvx_12 n17 z), (qdvx_15 w84 c p)] rfl rfl ?_
                     refine w_done (by as_aux_lemma => kernel_rfl) ?_
                     refine e_keep [3, 2] [(qdvx_56 z), (2, i6 ((coreQ c p).e))] ?_
                     refine e_seq <| g_ret <| e_ret [.at 2, .at 2] [Qb (z + 1), Qb (z + 1)] (.tuple #[i6 ((coreQ c p).e), .agg #[i6 ((coreQ c p).where_.First), i6 ((coreQ c p).where_.Second)]]) ⟨rfl, rfl, trivial⟩ ?_
                     intro w86 hw86
                     exact ⟨congrArg (fun t : Tfound => Ending.returned (.tuple #[i6 t.e, .agg #[i6 t.where_.First, i6 t.where_.Second]])) ((fst_at (xs := answers c) (k := k) (by rw [answers_len]; omega) hf (by rw [ha]; exact fun x => h85 (fine_eq.2 x))).trans ha).symm, back0 hw86⟩
                 · have hFr := frames_of hf (by omega)
                   have hpf : ∀ q, q < c.Partitions.xs.length → partQ c q = fineF := fun q hq => part_of hf hq (by omega)
                   refine g_rowat (base := z) (e := 71) (sz := 1) (cells := (fun v : Value => [v])) (a := aR) (n := ((asks (z + 2) B1 B2 B3).length)) (cap := cR) (xs := (asks (z + 2) B1 B2 B3)) 4 (by omega) (fun b87 hg88 hb89 => ?_)
                   subst hg88
                   refine q_cS 5 1 [] [[(oi k), (oa [.via 4 (.func (.func 53) #[] #[pt (z + 2)])]), o0], [o0]] [((k : Int) : Int) = ((k : Nat) : Int), k < (asks (z + 2) B1 B2 B3).length, (none : Option Nat) = none, ∀ w', Ch.holds (qdvx_39 z b87 B1 B2 B3 cR) w' → w'.cell? ⟨b87, 0 + k, none⟩ = some (.func (.func 53) #[] #[pt (z + 2)])] [(qdvx_56 z), (qdvx_51 b87 z B1 B2 B3 cR), (qdvx_52 z B1 B2 B3), (10, i6 (k : Int)), (14, .func (.func 53) #[] #[pt (z + 2)])] rfl ⟨rfl, (by omega), rfl, rowL_cell (sz := 1) (j := k) (k := 0) (fun _ => rfl) (by omega) (congrArg some hv), trivial⟩ ?_
                   refine l_call [] [] 53 #[pt (z + 2)] (some 15) trivial ?_
                   intro w90 hw90
                   refine (q9_calls w90 (hL.ext (hw90.ext rfl)) c (hc.ext (hw90.ext rfl) (fun _ h => h)) (z + 2) (blk_cells hw90 (i := 3)) hFr hpf).mono ?_
                   rintro e w91 ⟨rfl, hkw91⟩
                   have hnw91 : n29 ≤ w91.heap.size := size_of hw90 hkw91
                   refine ⟨_, _, rfl, hw90.keeps hkw91, ?_⟩
                   refine q_r 3 0 [] [[o0, (an 3 9)]] [Qb w91.heap.size, Qb w91.heap.size, Qb w91.heap.size] [(qdvx_56 z), (qdvx_51 b87 z B1 B2 B3 cR), (qdvx_52 z B1 B2 B3), (10, i6 (k : Int)), (6, pt w91.heap.size)] ⟨w, w91.heap.size + 1, [(old0 w), (qdvx_24 z c), (qdvx_22 z), (qdvx_23 z c), (qdvx_39 z b87 B1 B2 B3 cR), (caps 3 B1), (caps 3 B2), (caps 3 B3), (qdvx_12 n17 z), (qdvx_21 w91 c)]⟩ rfl ⟨rfl, rfl, rfl, trivial⟩ ?_
                   by_cases h92 : (((kernQ c).e : Int) == (0 : Int) && ((((kernQ c).where_.First : Int) == (0 : Int) && (((kernQ c).where_.Second : Int) == (0 : Int) && true)) && true)) = true
                   · refine q_cS 9 0 [0] [[(an 3 9), (oa [.via 0 (i6 0), .via 0 (i6 0), .via 0 (i6 0)]), ⟨.seq true, none⟩], [(ov (i6 ((k + 1 : Nat) : Int))), o0]] [Qb w91.heap.size, Qb w91.heap.size, Qb w91.heap.size, Old w 0 0 (i6 0), Old w 0 1 (i6 0), Old w 0 2 (i6 0), (((kernQ c).e : Int) == (0 : Int) && ((((kernQ c).where_.First : Int) == (0 : Int) && (((kernQ c).where_.Second : Int) == (0 : Int) && true)) && true)) = true, Wr (((k : Int) : Int) + 1) (((k + 1 : Nat) : Int))] [(qdvx_56 z), (qdvx_51 b87 z B1 B2 B3 cR), (qdvx_52 z B1 B2 B3), (qdvx_58 k)] rfl ⟨rfl, rfl, rfl, old_cell' (hL.2 0 _ rfl), old_cell' (hL.2 1 _ rfl), old_cell' (hL.2 2 _ rfl), h92, wrI, trivial⟩ ?_
                     refine e_pick [0, 1, 2, 3, 4, 5, 6, 7, 8] [(old0 w), (qdvx_24 z c), (qdvx_22 z), (qdvx_23 z c), (qdvx_39 z b87 B1 B2 B3 cR), (caps 3 B1), (caps 3 B2), (caps 3 B3), (qdvx_12 n17 z)] rfl rfl ?_
                     refine e_keep [3, 8, 9, 10] [(qdvx_56 z), (qdvx_51 b87 z B1 B2 B3 cR), (qdvx_52 z B1 B2 B3), (qdvx_58 k)] ?_
                     refine e_inv (fun a w' hs => ⟨(asks (z + 2) B1 B2 B3).length - (k + 1), by omega, (w91.heap.size + 1), (k + 1), (some ⟨b87, 0, none⟩), cR, rfl, by omega, by omega, upto_ hf (by rw [ha]; exact fine_eq.1 h92), hs⟩)
                   · refine q_cS 5 0 [1] [[(an 3 9), (oa [.via 0 (i6 0), .via 0 (i6 0), .via 0 (i6 0)]), ⟨.seq false, none⟩]] [Qb w91.heap.size, Qb w91.heap.size, Qb w91.heap.size, Old w 0 0 (i6 0), Old w 0 1 (i6 0), Old w 0 2 (i6 0), (((kernQ c).e : Int) == (0 : Int) && ((((kernQ c).where_.First : Int) == (0 : Int) && (((kernQ c).where_.Second : Int) == (0 : Int) && true)) && true)) = false] [(qdvx_56 z), (qdvx_51 b87 z B1 B2 B3 cR), (qdvx_52 z B1 B2 B3), (10, i6 (k : Int)), (6, pt w91.heap.size), (18, .bool true)] rfl ⟨rfl, rfl, rfl, old_cell' (hL.2 0 _ rfl), old_cell' (hL.2 1 _ rfl), old_cell' (hL.2 2 _ rfl), (Bool.eq_false_iff.2 h92), trivial⟩ ?_
                     refine g_draw 5 [0, 1, 2, 3, 4, 5, 6, 7, 8, 9] [(old0 w), (qdvx_24 z c), (qdvx_22 z), (qdvx_23 z c), (qdvx_39 z b87 B1 B2 B3 cR), (caps 3 B1), (caps 3 B2), (caps 3 B3), (qdvx_12 n17 z), (qdvx_21 w91 c)] rfl rfl ?_
                     refine w_take [(0, o0), (1, (a1 9)), (2, o0), (3, (an 2 9)), (4, o0)] [3, 22, 2] [Qb w91.heap.size, Qb w91.heap.size, Qb w91.heap.size] [true, true, true, true, true, false] [(qdvx_56 z), (22, .agg #[i6 ((kernQ c).where_.First), i6 ((kernQ c).where_.Second)]), (2, i6 ((kernQ c).e))] rfl (by as_aux_lemma => kernel_rfl) (by as_aux_lemma => kernel_rfl) ⟨rfl, rfl, rfl, trivial⟩ ?_
                     refine w_one 5 (by as_aux_lemma => kernel_rfl) rfl ?_
                     refine wo_eff (an 2 2) [3, 2] [Qb (z + 1), Qb (z + 1)] [(qdvx_56 z), (2, i6 ((kernQ c).e))] ⟨w, w91.heap.size + 1, [(old0 w), (qdvx_24 z c), (qdvx_11 z c), (qdvx_23 z c), (qdvx_39 z b87 B1 B2 B3 cR), (caps 3 B1), (caps 3 B2), (caps 3 B3), (qdvx_12 n17 z), (qdvx_21 w91 c)]⟩ [] (by as_aux_lemma => kernel_rfl) rfl ⟨rfl, rfl, trivial⟩ (.inl rfl) ?_
                     refine w_free 6 [0, 1, 2, 3, 4, 5, 6, 7, 8, 9] [(old0 w), (qdvx_24 z c), (qdvx_11 z c), (qdvx_23 z c), (qdvx_39 z b87 B1 B2 B3 cR), (caps 3 B1), (caps 3 B2), (caps 3 B3), (qdvx_12 n17 z), (qdvx_21 w91 c)] rfl rfl ?_
                     refine w_done (by as_aux_lemma => kernel_rfl) ?_
                     refine e_keep [3, 2] [(qdvx_56 z), (2, i6 ((kernQ c).e))] ?_
                     refine e_seq <| g_ret <| e_ret [.at 2, .at 2] [Qb (z + 1), Qb (z + 1)] (.tuple #[i6 ((kernQ c).e), .agg #[i6 ((kernQ c).where_.First), i6 ((kernQ c).where_.Second)]]) ⟨rfl, rfl, trivial⟩ ?_
                     intro w93 hw93
                     exact ⟨congrArg (fun t : Tfound => Ending.returned (.tuple #[i6 t.e, .agg #[i6 t.where_.First, i6 t.where_.Second]])) ((fst_at (xs := answers c) (k := k) (by rw [answers_len]; omega) hf (by rw [ha]; exact fun x => h92 (fine_eq.2 x))).trans ha).symm, back0 hw93⟩
               · refine q_cS 15 0 [0] [[oF], [o0, o0, (an 2 2)]] [BF (((k : Int) : Int) < (((asks (z + 2) B1 B2 B3).length : Nat) : Int)), Qb (z + 1), Qb (z + 1)] [(qdvx_56 z), (2, i6 0)] rfl ⟨bf (by omega), rfl, rfl, trivial⟩ ?_
                 refine e_ret [.at 2, .at 2] [Qb (z + 1), Qb (z + 1)] (.tuple #[i6 0, .agg #[i6 0, i6 0]]) ⟨rfl, rfl, trivial⟩ ?_
                 intro w94 hw94
                 exact ⟨congrArg (fun t : Tfound => Ending.returned (.tuple #[i6 t.e, .agg #[i6 t.where_.First, i6 t.where_.Second]])) (fst_all (xs := answers c) (fun i hi => hf i (by rw [answers_len] at hi; omega))).symm, back0 hw94⟩
end Go.Proofs.YtnjhekfgmbpmlaaDoor.Ad
namespace Go.Proofs.YtnjhekfgmbpmlaaDoor.Ad
open Go Go.Proofs.YtnjhekfgmbpmlaaDoor.Eng Go.Proofs.YtnjhekfgmbpmlaaDoor.Mem Go.Proofs.YtnjhekfgmbpmlaaDoor.Ly
set_option linter.unusedSimpArgs false
set_option linter.unusedVariables false
set_option maxRecDepth 100000
theorem slok_of {α : Type} [Inhabited α] {A : AW} {w : World} (h : Sat A w) {cells : α → List Value} {sz : Nat} {ok : (Nat → Prop) → World → α → Prop} (hsz : ∀ x, (cells x).length = sz) {i b : Nat} {t : TypeId} {cs : Array Value} (xs : List α) (hok : ∀ i, i < xs.length → ok Any w (gd xs i)) (hi : A.σ[i]? = some (.blk b (.cells cs t (0, 0)) true) := by rfl) (hx : xs.flatMap cells = cs.toList := by rfl) (hl : cs.size = xs.length * sz := by rfl) (hm : Nat.ble xs.length 1000 = true := by rfl) : SlOk cells sz ok Any w ⟨some ⟨b, 0, none⟩, xs.length, xs⟩ := by
  have hle := Nat.le_of_ble_eq_true hm
  have h1 := h.blkrow hi hx hl (Nat.zero_le b) (Nat.le_trans hle (by decide))
  have hlt : i < A.σ.length := (List.getElem?_eq_some_iff.1 hi).1
  have h0 : w.ownsRow 0 t sz (.slice (some ⟨b, 0, none⟩) xs.length xs.length) xs.length (xs.flatMap cells) := h1.at (i := i) (c := rowL 0 t sz cells (.slice (some ⟨b, 0, none⟩) xs.length xs.length) xs) (by show (A.σ.set i _)[i]? = _; rw [List.getElem?_set_self hlt])
  have h2 := row_sl (cells := cells) (sz := sz) hsz h0 (Nat.le_trans hle (by decide))
  refine ⟨⟨h2.len, h2.le, fun hne => ?_⟩, hok⟩
  obtain ⟨b', off, ha, -, hh⟩ := h2.cells hne
  exact ⟨b', off, ha, trivial, hh⟩
theorem ok_nil {α : Type} [Inhabited α] {p : α → Prop} : ∀ i, i < ([] : List α).length → p (gd [] i) := fun i hi => absurd hi (Nat.not_lt_zero i)
theorem ok_cons {α : Type} [Inhabited α] {p : α → Prop} {x : α} {r : List α} (h : p x) (hr : ∀ i, i < r.length → p (gd r i)) : ∀ i, i < (x :: r).length → p (gd (x :: r) i)
  | 0, _ => h
  | i + 1, hi => hr i (by simpa using hi)
theorem lit_ok {n : Int} (h1 : (-9223372036854775808 : Int) ≤ n := by decide) (h2 : n ≤ 9223372036854775807 := by decide) : InK .i64 n := ⟨h1, h2⟩
theorem check_at (w : World) (hL : LaidAt w) (c : TConfig) (hc : TConfig.ok Any w c) (hS : c.Partitions.xs.length + c.Channels.xs.length + c.Cores.xs.length ≤ 15000000000000) (n : Int) (hn : (checkF c).e = n) : Calls Tryd.prog 9 #[.agg (TConfig.arr c)] w fun e w' => ∃ W : TWhere, e = .returned (.tuple #[.int .i64 n, .agg (TWhere.arr W)]) ∧ Keeps (fun _ => False) w w' := by
  subst hn
  exact (check_calls w hL c hc hS).mono fun e w' h => ⟨_, h.1, h.2⟩
end Go.Proofs.YtnjhekfgmbpmlaaDoor.Ad
namespace Go.Proofs.YtnjhekfgmbpmlaaDoor.Ad
open Go Go.Proofs.YtnjhekfgmbpmlaaDoor.Eng Go.Proofs.YtnjhekfgmbpmlaaDoor.Mem Go.Proofs.YtnjhekfgmbpmlaaDoor.Ly
set_option linter.unusedSimpArgs false
set_option linter.unusedVariables false
set_option maxRecDepth 100000
def stripS {α : Type} (s : Sl α) : Sl α := ⟨none, 0, s.xs⟩
def stripP (x : TPartition) : TPartition := { x with Regions := stripS x.Regions, Ports := stripS x.Ports }
def strip (c : TConfig) : TConfig := { c with Cores := ⟨none, 0, c.Cores.xs.map stripS⟩, Partitions := ⟨none, 0, c.Partitions.xs.map stripP⟩, Channels := stripS c.Channels }
theorem gd_mapd {α β : Type} [Inhabited α] [Inhabited β] {f : α → β} (h : f default = default) (xs : List α) (k : Nat) : gd (xs.map f) k = f (gd xs k) := by
  unfold gd
  rw [List.getD_eq_getElem?_getD, List.getD_eq_getElem?_getD, List.getElem?_map]
  cases xs[k]? with
  | none => exact h.symm
  | some x => rfl
section
variable {c : TConfig}
theorem str_p (p : Nat) : gd (strip c).Partitions.xs p = stripP (gd c.Partitions.xs p) := gd_mapd (by rfl) _ _
theorem str_c (p : Nat) : gd (strip c).Cores.xs p = stripS (gd c.Cores.xs p) := gd_mapd (by rfl) _ _
theorem str_pl : (strip c).Partitions.xs.length = c.Partitions.xs.length := List.length_map _
theorem str_cl : (strip c).Cores.xs.length = c.Cores.xs.length := List.length_map _
theorem nEnds_strip (k : Nat) (b : Bool) : nEnds (strip c) k b = nEnds c k b := by
  unfold nEnds sumN
  rw [str_pl]
  show ((List.take _ (c.Partitions.xs.map stripP)).map _).sum = _
  rw [← List.map_take, List.map_map]; rfl
theorem confOk_strip : confOk (strip c) = confOk c := by
  unfold confOk
  rw [str_pl, show (strip c).Partitions.xs.all (partOk (strip c).Channels.xs.length) = c.Partitions.xs.all (partOk c.Channels.xs.length) from by
    show (c.Partitions.xs.map stripP).all _ = _
    rw [List.all_map]; rfl]
  have h : chanOk (strip c) = chanOk c := by
    funext k; unfold chanOk; rw [nEnds_strip, nEnds_strip]; rfl
  rw [h]; rfl
theorem ends_strip (k : Int) (b : Bool) : endsOf (strip c) k b = endsOf c k b := by
  unfold endsOf endsUp
  rw [str_pl]
  congr 1
  funext p
  rw [str_p]; rfl
theorem cAt_strip : ∀ k, cAt (strip c) k = cAt c k
  | 0 => by show pAt _ _ = pAt _ _; unfold pAt; rw [str_pl]; rfl
  | k + 1 => by
    show cAt (strip c) k + cLen (strip c) k = cAt c k + cLen c k
    rw [cAt_strip k]
    unfold cLen nDest
    rw [ends_strip]; rfl
theorem tAt_strip : ∀ k, tAt (strip c) k = tAt c k
  | 0 => by
    show frame0 (strip c) = frame0 c
    unfold frame0
    rw [cAt_strip]; rfl
  | k + 1 => by
    show tAt (strip c) k + 1 + (tabsN (gd (strip c).Partitions.xs k) : Int) = tAt c k + 1 + (tabsN (gd c.Partitions.xs k) : Int)
    rw [tAt_strip k, str_p]; rfl
theorem need_strip : needOf (strip c) = needOf c := by unfold needOf; rw [confOk_strip, str_pl, tAt_strip]; rfl
theorem err_strip : errOf (strip c) = errOf c := by unfold errOf; rw [confOk_strip]
theorem reg_strip (p k : Nat) : regC (strip c) p k = regC c p k := by unfold regC; rw [str_p]; rfl
theorem prt_strip (p k : Nat) : prtC (strip c) p k = prtC c p k := by unfold prtC; rw [str_p]; rfl
theorem named_strip (p : Nat) : namedP (strip c) p = namedP c p := by
  unfold namedP parC
  simp only [str_p]; rfl
theorem up_strip (f : TPort → Bool) (n : Nat) : upP f (strip c).Partitions.xs n = upP f c.Partitions.xs n := by
  unfold upP
  simp only [str_p]; rfl
theorem src_strip (h : Int) : srcC (strip c) h = srcC c h := by unfold srcC; rw [up_strip, str_pl]
theorem dst_strip (h : Int) : dstC (strip c) h = dstC c h := by unfold dstC; rw [up_strip, str_pl]
theorem regQ_strip (p k : Nat) : regQ (strip c) p k = regQ c p k := by
  have h1 : pagB (strip c) p k = pagB c p k := by funext i; unfold pagB; rw [reg_strip, reg_strip]
  have h2 : frmQ (strip c) p k = frmQ c p k := by
    funext q
    unfold frmQ parC
    have h3 : frmB (strip c) p k q = frmB c p k q := by funext n; unfold frmB; rw [reg_strip, reg_strip]
    rw [h3, str_p]; rfl
  unfold regQ
  rw [h1, h2, reg_strip]; rfl
theorem partQ_strip (p : Nat) : partQ (strip c) p = partQ c p := by
  have hA : partA (strip c) p = partA c p := by unfold partA parC; rw [named_strip, str_p]; rfl
  have hE : partE (strip c) p = partE c p := by unfold partE parC; rw [str_p]; rfl
  have hQ : portQ (strip c) p = portQ c p := by funext k; unfold portQ; rw [prt_strip]; rfl
  have hR : regQ (strip c) p = regQ c p := by funext k; exact regQ_strip p k
  have hB : partB (strip c) p = partB c p := by unfold partB; rw [hA, hR]; unfold parC; rw [str_p]; rfl
  unfold partQ
  rw [hB, hE, hQ]; unfold parC; rw [str_p]; rfl
theorem chanQ_strip (h : Nat) : chanQ (strip c) h = chanQ c h := by
  unfold chanQ
  rw [src_strip, dst_strip]; rfl
theorem split_strip (k : Nat) (p : Int) : splitP (strip c) k p = splitP c k p := by
  unfold splitP
  congr 1
  funext i
  unfold splitAt_ corC
  rw [str_c]; rfl
theorem coreQ_strip (k : Nat) : coreQ (strip c) k = coreQ c k := by
  have hW : coreW (strip c) k = coreW c k := by
    funext n
    unfold coreW coreA
    simp only [split_strip, str_pl]
    unfold corC
    rw [str_c]; rfl
  unfold coreQ
  rw [hW]; unfold corC; rw [str_c]; rfl
theorem kern_strip : kernB (strip c) = kernB c := by
  have h : ovlP (strip c) = ovlP c := by
    funext q
    have h2 : ovlQ (strip c) q = ovlQ c q := by funext n; unfold ovlQ; rw [reg_strip]; rfl
    unfold ovlP parC
    rw [h2, str_p]; rfl
  unfold kernB
  rw [h, err_strip, need_strip, str_pl]; rfl
theorem check_strip : checkF (strip c) = checkF c := by
  have h1 : partQ (strip c) = partQ c := by funext p; exact partQ_strip p
  have h2 : chanQ (strip c) = chanQ c := by funext p; exact chanQ_strip p
  have h3 : coreQ (strip c) = coreQ c := by funext p; exact coreQ_strip p
  unfold checkF answers
  rw [h1, h2, h3, str_pl, str_cl]
  unfold kernQ whole3 whole4
  rw [kern_strip, str_pl, str_cl]; rfl
end
/-- The same numbers, wherever they lie. -/
theorem check_same {c d : TConfig} (h : strip c = strip d) : checkF c = checkF d := by rw [← check_strip, h, check_strip]
end Go.Proofs.YtnjhekfgmbpmlaaDoor.Ad
namespace Go.Proofs.YtnjhekfgmbpmlaaDoor.Ad
open Go Go.Proofs.YtnjhekfgmbpmlaaDoor.Eng Go.Proofs.YtnjhekfgmbpmlaaDoor.Mem Go.Proofs.YtnjhekfgmbpmlaaDoor.Ly
set_option linter.unusedSimpArgs false
set_option linter.unusedVariables false
set_option maxRecDepth 100000
/-- An answer that is not fine has an error of its own and a place. -/
def Okf (x : Tfound) : Prop := x = fineF ∨ ((400 ≤ x.e ∧ x.e ≤ 423) ∧ -1 ≤ x.where_.First ∧ -1 ≤ x.where_.Second)
theorem okf_fine : Okf fineF := .inl rfl
theorem okf_mk {e a b : Int} (h : 400 ≤ e ∧ e ≤ 423) (ha : -1 ≤ a) (hb : -1 ≤ b) : Okf ⟨e, ⟨a, b⟩⟩ := .inr ⟨h, ha, hb⟩
theorem okf_unl {b : Bool} {e x y : Int} (h : 400 ≤ e ∧ e ≤ 423) (ha : -1 ≤ x) (hb : -1 ≤ y) : Okf (unl b e ⟨x, y⟩) := by
  cases b
  · exact okf_mk h ha hb
  · exact okf_fine
theorem okf_fst : ∀ {l : List Tfound}, (∀ x ∈ l, Okf x) → Okf (fstW l)
  | [], _ => okf_fine
  | x :: r, h => by
    unfold fstW
    by_cases e : x = fineF
    · rw [if_pos e]; exact okf_fst fun y hy => h y (List.mem_cons_of_mem _ hy)
    · rw [if_neg e]; exact h x (List.mem_cons_self ..)
theorem okf_then {o : Tfound} {f : Nat → Tfound} {n : Nat} (ho : Okf o) (hf : ∀ i, Okf (f i)) : Okf (thenF o f n) := by
  unfold thenF
  refine okf_fst fun x hx => ?_
  rcases List.mem_cons.1 hx with rfl | hx
  · exact ho
  · obtain ⟨i, -, rfl⟩ := List.mem_map.1 hx; exact hf i
section
variable (c : TConfig)
theorem okf_part (p : Nat) : Okf (partQ c p) := by
  have hr : ∀ k, Okf (regQ c p k) := by
    intro k
    unfold regQ
    split
    · exact okf_mk (by decide) (by omega) (by omega)
    split
    · exact okf_mk (by decide) (by omega) (by omega)
    split
    · exact okf_mk (by decide) (by omega) (by omega)
    · exact okf_fine
  have hA : Okf (partB c p) := okf_then (okf_fst fun x hx => by
    simp only [partA, List.mem_cons, List.not_mem_nil, or_false] at hx
    rcases hx with rfl | rfl | rfl | rfl <;> exact okf_unl (by decide) (by omega) (by omega)) hr
  unfold partQ
  split
  · exact okf_then (okf_fst fun x hx => by
      simp only [partE, List.mem_cons, List.not_mem_nil, or_false] at hx
      rcases hx with rfl | rfl <;> exact okf_unl (by decide) (by omega) (by omega)) (fun k => okf_unl (by decide) (by omega) (by omega))
  · exact hA
theorem okf_chan (h : Nat) : Okf (chanQ c h) := okf_fst fun x hx => by
  simp only [List.mem_cons, List.not_mem_nil, or_false] at hx
  rcases hx with rfl | rfl | rfl <;> exact okf_unl (by decide) (by omega) (by omega)
theorem okf_core (k : Nat) : Okf (coreQ c k) := by
  have hw : ∀ n, Okf (coreW c k n) := fun n => okf_fst fun x hx => by
    simp only [coreA, List.mem_cons, List.not_mem_nil, or_false] at hx
    rcases hx with rfl | rfl | rfl <;> exact okf_unl (by decide) (by omega) (by omega)
  unfold coreQ
  split
  · exact okf_mk (by decide) (by omega) (by omega)
  split
  · exact okf_unl (by decide) (by omega) (by omega)
  · exact okf_then okf_fine hw
theorem okf_check : Okf (checkF c) := okf_fst fun x hx => by
  simp only [answers, List.mem_append, List.mem_cons, List.not_mem_nil, or_false, List.mem_map, List.mem_range] at hx
  rcases hx with (((hx | ⟨p, -, rfl⟩) | ⟨p, -, rfl⟩) | ⟨p, -, rfl⟩) | rfl
  · rcases hx with rfl | rfl | rfl | rfl | rfl <;> exact okf_unl (by decide) (by decide) (by decide)
  · exact okf_part c p
  · exact okf_chan c p
  · exact okf_core c p
  · exact okf_unl (by decide) (by decide) (by decide)
variable {c}
theorem check_bad (h : ¬ (checkF c).e = 0) : (400 ≤ (checkF c).e ∧ (checkF c).e ≤ 423) ∧ -1 ≤ (checkF c).where_.First ∧ -1 ≤ (checkF c).where_.Second := by
  rcases okf_check c with e | e
  · rw [e] at h; exact absurd rfl h
  · exact e
theorem check_fine (h : (checkF c).e = 0) : checkF c = fineF := by
  rcases okf_check c with e | e
  · exact e
  · omega
theorem fst_nil : ∀ {l : List Tfound}, fstW l = fineF → ∀ k, k < l.length → gd l k = fineF := fun h k hk => by
  rw [gd_eq hk]; exact fst_mem h _ (List.getElem_mem _)
/-- What holds together. -/
structure Good (c : TConfig) : Prop where
  fr : 1 ≤ c.Frames ∧ c.Frames ≤ 1024
  mj : 1 ≤ c.Major ∧ c.Major ≤ 16384
  cn : 1 ≤ c.Cores.xs.length ∧ c.Cores.xs.length ≤ 4
  pn : c.Partitions.xs.length ≤ 8
  hn : c.Channels.xs.length ≤ 16
  reg : ∀ p k, p < c.Partitions.xs.length → k < (gd c.Partitions.xs p).Regions.xs.length → 1 ≤ (regC c p k).Pages ∧ 0 ≤ (regC c p k).Frame ∧ (regC c p k).Frame + (regC c p k).Pages ≤ c.Frames
  apart : ∀ p k q n, p < c.Partitions.xs.length → k < (gd c.Partitions.xs p).Regions.xs.length → q ≤ p → n < (gd c.Partitions.xs q).Regions.xs.length → (q < p ∨ n < k) → (regC c p k).Frame + (regC c p k).Pages ≤ (regC c q n).Frame ∨ (regC c q n).Frame + (regC c q n).Pages ≤ (regC c p k).Frame
  rn : ∀ p, p < c.Partitions.xs.length → (gd c.Partitions.xs p).Regions.xs.length ≤ 8
  qn : ∀ p, p < c.Partitions.xs.length → (gd c.Partitions.xs p).Ports.xs.length ≤ 8
  port : ∀ p k, p < c.Partitions.xs.length → k < (gd c.Partitions.xs p).Ports.xs.length → 0 ≤ (prtC c p k).Channel ∧ (prtC c p k).Channel < (c.Channels.xs.length : Int)
  src : ∀ h, h < c.Channels.xs.length → srcC c h = 1
  dst : ∀ h, h < c.Channels.xs.length → 1 ≤ dstC c h ∧ dstC c h ≤ 4
  wn : ∀ k, k < c.Cores.xs.length → (gd c.Cores.xs k).xs.length ≤ 16
  win : ∀ k n, k < c.Cores.xs.length → n < (gd c.Cores.xs k).xs.length → (-1 ≤ (gd (corC c k).xs n).Partition ∧ (gd (corC c k).xs n).Partition < (c.Partitions.xs.length : Int)) ∧ (1 ≤ (gd (corC c k).xs n).Usable ∧ (gd (corC c k).xs n).Usable ≤ 16384) ∧ (82 ≤ (gd (corC c k).xs n).Slack ∧ (gd (corC c k).xs n).Slack ≤ 16384)
  split : ∀ k n, k < c.Cores.xs.length → n < (gd c.Cores.xs k).xs.length → splitP c k (gd (corC c k).xs n).Partition = false
  sum : ∀ k, k < c.Cores.xs.length → sumW (corC c k).xs (corC c k).xs.length = c.Major
  kern : (0 ≤ c.Kernel ∧ c.Kernel ≤ c.Frames - 1) ∧ (1 ≤ c.Room ∧ c.Room ≤ c.Frames - c.Kernel)
  own : ∀ q n, q < c.Partitions.xs.length → n < (gd c.Partitions.xs q).Regions.xs.length → (regC c q n).Frame + (regC c q n).Pages ≤ c.Kernel ∨ c.Kernel + c.Room ≤ (regC c q n).Frame
  err : errOf c = 0
  need : 1 ≤ needOf c ∧ needOf c ≤ c.Room
theorem meet_no {a m b o : Int} (h : meet a m b o = false) : b + o ≤ a ∨ a + m ≤ b := by
  unfold meet at h
  simp only [Bool.and_eq_false_iff, decide_eq_false_iff_not] at h
  omega
theorem any_no {p : Nat → Bool} {n : Nat} (h : (List.range n).any p = false) {k : Nat} (hk : k < n) : p k = false := by
  rw [List.any_eq_false] at h
  have := h k (List.mem_range.2 hk)
  simpa using this
theorem tAt_low (h : Fine c) : ∀ i, c.Kernel + 1 ≤ tAt c i
  | 0 => by
    have h1 := cAt_bd h _ (Nat.le_refl _)
    unfold pAt at h1
    rw [tAt_zero]; omega
  | i + 1 => by
    have := tAt_low h i
    rw [tAt_succ]; omega
theorem need_pos (h : errOf c = 0) : 1 ≤ needOf c := by
  have hok : confOk c = true := by
    cases e : confOk c with
    | true => rfl
    | false => unfold errOf at h; rw [e] at h; exact absurd h (by decide)
  unfold needOf
  rw [if_pos hok]
  have hf := fine_of hok
  have h1 := tAt_low hf c.Partitions.xs.length
  omega
theorem good_of (h : checkF c = fineF) : Good c := by
  have ha : ∀ i, i < (answers c).length → gd (answers c) i = fineF := fst_nil h
  have hl := answers_len (c := c)
  have g0 := ha 0 (by omega); have g1 := ha 1 (by omega); have g2 := ha 2 (by omega); have g3 := ha 3 (by omega); have g4 := ha 4 (by omega)
  rw [ans_lo (by decide)] at g0 g1 g2 g3 g4
  have w0 := win_yes ((unl_fine (by decide)).1 (show unl (win c.Frames 1 1024) 400 ⟨-1, -1⟩ = fineF from g0))
  have w1 := win_yes ((unl_fine (by decide)).1 (show unl (win c.Major 1 16384) 401 ⟨-1, -1⟩ = fineF from g1))
  have w2 := win_yes ((unl_fine (by decide)).1 (show unl (win ((c.Cores.xs.length : Nat) : Int) 1 4) 402 ⟨-1, -1⟩ = fineF from g2))
  have w3 := win_yes ((unl_fine (by decide)).1 (show unl (win ((c.Partitions.xs.length : Nat) : Int) 1 8) 403 ⟨-1, -1⟩ = fineF from g3))
  have w4 := of_decide_eq_true ((unl_fine (by decide)).1 (show unl (decide (((c.Channels.xs.length : Nat) : Int) ≤ 16)) 404 ⟨-1, -1⟩ = fineF from g4))
  have hp : ∀ p, p < c.Partitions.xs.length → partQ c p = fineF := fun p hp => by rw [← ans_p hp]; exact ha _ (by omega)
  have hh : ∀ k, k < c.Channels.xs.length → chanQ c k = fineF := fun p hp => by rw [← ans_h hp]; exact ha _ (by omega)
  have hk : ∀ k, k < c.Cores.xs.length → coreQ c k = fineF := fun p hp => by rw [← ans_k hp]; exact ha _ (by omega)
  have he : kernQ c = fineF := by rw [← ans_e (c := c)]; exact ha _ (by omega)
  have hB : ∀ p, p < c.Partitions.xs.length → ∀ k, k < (parC c p).Regions.xs.length → regQ c p k = fineF := fun p hp' => (thenF_all (partQ_fine (hp p hp'))).2
  have hreg : ∀ p k, p < c.Partitions.xs.length → k < (gd c.Partitions.xs p).Regions.xs.length → regB c (regC c p k) = true ∧ (List.range k).any (pagB c p k) = false ∧ (List.range (p + 1)).any (frmQ c p k) = false := by
    intro p k h1 h2
    have e := hB p h1 k h2
    have e1 := regQ_fine e
    by_cases e2 : (List.range k).any (pagB c p k) = true
    · rw [regQ_b e1 e2] at e; exact absurd (congrArg Tfound.e e) (by decide : ¬ (410 : Int) = 0)
    · have e2' : (List.range k).any (pagB c p k) = false := by simpa using e2
      by_cases e3 : (List.range (p + 1)).any (frmQ c p k) = true
      · rw [regQ_c e1 e2' e3] at e; exact absurd (congrArg Tfound.e e) (by decide : ¬ (411 : Int) = 0)
      · exact ⟨e1, e2', by simpa using e3⟩
  have hPE : ∀ p, p < c.Partitions.xs.length → _ := fun p hp' => thenF_all (partQ_E (hp p hp'))
  have hkb := (unl_fine (by decide)).1 (show unl (kernB c) 423 ⟨-1, -1⟩ = fineF from he)
  unfold kernB at hkb
  simp only [Bool.and_eq_true, Bool.not_eq_true', decide_eq_true_eq] at hkb
  obtain ⟨⟨⟨k1, k2⟩, k3⟩, k4, k5⟩ := hkb
  have hcore : ∀ k, k < c.Cores.xs.length → win ((corC c k).xs.length : Nat) 1 16 = true ∧ thenF fineF (coreW c k) (corC c k).xs.length = fineF ∧ sumW (corC c k).xs (corC c k).xs.length = c.Major := by
    intro k hk'
    have e := hk k hk'
    unfold coreQ at e
    by_cases e1 : win ((corC c k).xs.length : Nat) 1 16 = false
    · rw [if_pos e1] at e; exact absurd (congrArg Tfound.e e) (by decide : ¬ (418 : Int) = 0)
    · rw [if_neg e1] at e
      by_cases e2 : thenF fineF (coreW c k) (corC c k).xs.length = fineF
      · rw [if_pos e2, unl_fine (by decide)] at e
        exact ⟨by simpa using e1, e2, of_decide_eq_true e⟩
      · rw [if_neg e2] at e; exact absurd e e2
  have hcw : ∀ k n, k < c.Cores.xs.length → n < (gd c.Cores.xs k).xs.length → coreW c k n = fineF := fun k n h1 h2 => (thenF_all (hcore k h1).2.1).2 n h2
  refine ⟨w0, w1, by omega, by omega, by omega, ?_, ?_, ?_, ?_, ?_, ?_, ?_, ?_, ?_, ?_, ?_, ⟨win_yes k1, win_yes k2⟩, ?_, k4, ⟨need_pos k4, k5⟩⟩
  · intro p k h1 h2
    have e := (hreg p k h1 h2).1
    unfold regB at e
    simp only [Bool.and_eq_true, decide_eq_true_eq] at e
    have a1 := win_yes e.1.1.1.2
    omega
  · intro p k q n h1 h2 h3 h4 h5
    have e := any_no (any_no (hreg p k h1 h2).2.2 (show q < p + 1 by omega)) (show n < (parC c q).Regions.xs.length from h4)
    unfold frmB at e
    rw [Bool.and_eq_false_iff] at e
    rcases e with e | e
    · simp only [Bool.or_eq_false_iff, decide_eq_false_iff_not] at e; omega
    · have := meet_no e; omega
  · intro p h1
    have e := (thenF_all (partQ_fine (hp p h1))).1
    have e2 := fst_mem e _ (List.mem_cons_of_mem _ (List.mem_cons_of_mem _ (List.mem_cons_of_mem _ (List.mem_cons_self ..))))
    rw [unl_fine (by decide)] at e2
    have := win_yes e2
    simp only [parC] at this
    omega
  · intro p h1
    have e2 := fst_mem (hPE p h1).1 _ (List.mem_cons_of_mem _ (List.mem_cons_self ..))
    rw [unl_fine (by decide)] at e2
    have := of_decide_eq_true e2
    simp only [parC] at this
    omega
  · intro p k h1 h2
    have e2 := (hPE p h1).2 k h2
    unfold portQ at e2
    rw [unl_fine (by decide)] at e2
    have := win_yes e2
    omega
  · intro k h1
    have e0 := hh k h1
    unfold chanQ at e0
    have e := fst_mem e0 _ (List.mem_cons_of_mem _ (List.mem_cons_self ..))
    rw [unl_fine (by decide)] at e
    have := of_decide_eq_true e
    omega
  · intro k h1
    have e0 := hh k h1
    unfold chanQ at e0
    have e := fst_mem e0 _ (List.mem_cons_of_mem _ (List.mem_cons_of_mem _ (List.mem_cons_self ..)))
    rw [unl_fine (by decide)] at e
    have := win_yes e
    have h4 : mostI (chaC c k) ≤ 4 := by unfold mostI; split <;> omega
    omega
  · intro k h1
    have := win_yes (hcore k h1).1
    simp only [corC] at this
    omega
  · intro k n h1 h2
    have e := hcw k n h1 h2
    have e2 := coreW_fine e
    unfold coreW coreA at e
    have e3 := fst_mem e _ (List.mem_cons_self ..)
    rw [unl_fine (by decide), Bool.and_eq_true] at e3
    have e4 := win_yes e3.1
    exact ⟨by omega, e2⟩
  · intro k n h1 h2
    have e := hcw k n h1 h2
    unfold coreW coreA at e
    have e3 := fst_mem e _ (List.mem_cons_of_mem _ (List.mem_cons_of_mem _ (List.mem_cons_self ..)))
    rw [unl_fine (by decide)] at e3
    simpa using e3
  · intro k h1
    exact (hcore k h1).2.2
  · intro q n h1 h2
    have e := any_no (any_no k3 h1) (show n < (parC c q).Regions.xs.length from h2)
    unfold ovlQ at e
    have := meet_no e
    omega
end
end Go.Proofs.YtnjhekfgmbpmlaaDoor.Ad
namespace Go.Proofs.YtnjhekfgmbpmlaaDoor.Ad
open Go Go.Proofs.YtnjhekfgmbpmlaaDoor.Eng Go.Proofs.YtnjhekfgmbpmlaaDoor.Mem Go.Proofs.YtnjhekfgmbpmlaaDoor.Ly
set_option linter.unusedSimpArgs false
set_option linter.unusedVariables false
set_option maxRecDepth 100000
section
variable {c : TConfig} {p k : Nat}
theorem then_step {o : Tfound} {f : Nat → Tfound} (ho : o = fineF) {k : Nat} (hf : ∀ a, a < k → f a = fineF) : thenF o f k = fineF := by
  subst ho; exact thenF_fine hf
theorem partQ_f (hB : partB c p = fineF) (hE : fstW (partE c p) = fineF) (hf : ∀ a, a < (parC c p).Ports.xs.length → portQ c p a = fineF) : partQ c p = fineF := by
  unfold partQ
  rw [if_pos hB]
  exact then_step hE hf
end
end Go.Proofs.YtnjhekfgmbpmlaaDoor.Ad
namespace Go.Proofs.YtnjhekfgmbpmlaaDoor.Ly
open Go Go.Proofs.YtnjhekfgmbpmlaaDoor.Eng Go.Proofs.YtnjhekfgmbpmlaaDoor.Mem
set_option linter.unusedSimpArgs false
set_option linter.unusedVariables false
set_option maxRecDepth 100000
theorem any_no {α : Type} [Inhabited α] {p : α → Bool} {xs : List α} (h : ∀ i, i < xs.length → p (gd xs i) = false) : xs.any p = false := by
  rw [List.any_eq_false]
  intro y hy
  obtain ⟨i, hi, rfl⟩ := List.getElem_of_mem hy
  have := h i hi
  rw [gd_eq hi] at this
  simp [this]
end Go.Proofs.YtnjhekfgmbpmlaaDoor.Ly
namespace Go.Proofs.YtnjhekfgmbpmlaaDoor.Ly
open Go Go.Proofs.YtnjhekfgmbpmlaaDoor.Eng Go.Proofs.YtnjhekfgmbpmlaaDoor.Mem
set_option linter.unusedSimpArgs false
set_option linter.unusedVariables false
set_option maxRecDepth 100000
structure TPiece where
  At : Int
  Size : Int
  Owner : TOwner
  deriving Inhabited, DecidableEq
def TPiece.cells (x : TPiece) : List Value := [.int .i64 x.At] ++ [.int .i64 x.Size] ++ TOwner.cells x.Owner
abbrev TPiece.arr (x : TPiece) : Array Value := #[.int .i64 x.At, .int .i64 x.Size, .int .i64 x.Owner.Kind, .int .i64 x.Owner.Index, .int .i64 x.Owner.Port]
structure TPiece.ok (F : Nat → Prop) (W : World) (x : TPiece) : Prop where
  At : InK .i64 x.At
  Size : InK .i64 x.Size
  Owner : TOwner.ok F W x.Owner
theorem TPiece.ok.ext {F F' : Nat → Prop} {W W' : World} (he : Ext F W W') (hF : ∀ b, F b → F' b) {x : TPiece} (h : TPiece.ok F W x) : TPiece.ok F' W' x := ⟨h.At, h.Size, TOwner.ok.ext he hF h.Owner⟩
end Go.Proofs.YtnjhekfgmbpmlaaDoor.Ly
namespace Go.Proofs.YtnjhekfgmbpmlaaDoor.Ly
open Go Go.Proofs.YtnjhekfgmbpmlaaDoor.Eng Go.Proofs.YtnjhekfgmbpmlaaDoor.Mem
set_option linter.unusedSimpArgs false
set_option linter.unusedVariables false
set_option maxRecDepth 100000
theorem map_set {α : Type} {n k : Nat} {f g : Nat → α} {v : α} (h1 : g k = v) (h2 : ∀ q, q ≠ k → g q = f q) : ((List.range n).map f).set k v = (List.range n).map g := by
  apply List.ext_getElem (by simp)
  intro i hi hi'
  rw [List.getElem_set]
  simp only [List.getElem_map, List.getElem_range]
  split
  · rename_i e; subst e; exact h1.symm
  · rename_i e; exact (h2 i (fun x => e x.symm)).symm
theorem gd_mem {α : Type} [Inhabited α] {xs : List α} {n : Nat} (h : n < xs.length) : gd xs n ∈ xs := by rw [gd_eq h]; exact List.getElem_mem h
end Go.Proofs.YtnjhekfgmbpmlaaDoor.Ly
namespace Go.Proofs.YtnjhekfgmbpmlaaDoor.Ad
open Go Go.Proofs.YtnjhekfgmbpmlaaDoor.Eng Go.Proofs.YtnjhekfgmbpmlaaDoor.Mem Go.Proofs.YtnjhekfgmbpmlaaDoor.Ly
set_option linter.unusedSimpArgs false
set_option linter.unusedVariables false
set_option maxRecDepth 100000
section
variable {c : TConfig}
theorem whole_pre (hW : wholeE c = fineF) : ∀ i, i < 5 → gd (answers c) i = fineF := fun i hi => by
  rw [ans_lo hi]; exact fst_nil hW i hi
theorem ans_pre {n : Nat} (hW : wholeE c = fineF) (hP : ∀ a, a < c.Partitions.xs.length → 5 + a < n → partQ c a = fineF) (hH : ∀ a, a < c.Channels.xs.length → 5 + c.Partitions.xs.length + a < n → chanQ c a = fineF) (hK : ∀ a, a < c.Cores.xs.length → 5 + c.Partitions.xs.length + c.Channels.xs.length + a < n → coreQ c a = fineF) (hn : n ≤ 5 + c.Partitions.xs.length + c.Channels.xs.length + c.Cores.xs.length) : ∀ i, i < n → gd (answers c) i = fineF := by
  intro i hi
  rcases Nat.lt_or_ge i 5 with g | g
  · exact whole_pre hW i g
  rcases Nat.lt_or_ge i (5 + c.Partitions.xs.length) with g1 | g1
  · obtain ⟨p, rfl⟩ : ∃ p, i = 5 + p := ⟨i - 5, by omega⟩
    rw [ans_p (by omega)]; exact hP p (by omega) hi
  rcases Nat.lt_or_ge i (5 + c.Partitions.xs.length + c.Channels.xs.length) with g2 | g2
  · obtain ⟨p, rfl⟩ : ∃ p, i = 5 + c.Partitions.xs.length + p := ⟨i - (5 + c.Partitions.xs.length), by omega⟩
    rw [ans_h (by omega)]; exact hH p (by omega) hi
  · obtain ⟨p, rfl⟩ : ∃ p, i = 5 + c.Partitions.xs.length + c.Channels.xs.length + p := ⟨i - (5 + c.Partitions.xs.length + c.Channels.xs.length), by omega⟩
    rw [ans_k (by omega)]; exact hK p (by omega) hi
theorem check_w (hne : wholeE c ≠ fineF) : checkF c = wholeE c := by
  unfold checkF answers
  rw [List.append_assoc, List.append_assoc, List.append_assoc, fst_app, if_neg (show ¬ fstW [whole1 c, whole2 c, whole3 c, whole4 c, whole5 c] = fineF from hne)]; rfl
theorem check_e (hW : wholeE c = fineF) (hP : ∀ a, a < c.Partitions.xs.length → partQ c a = fineF) (hH : ∀ a, a < c.Channels.xs.length → chanQ c a = fineF) (hK : ∀ a, a < c.Cores.xs.length → coreQ c a = fineF) : checkF c = kernQ c := by
  have hpre := ans_pre (n := 5 + c.Partitions.xs.length + c.Channels.xs.length + c.Cores.xs.length) hW (fun a ha _ => hP a ha) (fun a ha _ => hH a ha) (fun a ha _ => hK a ha) (Nat.le_refl _)
  by_cases e : kernQ c = fineF
  · rw [e]
    exact fst_all fun i hi => by
      rw [answers_len] at hi
      by_cases e2 : i = 5 + c.Partitions.xs.length + c.Channels.xs.length + c.Cores.xs.length
      · rw [e2, ans_e]; exact e
      · exact hpre i (by omega)
  · exact (fst_at (by rw [answers_len]; omega) hpre (by rw [ans_e]; exact e)).trans ans_e
end
end Go.Proofs.YtnjhekfgmbpmlaaDoor.Ad
namespace Go.Proofs.YtnjhekfgmbpmlaaDoor.Ad
open Go Go.Proofs.YtnjhekfgmbpmlaaDoor.Eng Go.Proofs.YtnjhekfgmbpmlaaDoor.Mem Go.Proofs.YtnjhekfgmbpmlaaDoor.Ly
set_option linter.unusedSimpArgs false
set_option linter.unusedVariables false
set_option maxRecDepth 100000
theorem gd_mem {α : Type} [Inhabited α] {xs : List α} {k : Nat} (h : k < xs.length) : gd xs k ∈ xs := by rw [gd_eq h]; exact List.getElem_mem _
theorem mem_gd {α : Type} [Inhabited α] {xs : List α} {x : α} (h : x ∈ xs) : ∃ k, k < xs.length ∧ gd xs k = x := by
  obtain ⟨k, hk, e⟩ := List.mem_iff_getElem.1 h
  exact ⟨k, hk, by rw [gd_eq hk, e]⟩
/-- The same but for the order of a partition's regions, and of a core's windows. -/
structure PermC (c d : TConfig) : Prop where
  nums : d.Frames = c.Frames ∧ d.Major = c.Major ∧ d.Kernel = c.Kernel ∧ d.Room = c.Room
  cl : d.Cores.xs.length = c.Cores.xs.length
  pl : d.Partitions.xs.length = c.Partitions.xs.length
  ch : d.Channels.xs = c.Channels.xs
  ws : ∀ i, i < c.Cores.xs.length → ((gd d.Cores.xs i).xs).Perm (gd c.Cores.xs i).xs
  rs : ∀ p, p < c.Partitions.xs.length → ((gd d.Partitions.xs p).Regions.xs).Perm (gd c.Partitions.xs p).Regions.xs
  ps : ∀ p, p < c.Partitions.xs.length → (gd d.Partitions.xs p).Name = (gd c.Partitions.xs p).Name ∧ (gd d.Partitions.xs p).Entry = (gd c.Partitions.xs p).Entry ∧ (gd d.Partitions.xs p).Action = (gd c.Partitions.xs p).Action ∧ (gd d.Partitions.xs p).Restarts = (gd c.Partitions.xs p).Restarts ∧ (gd d.Partitions.xs p).Inputs = (gd c.Partitions.xs p).Inputs ∧ (gd d.Partitions.xs p).Outputs = (gd c.Partitions.xs p).Outputs ∧ (gd d.Partitions.xs p).Ports.xs = (gd c.Partitions.xs p).Ports.xs
theorem PermC.symm {c d : TConfig} (h : PermC c d) : PermC d c := by
  obtain ⟨⟨a1, a2, a3, a4⟩, h2, h3, h4, h5, h6, h7⟩ := h
  refine ⟨⟨a1.symm, a2.symm, a3.symm, a4.symm⟩, h2.symm, h3.symm, h4.symm, fun i hi => (h5 i (by omega)).symm, fun p hp => (h6 p (by omega)).symm, fun p hp => ?_⟩
  obtain ⟨b1, b2, b3, b4, b5, b6, b7⟩ := h7 p (by omega)
  exact ⟨b1.symm, b2.symm, b3.symm, b4.symm, b5.symm, b6.symm, b7.symm⟩
def metP (a b : TRegion) : Prop := meet a.Page a.Pages b.Page b.Pages = false
def metF (a b : TRegion) : Prop := meet a.Frame a.Pages b.Frame b.Pages = false
theorem meet_symm (a m b o : Int) : meet a m b o = meet b o a m := by unfold meet; rw [Bool.and_comm]
theorem metP_symm {a b : TRegion} (h : metP a b) : metP b a := by unfold metP at h ⊢; rw [meet_symm]; exact h
theorem metF_symm {a b : TRegion} (h : metF a b) : metF b a := by unfold metF at h ⊢; rw [meet_symm]; exact h
theorem pair_of {R : TRegion → TRegion → Prop} (hs : ∀ {a b}, R a b → R b a) {xs : List TRegion} (h : ∀ k i, i < k → k < xs.length → R (gd xs k) (gd xs i)) : xs.Pairwise R := by
  rw [List.pairwise_iff_getElem]
  intro i j hi hj hij
  have := h j i hij hj
  rw [gd_eq hj, gd_eq hi] at this
  exact hs this
theorem pair_to {R : TRegion → TRegion → Prop} (hs : ∀ {a b}, R a b → R b a) {xs : List TRegion} (h : xs.Pairwise R) : ∀ k i, i < k → k < xs.length → R (gd xs k) (gd xs i) := by
  intro k i hik hk
  rw [gd_eq hk, gd_eq (show i < xs.length by omega)]
  exact hs (List.pairwise_iff_getElem.1 h i k (by omega) hk hik)
theorem perm_sum {xs ys : List TWindow} (h : xs.Perm ys) : (xs.map fun w => w.Usable + w.Slack).sum = (ys.map fun w => w.Usable + w.Slack).sum := by
  induction h with
  | nil => rfl
  | cons x _ ih => simp only [List.map_cons, List.sum_cons, ih]
  | swap x y l => simp only [List.map_cons, List.sum_cons]; omega
  | trans _ _ h1 h2 => exact h1.trans h2
theorem sumW_sum (xs : List TWindow) : sumW xs xs.length = (xs.map fun w => w.Usable + w.Slack).sum := by
  have key : ∀ n, n ≤ xs.length → sumW xs n = ((xs.take n).map fun w => w.Usable + w.Slack).sum := by
    intro n
    induction n with
    | zero => intro _; simp [sumW]
    | succ n ih =>
      intro hn
      rw [sumW_succ, ih (by omega), List.take_add_one, List.getElem?_eq_getElem (by omega), gd_eq (by omega), List.map_append, List.sum_append]
      simp only [Option.toList, List.map_cons, List.map_nil, List.sum_cons, List.sum_nil]
      omega
  rw [key _ (Nat.le_refl _), List.take_length]
section
variable {c d : TConfig}
theorem runs_perm {x y : TPartition} (he : y.Entry = x.Entry) (h : y.Regions.xs.Perm x.Regions.xs) : runsP y = runsP x := by
  have key : ∀ {x y : TPartition}, y.Entry = x.Entry → y.Regions.xs.Perm x.Regions.xs → runsP x = true → runsP y = true := by
    intro x y he h hx
    unfold runsP at hx ⊢
    rw [List.any_eq_true] at hx ⊢
    obtain ⟨k, hk, e⟩ := hx
    obtain ⟨j, hj, e2⟩ := mem_gd (h.mem_iff.2 (gd_mem (List.mem_range.1 hk)))
    exact ⟨j, List.mem_range.2 hj, by unfold runsAt at e ⊢; rw [e2, he]; exact e⟩
  rw [Bool.eq_iff_iff]
  exact ⟨key he.symm h.symm, key he h⟩
theorem split_perm (h : PermC c d) {k : Nat} (hk : k ≤ c.Cores.xs.length) (p : Int) : splitP d k p = splitP c k p := by
  have key : ∀ {c d : TConfig}, PermC c d → k ≤ c.Cores.xs.length → splitP c k p = true → splitP d k p = true := by
    intro c d h hk hx
    unfold splitP splitAt_ corC at hx ⊢
    rw [List.any_eq_true] at hx ⊢
    obtain ⟨i, hi, e⟩ := hx
    rw [List.any_eq_true] at e
    obtain ⟨n, hn, e⟩ := e
    have hi' := List.mem_range.1 hi
    obtain ⟨j, hj, e2⟩ := mem_gd ((h.ws i (by omega)).mem_iff.2 (gd_mem (List.mem_range.1 hn)))
    exact ⟨i, hi, by rw [List.any_eq_true]; exact ⟨j, List.mem_range.2 hj, by rw [e2]; exact e⟩⟩
  rw [Bool.eq_iff_iff]
  exact ⟨key h.symm (by rw [h.cl]; exact hk), key h hk⟩
theorem named_perm (h : PermC c d) {p : Nat} (hp : p < c.Partitions.xs.length) : namedP d p = namedP c p := by
  have hn : ∀ q, q < c.Partitions.xs.length → (parC d q).Name = (parC c q).Name := fun q hq => (h.ps q hq).1
  have key : ∀ {c d : TConfig}, (∀ q, q ≤ p → (parC d q).Name = (parC c q).Name) → namedP c p = true → namedP d p = true := by
    intro c d hn hx
    unfold namedP at hx ⊢
    rw [Bool.and_eq_true, List.all_eq_true] at hx ⊢
    exact ⟨fun q hq => by rw [hn q (Nat.le_of_lt (List.mem_range.1 hq)), hn p (Nat.le_refl _)]; exact hx.1 q hq, by rw [hn p (Nat.le_refl _)]; exact hx.2⟩
  rw [Bool.eq_iff_iff]
  exact ⟨key (fun q hq => (hn q (by omega)).symm), key (fun q hq => hn q (by omega))⟩
theorem up_perm (h : PermC c d) (f : TPort → Bool) : ∀ n, n ≤ c.Partitions.xs.length → upP f d.Partitions.xs n = upP f c.Partitions.xs n
  | 0, _ => rfl
  | n + 1, hn => by rw [upP_succ, upP_succ, up_perm h f n (by omega), (h.ps n (by omega)).2.2.2.2.2.2]
theorem chan_perm (h : PermC c d) (k : Nat) : chanQ d k = chanQ c k := by
  unfold chanQ srcC dstC chaC
  rw [h.pl, up_perm h _ _ (Nat.le_refl _), up_perm h _ _ (Nat.le_refl _), h.ch]
theorem whole_perm (h : PermC c d) : wholeE d = wholeE c := by
  obtain ⟨n1, n2, n3, n4⟩ := h.nums
  have hc : d.Channels.xs.length = c.Channels.xs.length := by rw [h.ch]
  unfold wholeE whole1 whole2 whole3 whole4 whole5
  rw [n1, n2, h.cl, h.pl, hc]
theorem part_perm (h : PermC c d) (hf : ∀ q, q < c.Partitions.xs.length → partQ c q = fineF) {p : Nat} (hp : p < c.Partitions.xs.length) : partQ d p = fineF := by
  obtain ⟨b1, b2, b3, b4, b5, b6, b7⟩ := h.ps p hp
  have hrl := (h.rs p hp).length_eq
  have hB := partQ_fine (hf p hp)
  have hA : fstW (partA d p) = fineF := by
    have e : partA d p = partA c p := by
      unfold partA
      rw [named_perm h hp, show (parC d p).Action = (parC c p).Action from b3, show (parC d p).Restarts = (parC c p).Restarts from b4, show (parC d p).Inputs = (parC c p).Inputs from b5, show (parC d p).Outputs = (parC c p).Outputs from b6, show (parC d p).Regions.xs.length = (parC c p).Regions.xs.length from hrl]
    rw [e]; exact (thenF_all hB).1
  have hreg : ∀ q k, q < c.Partitions.xs.length → k < (gd c.Partitions.xs q).Regions.xs.length → regB c (regC c q k) = true ∧ (List.range k).any (pagB c q k) = false ∧ (List.range (q + 1)).any (frmQ c q k) = false := by
    intro q k h1 h2
    have e := (thenF_all (partQ_fine (hf q h1))).2 k h2
    have e1 := regQ_fine e
    by_cases e2 : (List.range k).any (pagB c q k) = true
    · rw [regQ_b e1 e2] at e; exact absurd (congrArg Tfound.e e) (by decide : ¬ (410 : Int) = 0)
    · have e2' : (List.range k).any (pagB c q k) = false := by simpa using e2
      by_cases e3 : (List.range (q + 1)).any (frmQ c q k) = true
      · rw [regQ_c e1 e2' e3] at e; exact absurd (congrArg Tfound.e e) (by decide : ¬ (411 : Int) = 0)
      · exact ⟨e1, e2', by simpa using e3⟩
  have pP : (gd d.Partitions.xs p).Regions.xs.Pairwise metP := ((h.rs p hp).pairwise_iff (fun h => metP_symm h)).2 (pair_of (fun h => metP_symm h) fun k i hik hk => any_no (hreg p k hp hk).2.1 hik)
  have frm : ∀ q k n, q ≤ p → k < (gd c.Partitions.xs p).Regions.xs.length → n < (gd c.Partitions.xs q).Regions.xs.length → (q < p ∨ n < k) → metF (regC c p k) (regC c q n) := by
    intro q k n h1 h2 h3 h4
    have e := any_no (any_no (hreg p k hp h2).2.2 (show q < p + 1 by omega)) (show n < (parC c q).Regions.xs.length from h3)
    unfold frmB at e
    rw [Bool.and_eq_false_iff] at e
    rcases e with e | e
    · simp only [Bool.or_eq_false_iff, decide_eq_false_iff_not] at e; omega
    · exact e
  have pF : (gd d.Partitions.xs p).Regions.xs.Pairwise metF := ((h.rs p hp).pairwise_iff (fun h => metF_symm h)).2 (pair_of (fun h => metF_symm h) fun k i hik hk => frm p k i (Nat.le_refl _) hk (by omega) (.inr hik))
  have hR : ∀ k, k < (parC d p).Regions.xs.length → regQ d p k = fineF := by
    intro k hk
    obtain ⟨j, hj, ej⟩ := mem_gd ((h.rs p hp).mem_iff.1 (gd_mem (show k < (gd d.Partitions.xs p).Regions.xs.length from hk)))
    refine regQ_d ?_ ?_ ?_
    · have e := (hreg p j hp hj).1
      unfold regB at e ⊢
      rw [h.nums.1, show regC d p k = regC c p j from ej.symm]; exact e
    · exact range_none fun i hi => pair_to (fun h => metP_symm h) pP k i hi hk
    · refine range_none fun q hq => range_none fun n hn => ?_
      unfold frmB
      by_cases e : q < p ∨ n < k
      · have hm : meet (regC d p k).Frame (regC d p k).Pages (regC d q n).Frame (regC d q n).Pages = false := by
          by_cases e2 : q < p
          · obtain ⟨i, hi, ei⟩ := mem_gd ((h.rs q (by omega)).mem_iff.1 (gd_mem (show n < (gd d.Partitions.xs q).Regions.xs.length from hn)))
            have := frm q j i (by omega) hj hi (.inl e2)
            rw [show regC d p k = regC c p j from ej.symm, show regC d q n = regC c q i from ei.symm]; exact this
          · have e3 : q = p := by omega
            subst e3
            exact pair_to (fun h => metF_symm h) pF k n (by omega) hk
        rw [hm, Bool.and_false]
      · rw [show (decide (q < p) || decide (n < k)) = false from by simp; omega]; rfl
  refine partQ_f (then_step hA hR) ?_ (fun k hk => ?_)
  · have hE := (thenF_all (partQ_E (hf p hp))).1
    have e : partE d p = partE c p := by
      unfold partE
      rw [show (parC d p).Entry = (parC c p).Entry from b2, runs_perm (x := parC c p) (y := parC d p) b2 (h.rs p hp), show (parC d p).Ports.xs = (parC c p).Ports.xs from b7]
    rw [e]; exact hE
  · have hk' : k < (parC c p).Ports.xs.length := by rw [← show (parC d p).Ports.xs = (parC c p).Ports.xs from b7]; exact hk
    have e := (thenF_all (partQ_E (hf p hp))).2 k hk'
    unfold portQ prtC at e ⊢
    rw [b7, h.ch]; exact e
theorem core_perm (h : PermC c d) {k : Nat} (hk : k < c.Cores.xs.length) (hf : coreQ c k = fineF) : coreQ d k = fineF := by
  have hl := (h.ws k hk).length_eq
  by_cases e1 : win ((corC c k).xs.length : Nat) 1 16 = false
  · unfold coreQ at hf; rw [if_pos e1] at hf; exact absurd (congrArg Tfound.e hf) (by decide : ¬ (418 : Int) = 0)
  have e1' : win ((corC c k).xs.length : Nat) 1 16 = true := by simpa using e1
  unfold coreQ at hf
  rw [if_neg e1] at hf
  by_cases e2 : thenF fineF (coreW c k) (corC c k).xs.length = fineF
  · rw [if_pos e2, unl_fine (by decide)] at hf
    have hall := (thenF_all e2).2
    have hw : ∀ n, n < (corC d k).xs.length → coreW d k n = fineF := by
      intro n hn
      obtain ⟨j, hj, ej⟩ := mem_gd ((h.ws k hk).mem_iff.1 (gd_mem (show n < (gd d.Cores.xs k).xs.length from hn)))
      have e := hall j hj
      unfold coreW coreA at e ⊢
      have g1 := fst_mem e _ (List.mem_cons_self ..)
      have g2 := fst_mem e _ (List.mem_cons_of_mem _ (List.mem_cons_self ..))
      have g3 := fst_mem e _ (List.mem_cons_of_mem _ (List.mem_cons_of_mem _ (List.mem_cons_self ..)))
      rw [unl_fine (by decide)] at g1 g2 g3
      rw [show gd (corC d k).xs n = gd (corC c k).xs j from ej.symm, h.pl, split_perm h (by omega), g1, g2, g3]
      rfl
    refine (coreQ_c (by rw [show (corC d k).xs.length = (corC c k).xs.length from hl]; exact e1') hw rfl).trans ?_
    rw [sumW_sum, perm_sum (h.ws k hk), ← sumW_sum, h.nums.2.1]
    exact (unl_fine (by decide)).2 hf
  · rw [if_neg e2] at hf; exact absurd hf e2
theorem tabs_perm {x y : TPartition} (h : y.Regions.xs.Perm x.Regions.xs) : tabsN y = tabsN x := by
  have key : ∀ {x y : TPartition}, y.Regions.xs.Perm x.Regions.xs → ∀ t, t ∈ tabsUp x x.Regions.xs.length → t ∈ tabsUp y y.Regions.xs.length := by
    intro x y h t ht
    unfold tabsUp at ht ⊢
    rw [List.mem_flatMap] at ht ⊢
    obtain ⟨r, hr, e⟩ := ht
    obtain ⟨j, hj, ej⟩ := mem_gd (h.mem_iff.2 (gd_mem (List.mem_range.1 hr)))
    exact ⟨j, List.mem_range.2 hj, by rw [ej]; exact e⟩
  unfold tabsN
  congr 1
  funext t
  rw [Bool.eq_iff_iff, List.contains_iff_mem, List.contains_iff_mem]
  exact ⟨key h.symm t, key h t⟩
theorem ends_perm (h : PermC c d) (k : Int) (b : Bool) : endsOf d k b = endsOf c k b := by
  unfold endsOf endsUp
  rw [h.pl]
  show ((List.range _).map _).flatten = ((List.range _).map _).flatten
  congr 1
  refine List.map_congr_left fun p hp => ?_
  have e := (h.ps p (List.mem_range.1 hp)).2.2.2.2.2.2
  unfold partEnds
  rw [e]
theorem nEnds_perm (h : PermC c d) (k : Nat) (b : Bool) : nEnds d k b = nEnds c k b := by
  have e : d.Partitions.xs.map (fun x => endsN x k b) = c.Partitions.xs.map (fun x => endsN x k b) := by
    apply List.ext_getElem (by simpa using h.pl)
    intro i hi hi'
    have hi2 : i < c.Partitions.xs.length := by simpa using hi'
    have e := (h.ps i hi2).2.2.2.2.2.2
    rw [gd_eq (by simpa using hi), gd_eq hi2] at e
    simp only [List.getElem_map]
    unfold endsN
    rw [e]
  unfold nEnds sumN
  rw [List.map_take, List.map_take, e, h.pl]
theorem partOk_perm {x y : TPartition} {n : Nat} (h : y.Regions.xs.Perm x.Regions.xs) (hp : y.Ports.xs = x.Ports.xs) (hx : partOk n x = true) : partOk n y = true := by
  unfold partOk at hx ⊢
  rw [h.length_eq, hp]
  simp only [Bool.and_eq_true, List.all_eq_true] at hx ⊢
  exact ⟨⟨hx.1.1, fun g hg => hx.1.2 g (h.mem_iff.1 hg)⟩, hx.2⟩
theorem confOk_perm (h : PermC c d) : confOk d = confOk c := by
  have key : ∀ {c d : TConfig}, PermC c d → confOk c = true → confOk d = true := by
    intro c d h hx
    unfold confOk at hx ⊢
    simp only [Bool.and_eq_true] at hx ⊢
    obtain ⟨⟨⟨⟨a1, a2⟩, a3⟩, a4⟩, a5⟩ := hx
    refine ⟨⟨⟨⟨by rw [h.nums.2.2.1]; exact a1, by rw [h.pl]; exact a2⟩, by rw [h.ch]; exact a3⟩, ?_⟩, ?_⟩
    · rw [List.all_eq_true] at a4 ⊢
      intro x hx
      obtain ⟨i, hi, e⟩ := mem_gd hx
      have hi' : i < c.Partitions.xs.length := by rw [← h.pl]; exact hi
      rw [← e, h.ch]
      exact partOk_perm (h.rs i hi') (h.ps i hi').2.2.2.2.2.2 (a4 _ (gd_mem hi'))
    · rw [List.all_eq_true] at a5 ⊢
      intro k hk
      rw [h.ch] at hk
      have e := a5 k hk
      unfold chanOk at e ⊢
      rw [nEnds_perm h, nEnds_perm h, h.ch]; exact e
  rw [Bool.eq_iff_iff]
  exact ⟨key h.symm, key h⟩
theorem cAt_perm (h : PermC c d) : ∀ k, cAt d k = cAt c k
  | 0 => by show pAt _ _ = pAt _ _; unfold pAt; rw [h.pl, h.nums.2.2.1]
  | k + 1 => by
    show cAt d k + cLen d k = cAt c k + cLen c k
    rw [cAt_perm h k]
    unfold cLen nDest
    rw [ends_perm h, h.ch]
theorem tAt_perm (h : PermC c d) : ∀ k, k ≤ c.Partitions.xs.length → tAt d k = tAt c k
  | 0, _ => by
    show frame0 d = frame0 c
    unfold frame0
    rw [cAt_perm h, h.ch]
  | k + 1, hk => by
    show tAt d k + 1 + (tabsN (gd d.Partitions.xs k) : Int) = tAt c k + 1 + (tabsN (gd c.Partitions.xs k) : Int)
    rw [tAt_perm h k (by omega), tabs_perm (h.rs k (by omega))]
theorem need_perm (h : PermC c d) : needOf d = needOf c ∧ errOf d = errOf c := by
  unfold needOf errOf
  rw [confOk_perm h, h.pl, tAt_perm h _ (Nat.le_refl _), h.nums.2.2.1]
  exact ⟨rfl, rfl⟩
theorem kern_perm (h : PermC c d) (hx : kernB c = true) : kernB d = true := by
  unfold kernB at hx ⊢
  simp only [Bool.and_eq_true, Bool.not_eq_true'] at hx ⊢
  obtain ⟨⟨⟨k1, k2⟩, k3⟩, k4, k5⟩ := hx
  rw [h.nums.1, h.nums.2.2.1, h.nums.2.2.2, (need_perm h).1, (need_perm h).2, h.pl]
  refine ⟨⟨⟨k1, k2⟩, range_none fun q hq => range_none fun n hn => ?_⟩, k4, k5⟩
  obtain ⟨i, hi, ei⟩ := mem_gd ((h.rs q hq).mem_iff.1 (gd_mem (show n < (gd d.Partitions.xs q).Regions.xs.length from hn)))
  have e := any_no (any_no k3 hq) (show i < (parC c q).Regions.xs.length from hi)
  unfold ovlQ at e ⊢
  rw [h.nums.2.2.1, h.nums.2.2.2, show regC d q n = regC c q i from ei.symm]; exact e
theorem check_perm1 (h : PermC c d) (hx : checkF c = fineF) : checkF d = fineF := by
  have ha : ∀ i, i < (answers c).length → gd (answers c) i = fineF := fst_nil hx
  have hl := answers_len (c := c)
  have hW : wholeE c = fineF := by
    by_cases e : wholeE c = fineF
    · exact e
    · rw [check_w e] at hx; exact hx
  have hP : ∀ p, p < c.Partitions.xs.length → partQ c p = fineF := fun p hp => by rw [← ans_p hp]; exact ha _ (by omega)
  have hH : ∀ k, k < c.Channels.xs.length → chanQ c k = fineF := fun p hp => by rw [← ans_h hp]; exact ha _ (by omega)
  have hK : ∀ k, k < c.Cores.xs.length → coreQ c k = fineF := fun p hp => by rw [← ans_k hp]; exact ha _ (by omega)
  have hE : kernQ c = fineF := by rw [← ans_e (c := c)]; exact ha _ (by omega)
  have hkb := (unl_fine (by decide)).1 (show unl (kernB c) 423 ⟨-1, -1⟩ = fineF from hE)
  rw [check_e (c := d) (by rw [whole_perm h]; exact hW) (fun a ha => part_perm h hP (by rw [← h.pl]; exact ha)) (fun a ha => by rw [chan_perm h]; exact hH a (by rw [← h.ch]; exact ha)) (fun a ha => core_perm h (by rw [← h.cl]; exact ha) (hK a (by rw [← h.cl]; exact ha)))]
  exact (unl_fine (by decide)).2 (kern_perm h hkb)
theorem check_perm (h : PermC c d) : (checkF c).e = 0 ↔ (checkF d).e = 0 :=
  ⟨fun e => by rw [check_perm1 h (check_fine e)]; rfl, fun e => by rw [check_perm1 h.symm (check_fine e)]; rfl⟩
end
end Go.Proofs.YtnjhekfgmbpmlaaDoor.Ad
namespace Go.Proofs.YtnjhekfgmbpmlaaDoor.Eng
open Go Go.ChangeShapes Go.WideShapes Go.Deep
set_option linter.unusedSimpArgs false
set_option linter.unusedVariables false
theorem weightsAll_mem {H : Type} {P : Program} {e : TypeId} : ∀ {l : List (DataW H)} {d : DataW H}, d ∈ l → ∀ n ∈ d.weights P e, n ∈ DataW.weightsAll P e l
  | a :: l, d, h, n, hn => by
    simp only [DataW.weightsAll, List.mem_append]
    rcases List.mem_cons.1 h with rfl | h
    · exact .inl hn
    · exact .inr (weightsAll_mem h n hn)
/-- Cells of type t that read as data are those of a thing. -/
def Rd (P : Program) {α : Type} (t : TypeId) (cells : α → List Value) (ok : (Nat → Prop) → World → α → Prop) : Prop :=
  ∀ (H : Type) (enc : TypeId × Value → H) (W : World) (fuel : Nat) (cs : List Value) (x : DataW H × List MemPlace), DataW.trod enc P W 0 (fun _ => true) true fuel t cs = some x → (∀ n ∈ x.1.weights P t, n ≤ reachBytes) → ∃ a : α, cs = cells a ∧ ok Any W a
section
variable {P : Program} {t : TypeId}
theorem rd_int {k : IntKind} (ht : P.underlying t = some (.int k)) : Rd P t (fun x : Int => [Value.int k x]) (fun _ _ x => InK k x) := by
  intro H enc W fuel cs x h _
  obtain ⟨n, rfl, rfl, hw⟩ := DataW.trod_int ht h
  refine ⟨n, rfl, ?_⟩
  simp only [Lit.wf, Bool.and_eq_true, decide_eq_true_eq] at hw
  cases k <;> simp only [InK] <;> simp [IntKind.min, IntKind.max, IntKind.bits, IntKind.signed] at hw <;> first | omega | exact ⟨by omega, by omega⟩ | trivial
theorem rd_bool (ht : P.underlying t = some .bool) : Rd P t (fun x : Bool => [Value.bool x]) (fun _ _ _ => True) := by
  intro H enc W fuel cs x h _
  obtain ⟨b, rfl, rfl⟩ := DataW.trod_bool ht h
  exact ⟨b, rfl, trivial⟩
theorem rd_string (ht : P.underlying t = some .string) : Rd P t (fun x : ByteArray => [Value.string x]) (fun _ _ x => x.size ≤ 140737488351232) := by
  intro H enc W fuel cs x h hw
  obtain ⟨s, rfl, rfl, -⟩ := DataW.trod_string ht h
  refine ⟨s, rfl, ?_⟩
  have := hw s.data.toList.length (by simp [DataW.weights])
  simpa [reachBytes] using this
/-- One field of a struct that reads as data. -/
theorem rd_field {H : Type} {enc : TypeId × Value → H} {W : World} {α : Type} {cells : α → List Value} {ok : (Nat → Prop) → World → α → Prop} {fs : Array Field} {xs : List (DataW H × List MemPlace)} {n : Nat} {cs : List Value} (ht : P.underlying t = some (.struct fs)) (hlen : xs.length = fs.size)
    (hf : ∀ (i : Nat) (f : Field), fs[i]? = some f → DataW.trod enc P W 0 (fun _ => true) true n f.type ((cs.drop f.offset).take (P.cellsOf f.type)) = xs[i]?) (hw : ∀ n ∈ (DataW.agg (xs.map (·.1))).weights P t, n ≤ reachBytes)
    (i o c : Nat) (f : Field) (hi : fs[i]? = some f) (ho : f.offset = o) (hc : P.cellsOf f.type = c) (hr : Rd P f.type cells ok) : ∃ y : α, (cs.drop o).take c = cells y ∧ ok Any W y := by
  subst ho; subst hc
  have hlt : i < xs.length := by rw [hlen]; exact (Array.getElem?_eq_some_iff.1 hi).1
  have h1 := hf i f hi
  rw [List.getElem?_eq_getElem hlt] at h1
  refine hr H enc W n _ _ h1 (fun q hq => hw q ?_)
  simp only [DataW.weights, ht]
  exact DataW.weights_mem_each (j := i) (t := f.type) (d := (xs[i]).1) (by rw [List.getElem?_map]; simp only [Array.getElem?_toList, hi]; rfl) (by simp [hlt]) q hq
theorem cs1 {cs : List Value} (h : cs.length = 1) : ∃ a, cs = [a] := match cs, h with | [a], _ => ⟨a, rfl⟩
/-- An argument of struct type. -/
theorem rd_arg {H : Type} {enc : TypeId × Value → H} {W : World} {base j : Nat} {α : Type} {cells : α → List Value} {ok : (Nat → Prop) → World → α → Prop} {fs : Array Field} {v : Value} {d : DataW H} {p : List MemPlace} {ts : List TypeId} {ds : List (DataW H)}
    (hr : Rd P t cells ok) (ht : P.underlying t = some (.struct fs)) (hv : Value.okWide P W .any base t v) (h : DataW.Trod enc P W 0 (fun _ => true) true t v d p) (hsz : (DataW.weightsEach P ts ds).all (· ≤ reachBytes) = true) (hj : ts[j]? = some t) (hd : ds[j]? = some d) : ∃ a : α, v = .agg (cells a).toArray ∧ ok Any W a := by
  obtain ⟨arr, rfl, -⟩ := okWide_struct ht hv
  obtain ⟨fuel, h⟩ := h
  obtain ⟨a, ha, hok⟩ := hr H enc W fuel _ _ h (fun n hn => by have := List.all_eq_true.1 hsz _ (DataW.weights_mem_each hj hd n hn); simpa using this)
  refine ⟨a, ?_, hok⟩
  have ha' : arr.toList = cells a := ha
  rw [← ha']
/-- An argument of one cell. -/
theorem rd_arg1 {H : Type} {enc : TypeId × Value → H} {W : World} {j : Nat} {α : Type} {V : α → Value} {ok : (Nat → Prop) → World → α → Prop} {v : Value} {d : DataW H} {p : List MemPlace} {ts : List TypeId} {ds : List (DataW H)}
    (hr : Rd P t (fun x => [V x]) ok) (hna : v.cells = #[v]) (h : DataW.Trod enc P W 0 (fun _ => true) true t v d p) (hsz : (DataW.weightsEach P ts ds).all (· ≤ reachBytes) = true) (hj : ts[j]? = some t) (hd : ds[j]? = some d) : ∃ a : α, v = V a ∧ ok Any W a := by
  obtain ⟨fuel, h⟩ := h
  rw [hna] at h
  obtain ⟨a, ha, hok⟩ := hr H enc W fuel _ _ h (fun n hn => by have := List.all_eq_true.1 hsz _ (DataW.weights_mem_each hj hd n hn); simpa using this)
  simp only [List.cons.injEq, and_true] at ha
  exact ⟨a, ha, hok⟩
end
end Go.Proofs.YtnjhekfgmbpmlaaDoor.Eng
namespace Go.Proofs.YtnjhekfgmbpmlaaDoor.Eng
open Go Go.Proofs.YtnjhekfgmbpmlaaDoor.Mem Go.ChangeShapes Go.WideShapes Go.Deep
set_option linter.unusedSimpArgs false
set_option linter.unusedVariables false
section
variable {P : Program} {N : Nat} {env : Env} {ds : List Deferred} {A : AW} {ops : Array Oper} {l : List Oper} {s : List Kt} {Q : Exit → Act → World → Prop}
/-- The next operation appends a list of data to a row. -/
theorem l_pushSB {α : Type} (base i k : Nat) (xs ys : List α) (ya : Option Addr) (cells : α → List Value) (e : TypeId) (sz by' : Nat) (v : Value) (m cp : Nat) (c0 : Ch) (d : Option Nat) (h63 : xs.length + ys.length ≤ 281474976710656) (hbytes : (xs.length + ys.length) * by' ≤ 140737488355328) (hbase : base ≤ A.n) (hd : ∀ w', c0.holds w' → SlAt cells sz Any w' ⟨ya, cp, ys⟩)
    (K : ∀ a' cap' n', A.n ≤ n' → Lg P N (putE env d (.slice a' (xs ++ ys).length cap')) ds { A with n := n', σ := A.σ.set i (rowL base e sz cells (.slice a' (xs ++ ys).length cap') (xs ++ ys)) } ops (l.drop 1) s Q)
    (hm : ys.length = m := by rfl) (h : (match l with | o :: _ => (appS P N ops env o).map (fun x => (x, o.dst)) | [] => none) = some ((e, sz, by', v, ya, m, cp), d) := by as_aux_lemma => kernel_rfl) (hi : A.σ[i]? = some (rowL base e sz cells v xs) := by rfl) (hk : A.σ[k]? = some c0 := by rfl) (hsz : ∀ x, (cells x).length = sz := by intro _; rfl) (h1 : ∀ x, (cells x).all Value.oneCell' = true := by intro _; rfl) : Lg P N env ds A ops l s Q := by
  intro a w hst
  cases l with
  | nil => cases h
  | cons o l =>
    simp only [Option.map_eq_some_iff] at h
    obtain ⟨y, hy, h⟩ := h
    simp only [Prod.mk.injEq] at h
    obtain ⟨rfl, rfl⟩ := h
    obtain ⟨hw, hdst, a', cap', w', hr, hsz', hs'⟩ := appS_run (xs := xs) (ys := ys) hy hst hi hsz (fun x u hu => List.all_eq_true.1 (h1 x) u hu) (hd w (hst.mem.at hk)) hm (by unfold maxLen; omega) (by rw [← hm]; exact hbytes) hbase
    refine step_yields hw (.inl hr) ?_
    exact K a' cap' _ hsz' _ _ (hst.put hs' _ hdst _)
end
section
variable {P : Program} {t : TypeId}
theorem rd_sliceB {α : Type} [Inhabited α] {cells : α → List Value} {ok : (Nat → Prop) → World → α → Prop} {e : TypeId} {sz : Nat} (ht : P.underlying t = some (.slice e)) (hc : P.cellsOf e = sz) (hsz : ∀ x, (cells x).length = sz) (hs0 : 0 < sz) (hpos : Nat.blt 0 (P.bytesOf e) = true) (h : Rd P e cells ok) :
    Rd P t (fun s : Sl α => [s.val]) (fun F W s => SlOk cells sz ok F W s ∧ s.xs.length * P.bytesOf e ≤ reachBytes) := by
  intro H enc W fuel cs x hx hw
  rcases open_slice ht hx with ⟨rfl, rfl⟩ | ⟨a, len, cap, m, n, D, Pl, rfl, hb, hl, hm, hmm, rfl, hi⟩
  · exact ⟨⟨none, 0, []⟩, rfl, ⟨⟨Nat.zero_le _, Nat.le_refl _, fun h => absurd rfl h⟩, fun i hi => absurd hi (Nat.not_lt_zero i)⟩, by simp⟩
  · simp only [if_true] at hmm
    subst hmm
    rw [hc] at hi
    have hww : ∀ q ∈ DataW.weightsAll P e ((List.range len).map D), q ≤ reachBytes := fun q hq => hw q (by simp only [DataW.weights, ht, List.mem_cons, List.mem_append]; exact .inr (.inl hq))
    have hY : ∀ i, i < len → ∃ y : α, (W.cells? 0 (a.add (i * sz)) sz = some (cells y)) ∧ ok Any W y := by
      intro i hi'
      obtain ⟨cs', h1, h2⟩ := hi i (by omega)
      obtain ⟨y, rfl, hy⟩ := h H enc W n cs' _ h2 (fun q hq => hww q (weightsAll_mem (d := D i) (List.mem_map_of_mem (List.mem_range.2 hi')) q hq))
      exact ⟨y, h1, hy⟩
    obtain ⟨Y, hY⟩ := choose_lt hY
    have hbig : (len + (m - len)) * P.bytesOf e ≤ reachBytes := hw _ (by simp [DataW.weights, ht])
    have hlen : len + (m - len) ≤ 140737488351232 := Nat.le_trans (Nat.le_mul_of_pos_right _ (by simpa using hpos)) hbig
    have hg : ∀ i, i < len → gd ((List.range len).map Y) i = Y i := fun i hi' => by rw [gd_eq (by simpa using hi')]; simp
    refine ⟨⟨some a, m, (List.range len).map Y⟩, by simp [Sl.val], ⟨⟨by simp; omega, by simpa using hl, fun hne => ?_⟩, fun i hi' => ?_⟩, Nat.le_trans (Nat.mul_le_mul_right _ (by simp)) hbig⟩
    · have h0 : 0 < len := by
        rcases Nat.eq_zero_or_pos len with h | h
        · subst h; exact absurd rfl hne
        · exact h
      have hsp : a.spot = none := by
        obtain ⟨-, -, h3⟩ := World.cells?_some (hY 0 h0).1
        have h4 := h3 0 hs0
        rw [List.getElem?_eq_getElem (by rw [hsz]; exact hs0)] at h4
        have := World.cell?_spot h4
        simpa [Addr.add] using this
      obtain ⟨b, off, sp⟩ := a
      simp only at hsp; subst hsp
      refine ⟨b, off, rfl, trivial, fun i hi' k v hv => ?_⟩
      have hi2 : i < len := by simpa using hi'
      obtain ⟨-, -, h3⟩ := World.cells?_some (hY i hi2).1
      have hv' : (cells (Y i))[k]? = some v := by simpa using hv
      have hk : k < sz := by rw [← hsz (Y i)]; exact (List.getElem?_eq_some_iff.1 hv').1
      have := h3 k hk
      rw [hv'] at this
      rw [offs_eq]
      have e1 : (⟨b, off, none⟩ : Addr).add (i * sz) = ⟨b, off + i * sz, none⟩ := addr_eta rfl _
      have e2 : (⟨b, off + i * sz, none⟩ : Addr).add k = ⟨b, off + i * sz + k, none⟩ := addr_eta rfl _
      rw [e1, e2] at this
      exact this
    · have hi2 : i < len := by simpa using hi'
      rw [hg i hi2]; exact (hY i hi2).2
end
end Go.Proofs.YtnjhekfgmbpmlaaDoor.Eng
namespace Go.Proofs.YtnjhekfgmbpmlaaDoor.Ad
open Go Go.Proofs.YtnjhekfgmbpmlaaDoor.Eng Go.Proofs.YtnjhekfgmbpmlaaDoor.Mem Go.Proofs.YtnjhekfgmbpmlaaDoor.Ly
set_option linter.unusedSimpArgs false
set_option linter.unusedVariables false
set_option maxRecDepth 100000
/-- What memory can hold. -/
structure Lim (c : TConfig) : Prop where
  cl : c.Cores.xs.length * 24 ≤ 140737488351232
  pl : c.Partitions.xs.length * 104 ≤ 140737488351232
  hl : c.Channels.xs.length * 24 ≤ 140737488351232
  ws : ∀ i, i < c.Cores.xs.length → (gd c.Cores.xs i).xs.length * 24 ≤ 140737488351232
  rs : ∀ i, i < c.Partitions.xs.length → (gd c.Partitions.xs i).Regions.xs.length * 32 ≤ 140737488351232
  qs : ∀ i, i < c.Partitions.xs.length → (gd c.Partitions.xs i).Ports.xs.length * 16 ≤ 140737488351232
/-- The lists of a configuration of one's own: rows that lie apart. -/
def confS (n : Nat) (C : TConfig) : List Ch := [rowL n 42 1 (fun x : Sl TWindow => [Sl.val x]) C.Cores.val C.Cores.xs, famC n 44 3 TWindow.cells C.Cores.xs, rowL n 41 8 TPartition.cells C.Partitions.val C.Partitions.xs, famC n 49 4 TRegion.cells (C.Partitions.xs.map TPartition.Regions), famC n 57 2 TPort.cells (C.Partitions.xs.map TPartition.Ports), rowL n 55 3 TChannel.cells C.Channels.val C.Channels.xs]
def ConfOwn (n : Nat) (W : World) (C : TConfig) : Prop := ∃ w0, Sat ⟨w0, W.heap.size, confS n C⟩ W
theorem str_xs {c d : TConfig} (h : strip d = strip c) : d.Cores.xs.length = c.Cores.xs.length ∧ d.Partitions.xs.length = c.Partitions.xs.length ∧ d.Channels.xs = c.Channels.xs ∧ (∀ i, (gd d.Cores.xs i).xs = (gd c.Cores.xs i).xs) ∧ ∀ i, stripP (gd d.Partitions.xs i) = stripP (gd c.Partitions.xs i) := by
  refine ⟨?_, ?_, ?_, fun i => ?_, fun i => ?_⟩
  · rw [← str_cl (c := d), h, str_cl]
  · rw [← str_pl (c := d), h, str_pl]
  · show (strip d).Channels.xs = (strip c).Channels.xs
    rw [h]
  · have e1 := str_c (c := d) i
    have e2 := str_c (c := c) i
    rw [h] at e1
    have := congrArg Sl.xs (e1.symm.trans e2)
    exact this
  · have e1 := str_p (c := d) i
    have e2 := str_p (c := c) i
    rw [h] at e1
    exact e1.symm.trans e2
theorem own_ok {c d : TConfig} {n : Nat} {W W0 : World} {F : Nat → Prop} (hc : TConfig.ok F W0 c) (h : strip d = strip c) (ho : ConfOwn n W d) : TConfig.ok (New n) W d := by
  obtain ⟨w0, hs⟩ := ho
  obtain ⟨h1, h2, h3, h4, h5⟩ := str_xs h
  have r1 : W.ownsRow n 42 1 (.slice d.Cores.a d.Cores.xs.length d.Cores.cap) d.Cores.xs.length (d.Cores.xs.flatMap (fun x : Sl TWindow => [Sl.val x])) := hs.at (i := 0) rfl
  have r2 : (famC n 44 3 TWindow.cells d.Cores.xs).holds W := hs.at (i := 1) rfl
  have r3 : W.ownsRow n 41 8 (.slice d.Partitions.a d.Partitions.xs.length d.Partitions.cap) d.Partitions.xs.length (d.Partitions.xs.flatMap TPartition.cells) := hs.at (i := 2) rfl
  have r4 : (famC n 49 4 TRegion.cells (d.Partitions.xs.map TPartition.Regions)).holds W := hs.at (i := 3) rfl
  have r5 : (famC n 57 2 TPort.cells (d.Partitions.xs.map TPartition.Ports)).holds W := hs.at (i := 4) rfl
  have r6 : W.ownsRow n 55 3 (.slice d.Channels.a d.Channels.xs.length d.Channels.cap) d.Channels.xs.length (d.Channels.xs.flatMap TChannel.cells) := hs.at (i := 5) rfl
  have nums := congrArg (fun c : TConfig => (c.Frames, c.Major, c.Kernel, c.Room)) h
  simp only [Prod.mk.injEq] at nums
  obtain ⟨n1, n2, n3, n4⟩ := nums
  have n1' : d.Frames = c.Frames := n1
  have n2' : d.Major = c.Major := n2
  have n3' : d.Kernel = c.Kernel := n3
  have n4' : d.Room = c.Room := n4
  refine ⟨by rw [n1']; exact hc.Frames, by rw [n2']; exact hc.Major, by rw [n3']; exact hc.Kernel, by rw [n4']; exact hc.Room, ⟨?_, fun i hi => ?_⟩, ⟨?_, fun i hi => ?_⟩, ⟨?_, fun i hi => ?_⟩⟩
  · exact row_sl (fun _ => rfl) r1 (by rw [h1]; exact hc.Cores.1.len)
  · have hi' : i < c.Cores.xs.length := by omega
    refine ⟨fam_sl (cells := TWindow.cells) (hs := d.Cores.xs) (s := gd d.Cores.xs i) (fun _ => rfl) r2 (by rw [gd_eq hi]; exact List.getElem_mem _) (by rw [h4]; exact (hc.Cores.2 i hi').1.len), fun j hj => ?_⟩
    rw [h4] at hj ⊢
    have := (hc.Cores.2 i hi').2 j hj
    exact ⟨this.Partition, this.Usable, this.Slack⟩
  · exact row_sl (fun _ => rfl) r3 (by rw [h2]; exact hc.Partitions.1.len)
  · have hi' : i < c.Partitions.xs.length := by omega
    have hp := hc.Partitions.2 i hi'
    have e := h5 i
    have m1 := congrArg (fun x : TPartition => (x.Name, x.Entry, x.Action, x.Restarts, x.Inputs, x.Outputs)) e
    simp only [Prod.mk.injEq] at m1
    obtain ⟨a1, a2, a3, a4, a5, a6⟩ := m1
    have b1 : (gd d.Partitions.xs i).Name = (gd c.Partitions.xs i).Name := a1
    have b2 : (gd d.Partitions.xs i).Entry = (gd c.Partitions.xs i).Entry := a2
    have b3 : (gd d.Partitions.xs i).Action = (gd c.Partitions.xs i).Action := a3
    have b4 : (gd d.Partitions.xs i).Restarts = (gd c.Partitions.xs i).Restarts := a4
    have b5 : (gd d.Partitions.xs i).Inputs = (gd c.Partitions.xs i).Inputs := a5
    have b6 : (gd d.Partitions.xs i).Outputs = (gd c.Partitions.xs i).Outputs := a6
    have e1 : (gd d.Partitions.xs i).Regions.xs = (gd c.Partitions.xs i).Regions.xs := by have := congrArg (fun x : TPartition => x.Regions.xs) e; exact this
    have e2 : (gd d.Partitions.xs i).Ports.xs = (gd c.Partitions.xs i).Ports.xs := by have := congrArg (fun x : TPartition => x.Ports.xs) e; exact this
    have hm : gd d.Partitions.xs i ∈ d.Partitions.xs := by rw [gd_eq hi]; exact List.getElem_mem _
    refine ⟨by rw [b1]; exact hp.Name, by rw [b2]; exact hp.Entry, by rw [b3]; exact hp.Action, by rw [b4]; exact hp.Restarts, by rw [b5]; exact hp.Inputs, by rw [b6]; exact hp.Outputs, ⟨fam_sl (cells := TRegion.cells) (fun _ => rfl) r4 (List.mem_map_of_mem hm) (by rw [e1]; exact hp.Regions.1.len), fun j hj => ?_⟩, ⟨fam_sl (cells := TPort.cells) (fun _ => rfl) r5 (List.mem_map_of_mem hm) (by rw [e2]; exact hp.Ports.1.len), fun j hj => ?_⟩⟩
    · rw [e1] at hj ⊢
      have := hp.Regions.2 j hj
      exact ⟨this.Page, this.Pages, this.Frame, this.Rights⟩
    · rw [e2] at hj ⊢
      have := hp.Ports.2 j hj
      exact ⟨this.Channel, this.Source⟩
  · exact row_sl (fun _ => rfl) r6 (by rw [h3]; exact hc.Channels.1.len)
  · rw [h3] at hi ⊢
    have := hc.Channels.2 i hi
    exact ⟨this.Kind, this.Words, this.Depth⟩
theorem strip_of {c d : TConfig} (h0 : d.Frames = c.Frames ∧ d.Major = c.Major ∧ d.Kernel = c.Kernel ∧ d.Room = c.Room) (h1 : d.Cores.xs.length = c.Cores.xs.length) (h2 : d.Partitions.xs.length = c.Partitions.xs.length) (h3 : d.Channels.xs = c.Channels.xs) (h4 : ∀ i, i < c.Cores.xs.length → (gd d.Cores.xs i).xs = (gd c.Cores.xs i).xs) (h5 : ∀ i, i < c.Partitions.xs.length → stripP (gd d.Partitions.xs i) = stripP (gd c.Partitions.xs i)) : strip d = strip c := by
  have e1 : d.Cores.xs.map stripS = c.Cores.xs.map stripS := by
    apply List.ext_getElem (by simpa using h1)
    intro i hi hi'
    have := h4 i (by simpa using hi')
    rw [gd_eq (by simpa using hi), gd_eq (by simpa using hi')] at this
    simp [stripS, this]
  have e2 : d.Partitions.xs.map stripP = c.Partitions.xs.map stripP := by
    apply List.ext_getElem (by simpa using h2)
    intro i hi hi'
    have := h5 i (by simpa using hi')
    rw [gd_eq (by simpa using hi), gd_eq (by simpa using hi')] at this
    simpa using this
  obtain ⟨f1, f2, f3, f4⟩ := h0
  unfold strip
  rw [e1, e2, f1, f2, f3, f4]
  simp only [stripS, h3]
abbrev q7o7_0 (n24 : Nat) (y33 : TPartition) (ax34 : Option Addr) (cp35 : Nat) (ax38 : Option Addr) (cp39 : Nat) : Ch := bk n24 #[.string y33.Name, i6 y33.Entry, i6 y33.Action, i6 y33.Restarts, i6 y33.Inputs, i6 y33.Outputs, .slice ax34 (([] ++ y33.Regions.xs).length) cp35, .slice ax38 (([] ++ y33.Ports.xs).length) cp39] 41
abbrev q7o7_1 (z : Nat) (c : TConfig) (aC : Option Addr) (csG : List (Sl TWindow)) (cC : Nat) : Ch := bk (z + 2) #[i6 c.Frames, i6 c.Major, i6 c.Kernel, i6 c.Room, .slice aC csG.length cC, .slice c.Partitions.a c.Partitions.xs.length c.Partitions.cap, .slice c.Channels.a c.Channels.xs.length c.Channels.cap] 26
abbrev q7o7_2 (z : Nat) (c : TConfig) (aC : Option Addr) (csG : List (Sl TWindow)) (cC : Nat) (b42 : Nat) (psG : List TPartition) (cP : Nat) : Ch := bk (z + 2) #[i6 c.Frames, i6 c.Major, i6 c.Kernel, i6 c.Room, .slice aC csG.length cC, .slice (some ⟨b42, 0, none⟩) psG.length cP, .slice c.Channels.a c.Channels.xs.length c.Channels.cap] 26
abbrev q7o7_3 (z : Nat) (c : TConfig) (aC : Option Addr) (csG : List (Sl TWindow)) (cC : Nat) (aP : Option Addr) (psG : List TPartition) (cP : Nat) : Ch := bk (z + 2) #[i6 c.Frames, i6 c.Major, i6 c.Kernel, i6 c.Room, .slice aC csG.length cC, .slice aP psG.length cP, .slice c.Channels.a c.Channels.xs.length c.Channels.cap] 26
abbrev q7o7_4 (z : Nat) : Ch := bk (z + 1) #[i6 0, i6 0, i6 0, i6 0, .slice none 0 0, .slice none 0 0, .slice none 0 0] 26
abbrev q7o7_5 (z : Nat) (c : TConfig) : Ch := bk z (TConfig.arr c) 26
abbrev q7o7_6 (z : Nat) (b42 : Nat) (psG : List TPartition) (cP : Nat) (p : Nat) (y33 : TPartition) (ax34 : Option Addr) (cp35 : Nat) (ax38 : Option Addr) (cp39 : Nat) : Ch := rowL z 41 8 TPartition.cells (.slice (some ⟨b42, 0, none⟩) psG.length cP) (psG.set p (⟨y33.Name, y33.Entry, y33.Action, y33.Restarts, y33.Inputs, y33.Outputs, (⟨ax34, cp35, ([] ++ y33.Regions.xs)⟩ : Sl TRegion), (⟨ax38, cp39, ([] ++ y33.Ports.xs)⟩ : Sl TPort)⟩ : TPartition))
abbrev q7o7_7 (z : Nat) (aC : Option Addr) (csG : List (Sl TWindow)) (cC : Nat) : Ch := rowL z 42 1 (fun x : Sl TWindow => [Sl.val x]) (.slice aC csG.length cC) csG
abbrev q7o7_8 (z : Nat) (psG : List TPartition) (p : Nat) : Ch := famC z 49 4 TRegion.cells ((psG.take p).map TPartition.Regions)
abbrev q7o7_9 (z : Nat) (psG : List TPartition) (p : Nat) : Ch := famC z 57 2 TPort.cells ((psG.take p).map TPartition.Ports)
abbrev q7o7_10 (z : Nat) (aP : Option Addr) (psG : List TPartition) (cP : Nat) : Ch := rowL z 41 8 TPartition.cells (.slice aP psG.length cP) psG
abbrev q7o7_11 (z : Nat) : Nat × Value := (2, pt (z + 1))
abbrev q7o7_12 (z : Nat) : Nat × Value := (3, pt (z + 2))
set_option maxHeartbeats 2000000 in
theorem copied_calls (w : World) (c : TConfig) (hc : TConfig.ok Any w c) (hLim : Lim c) : Calls Tryd.prog 11 #[.agg (TConfig.arr c)] w fun e w' => ∃ d : TConfig, e = .returned (.agg (TConfig.arr d)) ∧ strip d = strip c ∧ ConfOwn w.heap.size w' d ∧ Keeps (fun _ => False) w w' := by
 obtain ⟨z, hz⟩ : ∃ z, z = w.heap.size := ⟨_, rfl⟩
 refine calls_G (args := [.agg (TConfig.arr c)]) 77 ⟨w, z, [(old0 w)]⟩ Tryd.func11 rfl (by kernel_rfl) (by kernel_rfl) (sat_0 hz) ?_
 have hpl := hc.Partitions.1.len; have hpc := hc.Cores.1.len; have hpch := hc.Channels.1.len; have hll1 := hLim.cl; have hll2 := hLim.pl; have hll3 := hLim.hl
 refine g_keep [0] [(0, .agg (TConfig.arr c))] ?_
 refine q_c 10 3 [] [[o0, o0], [(an 7 1), o0, (an 7 3)], [o0, (a1 1), o0]] [Qb z, Qb z, Qb z, Qb z, Qb z, Qb z, Qb z, Qb (z + 2), Qb (z + 2), Qb (z + 2), Qb (z + 2), Qb (z + 2), Qb (z + 2), Qb (z + 2), Qb z] [(1, pt z), (q7o7_11 z), (q7o7_12 z), (14, i6 ((c.Cores.xs.length : Nat) : Int))] ⟨w, z + 3, [(old0 w), (q7o7_5 z c), (q7o7_4 z), (bk (z + 2) (TConfig.arr c) 26)]⟩ rfl ⟨rfl, rfl, rfl, rfl, rfl, rfl, rfl, rfl, rfl, rfl, rfl, rfl, rfl, rfl, rfl, trivial⟩ ?_
 refine l_makeB z c.Cores.xs.length (⟨none, 0, []⟩ : Sl TWindow) (fun x : Sl TWindow => [Sl.val x]) 42 1 24 (.slice none 0 0) (((c.Cores.xs.length : Nat) : Int) : Int) (((c.Cores.xs.length : Nat) : Int) : Int) (some 15) rfl rfl (by omega) (by omega) (show z ≤ z + 3 by omega) (fun n1 (hn2 : z + 3 + 1 ≤ n1) => ?_)
 refine q_r 8 0 [] [[o0, (a1 3)], [o0]] [Qb (z + 2)] [(1, pt z), (q7o7_11 z), (q7o7_12 z), (4, i6 0)] ⟨w, n1, [(old0 w), (q7o7_5 z c), (q7o7_4 z), (bk (z + 2) #[i6 c.Frames, i6 c.Major, i6 c.Kernel, i6 c.Room, .slice (some ⟨z + 3, 0, none⟩) c.Cores.xs.length c.Cores.xs.length, .slice c.Partitions.a c.Partitions.xs.length c.Partitions.cap, .slice c.Channels.a c.Channels.xs.length c.Channels.cap] 26), (rowL z 42 1 (fun x : Sl TWindow => [Sl.val x]) (.slice (some ⟨z + 3, 0, none⟩) c.Cores.xs.length c.Cores.xs.length) (List.replicate c.Cores.xs.length (⟨none, 0, []⟩ : Sl TWindow)))]⟩ rfl ⟨rfl, trivial⟩ ?_
 refine g_fam0 z 44 3 TWindow.cells ?_
 refine g_loop (fun m a w' => ∃ (n4 : Nat) (i : Nat) (csG : List (Sl TWindow)) (aC : Option Addr) (cC : Nat), m = c.Cores.xs.length - i ∧ n1 ≤ n4 ∧ (i ≤ c.Cores.xs.length) ∧ (csG.length = c.Cores.xs.length) ∧ (∀ q, q < i → (gd csG q).xs = (gd c.Cores.xs q).xs) ∧ St 77 [(1, pt z), (q7o7_11 z), (q7o7_12 z), (4, i6 (i : Int))] [] ⟨w, n4, [(old0 w), (q7o7_5 z c), (q7o7_4 z), (q7o7_1 z c aC csG cC), (q7o7_7 z aC csG cC), (famC z 44 3 TWindow.cells (csG.take i))]⟩ a w') (c.Cores.xs.length - 0) ?_ ?_
 · intro a w' hs; exact ⟨n1, 0, (List.replicate c.Cores.xs.length ⟨none, 0, []⟩), (some ⟨z + 3, 0, none⟩), c.Cores.xs.length, rfl, Nat.le_refl _, Nat.zero_le _, List.length_replicate, fun q hq => absurd hq (Nat.not_lt_zero q), (by (try dsimp only [q7o7_0, q7o7_1, q7o7_2, q7o7_3, q7o7_4, q7o7_5, q7o7_6, q7o7_7, q7o7_8, q7o7_9, q7o7_10, q7o7_11, q7o7_12] at hs ⊢); rw [List.take_zero, List.length_replicate]; exact hs)⟩
 · rintro m a w' ⟨n4, i, csG, aC, cC, rfl, hn3, hki, hcl, hc1, hs⟩
   refine (?_ : G Tryd.prog 77 [(1, pt z), (q7o7_11 z), (q7o7_12 z), (4, i6 (i : Int))] [] ⟨w, n4, [(old0 w), (q7o7_5 z c), (q7o7_4 z), (q7o7_1 z c aC csG cC), (q7o7_7 z aC csG cC), (famC z 44 3 TWindow.cells (csG.take i))]⟩ _ _ _) a w' hs
   clear hs a w'
   refine g_seq <| g_seq ?_
   by_cases h5 : ((i : Int) : Int) < ((c.Cores.xs.length : Nat) : Int)
   · refine q_cS 13 0 [1] [[o0, o0, (a1 1), o0, oT], [o0]] [Qb z, BT (((i : Int) : Int) < ((c.Cores.xs.length : Nat) : Int))] [(1, pt z), (q7o7_11 z), (q7o7_12 z), (4, i6 (i : Int)), (5, .slice none 0 0)] rfl ⟨rfl, bt (by omega), trivial⟩ ?_
     obtain ⟨b6, o7, ha8, hF10, hc9⟩ := (hc.Cores).1.all (show 0 < c.Cores.xs.length by omega)
     replace ha8 : c.Cores.a = some ⟨b6, o7, none⟩ := ha8
     have hc11 := hc9 i (show i < c.Cores.xs.length by omega)
     have he12 := (hc.Cores).2 i (show i < c.Cores.xs.length by omega)
     obtain ⟨y13, hy13⟩ : ∃ y_, y_ = gd c.Cores.xs i := ⟨_, rfl⟩
     rw [← hy13] at he12 hc11
     have hlw := hLim.ws i (by omega); rw [← hy13] at hlw; have hyl := he12.1.len
     refine q_cS 1 6 [] [[o0, o0, ⟨.auto [.at 1], some (.slice (some ⟨b6, o7, none⟩) c.Cores.xs.length c.Cores.cap)⟩, o0, (oi i), (oa [.via 0 (.slice y13.a y13.xs.length y13.cap)])]] [Qb z, Value.slice c.Cores.a c.Cores.xs.length c.Cores.cap = Value.slice (some ⟨b6, o7, none⟩) c.Cores.xs.length c.Cores.cap, ((i : Int) : Int) = ((i : Nat) : Int), i < c.Cores.xs.length, (none : Option Nat) = none, Old w b6 (o7 + i) (.slice y13.a y13.xs.length y13.cap)] [(1, pt z), (q7o7_11 z), (q7o7_12 z), (4, i6 (i : Int)), (24, .slice none 0 0), (29, .slice y13.a y13.xs.length y13.cap)] rfl ⟨rfl, congrArg (fun a => Value.slice a _ _) ha8, rfl, (by omega), rfl, old_cell' (hc11 0 _ rfl), trivial⟩ ?_
     refine l_rowL z 44 3 TWindow.cells ?_
     refine l_pushSB z 6 0 ([]) y13.xs y13.a TWindow.cells 44 3 24 (.slice none 0 0) y13.xs.length y13.cap (old0 w) (some 30) (by simp only [List.length_nil]; omega) (by simp only [List.length_nil]; omega) (show z ≤ n4 by omega) (fun w' hw => sl_mono (fun b k v _ hv => old_cell' hv w' hw) (fun _ h => h) (he12).1) (fun ax14 cp15 n16 (hn17 : n4 ≤ n16) => ?_)
     refine q_rS 2 0 [] [[o0]] [] [(1, pt z), (q7o7_11 z), (q7o7_12 z), (4, i6 (i : Int)), (5, .slice ax14 (([] ++ y13.xs).length) cp15)] rfl trivial ?_
     refine g_rowat (base := z) (e := 42) (sz := 1) (cells := (fun x : Sl TWindow => [Sl.val x])) (a := aC) (n := csG.length) (cap := cC) (xs := csG) 4 (by omega) (fun b18 hg19 hb20 => ?_)
     subst hg19
     refine q_cS 1 5 [] [[o0, (a1 3), o0, o0, (oi i)]] [Qb (z + 2), ((i : Int) : Int) = ((i : Nat) : Int), i < csG.length, (none : Option Nat) = none] [(1, pt z), (q7o7_11 z), (q7o7_12 z), (4, i6 (i : Int)), (34, .slice ax14 (([] ++ y13.xs).length) cp15), (35, .pointer (some ⟨b18, 0 + i, none⟩))] rfl ⟨rfl, rfl, (by omega), rfl, trivial⟩ ?_
     refine l_rowset 4 i 0 csG (⟨ax14, cp15, ([] ++ y13.xs)⟩ : Sl TWindow) (fun x : Sl TWindow => [Sl.val x]) z 42 1 b18 csG.length cC (.slice ax14 (([] ++ y13.xs).length) cp15) none (by omega) rfl ?_
     refine q_rS 5 0 [] [[], [o0, (ov (i6 ((i + 1 : Nat) : Int))), o0]] [Wr (((i : Int) : Int) + 1) (((i + 1 : Nat) : Int))] [(1, pt z), (q7o7_11 z), (q7o7_12 z), (4, i6 ((i + 1 : Nat) : Int))] rfl ⟨wrI, trivial⟩ ?_
     refine e_fam 5 6 [0, 1, 2, 3, 4] [(old0 w), (q7o7_5 z c), (q7o7_4 z), (bk (z + 2) #[i6 c.Frames, i6 c.Major, i6 c.Kernel, i6 c.Room, .slice (some ⟨b18, 0, none⟩) csG.length cC, .slice c.Partitions.a c.Partitions.xs.length c.Partitions.cap, .slice c.Channels.a c.Channels.xs.length c.Channels.cap] 26), (rowL z 42 1 (fun x : Sl TWindow => [Sl.val x]) (.slice (some ⟨b18, 0, none⟩) csG.length cC) (csG.set i (⟨ax14, cp15, ([] ++ y13.xs)⟩ : Sl TWindow)))] ?_
     refine e_keep [1, 2, 3, 4] [(1, pt z), (q7o7_11 z), (q7o7_12 z), (4, i6 ((i + 1 : Nat) : Int))] ?_
     refine e_inv (fun a w' hs => ⟨c.Cores.xs.length - (i + 1), by omega, n16, (i + 1), (csG.set i (⟨ax14, cp15, ([] ++ y13.xs)⟩ : Sl TWindow)), (some ⟨b18, 0, none⟩), cC, rfl, by omega, by omega, by rw [List.length_set]; exact hcl, fun q hq => if e : q = i then (by rw [e, gd_set (by omega), ← hy13]; rfl) else (by rw [gd_set_ne (fun e2 => e e2.symm) (by omega)]; exact hc1 q (by omega)), (by (try dsimp only [q7o7_0, q7o7_1, q7o7_2, q7o7_3, q7o7_4, q7o7_5, q7o7_6, q7o7_7, q7o7_8, q7o7_9, q7o7_10, q7o7_11, q7o7_12] at hs ⊢); rw [take_set_succ (by omega), List.length_set]; exact hs)⟩)
   · refine q_cS 11 3 [0] [[o0, o0, (a1 1), o0, oF], [o0, (a1 1), o0]] [Qb z, BF (((i : Int) : Int) < ((c.Cores.xs.length : Nat) : Int)), Qb z] [(1, pt z), (q7o7_11 z), (q7o7_12 z), (38, i6 ((c.Partitions.xs.length : Nat) : Int))] rfl ⟨rfl, bf (by omega), rfl, trivial⟩ ?_
     refine l_makeB z c.Partitions.xs.length (⟨⟨#[]⟩, 0, 0, 0, 0, 0, (⟨none, 0, []⟩ : Sl TRegion), (⟨none, 0, []⟩ : Sl TPort)⟩ : TPartition) TPartition.cells 41 8 104 (.agg #[.string (⟨#[]⟩), i6 0, i6 0, i6 0, i6 0, i6 0, .slice none 0 0, .slice none 0 0]) (((c.Partitions.xs.length : Nat) : Int) : Int) (((c.Partitions.xs.length : Nat) : Int) : Int) (some 39) rfl rfl (by omega) (by omega) (show z ≤ n4 by omega) (fun n21 (hn22 : n4 + 1 ≤ n21) => ?_)
     refine q_r 8 0 [] [[o0, (a1 3)], [o0]] [Qb (z + 2)] [(1, pt z), (q7o7_11 z), (q7o7_12 z), (6, i6 0)] ⟨w, n21, [(old0 w), (q7o7_5 z c), (q7o7_4 z), (bk (z + 2) #[i6 c.Frames, i6 c.Major, i6 c.Kernel, i6 c.Room, .slice aC csG.length cC, .slice (some ⟨n4, 0, none⟩) c.Partitions.xs.length c.Partitions.xs.length, .slice c.Channels.a c.Channels.xs.length c.Channels.cap] 26), (q7o7_7 z aC csG cC), (famC z 44 3 TWindow.cells (csG.take i)), (rowL z 41 8 TPartition.cells (.slice (some ⟨n4, 0, none⟩) c.Partitions.xs.length c.Partitions.xs.length) (List.replicate c.Partitions.xs.length (⟨⟨#[]⟩, 0, 0, 0, 0, 0, (⟨none, 0, []⟩ : Sl TRegion), (⟨none, 0, []⟩ : Sl TPort)⟩ : TPartition)))]⟩ rfl ⟨rfl, trivial⟩ ?_
     refine g_fam0 z 49 4 TRegion.cells ?_
     refine g_fam0 z 57 2 TPort.cells ?_
     refine g_loop (fun m a w' => ∃ (n24 : Nat) (p : Nat) (psG : List TPartition) (aP : Option Addr) (cP : Nat), m = c.Partitions.xs.length - p ∧ n21 ≤ n24 ∧ (p ≤ c.Partitions.xs.length) ∧ (psG.length = c.Partitions.xs.length) ∧ (∀ q, q < p → stripP (gd psG q) = stripP (gd c.Partitions.xs q)) ∧ St 77 [(1, pt z), (q7o7_11 z), (q7o7_12 z), (6, i6 (p : Int))] [] ⟨w, n24, [(old0 w), (q7o7_5 z c), (q7o7_4 z), (q7o7_3 z c aC csG cC aP psG cP), (q7o7_7 z aC csG cC), (famC z 44 3 TWindow.cells (csG.take i)), (q7o7_10 z aP psG cP), (q7o7_8 z psG p), (q7o7_9 z psG p)]⟩ a w') (c.Partitions.xs.length - 0) ?_ ?_
     · intro a w' hs; exact ⟨n21, 0, ((List.replicate c.Partitions.xs.length (⟨⟨#[]⟩, 0, 0, 0, 0, 0, (⟨none, 0, []⟩ : Sl TRegion), (⟨none, 0, []⟩ : Sl TPort)⟩ : TPartition))), (some ⟨n4, 0, none⟩), c.Partitions.xs.length, rfl, Nat.le_refl _, Nat.zero_le _, List.length_replicate, fun q hq => absurd hq (Nat.not_lt_zero q), (by (try dsimp only [q7o7_0, q7o7_1, q7o7_2, q7o7_3, q7o7_4, q7o7_5, q7o7_6, q7o7_7, q7o7_8, q7o7_9, q7o7_10, q7o7_11, q7o7_12] at hs ⊢); rw [List.take_zero, List.length_replicate]; exact hs)⟩
     · rintro m a w' ⟨n24, p, psG, aP, cP, rfl, hn23, hkp, hpl, hp1, hs⟩
       refine (?_ : G Tryd.prog 77 [(1, pt z), (q7o7_11 z), (q7o7_12 z), (6, i6 (p : Int))] [] ⟨w, n24, [(old0 w), (q7o7_5 z c), (q7o7_4 z), (q7o7_3 z c aC csG cC aP psG cP), (q7o7_7 z aC csG cC), (famC z 44 3 TWindow.cells (csG.take i)), (q7o7_10 z aP psG cP), (q7o7_8 z psG p), (q7o7_9 z psG p)]⟩ _ _ _) a w' hs
       clear hs a w'
       refine g_seq <| g_seq ?_
       by_cases h25 : ((p : Int) : Int) < ((c.Partitions.xs.length : Nat) : Int)
       · refine q_cS 9 0 [1] [[o0, o0, (a1 1), o0, oT]] [Qb z, BT (((p : Int) : Int) < ((c.Partitions.xs.length : Nat) : Int))] [(1, pt z), (q7o7_11 z), (q7o7_12 z), (6, i6 (p : Int)), (45, .bool true)] rfl ⟨rfl, bt (by omega), trivial⟩ ?_
         obtain ⟨b26, o27, ha28, hF30, hc29⟩ := (hc.Partitions).1.all (show 0 < c.Partitions.xs.length by omega)
         replace ha28 : c.Partitions.a = some ⟨b26, o27, none⟩ := ha28
         have hc31 := hc29 p (show p < c.Partitions.xs.length by omega)
         have he32 := (hc.Partitions).2 p (show p < c.Partitions.xs.length by omega)
         obtain ⟨y33, hy33⟩ : ∃ y_, y_ = gd c.Partitions.xs p := ⟨_, rfl⟩
         rw [← hy33] at he32 hc31
         have hlr := hLim.rs p (by omega); have hlq := hLim.qs p (by omega); rw [← hy33] at hlr hlq
         refine q_c 9 3 [] [[o0, ⟨.auto [.at 1], some (.slice (some ⟨b26, o27, none⟩) c.Partitions.xs.length c.Partitions.cap)⟩, o0, (oi p), (ol 0 (TPartition.arr y33)), o0, (an 8 9)], [o0], [o0, o0, (a1 9)]] [Qb z, Value.slice c.Partitions.a c.Partitions.xs.length c.Partitions.cap = Value.slice (some ⟨b26, o27, none⟩) c.Partitions.xs.length c.Partitions.cap, ((p : Int) : Int) = ((p : Nat) : Int), p < c.Partitions.xs.length, (none : Option Nat) = none, OldR w b26 (o27 + p * 8) (TPartition.arr y33), Qb n24, Qb n24, Qb n24, Qb n24, Qb n24, Qb n24, Qb n24, Qb n24, Qb n24] [(1, pt z), (q7o7_11 z), (q7o7_12 z), (6, i6 (p : Int)), (7, pt n24), (53, .slice none 0 0), (55, .slice y33.Regions.a y33.Regions.xs.length y33.Regions.cap)] ⟨w, n24 + 1, [(old0 w), (q7o7_5 z c), (q7o7_4 z), (q7o7_3 z c aC csG cC aP psG cP), (q7o7_7 z aC csG cC), (famC z 44 3 TWindow.cells (csG.take i)), (q7o7_10 z aP psG cP), (q7o7_8 z psG p), (q7o7_9 z psG p), (bk n24 (TPartition.arr y33) 41)]⟩ rfl ⟨rfl, congrArg (fun a => Value.slice a _ _) ha28, rfl, (by omega), rfl, old_row hc31, rfl, rfl, rfl, rfl, rfl, rfl, rfl, rfl, rfl, trivial⟩ ?_
         refine l_rowL z 49 4 TRegion.cells ?_
         refine l_pushSB z 10 0 ([]) y33.Regions.xs y33.Regions.a TRegion.cells 49 4 32 (.slice none 0 0) y33.Regions.xs.length y33.Regions.cap (old0 w) (some 56) (by simp only [List.length_nil]; omega) (by simp only [List.length_nil]; omega) (show z ≤ n24 + 1 by omega) (fun w' hw => sl_mono (fun b k v _ hv => old_cell' hv w' hw) (fun _ h => h) (he32.Regions).1) (fun ax34 cp35 n36 (hn37 : n24 + 1 ≤ n36) => ?_)
         refine q_rS 8 3 [] [[o0], [o0], [o0, o0, (a1 9)]] [Qb n24] [(1, pt z), (q7o7_11 z), (q7o7_12 z), (6, i6 (p : Int)), (7, pt n24), (8, .slice ax34 (([] ++ y33.Regions.xs).length) cp35), (57, .slice none 0 0), (59, .slice y33.Ports.a y33.Ports.xs.length y33.Ports.cap)] rfl ⟨rfl, trivial⟩ ?_
         refine l_rowL z 57 2 TPort.cells ?_
         refine l_pushSB z 11 0 ([]) y33.Ports.xs y33.Ports.a TPort.cells 57 2 16 (.slice none 0 0) y33.Ports.xs.length y33.Ports.cap (old0 w) (some 60) (by simp only [List.length_nil]; omega) (by simp only [List.length_nil]; omega) (show z ≤ n36 by omega) (fun w' hw => sl_mono (fun b k v _ hv => old_cell' hv w' hw) (fun _ h => h) (he32.Ports).1) (fun ax38 cp39 n40 (hn41 : n36 ≤ n40) => ?_)
         refine q_r 10 0 [] [[o0], [o0, o0, (a1 9)], [o0, o0, (a1 9)]] [Qb n24, Qb n24] [(1, pt z), (q7o7_11 z), (q7o7_12 z), (6, i6 (p : Int)), (7, pt n24)] ⟨w, n40, [(old0 w), (q7o7_5 z c), (q7o7_4 z), (q7o7_3 z c aC csG cC aP psG cP), (q7o7_7 z aC csG cC), (famC z 44 3 TWindow.cells (csG.take i)), (q7o7_10 z aP psG cP), (q7o7_8 z psG p), (q7o7_9 z psG p), (q7o7_0 n24 y33 ax34 cp35 ax38 cp39), (rowL z 49 4 TRegion.cells (.slice ax34 (([] ++ y33.Regions.xs).length) cp35) ([] ++ y33.Regions.xs)), (rowL z 57 2 TPort.cells (.slice ax38 (([] ++ y33.Ports.xs).length) cp39) ([] ++ y33.Ports.xs))]⟩ rfl ⟨rfl, rfl, trivial⟩ ?_
         refine g_rowat (base := z) (e := 41) (sz := 8) (cells := TPartition.cells) (a := aP) (n := psG.length) (cap := cP) (xs := psG) 6 (by omega) (fun b42 hg43 hb44 => ?_)
         subst hg43
         refine q_cS 1 5 [] [[o0, (a1 3), o0, (an 8 9), (oi p)]] [Qb (z + 2), Qb n24, Qb n24, Qb n24, Qb n24, Qb n24, Qb n24, Qb n24, Qb n24, ((p : Int) : Int) = ((p : Nat) : Int), p < psG.length, (none : Option Nat) = none] [(1, pt z), (q7o7_11 z), (q7o7_12 z), (6, i6 (p : Int)), (68, .agg #[.string y33.Name, i6 y33.Entry, i6 y33.Action, i6 y33.Restarts, i6 y33.Inputs, i6 y33.Outputs, .slice ax34 (([] ++ y33.Regions.xs).length) cp35, .slice ax38 (([] ++ y33.Ports.xs).length) cp39]), (69, .pointer (some ⟨b42, 0 + offs 8 p, none⟩))] rfl ⟨rfl, rfl, rfl, rfl, rfl, rfl, rfl, rfl, rfl, rfl, (by omega), rfl, trivial⟩ ?_
         refine l_rowsetN 6 p psG (⟨y33.Name, y33.Entry, y33.Action, y33.Restarts, y33.Inputs, y33.Outputs, (⟨ax34, cp35, ([] ++ y33.Regions.xs)⟩ : Sl TRegion), (⟨ax38, cp39, ([] ++ y33.Ports.xs)⟩ : Sl TPort)⟩ : TPartition) TPartition.cells z 41 8 b42 psG.length cP #[.string y33.Name, i6 y33.Entry, i6 y33.Action, i6 y33.Restarts, i6 y33.Inputs, i6 y33.Outputs, .slice ax34 (([] ++ y33.Regions.xs).length) cp35, .slice ax38 (([] ++ y33.Ports.xs).length) cp39] none (by omega) ?_
         refine q_rS 5 0 [] [[], [o0, (ov (i6 ((p + 1 : Nat) : Int))), o0]] [Wr (((p : Int) : Int) + 1) (((p + 1 : Nat) : Int))] [(1, pt z), (q7o7_11 z), (q7o7_12 z), (6, i6 ((p + 1 : Nat) : Int))] rfl ⟨wrI, trivial⟩ ?_
         refine e_fam 7 10 [0, 1, 2, 3, 4, 5, 6, 8, 9, 11] [(old0 w), (q7o7_5 z c), (q7o7_4 z), (q7o7_2 z c aC csG cC b42 psG cP), (q7o7_7 z aC csG cC), (famC z 44 3 TWindow.cells (csG.take i)), (q7o7_6 z b42 psG cP p y33 ax34 cp35 ax38 cp39), (q7o7_9 z psG p), (q7o7_0 n24 y33 ax34 cp35 ax38 cp39), (rowL z 57 2 TPort.cells (.slice ax38 (([] ++ y33.Ports.xs).length) cp39) ([] ++ y33.Ports.xs))] ?_
         refine e_fam 7 9 [0, 1, 2, 3, 4, 5, 6, 8, 10] [(old0 w), (q7o7_5 z c), (q7o7_4 z), (q7o7_2 z c aC csG cC b42 psG cP), (q7o7_7 z aC csG cC), (famC z 44 3 TWindow.cells (csG.take i)), (q7o7_6 z b42 psG cP p y33 ax34 cp35 ax38 cp39), (q7o7_0 n24 y33 ax34 cp35 ax38 cp39), (famC z 49 4 TRegion.cells (((psG.take p).map TPartition.Regions) ++ [⟨ax34, cp35, ([] ++ y33.Regions.xs)⟩]))] ?_
         refine e_pick [0, 1, 2, 3, 4, 5, 6, 8, 9] [(old0 w), (q7o7_5 z c), (q7o7_4 z), (q7o7_2 z c aC csG cC b42 psG cP), (q7o7_7 z aC csG cC), (famC z 44 3 TWindow.cells (csG.take i)), (q7o7_6 z b42 psG cP p y33 ax34 cp35 ax38 cp39), (famC z 49 4 TRegion.cells (((psG.take p).map TPartition.Regions) ++ [⟨ax34, cp35, ([] ++ y33.Regions.xs)⟩])), (famC z 57 2 TPort.cells (((psG.take p).map TPartition.Ports) ++ [⟨ax38, cp39, ([] ++ y33.Ports.xs)⟩]))] rfl rfl ?_
         refine e_keep [1, 2, 3, 6] [(1, pt z), (q7o7_11 z), (q7o7_12 z), (6, i6 ((p + 1 : Nat) : Int))] ?_
         refine e_inv (fun a w' hs => ⟨c.Partitions.xs.length - (p + 1), by omega, n40, (p + 1), (psG.set p (⟨y33.Name, y33.Entry, y33.Action, y33.Restarts, y33.Inputs, y33.Outputs, (⟨ax34, cp35, ([] ++ y33.Regions.xs)⟩ : Sl TRegion), (⟨ax38, cp39, ([] ++ y33.Ports.xs)⟩ : Sl TPort)⟩ : TPartition)), (some ⟨b42, 0, none⟩), cP, rfl, by omega, by omega, by rw [List.length_set]; exact hpl, fun q hq => if e : q = p then (by rw [e, gd_set (by omega), ← hy33]; rfl) else (by rw [gd_set_ne (fun e2 => e e2.symm) (by omega)]; exact hp1 q (by omega)), (by (try dsimp only [q7o7_0, q7o7_1, q7o7_2, q7o7_3, q7o7_4, q7o7_5, q7o7_6, q7o7_7, q7o7_8, q7o7_9, q7o7_10, q7o7_11, q7o7_12] at hs ⊢); rw [take_set_succ (by omega), List.map_append, List.map_append, List.length_set]; exact hs)⟩)
       · refine q_cS 15 3 [0] [[o0, o0, (a1 1), o0, oF], [o0], [o0, o0, (a1 1)]] [Qb z, BF (((p : Int) : Int) < ((c.Partitions.xs.length : Nat) : Int)), Qb z] [(q7o7_11 z), (q7o7_12 z), (70, .slice none 0 0), (72, .slice c.Channels.a c.Channels.xs.length c.Channels.cap)] rfl ⟨rfl, bf (by omega), rfl, trivial⟩ ?_
         refine l_rowL z 55 3 TChannel.cells ?_
         refine l_pushSB z 9 0 ([]) c.Channels.xs c.Channels.a TChannel.cells 55 3 24 (.slice none 0 0) c.Channels.xs.length c.Channels.cap (old0 w) (some 73) (by simp only [List.length_nil]; omega) (by simp only [List.length_nil]; omega) (show z ≤ n24 by omega) (fun w' hw => sl_mono (fun b k v _ hv => old_cell' hv w' hw) (fun _ h => h) (hc.Channels).1) (fun ax45 cp46 n47 (hn48 : n24 ≤ n47) => ?_)
         refine q_r 11 0 [] [[o0], [o0, o0, (a1 3)], [(an 7 3), (an 7 2)]] [Qb (z + 2), Qb (z + 2), Qb (z + 2), Qb (z + 2), Qb (z + 2), Qb (z + 2), Qb (z + 2), Qb (z + 2), Qb (z + 1), Qb (z + 1), Qb (z + 1), Qb (z + 1), Qb (z + 1), Qb (z + 1), Qb (z + 1)] [(q7o7_11 z)] ⟨w, n47, [(old0 w), (q7o7_5 z c), (bk (z + 1) #[i6 c.Frames, i6 c.Major, i6 c.Kernel, i6 c.Room, .slice aC csG.length cC, .slice aP psG.length cP, .slice ax45 (([] ++ c.Channels.xs).length) cp46] 26), (bk (z + 2) #[i6 c.Frames, i6 c.Major, i6 c.Kernel, i6 c.Room, .slice aC csG.length cC, .slice aP psG.length cP, .slice ax45 (([] ++ c.Channels.xs).length) cp46] 26), (q7o7_7 z aC csG cC), (famC z 44 3 TWindow.cells (csG.take i)), (q7o7_10 z aP psG cP), (q7o7_8 z psG p), (q7o7_9 z psG p), (rowL z 55 3 TChannel.cells (.slice ax45 (([] ++ c.Channels.xs).length) cp46) ([] ++ c.Channels.xs))]⟩ rfl ⟨rfl, rfl, rfl, rfl, rfl, rfl, rfl, rfl, rfl, rfl, rfl, rfl, rfl, rfl, rfl, trivial⟩ ?_
         refine e_ret [.at 2, .at 2, .at 2, .at 2, .at 2, .at 2, .at 2] [Qb (z + 1), Qb (z + 1), Qb (z + 1), Qb (z + 1), Qb (z + 1), Qb (z + 1), Qb (z + 1)] (.agg #[i6 c.Frames, i6 c.Major, i6 c.Kernel, i6 c.Room, .slice aC csG.length cC, .slice aP psG.length cP, .slice ax45 (([] ++ c.Channels.xs).length) cp46]) ⟨rfl, rfl, rfl, rfl, rfl, rfl, rfl, trivial⟩ ?_
         intro w49 hw49
         have hO : ConfOwn z w49 (⟨c.Frames, c.Major, c.Kernel, c.Room, ⟨aC, cC, csG⟩, ⟨aP, cP, psG⟩, ⟨ax45, cp46, ([] ++ c.Channels.xs)⟩⟩ : TConfig) := ⟨w, by
           have h4 := hw49.pick [4, 5, 6, 7, 8, 9] rfl rfl
           rw [hw49.size]
           unfold confS Sl.val
           (try dsimp only [q7o7_0, q7o7_1, q7o7_2, q7o7_3, q7o7_4, q7o7_5, q7o7_6, q7o7_7, q7o7_8, q7o7_9, q7o7_10, q7o7_11, q7o7_12] at h4)
           rw [List.take_of_length_le (by omega), List.take_of_length_le (by omega)] at h4
           exact h4⟩
         exact ⟨(⟨c.Frames, c.Major, c.Kernel, c.Room, ⟨aC, cC, csG⟩, ⟨aP, cP, psG⟩, ⟨ax45, cp46, ([] ++ c.Channels.xs)⟩⟩ : TConfig), by simp only [TConfig.arr, hcl, hpl], strip_of ⟨rfl, rfl, rfl, rfl⟩ hcl hpl rfl (fun q hq => hc1 q (by omega)) (fun q hq => hp1 q (by omega)), hz ▸ hO, back0 hw49⟩
end Go.Proofs.YtnjhekfgmbpmlaaDoor.Ad
namespace Go.Proofs.YtnjhekfgmbpmlaaDoor.Ad
open Go Go.Proofs.YtnjhekfgmbpmlaaDoor.Eng Go.Proofs.YtnjhekfgmbpmlaaDoor.Mem Go.Proofs.YtnjhekfgmbpmlaaDoor.Ly
set_option linter.unusedSimpArgs false
set_option linter.unusedVariables false
set_option maxRecDepth 100000
open Go.ChangeShapes Go.WideShapes Go.Deep
theorem rd_TWindow : Rd Tryd.prog 44 TWindow.cells TWindow.ok := by
  intro H enc W fuel cs x hx hw
  obtain ⟨xs, n, -, rfl, hl, hlen, hf⟩ := DataW.trod_struct Tryd.underlying44 hx
  rw [show Tryd.prog.cellsOf 44 = 3 from by kernel_rfl] at hl
  match cs, hl with
  | [c0, c1, c2], _ =>
    obtain ⟨y0, e0, k0⟩ := rd_field Tryd.underlying44 hlen hf hw 0 0 1 _ rfl rfl (by kernel_rfl) (rd_int Tryd.underlying3)
    have g0 : [c0] = _ := e0
    simp only [List.cons.injEq, and_true] at g0
    subst g0
    obtain ⟨y1, e1, k1⟩ := rd_field Tryd.underlying44 hlen hf hw 1 1 1 _ rfl rfl (by kernel_rfl) (rd_int Tryd.underlying3)
    have g1 : [c1] = _ := e1
    simp only [List.cons.injEq, and_true] at g1
    subst g1
    obtain ⟨y2, e2, k2⟩ := rd_field Tryd.underlying44 hlen hf hw 2 2 1 _ rfl rfl (by kernel_rfl) (rd_int Tryd.underlying3)
    have g2 : [c2] = _ := e2
    simp only [List.cons.injEq, and_true] at g2
    subst g2
    exact ⟨⟨y0, y1, y2⟩, rfl, ⟨k0, k1, k2⟩⟩
theorem rd_TRegion : Rd Tryd.prog 49 TRegion.cells TRegion.ok := by
  intro H enc W fuel cs x hx hw
  obtain ⟨xs, n, -, rfl, hl, hlen, hf⟩ := DataW.trod_struct Tryd.underlying49 hx
  rw [show Tryd.prog.cellsOf 49 = 4 from by kernel_rfl] at hl
  match cs, hl with
  | [c0, c1, c2, c3], _ =>
    obtain ⟨y0, e0, k0⟩ := rd_field Tryd.underlying49 hlen hf hw 0 0 1 _ rfl rfl (by kernel_rfl) (rd_int Tryd.underlying3)
    have g0 : [c0] = _ := e0
    simp only [List.cons.injEq, and_true] at g0
    subst g0
    obtain ⟨y1, e1, k1⟩ := rd_field Tryd.underlying49 hlen hf hw 1 1 1 _ rfl rfl (by kernel_rfl) (rd_int Tryd.underlying3)
    have g1 : [c1] = _ := e1
    simp only [List.cons.injEq, and_true] at g1
    subst g1
    obtain ⟨y2, e2, k2⟩ := rd_field Tryd.underlying49 hlen hf hw 2 2 1 _ rfl rfl (by kernel_rfl) (rd_int Tryd.underlying3)
    have g2 : [c2] = _ := e2
    simp only [List.cons.injEq, and_true] at g2
    subst g2
    obtain ⟨y3, e3, k3⟩ := rd_field Tryd.underlying49 hlen hf hw 3 3 1 _ rfl rfl (by kernel_rfl) (rd_int Tryd.underlying3)
    have g3 : [c3] = _ := e3
    simp only [List.cons.injEq, and_true] at g3
    subst g3
    exact ⟨⟨y0, y1, y2, y3⟩, rfl, ⟨k0, k1, k2, k3⟩⟩
theorem rd_TPort : Rd Tryd.prog 57 TPort.cells TPort.ok := by
  intro H enc W fuel cs x hx hw
  obtain ⟨xs, n, -, rfl, hl, hlen, hf⟩ := DataW.trod_struct Tryd.underlying57 hx
  rw [show Tryd.prog.cellsOf 57 = 2 from by kernel_rfl] at hl
  match cs, hl with
  | [c0, c1], _ =>
    obtain ⟨y0, e0, k0⟩ := rd_field Tryd.underlying57 hlen hf hw 0 0 1 _ rfl rfl (by kernel_rfl) (rd_int Tryd.underlying3)
    have g0 : [c0] = _ := e0
    simp only [List.cons.injEq, and_true] at g0
    subst g0
    obtain ⟨y1, e1, k1⟩ := rd_field Tryd.underlying57 hlen hf hw 1 1 1 _ rfl rfl (by kernel_rfl) (rd_bool Tryd.underlying4)
    have g1 : [c1] = _ := e1
    simp only [List.cons.injEq, and_true] at g1
    subst g1
    exact ⟨⟨y0, y1⟩, rfl, ⟨k0, k1⟩⟩
theorem rd_TChannel : Rd Tryd.prog 55 TChannel.cells TChannel.ok := by
  intro H enc W fuel cs x hx hw
  obtain ⟨xs, n, -, rfl, hl, hlen, hf⟩ := DataW.trod_struct Tryd.underlying55 hx
  rw [show Tryd.prog.cellsOf 55 = 3 from by kernel_rfl] at hl
  match cs, hl with
  | [c0, c1, c2], _ =>
    obtain ⟨y0, e0, k0⟩ := rd_field Tryd.underlying55 hlen hf hw 0 0 1 _ rfl rfl (by kernel_rfl) (rd_int Tryd.underlying3)
    have g0 : [c0] = _ := e0
    simp only [List.cons.injEq, and_true] at g0
    subst g0
    obtain ⟨y1, e1, k1⟩ := rd_field Tryd.underlying55 hlen hf hw 1 1 1 _ rfl rfl (by kernel_rfl) (rd_int Tryd.underlying3)
    have g1 : [c1] = _ := e1
    simp only [List.cons.injEq, and_true] at g1
    subst g1
    obtain ⟨y2, e2, k2⟩ := rd_field Tryd.underlying55 hlen hf hw 2 2 1 _ rfl rfl (by kernel_rfl) (rd_int Tryd.underlying3)
    have g2 : [c2] = _ := e2
    simp only [List.cons.injEq, and_true] at g2
    subst g2
    exact ⟨⟨y0, y1, y2⟩, rfl, ⟨k0, k1, k2⟩⟩
theorem rd_PartB : Rd Tryd.prog 41 TPartition.cells (fun F W x => TPartition.ok F W x ∧ x.Regions.xs.length * Tryd.prog.bytesOf 49 ≤ reachBytes ∧ x.Ports.xs.length * Tryd.prog.bytesOf 57 ≤ reachBytes) := by
  intro H enc W fuel cs x hx hw
  obtain ⟨xs, n, -, rfl, hl, hlen, hf⟩ := DataW.trod_struct Tryd.underlying41 hx
  rw [show Tryd.prog.cellsOf 41 = 8 from by kernel_rfl] at hl
  match cs, hl with
  | [c0, c1, c2, c3, c4, c5, c6, c7], _ =>
    obtain ⟨y0, e0, k0⟩ := rd_field Tryd.underlying41 hlen hf hw 0 0 1 _ rfl rfl (by kernel_rfl) (rd_string Tryd.underlying9)
    have g0 : [c0] = _ := e0
    simp only [List.cons.injEq, and_true] at g0
    subst g0
    obtain ⟨y1, e1, k1⟩ := rd_field Tryd.underlying41 hlen hf hw 1 1 1 _ rfl rfl (by kernel_rfl) (rd_int Tryd.underlying3)
    have g1 : [c1] = _ := e1
    simp only [List.cons.injEq, and_true] at g1
    subst g1
    obtain ⟨y2, e2, k2⟩ := rd_field Tryd.underlying41 hlen hf hw 2 2 1 _ rfl rfl (by kernel_rfl) (rd_int Tryd.underlying3)
    have g2 : [c2] = _ := e2
    simp only [List.cons.injEq, and_true] at g2
    subst g2
    obtain ⟨y3, e3, k3⟩ := rd_field Tryd.underlying41 hlen hf hw 3 3 1 _ rfl rfl (by kernel_rfl) (rd_int Tryd.underlying3)
    have g3 : [c3] = _ := e3
    simp only [List.cons.injEq, and_true] at g3
    subst g3
    obtain ⟨y4, e4, k4⟩ := rd_field Tryd.underlying41 hlen hf hw 4 4 1 _ rfl rfl (by kernel_rfl) (rd_int Tryd.underlying3)
    have g4 : [c4] = _ := e4
    simp only [List.cons.injEq, and_true] at g4
    subst g4
    obtain ⟨y5, e5, k5⟩ := rd_field Tryd.underlying41 hlen hf hw 5 5 1 _ rfl rfl (by kernel_rfl) (rd_int Tryd.underlying3)
    have g5 : [c5] = _ := e5
    simp only [List.cons.injEq, and_true] at g5
    subst g5
    obtain ⟨y6, e6, k6⟩ := rd_field Tryd.underlying41 hlen hf hw 6 6 1 _ rfl rfl (by kernel_rfl) (rd_sliceB (cells := TRegion.cells) (sz := 4) Tryd.underlying38 (by kernel_rfl) (fun _ => rfl) (by decide) (by kernel_rfl) rd_TRegion)
    have g6 : [c6] = _ := e6
    simp only [List.cons.injEq, and_true] at g6
    subst g6
    obtain ⟨y7, e7, k7⟩ := rd_field Tryd.underlying41 hlen hf hw 7 7 1 _ rfl rfl (by kernel_rfl) (rd_sliceB (cells := TPort.cells) (sz := 2) Tryd.underlying39 (by kernel_rfl) (fun _ => rfl) (by decide) (by kernel_rfl) rd_TPort)
    have g7 : [c7] = _ := e7
    simp only [List.cons.injEq, and_true] at g7
    subst g7
    exact ⟨⟨y0, y1, y2, y3, y4, y5, y6, y7⟩, rfl, ⟨⟨k0, k1, k2, k3, k4, k5, k6.1, k7.1⟩, k6.2, k7.2⟩⟩
set_option maxHeartbeats 1000000 in
theorem rd_Conf : Rd Tryd.prog 26 TConfig.cells (fun F W x => TConfig.ok F W x ∧ Lim x) := by
  intro H enc W fuel cs x hx hw
  obtain ⟨xs, n, -, rfl, hl, hlen, hf⟩ := DataW.trod_struct Tryd.underlying26 hx
  rw [show Tryd.prog.cellsOf 26 = 7 from by kernel_rfl] at hl
  match cs, hl with
  | [c0, c1, c2, c3, c4, c5, c6], _ =>
    obtain ⟨y0, e0, k0⟩ := rd_field Tryd.underlying26 hlen hf hw 0 0 1 _ rfl rfl (by kernel_rfl) (rd_int Tryd.underlying3)
    have g0 : [c0] = _ := e0
    simp only [List.cons.injEq, and_true] at g0
    subst g0
    obtain ⟨y1, e1, k1⟩ := rd_field Tryd.underlying26 hlen hf hw 1 1 1 _ rfl rfl (by kernel_rfl) (rd_int Tryd.underlying3)
    have g1 : [c1] = _ := e1
    simp only [List.cons.injEq, and_true] at g1
    subst g1
    obtain ⟨y2, e2, k2⟩ := rd_field Tryd.underlying26 hlen hf hw 2 2 1 _ rfl rfl (by kernel_rfl) (rd_int Tryd.underlying3)
    have g2 : [c2] = _ := e2
    simp only [List.cons.injEq, and_true] at g2
    subst g2
    obtain ⟨y3, e3, k3⟩ := rd_field Tryd.underlying26 hlen hf hw 3 3 1 _ rfl rfl (by kernel_rfl) (rd_int Tryd.underlying3)
    have g3 : [c3] = _ := e3
    simp only [List.cons.injEq, and_true] at g3
    subst g3
    obtain ⟨y4, e4, k4⟩ := rd_field Tryd.underlying26 hlen hf hw 4 4 1 _ rfl rfl (by kernel_rfl) (rd_sliceB (cells := (fun x : Sl TWindow => [Sl.val x])) (sz := 1) Tryd.underlying22 (by kernel_rfl) (fun _ => rfl) (by decide) (by kernel_rfl) (rd_sliceB (cells := TWindow.cells) (sz := 3) Tryd.underlying42 (by kernel_rfl) (fun _ => rfl) (by decide) (by kernel_rfl) rd_TWindow))
    have g4 : [c4] = _ := e4
    simp only [List.cons.injEq, and_true] at g4
    subst g4
    obtain ⟨y5, e5, k5⟩ := rd_field Tryd.underlying26 hlen hf hw 5 5 1 _ rfl rfl (by kernel_rfl) (rd_sliceB (cells := TPartition.cells) (sz := 8) Tryd.underlying23 (by kernel_rfl) (fun _ => rfl) (by decide) (by kernel_rfl) rd_PartB)
    have g5 : [c5] = _ := e5
    simp only [List.cons.injEq, and_true] at g5
    subst g5
    obtain ⟨y6, e6, k6⟩ := rd_field Tryd.underlying26 hlen hf hw 6 6 1 _ rfl rfl (by kernel_rfl) (rd_sliceB (cells := TChannel.cells) (sz := 3) Tryd.underlying24 (by kernel_rfl) (fun _ => rfl) (by decide) (by kernel_rfl) rd_TChannel)
    have g6 : [c6] = _ := e6
    simp only [List.cons.injEq, and_true] at g6
    subst g6
    exact ⟨⟨y0, y1, y2, y3, y4, y5, y6⟩, rfl, ⟨⟨k0, k1, k2, k3, ⟨k4.1.1, fun i hi => (k4.1.2 i hi).1⟩, ⟨k5.1.1, fun i hi => (k5.1.2 i hi).1⟩, k6.1⟩, ⟨by have h := k4.2; rw [(show Tryd.prog.bytesOf 42 = 24 from by kernel_rfl)] at h; exact h, by have h := k5.2; rw [(show Tryd.prog.bytesOf 41 = 104 from by kernel_rfl)] at h; exact h, by have h := k6.2; rw [(show Tryd.prog.bytesOf 55 = 24 from by kernel_rfl)] at h; exact h, fun i hi => by have h := (k4.1.2 i hi).2; rw [(show Tryd.prog.bytesOf 44 = 24 from by kernel_rfl)] at h; exact h, fun i hi => by have h := (k5.1.2 i hi).2.1; rw [(show Tryd.prog.bytesOf 49 = 32 from by kernel_rfl)] at h; exact h, fun i hi => by have h := (k5.1.2 i hi).2.2; rw [(show Tryd.prog.bytesOf 57 = 16 from by kernel_rfl)] at h; exact h⟩⟩⟩
theorem Lim.sum {c : TConfig} (h : Lim c) : c.Partitions.xs.length + c.Channels.xs.length + c.Cores.xs.length ≤ 15000000000000 := by
  have h1 := h.cl; have h2 := h.pl; have h3 := h.hl
  omega
end Go.Proofs.YtnjhekfgmbpmlaaDoor.Ad
namespace Go.Proofs.YtnjhekfgmbpmlaaDoor.Eng
open Go Go.Lib Go.Proofs.YtnjhekfgmbpmlaaDoor.Mem
set_option linter.unusedSimpArgs false
set_option linter.unusedVariables false
section
variable {P : Program} {N : Nat} {env : Env} {ds : List Deferred} {A : AW} {ops : Array Oper} {l : List Oper} {s : List Kt} {Q : Exit → Act → World → Prop} {c : Code}
/-- The next operation marks the bytes of a constant text. -/
def markA (P : Program) (N : Nat) (ops : Array Oper) (env : Env) : List Oper → Option (Nat × Nat × Nat × TypeId × Option Nat)
  | [] => none
  | o :: _ => match o.op, wantE ops env o, knownOp env o, inN N o.dst with
    | .convert src dst x, some true, true, true => match Nat.beq src dst, P.underlying src, evalE env x with
      | true, some (.slice e), .slice (some ⟨b, 0, none⟩) n cap => match P.underlying e with
        | some (.int .u8) => some (b, n, cap, e, o.dst)
        | _ => none
      | _, _, _ => none
    | _, _, _, _ => none
end
end Go.Proofs.YtnjhekfgmbpmlaaDoor.Eng
namespace Go.Proofs.YtnjhekfgmbpmlaaDoor.Eng
open Go Go.Lib Go.Proofs.YtnjhekfgmbpmlaaDoor.Mem
set_option linter.unusedSimpArgs false
set_option linter.unusedVariables false
section
variable {P : Program} {N : Nat} {env : Env} {ds : List Deferred} {A : AW} {ops : Array Oper} {l : List Oper} {s : List Kt} {Q : Exit → Act → World → Prop}
/-- The next operation divides: quotient or not, kinds, numbers. -/
def divA (N : Nat) (ops : Array Oper) (env : Env) : List Oper → Option (Bool × IntKind × IntKind × Int × Int × Option Nat)
  | [] => none
  | o :: _ => match o.op, wantE ops env o, knownOp env o, inN N o.dst with
    | .binOp .quo _ x y _, some true, true, true => match evalE env x, evalE env y with
      | .int k a, .int k' b => some (true, k, k', a, b, o.dst)
      | _, _ => none
    | .binOp .rem _ x y _, some true, true, true => match evalE env x, evalE env y with
      | .int k a, .int k' b => some (false, k, k', a, b, o.dst)
      | _, _ => none
    | _, _, _, _ => none
theorem l_div (q : Bool) (k : IntKind) (a b v : Int) (d : Option Nat) (hb : b ≠ 0) (hv : (if q then k.wrap (a.tdiv b) else a.tmod b) = v) (K : Lg P N (putE env d (.int k v)) ds A ops (l.drop 1) s Q) (h : divA N ops env l = some (q, k, k, a, b, d) := by as_aux_lemma => kernel_rfl) : Lg P N env ds A ops l s Q := by
  intro a0 w hst
  cases l with
  | nil => cases h
  | cons o l =>
    simp only [divA] at h
    split at h
    · rename_i t x y t2 hop hw hkn hdst
      split at h
      · rename_i k1 a1 k2 b1 hx hy
        simp only [Option.some.injEq, Prod.mk.injEq] at h
        obtain ⟨rfl, rfl, rfl, rfl, rfl, rfl⟩ := h
        have hr2 : (execOp a0.eval o).run P w = .ok (.value (.int k2 v)) w := by
          rw [eval_congr hst hkn]
          unfold execOp
          simp only [hop, hx, hy, eqGuard_quo, binOp_quo, Op.intDiv, hb, if_false, Sem.run_bind, Result.andThen_ok, Sem.run_pure]
          rw [← hv]; rfl
        exact step_yields (wantE_sound hw hst) (.inl hr2) (K _ _ (hst.put hst.mem _ hdst _))
      · cases h
    · rename_i t x y t2 hop hw hkn hdst
      split at h
      · rename_i k1 a1 k2 b1 hx hy
        simp only [Option.some.injEq, Prod.mk.injEq] at h
        obtain ⟨rfl, rfl, rfl, rfl, rfl, rfl⟩ := h
        have hr2 : (execOp a0.eval o).run P w = .ok (.value (.int k2 v)) w := by
          rw [eval_congr hst hkn]
          unfold execOp
          simp only [hop, hx, hy, eqGuard_rem, binOp_rem, Op.intDiv, hb, if_false, Sem.run_bind, Result.andThen_ok, Sem.run_pure]
          rw [← hv]; rfl
        exact step_yields (wantE_sound hw hst) (.inl hr2) (K _ _ (hst.put hst.mem _ hdst _))
      · cases h
    · cases h
theorem mod_nat (a b : Nat) : (if false then IntKind.i64.wrap ((a : Int).tdiv (b : Int)) else (a : Int).tmod (b : Int)) = ((a % b : Nat) : Int) := (Int.ofNat_tmod a b).symm
end
end Go.Proofs.YtnjhekfgmbpmlaaDoor.Eng
namespace Go.Proofs.YtnjhekfgmbpmlaaDoor.Eng
open Go Go.Lib Go.Proofs.YtnjhekfgmbpmlaaDoor.Mem
set_option linter.unusedSimpArgs false
set_option linter.unusedVariables false
theorem mod_int {a : Int} (h : 0 ≤ a) (b : Nat) : (if false then IntKind.i64.wrap (a.tdiv (b : Int)) else a.tmod (b : Int)) = ((a.toNat % b : Nat) : Int) := by
  obtain ⟨n, rfl⟩ := Int.eq_ofNat_of_zero_le h
  exact mod_nat n b
theorem e_eqA {P : Program} {N : Nat} {env : Env} {ds : List Deferred} {A : AW} {s : List Kt} {Q : Exit → Act → World → Prop} {x : Exit} (A' : AW) (h : A = A') (K : E P N env ds A' x s Q) : E P N env ds A x s Q := h ▸ K
section
variable {P : Program} {N : Nat} {env : Env} {ds : List Deferred} {A : AW} {ops : Array Oper} {σC : List Ch} {late fuel : Nat} {listed : List Bool} {s : List Kt} {Q : Exit → Act → World → Prop}
theorem w_div (i : Nat) (k : IntKind) (a b v : Int) (d : Option Nat) (hb : b ≠ 0) (hv : a.tmod b = v) (K : Wg P N (putE env d (.int k v)) ds A ops σC late (fuel - 1) (listed.set i true) s Q)
    (h : (match ops[i]? with | some o => divA N ops env [o] | none => none) = some (false, k, k, a, b, d) := by as_aux_lemma => kernel_rfl) (ht : tkOk ops late i listed = true := by as_aux_lemma => kernel_rfl) (hf : Nat.ble 1 fuel = true := by as_aux_lemma => kernel_rfl) (hs : Region.noSelect ops = true := by as_aux_lemma => kernel_rfl) : Wg P N env ds A ops σC late fuel listed s Q := by
  obtain ⟨f, rfl⟩ : ∃ f, fuel = f + 1 := ⟨fuel - 1, by have := Nat.le_of_ble_eq_true hf; omega⟩
  simp only [tkOk, Bool.and_eq_true, Bool.not_eq_true'] at ht
  obtain ⟨⟨⟨hah, hil0⟩, hfr⟩, hrd⟩ := ht
  split at h
  · rename_i o hi
    intro a0 w hst hcl hC
    have hil : i ≠ late := fun e => by subst e; rw [Nat.beq_refl] at hil0; cases hil0
    have hrd' : i ∈ Region.ready .any ops listed.toArray := by simpa using hrd
    have hC0 := hC (ahead_late hah hi hcl hrd')
    have hQ : ∀ v c a w, Quiet (QQ P s Q) (.panic c) (a.put o.dst v) w → Quiet (QQ P s Q) (.panic c) a w := fun _ _ _ _ h => quiet_put h
    have hcl' : Closed .any ops (listed.set i true).toArray := by rw [← set_arr]; exact closed_set hcl hrd'
    simp only [divA] at h
    split at h
    · rename_i t x y t2 hop hw hkn hdst
      split at h
      · simp at h
      · cases h
    · rename_i t x y t2 hop hw hkn hdst
      split at h
      · rename_i k1 a1 k2 b1 hx hy
        simp only [Option.some.injEq, Prod.mk.injEq, true_and] at h
        obtain ⟨rfl, rfl, rfl, rfl, rfl⟩ := h
        have hr2 : ∀ w1, (execOp a0.eval o).run P w1 = .ok (.value (.int k2 v)) w1 := by
          intro w1
          rw [eval_congr hst hkn]
          unfold execOp
          simp only [hop, hx, hy, eqGuard_rem, binOp_rem, Op.intDiv, hb, if_false, Sem.run_bind, Result.andThen_ok, Sem.run_pure]
          rw [← hv]
        have K' := K (a0.put o.dst (.int k2 v)) w (hst.put hst.mem _ hdst _) hcl' (fun _ => hC0)
        exact first (md := .any) (late := late) (C := Cs σC) hah hi (Region.noSelect_spec hs) (hQ _) f listed.toArray a0 w hcl (Region.free_spec hi hfr) hrd' (.inl ⟨wantE_sound hw hst, fun w1 _ => hr2 w1⟩) hC0 hil (by rw [set_arr]; exact K')
      · cases h
    · cases h
  · cases h
/-- At one number, the late one: a thing of a row is written whole. -/
theorem wo_rowsetN {α : Type} {p : Nat} (i j : Nat) (xs : List α) (y : α) (cells : α → List Value) (base : Nat) (e : TypeId) (sz g n cap : Nat) (arr : Array Value) (d : Option Nat) (hj : j < xs.length) (hC : Nat.beq p late = true)
    (K : Wg P N (putE env d undef) ds { A with σ := A.σ.set i (rowL base e sz cells (.slice (some ⟨g, 0, none⟩) n cap) (xs.set j y)) } ops σC late fuel (listed.set p true) s Q)
    (hp : Nat.blt p listed.length = true := by rfl) (h : (match ops[p]? with | some o => (stoN P N ops env o).map (fun x => (x, o.dst)) | none => none) = some ((g, 0 + offs sz j, arr), d) := by as_aux_lemma => kernel_rfl) (ha : arr.toList = cells y := by rfl) (h1 : arr.toList.all Value.oneCell' = true := by as_aux_lemma => kernel_rfl) (hi : A.σ[i]? = some (rowL base e sz cells (.slice (some ⟨g, 0, none⟩) n cap) xs) := by rfl) (hsz : ∀ x, (cells x).length = sz := by intro _; rfl) : WO P N env ds A ops σC late fuel listed s Q p := by
  intro a w hst hcl
  have hlt : p < listed.length := by simpa using hp
  split at h
  · rename_i o ho
    simp only [Option.map_eq_some_iff] at h
    obtain ⟨q, hq, h⟩ := h
    simp only [Prod.mk.injEq] at h
    obtain ⟨rfl, rfl⟩ := h
    obtain ⟨cur, hg, hfit, hs'⟩ := hst.mem.rowsetN hi hsz hj y
    have hsa : arr.size = sz := by rw [← Array.length_toList, ha, hsz]
    obtain ⟨hw, hd, hr⟩ := stoN_run hq hst hg (by rw [hsa, Nat.zero_add]; exact hfit) (fun v hv => List.all_eq_true.1 h1 v hv)
    rw [ha, hsa, Nat.zero_add] at hr
    unfold wpOp
    simp only [ho]
    rw [if_pos hw]
    left
    unfold Oper.wp
    rw [hr]
    have hcs : ∀ w', (listed.set p true).toArray.getD late false = false → Cs σC w' := by
      intro w' hl
      have := Nat.eq_of_beq_eq_true hC
      subst this
      simp [hlt] at hl
    exact ⟨hcs _, K _ _ (hst.put hs' _ hd _) hcl (hcs _)⟩
  · cases h
end
end Go.Proofs.YtnjhekfgmbpmlaaDoor.Eng
namespace Go.Proofs.YtnjhekfgmbpmlaaDoor.Ad
open Go Go.Proofs.YtnjhekfgmbpmlaaDoor.Eng Go.Proofs.YtnjhekfgmbpmlaaDoor.Mem Go.Proofs.YtnjhekfgmbpmlaaDoor.Ly
set_option linter.unusedSimpArgs false
set_option linter.unusedVariables false
set_option maxRecDepth 100000
def swL {α : Type} [Inhabited α] (n m : Nat) (l : List α) : List α := if l.length = 0 then l else (l.set (n % l.length) (gd l (m % l.length))).set (m % l.length) (gd l (n % l.length))
theorem swL_nil {α : Type} [Inhabited α] {n m : Nat} {l : List α} (h : l.length = 0) : swL n m l = l := by unfold swL; rw [if_pos h]
theorem swL_at {α : Type} [Inhabited α] {n m i j : Nat} {l : List α} {x y : α} (h : 0 < l.length) (hi : i = n % l.length) (hj : j = m % l.length) (hx : x = gd l i) (hy : y = gd l j) : (l.set i y).set j x = swL n m l := by
  unfold swL; rw [if_neg (by omega), ← hi, ← hj, hx, hy]
theorem swL_len {α : Type} [Inhabited α] {n m : Nat} {l : List α} : (swL n m l).length = l.length := by
  unfold swL; split
  · rfl
  · rw [List.length_set, List.length_set]
theorem swL_perm {α : Type} [Inhabited α] (n m : Nat) (l : List α) : (swL n m l).Perm l := by
  unfold swL
  split
  · exact List.Perm.refl _
  · rename_i h
    have h1 : n % l.length < l.length := Nat.mod_lt _ (by omega)
    have h2 : m % l.length < l.length := Nat.mod_lt _ (by omega)
    generalize n % l.length = i at h1
    generalize m % l.length = j at h2
    rw [gd_eq h1, gd_eq h2]
    exact List.set_set_perm h1 h2
def swU {α : Type} [Inhabited α] (n m : Nat) (hs : List (Sl α)) (i : Nat) : List (Sl α) := (List.range hs.length).map fun q => if q < i then ⟨(gd hs q).a, (gd hs q).cap, swL n m (gd hs q).xs⟩ else gd hs q
section
variable {α : Type} [Inhabited α] {n m : Nat} {hs : List (Sl α)}
theorem swU_len {i : Nat} : (swU n m hs i).length = hs.length := by simp [swU]
theorem swU_zero : swU n m hs 0 = hs := by
  apply List.ext_getElem (by simp [swU])
  intro i h1 h2
  simp [swU, gd_eq h2]
theorem swU_lo {i q : Nat} (hq : q < hs.length) (h : i ≤ q) : gd (swU n m hs i) q = gd hs q := by
  rw [gd_eq (by rw [swU_len]; exact hq)]; simp only [swU, List.getElem_map, List.getElem_range]; rw [if_neg (by omega)]
theorem swU_hi {i q : Nat} (hq : q < hs.length) (h : q < i) : gd (swU n m hs i) q = ⟨(gd hs q).a, (gd hs q).cap, swL n m (gd hs q).xs⟩ := by
  rw [gd_eq (by rw [swU_len]; exact hq)]; simp only [swU, List.getElem_map, List.getElem_range]; rw [if_pos h]
theorem swU_set {i cap : Nat} {a : Option Addr} {xs ys : List α} (hi : i < hs.length) (hx : (⟨a, cap, xs⟩ : Sl α) = gd (swU n m hs i) i) (h : ys = swL n m xs) : (swU n m hs i).set i ⟨a, cap, ys⟩ = swU n m hs (i + 1) := by
  rw [swU_lo hi (Nat.le_refl _)] at hx
  apply List.ext_getElem (by simp [swU])
  intro q h1 h2
  rw [List.getElem_set]
  have hq : q < hs.length := by simpa [swU] using h2
  by_cases e : i = q
  · subst e
    rw [if_pos rfl]
    simp only [swU, List.getElem_map, List.getElem_range]
    rw [if_pos (by omega), ← hx, h]
  · rw [if_neg e]
    simp only [swU, List.getElem_map, List.getElem_range]
    by_cases e2 : q < i
    · rw [if_pos e2, if_pos (by omega)]
    · rw [if_neg e2, if_neg (by omega)]
end
def swP (n m : Nat) (d : TConfig) : List TPartition := (List.range d.Partitions.xs.length).map fun q => { gd d.Partitions.xs q with Regions := gd (swU n m (d.Partitions.xs.map TPartition.Regions) d.Partitions.xs.length) q }
def swC (n m : Nat) (d : TConfig) (aC : Option Addr) (cC : Nat) (aP : Option Addr) (cP : Nat) : TConfig := { d with Cores := ⟨aC, cC, swU n m d.Cores.xs d.Cores.xs.length⟩, Partitions := ⟨aP, cP, swP n m d⟩ }
section
variable {n m cC cP : Nat} {d c : TConfig} {aC aP : Option Addr}
theorem swP_len : (swP n m d).length = d.Partitions.xs.length := by simp [swP]
theorem gd_reg {q : Nat} : gd (d.Partitions.xs.map TPartition.Regions) q = (gd d.Partitions.xs q).Regions := gd_mapd (by rfl) _ _
theorem swP_at {q : Nat} (hq : q < d.Partitions.xs.length) : gd (swP n m d) q = { gd d.Partitions.xs q with Regions := ⟨(gd d.Partitions.xs q).Regions.a, (gd d.Partitions.xs q).Regions.cap, swL n m (gd d.Partitions.xs q).Regions.xs⟩ } := by
  rw [gd_eq (by rw [swP_len]; exact hq)]
  simp only [swP, List.getElem_map, List.getElem_range]
  rw [swU_hi (by simpa using hq) hq, gd_reg]
theorem swC_perm (h : strip d = strip c) : PermC c (swC n m d aC cC aP cP) := by
  obtain ⟨h1, h2, h3, h4, h5⟩ := str_xs h
  have nums := congrArg (fun c : TConfig => (c.Frames, c.Major, c.Kernel, c.Room)) h
  simp only [Prod.mk.injEq] at nums
  refine ⟨nums, by show (swU n m d.Cores.xs d.Cores.xs.length).length = _; rw [swU_len, h1], by show (swP n m d).length = _; rw [swP_len, h2], h3, fun i hi => ?_, fun p hp => ?_, fun p hp => ?_⟩
  · show ((gd (swU n m d.Cores.xs d.Cores.xs.length) i).xs).Perm _
    rw [swU_hi (by omega) (by omega), ← h4 i]; exact swL_perm _ _ _
  · show ((gd (swP n m d) p).Regions.xs).Perm _
    have e := congrArg (fun x : TPartition => x.Regions.xs) (h5 p)
    rw [swP_at (by omega)]
    exact (swL_perm n m _).trans (by rw [show (gd d.Partitions.xs p).Regions.xs = (gd c.Partitions.xs p).Regions.xs from e])
  · show (gd (swP n m d) p).Name = _ ∧ _
    have e := congrArg (fun x : TPartition => (x.Name, x.Entry, x.Action, x.Restarts, x.Inputs, x.Outputs, x.Ports.xs)) (h5 p)
    simp only [Prod.mk.injEq] at e
    have g := swP_at (n := n) (m := m) (d := d) (q := p) (by omega)
    show (gd (swP n m d) p).Name = _ ∧ (gd (swP n m d) p).Entry = _ ∧ (gd (swP n m d) p).Action = _ ∧ (gd (swP n m d) p).Restarts = _ ∧ (gd (swP n m d) p).Inputs = _ ∧ (gd (swP n m d) p).Outputs = _ ∧ (gd (swP n m d) p).Ports.xs = _
    rw [g]; exact e
theorem flat_same {α : Type} {cells : α → List Value} : ∀ {xs ys : List α}, xs.map cells = ys.map cells → xs.flatMap cells = ys.flatMap cells := fun h => by
  show (List.map _ _).flatten = (List.map _ _).flatten
  rw [h]
theorem swP_cells : (swP n m d).map TPartition.cells = d.Partitions.xs.map TPartition.cells := by
  apply List.ext_getElem (by simp [swP])
  intro q h1 h2
  have hq : q < d.Partitions.xs.length := by simpa using h2
  have g := swP_at (n := n) (m := m) (d := d) hq
  rw [gd_eq (by rw [swP_len]; exact hq), gd_eq hq] at g
  rw [List.getElem_map, List.getElem_map, g]
  simp only [TPartition.cells, Sl.val, swL_len]
theorem swU_cells : (swU n m d.Cores.xs d.Cores.xs.length).map (fun x : Sl TWindow => [Sl.val x]) = d.Cores.xs.map (fun x : Sl TWindow => [Sl.val x]) := by
  apply List.ext_getElem (by simp [swU])
  intro q h1 h2
  have hq : q < d.Cores.xs.length := by simpa using h2
  have g := swU_hi (n := n) (m := m) (hs := d.Cores.xs) hq hq
  rw [gd_eq (by rw [swU_len]; exact hq), gd_eq hq] at g
  rw [List.getElem_map, List.getElem_map, g]
  simp only [Sl.val, swL_len]
theorem row_same {α : Type} {base : Nat} {e : TypeId} {sz : Nat} {cells : α → List Value} {v : Value} {xs ys : List α} (hl : xs.length = ys.length) (h : xs.map cells = ys.map cells) : rowL base e sz cells v xs = rowL base e sz cells v ys := by
  unfold rowL; rw [hl, flat_same h]
theorem swP_regs : (swP n m d).map TPartition.Regions = swU n m (d.Partitions.xs.map TPartition.Regions) d.Partitions.xs.length := by
  apply List.ext_getElem (by simp [swP, swU])
  intro q h1 h2
  have hq : q < d.Partitions.xs.length := by simpa [swP] using h1
  rw [List.getElem_map]
  simp only [swP, List.getElem_map, List.getElem_range]
  rw [gd_eq (by rw [swU_len, List.length_map]; exact hq)]
theorem swP_ports : (swP n m d).map TPartition.Ports = d.Partitions.xs.map TPartition.Ports := by
  apply List.ext_getElem (by simp [swP])
  intro q h1 h2
  have hq : q < d.Partitions.xs.length := by simpa [swP] using h1
  have g := swP_at (n := n) (m := m) (d := d) hq
  rw [gd_eq (by rw [swP_len]; exact hq), gd_eq hq] at g
  rw [List.getElem_map, List.getElem_map, g]
theorem conf_new {z : Nat} {w0 W : World} {k : Nat} (h : Sat ⟨w0, k, confS z d⟩ W) : ∀ x ∈ confS z d, ∀ b, x.F b → z ≤ b := by
  intro x hx b hb
  have hh := h.all x hx
  simp only [confS, List.mem_cons, List.not_mem_nil, or_false] at hx
  rcases hx with rfl | rfl | rfl | rfl | rfl | rfl
  · exact row_new hh b hb
  · exact fam_new hh b hb
  · exact row_new hh b hb
  · exact fam_new hh b hb
  · exact fam_new hh b hb
  · exact row_new hh b hb
end
theorem own_ok2 {c d : TConfig} {n : Nat} {W W0 : World} {F : Nat → Prop} (hc : TConfig.ok F W0 c) (h : PermC c d) (ho : ConfOwn n W d) : TConfig.ok (New n) W d := by
  obtain ⟨w0, hs⟩ := ho
  have r1 : W.ownsRow n 42 1 (.slice d.Cores.a d.Cores.xs.length d.Cores.cap) d.Cores.xs.length (d.Cores.xs.flatMap (fun x : Sl TWindow => [Sl.val x])) := hs.at (i := 0) rfl
  have r2 : (famC n 44 3 TWindow.cells d.Cores.xs).holds W := hs.at (i := 1) rfl
  have r3 : W.ownsRow n 41 8 (.slice d.Partitions.a d.Partitions.xs.length d.Partitions.cap) d.Partitions.xs.length (d.Partitions.xs.flatMap TPartition.cells) := hs.at (i := 2) rfl
  have r4 : (famC n 49 4 TRegion.cells (d.Partitions.xs.map TPartition.Regions)).holds W := hs.at (i := 3) rfl
  have r5 : (famC n 57 2 TPort.cells (d.Partitions.xs.map TPartition.Ports)).holds W := hs.at (i := 4) rfl
  have r6 : W.ownsRow n 55 3 (.slice d.Channels.a d.Channels.xs.length d.Channels.cap) d.Channels.xs.length (d.Channels.xs.flatMap TChannel.cells) := hs.at (i := 5) rfl
  obtain ⟨n1', n2', n3', n4'⟩ := h.nums
  refine ⟨by rw [n1']; exact hc.Frames, by rw [n2']; exact hc.Major, by rw [n3']; exact hc.Kernel, by rw [n4']; exact hc.Room, ⟨?_, fun i hi => ?_⟩, ⟨?_, fun i hi => ?_⟩, ⟨?_, fun i hi => ?_⟩⟩
  · exact row_sl (fun _ => rfl) r1 (by rw [h.cl]; exact hc.Cores.1.len)
  · have hi' : i < c.Cores.xs.length := by rw [← h.cl]; exact hi
    refine ⟨fam_sl (cells := TWindow.cells) (hs := d.Cores.xs) (s := gd d.Cores.xs i) (fun _ => rfl) r2 (gd_mem hi) (by rw [(h.ws i hi').length_eq]; exact (hc.Cores.2 i hi').1.len), fun j hj => ?_⟩
    obtain ⟨q, hq, e⟩ := mem_gd ((h.ws i hi').mem_iff.1 (gd_mem hj))
    rw [← e]
    have := (hc.Cores.2 i hi').2 q hq
    exact ⟨this.Partition, this.Usable, this.Slack⟩
  · exact row_sl (fun _ => rfl) r3 (by rw [h.pl]; exact hc.Partitions.1.len)
  · have hi' : i < c.Partitions.xs.length := by rw [← h.pl]; exact hi
    have hp := hc.Partitions.2 i hi'
    obtain ⟨b1, b2, b3, b4, b5, b6, b7⟩ := h.ps i hi'
    have hm : gd d.Partitions.xs i ∈ d.Partitions.xs := gd_mem hi
    refine ⟨by rw [b1]; exact hp.Name, by rw [b2]; exact hp.Entry, by rw [b3]; exact hp.Action, by rw [b4]; exact hp.Restarts, by rw [b5]; exact hp.Inputs, by rw [b6]; exact hp.Outputs, ⟨fam_sl (cells := TRegion.cells) (fun _ => rfl) r4 (List.mem_map_of_mem hm) (by rw [(h.rs i hi').length_eq]; exact hp.Regions.1.len), fun j hj => ?_⟩, ⟨fam_sl (cells := TPort.cells) (fun _ => rfl) r5 (List.mem_map_of_mem hm) (by rw [b7]; exact hp.Ports.1.len), fun j hj => ?_⟩⟩
    · obtain ⟨q, hq, e⟩ := mem_gd ((h.rs i hi').mem_iff.1 (gd_mem hj))
      rw [← e]
      have := hp.Regions.2 q hq
      exact ⟨this.Page, this.Pages, this.Frame, this.Rights⟩
    · rw [b7] at hj ⊢
      have := hp.Ports.2 j hj
      exact ⟨this.Channel, this.Source⟩
  · exact row_sl (fun _ => rfl) r6 (by rw [h.ch]; exact hc.Channels.1.len)
  · rw [h.ch] at hi ⊢
    have := hc.Channels.2 i hi
    exact ⟨this.Kind, this.Words, this.Depth⟩
end Go.Proofs.YtnjhekfgmbpmlaaDoor.Ad
namespace Go.Proofs.YtnjhekfgmbpmlaaDoor.Ad
open Go Go.Proofs.YtnjhekfgmbpmlaaDoor.Eng Go.Proofs.YtnjhekfgmbpmlaaDoor.Mem Go.Proofs.YtnjhekfgmbpmlaaDoor.Ly
set_option linter.unusedSimpArgs false
set_option linter.unusedVariables false
set_option maxRecDepth 100000
theorem check_copy (w : World) (hL : LaidAt w) (c d : TConfig) (hd : TConfig.ok Any w d) (h : strip d = strip c) (hLim : Lim c) : Calls Tryd.prog 9 #[.agg (TConfig.arr d)] w fun e w' => e = .returned (.tuple #[.int .i64 (checkF c).e, .agg #[.int .i64 (checkF c).where_.First, .int .i64 (checkF c).where_.Second]]) ∧ Keeps (fun _ => False) w w' := by
  have hx := str_xs h
  have h3 : d.Channels.xs.length = c.Channels.xs.length := by rw [hx.2.2.1]
  have := check_calls w hL d hd (by rw [hx.1, hx.2.1, h3]; exact hLim.sum)
  rwa [check_same h] at this
def TkIn (c : TConfig) (p k : Nat) (m : Int) (tk : Nat → Bool) : Prop := ∀ t : Nat, tk t = true → (c.Kernel ≤ t ∧ t < c.Kernel + c.Room) ∨ (∃ q n, (q < p ∨ (q = p ∧ n < k)) ∧ q < c.Partitions.xs.length ∧ n < (gd c.Partitions.xs q).Regions.xs.length ∧ (regC c q n).Frame ≤ t ∧ t < (regC c q n).Frame + (regC c q n).Pages) ∨ ((regC c p k).Frame ≤ t ∧ t < (regC c p k).Frame + m)
theorem tk_one {c : TConfig} {p k j : Nat} {m : Int} {tk : Nat → Bool} (h : TkIn c p k m tk) (hm : 0 ≤ m) (hj : (j : Int) = (regC c p k).Frame + m) : TkIn c p k (m + 1) (fun s => tk s || decide (s = j)) := fun t ht => by
  simp only [Bool.or_eq_true, decide_eq_true_eq] at ht
  rcases ht with ht | ht
  · rcases h t ht with e | e | e
    · exact .inl e
    · exact .inr (.inl e)
    · exact .inr (.inr (by omega))
  · exact .inr (.inr (by omega))
end Go.Proofs.YtnjhekfgmbpmlaaDoor.Ad
namespace Go.Proofs.YtnjhekfgmbpmlaaDoor.Ad
open Go Go.Proofs.YtnjhekfgmbpmlaaDoor.Eng Go.Proofs.YtnjhekfgmbpmlaaDoor.Mem Go.Proofs.YtnjhekfgmbpmlaaDoor.Ly
set_option linter.unusedSimpArgs false
set_option linter.unusedVariables false
set_option maxRecDepth 100000
abbrev q02o_0 (z : Nat) : Ch := bk (z + 9) #[.string (⟨#[114, 97, 100, 105, 111]⟩), i6 0, i6 2, i6 3, i6 0, i6 1, .slice (some ⟨z + 5, 0, none⟩) 1 1, .slice (some ⟨z + 6, 0, none⟩) 1 1, .string (⟨#[108, 97, 109, 112]⟩), i6 16, i6 0, i6 0, i6 2, i6 0, .slice (some ⟨z + 7, 0, none⟩) 1 1, .slice (some ⟨z + 8, 0, none⟩) 1 1] 41
abbrev q02o_1 (z : Nat) : Ch := bk z #[i6 64, i6 800, i6 40, i6 8, .slice (some ⟨z + 3, 0, none⟩) 2 2, .slice (some ⟨z + 9, 0, none⟩) 2 2, .slice (some ⟨z + 4, 0, none⟩) 1 1] 26
abbrev q02o_2 (z : Nat) : Ch := bk z #[i6 64, i6 800, i6 40, i6 7, .slice (some ⟨z + 3, 0, none⟩) 2 2, .slice (some ⟨z + 9, 0, none⟩) 2 2, .slice (some ⟨z + 4, 0, none⟩) 1 1] 26
abbrev q02o_3 (z : Nat) : Ch := bk z #[i6 64, i6 801, i6 40, i6 8, .slice (some ⟨z + 3, 0, none⟩) 2 2, .slice (some ⟨z + 9, 0, none⟩) 2 2, .slice (some ⟨z + 4, 0, none⟩) 1 1] 26
abbrev q02o_4 (z : Nat) : Ch := bk (z + 1) #[i6 0, i6 300, i6 100, i6 1, i6 300, i6 100] 44
abbrev q02o_5 (z : Nat) : Ch := bk (z + 1) #[i6 0, i6 300, i6 81, i6 1, i6 300, i6 100] 44
abbrev q02o_6 (z : Nat) : Ch := bk (z + 3) #[.slice (some ⟨z + 1, 0, none⟩) 2 2, .slice (some ⟨z + 2, 0, none⟩) 1 1] 42
abbrev q02o_7 (z : Nat) : Ch := bk (z + 5) #[i6 0, i6 2, i6 10, i6 7] 49
abbrev q02o_8 (z : Nat) : Ch := bk (z + 7) #[i6 1, i6 1, i6 20, i6 5] 49
abbrev q02o_9 (z : Nat) : Ch := bk (z + 2) #[i6 (-1), i6 700, i6 100] 44
abbrev q02o_10 (z : Nat) : Ch := bk (z + 4) #[i6 1, i6 2, i6 0] 55
abbrev q02o_11 (z : Nat) : Ch := bk (z + 8) #[i6 0, .bool false] 57
abbrev q02o_12 (z : Nat) : Ch := bk (z + 6) #[i6 0, .bool true] 57
abbrev q02o_13 (w3 : World) (W2 : TWhere) : Ch := .blk w3.heap.size (.cells (TWhere.arr W2) 34 (0, 0)) true
abbrev q02o_14 (z : Nat) : Nat × Value := (81, .agg #[i6 64, i6 800, i6 40, i6 8, .slice (some ⟨z + 3, 0, none⟩) 2 2, .slice (some ⟨z + 9, 0, none⟩) 2 2, .slice (some ⟨z + 4, 0, none⟩) 1 1])
set_option maxHeartbeats 4000000 in
theorem one_calls (w : World) (hL : LaidAt w) (which : Int) (hwh : InK .i64 which) : Calls Tryd.prog 6 #[.int .i64 which] w fun e w' => e = .returned (.bool true) ∧ Keeps (fun _ => False) w w' := by
 obtain ⟨z, hz⟩ : ∃ z, z = w.heap.size := ⟨_, rfl⟩
 refine calls_G (args := [i6 which]) 88 ⟨w, z, [(old0 w)]⟩ Tryd.func6 rfl (by kernel_rfl) (by kernel_rfl) (sat_0 hz) ?_
 have hw0 : (-9223372036854775808 : Int) ≤ which ∧ which ≤ 9223372036854775807 := hwh
 refine g_keep [0] [(0, i6 which)] ?_
 refine q_c 22 1 [] [[o0], [o0, o0, (an 7 1)], [o0, o0, o0, o0, o0, o0, o0, (a1 1)], [o0, o0, o0, (a1 1)], [o0, o0, o0, o0, o0, o0, o0, o0, o0, o0, o0, o0, (a1 1)], [(an 7 1)]] [Qb z, Qb z, Qb z, Qb z, Qb z, Qb z, Qb z, Qb z, Qb z, Qb z, Qb z, Qb z, Qb z, Qb z, Qb z, Qb z, Qb z] [(0, i6 which), (3, pt z), (33, .agg #[i6 64, i6 800, i6 40, i6 8, .slice (some ⟨z + 3, 0, none⟩) 2 2, .slice (some ⟨z + 9, 0, none⟩) 2 2, .slice (some ⟨z + 4, 0, none⟩) 1 1])] ⟨w, z + 10, [(old0 w), (q02o_1 z), (q02o_4 z), (q02o_9 z), (q02o_6 z), (q02o_10 z), (q02o_7 z), (q02o_12 z), (q02o_8 z), (q02o_11 z), (q02o_0 z)]⟩ rfl ⟨rfl, rfl, rfl, rfl, rfl, rfl, rfl, rfl, rfl, rfl, rfl, rfl, rfl, rfl, rfl, rfl, rfl, trivial⟩ ?_
 refine l_call [] [] 9 #[.agg #[i6 64, i6 800, i6 40, i6 8, .slice (some ⟨z + 3, 0, none⟩) 2 2, .slice (some ⟨z + 9, 0, none⟩) 2 2, .slice (some ⟨z + 4, 0, none⟩) 1 1]] (some 34) trivial ?_
 intro w1 hw1
 refine (check_at w1 (hL.ext (hw1.ext rfl)) (⟨64, 800, 40, 8, (⟨some ⟨z + 3, 0, none⟩, 2, ([(⟨some ⟨z + 1, 0, none⟩, 2, ([(⟨0, 300, 100⟩ : TWindow), (⟨1, 300, 100⟩ : TWindow)] : List TWindow)⟩ : Sl TWindow), (⟨some ⟨z + 2, 0, none⟩, 1, ([(⟨-1, 700, 100⟩ : TWindow)] : List TWindow)⟩ : Sl TWindow)] : List (Sl TWindow))⟩ : Sl (Sl TWindow)), (⟨some ⟨z + 9, 0, none⟩, 2, ([(⟨⟨#[114, 97, 100, 105, 111]⟩, 0, 2, 3, 0, 1, (⟨some ⟨z + 5, 0, none⟩, 1, ([(⟨0, 2, 10, 7⟩ : TRegion)] : List TRegion)⟩ : Sl TRegion), (⟨some ⟨z + 6, 0, none⟩, 1, ([(⟨0, true⟩ : TPort)] : List TPort)⟩ : Sl TPort)⟩ : TPartition), (⟨⟨#[108, 97, 109, 112]⟩, 16, 0, 0, 2, 0, (⟨some ⟨z + 7, 0, none⟩, 1, ([(⟨1, 1, 20, 5⟩ : TRegion)] : List TRegion)⟩ : Sl TRegion), (⟨some ⟨z + 8, 0, none⟩, 1, ([(⟨0, false⟩ : TPort)] : List TPort)⟩ : Sl TPort)⟩ : TPartition)] : List TPartition)⟩ : Sl TPartition), (⟨some ⟨z + 4, 0, none⟩, 1, ([(⟨1, 2, 0⟩ : TChannel)] : List TChannel)⟩ : Sl TChannel)⟩ : TConfig) (⟨(lit_ok (n := 64)), (lit_ok (n := 800)), (lit_ok (n := 40)), (lit_ok (n := 8)), (slok_of hw1 (cells := (fun x : Sl TWindow => [Sl.val x])) (sz := 1) (ok := (fun F W x => SlOk TWindow.cells 3 TWindow.ok F W x)) (i := 4) (fun _ => rfl) ([(⟨some ⟨z + 1, 0, none⟩, 2, ([(⟨0, 300, 100⟩ : TWindow), (⟨1, 300, 100⟩ : TWindow)] : List TWindow)⟩ : Sl TWindow), (⟨some ⟨z + 2, 0, none⟩, 1, ([(⟨-1, 700, 100⟩ : TWindow)] : List TWindow)⟩ : Sl TWindow)] : List (Sl TWindow)) (ok_cons (p := (fun F W x => SlOk TWindow.cells 3 TWindow.ok F W x) Any w1) (slok_of hw1 (cells := TWindow.cells) (sz := 3) (ok := TWindow.ok) (i := 2) (fun _ => rfl) ([(⟨0, 300, 100⟩ : TWindow), (⟨1, 300, 100⟩ : TWindow)] : List TWindow) (ok_cons (p := TWindow.ok Any w1) (⟨(lit_ok (n := 0)), (lit_ok (n := 300)), (lit_ok (n := 100))⟩ : TWindow.ok Any w1 ⟨0, 300, 100⟩) (ok_cons (p := TWindow.ok Any w1) (⟨(lit_ok (n := 1)), (lit_ok (n := 300)), (lit_ok (n := 100))⟩ : TWindow.ok Any w1 ⟨1, 300, 100⟩) ok_nil))) (ok_cons (p := (fun F W x => SlOk TWindow.cells 3 TWindow.ok F W x) Any w1) (slok_of hw1 (cells := TWindow.cells) (sz := 3) (ok := TWindow.ok) (i := 3) (fun _ => rfl) ([(⟨-1, 700, 100⟩ : TWindow)] : List TWindow) (ok_cons (p := TWindow.ok Any w1) (⟨(lit_ok (n := -1)), (lit_ok (n := 700)), (lit_ok (n := 100))⟩ : TWindow.ok Any w1 ⟨-1, 700, 100⟩) ok_nil)) ok_nil))), (slok_of hw1 (cells := TPartition.cells) (sz := 8) (ok := TPartition.ok) (i := 10) (fun _ => rfl) ([(⟨⟨#[114, 97, 100, 105, 111]⟩, 0, 2, 3, 0, 1, (⟨some ⟨z + 5, 0, none⟩, 1, ([(⟨0, 2, 10, 7⟩ : TRegion)] : List TRegion)⟩ : Sl TRegion), (⟨some ⟨z + 6, 0, none⟩, 1, ([(⟨0, true⟩ : TPort)] : List TPort)⟩ : Sl TPort)⟩ : TPartition), (⟨⟨#[108, 97, 109, 112]⟩, 16, 0, 0, 2, 0, (⟨some ⟨z + 7, 0, none⟩, 1, ([(⟨1, 1, 20, 5⟩ : TRegion)] : List TRegion)⟩ : Sl TRegion), (⟨some ⟨z + 8, 0, none⟩, 1, ([(⟨0, false⟩ : TPort)] : List TPort)⟩ : Sl TPort)⟩ : TPartition)] : List TPartition) (ok_cons (p := TPartition.ok Any w1) (⟨(show (⟨#[114, 97, 100, 105, 111]⟩ : ByteArray).size ≤ 140737488351232 by decide), (lit_ok (n := 0)), (lit_ok (n := 2)), (lit_ok (n := 3)), (lit_ok (n := 0)), (lit_ok (n := 1)), (slok_of hw1 (cells := TRegion.cells) (sz := 4) (ok := TRegion.ok) (i := 6) (fun _ => rfl) ([(⟨0, 2, 10, 7⟩ : TRegion)] : List TRegion) (ok_cons (p := TRegion.ok Any w1) (⟨(lit_ok (n := 0)), (lit_ok (n := 2)), (lit_ok (n := 10)), (lit_ok (n := 7))⟩ : TRegion.ok Any w1 ⟨0, 2, 10, 7⟩) ok_nil)), (slok_of hw1 (cells := TPort.cells) (sz := 2) (ok := TPort.ok) (i := 7) (fun _ => rfl) ([(⟨0, true⟩ : TPort)] : List TPort) (ok_cons (p := TPort.ok Any w1) (⟨(lit_ok (n := 0)), trivial⟩ : TPort.ok Any w1 ⟨0, true⟩) ok_nil))⟩ : TPartition.ok Any w1 ⟨⟨#[114, 97, 100, 105, 111]⟩, 0, 2, 3, 0, 1, (⟨some ⟨z + 5, 0, none⟩, 1, ([(⟨0, 2, 10, 7⟩ : TRegion)] : List TRegion)⟩ : Sl TRegion), (⟨some ⟨z + 6, 0, none⟩, 1, ([(⟨0, true⟩ : TPort)] : List TPort)⟩ : Sl TPort)⟩) (ok_cons (p := TPartition.ok Any w1) (⟨(show (⟨#[108, 97, 109, 112]⟩ : ByteArray).size ≤ 140737488351232 by decide), (lit_ok (n := 16)), (lit_ok (n := 0)), (lit_ok (n := 0)), (lit_ok (n := 2)), (lit_ok (n := 0)), (slok_of hw1 (cells := TRegion.cells) (sz := 4) (ok := TRegion.ok) (i := 8) (fun _ => rfl) ([(⟨1, 1, 20, 5⟩ : TRegion)] : List TRegion) (ok_cons (p := TRegion.ok Any w1) (⟨(lit_ok (n := 1)), (lit_ok (n := 1)), (lit_ok (n := 20)), (lit_ok (n := 5))⟩ : TRegion.ok Any w1 ⟨1, 1, 20, 5⟩) ok_nil)), (slok_of hw1 (cells := TPort.cells) (sz := 2) (ok := TPort.ok) (i := 9) (fun _ => rfl) ([(⟨0, false⟩ : TPort)] : List TPort) (ok_cons (p := TPort.ok Any w1) (⟨(lit_ok (n := 0)), trivial⟩ : TPort.ok Any w1 ⟨0, false⟩) ok_nil))⟩ : TPartition.ok Any w1 ⟨⟨#[108, 97, 109, 112]⟩, 16, 0, 0, 2, 0, (⟨some ⟨z + 7, 0, none⟩, 1, ([(⟨1, 1, 20, 5⟩ : TRegion)] : List TRegion)⟩ : Sl TRegion), (⟨some ⟨z + 8, 0, none⟩, 1, ([(⟨0, false⟩ : TPort)] : List TPort)⟩ : Sl TPort)⟩) ok_nil))), (slok_of hw1 (cells := TChannel.cells) (sz := 3) (ok := TChannel.ok) (i := 5) (fun _ => rfl) ([(⟨1, 2, 0⟩ : TChannel)] : List TChannel) (ok_cons (p := TChannel.ok Any w1) (⟨(lit_ok (n := 1)), (lit_ok (n := 2)), (lit_ok (n := 0))⟩ : TChannel.ok Any w1 ⟨1, 2, 0⟩) ok_nil))⟩ : TConfig.ok Any w1 ⟨64, 800, 40, 8, (⟨some ⟨z + 3, 0, none⟩, 2, ([(⟨some ⟨z + 1, 0, none⟩, 2, ([(⟨0, 300, 100⟩ : TWindow), (⟨1, 300, 100⟩ : TWindow)] : List TWindow)⟩ : Sl TWindow), (⟨some ⟨z + 2, 0, none⟩, 1, ([(⟨-1, 700, 100⟩ : TWindow)] : List TWindow)⟩ : Sl TWindow)] : List (Sl TWindow))⟩ : Sl (Sl TWindow)), (⟨some ⟨z + 9, 0, none⟩, 2, ([(⟨⟨#[114, 97, 100, 105, 111]⟩, 0, 2, 3, 0, 1, (⟨some ⟨z + 5, 0, none⟩, 1, ([(⟨0, 2, 10, 7⟩ : TRegion)] : List TRegion)⟩ : Sl TRegion), (⟨some ⟨z + 6, 0, none⟩, 1, ([(⟨0, true⟩ : TPort)] : List TPort)⟩ : Sl TPort)⟩ : TPartition), (⟨⟨#[108, 97, 109, 112]⟩, 16, 0, 0, 2, 0, (⟨some ⟨z + 7, 0, none⟩, 1, ([(⟨1, 1, 20, 5⟩ : TRegion)] : List TRegion)⟩ : Sl TRegion), (⟨some ⟨z + 8, 0, none⟩, 1, ([(⟨0, false⟩ : TPort)] : List TPort)⟩ : Sl TPort)⟩ : TPartition)] : List TPartition)⟩ : Sl TPartition), (⟨some ⟨z + 4, 0, none⟩, 1, ([(⟨1, 2, 0⟩ : TChannel)] : List TChannel)⟩ : Sl TChannel)⟩) (Nat.le_of_ble_eq_true (by kernel_rfl)) 0 (by kernel_rfl)).mono ?_
 rintro e w3 ⟨W2, rfl, hkw3⟩
 have hnw3 : z + 10 ≤ w3.heap.size := size_of hw1 hkw3
 refine ⟨_, _, rfl, hw1.keeps hkw3, ?_⟩
 refine q_r 21 0 [0] [[o0, o0, o0, o0, o0, (an 2 11)], [o0, o0], [o0], [o0]] [Qb w3.heap.size, Qb w3.heap.size] [(3, pt z), (6, i6 0), (39, i6 which)] ⟨w, w3.heap.size + 1, [(old0 w), (q02o_1 z), (q02o_4 z), (q02o_9 z), (q02o_6 z), (q02o_10 z), (q02o_7 z), (q02o_12 z), (q02o_8 z), (q02o_11 z), (q02o_0 z), (q02o_13 w3 W2)]⟩ rfl ⟨rfl, rfl, trivial⟩ ?_
 by_cases h4 : (which : Int) = 1
 · refine q_c 14 1 [1] [[oT, o0], [o0, (a1 1)], [o0], [(an 7 1)]] [ET which 1, Qb z, Qb z, Qb z, Qb z, Qb z, Qb z, Qb z, Qb z] [(6, i6 423), (81, .agg #[i6 64, i6 800, i6 40, i6 7, .slice (some ⟨z + 3, 0, none⟩) 2 2, .slice (some ⟨z + 9, 0, none⟩) 2 2, .slice (some ⟨z + 4, 0, none⟩) 1 1])] ⟨w, w3.heap.size + 1, [(old0 w), (q02o_2 z), (q02o_4 z), (q02o_9 z), (q02o_6 z), (q02o_10 z), (q02o_7 z), (q02o_12 z), (q02o_8 z), (q02o_11 z), (q02o_0 z), (q02o_13 w3 W2)]⟩ rfl ⟨et (by omega), rfl, rfl, rfl, rfl, rfl, rfl, rfl, rfl, trivial⟩ ?_
   refine l_call [] [] 9 #[.agg #[i6 64, i6 800, i6 40, i6 7, .slice (some ⟨z + 3, 0, none⟩) 2 2, .slice (some ⟨z + 9, 0, none⟩) 2 2, .slice (some ⟨z + 4, 0, none⟩) 1 1]] (some 82) trivial ?_
   intro w5 hw5
   refine (check_at w5 (hL.ext (hw5.ext rfl)) (⟨64, 800, 40, 7, (⟨some ⟨z + 3, 0, none⟩, 2, ([(⟨some ⟨z + 1, 0, none⟩, 2, ([(⟨0, 300, 100⟩ : TWindow), (⟨1, 300, 100⟩ : TWindow)] : List TWindow)⟩ : Sl TWindow), (⟨some ⟨z + 2, 0, none⟩, 1, ([(⟨-1, 700, 100⟩ : TWindow)] : List TWindow)⟩ : Sl TWindow)] : List (Sl TWindow))⟩ : Sl (Sl TWindow)), (⟨some ⟨z + 9, 0, none⟩, 2, ([(⟨⟨#[114, 97, 100, 105, 111]⟩, 0, 2, 3, 0, 1, (⟨some ⟨z + 5, 0, none⟩, 1, ([(⟨0, 2, 10, 7⟩ : TRegion)] : List TRegion)⟩ : Sl TRegion), (⟨some ⟨z + 6, 0, none⟩, 1, ([(⟨0, true⟩ : TPort)] : List TPort)⟩ : Sl TPort)⟩ : TPartition), (⟨⟨#[108, 97, 109, 112]⟩, 16, 0, 0, 2, 0, (⟨some ⟨z + 7, 0, none⟩, 1, ([(⟨1, 1, 20, 5⟩ : TRegion)] : List TRegion)⟩ : Sl TRegion), (⟨some ⟨z + 8, 0, none⟩, 1, ([(⟨0, false⟩ : TPort)] : List TPort)⟩ : Sl TPort)⟩ : TPartition)] : List TPartition)⟩ : Sl TPartition), (⟨some ⟨z + 4, 0, none⟩, 1, ([(⟨1, 2, 0⟩ : TChannel)] : List TChannel)⟩ : Sl TChannel)⟩ : TConfig) (⟨(lit_ok (n := 64)), (lit_ok (n := 800)), (lit_ok (n := 40)), (lit_ok (n := 7)), (slok_of hw5 (cells := (fun x : Sl TWindow => [Sl.val x])) (sz := 1) (ok := (fun F W x => SlOk TWindow.cells 3 TWindow.ok F W x)) (i := 4) (fun _ => rfl) ([(⟨some ⟨z + 1, 0, none⟩, 2, ([(⟨0, 300, 100⟩ : TWindow), (⟨1, 300, 100⟩ : TWindow)] : List TWindow)⟩ : Sl TWindow), (⟨some ⟨z + 2, 0, none⟩, 1, ([(⟨-1, 700, 100⟩ : TWindow)] : List TWindow)⟩ : Sl TWindow)] : List (Sl TWindow)) (ok_cons (p := (fun F W x => SlOk TWindow.cells 3 TWindow.ok F W x) Any w5) (slok_of hw5 (cells := TWindow.cells) (sz := 3) (ok := TWindow.ok) (i := 2) (fun _ => rfl) ([(⟨0, 300, 100⟩ : TWindow), (⟨1, 300, 100⟩ : TWindow)] : List TWindow) (ok_cons (p := TWindow.ok Any w5) (⟨(lit_ok (n := 0)), (lit_ok (n := 300)), (lit_ok (n := 100))⟩ : TWindow.ok Any w5 ⟨0, 300, 100⟩) (ok_cons (p := TWindow.ok Any w5) (⟨(lit_ok (n := 1)), (lit_ok (n := 300)), (lit_ok (n := 100))⟩ : TWindow.ok Any w5 ⟨1, 300, 100⟩) ok_nil))) (ok_cons (p := (fun F W x => SlOk TWindow.cells 3 TWindow.ok F W x) Any w5) (slok_of hw5 (cells := TWindow.cells) (sz := 3) (ok := TWindow.ok) (i := 3) (fun _ => rfl) ([(⟨-1, 700, 100⟩ : TWindow)] : List TWindow) (ok_cons (p := TWindow.ok Any w5) (⟨(lit_ok (n := -1)), (lit_ok (n := 700)), (lit_ok (n := 100))⟩ : TWindow.ok Any w5 ⟨-1, 700, 100⟩) ok_nil)) ok_nil))), (slok_of hw5 (cells := TPartition.cells) (sz := 8) (ok := TPartition.ok) (i := 10) (fun _ => rfl) ([(⟨⟨#[114, 97, 100, 105, 111]⟩, 0, 2, 3, 0, 1, (⟨some ⟨z + 5, 0, none⟩, 1, ([(⟨0, 2, 10, 7⟩ : TRegion)] : List TRegion)⟩ : Sl TRegion), (⟨some ⟨z + 6, 0, none⟩, 1, ([(⟨0, true⟩ : TPort)] : List TPort)⟩ : Sl TPort)⟩ : TPartition), (⟨⟨#[108, 97, 109, 112]⟩, 16, 0, 0, 2, 0, (⟨some ⟨z + 7, 0, none⟩, 1, ([(⟨1, 1, 20, 5⟩ : TRegion)] : List TRegion)⟩ : Sl TRegion), (⟨some ⟨z + 8, 0, none⟩, 1, ([(⟨0, false⟩ : TPort)] : List TPort)⟩ : Sl TPort)⟩ : TPartition)] : List TPartition) (ok_cons (p := TPartition.ok Any w5) (⟨(show (⟨#[114, 97, 100, 105, 111]⟩ : ByteArray).size ≤ 140737488351232 by decide), (lit_ok (n := 0)), (lit_ok (n := 2)), (lit_ok (n := 3)), (lit_ok (n := 0)), (lit_ok (n := 1)), (slok_of hw5 (cells := TRegion.cells) (sz := 4) (ok := TRegion.ok) (i := 6) (fun _ => rfl) ([(⟨0, 2, 10, 7⟩ : TRegion)] : List TRegion) (ok_cons (p := TRegion.ok Any w5) (⟨(lit_ok (n := 0)), (lit_ok (n := 2)), (lit_ok (n := 10)), (lit_ok (n := 7))⟩ : TRegion.ok Any w5 ⟨0, 2, 10, 7⟩) ok_nil)), (slok_of hw5 (cells := TPort.cells) (sz := 2) (ok := TPort.ok) (i := 7) (fun _ => rfl) ([(⟨0, true⟩ : TPort)] : List TPort) (ok_cons (p := TPort.ok Any w5) (⟨(lit_ok (n := 0)), trivial⟩ : TPort.ok Any w5 ⟨0, true⟩) ok_nil))⟩ : TPartition.ok Any w5 ⟨⟨#[114, 97, 100, 105, 111]⟩, 0, 2, 3, 0, 1, (⟨some ⟨z + 5, 0, none⟩, 1, ([(⟨0, 2, 10, 7⟩ : TRegion)] : List TRegion)⟩ : Sl TRegion), (⟨some ⟨z + 6, 0, none⟩, 1, ([(⟨0, true⟩ : TPort)] : List TPort)⟩ : Sl TPort)⟩) (ok_cons (p := TPartition.ok Any w5) (⟨(show (⟨#[108, 97, 109, 112]⟩ : ByteArray).size ≤ 140737488351232 by decide), (lit_ok (n := 16)), (lit_ok (n := 0)), (lit_ok (n := 0)), (lit_ok (n := 2)), (lit_ok (n := 0)), (slok_of hw5 (cells := TRegion.cells) (sz := 4) (ok := TRegion.ok) (i := 8) (fun _ => rfl) ([(⟨1, 1, 20, 5⟩ : TRegion)] : List TRegion) (ok_cons (p := TRegion.ok Any w5) (⟨(lit_ok (n := 1)), (lit_ok (n := 1)), (lit_ok (n := 20)), (lit_ok (n := 5))⟩ : TRegion.ok Any w5 ⟨1, 1, 20, 5⟩) ok_nil)), (slok_of hw5 (cells := TPort.cells) (sz := 2) (ok := TPort.ok) (i := 9) (fun _ => rfl) ([(⟨0, false⟩ : TPort)] : List TPort) (ok_cons (p := TPort.ok Any w5) (⟨(lit_ok (n := 0)), trivial⟩ : TPort.ok Any w5 ⟨0, false⟩) ok_nil))⟩ : TPartition.ok Any w5 ⟨⟨#[108, 97, 109, 112]⟩, 16, 0, 0, 2, 0, (⟨some ⟨z + 7, 0, none⟩, 1, ([(⟨1, 1, 20, 5⟩ : TRegion)] : List TRegion)⟩ : Sl TRegion), (⟨some ⟨z + 8, 0, none⟩, 1, ([(⟨0, false⟩ : TPort)] : List TPort)⟩ : Sl TPort)⟩) ok_nil))), (slok_of hw5 (cells := TChannel.cells) (sz := 3) (ok := TChannel.ok) (i := 5) (fun _ => rfl) ([(⟨1, 2, 0⟩ : TChannel)] : List TChannel) (ok_cons (p := TChannel.ok Any w5) (⟨(lit_ok (n := 1)), (lit_ok (n := 2)), (lit_ok (n := 0))⟩ : TChannel.ok Any w5 ⟨1, 2, 0⟩) ok_nil))⟩ : TConfig.ok Any w5 ⟨64, 800, 40, 7, (⟨some ⟨z + 3, 0, none⟩, 2, ([(⟨some ⟨z + 1, 0, none⟩, 2, ([(⟨0, 300, 100⟩ : TWindow), (⟨1, 300, 100⟩ : TWindow)] : List TWindow)⟩ : Sl TWindow), (⟨some ⟨z + 2, 0, none⟩, 1, ([(⟨-1, 700, 100⟩ : TWindow)] : List TWindow)⟩ : Sl TWindow)] : List (Sl TWindow))⟩ : Sl (Sl TWindow)), (⟨some ⟨z + 9, 0, none⟩, 2, ([(⟨⟨#[114, 97, 100, 105, 111]⟩, 0, 2, 3, 0, 1, (⟨some ⟨z + 5, 0, none⟩, 1, ([(⟨0, 2, 10, 7⟩ : TRegion)] : List TRegion)⟩ : Sl TRegion), (⟨some ⟨z + 6, 0, none⟩, 1, ([(⟨0, true⟩ : TPort)] : List TPort)⟩ : Sl TPort)⟩ : TPartition), (⟨⟨#[108, 97, 109, 112]⟩, 16, 0, 0, 2, 0, (⟨some ⟨z + 7, 0, none⟩, 1, ([(⟨1, 1, 20, 5⟩ : TRegion)] : List TRegion)⟩ : Sl TRegion), (⟨some ⟨z + 8, 0, none⟩, 1, ([(⟨0, false⟩ : TPort)] : List TPort)⟩ : Sl TPort)⟩ : TPartition)] : List TPartition)⟩ : Sl TPartition), (⟨some ⟨z + 4, 0, none⟩, 1, ([(⟨1, 2, 0⟩ : TChannel)] : List TChannel)⟩ : Sl TChannel)⟩) (Nat.le_of_ble_eq_true (by kernel_rfl)) 423 (by kernel_rfl)).mono ?_
   rintro e w7 ⟨W6, rfl, hkw7⟩
   have hnw7 : w3.heap.size + 1 ≤ w7.heap.size := size_of hw5 hkw7
   refine ⟨_, _, rfl, hw5.keeps hkw7, ?_⟩
   refine q_r 7 0 [] [[o0, o0, o0, o0, o0, (an 2 12)], [o0, o0, o0, o0]] [Qb w7.heap.size, Qb w7.heap.size] [(2, .bool true)] ⟨w, w7.heap.size + 1, [(old0 w), (q02o_2 z), (q02o_4 z), (q02o_9 z), (q02o_6 z), (q02o_10 z), (q02o_7 z), (q02o_12 z), (q02o_8 z), (q02o_11 z), (q02o_0 z), (q02o_13 w3 W2), (.blk w7.heap.size (.cells (TWhere.arr W6) 34 (0, 0)) true)]⟩ rfl ⟨rfl, rfl, trivial⟩ ?_
   refine e_ret [] [] (.bool true) trivial ?_
   intro w8 hw8
   exact ⟨rfl, back0 hw8⟩
 · refine q_cS 5 0 [0] [[oF, o0]] [EF which 1] [(3, pt z), (6, i6 0), (39, i6 which), (40, .bool false)] rfl ⟨ef (by omega), trivial⟩ ?_
   by_cases h9 : (which : Int) = 2
   · refine q_c 14 1 [1] [[oT, o0], [o0, (a1 1)], [o0], [(an 7 1)]] [ET which 2, Qb z, Qb z, Qb z, Qb z, Qb z, Qb z, Qb z, Qb z] [(6, i6 421), (81, .agg #[i6 64, i6 801, i6 40, i6 8, .slice (some ⟨z + 3, 0, none⟩) 2 2, .slice (some ⟨z + 9, 0, none⟩) 2 2, .slice (some ⟨z + 4, 0, none⟩) 1 1])] ⟨w, w3.heap.size + 1, [(old0 w), (q02o_3 z), (q02o_4 z), (q02o_9 z), (q02o_6 z), (q02o_10 z), (q02o_7 z), (q02o_12 z), (q02o_8 z), (q02o_11 z), (q02o_0 z), (q02o_13 w3 W2)]⟩ rfl ⟨et (by omega), rfl, rfl, rfl, rfl, rfl, rfl, rfl, rfl, trivial⟩ ?_
     refine l_call [] [] 9 #[.agg #[i6 64, i6 801, i6 40, i6 8, .slice (some ⟨z + 3, 0, none⟩) 2 2, .slice (some ⟨z + 9, 0, none⟩) 2 2, .slice (some ⟨z + 4, 0, none⟩) 1 1]] (some 82) trivial ?_
     intro w10 hw10
     refine (check_at w10 (hL.ext (hw10.ext rfl)) (⟨64, 801, 40, 8, (⟨some ⟨z + 3, 0, none⟩, 2, ([(⟨some ⟨z + 1, 0, none⟩, 2, ([(⟨0, 300, 100⟩ : TWindow), (⟨1, 300, 100⟩ : TWindow)] : List TWindow)⟩ : Sl TWindow), (⟨some ⟨z + 2, 0, none⟩, 1, ([(⟨-1, 700, 100⟩ : TWindow)] : List TWindow)⟩ : Sl TWindow)] : List (Sl TWindow))⟩ : Sl (Sl TWindow)), (⟨some ⟨z + 9, 0, none⟩, 2, ([(⟨⟨#[114, 97, 100, 105, 111]⟩, 0, 2, 3, 0, 1, (⟨some ⟨z + 5, 0, none⟩, 1, ([(⟨0, 2, 10, 7⟩ : TRegion)] : List TRegion)⟩ : Sl TRegion), (⟨some ⟨z + 6, 0, none⟩, 1, ([(⟨0, true⟩ : TPort)] : List TPort)⟩ : Sl TPort)⟩ : TPartition), (⟨⟨#[108, 97, 109, 112]⟩, 16, 0, 0, 2, 0, (⟨some ⟨z + 7, 0, none⟩, 1, ([(⟨1, 1, 20, 5⟩ : TRegion)] : List TRegion)⟩ : Sl TRegion), (⟨some ⟨z + 8, 0, none⟩, 1, ([(⟨0, false⟩ : TPort)] : List TPort)⟩ : Sl TPort)⟩ : TPartition)] : List TPartition)⟩ : Sl TPartition), (⟨some ⟨z + 4, 0, none⟩, 1, ([(⟨1, 2, 0⟩ : TChannel)] : List TChannel)⟩ : Sl TChannel)⟩ : TConfig) (⟨(lit_ok (n := 64)), (lit_ok (n := 801)), (lit_ok (n := 40)), (lit_ok (n := 8)), (slok_of hw10 (cells := (fun x : Sl TWindow => [Sl.val x])) (sz := 1) (ok := (fun F W x => SlOk TWindow.cells 3 TWindow.ok F W x)) (i := 4) (fun _ => rfl) ([(⟨some ⟨z + 1, 0, none⟩, 2, ([(⟨0, 300, 100⟩ : TWindow), (⟨1, 300, 100⟩ : TWindow)] : List TWindow)⟩ : Sl TWindow), (⟨some ⟨z + 2, 0, none⟩, 1, ([(⟨-1, 700, 100⟩ : TWindow)] : List TWindow)⟩ : Sl TWindow)] : List (Sl TWindow)) (ok_cons (p := (fun F W x => SlOk TWindow.cells 3 TWindow.ok F W x) Any w10) (slok_of hw10 (cells := TWindow.cells) (sz := 3) (ok := TWindow.ok) (i := 2) (fun _ => rfl) ([(⟨0, 300, 100⟩ : TWindow), (⟨1, 300, 100⟩ : TWindow)] : List TWindow) (ok_cons (p := TWindow.ok Any w10) (⟨(lit_ok (n := 0)), (lit_ok (n := 300)), (lit_ok (n := 100))⟩ : TWindow.ok Any w10 ⟨0, 300, 100⟩) (ok_cons (p := TWindow.ok Any w10) (⟨(lit_ok (n := 1)), (lit_ok (n := 300)), (lit_ok (n := 100))⟩ : TWindow.ok Any w10 ⟨1, 300, 100⟩) ok_nil))) (ok_cons (p := (fun F W x => SlOk TWindow.cells 3 TWindow.ok F W x) Any w10) (slok_of hw10 (cells := TWindow.cells) (sz := 3) (ok := TWindow.ok) (i := 3) (fun _ => rfl) ([(⟨-1, 700, 100⟩ : TWindow)] : List TWindow) (ok_cons (p := TWindow.ok Any w10) (⟨(lit_ok (n := -1)), (lit_ok (n := 700)), (lit_ok (n := 100))⟩ : TWindow.ok Any w10 ⟨-1, 700, 100⟩) ok_nil)) ok_nil))), (slok_of hw10 (cells := TPartition.cells) (sz := 8) (ok := TPartition.ok) (i := 10) (fun _ => rfl) ([(⟨⟨#[114, 97, 100, 105, 111]⟩, 0, 2, 3, 0, 1, (⟨some ⟨z + 5, 0, none⟩, 1, ([(⟨0, 2, 10, 7⟩ : TRegion)] : List TRegion)⟩ : Sl TRegion), (⟨some ⟨z + 6, 0, none⟩, 1, ([(⟨0, true⟩ : TPort)] : List TPort)⟩ : Sl TPort)⟩ : TPartition), (⟨⟨#[108, 97, 109, 112]⟩, 16, 0, 0, 2, 0, (⟨some ⟨z + 7, 0, none⟩, 1, ([(⟨1, 1, 20, 5⟩ : TRegion)] : List TRegion)⟩ : Sl TRegion), (⟨some ⟨z + 8, 0, none⟩, 1, ([(⟨0, false⟩ : TPort)] : List TPort)⟩ : Sl TPort)⟩ : TPartition)] : List TPartition) (ok_cons (p := TPartition.ok Any w10) (⟨(show (⟨#[114, 97, 100, 105, 111]⟩ : ByteArray).size ≤ 140737488351232 by decide), (lit_ok (n := 0)), (lit_ok (n := 2)), (lit_ok (n := 3)), (lit_ok (n := 0)), (lit_ok (n := 1)), (slok_of hw10 (cells := TRegion.cells) (sz := 4) (ok := TRegion.ok) (i := 6) (fun _ => rfl) ([(⟨0, 2, 10, 7⟩ : TRegion)] : List TRegion) (ok_cons (p := TRegion.ok Any w10) (⟨(lit_ok (n := 0)), (lit_ok (n := 2)), (lit_ok (n := 10)), (lit_ok (n := 7))⟩ : TRegion.ok Any w10 ⟨0, 2, 10, 7⟩) ok_nil)), (slok_of hw10 (cells := TPort.cells) (sz := 2) (ok := TPort.ok) (i := 7) (fun _ => rfl) ([(⟨0, true⟩ : TPort)] : List TPort) (ok_cons (p := TPort.ok Any w10) (⟨(lit_ok (n := 0)), trivial⟩ : TPort.ok Any w10 ⟨0, true⟩) ok_nil))⟩ : TPartition.ok Any w10 ⟨⟨#[114, 97, 100, 105, 111]⟩, 0, 2, 3, 0, 1, (⟨some ⟨z + 5, 0, none⟩, 1, ([(⟨0, 2, 10, 7⟩ : TRegion)] : List TRegion)⟩ : Sl TRegion), (⟨some ⟨z + 6, 0, none⟩, 1, ([(⟨0, true⟩ : TPort)] : List TPort)⟩ : Sl TPort)⟩) (ok_cons (p := TPartition.ok Any w10) (⟨(show (⟨#[108, 97, 109, 112]⟩ : ByteArray).size ≤ 140737488351232 by decide), (lit_ok (n := 16)), (lit_ok (n := 0)), (lit_ok (n := 0)), (lit_ok (n := 2)), (lit_ok (n := 0)), (slok_of hw10 (cells := TRegion.cells) (sz := 4) (ok := TRegion.ok) (i := 8) (fun _ => rfl) ([(⟨1, 1, 20, 5⟩ : TRegion)] : List TRegion) (ok_cons (p := TRegion.ok Any w10) (⟨(lit_ok (n := 1)), (lit_ok (n := 1)), (lit_ok (n := 20)), (lit_ok (n := 5))⟩ : TRegion.ok Any w10 ⟨1, 1, 20, 5⟩) ok_nil)), (slok_of hw10 (cells := TPort.cells) (sz := 2) (ok := TPort.ok) (i := 9) (fun _ => rfl) ([(⟨0, false⟩ : TPort)] : List TPort) (ok_cons (p := TPort.ok Any w10) (⟨(lit_ok (n := 0)), trivial⟩ : TPort.ok Any w10 ⟨0, false⟩) ok_nil))⟩ : TPartition.ok Any w10 ⟨⟨#[108, 97, 109, 112]⟩, 16, 0, 0, 2, 0, (⟨some ⟨z + 7, 0, none⟩, 1, ([(⟨1, 1, 20, 5⟩ : TRegion)] : List TRegion)⟩ : Sl TRegion), (⟨some ⟨z + 8, 0, none⟩, 1, ([(⟨0, false⟩ : TPort)] : List TPort)⟩ : Sl TPort)⟩) ok_nil))), (slok_of hw10 (cells := TChannel.cells) (sz := 3) (ok := TChannel.ok) (i := 5) (fun _ => rfl) ([(⟨1, 2, 0⟩ : TChannel)] : List TChannel) (ok_cons (p := TChannel.ok Any w10) (⟨(lit_ok (n := 1)), (lit_ok (n := 2)), (lit_ok (n := 0))⟩ : TChannel.ok Any w10 ⟨1, 2, 0⟩) ok_nil))⟩ : TConfig.ok Any w10 ⟨64, 801, 40, 8, (⟨some ⟨z + 3, 0, none⟩, 2, ([(⟨some ⟨z + 1, 0, none⟩, 2, ([(⟨0, 300, 100⟩ : TWindow), (⟨1, 300, 100⟩ : TWindow)] : List TWindow)⟩ : Sl TWindow), (⟨some ⟨z + 2, 0, none⟩, 1, ([(⟨-1, 700, 100⟩ : TWindow)] : List TWindow)⟩ : Sl TWindow)] : List (Sl TWindow))⟩ : Sl (Sl TWindow)), (⟨some ⟨z + 9, 0, none⟩, 2, ([(⟨⟨#[114, 97, 100, 105, 111]⟩, 0, 2, 3, 0, 1, (⟨some ⟨z + 5, 0, none⟩, 1, ([(⟨0, 2, 10, 7⟩ : TRegion)] : List TRegion)⟩ : Sl TRegion), (⟨some ⟨z + 6, 0, none⟩, 1, ([(⟨0, true⟩ : TPort)] : List TPort)⟩ : Sl TPort)⟩ : TPartition), (⟨⟨#[108, 97, 109, 112]⟩, 16, 0, 0, 2, 0, (⟨some ⟨z + 7, 0, none⟩, 1, ([(⟨1, 1, 20, 5⟩ : TRegion)] : List TRegion)⟩ : Sl TRegion), (⟨some ⟨z + 8, 0, none⟩, 1, ([(⟨0, false⟩ : TPort)] : List TPort)⟩ : Sl TPort)⟩ : TPartition)] : List TPartition)⟩ : Sl TPartition), (⟨some ⟨z + 4, 0, none⟩, 1, ([(⟨1, 2, 0⟩ : TChannel)] : List TChannel)⟩ : Sl TChannel)⟩) (Nat.le_of_ble_eq_true (by kernel_rfl)) 421 (by kernel_rfl)).mono ?_
     rintro e w12 ⟨W11, rfl, hkw12⟩
     have hnw12 : w3.heap.size + 1 ≤ w12.heap.size := size_of hw10 hkw12
     refine ⟨_, _, rfl, hw10.keeps hkw12, ?_⟩
     refine q_r 7 0 [] [[o0, o0, o0, o0, o0, (an 2 12)], [o0, o0, o0, o0]] [Qb w12.heap.size, Qb w12.heap.size] [(2, .bool true)] ⟨w, w12.heap.size + 1, [(old0 w), (q02o_3 z), (q02o_4 z), (q02o_9 z), (q02o_6 z), (q02o_10 z), (q02o_7 z), (q02o_12 z), (q02o_8 z), (q02o_11 z), (q02o_0 z), (q02o_13 w3 W2), (.blk w12.heap.size (.cells (TWhere.arr W11) 34 (0, 0)) true)]⟩ rfl ⟨rfl, rfl, trivial⟩ ?_
     refine e_ret [] [] (.bool true) trivial ?_
     intro w13 hw13
     exact ⟨rfl, back0 hw13⟩
   · refine q_cS 5 0 [0] [[oF, o0]] [EF which 2] [(3, pt z), (6, i6 0), (39, i6 which), (43, .bool false)] rfl ⟨ef (by omega), trivial⟩ ?_
     by_cases h14 : (which : Int) = 3
     · refine q_c 14 1 [1] [[oT, o0], [o0, (a1 1), (oi 1), o0, (a1 10), (oi 0), o0, (a1 8)], [o0], [(an 7 1)]] [ET which 3, Qb z, (1 : Int) = ((1 : Nat) : Int), 1 < 2, (none : Option Nat) = none, Qb (z + 9), (0 : Int) = ((0 : Nat) : Int), 0 < 1, (none : Option Nat) = none, Qb (z + 7), Qb z, Qb z, Qb z, Qb z, Qb z, Qb z, Qb z] [(6, i6 411), (q02o_14 z)] ⟨w, w3.heap.size + 1, [(old0 w), (q02o_1 z), (q02o_4 z), (q02o_9 z), (q02o_6 z), (q02o_10 z), (q02o_7 z), (q02o_12 z), (bk (z + 7) #[i6 1, i6 1, i6 11, i6 5] 49), (q02o_11 z), (q02o_0 z), (q02o_13 w3 W2)]⟩ rfl ⟨et (by omega), rfl, rfl, (by omega), rfl, rfl, rfl, (by omega), rfl, rfl, rfl, rfl, rfl, rfl, rfl, rfl, rfl, trivial⟩ ?_
       refine l_call [] [] 9 #[.agg #[i6 64, i6 800, i6 40, i6 8, .slice (some ⟨z + 3, 0, none⟩) 2 2, .slice (some ⟨z + 9, 0, none⟩) 2 2, .slice (some ⟨z + 4, 0, none⟩) 1 1]] (some 82) trivial ?_
       intro w15 hw15
       refine (check_at w15 (hL.ext (hw15.ext rfl)) (⟨64, 800, 40, 8, (⟨some ⟨z + 3, 0, none⟩, 2, ([(⟨some ⟨z + 1, 0, none⟩, 2, ([(⟨0, 300, 100⟩ : TWindow), (⟨1, 300, 100⟩ : TWindow)] : List TWindow)⟩ : Sl TWindow), (⟨some ⟨z + 2, 0, none⟩, 1, ([(⟨-1, 700, 100⟩ : TWindow)] : List TWindow)⟩ : Sl TWindow)] : List (Sl TWindow))⟩ : Sl (Sl TWindow)), (⟨some ⟨z + 9, 0, none⟩, 2, ([(⟨⟨#[114, 97, 100, 105, 111]⟩, 0, 2, 3, 0, 1, (⟨some ⟨z + 5, 0, none⟩, 1, ([(⟨0, 2, 10, 7⟩ : TRegion)] : List TRegion)⟩ : Sl TRegion), (⟨some ⟨z + 6, 0, none⟩, 1, ([(⟨0, true⟩ : TPort)] : List TPort)⟩ : Sl TPort)⟩ : TPartition), (⟨⟨#[108, 97, 109, 112]⟩, 16, 0, 0, 2, 0, (⟨some ⟨z + 7, 0, none⟩, 1, ([(⟨1, 1, 11, 5⟩ : TRegion)] : List TRegion)⟩ : Sl TRegion), (⟨some ⟨z + 8, 0, none⟩, 1, ([(⟨0, false⟩ : TPort)] : List TPort)⟩ : Sl TPort)⟩ : TPartition)] : List TPartition)⟩ : Sl TPartition), (⟨some ⟨z + 4, 0, none⟩, 1, ([(⟨1, 2, 0⟩ : TChannel)] : List TChannel)⟩ : Sl TChannel)⟩ : TConfig) (⟨(lit_ok (n := 64)), (lit_ok (n := 800)), (lit_ok (n := 40)), (lit_ok (n := 8)), (slok_of hw15 (cells := (fun x : Sl TWindow => [Sl.val x])) (sz := 1) (ok := (fun F W x => SlOk TWindow.cells 3 TWindow.ok F W x)) (i := 4) (fun _ => rfl) ([(⟨some ⟨z + 1, 0, none⟩, 2, ([(⟨0, 300, 100⟩ : TWindow), (⟨1, 300, 100⟩ : TWindow)] : List TWindow)⟩ : Sl TWindow), (⟨some ⟨z + 2, 0, none⟩, 1, ([(⟨-1, 700, 100⟩ : TWindow)] : List TWindow)⟩ : Sl TWindow)] : List (Sl TWindow)) (ok_cons (p := (fun F W x => SlOk TWindow.cells 3 TWindow.ok F W x) Any w15) (slok_of hw15 (cells := TWindow.cells) (sz := 3) (ok := TWindow.ok) (i := 2) (fun _ => rfl) ([(⟨0, 300, 100⟩ : TWindow), (⟨1, 300, 100⟩ : TWindow)] : List TWindow) (ok_cons (p := TWindow.ok Any w15) (⟨(lit_ok (n := 0)), (lit_ok (n := 300)), (lit_ok (n := 100))⟩ : TWindow.ok Any w15 ⟨0, 300, 100⟩) (ok_cons (p := TWindow.ok Any w15) (⟨(lit_ok (n := 1)), (lit_ok (n := 300)), (lit_ok (n := 100))⟩ : TWindow.ok Any w15 ⟨1, 300, 100⟩) ok_nil))) (ok_cons (p := (fun F W x => SlOk TWindow.cells 3 TWindow.ok F W x) Any w15) (slok_of hw15 (cells := TWindow.cells) (sz := 3) (ok := TWindow.ok) (i := 3) (fun _ => rfl) ([(⟨-1, 700, 100⟩ : TWindow)] : List TWindow) (ok_cons (p := TWindow.ok Any w15) (⟨(lit_ok (n := -1)), (lit_ok (n := 700)), (lit_ok (n := 100))⟩ : TWindow.ok Any w15 ⟨-1, 700, 100⟩) ok_nil)) ok_nil))), (slok_of hw15 (cells := TPartition.cells) (sz := 8) (ok := TPartition.ok) (i := 10) (fun _ => rfl) ([(⟨⟨#[114, 97, 100, 105, 111]⟩, 0, 2, 3, 0, 1, (⟨some ⟨z + 5, 0, none⟩, 1, ([(⟨0, 2, 10, 7⟩ : TRegion)] : List TRegion)⟩ : Sl TRegion), (⟨some ⟨z + 6, 0, none⟩, 1, ([(⟨0, true⟩ : TPort)] : List TPort)⟩ : Sl TPort)⟩ : TPartition), (⟨⟨#[108, 97, 109, 112]⟩, 16, 0, 0, 2, 0, (⟨some ⟨z + 7, 0, none⟩, 1, ([(⟨1, 1, 11, 5⟩ : TRegion)] : List TRegion)⟩ : Sl TRegion), (⟨some ⟨z + 8, 0, none⟩, 1, ([(⟨0, false⟩ : TPort)] : List TPort)⟩ : Sl TPort)⟩ : TPartition)] : List TPartition) (ok_cons (p := TPartition.ok Any w15) (⟨(show (⟨#[114, 97, 100, 105, 111]⟩ : ByteArray).size ≤ 140737488351232 by decide), (lit_ok (n := 0)), (lit_ok (n := 2)), (lit_ok (n := 3)), (lit_ok (n := 0)), (lit_ok (n := 1)), (slok_of hw15 (cells := TRegion.cells) (sz := 4) (ok := TRegion.ok) (i := 6) (fun _ => rfl) ([(⟨0, 2, 10, 7⟩ : TRegion)] : List TRegion) (ok_cons (p := TRegion.ok Any w15) (⟨(lit_ok (n := 0)), (lit_ok (n := 2)), (lit_ok (n := 10)), (lit_ok (n := 7))⟩ : TRegion.ok Any w15 ⟨0, 2, 10, 7⟩) ok_nil)), (slok_of hw15 (cells := TPort.cells) (sz := 2) (ok := TPort.ok) (i := 7) (fun _ => rfl) ([(⟨0, true⟩ : TPort)] : List TPort) (ok_cons (p := TPort.ok Any w15) (⟨(lit_ok (n := 0)), trivial⟩ : TPort.ok Any w15 ⟨0, true⟩) ok_nil))⟩ : TPartition.ok Any w15 ⟨⟨#[114, 97, 100, 105, 111]⟩, 0, 2, 3, 0, 1, (⟨some ⟨z + 5, 0, none⟩, 1, ([(⟨0, 2, 10, 7⟩ : TRegion)] : List TRegion)⟩ : Sl TRegion), (⟨some ⟨z + 6, 0, none⟩, 1, ([(⟨0, true⟩ : TPort)] : List TPort)⟩ : Sl TPort)⟩) (ok_cons (p := TPartition.ok Any w15) (⟨(show (⟨#[108, 97, 109, 112]⟩ : ByteArray).size ≤ 140737488351232 by decide), (lit_ok (n := 16)), (lit_ok (n := 0)), (lit_ok (n := 0)), (lit_ok (n := 2)), (lit_ok (n := 0)), (slok_of hw15 (cells := TRegion.cells) (sz := 4) (ok := TRegion.ok) (i := 8) (fun _ => rfl) ([(⟨1, 1, 11, 5⟩ : TRegion)] : List TRegion) (ok_cons (p := TRegion.ok Any w15) (⟨(lit_ok (n := 1)), (lit_ok (n := 1)), (lit_ok (n := 11)), (lit_ok (n := 5))⟩ : TRegion.ok Any w15 ⟨1, 1, 11, 5⟩) ok_nil)), (slok_of hw15 (cells := TPort.cells) (sz := 2) (ok := TPort.ok) (i := 9) (fun _ => rfl) ([(⟨0, false⟩ : TPort)] : List TPort) (ok_cons (p := TPort.ok Any w15) (⟨(lit_ok (n := 0)), trivial⟩ : TPort.ok Any w15 ⟨0, false⟩) ok_nil))⟩ : TPartition.ok Any w15 ⟨⟨#[108, 97, 109, 112]⟩, 16, 0, 0, 2, 0, (⟨some ⟨z + 7, 0, none⟩, 1, ([(⟨1, 1, 11, 5⟩ : TRegion)] : List TRegion)⟩ : Sl TRegion), (⟨some ⟨z + 8, 0, none⟩, 1, ([(⟨0, false⟩ : TPort)] : List TPort)⟩ : Sl TPort)⟩) ok_nil))), (slok_of hw15 (cells := TChannel.cells) (sz := 3) (ok := TChannel.ok) (i := 5) (fun _ => rfl) ([(⟨1, 2, 0⟩ : TChannel)] : List TChannel) (ok_cons (p := TChannel.ok Any w15) (⟨(lit_ok (n := 1)), (lit_ok (n := 2)), (lit_ok (n := 0))⟩ : TChannel.ok Any w15 ⟨1, 2, 0⟩) ok_nil))⟩ : TConfig.ok Any w15 ⟨64, 800, 40, 8, (⟨some ⟨z + 3, 0, none⟩, 2, ([(⟨some ⟨z + 1, 0, none⟩, 2, ([(⟨0, 300, 100⟩ : TWindow), (⟨1, 300, 100⟩ : TWindow)] : List TWindow)⟩ : Sl TWindow), (⟨some ⟨z + 2, 0, none⟩, 1, ([(⟨-1, 700, 100⟩ : TWindow)] : List TWindow)⟩ : Sl TWindow)] : List (Sl TWindow))⟩ : Sl (Sl TWindow)), (⟨some ⟨z + 9, 0, none⟩, 2, ([(⟨⟨#[114, 97, 100, 105, 111]⟩, 0, 2, 3, 0, 1, (⟨some ⟨z + 5, 0, none⟩, 1, ([(⟨0, 2, 10, 7⟩ : TRegion)] : List TRegion)⟩ : Sl TRegion), (⟨some ⟨z + 6, 0, none⟩, 1, ([(⟨0, true⟩ : TPort)] : List TPort)⟩ : Sl TPort)⟩ : TPartition), (⟨⟨#[108, 97, 109, 112]⟩, 16, 0, 0, 2, 0, (⟨some ⟨z + 7, 0, none⟩, 1, ([(⟨1, 1, 11, 5⟩ : TRegion)] : List TRegion)⟩ : Sl TRegion), (⟨some ⟨z + 8, 0, none⟩, 1, ([(⟨0, false⟩ : TPort)] : List TPort)⟩ : Sl TPort)⟩ : TPartition)] : List TPartition)⟩ : Sl TPartition), (⟨some ⟨z + 4, 0, none⟩, 1, ([(⟨1, 2, 0⟩ : TChannel)] : List TChannel)⟩ : Sl TChannel)⟩) (Nat.le_of_ble_eq_true (by kernel_rfl)) 411 (by kernel_rfl)).mono ?_
       rintro e w17 ⟨W16, rfl, hkw17⟩
       have hnw17 : w3.heap.size + 1 ≤ w17.heap.size := size_of hw15 hkw17
       refine ⟨_, _, rfl, hw15.keeps hkw17, ?_⟩
       refine q_r 7 0 [] [[o0, o0, o0, o0, o0, (an 2 12)], [o0, o0, o0, o0]] [Qb w17.heap.size, Qb w17.heap.size] [(2, .bool true)] ⟨w, w17.heap.size + 1, [(old0 w), (q02o_1 z), (q02o_4 z), (q02o_9 z), (q02o_6 z), (q02o_10 z), (q02o_7 z), (q02o_12 z), (bk (z + 7) #[i6 1, i6 1, i6 11, i6 5] 49), (q02o_11 z), (q02o_0 z), (q02o_13 w3 W2), (.blk w17.heap.size (.cells (TWhere.arr W16) 34 (0, 0)) true)]⟩ rfl ⟨rfl, rfl, trivial⟩ ?_
       refine e_ret [] [] (.bool true) trivial ?_
       intro w18 hw18
       exact ⟨rfl, back0 hw18⟩
     · refine q_cS 5 0 [0] [[oF, o0]] [EF which 3] [(3, pt z), (6, i6 0), (39, i6 which), (46, .bool false)] rfl ⟨ef (by omega), trivial⟩ ?_
       by_cases h19 : (which : Int) = 4
       · refine q_c 14 1 [1] [[oT, o0], [o0, (a1 1), (oi 1), o0, (a1 10), (oi 0), o0, (a1 9)], [o0], [(an 7 1)]] [ET which 4, Qb z, (1 : Int) = ((1 : Nat) : Int), 1 < 2, (none : Option Nat) = none, Qb (z + 9), (0 : Int) = ((0 : Nat) : Int), 0 < 1, (none : Option Nat) = none, Qb (z + 8), Qb z, Qb z, Qb z, Qb z, Qb z, Qb z, Qb z] [(6, i6 416), (q02o_14 z)] ⟨w, w3.heap.size + 1, [(old0 w), (q02o_1 z), (q02o_4 z), (q02o_9 z), (q02o_6 z), (q02o_10 z), (q02o_7 z), (q02o_12 z), (q02o_8 z), (bk (z + 8) #[i6 0, .bool true] 57), (q02o_0 z), (q02o_13 w3 W2)]⟩ rfl ⟨et (by omega), rfl, rfl, (by omega), rfl, rfl, rfl, (by omega), rfl, rfl, rfl, rfl, rfl, rfl, rfl, rfl, rfl, trivial⟩ ?_
         refine l_call [] [] 9 #[.agg #[i6 64, i6 800, i6 40, i6 8, .slice (some ⟨z + 3, 0, none⟩) 2 2, .slice (some ⟨z + 9, 0, none⟩) 2 2, .slice (some ⟨z + 4, 0, none⟩) 1 1]] (some 82) trivial ?_
         intro w20 hw20
         refine (check_at w20 (hL.ext (hw20.ext rfl)) (⟨64, 800, 40, 8, (⟨some ⟨z + 3, 0, none⟩, 2, ([(⟨some ⟨z + 1, 0, none⟩, 2, ([(⟨0, 300, 100⟩ : TWindow), (⟨1, 300, 100⟩ : TWindow)] : List TWindow)⟩ : Sl TWindow), (⟨some ⟨z + 2, 0, none⟩, 1, ([(⟨-1, 700, 100⟩ : TWindow)] : List TWindow)⟩ : Sl TWindow)] : List (Sl TWindow))⟩ : Sl (Sl TWindow)), (⟨some ⟨z + 9, 0, none⟩, 2, ([(⟨⟨#[114, 97, 100, 105, 111]⟩, 0, 2, 3, 0, 1, (⟨some ⟨z + 5, 0, none⟩, 1, ([(⟨0, 2, 10, 7⟩ : TRegion)] : List TRegion)⟩ : Sl TRegion), (⟨some ⟨z + 6, 0, none⟩, 1, ([(⟨0, true⟩ : TPort)] : List TPort)⟩ : Sl TPort)⟩ : TPartition), (⟨⟨#[108, 97, 109, 112]⟩, 16, 0, 0, 2, 0, (⟨some ⟨z + 7, 0, none⟩, 1, ([(⟨1, 1, 20, 5⟩ : TRegion)] : List TRegion)⟩ : Sl TRegion), (⟨some ⟨z + 8, 0, none⟩, 1, ([(⟨0, true⟩ : TPort)] : List TPort)⟩ : Sl TPort)⟩ : TPartition)] : List TPartition)⟩ : Sl TPartition), (⟨some ⟨z + 4, 0, none⟩, 1, ([(⟨1, 2, 0⟩ : TChannel)] : List TChannel)⟩ : Sl TChannel)⟩ : TConfig) (⟨(lit_ok (n := 64)), (lit_ok (n := 800)), (lit_ok (n := 40)), (lit_ok (n := 8)), (slok_of hw20 (cells := (fun x : Sl TWindow => [Sl.val x])) (sz := 1) (ok := (fun F W x => SlOk TWindow.cells 3 TWindow.ok F W x)) (i := 4) (fun _ => rfl) ([(⟨some ⟨z + 1, 0, none⟩, 2, ([(⟨0, 300, 100⟩ : TWindow), (⟨1, 300, 100⟩ : TWindow)] : List TWindow)⟩ : Sl TWindow), (⟨some ⟨z + 2, 0, none⟩, 1, ([(⟨-1, 700, 100⟩ : TWindow)] : List TWindow)⟩ : Sl TWindow)] : List (Sl TWindow)) (ok_cons (p := (fun F W x => SlOk TWindow.cells 3 TWindow.ok F W x) Any w20) (slok_of hw20 (cells := TWindow.cells) (sz := 3) (ok := TWindow.ok) (i := 2) (fun _ => rfl) ([(⟨0, 300, 100⟩ : TWindow), (⟨1, 300, 100⟩ : TWindow)] : List TWindow) (ok_cons (p := TWindow.ok Any w20) (⟨(lit_ok (n := 0)), (lit_ok (n := 300)), (lit_ok (n := 100))⟩ : TWindow.ok Any w20 ⟨0, 300, 100⟩) (ok_cons (p := TWindow.ok Any w20) (⟨(lit_ok (n := 1)), (lit_ok (n := 300)), (lit_ok (n := 100))⟩ : TWindow.ok Any w20 ⟨1, 300, 100⟩) ok_nil))) (ok_cons (p := (fun F W x => SlOk TWindow.cells 3 TWindow.ok F W x) Any w20) (slok_of hw20 (cells := TWindow.cells) (sz := 3) (ok := TWindow.ok) (i := 3) (fun _ => rfl) ([(⟨-1, 700, 100⟩ : TWindow)] : List TWindow) (ok_cons (p := TWindow.ok Any w20) (⟨(lit_ok (n := -1)), (lit_ok (n := 700)), (lit_ok (n := 100))⟩ : TWindow.ok Any w20 ⟨-1, 700, 100⟩) ok_nil)) ok_nil))), (slok_of hw20 (cells := TPartition.cells) (sz := 8) (ok := TPartition.ok) (i := 10) (fun _ => rfl) ([(⟨⟨#[114, 97, 100, 105, 111]⟩, 0, 2, 3, 0, 1, (⟨some ⟨z + 5, 0, none⟩, 1, ([(⟨0, 2, 10, 7⟩ : TRegion)] : List TRegion)⟩ : Sl TRegion), (⟨some ⟨z + 6, 0, none⟩, 1, ([(⟨0, true⟩ : TPort)] : List TPort)⟩ : Sl TPort)⟩ : TPartition), (⟨⟨#[108, 97, 109, 112]⟩, 16, 0, 0, 2, 0, (⟨some ⟨z + 7, 0, none⟩, 1, ([(⟨1, 1, 20, 5⟩ : TRegion)] : List TRegion)⟩ : Sl TRegion), (⟨some ⟨z + 8, 0, none⟩, 1, ([(⟨0, true⟩ : TPort)] : List TPort)⟩ : Sl TPort)⟩ : TPartition)] : List TPartition) (ok_cons (p := TPartition.ok Any w20) (⟨(show (⟨#[114, 97, 100, 105, 111]⟩ : ByteArray).size ≤ 140737488351232 by decide), (lit_ok (n := 0)), (lit_ok (n := 2)), (lit_ok (n := 3)), (lit_ok (n := 0)), (lit_ok (n := 1)), (slok_of hw20 (cells := TRegion.cells) (sz := 4) (ok := TRegion.ok) (i := 6) (fun _ => rfl) ([(⟨0, 2, 10, 7⟩ : TRegion)] : List TRegion) (ok_cons (p := TRegion.ok Any w20) (⟨(lit_ok (n := 0)), (lit_ok (n := 2)), (lit_ok (n := 10)), (lit_ok (n := 7))⟩ : TRegion.ok Any w20 ⟨0, 2, 10, 7⟩) ok_nil)), (slok_of hw20 (cells := TPort.cells) (sz := 2) (ok := TPort.ok) (i := 7) (fun _ => rfl) ([(⟨0, true⟩ : TPort)] : List TPort) (ok_cons (p := TPort.ok Any w20) (⟨(lit_ok (n := 0)), trivial⟩ : TPort.ok Any w20 ⟨0, true⟩) ok_nil))⟩ : TPartition.ok Any w20 ⟨⟨#[114, 97, 100, 105, 111]⟩, 0, 2, 3, 0, 1, (⟨some ⟨z + 5, 0, none⟩, 1, ([(⟨0, 2, 10, 7⟩ : TRegion)] : List TRegion)⟩ : Sl TRegion), (⟨some ⟨z + 6, 0, none⟩, 1, ([(⟨0, true⟩ : TPort)] : List TPort)⟩ : Sl TPort)⟩) (ok_cons (p := TPartition.ok Any w20) (⟨(show (⟨#[108, 97, 109, 112]⟩ : ByteArray).size ≤ 140737488351232 by decide), (lit_ok (n := 16)), (lit_ok (n := 0)), (lit_ok (n := 0)), (lit_ok (n := 2)), (lit_ok (n := 0)), (slok_of hw20 (cells := TRegion.cells) (sz := 4) (ok := TRegion.ok) (i := 8) (fun _ => rfl) ([(⟨1, 1, 20, 5⟩ : TRegion)] : List TRegion) (ok_cons (p := TRegion.ok Any w20) (⟨(lit_ok (n := 1)), (lit_ok (n := 1)), (lit_ok (n := 20)), (lit_ok (n := 5))⟩ : TRegion.ok Any w20 ⟨1, 1, 20, 5⟩) ok_nil)), (slok_of hw20 (cells := TPort.cells) (sz := 2) (ok := TPort.ok) (i := 9) (fun _ => rfl) ([(⟨0, true⟩ : TPort)] : List TPort) (ok_cons (p := TPort.ok Any w20) (⟨(lit_ok (n := 0)), trivial⟩ : TPort.ok Any w20 ⟨0, true⟩) ok_nil))⟩ : TPartition.ok Any w20 ⟨⟨#[108, 97, 109, 112]⟩, 16, 0, 0, 2, 0, (⟨some ⟨z + 7, 0, none⟩, 1, ([(⟨1, 1, 20, 5⟩ : TRegion)] : List TRegion)⟩ : Sl TRegion), (⟨some ⟨z + 8, 0, none⟩, 1, ([(⟨0, true⟩ : TPort)] : List TPort)⟩ : Sl TPort)⟩) ok_nil))), (slok_of hw20 (cells := TChannel.cells) (sz := 3) (ok := TChannel.ok) (i := 5) (fun _ => rfl) ([(⟨1, 2, 0⟩ : TChannel)] : List TChannel) (ok_cons (p := TChannel.ok Any w20) (⟨(lit_ok (n := 1)), (lit_ok (n := 2)), (lit_ok (n := 0))⟩ : TChannel.ok Any w20 ⟨1, 2, 0⟩) ok_nil))⟩ : TConfig.ok Any w20 ⟨64, 800, 40, 8, (⟨some ⟨z + 3, 0, none⟩, 2, ([(⟨some ⟨z + 1, 0, none⟩, 2, ([(⟨0, 300, 100⟩ : TWindow), (⟨1, 300, 100⟩ : TWindow)] : List TWindow)⟩ : Sl TWindow), (⟨some ⟨z + 2, 0, none⟩, 1, ([(⟨-1, 700, 100⟩ : TWindow)] : List TWindow)⟩ : Sl TWindow)] : List (Sl TWindow))⟩ : Sl (Sl TWindow)), (⟨some ⟨z + 9, 0, none⟩, 2, ([(⟨⟨#[114, 97, 100, 105, 111]⟩, 0, 2, 3, 0, 1, (⟨some ⟨z + 5, 0, none⟩, 1, ([(⟨0, 2, 10, 7⟩ : TRegion)] : List TRegion)⟩ : Sl TRegion), (⟨some ⟨z + 6, 0, none⟩, 1, ([(⟨0, true⟩ : TPort)] : List TPort)⟩ : Sl TPort)⟩ : TPartition), (⟨⟨#[108, 97, 109, 112]⟩, 16, 0, 0, 2, 0, (⟨some ⟨z + 7, 0, none⟩, 1, ([(⟨1, 1, 20, 5⟩ : TRegion)] : List TRegion)⟩ : Sl TRegion), (⟨some ⟨z + 8, 0, none⟩, 1, ([(⟨0, true⟩ : TPort)] : List TPort)⟩ : Sl TPort)⟩ : TPartition)] : List TPartition)⟩ : Sl TPartition), (⟨some ⟨z + 4, 0, none⟩, 1, ([(⟨1, 2, 0⟩ : TChannel)] : List TChannel)⟩ : Sl TChannel)⟩) (Nat.le_of_ble_eq_true (by kernel_rfl)) 416 (by kernel_rfl)).mono ?_
         rintro e w22 ⟨W21, rfl, hkw22⟩
         have hnw22 : w3.heap.size + 1 ≤ w22.heap.size := size_of hw20 hkw22
         refine ⟨_, _, rfl, hw20.keeps hkw22, ?_⟩
         refine q_r 7 0 [] [[o0, o0, o0, o0, o0, (an 2 12)], [o0, o0, o0, o0]] [Qb w22.heap.size, Qb w22.heap.size] [(2, .bool true)] ⟨w, w22.heap.size + 1, [(old0 w), (q02o_1 z), (q02o_4 z), (q02o_9 z), (q02o_6 z), (q02o_10 z), (q02o_7 z), (q02o_12 z), (q02o_8 z), (bk (z + 8) #[i6 0, .bool true] 57), (q02o_0 z), (q02o_13 w3 W2), (.blk w22.heap.size (.cells (TWhere.arr W21) 34 (0, 0)) true)]⟩ rfl ⟨rfl, rfl, trivial⟩ ?_
         refine e_ret [] [] (.bool true) trivial ?_
         intro w23 hw23
         exact ⟨rfl, back0 hw23⟩
       · refine q_cS 5 0 [0] [[oF, o0]] [EF which 4] [(3, pt z), (6, i6 0), (39, i6 which), (55, .bool false)] rfl ⟨ef (by omega), trivial⟩ ?_
         by_cases h24 : (which : Int) = 5
         · refine q_c 14 1 [1] [[oT, o0], [o0, (a1 1), (oi 1), (a1 4), (oi 0), o0, (a1 3)], [o0], [(an 7 1)]] [ET which 5, Qb z, (1 : Int) = ((1 : Nat) : Int), 1 < 2, (none : Option Nat) = none, Qb (z + 3), (0 : Int) = ((0 : Nat) : Int), 0 < 1, (none : Option Nat) = none, Qb (z + 2), Qb z, Qb z, Qb z, Qb z, Qb z, Qb z, Qb z] [(6, i6 422), (q02o_14 z)] ⟨w, w3.heap.size + 1, [(old0 w), (q02o_1 z), (q02o_4 z), (bk (z + 2) #[i6 1, i6 700, i6 100] 44), (q02o_6 z), (q02o_10 z), (q02o_7 z), (q02o_12 z), (q02o_8 z), (q02o_11 z), (q02o_0 z), (q02o_13 w3 W2)]⟩ rfl ⟨et (by omega), rfl, rfl, (by omega), rfl, rfl, rfl, (by omega), rfl, rfl, rfl, rfl, rfl, rfl, rfl, rfl, rfl, trivial⟩ ?_
           refine l_call [] [] 9 #[.agg #[i6 64, i6 800, i6 40, i6 8, .slice (some ⟨z + 3, 0, none⟩) 2 2, .slice (some ⟨z + 9, 0, none⟩) 2 2, .slice (some ⟨z + 4, 0, none⟩) 1 1]] (some 82) trivial ?_
           intro w25 hw25
           refine (check_at w25 (hL.ext (hw25.ext rfl)) (⟨64, 800, 40, 8, (⟨some ⟨z + 3, 0, none⟩, 2, ([(⟨some ⟨z + 1, 0, none⟩, 2, ([(⟨0, 300, 100⟩ : TWindow), (⟨1, 300, 100⟩ : TWindow)] : List TWindow)⟩ : Sl TWindow), (⟨some ⟨z + 2, 0, none⟩, 1, ([(⟨1, 700, 100⟩ : TWindow)] : List TWindow)⟩ : Sl TWindow)] : List (Sl TWindow))⟩ : Sl (Sl TWindow)), (⟨some ⟨z + 9, 0, none⟩, 2, ([(⟨⟨#[114, 97, 100, 105, 111]⟩, 0, 2, 3, 0, 1, (⟨some ⟨z + 5, 0, none⟩, 1, ([(⟨0, 2, 10, 7⟩ : TRegion)] : List TRegion)⟩ : Sl TRegion), (⟨some ⟨z + 6, 0, none⟩, 1, ([(⟨0, true⟩ : TPort)] : List TPort)⟩ : Sl TPort)⟩ : TPartition), (⟨⟨#[108, 97, 109, 112]⟩, 16, 0, 0, 2, 0, (⟨some ⟨z + 7, 0, none⟩, 1, ([(⟨1, 1, 20, 5⟩ : TRegion)] : List TRegion)⟩ : Sl TRegion), (⟨some ⟨z + 8, 0, none⟩, 1, ([(⟨0, false⟩ : TPort)] : List TPort)⟩ : Sl TPort)⟩ : TPartition)] : List TPartition)⟩ : Sl TPartition), (⟨some ⟨z + 4, 0, none⟩, 1, ([(⟨1, 2, 0⟩ : TChannel)] : List TChannel)⟩ : Sl TChannel)⟩ : TConfig) (⟨(lit_ok (n := 64)), (lit_ok (n := 800)), (lit_ok (n := 40)), (lit_ok (n := 8)), (slok_of hw25 (cells := (fun x : Sl TWindow => [Sl.val x])) (sz := 1) (ok := (fun F W x => SlOk TWindow.cells 3 TWindow.ok F W x)) (i := 4) (fun _ => rfl) ([(⟨some ⟨z + 1, 0, none⟩, 2, ([(⟨0, 300, 100⟩ : TWindow), (⟨1, 300, 100⟩ : TWindow)] : List TWindow)⟩ : Sl TWindow), (⟨some ⟨z + 2, 0, none⟩, 1, ([(⟨1, 700, 100⟩ : TWindow)] : List TWindow)⟩ : Sl TWindow)] : List (Sl TWindow)) (ok_cons (p := (fun F W x => SlOk TWindow.cells 3 TWindow.ok F W x) Any w25) (slok_of hw25 (cells := TWindow.cells) (sz := 3) (ok := TWindow.ok) (i := 2) (fun _ => rfl) ([(⟨0, 300, 100⟩ : TWindow), (⟨1, 300, 100⟩ : TWindow)] : List TWindow) (ok_cons (p := TWindow.ok Any w25) (⟨(lit_ok (n := 0)), (lit_ok (n := 300)), (lit_ok (n := 100))⟩ : TWindow.ok Any w25 ⟨0, 300, 100⟩) (ok_cons (p := TWindow.ok Any w25) (⟨(lit_ok (n := 1)), (lit_ok (n := 300)), (lit_ok (n := 100))⟩ : TWindow.ok Any w25 ⟨1, 300, 100⟩) ok_nil))) (ok_cons (p := (fun F W x => SlOk TWindow.cells 3 TWindow.ok F W x) Any w25) (slok_of hw25 (cells := TWindow.cells) (sz := 3) (ok := TWindow.ok) (i := 3) (fun _ => rfl) ([(⟨1, 700, 100⟩ : TWindow)] : List TWindow) (ok_cons (p := TWindow.ok Any w25) (⟨(lit_ok (n := 1)), (lit_ok (n := 700)), (lit_ok (n := 100))⟩ : TWindow.ok Any w25 ⟨1, 700, 100⟩) ok_nil)) ok_nil))), (slok_of hw25 (cells := TPartition.cells) (sz := 8) (ok := TPartition.ok) (i := 10) (fun _ => rfl) ([(⟨⟨#[114, 97, 100, 105, 111]⟩, 0, 2, 3, 0, 1, (⟨some ⟨z + 5, 0, none⟩, 1, ([(⟨0, 2, 10, 7⟩ : TRegion)] : List TRegion)⟩ : Sl TRegion), (⟨some ⟨z + 6, 0, none⟩, 1, ([(⟨0, true⟩ : TPort)] : List TPort)⟩ : Sl TPort)⟩ : TPartition), (⟨⟨#[108, 97, 109, 112]⟩, 16, 0, 0, 2, 0, (⟨some ⟨z + 7, 0, none⟩, 1, ([(⟨1, 1, 20, 5⟩ : TRegion)] : List TRegion)⟩ : Sl TRegion), (⟨some ⟨z + 8, 0, none⟩, 1, ([(⟨0, false⟩ : TPort)] : List TPort)⟩ : Sl TPort)⟩ : TPartition)] : List TPartition) (ok_cons (p := TPartition.ok Any w25) (⟨(show (⟨#[114, 97, 100, 105, 111]⟩ : ByteArray).size ≤ 140737488351232 by decide), (lit_ok (n := 0)), (lit_ok (n := 2)), (lit_ok (n := 3)), (lit_ok (n := 0)), (lit_ok (n := 1)), (slok_of hw25 (cells := TRegion.cells) (sz := 4) (ok := TRegion.ok) (i := 6) (fun _ => rfl) ([(⟨0, 2, 10, 7⟩ : TRegion)] : List TRegion) (ok_cons (p := TRegion.ok Any w25) (⟨(lit_ok (n := 0)), (lit_ok (n := 2)), (lit_ok (n := 10)), (lit_ok (n := 7))⟩ : TRegion.ok Any w25 ⟨0, 2, 10, 7⟩) ok_nil)), (slok_of hw25 (cells := TPort.cells) (sz := 2) (ok := TPort.ok) (i := 7) (fun _ => rfl) ([(⟨0, true⟩ : TPort)] : List TPort) (ok_cons (p := TPort.ok Any w25) (⟨(lit_ok (n := 0)), trivial⟩ : TPort.ok Any w25 ⟨0, true⟩) ok_nil))⟩ : TPartition.ok Any w25 ⟨⟨#[114, 97, 100, 105, 111]⟩, 0, 2, 3, 0, 1, (⟨some ⟨z + 5, 0, none⟩, 1, ([(⟨0, 2, 10, 7⟩ : TRegion)] : List TRegion)⟩ : Sl TRegion), (⟨some ⟨z + 6, 0, none⟩, 1, ([(⟨0, true⟩ : TPort)] : List TPort)⟩ : Sl TPort)⟩) (ok_cons (p := TPartition.ok Any w25) (⟨(show (⟨#[108, 97, 109, 112]⟩ : ByteArray).size ≤ 140737488351232 by decide), (lit_ok (n := 16)), (lit_ok (n := 0)), (lit_ok (n := 0)), (lit_ok (n := 2)), (lit_ok (n := 0)), (slok_of hw25 (cells := TRegion.cells) (sz := 4) (ok := TRegion.ok) (i := 8) (fun _ => rfl) ([(⟨1, 1, 20, 5⟩ : TRegion)] : List TRegion) (ok_cons (p := TRegion.ok Any w25) (⟨(lit_ok (n := 1)), (lit_ok (n := 1)), (lit_ok (n := 20)), (lit_ok (n := 5))⟩ : TRegion.ok Any w25 ⟨1, 1, 20, 5⟩) ok_nil)), (slok_of hw25 (cells := TPort.cells) (sz := 2) (ok := TPort.ok) (i := 9) (fun _ => rfl) ([(⟨0, false⟩ : TPort)] : List TPort) (ok_cons (p := TPort.ok Any w25) (⟨(lit_ok (n := 0)), trivial⟩ : TPort.ok Any w25 ⟨0, false⟩) ok_nil))⟩ : TPartition.ok Any w25 ⟨⟨#[108, 97, 109, 112]⟩, 16, 0, 0, 2, 0, (⟨some ⟨z + 7, 0, none⟩, 1, ([(⟨1, 1, 20, 5⟩ : TRegion)] : List TRegion)⟩ : Sl TRegion), (⟨some ⟨z + 8, 0, none⟩, 1, ([(⟨0, false⟩ : TPort)] : List TPort)⟩ : Sl TPort)⟩) ok_nil))), (slok_of hw25 (cells := TChannel.cells) (sz := 3) (ok := TChannel.ok) (i := 5) (fun _ => rfl) ([(⟨1, 2, 0⟩ : TChannel)] : List TChannel) (ok_cons (p := TChannel.ok Any w25) (⟨(lit_ok (n := 1)), (lit_ok (n := 2)), (lit_ok (n := 0))⟩ : TChannel.ok Any w25 ⟨1, 2, 0⟩) ok_nil))⟩ : TConfig.ok Any w25 ⟨64, 800, 40, 8, (⟨some ⟨z + 3, 0, none⟩, 2, ([(⟨some ⟨z + 1, 0, none⟩, 2, ([(⟨0, 300, 100⟩ : TWindow), (⟨1, 300, 100⟩ : TWindow)] : List TWindow)⟩ : Sl TWindow), (⟨some ⟨z + 2, 0, none⟩, 1, ([(⟨1, 700, 100⟩ : TWindow)] : List TWindow)⟩ : Sl TWindow)] : List (Sl TWindow))⟩ : Sl (Sl TWindow)), (⟨some ⟨z + 9, 0, none⟩, 2, ([(⟨⟨#[114, 97, 100, 105, 111]⟩, 0, 2, 3, 0, 1, (⟨some ⟨z + 5, 0, none⟩, 1, ([(⟨0, 2, 10, 7⟩ : TRegion)] : List TRegion)⟩ : Sl TRegion), (⟨some ⟨z + 6, 0, none⟩, 1, ([(⟨0, true⟩ : TPort)] : List TPort)⟩ : Sl TPort)⟩ : TPartition), (⟨⟨#[108, 97, 109, 112]⟩, 16, 0, 0, 2, 0, (⟨some ⟨z + 7, 0, none⟩, 1, ([(⟨1, 1, 20, 5⟩ : TRegion)] : List TRegion)⟩ : Sl TRegion), (⟨some ⟨z + 8, 0, none⟩, 1, ([(⟨0, false⟩ : TPort)] : List TPort)⟩ : Sl TPort)⟩ : TPartition)] : List TPartition)⟩ : Sl TPartition), (⟨some ⟨z + 4, 0, none⟩, 1, ([(⟨1, 2, 0⟩ : TChannel)] : List TChannel)⟩ : Sl TChannel)⟩) (Nat.le_of_ble_eq_true (by kernel_rfl)) 422 (by kernel_rfl)).mono ?_
           rintro e w27 ⟨W26, rfl, hkw27⟩
           have hnw27 : w3.heap.size + 1 ≤ w27.heap.size := size_of hw25 hkw27
           refine ⟨_, _, rfl, hw25.keeps hkw27, ?_⟩
           refine q_r 7 0 [] [[o0, o0, o0, o0, o0, (an 2 12)], [o0, o0, o0, o0]] [Qb w27.heap.size, Qb w27.heap.size] [(2, .bool true)] ⟨w, w27.heap.size + 1, [(old0 w), (q02o_1 z), (q02o_4 z), (bk (z + 2) #[i6 1, i6 700, i6 100] 44), (q02o_6 z), (q02o_10 z), (q02o_7 z), (q02o_12 z), (q02o_8 z), (q02o_11 z), (q02o_0 z), (q02o_13 w3 W2), (.blk w27.heap.size (.cells (TWhere.arr W26) 34 (0, 0)) true)]⟩ rfl ⟨rfl, rfl, trivial⟩ ?_
           refine e_ret [] [] (.bool true) trivial ?_
           intro w28 hw28
           exact ⟨rfl, back0 hw28⟩
         · refine q_cS 5 0 [0] [[oF, o0]] [EF which 5] [(3, pt z), (6, i6 0), (39, i6 which), (64, .bool false)] rfl ⟨ef (by omega), trivial⟩ ?_
           by_cases h29 : (which : Int) = 6
           · refine q_c 14 1 [1] [[oT, o0], [o0, (a1 1), (oi 0), (a1 4), (oi 0), o0, (a1 2)], [o0], [(an 7 1)]] [ET which 6, Qb z, (0 : Int) = ((0 : Nat) : Int), 0 < 2, (none : Option Nat) = none, Qb (z + 3), (0 : Int) = ((0 : Nat) : Int), 0 < 2, (none : Option Nat) = none, Qb (z + 1), Qb z, Qb z, Qb z, Qb z, Qb z, Qb z, Qb z] [(6, i6 420), (q02o_14 z)] ⟨w, w3.heap.size + 1, [(old0 w), (q02o_1 z), (q02o_5 z), (q02o_9 z), (q02o_6 z), (q02o_10 z), (q02o_7 z), (q02o_12 z), (q02o_8 z), (q02o_11 z), (q02o_0 z), (q02o_13 w3 W2)]⟩ rfl ⟨et (by omega), rfl, rfl, (by omega), rfl, rfl, rfl, (by omega), rfl, rfl, rfl, rfl, rfl, rfl, rfl, rfl, rfl, trivial⟩ ?_
             refine l_call [] [] 9 #[.agg #[i6 64, i6 800, i6 40, i6 8, .slice (some ⟨z + 3, 0, none⟩) 2 2, .slice (some ⟨z + 9, 0, none⟩) 2 2, .slice (some ⟨z + 4, 0, none⟩) 1 1]] (some 82) trivial ?_
             intro w30 hw30
             refine (check_at w30 (hL.ext (hw30.ext rfl)) (⟨64, 800, 40, 8, (⟨some ⟨z + 3, 0, none⟩, 2, ([(⟨some ⟨z + 1, 0, none⟩, 2, ([(⟨0, 300, 81⟩ : TWindow), (⟨1, 300, 100⟩ : TWindow)] : List TWindow)⟩ : Sl TWindow), (⟨some ⟨z + 2, 0, none⟩, 1, ([(⟨-1, 700, 100⟩ : TWindow)] : List TWindow)⟩ : Sl TWindow)] : List (Sl TWindow))⟩ : Sl (Sl TWindow)), (⟨some ⟨z + 9, 0, none⟩, 2, ([(⟨⟨#[114, 97, 100, 105, 111]⟩, 0, 2, 3, 0, 1, (⟨some ⟨z + 5, 0, none⟩, 1, ([(⟨0, 2, 10, 7⟩ : TRegion)] : List TRegion)⟩ : Sl TRegion), (⟨some ⟨z + 6, 0, none⟩, 1, ([(⟨0, true⟩ : TPort)] : List TPort)⟩ : Sl TPort)⟩ : TPartition), (⟨⟨#[108, 97, 109, 112]⟩, 16, 0, 0, 2, 0, (⟨some ⟨z + 7, 0, none⟩, 1, ([(⟨1, 1, 20, 5⟩ : TRegion)] : List TRegion)⟩ : Sl TRegion), (⟨some ⟨z + 8, 0, none⟩, 1, ([(⟨0, false⟩ : TPort)] : List TPort)⟩ : Sl TPort)⟩ : TPartition)] : List TPartition)⟩ : Sl TPartition), (⟨some ⟨z + 4, 0, none⟩, 1, ([(⟨1, 2, 0⟩ : TChannel)] : List TChannel)⟩ : Sl TChannel)⟩ : TConfig) (⟨(lit_ok (n := 64)), (lit_ok (n := 800)), (lit_ok (n := 40)), (lit_ok (n := 8)), (slok_of hw30 (cells := (fun x : Sl TWindow => [Sl.val x])) (sz := 1) (ok := (fun F W x => SlOk TWindow.cells 3 TWindow.ok F W x)) (i := 4) (fun _ => rfl) ([(⟨some ⟨z + 1, 0, none⟩, 2, ([(⟨0, 300, 81⟩ : TWindow), (⟨1, 300, 100⟩ : TWindow)] : List TWindow)⟩ : Sl TWindow), (⟨some ⟨z + 2, 0, none⟩, 1, ([(⟨-1, 700, 100⟩ : TWindow)] : List TWindow)⟩ : Sl TWindow)] : List (Sl TWindow)) (ok_cons (p := (fun F W x => SlOk TWindow.cells 3 TWindow.ok F W x) Any w30) (slok_of hw30 (cells := TWindow.cells) (sz := 3) (ok := TWindow.ok) (i := 2) (fun _ => rfl) ([(⟨0, 300, 81⟩ : TWindow), (⟨1, 300, 100⟩ : TWindow)] : List TWindow) (ok_cons (p := TWindow.ok Any w30) (⟨(lit_ok (n := 0)), (lit_ok (n := 300)), (lit_ok (n := 81))⟩ : TWindow.ok Any w30 ⟨0, 300, 81⟩) (ok_cons (p := TWindow.ok Any w30) (⟨(lit_ok (n := 1)), (lit_ok (n := 300)), (lit_ok (n := 100))⟩ : TWindow.ok Any w30 ⟨1, 300, 100⟩) ok_nil))) (ok_cons (p := (fun F W x => SlOk TWindow.cells 3 TWindow.ok F W x) Any w30) (slok_of hw30 (cells := TWindow.cells) (sz := 3) (ok := TWindow.ok) (i := 3) (fun _ => rfl) ([(⟨-1, 700, 100⟩ : TWindow)] : List TWindow) (ok_cons (p := TWindow.ok Any w30) (⟨(lit_ok (n := -1)), (lit_ok (n := 700)), (lit_ok (n := 100))⟩ : TWindow.ok Any w30 ⟨-1, 700, 100⟩) ok_nil)) ok_nil))), (slok_of hw30 (cells := TPartition.cells) (sz := 8) (ok := TPartition.ok) (i := 10) (fun _ => rfl) ([(⟨⟨#[114, 97, 100, 105, 111]⟩, 0, 2, 3, 0, 1, (⟨some ⟨z + 5, 0, none⟩, 1, ([(⟨0, 2, 10, 7⟩ : TRegion)] : List TRegion)⟩ : Sl TRegion), (⟨some ⟨z + 6, 0, none⟩, 1, ([(⟨0, true⟩ : TPort)] : List TPort)⟩ : Sl TPort)⟩ : TPartition), (⟨⟨#[108, 97, 109, 112]⟩, 16, 0, 0, 2, 0, (⟨some ⟨z + 7, 0, none⟩, 1, ([(⟨1, 1, 20, 5⟩ : TRegion)] : List TRegion)⟩ : Sl TRegion), (⟨some ⟨z + 8, 0, none⟩, 1, ([(⟨0, false⟩ : TPort)] : List TPort)⟩ : Sl TPort)⟩ : TPartition)] : List TPartition) (ok_cons (p := TPartition.ok Any w30) (⟨(show (⟨#[114, 97, 100, 105, 111]⟩ : ByteArray).size ≤ 140737488351232 by decide), (lit_ok (n := 0)), (lit_ok (n := 2)), (lit_ok (n := 3)), (lit_ok (n := 0)), (lit_ok (n := 1)), (slok_of hw30 (cells := TRegion.cells) (sz := 4) (ok := TRegion.ok) (i := 6) (fun _ => rfl) ([(⟨0, 2, 10, 7⟩ : TRegion)] : List TRegion) (ok_cons (p := TRegion.ok Any w30) (⟨(lit_ok (n := 0)), (lit_ok (n := 2)), (lit_ok (n := 10)), (lit_ok (n := 7))⟩ : TRegion.ok Any w30 ⟨0, 2, 10, 7⟩) ok_nil)), (slok_of hw30 (cells := TPort.cells) (sz := 2) (ok := TPort.ok) (i := 7) (fun _ => rfl) ([(⟨0, true⟩ : TPort)] : List TPort) (ok_cons (p := TPort.ok Any w30) (⟨(lit_ok (n := 0)), trivial⟩ : TPort.ok Any w30 ⟨0, true⟩) ok_nil))⟩ : TPartition.ok Any w30 ⟨⟨#[114, 97, 100, 105, 111]⟩, 0, 2, 3, 0, 1, (⟨some ⟨z + 5, 0, none⟩, 1, ([(⟨0, 2, 10, 7⟩ : TRegion)] : List TRegion)⟩ : Sl TRegion), (⟨some ⟨z + 6, 0, none⟩, 1, ([(⟨0, true⟩ : TPort)] : List TPort)⟩ : Sl TPort)⟩) (ok_cons (p := TPartition.ok Any w30) (⟨(show (⟨#[108, 97, 109, 112]⟩ : ByteArray).size ≤ 140737488351232 by decide), (lit_ok (n := 16)), (lit_ok (n := 0)), (lit_ok (n := 0)), (lit_ok (n := 2)), (lit_ok (n := 0)), (slok_of hw30 (cells := TRegion.cells) (sz := 4) (ok := TRegion.ok) (i := 8) (fun _ => rfl) ([(⟨1, 1, 20, 5⟩ : TRegion)] : List TRegion) (ok_cons (p := TRegion.ok Any w30) (⟨(lit_ok (n := 1)), (lit_ok (n := 1)), (lit_ok (n := 20)), (lit_ok (n := 5))⟩ : TRegion.ok Any w30 ⟨1, 1, 20, 5⟩) ok_nil)), (slok_of hw30 (cells := TPort.cells) (sz := 2) (ok := TPort.ok) (i := 9) (fun _ => rfl) ([(⟨0, false⟩ : TPort)] : List TPort) (ok_cons (p := TPort.ok Any w30) (⟨(lit_ok (n := 0)), trivial⟩ : TPort.ok Any w30 ⟨0, false⟩) ok_nil))⟩ : TPartition.ok Any w30 ⟨⟨#[108, 97, 109, 112]⟩, 16, 0, 0, 2, 0, (⟨some ⟨z + 7, 0, none⟩, 1, ([(⟨1, 1, 20, 5⟩ : TRegion)] : List TRegion)⟩ : Sl TRegion), (⟨some ⟨z + 8, 0, none⟩, 1, ([(⟨0, false⟩ : TPort)] : List TPort)⟩ : Sl TPort)⟩) ok_nil))), (slok_of hw30 (cells := TChannel.cells) (sz := 3) (ok := TChannel.ok) (i := 5) (fun _ => rfl) ([(⟨1, 2, 0⟩ : TChannel)] : List TChannel) (ok_cons (p := TChannel.ok Any w30) (⟨(lit_ok (n := 1)), (lit_ok (n := 2)), (lit_ok (n := 0))⟩ : TChannel.ok Any w30 ⟨1, 2, 0⟩) ok_nil))⟩ : TConfig.ok Any w30 ⟨64, 800, 40, 8, (⟨some ⟨z + 3, 0, none⟩, 2, ([(⟨some ⟨z + 1, 0, none⟩, 2, ([(⟨0, 300, 81⟩ : TWindow), (⟨1, 300, 100⟩ : TWindow)] : List TWindow)⟩ : Sl TWindow), (⟨some ⟨z + 2, 0, none⟩, 1, ([(⟨-1, 700, 100⟩ : TWindow)] : List TWindow)⟩ : Sl TWindow)] : List (Sl TWindow))⟩ : Sl (Sl TWindow)), (⟨some ⟨z + 9, 0, none⟩, 2, ([(⟨⟨#[114, 97, 100, 105, 111]⟩, 0, 2, 3, 0, 1, (⟨some ⟨z + 5, 0, none⟩, 1, ([(⟨0, 2, 10, 7⟩ : TRegion)] : List TRegion)⟩ : Sl TRegion), (⟨some ⟨z + 6, 0, none⟩, 1, ([(⟨0, true⟩ : TPort)] : List TPort)⟩ : Sl TPort)⟩ : TPartition), (⟨⟨#[108, 97, 109, 112]⟩, 16, 0, 0, 2, 0, (⟨some ⟨z + 7, 0, none⟩, 1, ([(⟨1, 1, 20, 5⟩ : TRegion)] : List TRegion)⟩ : Sl TRegion), (⟨some ⟨z + 8, 0, none⟩, 1, ([(⟨0, false⟩ : TPort)] : List TPort)⟩ : Sl TPort)⟩ : TPartition)] : List TPartition)⟩ : Sl TPartition), (⟨some ⟨z + 4, 0, none⟩, 1, ([(⟨1, 2, 0⟩ : TChannel)] : List TChannel)⟩ : Sl TChannel)⟩) (Nat.le_of_ble_eq_true (by kernel_rfl)) 420 (by kernel_rfl)).mono ?_
             rintro e w32 ⟨W31, rfl, hkw32⟩
             have hnw32 : w3.heap.size + 1 ≤ w32.heap.size := size_of hw30 hkw32
             refine ⟨_, _, rfl, hw30.keeps hkw32, ?_⟩
             refine q_r 7 0 [] [[o0, o0, o0, o0, o0, (an 2 12)], [o0, o0, o0, o0]] [Qb w32.heap.size, Qb w32.heap.size] [(2, .bool true)] ⟨w, w32.heap.size + 1, [(old0 w), (q02o_1 z), (q02o_5 z), (q02o_9 z), (q02o_6 z), (q02o_10 z), (q02o_7 z), (q02o_12 z), (q02o_8 z), (q02o_11 z), (q02o_0 z), (q02o_13 w3 W2), (.blk w32.heap.size (.cells (TWhere.arr W31) 34 (0, 0)) true)]⟩ rfl ⟨rfl, rfl, trivial⟩ ?_
             refine e_ret [] [] (.bool true) trivial ?_
             intro w33 hw33
             exact ⟨rfl, back0 hw33⟩
           · refine q_cS 9 1 [0] [[oF, o0], [(an 7 1)]] [EF which 6, Qb z, Qb z, Qb z, Qb z, Qb z, Qb z, Qb z] [(6, i6 0), (q02o_14 z)] rfl ⟨ef (by omega), rfl, rfl, rfl, rfl, rfl, rfl, rfl, trivial⟩ ?_
             refine l_call [] [] 9 #[.agg #[i6 64, i6 800, i6 40, i6 8, .slice (some ⟨z + 3, 0, none⟩) 2 2, .slice (some ⟨z + 9, 0, none⟩) 2 2, .slice (some ⟨z + 4, 0, none⟩) 1 1]] (some 82) trivial ?_
             intro w34 hw34
             refine (check_at w34 (hL.ext (hw34.ext rfl)) (⟨64, 800, 40, 8, (⟨some ⟨z + 3, 0, none⟩, 2, ([(⟨some ⟨z + 1, 0, none⟩, 2, ([(⟨0, 300, 100⟩ : TWindow), (⟨1, 300, 100⟩ : TWindow)] : List TWindow)⟩ : Sl TWindow), (⟨some ⟨z + 2, 0, none⟩, 1, ([(⟨-1, 700, 100⟩ : TWindow)] : List TWindow)⟩ : Sl TWindow)] : List (Sl TWindow))⟩ : Sl (Sl TWindow)), (⟨some ⟨z + 9, 0, none⟩, 2, ([(⟨⟨#[114, 97, 100, 105, 111]⟩, 0, 2, 3, 0, 1, (⟨some ⟨z + 5, 0, none⟩, 1, ([(⟨0, 2, 10, 7⟩ : TRegion)] : List TRegion)⟩ : Sl TRegion), (⟨some ⟨z + 6, 0, none⟩, 1, ([(⟨0, true⟩ : TPort)] : List TPort)⟩ : Sl TPort)⟩ : TPartition), (⟨⟨#[108, 97, 109, 112]⟩, 16, 0, 0, 2, 0, (⟨some ⟨z + 7, 0, none⟩, 1, ([(⟨1, 1, 20, 5⟩ : TRegion)] : List TRegion)⟩ : Sl TRegion), (⟨some ⟨z + 8, 0, none⟩, 1, ([(⟨0, false⟩ : TPort)] : List TPort)⟩ : Sl TPort)⟩ : TPartition)] : List TPartition)⟩ : Sl TPartition), (⟨some ⟨z + 4, 0, none⟩, 1, ([(⟨1, 2, 0⟩ : TChannel)] : List TChannel)⟩ : Sl TChannel)⟩ : TConfig) (⟨(lit_ok (n := 64)), (lit_ok (n := 800)), (lit_ok (n := 40)), (lit_ok (n := 8)), (slok_of hw34 (cells := (fun x : Sl TWindow => [Sl.val x])) (sz := 1) (ok := (fun F W x => SlOk TWindow.cells 3 TWindow.ok F W x)) (i := 4) (fun _ => rfl) ([(⟨some ⟨z + 1, 0, none⟩, 2, ([(⟨0, 300, 100⟩ : TWindow), (⟨1, 300, 100⟩ : TWindow)] : List TWindow)⟩ : Sl TWindow), (⟨some ⟨z + 2, 0, none⟩, 1, ([(⟨-1, 700, 100⟩ : TWindow)] : List TWindow)⟩ : Sl TWindow)] : List (Sl TWindow)) (ok_cons (p := (fun F W x => SlOk TWindow.cells 3 TWindow.ok F W x) Any w34) (slok_of hw34 (cells := TWindow.cells) (sz := 3) (ok := TWindow.ok) (i := 2) (fun _ => rfl) ([(⟨0, 300, 100⟩ : TWindow), (⟨1, 300, 100⟩ : TWindow)] : List TWindow) (ok_cons (p := TWindow.ok Any w34) (⟨(lit_ok (n := 0)), (lit_ok (n := 300)), (lit_ok (n := 100))⟩ : TWindow.ok Any w34 ⟨0, 300, 100⟩) (ok_cons (p := TWindow.ok Any w34) (⟨(lit_ok (n := 1)), (lit_ok (n := 300)), (lit_ok (n := 100))⟩ : TWindow.ok Any w34 ⟨1, 300, 100⟩) ok_nil))) (ok_cons (p := (fun F W x => SlOk TWindow.cells 3 TWindow.ok F W x) Any w34) (slok_of hw34 (cells := TWindow.cells) (sz := 3) (ok := TWindow.ok) (i := 3) (fun _ => rfl) ([(⟨-1, 700, 100⟩ : TWindow)] : List TWindow) (ok_cons (p := TWindow.ok Any w34) (⟨(lit_ok (n := -1)), (lit_ok (n := 700)), (lit_ok (n := 100))⟩ : TWindow.ok Any w34 ⟨-1, 700, 100⟩) ok_nil)) ok_nil))), (slok_of hw34 (cells := TPartition.cells) (sz := 8) (ok := TPartition.ok) (i := 10) (fun _ => rfl) ([(⟨⟨#[114, 97, 100, 105, 111]⟩, 0, 2, 3, 0, 1, (⟨some ⟨z + 5, 0, none⟩, 1, ([(⟨0, 2, 10, 7⟩ : TRegion)] : List TRegion)⟩ : Sl TRegion), (⟨some ⟨z + 6, 0, none⟩, 1, ([(⟨0, true⟩ : TPort)] : List TPort)⟩ : Sl TPort)⟩ : TPartition), (⟨⟨#[108, 97, 109, 112]⟩, 16, 0, 0, 2, 0, (⟨some ⟨z + 7, 0, none⟩, 1, ([(⟨1, 1, 20, 5⟩ : TRegion)] : List TRegion)⟩ : Sl TRegion), (⟨some ⟨z + 8, 0, none⟩, 1, ([(⟨0, false⟩ : TPort)] : List TPort)⟩ : Sl TPort)⟩ : TPartition)] : List TPartition) (ok_cons (p := TPartition.ok Any w34) (⟨(show (⟨#[114, 97, 100, 105, 111]⟩ : ByteArray).size ≤ 140737488351232 by decide), (lit_ok (n := 0)), (lit_ok (n := 2)), (lit_ok (n := 3)), (lit_ok (n := 0)), (lit_ok (n := 1)), (slok_of hw34 (cells := TRegion.cells) (sz := 4) (ok := TRegion.ok) (i := 6) (fun _ => rfl) ([(⟨0, 2, 10, 7⟩ : TRegion)] : List TRegion) (ok_cons (p := TRegion.ok Any w34) (⟨(lit_ok (n := 0)), (lit_ok (n := 2)), (lit_ok (n := 10)), (lit_ok (n := 7))⟩ : TRegion.ok Any w34 ⟨0, 2, 10, 7⟩) ok_nil)), (slok_of hw34 (cells := TPort.cells) (sz := 2) (ok := TPort.ok) (i := 7) (fun _ => rfl) ([(⟨0, true⟩ : TPort)] : List TPort) (ok_cons (p := TPort.ok Any w34) (⟨(lit_ok (n := 0)), trivial⟩ : TPort.ok Any w34 ⟨0, true⟩) ok_nil))⟩ : TPartition.ok Any w34 ⟨⟨#[114, 97, 100, 105, 111]⟩, 0, 2, 3, 0, 1, (⟨some ⟨z + 5, 0, none⟩, 1, ([(⟨0, 2, 10, 7⟩ : TRegion)] : List TRegion)⟩ : Sl TRegion), (⟨some ⟨z + 6, 0, none⟩, 1, ([(⟨0, true⟩ : TPort)] : List TPort)⟩ : Sl TPort)⟩) (ok_cons (p := TPartition.ok Any w34) (⟨(show (⟨#[108, 97, 109, 112]⟩ : ByteArray).size ≤ 140737488351232 by decide), (lit_ok (n := 16)), (lit_ok (n := 0)), (lit_ok (n := 0)), (lit_ok (n := 2)), (lit_ok (n := 0)), (slok_of hw34 (cells := TRegion.cells) (sz := 4) (ok := TRegion.ok) (i := 8) (fun _ => rfl) ([(⟨1, 1, 20, 5⟩ : TRegion)] : List TRegion) (ok_cons (p := TRegion.ok Any w34) (⟨(lit_ok (n := 1)), (lit_ok (n := 1)), (lit_ok (n := 20)), (lit_ok (n := 5))⟩ : TRegion.ok Any w34 ⟨1, 1, 20, 5⟩) ok_nil)), (slok_of hw34 (cells := TPort.cells) (sz := 2) (ok := TPort.ok) (i := 9) (fun _ => rfl) ([(⟨0, false⟩ : TPort)] : List TPort) (ok_cons (p := TPort.ok Any w34) (⟨(lit_ok (n := 0)), trivial⟩ : TPort.ok Any w34 ⟨0, false⟩) ok_nil))⟩ : TPartition.ok Any w34 ⟨⟨#[108, 97, 109, 112]⟩, 16, 0, 0, 2, 0, (⟨some ⟨z + 7, 0, none⟩, 1, ([(⟨1, 1, 20, 5⟩ : TRegion)] : List TRegion)⟩ : Sl TRegion), (⟨some ⟨z + 8, 0, none⟩, 1, ([(⟨0, false⟩ : TPort)] : List TPort)⟩ : Sl TPort)⟩) ok_nil))), (slok_of hw34 (cells := TChannel.cells) (sz := 3) (ok := TChannel.ok) (i := 5) (fun _ => rfl) ([(⟨1, 2, 0⟩ : TChannel)] : List TChannel) (ok_cons (p := TChannel.ok Any w34) (⟨(lit_ok (n := 1)), (lit_ok (n := 2)), (lit_ok (n := 0))⟩ : TChannel.ok Any w34 ⟨1, 2, 0⟩) ok_nil))⟩ : TConfig.ok Any w34 ⟨64, 800, 40, 8, (⟨some ⟨z + 3, 0, none⟩, 2, ([(⟨some ⟨z + 1, 0, none⟩, 2, ([(⟨0, 300, 100⟩ : TWindow), (⟨1, 300, 100⟩ : TWindow)] : List TWindow)⟩ : Sl TWindow), (⟨some ⟨z + 2, 0, none⟩, 1, ([(⟨-1, 700, 100⟩ : TWindow)] : List TWindow)⟩ : Sl TWindow)] : List (Sl TWindow))⟩ : Sl (Sl TWindow)), (⟨some ⟨z + 9, 0, none⟩, 2, ([(⟨⟨#[114, 97, 100, 105, 111]⟩, 0, 2, 3, 0, 1, (⟨some ⟨z + 5, 0, none⟩, 1, ([(⟨0, 2, 10, 7⟩ : TRegion)] : List TRegion)⟩ : Sl TRegion), (⟨some ⟨z + 6, 0, none⟩, 1, ([(⟨0, true⟩ : TPort)] : List TPort)⟩ : Sl TPort)⟩ : TPartition), (⟨⟨#[108, 97, 109, 112]⟩, 16, 0, 0, 2, 0, (⟨some ⟨z + 7, 0, none⟩, 1, ([(⟨1, 1, 20, 5⟩ : TRegion)] : List TRegion)⟩ : Sl TRegion), (⟨some ⟨z + 8, 0, none⟩, 1, ([(⟨0, false⟩ : TPort)] : List TPort)⟩ : Sl TPort)⟩ : TPartition)] : List TPartition)⟩ : Sl TPartition), (⟨some ⟨z + 4, 0, none⟩, 1, ([(⟨1, 2, 0⟩ : TChannel)] : List TChannel)⟩ : Sl TChannel)⟩) (Nat.le_of_ble_eq_true (by kernel_rfl)) 0 (by kernel_rfl)).mono ?_
             rintro e w36 ⟨W35, rfl, hkw36⟩
             have hnw36 : w3.heap.size + 1 ≤ w36.heap.size := size_of hw34 hkw36
             refine ⟨_, _, rfl, hw34.keeps hkw36, ?_⟩
             refine q_r 7 0 [] [[o0, o0, o0, o0, o0, (an 2 12)], [o0, o0, o0, o0]] [Qb w36.heap.size, Qb w36.heap.size] [(2, .bool true)] ⟨w, w36.heap.size + 1, [(old0 w), (q02o_1 z), (q02o_4 z), (q02o_9 z), (q02o_6 z), (q02o_10 z), (q02o_7 z), (q02o_12 z), (q02o_8 z), (q02o_11 z), (q02o_0 z), (q02o_13 w3 W2), (.blk w36.heap.size (.cells (TWhere.arr W35) 34 (0, 0)) true)]⟩ rfl ⟨rfl, rfl, trivial⟩ ?_
             refine e_ret [] [] (.bool true) trivial ?_
             intro w37 hw37
             exact ⟨rfl, back0 hw37⟩
end Go.Proofs.YtnjhekfgmbpmlaaDoor.Ad
