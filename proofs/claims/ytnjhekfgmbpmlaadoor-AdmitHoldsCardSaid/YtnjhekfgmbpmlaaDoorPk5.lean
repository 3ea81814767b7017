/- Packed: Ak, An, Aq, EngH, EngZ, Ar, As, Ao, Ap, At, Row. No conditions. -/
import Derived.Test.YtnjhekfgmbpmlaaDoorPk4
import Derived.Deep.Slices
import Derived.SizedLaws
import Derived.WideShapes
import Derived.DataReads
import Derived.Test.YtnjhekfgmbpmlaaDoorRows
import Derived.WalkKit
import Derived.ProofKit
import Derived.OpenShut
import Derived.ShutString
import Derived.ChangeOld
import Derived.Below
import Derived.Carry
namespace Go.Proofs.YtnjhekfgmbpmlaaDoor.Ad
open Go Go.Proofs.YtnjhekfgmbpmlaaDoor.Eng Go.Proofs.YtnjhekfgmbpmlaaDoor.Mem Go.Proofs.YtnjhekfgmbpmlaaDoor.Ly
set_option linter.unusedSimpArgs false
set_option linter.unusedVariables false
set_option maxRecDepth 100000
abbrev qdvx_0 (n10 : Nat) (z : Nat) : Ch := bk (n10 + 1) #[.func (.func 49) #[] #[pt (z + 2), pt n10]] 71
abbrev qdvx_1 (n17 : Nat) (z : Nat) : Ch := bk (n17 + 1) #[.func (.func 51) #[] #[pt (z + 2), pt n17]] 71
abbrev qdvx_2 (n3 : Nat) (z : Nat) : Ch := bk (n3 + 1) #[.func (.func 47) #[] #[pt (z + 2), pt n3]] 71
abbrev qdvx_3 (z : Nat) (c : TConfig) (p : Nat) : Ch := bk (z + 1) #[i6 ((partQ c p).where_.First), i6 ((partQ c p).where_.Second)] 34
abbrev qdvx_4 (z : Nat) (c : TConfig) (p : Nat) : Ch := bk (z + 1) #[i6 ((chanQ c p).where_.First), i6 ((chanQ c p).where_.Second)] 34
abbrev qdvx_5 (z : Nat) (c : TConfig) (p : Nat) : Ch := bk (z + 1) #[i6 ((coreQ c p).where_.First), i6 ((coreQ c p).where_.Second)] 34
abbrev qdvx_6 (z : Nat) (c : TConfig) : Ch := bk (z + 1) #[i6 ((whole1 c).where_.First), i6 ((whole1 c).where_.Second)] 34
abbrev qdvx_7 (z : Nat) (c : TConfig) : Ch := bk (z + 1) #[i6 ((whole2 c).where_.First), i6 ((whole2 c).where_.Second)] 34
abbrev qdvx_8 (z : Nat) (c : TConfig) : Ch := bk (z + 1) #[i6 ((whole3 c).where_.First), i6 ((whole3 c).where_.Second)] 34
abbrev qdvx_9 (z : Nat) (c : TConfig) : Ch := bk (z + 1) #[i6 ((whole4 c).where_.First), i6 ((whole4 c).where_.Second)] 34
abbrev qdvx_10 (z : Nat) (c : TConfig) : Ch := bk (z + 1) #[i6 ((whole5 c).where_.First), i6 ((whole5 c).where_.Second)] 34
abbrev qdvx_11 (z : Nat) (c : TConfig) : Ch := bk (z + 1) #[i6 ((kernQ c).where_.First), i6 ((kernQ c).where_.Second)] 34
abbrev qdvx_12 (n17 : Nat) (z : Nat) : Ch := bk n17 #[.func (.func 53) #[] #[pt (z + 2)]] 71
abbrev qdvx_13 (w70 : World) (c : TConfig) (p : Nat) : Ch := .blk w70.heap.size (.cells (Tfound.arr (partQ c p)) 73 (0, 0)) true
abbrev qdvx_14 (w77 : World) (c : TConfig) (p : Nat) : Ch := .blk w77.heap.size (.cells (Tfound.arr (chanQ c p)) 73 (0, 0)) true
abbrev qdvx_15 (w84 : World) (c : TConfig) (p : Nat) : Ch := .blk w84.heap.size (.cells (Tfound.arr (coreQ c p)) 73 (0, 0)) true
abbrev qdvx_16 (w35 : World) (c : TConfig) : Ch := .blk w35.heap.size (.cells (Tfound.arr (whole1 c)) 73 (0, 0)) true
abbrev qdvx_17 (w42 : World) (c : TConfig) : Ch := .blk w42.heap.size (.cells (Tfound.arr (whole2 c)) 73 (0, 0)) true
abbrev qdvx_18 (w49 : World) (c : TConfig) : Ch := .blk w49.heap.size (.cells (Tfound.arr (whole3 c)) 73 (0, 0)) true
abbrev qdvx_19 (w56 : World) (c : TConfig) : Ch := .blk w56.heap.size (.cells (Tfound.arr (whole4 c)) 73 (0, 0)) true
abbrev qdvx_20 (w63 : World) (c : TConfig) : Ch := .blk w63.heap.size (.cells (Tfound.arr (whole5 c)) 73 (0, 0)) true
abbrev qdvx_21 (w91 : World) (c : TConfig) : Ch := .blk w91.heap.size (.cells (Tfound.arr (kernQ c)) 73 (0, 0)) true
abbrev qdvx_22 (z : Nat) : Ch := bk (z + 1) #[i6 0, i6 0] 34
abbrev qdvx_23 (z : Nat) (c : TConfig) : Ch := bk (z + 2) (TConfig.arr c) 26
abbrev qdvx_24 (z : Nat) (c : TConfig) : Ch := bk z (TConfig.arr c) 26
abbrev qdvx_25 (z : Nat) (ax19 : Option Addr) (B1 : List Nat) (B2 : List Nat) (B3 : List Nat) (n17 : Nat) (cp20 : Nat) : Ch := rowL z 71 1 (fun v : Value => [v]) (.slice ax19 ((ask5 (z + 2) ++ clo 47 (z + 2) B1 ++ clo 49 (z + 2) B2 ++ clo 51 (z + 2) B3 ++ [(.func (.func 51) #[] #[pt (z + 2), pt n17] : Value)]).length) cp20) (ask5 (z + 2) ++ clo 47 (z + 2) B1 ++ clo 49 (z + 2) B2 ++ clo 51 (z + 2) B3 ++ [(.func (.func 51) #[] #[pt (z + 2), pt n17] : Value)])
abbrev qdvx_26 (z : Nat) (ax12 : Option Addr) (B1 : List Nat) (B2 : List Nat) (n10 : Nat) (cp13 : Nat) : Ch := rowL z 71 1 (fun v : Value => [v]) (.slice ax12 ((ask5 (z + 2) ++ clo 47 (z + 2) B1 ++ clo 49 (z + 2) B2 ++ [(.func (.func 49) #[] #[pt (z + 2), pt n10] : Value)]).length) cp13) (ask5 (z + 2) ++ clo 47 (z + 2) B1 ++ clo 49 (z + 2) B2 ++ [(.func (.func 49) #[] #[pt (z + 2), pt n10] : Value)])
abbrev qdvx_27 (z : Nat) (ax5 : Option Addr) (B1 : List Nat) (n3 : Nat) (cp6 : Nat) : Ch := rowL z 71 1 (fun v : Value => [v]) (.slice ax5 ((ask5 (z + 2) ++ clo 47 (z + 2) B1 ++ [(.func (.func 47) #[] #[pt (z + 2), pt n3] : Value)]).length) cp6) (ask5 (z + 2) ++ clo 47 (z + 2) B1 ++ [(.func (.func 47) #[] #[pt (z + 2), pt n3] : Value)])
abbrev qdvx_28 (z : Nat) (aL3 : Option Addr) (B1 : List Nat) (B2 : List Nat) (B3 : List Nat) (cL3 : Nat) : Ch := rowL z 71 1 (fun v : Value => [v]) (.slice aL3 ((ask5 (z + 2) ++ clo 47 (z + 2) B1 ++ clo 49 (z + 2) B2 ++ clo 51 (z + 2) B3).length) cL3) (ask5 (z + 2) ++ clo 47 (z + 2) B1 ++ clo 49 (z + 2) B2 ++ clo 51 (z + 2) B3)
abbrev qdvx_29 (z : Nat) (aL2 : Option Addr) (B1 : List Nat) (B2 : List Nat) (cL2 : Nat) : Ch := rowL z 71 1 (fun v : Value => [v]) (.slice aL2 ((ask5 (z + 2) ++ clo 47 (z + 2) B1 ++ clo 49 (z + 2) B2).length) cL2) (ask5 (z + 2) ++ clo 47 (z + 2) B1 ++ clo 49 (z + 2) B2)
abbrev qdvx_30 (z : Nat) (aL1 : Option Addr) (B1 : List Nat) (cL1 : Nat) : Ch := rowL z 71 1 (fun v : Value => [v]) (.slice aL1 ((ask5 (z + 2) ++ clo 47 (z + 2) B1).length) cL1) (ask5 (z + 2) ++ clo 47 (z + 2) B1)
abbrev qdvx_31 (z : Nat) (b31 : Nat) (B1 : List Nat) (B2 : List Nat) (B3 : List Nat) (cR : Nat) : Ch := rowL z 71 1 (fun v : Value => [v]) (.slice (some ⟨b31, 0, none⟩) ((asks (z + 2) B1 B2 B3).length) cR) (asks (z + 2) B1 B2 B3)
abbrev qdvx_32 (z : Nat) (b38 : Nat) (B1 : List Nat) (B2 : List Nat) (B3 : List Nat) (cR : Nat) : Ch := rowL z 71 1 (fun v : Value => [v]) (.slice (some ⟨b38, 0, none⟩) ((asks (z + 2) B1 B2 B3).length) cR) (asks (z + 2) B1 B2 B3)
abbrev qdvx_33 (z : Nat) (b45 : Nat) (B1 : List Nat) (B2 : List Nat) (B3 : List Nat) (cR : Nat) : Ch := rowL z 71 1 (fun v : Value => [v]) (.slice (some ⟨b45, 0, none⟩) ((asks (z + 2) B1 B2 B3).length) cR) (asks (z + 2) B1 B2 B3)
abbrev qdvx_34 (z : Nat) (b52 : Nat) (B1 : List Nat) (B2 : List Nat) (B3 : List Nat) (cR : Nat) : Ch := rowL z 71 1 (fun v : Value => [v]) (.slice (some ⟨b52, 0, none⟩) ((asks (z + 2) B1 B2 B3).length) cR) (asks (z + 2) B1 B2 B3)
abbrev qdvx_35 (z : Nat) (b59 : Nat) (B1 : List Nat) (B2 : List Nat) (B3 : List Nat) (cR : Nat) : Ch := rowL z 71 1 (fun v : Value => [v]) (.slice (some ⟨b59, 0, none⟩) ((asks (z + 2) B1 B2 B3).length) cR) (asks (z + 2) B1 B2 B3)
abbrev qdvx_36 (z : Nat) (b66 : Nat) (B1 : List Nat) (B2 : List Nat) (B3 : List Nat) (cR : Nat) : Ch := rowL z 71 1 (fun v : Value => [v]) (.slice (some ⟨b66, 0, none⟩) ((asks (z + 2) B1 B2 B3).length) cR) (asks (z + 2) B1 B2 B3)
abbrev qdvx_37 (z : Nat) (b73 : Nat) (B1 : List Nat) (B2 : List Nat) (B3 : List Nat) (cR : Nat) : Ch := rowL z 71 1 (fun v : Value => [v]) (.slice (some ⟨b73, 0, none⟩) ((asks (z + 2) B1 B2 B3).length) cR) (asks (z + 2) B1 B2 B3)
abbrev qdvx_38 (z : Nat) (b80 : Nat) (B1 : List Nat) (B2 : List Nat) (B3 : List Nat) (cR : Nat) : Ch := rowL z 71 1 (fun v : Value => [v]) (.slice (some ⟨b80, 0, none⟩) ((asks (z + 2) B1 B2 B3).length) cR) (asks (z + 2) B1 B2 B3)
abbrev qdvx_39 (z : Nat) (b87 : Nat) (B1 : List Nat) (B2 : List Nat) (B3 : List Nat) (cR : Nat) : Ch := rowL z 71 1 (fun v : Value => [v]) (.slice (some ⟨b87, 0, none⟩) ((asks (z + 2) B1 B2 B3).length) cR) (asks (z + 2) B1 B2 B3)
abbrev qdvx_40 (ax19 : Option Addr) (z : Nat) (B1 : List Nat) (B2 : List Nat) (B3 : List Nat) (n17 : Nat) (cp20 : Nat) : Nat × Value := (3, .slice ax19 ((ask5 (z + 2) ++ clo 47 (z + 2) B1 ++ clo 49 (z + 2) B2 ++ clo 51 (z + 2) B3 ++ [(.func (.func 51) #[] #[pt (z + 2), pt n17] : Value)]).length) cp20)
abbrev qdvx_41 (ax12 : Option Addr) (z : Nat) (B1 : List Nat) (B2 : List Nat) (n10 : Nat) (cp13 : Nat) : Nat × Value := (3, .slice ax12 ((ask5 (z + 2) ++ clo 47 (z + 2) B1 ++ clo 49 (z + 2) B2 ++ [(.func (.func 49) #[] #[pt (z + 2), pt n10] : Value)]).length) cp13)
abbrev qdvx_42 (ax5 : Option Addr) (z : Nat) (B1 : List Nat) (n3 : Nat) (cp6 : Nat) : Nat × Value := (3, .slice ax5 ((ask5 (z + 2) ++ clo 47 (z + 2) B1 ++ [(.func (.func 47) #[] #[pt (z + 2), pt n3] : Value)]).length) cp6)
abbrev qdvx_43 (b31 : Nat) (z : Nat) (B1 : List Nat) (B2 : List Nat) (B3 : List Nat) (cR : Nat) : Nat × Value := (8, .slice (some ⟨b31, 0, none⟩) ((asks (z + 2) B1 B2 B3).length) cR)
abbrev qdvx_44 (b38 : Nat) (z : Nat) (B1 : List Nat) (B2 : List Nat) (B3 : List Nat) (cR : Nat) : Nat × Value := (8, .slice (some ⟨b38, 0, none⟩) ((asks (z + 2) B1 B2 B3).length) cR)
abbrev qdvx_45 (b45 : Nat) (z : Nat) (B1 : List Nat) (B2 : List Nat) (B3 : List Nat) (cR : Nat) : Nat × Value := (8, .slice (some ⟨b45, 0, none⟩) ((asks (z + 2) B1 B2 B3).length) cR)
abbrev qdvx_46 (b52 : Nat) (z : Nat) (B1 : List Nat) (B2 : List Nat) (B3 : List Nat) (cR : Nat) : Nat × Value := (8, .slice (some ⟨b52, 0, none⟩) ((asks (z + 2) B1 B2 B3).length) cR)
abbrev qdvx_47 (b59 : Nat) (z : Nat) (B1 : List Nat) (B2 : List Nat) (B3 : List Nat) (cR : Nat) : Nat × Value := (8, .slice (some ⟨b59, 0, none⟩) ((asks (z + 2) B1 B2 B3).length) cR)
abbrev qdvx_48 (b66 : Nat) (z : Nat) (B1 : List Nat) (B2 : List Nat) (B3 : List Nat) (cR : Nat) : Nat × Value := (8, .slice (some ⟨b66, 0, none⟩) ((asks (z + 2) B1 B2 B3).length) cR)
abbrev qdvx_49 (b73 : Nat) (z : Nat) (B1 : List Nat) (B2 : List Nat) (B3 : List Nat) (cR : Nat) : Nat × Value := (8, .slice (some ⟨b73, 0, none⟩) ((asks (z + 2) B1 B2 B3).length) cR)
abbrev qdvx_50 (b80 : Nat) (z : Nat) (B1 : List Nat) (B2 : List Nat) (B3 : List Nat) (cR : Nat) : Nat × Value := (8, .slice (some ⟨b80, 0, none⟩) ((asks (z + 2) B1 B2 B3).length) cR)
abbrev qdvx_51 (b87 : Nat) (z : Nat) (B1 : List Nat) (B2 : List Nat) (B3 : List Nat) (cR : Nat) : Nat × Value := (8, .slice (some ⟨b87, 0, none⟩) ((asks (z + 2) B1 B2 B3).length) cR)
abbrev qdvx_52 (z : Nat) (B1 : List Nat) (B2 : List Nat) (B3 : List Nat) : Nat × Value := (9, i6 (((asks (z + 2) B1 B2 B3).length : Nat) : Int))
abbrev qdvx_53 (c : TConfig) : Nat × Value := (15, i6 ((c.Partitions.xs.length : Nat) : Int))
abbrev qdvx_54 (c : TConfig) : Nat × Value := (26, i6 ((c.Channels.xs.length : Nat) : Int))
abbrev qdvx_55 (c : TConfig) : Nat × Value := (37, i6 ((c.Cores.xs.length : Nat) : Int))
abbrev qdvx_56 (z : Nat) : Nat × Value := (3, pt (z + 1))
abbrev qdvx_57 (z : Nat) : Nat × Value := (1, pt (z + 2))
abbrev qdvx_58 (k : Nat) : Nat × Value := (10, i6 ((k + 1 : Nat) : Int))
set_option maxHeartbeats 4000000 in
theorem check_calls (w : World) (hL : LaidAt w) (c : TConfig) (hc : TConfig.ok Any w c) (hS : c.Partitions.xs.length + c.Channels.xs.length + c.Cores.xs.length ≤ 15000000000000) : Calls Tryd.prog 9 #[.agg (TConfig.arr c)] w fun e w' => e = .returned (.tuple #[.int .i64 (checkF c).e, .agg #[.int .i64 (checkF c).where_.First, .int .i64 (checkF c).where_.Second]]) ∧ Keeps (fun _ => False) w w' := by
 obtain ⟨z, hz⟩ : ∃ z, z = w.heap.size := ⟨_, rfl⟩
 refine calls_G (args := [.agg (TConfig.arr c)]) 25 ⟨w, z, [(old0 w)]⟩ Tryd.func9 rfl (by kernel_rfl) (by kernel_rfl) (sat_0 hz) ?_
 have hpl := hc.Partitions.1.len; have hpc := hc.Cores.1.len; have hpch := hc.Channels.1.len
 refine g_keep [0] [(0, .agg (TConfig.arr c))] ?_
 refine q_c 7 1 [] [[o0, o0, o0], [(an 7 1)]] [Qb z, Qb z, Qb z, Qb z, Qb z, Qb z, Qb z] [(qdvx_56 z), (7, .agg (TConfig.arr c))] ⟨w, z + 2, [(old0 w), (qdvx_24 z c), (qdvx_22 z)]⟩ rfl ⟨rfl, rfl, rfl, rfl, rfl, rfl, rfl, trivial⟩ ?_
 refine l_call [] [] 28 #[.agg (TConfig.arr c)] (some 8) trivial ?_
 intro w1 hw1
 refine calls_G (args := [.agg (TConfig.arr c)]) 50 ⟨w, z + 2, [(old0 w), (qdvx_24 z c), (qdvx_22 z)]⟩ Tryd.func28 rfl (by kernel_rfl) (by kernel_rfl) hw1 ?_
 refine q_c 14 0 [] [[o0, o0], [o0, o0, o0, o0, o0, o0, o0], [o0, (a1 3), o0, o0]] [Qb (z + 2)] [(qdvx_57 z), (3, .slice (some ⟨z + 3, 0, none⟩) 5 5), (qdvx_53 c), (16, i6 0)] ⟨w, z + 4, [(old0 w), (qdvx_24 z c), (qdvx_22 z), (qdvx_23 z c), (bk (z + 3) #[.func (.func 40) #[] #[pt (z + 2)], .func (.func 43) #[] #[pt (z + 2)], .func (.func 44) #[] #[pt (z + 2)], .func (.func 45) #[] #[pt (z + 2)], .func (.func 46) #[] #[pt (z + 2)]] 71)]⟩ rfl ⟨rfl, trivial⟩ ?_
 refine g_blkrow 4 (z + 3) z 71 1 (fun v : Value => [v]) (ask5 (z + 2)) #[.func (.func 40) #[] #[pt (z + 2)], .func (.func 43) #[] #[pt (z + 2)], .func (.func 44) #[] #[pt (z + 2)], .func (.func 45) #[] #[pt (z + 2)], .func (.func 46) #[] #[pt (z + 2)]] (by omega) (?_ : G _ _ _ _ ⟨w, z + 4, [(old0 w), (qdvx_24 z c), (qdvx_22 z), (qdvx_23 z c), (rowL z 71 1 (fun v : Value => [v]) (.slice (some ⟨z + 3, 0, none⟩) 5 5) (ask5 (z + 2)))]⟩ _ _ _)
 refine g_caps0 3 ?_
 refine g_loop (fun m a w' => ∃ (n3 : Nat) (p0 : Nat) (B1 : List Nat) (aL1 : Option Addr) (cL1 : Nat), m = c.Partitions.xs.length - p0 ∧ z + 4 ≤ n3 ∧ (p0 ≤ c.Partitions.xs.length) ∧ (B1.length = p0) ∧ St 50 [(qdvx_57 z), (3, .slice aL1 ((ask5 (z + 2) ++ clo 47 (z + 2) B1).length) cL1), (qdvx_53 c), (16, i6 (p0 : Int))] [] ⟨w, n3, [(old0 w), (qdvx_24 z c), (qdvx_22 z), (qdvx_23 z c), (qdvx_30 z aL1 B1 cL1), (caps 3 B1)]⟩ a w') (c.Partitions.xs.length - 0) ?_ ?_
 · intro a w' hs; exact ⟨(z + 4), 0, ([]), (some ⟨z + 3, 0, none⟩), 5, rfl, Nat.le_refl _, Nat.zero_le _, rfl, (by (try dsimp only [qdvx_0, qdvx_1, qdvx_2, qdvx_3, qdvx_4, qdvx_5, qdvx_6, qdvx_7, qdvx_8, qdvx_9, qdvx_10, qdvx_11, qdvx_12, qdvx_13, qdvx_14, qdvx_15, qdvx_16, qdvx_17, qdvx_18, qdvx_19, qdvx_20, qdvx_21, qdvx_22, qdvx_23, qdvx_24, qdvx_25, qdvx_26, qdvx_27, qdvx_28, qdvx_29, qdvx_30, qdvx_31, qdvx_32, qdvx_33, qdvx_34, qdvx_35, qdvx_36, qdvx_37, qdvx_38, qdvx_39, qdvx_40, qdvx_41, qdvx_42, qdvx_43, qdvx_44, qdvx_45, qdvx_46, qdvx_47, qdvx_48, qdvx_49, qdvx_50, qdvx_51, qdvx_52, qdvx_53, qdvx_54, qdvx_55, qdvx_56, qdvx_57, qdvx_58] at hs ⊢); rw [show clo 47 (z + 2) [] = [] from rfl, List.append_nil]; exact hs)⟩
 · rintro m a w' ⟨n3, p0, B1, aL1, cL1, rfl, hn2, hkp0, hB1, hs⟩
   refine (?_ : G Tryd.prog 50 [(qdvx_57 z), (3, .slice aL1 ((ask5 (z + 2) ++ clo 47 (z + 2) B1).length) cL1), (qdvx_53 c), (16, i6 (p0 : Int))] [] ⟨w, n3, [(old0 w), (qdvx_24 z c), (qdvx_22 z), (qdvx_23 z c), (qdvx_30 z aL1 B1 cL1), (caps 3 B1)]⟩ _ _ _) a w' hs
   clear hs a w'
   have hxl1 : (ask5 (z + 2) ++ clo 47 (z + 2) B1).length = 5 + p0 := by simp only [List.length_append, clo_len, hB1]; rfl
   refine g_seq ?_
   by_cases h4 : ((p0 : Int) : Int) < ((c.Partitions.xs.length : Nat) : Int)
   · refine q_c 14 3 [1] [[oT], [o0, o0, (a1 6)], [o0, o0, o0]] [BT (((p0 : Int) : Int) < ((c.Partitions.xs.length : Nat) : Int)), Qb n3] [(qdvx_57 z), (qdvx_53 c), (16, i6 (p0 : Int)), (19, .slice aL1 ((ask5 (z + 2) ++ clo 47 (z + 2) B1).length) cL1), (21, .slice (some ⟨n3 + 1, 0, none⟩) 1 1)] ⟨w, n3 + 2, [(old0 w), (qdvx_24 z c), (qdvx_22 z), (qdvx_23 z c), (qdvx_30 z aL1 B1 cL1), (caps 3 B1), (bk n3 #[i6 (p0 : Int)] 3), (qdvx_2 n3 z)]⟩ rfl ⟨bt (by omega), rfl, trivial⟩ ?_
     refine l_pushB z 4 7 (ask5 (z + 2) ++ clo 47 (z + 2) B1) [(.func (.func 47) #[] #[pt (z + 2), pt n3] : Value)] (fun v : Value => [v]) 71 1 8 (.slice aL1 ((ask5 (z + 2) ++ clo 47 (z + 2) B1).length) cL1) (n3 + 1) 1 1 #[.func (.func 47) #[] #[pt (z + 2), pt n3]] 71 (0, 0) true (some 22) (by simp only [List.length_cons, List.length_nil]; omega) (by simp only [List.length_cons, List.length_nil]; omega) (show z ≤ n3 + 2 by omega) (fun ax5 cp6 n7 (hn8 : n3 + 2 ≤ n7) => ?_)
     refine q_rS 5 0 [] [[o0], [(ov (i6 ((p0 + 1 : Nat) : Int))), o0]] [Wr (((p0 : Int) : Int) + 1) (((p0 + 1 : Nat) : Int))] [(qdvx_57 z), (qdvx_53 c), (16, i6 ((p0 + 1 : Nat) : Int)), (qdvx_42 ax5 z B1 n3 cp6)] rfl ⟨wrI, trivial⟩ ?_
     refine e_caps 5 6 [0, 1, 2, 3, 4, 7] 3 B1 n3 p0 [(old0 w), (qdvx_24 z c), (qdvx_22 z), (qdvx_23 z c), (qdvx_27 z ax5 B1 n3 cp6), (qdvx_2 n3 z)] hB1 ?_
     refine e_pick [0, 1, 2, 3, 4, 6] [(old0 w), (qdvx_24 z c), (qdvx_22 z), (qdvx_23 z c), (qdvx_27 z ax5 B1 n3 cp6), (caps 3 (B1 ++ [n3]))] rfl rfl ?_
     refine e_keep [1, 3, 15, 16] [(qdvx_57 z), (qdvx_42 ax5 z B1 n3 cp6), (qdvx_53 c), (16, i6 ((p0 + 1 : Nat) : Int))] ?_
     refine e_inv (fun a w' hs => ⟨c.Partitions.xs.length - (p0 + 1), by omega, n7, (p0 + 1), (B1 ++ [n3]), ax5, cp6, rfl, by omega, by omega, (by rw [List.length_append, hB1]; rfl), (by (try dsimp only [qdvx_0, qdvx_1, qdvx_2, qdvx_3, qdvx_4, qdvx_5, qdvx_6, qdvx_7, qdvx_8, qdvx_9, qdvx_10, qdvx_11, qdvx_12, qdvx_13, qdvx_14, qdvx_15, qdvx_16, qdvx_17, qdvx_18, qdvx_19, qdvx_20, qdvx_21, qdvx_22, qdvx_23, qdvx_24, qdvx_25, qdvx_26, qdvx_27, qdvx_28, qdvx_29, qdvx_30, qdvx_31, qdvx_32, qdvx_33, qdvx_34, qdvx_35, qdvx_36, qdvx_37, qdvx_38, qdvx_39, qdvx_40, qdvx_41, qdvx_42, qdvx_43, qdvx_44, qdvx_45, qdvx_46, qdvx_47, qdvx_48, qdvx_49, qdvx_50, qdvx_51, qdvx_52, qdvx_53, qdvx_54, qdvx_55, qdvx_56, qdvx_57, qdvx_58] at hs ⊢); rw [clo_snoc, ← List.append_assoc]; exact hs)⟩)
   · refine q_cS 16 0 [0] [[oF], [o0, (a1 3), o0, o0]] [BF (((p0 : Int) : Int) < ((c.Partitions.xs.length : Nat) : Int)), Qb (z + 2)] [(qdvx_57 z), (3, .slice aL1 ((ask5 (z + 2) ++ clo 47 (z + 2) B1).length) cL1), (qdvx_54 c), (27, i6 0)] rfl ⟨bf (by omega), rfl, trivial⟩ ?_
     refine g_caps0 3 ?_
     refine g_loop (fun m a w' => ∃ (n10 : Nat) (h0 : Nat) (B2 : List Nat) (aL2 : Option Addr) (cL2 : Nat), m = c.Channels.xs.length - h0 ∧ n3 ≤ n10 ∧ (h0 ≤ c.Channels.xs.length) ∧ (B2.length = h0) ∧ St 50 [(qdvx_57 z), (3, .slice aL2 ((ask5 (z + 2) ++ clo 47 (z + 2) B1 ++ clo 49 (z + 2) B2).length) cL2), (qdvx_54 c), (27, i6 (h0 : Int))] [] ⟨w, n10, [(old0 w), (qdvx_24 z c), (qdvx_22 z), (qdvx_23 z c), (qdvx_29 z aL2 B1 B2 cL2), (caps 3 B1), (caps 3 B2)]⟩ a w') (c.Channels.xs.length - 0) ?_ ?_
     · intro a w' hs; exact ⟨n3, 0, ([]), aL1, cL1, rfl, Nat.le_refl _, Nat.zero_le _, rfl, (by (try dsimp only [qdvx_0, qdvx_1, qdvx_2, qdvx_3, qdvx_4, qdvx_5, qdvx_6, qdvx_7, qdvx_8, qdvx_9, qdvx_10, qdvx_11, qdvx_12, qdvx_13, qdvx_14, qdvx_15, qdvx_16, qdvx_17, qdvx_18, qdvx_19, qdvx_20, qdvx_21, qdvx_22, qdvx_23, qdvx_24, qdvx_25, qdvx_26, qdvx_27, qdvx_28, qdvx_29, qdvx_30, qdvx_31, qdvx_32, qdvx_33, qdvx_34, qdvx_35, qdvx_36, qdvx_37, qdvx_38, qdvx_39, qdvx_40, qdvx_41, qdvx_42, qdvx_43, qdvx_44, qdvx_45, qdvx_46, qdvx_47, qdvx_48, qdvx_49, qdvx_50, qdvx_51, qdvx_52, qdvx_53, qdvx_54, qdvx_55, qdvx_56, qdvx_57, qdvx_58] at hs ⊢); rw [show clo 49 (z + 2) [] = [] from rfl, List.append_nil]; exact hs)⟩
     · rintro m a w' ⟨n10, h0, B2, aL2, cL2, rfl, hn9, hkh0, hB2, hs⟩
       refine (?_ : G Tryd.prog 50 [(qdvx_57 z), (3, .slice aL2 ((ask5 (z + 2) ++ clo 47 (z + 2) B1 ++ clo 49 (z + 2) B2).length) cL2), (qdvx_54 c), (27, i6 (h0 : Int))] [] ⟨w, n10, [(old0 w), (qdvx_24 z c), (qdvx_22 z), (qdvx_23 z c), (qdvx_29 z aL2 B1 B2 cL2), (caps 3 B1), (caps 3 B2)]⟩ _ _ _) a w' hs
       clear hs a w'
       have hxl2 : (ask5 (z + 2) ++ clo 47 (z + 2) B1 ++ clo 49 (z + 2) B2).length = 5 + B1.length + h0 := by simp only [List.length_append, clo_len, hB2]; rfl
       refine g_seq ?_
       by_cases h11 : ((h0 : Int) : Int) < ((c.Channels.xs.length : Nat) : Int)
       · refine q_c 14 3 [1] [[oT], [o0, o0, (a1 7)], [o0, o0, o0]] [BT (((h0 : Int) : Int) < ((c.Channels.xs.length : Nat) : Int)), Qb n10] [(qdvx_57 z), (qdvx_54 c), (27, i6 (h0 : Int)), (30, .slice aL2 ((ask5 (z + 2) ++ clo 47 (z + 2) B1 ++ clo 49 (z + 2) B2).length) cL2), (32, .slice (some ⟨n10 + 1, 0, none⟩) 1 1)] ⟨w, n10 + 2, [(old0 w), (qdvx_24 z c), (qdvx_22 z), (qdvx_23 z c), (qdvx_29 z aL2 B1 B2 cL2), (caps 3 B1), (caps 3 B2), (bk n10 #[i6 (h0 : Int)] 3), (qdvx_0 n10 z)]⟩ rfl ⟨bt (by omega), rfl, trivial⟩ ?_
         refine l_pushB z 4 8 (ask5 (z + 2) ++ clo 47 (z + 2) B1 ++ clo 49 (z + 2) B2) [(.func (.func 49) #[] #[pt (z + 2), pt n10] : Value)] (fun v : Value => [v]) 71 1 8 (.slice aL2 ((ask5 (z + 2) ++ clo 47 (z + 2) B1 ++ clo 49 (z + 2) B2).length) cL2) (n10 + 1) 1 1 #[.func (.func 49) #[] #[pt (z + 2), pt n10]] 71 (0, 0) true (some 33) (by simp only [List.length_cons, List.length_nil]; omega) (by simp only [List.length_cons, List.length_nil]; omega) (show z ≤ n10 + 2 by omega) (fun ax12 cp13 n14 (hn15 : n10 + 2 ≤ n14) => ?_)
         refine q_rS 5 0 [] [[o0], [(ov (i6 ((h0 + 1 : Nat) : Int))), o0]] [Wr (((h0 : Int) : Int) + 1) (((h0 + 1 : Nat) : Int))] [(qdvx_57 z), (qdvx_54 c), (27, i6 ((h0 + 1 : Nat) : Int)), (qdvx_41 ax12 z B1 B2 n10 cp13)] rfl ⟨wrI, trivial⟩ ?_
         refine e_caps 6 7 [0, 1, 2, 3, 4, 5, 8] 3 B2 n10 h0 [(old0 w), (qdvx_24 z c), (qdvx_22 z), (qdvx_23 z c), (qdvx_26 z ax12 B1 B2 n10 cp13), (caps 3 B1), (qdvx_0 n10 z)] hB2 ?_
         refine e_pick [0, 1, 2, 3, 4, 5, 7] [(old0 w), (qdvx_24 z c), (qdvx_22 z), (qdvx_23 z c), (qdvx_26 z ax12 B1 B2 n10 cp13), (caps 3 B1), (caps 3 (B2 ++ [n10]))] rfl rfl ?_
         refine e_keep [1, 3, 26, 27] [(qdvx_57 z), (qdvx_41 ax12 z B1 B2 n10 cp13), (qdvx_54 c), (27, i6 ((h0 + 1 : Nat) : Int))] ?_
         refine e_inv (fun a w' hs => ⟨c.Channels.xs.length - (h0 + 1), by omega, n14, (h0 + 1), (B2 ++ [n10]), ax12, cp13, rfl, by omega, by omega, (by rw [List.length_append, hB2]; rfl), (by (try dsimp only [qdvx_0, qdvx_1, qdvx_2, qdvx_3, qdvx_4, qdvx_5, qdvx_6, qdvx_7, qdvx_8, qdvx_9, qdvx_10, qdvx_11, qdvx_12, qdvx_13, qdvx_14, qdvx_15, qdvx_16, qdvx_17, qdvx_18, qdvx_19, qdvx_20, qdvx_21, qdvx_22, qdvx_23, qdvx_24, qdvx_25, qdvx_26, qdvx_27, qdvx_28, qdvx_29, qdvx_30, qdvx_31, qdvx_32, qdvx_33, qdvx_34, qdvx_35, qdvx_36, qdvx_37, qdvx_38, qdvx_39, qdvx_40, qdvx_41, qdvx_42, qdvx_43, qdvx_44, qdvx_45, qdvx_46, qdvx_47, qdvx_48, qdvx_49, qdvx_50, qdvx_51, qdvx_52, qdvx_53, qdvx_54, qdvx_55, qdvx_56, qdvx_57, qdvx_58] at hs ⊢); rw [clo_snoc, ← List.append_assoc]; exact hs)⟩)
       · refine q_cS 16 0 [0] [[oF], [o0, (a1 3), o0, o0]] [BF (((h0 : Int) : Int) < ((c.Channels.xs.length : Nat) : Int)), Qb (z + 2)] [(qdvx_57 z), (3, .slice aL2 ((ask5 (z + 2) ++ clo 47 (z + 2) B1 ++ clo 49 (z + 2) B2).length) cL2), (qdvx_55 c), (38, i6 0)] rfl ⟨bf (by omega), rfl, trivial⟩ ?_
         refine g_caps0 3 ?_
         refine g_loop (fun m a w' => ∃ (n17 : Nat) (k0 : Nat) (B3 : List Nat) (aL3 : Option Addr) (cL3 : Nat), m = c.Cores.xs.length - k0 ∧ n10 ≤ n17 ∧ (k0 ≤ c.Cores.xs.length) ∧ (B3.length = k0) ∧ St 50 [(qdvx_57 z), (3, .slice aL3 ((ask5 (z + 2) ++ clo 47 (z + 2) B1 ++ clo 49 (z + 2) B2 ++ clo 51 (z + 2) B3).length) cL3), (qdvx_55 c), (38, i6 (k0 : Int))] [] ⟨w, n17, [(old0 w), (qdvx_24 z c), (qdvx_22 z), (qdvx_23 z c), (qdvx_28 z aL3 B1 B2 B3 cL3), (caps 3 B1), (caps 3 B2), (caps 3 B3)]⟩ a w') (c.Cores.xs.length - 0) ?_ ?_
         · intro a w' hs; exact ⟨n10, 0, ([]), aL2, cL2, rfl, Nat.le_refl _, Nat.zero_le _, rfl, (by (try dsimp only [qdvx_0, qdvx_1, qdvx_2, qdvx_3, qdvx_4, qdvx_5, qdvx_6, qdvx_7, qdvx_8, qdvx_9, qdvx_10, qdvx_11, qdvx_12, qdvx_13, qdvx_14, qdvx_15, qdvx_16, qdvx_17, qdvx_18, qdvx_19, qdvx_20, qdvx_21, qdvx_22, qdvx_23, qdvx_24, qdvx_25, qdvx_26, qdvx_27, qdvx_28, qdvx_29, qdvx_30, qdvx_31, qdvx_32, qdvx_33, qdvx_34, qdvx_35, qdvx_36, qdvx_37, qdvx_38, qdvx_39, qdvx_40, qdvx_41, qdvx_42, qdvx_43, qdvx_44, qdvx_45, qdvx_46, qdvx_47, qdvx_48, qdvx_49, qdvx_50, qdvx_51, qdvx_52, qdvx_53, qdvx_54, qdvx_55, qdvx_56, qdvx_57, qdvx_58] at hs ⊢); rw [show clo 51 (z + 2) [] = [] from rfl, List.append_nil]; exact hs)⟩
         · rintro m a w' ⟨n17, k0, B3, aL3, cL3, rfl, hn16, hkk0, hB3, hs⟩
           refine (?_ : G Tryd.prog 50 [(qdvx_57 z), (3, .slice aL3 ((ask5 (z + 2) ++ clo 47 (z + 2) B1 ++ clo 49 (z + 2) B2 ++ clo 51 (z + 2) B3).length) cL3), (qdvx_55 c), (38, i6 (k0 : Int))] [] ⟨w, n17, [(old0 w), (qdvx_24 z c), (qdvx_22 z), (qdvx_23 z c), (qdvx_28 z aL3 B1 B2 B3 cL3), (caps 3 B1), (caps 3 B2), (caps 3 B3)]⟩ _ _ _) a w' hs
           clear hs a w'
           have hxl3 : (ask5 (z + 2) ++ clo 47 (z + 2) B1 ++ clo 49 (z + 2) B2 ++ clo 51 (z + 2) B3).length = 5 + B1.length + B2.length + k0 := by simp only [List.length_append, clo_len, hB3]; rfl
           refine g_seq ?_
           by_cases h18 : ((k0 : Int) : Int) < ((c.Cores.xs.length : Nat) : Int)
           · refine q_c 14 3 [1] [[oT], [o0, o0, (a1 8)], [o0, o0, o0]] [BT (((k0 : Int) : Int) < ((c.Cores.xs.length : Nat) : Int)), Qb n17] [(qdvx_57 z), (qdvx_55 c), (38, i6 (k0 : Int)), (41, .slice aL3 ((ask5 (z + 2) ++ clo 47 (z + 2) B1 ++ clo 49 (z + 2) B2 ++ clo 51 (z + 2) B3).length) cL3), (43, .slice (some ⟨n17 + 1, 0, none⟩) 1 1)] ⟨w, n17 + 2, [(old0 w), (qdvx_24 z c), (qdvx_22 z), (qdvx_23 z c), (qdvx_28 z aL3 B1 B2 B3 cL3), (caps 3 B1), (caps 3 B2), (caps 3 B3), (bk n17 #[i6 (k0 : Int)] 3), (qdvx_1 n17 z)]⟩ rfl ⟨bt (by omega), rfl, trivial⟩ ?_
             refine l_pushB z 4 9 (ask5 (z + 2) ++ clo 47 (z + 2) B1 ++ clo 49 (z + 2) B2 ++ clo 51 (z + 2) B3) [(.func (.func 51) #[] #[pt (z + 2), pt n17] : Value)] (fun v : Value => [v]) 71 1 8 (.slice aL3 ((ask5 (z + 2) ++ clo 47 (z + 2) B1 ++ clo 49 (z + 2) B2 ++ clo 51 (z + 2) B3).length) cL3) (n17 + 1) 1 1 #[.func (.func 51) #[] #[pt (z + 2), pt n17]] 71 (0, 0) true (some 44) (by simp only [List.length_cons, List.length_nil]; omega) (by simp only [List.length_cons, List.length_nil]; omega) (show z ≤ n17 + 2 by omega) (fun ax19 cp20 n21 (hn22 : n17 + 2 ≤ n21) => ?_)
             refine q_rS 5 0 [] [[o0], [(ov (i6 ((k0 + 1 : Nat) : Int))), o0]] [Wr (((k0 : Int) : Int) + 1) (((k0 + 1 : Nat) : Int))] [(qdvx_57 z), (qdvx_55 c), (38, i6 ((k0 + 1 : Nat) : Int)), (qdvx_40 ax19 z B1 B2 B3 n17 cp20)] rfl ⟨wrI, trivial⟩ ?_
             refine e_caps 7 8 [0, 1, 2, 3, 4, 5, 6, 9] 3 B3 n17 k0 [(old0 w), (qdvx_24 z c), (qdvx_22 z), (qdvx_23 z c), (qdvx_25 z ax19 B1 B2 B3 n17 cp20), (caps 3 B1), (caps 3 B2), (qdvx_1 n17 z)] hB3 ?_
             refine e_pick [0, 1, 2, 3, 4, 5, 6, 8] [(old0 w), (qdvx_24 z c), (qdvx_22 z), (qdvx_23 z c), (qdvx_25 z ax19 B1 B2 B3 n17 cp20), (caps 3 B1), (caps 3 B2), (caps 3 (B3 ++ [n17]))] rfl rfl ?_
             refine e_keep [1, 3, 37, 38] [(qdvx_57 z), (qdvx_40 ax19 z B1 B2 B3 n17 cp20), (qdvx_55 c), (38, i6 ((k0 + 1 : Nat) : Int))] ?_
             refine e_inv (fun a w' hs => ⟨c.Cores.xs.length - (k0 + 1), by omega, n21, (k0 + 1), (B3 ++ [n17]), ax19, cp20, rfl, by omega, by omega, (by rw [List.length_append, hB3]; rfl), (by (try dsimp only [qdvx_0, qdvx_1, qdvx_2, qdvx_3, qdvx_4, qdvx_5, qdvx_6, qdvx_7, qdvx_8, qdvx_9, qdvx_10, qdvx_11, qdvx_12, qdvx_13, qdvx_14, qdvx_15, qdvx_16, qdvx_17, qdvx_18, qdvx_19, qdvx_20, qdvx_21, qdvx_22, qdvx_23, qdvx_24, qdvx_25, qdvx_26, qdvx_27, qdvx_28, qdvx_29, qdvx_30, qdvx_31, qdvx_32, qdvx_33, qdvx_34, qdvx_35, qdvx_36, qdvx_37, qdvx_38, qdvx_39, qdvx_40, qdvx_41, qdvx_42, qdvx_43, qdvx_44, qdvx_45, qdvx_46, qdvx_47, qdvx_48, qdvx_49, qdvx_50, qdvx_51, qdvx_52, qdvx_53, qdvx_54, qdvx_55, qdvx_56, qdvx_57, qdvx_58] at hs ⊢); rw [clo_snoc, ← List.append_assoc]; exact hs)⟩)
           · refine q_c 12 3 [0] [[oF], [o0, o0, o0]] [BF (((k0 : Int) : Int) < ((c.Cores.xs.length : Nat) : Int))] [(46, .slice aL3 ((ask5 (z + 2) ++ clo 47 (z + 2) B1 ++ clo 49 (z + 2) B2 ++ clo 51 (z + 2) B3).length) cL3), (48, .slice (some ⟨n17, 0, none⟩) 1 1)] ⟨w, n17 + 1, [(old0 w), (qdvx_24 z c), (qdvx_22 z), (qdvx_23 z c), (qdvx_28 z aL3 B1 B2 B3 cL3), (caps 3 B1), (caps 3 B2), (caps 3 B3), (qdvx_12 n17 z)]⟩ rfl ⟨bf (by omega), trivial⟩ ?_
             refine l_pushB z 4 8 (ask5 (z + 2) ++ clo 47 (z + 2) B1 ++ clo 49 (z + 2) B2 ++ clo 51 (z + 2) B3) [(.func (.func 53) #[] #[pt (z + 2)] : Value)] (fun v : Value => [v]) 71 1 8 (.slice aL3 ((ask5 (z + 2) ++ clo 47 (z + 2) B1 ++ clo 49 (z + 2) B2 ++ clo 51 (z + 2) B3).length) cL3) n17 1 1 #[.func (.func 53) #[] #[pt (z + 2)]] 71 (0, 0) true (some 49) (by simp only [List.length_cons, List.length_nil]; omega) (by simp only [List.length_cons, List.length_nil]; omega) (show z ≤ n17 + 1 by omega) (fun ax23 cp24 n25 (hn26 : n17 + 1 ≤ n25) => ?_)
             refine q_rS 3 0 [] [[o0]] [] [(2, .slice ax23 ((ask5 (z + 2) ++ clo 47 (z + 2) B1 ++ clo 49 (z + 2) B2 ++ clo 51 (z + 2) B3 ++ [(.func (.func 53) #[] #[pt (z + 2)] : Value)]).length) cp24)] rfl trivial ?_
             refine e_ret [] [] (.slice ax23 ((ask5 (z + 2) ++ clo 47 (z + 2) B1 ++ clo 49 (z + 2) B2 ++ clo 51 (z + 2) B3 ++ [(.func (.func 53) #[] #[pt (z + 2)] : Value)]).length) cp24) trivial ?_
             intro w27 hw27
             refine ⟨_, _, rfl, hw27, ?_⟩
             refine q_rS 3 0 [] [[o0, o0]] [] [(qdvx_56 z), (8, .slice ax23 ((ask5 (z + 2) ++ clo 47 (z + 2) B1 ++ clo 49 (z + 2) B2 ++ clo 51 (z + 2) B3 ++ [(.func (.func 53) #[] #[pt (z + 2)] : Value)]).length) cp24), (9, i6 (((ask5 (z + 2) ++ clo 47 (z + 2) B1 ++ clo 49 (z + 2) B2 ++ clo 51 (z + 2) B3 ++ [(.func (.func 53) #[] #[pt (z + 2)] : Value)]).length : Nat) : Int)), (10, i6 0)] rfl trivial ?_
             refine g_loop (fun m a w' => ∃ (n29 : Nat) (k : Nat) (aR : Option Addr) (cR : Nat), m = (asks (z + 2) B1 B2 B3).length - k ∧ n25 ≤ n29 ∧ (k ≤ (asks (z + 2) B1 B2 B3).length) ∧ (∀ i, i < k → gd (answers c) i = fineF) ∧ St 25 [(qdvx_56 z), (8, .slice aR ((asks (z + 2) B1 B2 B3).length) cR), (qdvx_52 z B1 B2 B3), (10, i6 (k : Int))] [] ⟨w, n29, [(old0 w), (qdvx_24 z c), (qdvx_22 z), (qdvx_23 z c), (rowL z 71 1 (fun v : Value => [v]) (.slice aR ((asks (z + 2) B1 B2 B3).length) cR) (asks (z + 2) B1 B2 B3)), (caps 3 B1), (caps 3 B2), (caps 3 B3), (qdvx_12 n17 z)]⟩ a w') ((asks (z + 2) B1 B2 B3).length - 0) ?_ ?_
             · intro a w' hs; exact ⟨n25, 0, ax23, cp24, rfl, Nat.le_refl _, Nat.zero_le _, fun i hi => absurd hi (Nat.not_lt_zero i), hs⟩
             · rintro m a w' ⟨n29, k, aR, cR, rfl, hn28, hkk, hf, hs⟩
               refine (?_ : G Tryd.prog 25 [(qdvx_56 z), (8, .slice aR ((asks (z + 2) B1 B2 B3).length) cR), (qdvx_52 z B1 B2 B3), (10, i6 (k : Int))] [] ⟨w, n29, [(old0 w), (qdvx_24 z c), (qdvx_22 z), (qdvx_23 z c), (rowL z 71 1 (fun v : Value => [v]) (.slice aR ((asks (z + 2) B1 B2 B3).length) cR) (asks (z + 2) B1 B2 B3)), (caps 3 B1), (caps 3 B2), (caps 3 B3), (qdvx_12 n17 z)]⟩ _ _ _) a w' hs
               clear hs a w'
               have hB1 : B1.length = c.Partitions.xs.length := by omega
               have hB2 : B2.length = c.Channels.xs.length := by omega
               have hB3 : B3.length = c.Cores.xs.length := by omega
               have htot : (asks (z + 2) B1 B2 B3).length = _ := asks_len
               refine g_seq ?_
               by_cases h30 : ((k : Int) : Int) < (((asks (z + 2) B1 B2 B3).length : Nat) : Int)
               · refine q_cS 10 0 [1] [[oT]] [BT (((k : Int) : Int) < (((asks (z + 2) B1 B2 B3).length : Nat) : Int))] [(qdvx_56 z), (8, .slice aR ((asks (z + 2) B1 B2 B3).length) cR), (qdvx_52 z B1 B2 B3), (10, i6 (k : Int)), (11, .bool true)] rfl ⟨bt (by omega), trivial⟩ ?_
                 rcases kinds (c := c) (bc := z + 2) hB1 hB2 hB3 (k := k) (by omega) with ⟨hk0, hv, ha⟩ | ⟨hk0, hv, ha⟩ | ⟨hk0, hv, ha⟩ | ⟨hk0, hv, ha⟩ | ⟨hk0, hv, ha⟩ | ⟨p, b, hk0, hp, hb, hv, ha⟩ | ⟨p, b, hk0, hp, hb, hv, ha⟩ | ⟨p, b, hk0, hp, hb, hv, ha⟩ | ⟨hk0, hv, ha⟩
                 · refine g_rowat (base := z) (e := 71) (sz := 1) (cells := (fun v : Value => [v])) (a := aR) (n := ((asks (z + 2) B1 B2 B3).length)) (cap := cR) (xs := (asks (z + 2) B1 B2 B3)) 4 (by omega) (fun b31 hg32 hb33 => ?_)
                   subst hg32
                   refine q_cS 5 1 [] [[(oi k), (oa [.via 4 (.func (.func 40) #[] #[pt (z + 2)])]), o0], [o0]] [((k : Int) : Int) = ((k : Nat) : Int), k < (asks (z + 2) B1 B2 B3).length, (none : Option Nat) = none, ∀ w', Ch.holds (qdvx_31 z b31 B1 B2 B3 cR) w' → w'.cell? ⟨b31, 0 + k, none⟩ = some (.func (.func 40) #[] #[pt (z + 2)])] [(qdvx_56 z), (qdvx_43 b31 z B1 B2 B3 cR), (qdvx_52 z B1 B2 B3), (10, i6 (k : Int)), (14, .func (.func 40) #[] #[pt (z + 2)])] rfl ⟨rfl, (by omega), rfl, rowL_cell (sz := 1) (j := k) (k := 0) (fun _ => rfl) (by omega) (congrArg some hv), trivial⟩ ?_
                   refine l_call [] [] 40 #[pt (z + 2)] (some 15) trivial ?_
                   intro w34 hw34
                   refine (q1_calls w34 (hL.ext (hw34.ext rfl)) c (hc.ext (hw34.ext rfl) (fun _ h => h)) (z + 2) (blk_cells hw34 (i := 3))).mono ?_
                   rintro e w35 ⟨rfl, hkw35⟩
                   have hnw35 : n29 ≤ w35.heap.size := size_of hw34 hkw35
                   refine ⟨_, _, rfl, hw34.keeps hkw35, ?_⟩
                   refine q_r 3 0 [] [[o0, (an 3 9)]] [Qb w35.heap.size, Qb w35.heap.size, Qb w35.heap.size] [(qdvx_56 z), (qdvx_43 b31 z B1 B2 B3 cR), (qdvx_52 z B1 B2 B3), (10, i6 (k : Int)), (6, pt w35.heap.size)] ⟨w, w35.heap.size + 1, [(old0 w), (qdvx_24 z c), (qdvx_22 z), (qdvx_23 z c), (qdvx_31 z b31 B1 B2 B3 cR), (caps 3 B1), (caps 3 B2), (caps 3 B3), (qdvx_12 n17 z), (qdvx_16 w35 c)]⟩ rfl ⟨rfl, rfl, rfl, trivial⟩ ?_
                   by_cases h36 : (((whole1 c).e : Int) == (0 : Int) && ((((whole1 c).where_.First : Int) == (0 : Int) && (((whole1 c).where_.Second : Int) == (0 : Int) && true)) && true)) = true
                   · refine q_cS 9 0 [0] [[(an 3 9), (oa [.via 0 (i6 0), .via 0 (i6 0), .via 0 (i6 0)]), ⟨.seq true, none⟩], [(ov (i6 ((k + 1 : Nat) : Int))), o0]] [Qb w35.heap.size, Qb w35.heap.size, Qb w35.heap.size, Old w 0 0 (i6 0), Old w 0 1 (i6 0), Old w 0 2 (i6 0), (((whole1 c).e : Int) == (0 : Int) && ((((whole1 c).where_.First : Int) == (0 : Int) && (((whole1 c).where_.Second : Int) == (0 : Int) && true)) && true)) = true, Wr (((k : Int) : Int) + 1) (((k + 1 : Nat) : Int))] [(qdvx_56 z), (qdvx_43 b31 z B1 B2 B3 cR), (qdvx_52 z B1 B2 B3), (qdvx_58 k)] rfl ⟨rfl, rfl, rfl, old_cell' (hL.2 0 _ rfl), old_cell' (hL.2 1 _ rfl), old_cell' (hL.2 2 _ rfl), h36, wrI, trivial⟩ ?_
                     refine e_pick [0, 1, 2, 3, 4, 5, 6, 7, 8] [(old0 w), (qdvx_24 z c), (qdvx_22 z), (qdvx_23 z c), (qdvx_31 z b31 B1 B2 B3 cR), (caps 3 B1), (caps 3 B2), (caps 3 B3), (qdvx_12 n17 z)] rfl rfl ?_
                     refine e_keep [3, 8, 9, 10] [(qdvx_56 z), (qdvx_43 b31 z B1 B2 B3 cR), (qdvx_52 z B1 B2 B3), (qdvx_58 k)] ?_
                     refine e_inv (fun a w' hs => ⟨(asks (z + 2) B1 B2 B3).length - (k + 1), by omega, (w35.heap.size + 1), (k + 1), (some ⟨b31, 0, none⟩), cR, rfl, by omega, by omega, upto_ hf (by rw [ha]; exact fine_eq.1 h36), hs⟩)
                   · refine q_cS 5 0 [1] [[(an 3 9), (oa [.via 0 (i6 0), .via 0 (i6 0), .via 0 (i6 0)]), ⟨.seq false, none⟩]] [Qb w35.heap.size, Qb w35.heap.size, Qb w35.heap.size, Old w 0 0 (i6 0), Old w 0 1 (i6 0), Old w 0 2 (i6 0), (((whole1 c).e : Int) == (0 : Int) && ((((whole1 c).where_.First : Int) == (0 : Int) && (((whole1 c).where_.Second : Int) == (0 : Int) && true)) && true)) = false] [(qdvx_56 z), (qdvx_43 b31 z B1 B2 B3 cR), (qdvx_52 z B1 B2 B3), (10, i6 (k : Int)), (6, pt w35.heap.size), (18, .bool true)] rfl ⟨rfl, rfl, rfl, old_cell' (hL.2 0 _ rfl), old_cell' (hL.2 1 _ rfl), old_cell' (hL.2 2 _ rfl), (Bool.eq_false_iff.2 h36), trivial⟩ ?_
                     refine g_draw 5 [0, 1, 2, 3, 4, 5, 6, 7, 8, 9] [(old0 w), (qdvx_24 z c), (qdvx_22 z), (qdvx_23 z c), (qdvx_31 z b31 B1 B2 B3 cR), (caps 3 B1), (caps 3 B2), (caps 3 B3), (qdvx_12 n17 z), (qdvx_16 w35 c)] rfl rfl ?_
                     refine w_take [(0, o0), (1, (a1 9)), (2, o0), (3, (an 2 9)), (4, o0)] [3, 22, 2] [Qb w35.heap.size, Qb w35.heap.size, Qb w35.heap.size] [true, true, true, true, true, false] [(qdvx_56 z), (22, .agg #[i6 ((whole1 c).where_.First), i6 ((whole1 c).where_.Second)]), (2, i6 ((whole1 c).e))] rfl (by as_aux_lemma => kernel_rfl) (by as_aux_lemma => kernel_rfl) ⟨rfl, rfl, rfl, trivial⟩ ?_
                     refine w_one 5 (by as_aux_lemma => kernel_rfl) rfl ?_
                     refine wo_eff (an 2 2) [3, 2] [Qb (z + 1), Qb (z + 1)] [(qdvx_56 z), (2, i6 ((whole1 c).e))] ⟨w, w35.heap.size + 1, [(old0 w), (qdvx_24 z c), (qdvx_6 z c), (qdvx_23 z c), (qdvx_31 z b31 B1 B2 B3 cR), (caps 3 B1), (caps 3 B2), (caps 3 B3), (qdvx_12 n17 z), (qdvx_16 w35 c)]⟩ [] (by as_aux_lemma => kernel_rfl) rfl ⟨rfl, rfl, trivial⟩ (.inl rfl) ?_
                     refine w_free 6 [0, 1, 2, 3, 4, 5, 6, 7, 8, 9] [(old0 w), (qdvx_24 z c), (qdvx_6 z c), (qdvx_23 z c), (qdvx_31 z b31 B1 B2 B3 cR), (caps 3 B1), (caps 3 B2), (caps 3 B3), (qdvx_12 n17 z), (qdvx_16 w35 c)] rfl rfl ?_
                     refine w_done (by as_aux_lemma => kernel_rfl) ?_
                     refine e_keep [3, 2] [(qdvx_56 z), (2, i6 ((whole1 c).e))] ?_
                     refine e_seq <| g_ret <| e_ret [.at 2, .at 2] [Qb (z + 1), Qb (z + 1)] (.tuple #[i6 ((whole1 c).e), .agg #[i6 ((whole1 c).where_.First), i6 ((whole1 c).where_.Second)]]) ⟨rfl, rfl, trivial⟩ ?_
                     intro w37 hw37
                     exact ⟨congrArg (fun t : Tfound => Ending.returned (.tuple #[i6 t.e, .agg #[i6 t.where_.First, i6 t.where_.Second]])) ((fst_at (xs := answers c) (k := k) (by rw [answers_len]; omega) hf (by rw [ha]; exact fun x => h36 (fine_eq.2 x))).trans ha).symm, back0 hw37⟩
                 · refine g_rowat (base := z) (e := 71) (sz := 1) (cells := (fun v : Value => [v])) (a := aR) (n := ((asks (z + 2) B1 B2 B3).length)) (cap := cR) (xs := (asks (z + 2) B1 B2 B3)) 4 (by omega) (fun b38 hg39 hb40 => ?_)
                   subst hg39
                   refine q_cS 5 1 [] [[(oi k), (oa [.via 4 (.func (.func 43) #[] #[pt (z + 2)])]), o0], [o0]] [((k : Int) : Int) = ((k : Nat) : Int), k < (asks (z + 2) B1 B2 B3).length, (none : Option Nat) = none, ∀ w', Ch.holds (qdvx_32 z b38 B1 B2 B3 cR) w' → w'.cell? ⟨b38, 0 + k, none⟩ = some (.func (.func 43) #[] #[pt (z + 2)])] [(qdvx_56 z), (qdvx_44 b38 z B1 B2 B3 cR), (qdvx_52 z B1 B2 B3), (10, i6 (k : Int)), (14, .func (.func 43) #[] #[pt (z + 2)])] rfl ⟨rfl, (by omega), rfl, rowL_cell (sz := 1) (j := k) (k := 0) (fun _ => rfl) (by omega) (congrArg some hv), trivial⟩ ?_
                   refine l_call [] [] 43 #[pt (z + 2)] (some 15) trivial ?_
                   intro w41 hw41
                   refine (q2_calls w41 (hL.ext (hw41.ext rfl)) c (hc.ext (hw41.ext rfl) (fun _ h => h)) (z + 2) (blk_cells hw41 (i := 3))).mono ?_
                   rintro e w42 ⟨rfl, hkw42⟩
                   have hnw42 : n29 ≤ w42.heap.size := size_of hw41 hkw42
                   refine ⟨_, _, rfl, hw41.keeps hkw42, ?_⟩
                   refine q_r 3 0 [] [[o0, (an 3 9)]] [Qb w42.heap.size, Qb w42.heap.size, Qb w42.heap.size] [(qdvx_56 z), (qdvx_44 b38 z B1 B2 B3 cR), (qdvx_52 z B1 B2 B3), (10, i6 (k : Int)), (6, pt w42.heap.size)] ⟨w, w42.heap.size + 1, [(old0 w), (qdvx_24 z c), (qdvx_22 z), (qdvx_23 z c), (qdvx_32 z b38 B1 B2 B3 cR), (caps 3 B1), (caps 3 B2), (caps 3 B3), (qdvx_12 n17 z), (qdvx_17 w42 c)]⟩ rfl ⟨rfl, rfl, rfl, trivial⟩ ?_
                   by_cases h43 : (((whole2 c).e : Int) == (0 : Int) && ((((whole2 c).where_.First : Int) == (0 : Int) && (((whole2 c).where_.Second : Int) == (0 : Int) && true)) && true)) = true
                   · refine q_cS 9 0 [0] [[(an 3 9), (oa [.via 0 (i6 0), .via 0 (i6 0), .via 0 (i6 0)]), ⟨.seq true, none⟩], [(ov (i6 ((k + 1 : Nat) : Int))), o0]] [Qb w42.heap.size, Qb w42.heap.size, Qb w42.heap.size, Old w 0 0 (i6 0), Old w 0 1 (i6 0), Old w 0 2 (i6 0), (((whole2 c).e : Int) == (0 : Int) && ((((whole2 c).where_.First : Int) == (0 : Int) && (((whole2 c).where_.Second : Int) == (0 : Int) && true)) && true)) = true, Wr (((k : Int) : Int) + 1) (((k + 1 : Nat) : Int))] [(qdvx_56 z), (qdvx_44 b38 z B1 B2 B3 cR), (qdvx_52 z B1 B2 B3), (qdvx_58 k)] rfl ⟨rfl, rfl, rfl, old_cell' (hL.2 0 _ rfl), old_cell' (hL.2 1 _ rfl), old_cell' (hL.2 2 _ rfl), h43, wrI, trivial⟩ ?_
                     refine e_pick [0, 1, 2, 3, 4, 5, 6, 7, 8] [(old0 w), (qdvx_24 z c), (qdvx_22 z), (qdvx_23 z c), (qdvx_32 z b38 B1 B2 B3 cR), (caps 3 B1), (caps 3 B2), (caps 3 B3), (qdvx_12 n17 z)] rfl rfl ?_
                     refine e_keep [3, 8, 9, 10] [(qdvx_56 z), (qdvx_44 b38 z B1 B2 B3 cR), (qdvx_52 z B1 B2 B3), (qdvx_58 k)] ?_
                     refine e_inv (fun a w' hs => ⟨(asks (z + 2) B1 B2 B3).length - (k + 1), by omega, (w42.heap.size + 1), (k + 1), (some ⟨b38, 0, none⟩), cR, rfl, by omega, by omega, upto_ hf (by rw [ha]; exact fine_eq.1 h43), hs⟩)
                   · refine q_cS 5 0 [1] [[(an 3 9), (oa [.via 0 (i6 0), .via 0 (i6 0), .via 0 (i6 0)]), ⟨.seq false, none⟩]] [Qb w42.heap.size, Qb w42.heap.size, Qb w42.heap.size, Old w 0 0 (i6 0), Old w 0 1 (i6 0), Old w 0 2 (i6 0), (((whole2 c).e : Int) == (0 : Int) && ((((whole2 c).where_.First : Int) == (0 : Int) && (((whole2 c).where_.Second : Int) == (0 : Int) && true)) && true)) = false] [(qdvx_56 z), (qdvx_44 b38 z B1 B2 B3 cR), (qdvx_52 z B1 B2 B3), (10, i6 (k : Int)), (6, pt w42.heap.size), (18, .bool true)] rfl ⟨rfl, rfl, rfl, old_cell' (hL.2 0 _ rfl), old_cell' (hL.2 1 _ rfl), old_cell' (hL.2 2 _ rfl), (Bool.eq_false_iff.2 h43), trivial⟩ ?_
                     refine g_draw 5 [0, 1, 2, 3, 4, 5, 6, 7, 8, 9] [(old0 w), (qdvx_24 z c), (qdvx_22 z), (qdvx_23 z c), (qdvx_32 z b38 B1 B2 B3 cR), (caps 3 B1), (caps 3 B2), (caps 3 B3), (qdvx_12 n17 z), (qdvx_17 w42 c)] rfl rfl ?_
                     refine w_take [(0, o0), (1, (a1 9)), (2, o0), (3, (an 2 9)), (4, o0)] [3, 22, 2] [Qb w42.heap.size, Qb w42.heap.size, Qb w42.heap.size] [true, true, true, true, true, false] [(qdvx_56 z), (22, .agg #[i6 ((whole2 c).where_.First), i6 ((whole2 c).where_.Second)]), (2, i6 ((whole2 c).e))] rfl (by as_aux_lemma => kernel_rfl) (by as_aux_lemma => kernel_rfl) ⟨rfl, rfl, rfl, trivial⟩ ?_
                     refine w_one 5 (by as_aux_lemma => kernel_rfl) rfl ?_
                     refine wo_eff (an 2 2) [3, 2] [Qb (z + 1), Qb (z + 1)] [(qdvx_56 z), (2, i6 ((whole2 c).e))] ⟨w, w42.heap.size + 1, [(old0 w), (qdvx_24 z c), (qdvx_7 z c), (qdvx_23 z c), (qdvx_32 z b38 B1 B2 B3 cR), (caps 3 B1), (caps 3 B2), (caps 3 B3), (qdvx_12 n17 z), (qdvx_17 w42 c)]⟩ [] (by as_aux_lemma => kernel_rfl) rfl ⟨rfl, rfl, trivial⟩ (.inl rfl) ?_
                     refine w_free 6 [0, 1, 2, 3, 4, 5, 6, 7, 8, 9] [(old0 w), (qdvx_24 z c), (qdvx_7 z c), (qdvx_23 z c), (qdvx_32 z b38 B1 B2 B3 cR), (caps 3 B1), (caps 3 B2), (caps 3 B3), (qdvx_12 n17 z), (qdvx_17 w42 c)] rfl rfl ?_
                     refine w_done (by as_aux_lemma => kernel_rfl) ?_
                     refine e_keep [3, 2] [(qdvx_56 z), (2, i6 ((whole2 c).e))] ?_
                     refine e_seq <| g_ret <| e_ret [.at 2, .at 2] [Qb (z + 1), Qb (z + 1)] (.tuple #[i6 ((whole2 c).e), .agg #[i6 ((whole2 c).where_.First), i6 ((whole2 c).where_.Second)]]) ⟨rfl, rfl, trivial⟩ ?_
                     intro w44 hw44
                     exact ⟨congrArg (fun t : Tfound => Ending.returned (.tuple #[i6 t.e, .agg #[i6 t.where_.First, i6 t.where_.Second]])) ((fst_at (xs := answers c) (k := k) (by rw [answers_len]; omega) hf (by rw [ha]; exact fun x => h43 (fine_eq.2 x))).trans ha).symm, back0 hw44⟩
                 · refine g_rowat (base := z) (e := 71) (sz := 1) (cells := (fun v : Value => [v])) (a := aR) (n := ((asks (z + 2) B1 B2 B3).length)) (cap := cR) (xs := (asks (z + 2) B1 B2 B3)) 4 (by omega) (fun b45 hg46 hb47 => ?_)
                   subst hg46
                   refine q_cS 5 1 [] [[(oi k), (oa [.via 4 (.func (.func 44) #[] #[pt (z + 2)])]), o0], [o0]] [((k : Int) : Int) = ((k : Nat) : Int), k < (asks (z + 2) B1 B2 B3).length, (none : Option Nat) = none, ∀ w', Ch.holds (qdvx_33 z b45 B1 B2 B3 cR) w' → w'.cell? ⟨b45, 0 + k, none⟩ = some (.func (.func 44) #[] #[pt (z + 2)])] [(qdvx_56 z), (qdvx_45 b45 z B1 B2 B3 cR), (qdvx_52 z B1 B2 B3), (10, i6 (k : Int)), (14, .func (.func 44) #[] #[pt (z + 2)])] rfl ⟨rfl, (by omega), rfl, rowL_cell (sz := 1) (j := k) (k := 0) (fun _ => rfl) (by omega) (congrArg some hv), trivial⟩ ?_
                   refine l_call [] [] 44 #[pt (z + 2)] (some 15) trivial ?_
                   intro w48 hw48
                   refine (q3_calls w48 (hL.ext (hw48.ext rfl)) c (hc.ext (hw48.ext rfl) (fun _ h => h)) (z + 2) (blk_cells hw48 (i := 3))).mono ?_
                   rintro e w49 ⟨rfl, hkw49⟩
                   have hnw49 : n29 ≤ w49.heap.size := size_of hw48 hkw49
                   refine ⟨_, _, rfl, hw48.keeps hkw49, ?_⟩
                   refine q_r 3 0 [] [[o0, (an 3 9)]] [Qb w49.heap.size, Qb w49.heap.size, Qb w49.heap.size] [(qdvx_56 z), (qdvx_45 b45 z B1 B2 B3 cR), (qdvx_52 z B1 B2 B3), (10, i6 (k : Int)), (6, pt w49.heap.size)] ⟨w, w49.heap.size + 1, [(old0 w), (qdvx_24 z c), (qdvx_22 z), (qdvx_23 z c), (qdvx_33 z b45 B1 B2 B3 cR), (caps 3 B1), (caps 3 B2), (caps 3 B3), (qdvx_12 n17 z), (qdvx_18 w49 c)]⟩ rfl ⟨rfl, rfl, rfl, trivial⟩ ?_
                   by_cases h50 : (((whole3 c).e : Int) == (0 : Int) && ((((whole3 c).where_.First : Int) == (0 : Int) && (((whole3 c).where_.Second : Int) == (0 : Int) && true)) && true)) = true
                   · refine q_cS 9 0 [0] [[(an 3 9), (oa [.via 0 (i6 0), .via 0 (i6 0), .via 0 (i6 0)]), ⟨.seq true, none⟩], [(ov (i6 ((k + 1 : Nat) : Int))), o0]] [Qb w49.heap.size, Qb w49.heap.size, Qb w49.heap.size, Old w 0 0 (i6 0), Old w 0 1 (i6 0), Old w 0 2 (i6 0), (((whole3 c).e : Int) == (0 : Int) && ((((whole3 c).where_.First : Int) == (0 : Int) && (((whole3 c).where_.Second : Int) == (0 : Int) && true)) && true)) = true, Wr (((k : Int) : Int) + 1) (((k + 1 : Nat) : Int))] [(qdvx_56 z), (qdvx_45 b45 z B1 B2 B3 cR), (qdvx_52 z B1 B2 B3), (qdvx_58 k)] rfl ⟨rfl, rfl, rfl, old_cell' (hL.2 0 _ rfl), old_cell' (hL.2 1 _ rfl), old_cell' (hL.2 2 _ rfl), h50, wrI, trivial⟩ ?_
                     refine e_pick [0, 1, 2, 3, 4, 5, 6, 7, 8] [(old0 w), (qdvx_24 z c), (qdvx_22 z), (qdvx_23 z c), (qdvx_33 z b45 B1 B2 B3 cR), (caps 3 B1), (caps 3 B2), (caps 3 B3), (qdvx_12 n17 z)] rfl rfl ?_
                     refine e_keep [3, 8, 9, 10] [(qdvx_56 z), (qdvx_45 b45 z B1 B2 B3 cR), (qdvx_52 z B1 B2 B3), (qdvx_58 k)] ?_
                     refine e_inv (fun a w' hs => ⟨(asks (z + 2) B1 B2 B3).length - (k + 1), by omega, (w49.heap.size + 1), (k + 1), (some ⟨b45, 0, none⟩), cR, rfl, by omega, by omega, upto_ hf (by rw [ha]; exact fine_eq.1 h50), hs⟩)
                   · refine q_cS 5 0 [1] [[(an 3 9), (oa [.via 0 (i6 0), .via 0 (i6 0), .via 0 (i6 0)]), ⟨.seq false, none⟩]] [Qb w49.heap.size, Qb w49.heap.size, Qb w49.heap.size, Old w 0 0 (i6 0), Old w 0 1 (i6 0), Old w 0 2 (i6 0), (((whole3 c).e : Int) == (0 : Int) && ((((whole3 c).where_.First : Int) == (0 : Int) && (((whole3 c).where_.Second : Int) == (0 : Int) && true)) && true)) = false] [(qdvx_56 z), (qdvx_45 b45 z B1 B2 B3 cR), (qdvx_52 z B1 B2 B3), (10, i6 (k : Int)), (6, pt w49.heap.size), (18, .bool true)] rfl ⟨rfl, rfl, rfl, old_cell' (hL.2 0 _ rfl), old_cell' (hL.2 1 _ rfl), old_cell' (hL.2 2 _ rfl), (Bool.eq_false_iff.2 h50), trivial⟩ ?_
                     refine g_draw 5 [0, 1, 2, 3, 4, 5, 6, 7, 8, 9] [(old0 w), (qdvx_24 z c), (qdvx_22 z), (qdvx_23 z c), (qdvx_33 z b45 B1 B2 B3 cR), (caps 3 B1), (caps 3 B2), (caps 3 B3), (qdvx_12 n17 z), (qdvx_18 w49 c)] rfl rfl ?_
                     refine w_take [(0, o0), (1, (a1 9)), (2, o0), (3, (an 2 9)), (4, o0)] [3, 22, 2] [Qb w49.heap.size, Qb w49.heap.size, Qb w49.heap.size] [true, true, true, true, true, false] [(qdvx_56 z), (22, .agg #[i6 ((whole3 c).where_.First), i6 ((whole3 c).where_.Second)]), (2, i6 ((whole3 c).e))] rfl (by as_aux_lemma => kernel_rfl) (by as_aux_lemma => kernel_rfl) ⟨rfl, rfl, rfl, trivial⟩ ?_
                     refine w_one 5 (by as_aux_lemma => kernel_rfl) rfl ?_
                     refine wo_eff (an 2 2) [3, 2] [Qb (z + 1), Qb (z + 1)] [(qdvx_56 z), (2, i6 ((whole3 c).e))] ⟨w, w49.heap.size + 1, [(old0 w), (qdvx_24 z c), (qdvx_8 z c), (qdvx_23 z c), (qdvx_33 z b45 B1 B2 B3 cR), (caps 3 B1), (caps 3 B2), (caps 3 B3), (qdvx_12 n17 z), (qdvx_18 w49 c)]⟩ [] (by as_aux_lemma => kernel_rfl) rfl ⟨rfl, rfl, trivial⟩ (.inl rfl) ?_
                     refine w_free 6 [0, 1, 2, 3, 4, 5, 6, 7, 8, 9] [(old0 w), (qdvx_24 z c), (qdvx_8 z c), (qdvx_23 z c), (qdvx_33 z b45 B1 B2 B3 cR), (caps 3 B1), (caps 3 B2), (caps 3 B3), (qdvx_12 n17 z), (qdvx_18 w49 c)] rfl rfl ?_
                     refine w_done (by as_aux_lemma => kernel_rfl) ?_
                     refine e_keep [3, 2] [(qdvx_56 z), (2, i6 ((whole3 c).e))] ?_
                     refine e_seq <| g_ret <| e_ret [.at 2, .at 2] [Qb (z + 1), Qb (z + 1)] (.tuple #[i6 ((whole3 c).e), .agg #[i6 ((whole3 c).where_.First), i6 ((whole3 c).where_.Second)]]) ⟨rfl, rfl, trivial⟩ ?_
                     intro w51 hw51
                     exact ⟨congrArg (fun t : Tfound => Ending.returned (.tuple #[i6 t.e, .agg #[i6 t.where_.First, i6 t.where_.Second]])) ((fst_at (xs := answers c) (k := k) (by rw [answers_len]; omega) hf (by rw [ha]; exact fun x => h50 (fine_eq.2 x))).trans ha).symm, back0 hw51⟩
                 · refine g_rowat (base := z) (e := 71) (sz := 1) (cells := (fun v : Value => [v])) (a := aR) (n := ((asks (z + 2) B1 B2 B3).length)) (cap := cR) (xs := (asks (z + 2) B1 B2 B3)) 4 (by omega) (fun b52 hg53 hb54 => ?_)
                   subst hg53
                   refine q_cS 5 1 [] [[(oi k), (oa [.via 4 (.func (.func 45) #[] #[pt (z + 2)])]), o0], [o0]] [((k : Int) : Int) = ((k : Nat) : Int), k < (asks (z + 2) B1 B2 B3).length, (none : Option Nat) = none, ∀ w', Ch.holds (qdvx_34 z b52 B1 B2 B3 cR) w' → w'.cell? ⟨b52, 0 + k, none⟩ = some (.func (.func 45) #[] #[pt (z + 2)])] [(qdvx_56 z), (qdvx_46 b52 z B1 B2 B3 cR), (qdvx_52 z B1 B2 B3), (10, i6 (k : Int)), (14, .func (.func 45) #[] #[pt (z + 2)])] rfl ⟨rfl, (by omega), rfl, rowL_cell (sz := 1) (j := k) (k := 0) (fun _ => rfl) (by omega) (congrArg some hv), trivial⟩ ?_
                   refine l_call [] [] 45 #[pt (z + 2)] (some 15) trivial ?_
                   intro w55 hw55
                   refine (q4_calls w55 (hL.ext (hw55.ext rfl)) c (hc.ext (hw55.ext rfl) (fun _ h => h)) (z + 2) (blk_cells hw55 (i := 3))).mono ?_
                   rintro e w56 ⟨rfl, hkw56⟩
                   have hnw56 : n29 ≤ w56.heap.size := size_of hw55 hkw56
                   refine ⟨_, _, rfl, hw55.keeps hkw56, ?_⟩
                   refine q_r 3 0 [] [[o0, (an 3 9)]] [Qb w56.heap.size, Qb w56.heap.size, Qb w56.heap.size] [(qdvx_56 z), (qdvx_46 b52 z B1 B2 B3 cR), (qdvx_52 z B1 B2 B3), (10, i6 (k : Int)), (6, pt w56.heap.size)] ⟨w, w56.heap.size + 1, [(old0 w), (qdvx_24 z c), (qdvx_22 z), (qdvx_23 z c), (qdvx_34 z b52 B1 B2 B3 cR), (caps 3 B1), (caps 3 B2), (caps 3 B3), (qdvx_12 n17 z), (qdvx_19 w56 c)]⟩ rfl ⟨rfl, rfl, rfl, trivial⟩ ?_
                   by_cases h57 : (((whole4 c).e : Int) == (0 : Int) && ((((whole4 c).where_.First : Int) == (0 : Int) && (((whole4 c).where_.Second : Int) == (0 : Int) && true)) && true)) = true
                   · refine q_cS 9 0 [0] [[(an 3 9), (oa [.via 0 (i6 0), .via 0 (i6 0), .via 0 (i6 0)]), ⟨.seq true, none⟩], [(ov (i6 ((k + 1 : Nat) : Int))), o0]] [Qb w56.heap.size, Qb w56.heap.size, Qb w56.heap.size, Old w 0 0 (i6 0), Old w 0 1 (i6 0), Old w 0 2 (i6 0), (((whole4 c).e : Int) == (0 : Int) && ((((whole4 c).where_.First : Int) == (0 : Int) && (((whole4 c).where_.Second : Int) == (0 : Int) && true)) && true)) = true, Wr (((k : Int) : Int) + 1) (((k + 1 : Nat) : Int))] [(qdvx_56 z), (qdvx_46 b52 z B1 B2 B3 cR), (qdvx_52 z B1 B2 B3), (qdvx_58 k)] rfl ⟨rfl, rfl, rfl, old_cell' (hL.2 0 _ rfl), old_cell' (hL.2 1 _ rfl), old_cell' (hL.2 2 _ rfl), h57, wrI, trivial⟩ ?_
                     refine e_pick [0, 1, 2, 3, 4, 5, 6, 7, 8] [(old0 w), (qdvx_24 z c), (qdvx_22 z), (qdvx_23 z c), (qdvx_34 z b52 B1 B2 B3 cR), (caps 3 B1), (caps 3 B2), (caps 3 B3), (qdvx_12 n17 z)] rfl rfl ?_
                     refine e_keep [3, 8, 9, 10] [(qdvx_56 z), (qdvx_46 b52 z B1 B2 B3 cR), (qdvx_52 z B1 B2 B3), (qdvx_58 k)] ?_
                     refine e_inv (fun a w' hs => ⟨(asks (z + 2) B1 B2 B3).length - (k + 1), by omega, (w56.heap.size + 1), (k + 1), (some ⟨b52, 0, none⟩), cR, rfl, by omega, by omega, upto_ hf (by rw [ha]; exact fine_eq.1 h57), hs⟩)
                   · refine q_cS 5 0 [1] [[(an 3 9), (oa [.via 0 (i6 0), .via 0 (i6 0), .via 0 (i6 0)]), ⟨.seq false, none⟩]] [Qb w56.heap.size, Qb w56.heap.size, Qb w56.heap.size, Old w 0 0 (i6 0), Old w 0 1 (i6 0), Old w 0 2 (i6 0), (((whole4 c).e : Int) == (0 : Int) && ((((whole4 c).where_.First : Int) == (0 : Int) && (((whole4 c).where_.Second : Int) == (0 : Int) && true)) && true)) = false] [(qdvx_56 z), (qdvx_46 b52 z B1 B2 B3 cR), (qdvx_52 z B1 B2 B3), (10, i6 (k : Int)), (6, pt w56.heap.size), (18, .bool true)] rfl ⟨rfl, rfl, rfl, old_cell' (hL.2 0 _ rfl), old_cell' (hL.2 1 _ rfl), old_cell' (hL.2 2 _ rfl), (Bool.eq_false_iff.2 h57), trivial⟩ ?_
                     refine g_draw 5 [0, 1, 2, 3, 4, 5, 6, 7, 8, 9] [(old0 w), (qdvx_24 z c), (qdvx_22 z), (qdvx_23 z c), (qdvx_34 z b52 B1 B2 B3 cR), (caps 3 B1), (caps 3 B2), (caps 3 B3), (qdvx_12 n17 z), (qdvx_19 w56 c)] rfl rfl ?_
                     refine w_take [(0, o0), (1, (a1 9)), (2, o0), (3, (an 2 9)), (4, o0)] [3, 22, 2] [Qb w56.heap.size, Qb w56.heap.size, Qb w56.heap.size] [true, true, true, true, true, false] [(qdvx_56 z), (22, .agg #[i6 ((whole4 c).where_.First), i6 ((whole4 c).where_.Second)]), (2, i6 ((whole4 c).e))] rfl (by as_aux_lemma => kernel_rfl) (by as_aux_lemma => kernel_rfl) ⟨rfl, rfl, rfl, trivial⟩ ?_
                     refine w_one 5 (by as_aux_lemma => kernel_rfl) rfl ?_
                     refine wo_eff (an 2 2) [3, 2] [Qb (z + 1), Qb (z + 1)] [(qdvx_56 z), (2, i6 ((whole4 c).e))] ⟨w, w56.heap.size + 1, [(old0 w), (qdvx_24 z c), (qdvx_9 z c), (qdvx_23 z c), (qdvx_34 z b52 B1 B2 B3 cR), (caps 3 B1), (caps 3 B2), (caps 3 B3), (qdvx_12 n17 z), (qdvx_19 w56 c)]⟩ [] (by as_aux_lemma => kernel_rfl) rfl ⟨rfl, rfl, trivial⟩ (.inl rfl) ?_
                     refine w_free 6 [0, 1, 2, 3, 4, 5, 6, 7, 8, 9] [(old0 w), (qdvx_24 z c), (qdvx_9 z c), (qdvx_23 z c), (qdvx_34 z b52 B1 B2 B3 cR), (caps 3 B1), (caps 3 B2), (caps 3 B3), (qdvx_12 n17 z), (qdvx_19 w56 c)] rfl rfl ?_
                     refine w_done (by as_aux_lemma => kernel_rfl) ?_
                     refine e_keep [3, 2] [(qdvx_56 z), (2, i6 ((whole4 c).e))] ?_
                     refine e_seq <| g_ret <| e_ret [.at 2, .at 2] [Qb (z + 1), Qb (z + 1)] (.tuple #[i6 ((whole4 c).e), .agg #[i6 ((whole4 c).where_.First), i6 ((whole4 c).where_.Second)]]) ⟨rfl, rfl, trivial⟩ ?_
                     intro w58 hw58
                     exact ⟨congrArg (fun t : Tfound => Ending.returned (.tuple #[i6 t.e, .agg #[i6 t.where_.First, i6 t.where_.Second]])) ((fst_at (xs := answers c) (k := k) (by rw [answers_len]; omega) hf (by rw [ha]; exact fun x => h57 (fine_eq.2 x))).trans ha).symm, back0 hw58⟩
                 · refine g_rowat (base := z) (e := 71) (sz := 1) (cells := (fun v : Value => [v])) (a := aR) (n := ((asks (z + 2) B1 B2 B3).length)) (cap := cR) (xs := (asks (z + 2) B1 B2 B3)) 4 (by omega) (fun b59 hg60 hb61 => ?_)
                   subst hg60
                   refine q_cS 5 1 [] [[(oi k), (oa [.via 4 (.func (.func 46) #[] #[pt (z + 2)])]), o0], [o0]] [((k : Int) : Int) = ((k : Nat) : Int), k < (asks (z + 2) B1 B2 B3).length, (none : Option Nat) = none, ∀ w', Ch.holds (qdvx_35 z b59 B1 B2 B3 cR) w' → w'.cell? ⟨b59, 0 + k, none⟩ = some (.func (.func 46) #[] #[pt (z + 2)])] [(qdvx_56 z), (qdvx_47 b59 z B1 B2 B3 cR), (qdvx_52 z B1 B2 B3), (10, i6 (k : Int)), (14, .func (.func 46) #[] #[pt (z + 2)])] rfl ⟨rfl, (by omega), rfl, rowL_cell (sz := 1) (j := k) (k := 0) (fun _ => rfl) (by omega) (congrArg some hv), trivial⟩ ?_
                   refine l_call [] [] 46 #[pt (z + 2)] (some 15) trivial ?_
                   intro w62 hw62
                   refine (q5_calls w62 (hL.ext (hw62.ext rfl)) c (hc.ext (hw62.ext rfl) (fun _ h => h)) (z + 2) (blk_cells hw62 (i := 3))).mono ?_
                   rintro e w63 ⟨rfl, hkw63⟩
                   have hnw63 : n29 ≤ w63.heap.size := size_of hw62 hkw63
                   refine ⟨_, _, rfl, hw62.keeps hkw63, ?_⟩
                   refine q_r 3 0 [] [[o0, (an 3 9)]] [Qb w63.heap.size, Qb w63.heap.size, Qb w63.heap.size] [(qdvx_56 z), (qdvx_47 b59 z B1 B2 B3 cR), (qdvx_52 z B1 B2 B3), (10, i6 (k : Int)), (6, pt w63.heap.size)] ⟨w, w63.heap.size + 1, [(old0 w), (qdvx_24 z c), (qdvx_22 z), (qdvx_23 z c), (qdvx_35 z b59 B1 B2 B3 cR), (caps 3 B1), (caps 3 B2), (caps 3 B3), (qdvx_12 n17 z), (qdvx_20 w63 c)]⟩ rfl ⟨rfl, rfl, rfl, trivial⟩ ?_
                   by_cases h64 : (((whole5 c).e : Int) == (0 : Int) && ((((whole5 c).where_.First : Int) == (0 : Int) && (((whole5 c).where_.Second : Int) == (0 : Int) && true)) && true)) = true
                   · refine q_cS 9 0 [0] [[(an 3 9), (oa [.via 0 (i6 0), .via 0 (i6 0), .via 0 (i6 0)]), ⟨.seq true, none⟩], [(ov (i6 ((k + 1 : Nat) : Int))), o0]] [Qb w63.heap.size, Qb w63.heap.size, Qb w63.heap.size, Old w 0 0 (i6 0), Old w 0 1 (i6 0), Old w 0 2 (i6 0), (((whole5 c).e : Int) == (0 : Int) && ((((whole5 c).where_.First : Int) == (0 : Int) && (((whole5 c).where_.Second : Int) == (0 : Int) && true)) && true)) = true, Wr (((k : Int) : Int) + 1) (((k + 1 : Nat) : Int))] [(qdvx_56 z), (qdvx_47 b59 z B1 B2 B3 cR), (qdvx_52 z B1 B2 B3), (qdvx_58 k)] rfl ⟨rfl, rfl, rfl, old_cell' (hL.2 0 _ rfl), old_cell' (hL.2 1 _ rfl), old_cell' (hL.2 2 _ rfl), h64, wrI, trivial⟩ ?_
                     refine e_pick [0, 1, 2, 3, 4, 5, 6, 7, 8] [(old0 w), (qdvx_24 z c), (qdvx_22 z), (qdvx_23 z c), (qdvx_35 z b59 B1 B2 B3 cR), (caps 3 B1), (caps 3 B2), (caps 3 B3), (qdvx_12 n17 z)] rfl rfl ?_
                     refine e_keep [3, 8, 9, 10] [(qdvx_56 z), (qdvx_47 b59 z B1 B2 B3 cR), (qdvx_52 z B1 B2 B3), (qdvx_58 k)] ?_
                     refine e_inv (fun a w' hs => ⟨(asks (z + 2) B1 B2 B3).length - (k + 1), by omega, (w63.heap.size + 1), (k + 1), (some ⟨b59, 0, none⟩), cR, rfl, by omega, by omega, upto_ hf (by rw [ha]; exact fine_eq.1 h64), hs⟩)
                   · refine q_cS 5 0 [1] [[(an 3 9), (oa [.via 0 (i6 0), .via 0 (i6 0), .via 0 (i6 0)]), ⟨.seq false, none⟩]] [Qb w63.heap.size, Qb w63.heap.size, Qb w63.heap.size, Old w 0 0 (i6 0), Old w 0 1 (i6 0), Old w 0 2 (i6 0), (((whole5 c).e : Int) == (0 : Int) && ((((whole5 c).where_.First : Int) == (0 : Int) && (((whole5 c).where_.Second : Int) == (0 : Int) && true)) && true)) = false] [(qdvx_56 z), (qdvx_47 b59 z B1 B2 B3 cR), (qdvx_52 z B1 B2 B3), (10, i6 (k : Int)), (6, pt w63.heap.size), (18, .bool true)] rfl ⟨rfl, rfl, rfl, old_cell' (hL.2 0 _ rfl), old_cell' (hL.2 1 _ rfl), old_cell' (hL.2 2 _ rfl), (Bool.eq_false_iff.2 h64), trivial⟩ ?_
                     refine g_draw 5 [0, 1, 2, 3, 4, 5, 6, 7, 8, 9] [(old0 w), (qdvx_24 z c), (qdvx_22 z), (qdvx_23 z c), (qdvx_35 z b59 B1 B2 B3 cR), (caps 3 B1), (caps 3 B2), (caps 3 B3), (qdvx_12 n17 z), (qdvx_20 w63 c)] rfl rfl ?_
                     refine w_take [(0, o0), (1, (a1 9)), (2, o0), (3, (an 2 9)), (4, o0)] [3, 22, 2] [Qb w63.heap.size, Qb w63.heap.size, Qb w63.heap.size] [true, true, true, true, true, false] [(qdvx_56 z), (22, .agg #[i6 ((whole5 c).where_.First), i6 ((whole5 c).where_.Second)]), (2, i6 ((whole5 c).e))] rfl (by as_aux_lemma => kernel_rfl) (by as_aux_lemma => kernel_rfl) ⟨rfl, rfl, rfl, trivial⟩ ?_
                     refine w_one 5 (by as_aux_lemma => kernel_rfl) rfl ?_
                     refine wo_eff (an 2 2) [3, 2] [Qb (z + 1), Qb (z + 1)] [(qdvx_56 z), (2, i6 ((whole5 c).e))] ⟨w, w63.heap.size + 1, [(old0 w), (qdvx_24 z c), (qdvx_10 z c), (qdvx_23 z c), (qdvx_35 z b59 B1 B2 B3 cR), (caps 3 B1), (caps 3 B2), (caps 3 B3), (qdvx_12 n17 z), (qdvx_20 w63 c)]⟩ [] (by as_aux_lemma => kernel_rfl) rfl ⟨rfl, rfl, trivial⟩ (.inl rfl) ?_
                     refine w_free 6 [0, 1, 2, 3, 4, 5, 6, 7, 8, 9] [(old0 w), (qdvx_24 z c), (qdvx_10 z c), (qdvx_23 z c), (qdvx_35 z b59 B1 B2 B3 cR), (caps 3 B1), (caps 3 B2), (caps 3 B3), (qdvx_12 n17 z), (qdvx_20 w63 c)] rfl rfl ?_
                     refine w_done (by as_aux_lemma => kernel_rfl) ?_
                     refine e_keep [3, 2] [(qdvx_56 z), (2, i6 ((whole5 c).e))] ?_
                     refine e_seq <| g_ret <| e_ret [.at 2, .at 2] [Qb (z + 1), Qb (z + 1)] (.tuple #[i6 ((whole5 c).e), .agg #[i6 ((whole5 c).where_.First), i6 ((whole5 c).where_.Second)]]) ⟨rfl, rfl, trivial⟩ ?_
                     intro w65 hw65
                     exact ⟨congrArg (fun t : Tfound => Ending.returned (.tuple #[i6 t.e, .agg #[i6 t.where_.First, i6 t.where_.Second]])) ((fst_at (xs := answers c) (k := k) (by rw [answers_len]; omega) hf (by rw [ha]; exact fun x => h64 (fine_eq.2 x))).trans ha).symm, back0 hw65⟩
                 · have hFr := frames_of hf (by omega)
                   have hpf : ∀ q, q < p → partQ c q = fineF := fun q hq => part_of hf (by omega) (by omega)
                   refine g_rowat (base := z) (e := 71) (sz := 1) (cells := (fun v : Value => [v])) (a := aR) (n := ((asks (z + 2) B1 B2 B3).length)) (cap := cR) (xs := (asks (z + 2) B1 B2 B3)) 4 (by omega) (fun b66 hg67 hb68 => ?_)
                   subst hg67
                   refine q_cS 5 1 [] [[(oi k), (oa [.via 4 (.func (.func 47) #[] #[pt (z + 2), pt b])]), o0], [o0]] [((k : Int) : Int) = ((k : Nat) : Int), k < (asks (z + 2) B1 B2 B3).length, (none : Option Nat) = none, ∀ w', Ch.holds (qdvx_36 z b66 B1 B2 B3 cR) w' → w'.cell? ⟨b66, 0 + k, none⟩ = some (.func (.func 47) #[] #[pt (z + 2), pt b])] [(qdvx_56 z), (qdvx_48 b66 z B1 B2 B3 cR), (qdvx_52 z B1 B2 B3), (10, i6 (k : Int)), (14, .func (.func 47) #[] #[pt (z + 2), pt b])] rfl ⟨rfl, (by omega), rfl, rowL_cell (sz := 1) (j := k) (k := 0) (fun _ => rfl) (by omega) (congrArg some hv), trivial⟩ ?_
                   refine l_call [] [] 47 #[pt (z + 2), pt b] (some 15) trivial ?_
                   intro w69 hw69
                   refine (q6_calls w69 (hL.ext (hw69.ext rfl)) c (hc.ext (hw69.ext rfl) (fun _ h => h)) (z + 2) (blk_cells hw69 (i := 3)) b p (caps_cells hw69 hb (i := 5)) hp hFr hpf).mono ?_
                   rintro e w70 ⟨rfl, hkw70⟩
                   have hnw70 : n29 ≤ w70.heap.size := size_of hw69 hkw70
                   refine ⟨_, _, rfl, hw69.keeps hkw70, ?_⟩
                   refine q_r 3 0 [] [[o0, (an 3 9)]] [Qb w70.heap.size, Qb w70.heap.size, Qb w70.heap.size] [(qdvx_56 z), (qdvx_48 b66 z B1 B2 B3 cR), (qdvx_52 z B1 B2 B3), (10, i6 (k : Int)), (6, pt w70.heap.size)] ⟨w, w70.heap.size + 1, [(old0 w), (qdvx_24 z c), (qdvx_22 z), (qdvx_23 z c), (qdvx_36 z b66 B1 B2 B3 cR), (caps 3 B1), (caps 3 B2), (caps 3 B3), (qdvx_12 n17 z), (qdvx_13 w70 c p)]⟩ rfl ⟨rfl, rfl, rfl, trivial⟩ ?_
                   by_cases h71 : (((partQ c p).e : Int) == (0 : Int) && ((((partQ c p).where_.First : Int) == (0 : Int) && (((partQ c p).where_.Second : Int) == (0 : Int) && true)) && true)) = true
                   · refine q_cS 9 0 [0] [[(an 3 9), (oa [.via 0 (i6 0), .via 0 (i6 0), .via 0 (i6 0)]), ⟨.seq true, none⟩], [(ov (i6 ((k + 1 : Nat) : Int))), o0]] [Qb w70.heap.size, Qb w70.heap.size, Qb w70.heap.size, Old w 0 0 (i6 0), Old w 0 1 (i6 0), Old w 0 2 (i6 0), (((partQ c p).e : Int) == (0 : Int) && ((((partQ c p).where_.First : Int) == (0 : Int) && (((partQ c p).where_.Second : Int) == (0 : Int) && true)) && true)) = true, Wr (((k : Int) : Int) + 1) (((k + 1 : Nat) : Int))] [(qdvx_56 z), (qdvx_48 b66 z B1 B2 B3 cR), (qdvx_52 z B1 B2 B3), (qdvx_58 k)] rfl ⟨rfl, rfl, rfl, old_cell' (hL.2 0 _ rfl), old_cell' (hL.2 1 _ rfl), old_cell' (hL.2 2 _ rfl), h71, wrI, trivial⟩ ?_
                     refine e_pick [0, 1, 2, 3, 4, 5, 6, 7, 8] [(old0 w), (qdvx_24 z c), (qdvx_22 z), (qdvx_23 z c), (qdvx_36 z b66 B1 B2 B3 cR), (caps 3 B1), (caps 3 B2), (caps 3 B3), (qdvx_12 n17 z)] rfl rfl ?_
                     refine e_keep [3, 8, 9, 10] [(qdvx_56 z), (qdvx_48 b66 z B1 B2 B3 cR), (qdvx_52 z B1 B2 B3), (qdvx_58 k)] ?_
                     refine e_inv (fun a w' hs => ⟨(asks (z + 2) B1 B2 B3).length - (k + 1), by omega, (w70.heap.size + 1), (k + 1), (some ⟨b66, 0, none⟩), cR, rfl, by omega, by omega, upto_ hf (by rw [ha]; exact fine_eq.1 h71), hs⟩)
                   · refine q_cS 5 0 [1] [[(an 3 9), (oa [.via 0 (i6 0), .via 0 (i6 0), .via 0 (i6 0)]), ⟨.seq false, none⟩]] [Qb w70.heap.size, Qb w70.heap.size, Qb w70.heap.size, Old w 0 0 (i6 0), Old w 0 1 (i6 0), Old w 0 2 (i6 0), (((partQ c p).e : Int) == (0 : Int) && ((((partQ c p).where_.First : Int) == (0 : Int) && (((partQ c p).where_.Second : Int) == (0 : Int) && true)) && true)) = false] [(qdvx_56 z), (qdvx_48 b66 z B1 B2 B3 cR), (qdvx_52 z B1 B2 B3), (10, i6 (k : Int)), (6, pt w70.heap.size), (18, .bool true)] rfl ⟨rfl, rfl, rfl, old_cell' (hL.2 0 _ rfl), old_cell' (hL.2 1 _ rfl), old_cell' (hL.2 2 _ rfl), (Bool.eq_false_iff.2 h71), trivial⟩ ?_
                     refine g_draw 5 [0, 1, 2, 3, 4, 5, 6, 7, 8, 9] [(old0 w), (qdvx_24 z c), (qdvx_22 z), (qdvx_23 z c), (qdvx_36 z b66 B1 B2 B3 cR), (caps 3 B1), (caps 3 B2), (caps 3 B3), (qdvx_12 n17 z), (qdvx_13 w70 c p)] rfl rfl ?_
                     refine w_take [(0, o0), (1, (a1 9)), (2, o0), (3, (an 2 9)), (4, o0)] [3, 22, 2] [Qb w70.heap.size, Qb w70.heap.size, Qb w70.heap.size] [true, true, true, true, true, false] [(qdvx_56 z), (22, .agg #[i6 ((partQ c p).where_.First), i6 ((partQ c p).where_.Second)]), (2, i6 ((partQ c p).e))] rfl (by as_aux_lemma => kernel_rfl) (by as_aux_lemma => kernel_rfl) ⟨rfl, rfl, rfl, trivial⟩ ?_
                     refine w_one 5 (by as_aux_lemma => kernel_rfl) rfl ?_
                     refine wo_eff (an 2 2) [3, 2] [Qb (z + 1), Qb (z + 1)] [(qdvx_56 z), (2, i6 ((partQ c p).e))] ⟨w, w70.heap.size + 1, [(old0 w), (qdvx_24 z c), (qdvx_3 z c p), (qdvx_23 z c), (qdvx_36 z b66 B1 B2 B3 cR), (caps 3 B1), (caps 3 B2), (caps 3 B3), (qdvx_12 n17 z), (qdvx_13 w70 c p)]⟩ [] (by as_aux_lemma => kernel_rfl) rfl ⟨rfl, rfl, trivial⟩ (.inl rfl) ?_
                     refine w_free 6 [0, 1, 2, 3, 4, 5, 6, 7, 8, 9] [(old0 w), (qdvx_24 z c), (qdvx_3 z c p), (qdvx_23 z c), (qdvx_36 z b66 B1 B2 B3 cR), (caps 3 B1), (caps 3 B2), (caps 3 B3), (qdvx_12 n17 z), (qdvx_13 w70 c p)] rfl rfl ?_
                     refine w_done (by as_aux_lemma => kernel_rfl) ?_
                     refine e_keep [3, 2] [(qdvx_56 z), (2, i6 ((partQ c p).e))] ?_
                     refine e_seq <| g_ret <| e_ret [.at 2, .at 2] [Qb (z + 1), Qb (z + 1)] (.tuple #[i6 ((partQ c p).e), .agg #[i6 ((partQ c p).where_.First), i6 ((partQ c p).where_.Second)]]) ⟨rfl, rfl, trivial⟩ ?_
                     intro w72 hw72
                     exact ⟨congrArg (fun t : Tfound => Ending.returned (.tuple #[i6 t.e, .agg #[i6 t.where_.First, i6 t.where_.Second]])) ((fst_at (xs := answers c) (k := k) (by rw [answers_len]; omega) hf (by rw [ha]; exact fun x => h71 (fine_eq.2 x))).trans ha).symm, back0 hw72⟩
                 · have hm := parts_of hf (by omega); have hq := ports_of hf (by omega)
                   refine g_rowat (base := z) (e := 71) (sz := 1) (cells := (fun v : Value => [v])) (a := aR) (n := ((asks (z + 2) B1 B2 B3).length)) (cap := cR) (xs := (asks (z + 2) B1 B2 B3)) 4 (by omega) (fun b73 hg74 hb75 => ?_)
                   subst hg74
                   refine q_cS 5 1 [] [[(oi k), (oa [.via 4 (.func (.func 49) #[] #[pt (z + 2), pt b])]), o0], [o0]] [((k : Int) : Int) = ((k : Nat) : Int), k < (asks (z + 2) B1 B2 B3).length, (none : Option Nat) = none, ∀ w', Ch.holds (qdvx_37 z b73 B1 B2 B3 cR) w' → w'.cell? ⟨b73, 0 + k, none⟩ = some (.func (.func 49) #[] #[pt (z + 2), pt b])] [(qdvx_56 z), (qdvx_49 b73 z B1 B2 B3 cR), (qdvx_52 z B1 B2 B3), (10, i6 (k : Int)), (14, .func (.func 49) #[] #[pt (z + 2), pt b])] rfl ⟨rfl, (by omega), rfl, rowL_cell (sz := 1) (j := k) (k := 0) (fun _ => rfl) (by omega) (congrArg some hv), trivial⟩ ?_
                   refine l_call [] [] 49 #[pt (z + 2), pt b] (some 15) trivial ?_
                   intro w76 hw76
                   refine (q7_calls w76 (hL.ext (hw76.ext rfl)) c (hc.ext (hw76.ext rfl) (fun _ h => h)) (z + 2) (blk_cells hw76 (i := 3)) b p (caps_cells hw76 hb (i := 6)) hp hm hq).mono ?_
                   rintro e w77 ⟨rfl, hkw77⟩
                   have hnw77 : n29 ≤ w77.heap.size := size_of hw76 hkw77
                   refine ⟨_, _, rfl, hw76.keeps hkw77, ?_⟩
                   refine q_r 3 0 [] [[o0, (an 3 9)]] [Qb w77.heap.size, Qb w77.heap.size, Qb w77.heap.size] [(qdvx_56 z), (qdvx_49 b73 z B1 B2 B3 cR), (qdvx_52 z B1 B2 B3), (10, i6 (k : Int)), (6, pt w77.heap.size)] ⟨w, w77.heap.size + 1, [(old0 w), (qdvx_24 z c), (qdvx_22 z), (qdvx_23 z c), (qdvx_37 z b73 B1 B2 B3 cR), (caps 3 B1), (caps 3 B2), (caps 3 B3), (qdvx_12 n17 z), (qdvx_14 w77 c p)]⟩ rfl ⟨rfl, rfl, rfl, trivial⟩ ?_
                   by_cases h78 : (((chanQ c p).e : Int) == (0 : Int) && ((((chanQ c p).where_.First : Int) == (0 : Int) && (((chanQ c p).where_.Second : Int) == (0 : Int) && true)) && true)) = true
                   · refine q_cS 9 0 [0] [[(an 3 9), (oa [.via 0 (i6 0), .via 0 (i6 0), .via 0 (i6 0)]), ⟨.seq true, none⟩], [(ov (i6 ((k + 1 : Nat) : Int))), o0]] [Qb w77.heap.size, Qb w77.heap.size, Qb w77.heap.size, Old w 0 0 (i6 0), Old w 0 1 (i6 0), Old w 0 2 (i6 0), (((chanQ c p).e : Int) == (0 : Int) && ((((chanQ c p).where_.First : Int) == (0 : Int) && (((chanQ c p).where_.Second : Int) == (0 : Int) && true)) && true)) = true, Wr (((k : Int) : Int) + 1) (((k + 1 : Nat) : Int))] [(qdvx_56 z), (qdvx_49 b73 z B1 B2 B3 cR), (qdvx_52 z B1 B2 B3), (qdvx_58 k)] rfl ⟨rfl, rfl, rfl, old_cell' (hL.2 0 _ rfl), old_cell' (hL.2 1 _ rfl), old_cell' (hL.2 2 _ rfl), h78, wrI, trivial⟩ ?_
                     refine e_pick [0, 1, 2, 3, 4, 5, 6, 7, 8] [(old0 w), (qdvx_24 z c), (qdvx_22 z), (qdvx_23 z c), (qdvx_37 z b73 B1 B2 B3 cR), (caps 3 B1), (caps 3 B2), (caps 3 B3), (qdvx_12 n17 z)] rfl rfl ?_
                     refine e_keep [3, 8, 9, 10] [(qdvx_56 z), (qdvx_49 b73 z B1 B2 B3 cR), (qdvx_52 z B1 B2 B3), (qdvx_58 k)] ?_
                     refine e_inv (fun a w' hs => ⟨(asks (z + 2) B1 B2 B3).length - (k + 1), by omega, (w77.heap.size + 1), (k + 1), (some ⟨b73, 0, none⟩), cR, rfl, by omega, by omega, upto_ hf (by rw [ha]; exact fine_eq.1 h78), hs⟩)
                   · refine q_cS 5 0 [1] [[(an 3 9), (oa [.via 0 (i6 0), .via 0 (i6 0), .via 0 (i6 0)]), ⟨.seq false, none⟩]] [Qb w77.heap.size, Qb w77.heap.size, Qb w77.heap.size, Old w 0 0 (i6 0), Old w 0 1 (i6 0), Old w 0 2 (i6 0), (((chanQ c p).e : Int) == (0 : Int) && ((((chanQ c p).where_.First : Int) == (0 : Int) && (((chanQ c p).where_.Second : Int) == (0 : Int) && true)) && true)) = false] [(qdvx_56 z), (qdvx_49 b73 z B1 B2 B3 cR), (qdvx_52 z B1 B2 B3), (10, i6 (k : Int)), (6, pt w77.heap.size), (18, .bool true)] rfl ⟨rfl, rfl, rfl, old_cell' (hL.2 0 _ rfl), old_cell' (hL.2 1 _ rfl), old_cell' (hL.2 2 _ rfl), (Bool.eq_false_iff.2 h78), trivial⟩ ?_
                     refine g_draw 5 [0, 1, 2, 3, 4, 5, 6, 7, 8, 9] [(old0 w), (qdvx_24 z c), (qdvx_22 z), (qdvx_23 z c), (qdvx_37 z b73 B1 B2 B3 cR), (caps 3 B1), (caps 3 B2), (caps 3 B3), (qdvx_12 n17 z), (qdvx_14 w77 c p)] rfl rfl ?_
                     refine w_take [(0, o0), (1, (a1 9)), (2, o0), (3, (an 2 9)), (4, o0)] [3, 22, 2] [Qb w77.heap.size, Qb w77.heap.size, Qb w77.heap.size] [true, true, true, true, true, false] [(qdvx_56 z), (22, .agg #[i6 ((chanQ c p).where_.First), i6 ((chanQ c p).where_.Second)]), (2, i6 ((chanQ c p).e))] rfl (by as_aux_lemma => kernel_rfl) (by as_aux_lemma => kernel_rfl) ⟨rfl, rfl, rfl, trivial⟩ ?_
                     refine w_one 5 (by as_aux_lemma => kernel_rfl) rfl ?_
                     refine wo_eff (an 2 2) [3, 2] [Qb (z + 1), Qb (z + 1)] [(qdvx_56 z), (2, i6 ((chanQ c p).e))] ⟨w, w77.heap.size + 1, [(old0 w), (qdvx_24 z c), (qdvx_4 z c p), (qdvx_23 z c), (qdvx_37 z b73 B1 B2 B3 cR), (caps 3 B1), (caps 3 B2), (caps 3 B3), (qdvx_12 n17 z), (qdvx_14 w77 c p)]⟩ [] (by as_aux_lemma => kernel_rfl) rfl ⟨rfl, rfl, trivial⟩ (.inl rfl) ?_
                     refine w_free 6 [0, 1, 2, 3, 4, 5, 6, 7, 8, 9] [(old0 w), (qdvx_24 z c), (qdvx_4 z c p), (qdvx_23 z c), (qdvx_37 z b73 B1 B2 B3 cR), (caps 3 B1), (caps 3 B2), (caps 3 B3), (qdvx_12 n17 z), (qdvx_14 w77 c p)] rfl rfl ?_
                     refine w_done (by as_aux_lemma => kernel_rfl) ?_
                     refine e_keep [3, 2] [(qdvx_56 z), (2, i6 ((chanQ c p).e))] ?_
                     refine e_seq <| g_ret <| e_ret [.at 2, .at 2] [Qb (z + 1), Qb (z + 1)] (.tuple #[i6 ((chanQ c p).e), .agg #[i6 ((chanQ c p).where_.First), i6 ((chanQ c p).where_.Second)]]) ⟨rfl, rfl, trivial⟩ ?_
                     intro w79 hw79
                     exact ⟨congrArg (fun t : Tfound => Ending.returned (.tuple #[i6 t.e, .agg #[i6 t.where_.First, i6 t.where_.Second]])) ((fst_at (xs := answers c) (k := k) (by rw [answers_len]; omega) hf (by rw [ha]; exact fun x => h78 (fine_eq.2 x))).trans ha).symm, back0 hw79⟩
                 · refine g_rowat (base := z) (e := 71) (sz := 1) (cells := (fun v : Value => [v])) (a := aR) (n := ((asks (z + 2) B1 B2 B3).length)) (cap := cR) (xs := (asks (z + 2) B1 B2 B3)) 4 (by omega) (fun b80 hg81 hb82 => ?_)
                   subst hg81
                   refine q_cS 5 1 [] [[(oi k), (oa [.via 4 (.func (.func 51) #[] #[pt (z + 2), pt b])]), o0], [o0]] [((k : Int) : Int) = ((k : Nat) : Int), k < (asks (z + 2) B1 B2 B3).length, (none : Option Nat) = none, ∀ w', Ch.holds (qdvx_38 z b80 B1 B2 B3 cR) w' → w'.cell? ⟨b80, 0 + k, none⟩ = some (.func (.func 51) #[] #[pt (z + 2), pt b])] [(qdvx_56 z), (qdvx_50 b80 z B1 B2 B3 cR), (qdvx_52 z B1 B2 B3), (10, i6 (k : Int)), (14, .func (.func 51) #[] #[pt (z + 2), pt b])] rfl ⟨rfl, (by omega), rfl, rowL_cell (sz := 1) (j := k) (k := 0) (fun _ => rfl) (by omega) (congrArg some hv), trivial⟩ ?_
                   refine l_call [] [] 51 #[pt (z + 2), pt b] (some 15) trivial ?_
                   intro w83 hw83
                   refine (q8_calls w83 (hL.ext (hw83.ext rfl)) c (hc.ext (hw83.ext rfl) (fun _ h => h)) (z + 2) (blk_cells hw83 (i := 3)) b p (caps_cells hw83 hb (i := 7)) hp).mono ?_
                   rintro e w84 ⟨rfl, hkw84⟩
                   have hnw84 : n29 ≤ w84.heap.size := size_of hw83 hkw84
                   refine ⟨_, _, rfl, hw83.keeps hkw84, ?_⟩
                   refine q_r 3 0 [] [[o0, (an 3 9)]] [Qb w84.heap.size, Qb w84.heap.size, Qb w84.heap.size] [(qdvx_56 z), (qdvx_50 b80 z B1 B2 B3 cR), (qdvx_52 z B1 B2 B3), (10, i6 (k : Int)), (6, pt w84.heap.size)] ⟨w, w84.heap.size + 1, [(old0 w), (qdvx_24 z c), (qdvx_22 z), (qdvx_23 z c), (qdvx_38 z b80 B1 B2 B3 cR), (caps 3 B1), (caps 3 B2), (caps 3 B3), (qdvx_12 n17 z), (qdvx_15 w84 c p)]⟩ rfl ⟨rfl, rfl, rfl, trivial⟩ ?_
                   by_cases h85 : (((coreQ c p).e : Int) == (0 : Int) && ((((coreQ c p).where_.First : Int) == (0 : Int) && (((coreQ c p).where_.Second : Int) == (0 : Int) && true)) && true)) = true
                   · refine q_cS 9 0 [0] [[(an 3 9), (oa [.via 0 (i6 0), .via 0 (i6 0), .via 0 (i6 0)]), ⟨.seq true, none⟩], [(ov (i6 ((k + 1 : Nat) : Int))), o0]] [Qb w84.heap.size, Qb w84.heap.size, Qb w84.heap.size, Old w 0 0 (i6 0), Old w 0 1 (i6 0), Old w 0 2 (i6 0), (((coreQ c p).e : Int) == (0 : Int) && ((((coreQ c p).where_.First : Int) == (0 : Int) && (((coreQ c p).where_.Second : Int) == (0 : Int) && true)) && true)) = true, Wr (((k : Int) : Int) + 1) (((k + 1 : Nat) : Int))] [(qdvx_56 z), (qdvx_50 b80 z B1 B2 B3 cR), (qdvx_52 z B1 B2 B3), (qdvx_58 k)] rfl ⟨rfl, rfl, rfl, old_cell' (hL.2 0 _ rfl), old_cell' (hL.2 1 _ rfl), old_cell' (hL.2 2 _ rfl), h85, wrI, trivial⟩ ?_
                     refine e_pick [0, 1, 2, 3, 4, 5, 6, 7, 8] [(old0 w), (qdvx_24 z c), (qdvx_22 z), (qdvx_23 z c), (qdvx_38 z b80 B1 B2 B3 cR), (caps 3 B1), (caps 3 B2), (caps 3 B3), (qdvx_12 n17 z)] rfl rfl ?_
                     refine e_keep [3, 8, 9, 10] [(qdvx_56 z), (qdvx_50 b80 z B1 B2 B3 cR), (qdvx_52 z B1 B2 B3), (qdvx_58 k)] ?_
                     refine e_inv (fun a w' hs => ⟨(asks (z + 2) B1 B2 B3).length - (k + 1), by omega, (w84.heap.size + 1), (k + 1), (some ⟨b80, 0, none⟩), cR, rfl, by omega, by omega, upto_ hf (by rw [ha]; exact fine_eq.1 h85), hs⟩)
                   · refine q_cS 5 0 [1] [[(an 3 9), (oa [.via 0 (i6 0), .via 0 (i6 0), .via 0 (i6 0)]), ⟨.seq false, none⟩]] [Qb w84.heap.size, Qb w84.heap.size, Qb w84.heap.size, Old w 0 0 (i6 0), Old w 0 1 (i6 0), Old w 0 2 (i6 0), (((coreQ c p).e : Int) == (0 : Int) && ((((coreQ c p).where_.First : Int) == (0 : Int) && (((coreQ c p).where_.Second : Int) == (0 : Int) && true)) && true)) = false] [(qdvx_56 z), (qdvx_50 b80 z B1 B2 B3 cR), (qdvx_52 z B1 B2 B3), (10, i6 (k : Int)), (6, pt w84.heap.size), (18, .bool true)] rfl ⟨rfl, rfl, rfl, old_cell' (hL.2 0 _ rfl), old_cell' (hL.2 1 _ rfl), old_cell' (hL.2 2 _ rfl), (Bool.eq_false_iff.2 h85), trivial⟩ ?_
                     refine g_draw 5 [0, 1, 2, 3, 4, 5, 6, 7, 8, 9] [(old0 w), (qdvx_24 z c), (qdvx_22 z), (qdvx_23 z c), (qdvx_38 z b80 B1 B2 B3 cR), (caps 3 B1), (caps 3 B2), (caps 3 B3), (qdvx_12 n17 z), (qdvx_15 w84 c p)] rfl rfl ?_
                     refine w_take [(0, o0), (1, (a1 9)), (2, o0), (3, (an 2 9)), (4, o0)] [3, 22, 2] [Qb w84.heap.size, Qb w84.heap.size, Qb w84.heap.size] [true, true, true, true, true, false] [(qdvx_56 z), (22, .agg #[i6 ((coreQ c p).where_.First), i6 ((coreQ c p).where_.Second)]), (2, i6 ((coreQ c p).e))] rfl (by as_aux_lemma => kernel_rfl) (by as_aux_lemma => kernel_rfl) ⟨rfl, rfl, rfl, trivial⟩ ?_
                     refine w_one 5 (by as_aux_lemma => kernel_rfl) rfl ?_
                     refine wo_eff (an 2 2) [3, 2] [Qb (z + 1), Qb (z + 1)] [(qdvx_56 z), (2, i6 ((coreQ c p).e))] ⟨w, w84.heap.size + 1, [(old0 w), (qdvx_24 z c), (qdvx_5 z c p), (qdvx_23 z c), (qdvx_38 z b80 B1 B2 B3 cR), (caps 3 B1), (caps 3 B2), (caps 3 B3), (qdvx_12 n17 z), (qdvx_15 w84 c p)]⟩ [] (by as_aux_lemma => kernel_rfl) rfl ⟨rfl, rfl, trivial⟩ (.inl rfl) ?_
                     refine w_free 6 [0, 1, 2, 3, 4, 5, 6, 7, 8, 9] [(old0 w), (qdvx_24 z c), (qdvx_5 z c p), (qdvx_23 z c), (qdvx_38 z b80 B1 B2 B3 cR), (caps 3 B1), (caps 3 B2), (caps 3 B3), (qdvx_12 n17 z), (qdvx_15 w84 c p)] rfl rfl ?_
                     refine w_done (by as_aux_lemma => kernel_rfl) ?_
                     refine e_keep [3, 2] [(qdvx_56 z), (2, i6 ((coreQ c p).e))] ?_
                     refine e_seq <| g_ret <| e_ret [.at 2, .at 2] [Qb (z + 1), Qb (z + 1)] (.tuple #[i6 ((coreQ c p).e), .agg #[i6 ((coreQ c p).where_.First), i6 ((coreQ c p).where_.Second)]]) ⟨rfl, rfl, trivial⟩ ?_
                     intro w86 hw86
                     exact ⟨congrArg (fun t : Tfound => Ending.returned (.tuple #[i6 t.e, .agg #[i6 t.where_.First, i6 t.where_.Second]])) ((fst_at (xs := answers c) (k := k) (by rw [answers_len]; omega) hf (by rw [ha]; exact fun x => h85 (fine_eq.2 x))).trans ha).symm, back0 hw86⟩
                 · have hFr := frames_of hf (by omega)
                   have hpf : ∀ q, q < c.Partitions.xs.length → partQ c q = fineF := fun q hq => part_of hf hq (by omega)
                   refine g_rowat (base := z) (e := 71) (sz := 1) (cells := (fun v : Value => [v])) (a := aR) (n := ((asks (z + 2) B1 B2 B3).length)) (cap := cR) (xs := (asks (z + 2) B1 B2 B3)) 4 (by omega) (fun b87 hg88 hb89 => ?_)
                   subst hg88
                   refine q_cS 5 1 [] [[(oi k), (oa [.via 4 (.func (.func 53) #[] #[pt (z + 2)])]), o0], [o0]] [((k : Int) : Int) = ((k : Nat) : Int), k < (asks (z + 2) B1 B2 B3).length, (none : Option Nat) = none, ∀ w', Ch.holds (qdvx_39 z b87 B1 B2 B3 cR) w' → w'.cell? ⟨b87, 0 + k, none⟩ = some (.func (.func 53) #[] #[pt (z + 2)])] [(qdvx_56 z), (qdvx_51 b87 z B1 B2 B3 cR), (qdvx_52 z B1 B2 B3), (10, i6 (k : Int)), (14, .func (.func 53) #[] #[pt (z + 2)])] rfl ⟨rfl, (by omega), rfl, rowL_cell (sz := 1) (j := k) (k := 0) (fun _ => rfl) (by omega) (congrArg some hv), trivial⟩ ?_
                   refine l_call [] [] 53 #[pt (z + 2)] (some 15) trivial ?_
                   intro w90 hw90
                   refine (q9_calls w90 (hL.ext (hw90.ext rfl)) c (hc.ext (hw90.ext rfl) (fun _ h => h)) (z + 2) (blk_cells hw90 (i := 3)) hFr hpf).mono ?_
                   rintro e w91 ⟨rfl, hkw91⟩
                   have hnw91 : n29 ≤ w91.heap.size := size_of hw90 hkw91
                   refine ⟨_, _, rfl, hw90.keeps hkw91, ?_⟩
                   refine q_r 3 0 [] [[o0, (an 3 9)]] [Qb w91.heap.size, Qb w91.heap.size, Qb w91.heap.size] [(qdvx_56 z), (qdvx_51 b87 z B1 B2 B3 cR), (qdvx_52 z B1 B2 B3), (10, i6 (k : Int)), (6, pt w91.heap.size)] ⟨w, w91.heap.size + 1, [(old0 w), (qdvx_24 z c), (qdvx_22 z), (qdvx_23 z c), (qdvx_39 z b87 B1 B2 B3 cR), (caps 3 B1), (caps 3 B2), (caps 3 B3), (qdvx_12 n17 z), (qdvx_21 w91 c)]⟩ rfl ⟨rfl, rfl, rfl, trivial⟩ ?_
                   by_cases h92 : (((kernQ c).e : Int) == (0 : Int) && ((((kernQ c).where_.First : Int) == (0 : Int) && (((kernQ c).where_.Second : Int) == (0 : Int) && true)) && true)) = true
                   · refine q_cS 9 0 [0] [[(an 3 9), (oa [.via 0 (i6 0), .via 0 (i6 0), .via 0 (i6 0)]), ⟨.seq true, none⟩], [(ov (i6 ((k + 1 : Nat) : Int))), o0]] [Qb w91.heap.size, Qb w91.heap.size, Qb w91.heap.size, Old w 0 0 (i6 0), Old w 0 1 (i6 0), Old w 0 2 (i6 0), (((kernQ c).e : Int) == (0 : Int) && ((((kernQ c).where_.First : Int) == (0 : Int) && (((kernQ c).where_.Second : Int) == (0 : Int) && true)) && true)) = true, Wr (((k : Int) : Int) + 1) (((k + 1 : Nat) : Int))] [(qdvx_56 z), (qdvx_51 b87 z B1 B2 B3 cR), (qdvx_52 z B1 B2 B3), (qdvx_58 k)] rfl ⟨rfl, rfl, rfl, old_cell' (hL.2 0 _ rfl), old_cell' (hL.2 1 _ rfl), old_cell' (hL.2 2 _ rfl), h92, wrI, trivial⟩ ?_
                     refine e_pick [0, 1, 2, 3, 4, 5, 6, 7, 8] [(old0 w), (qdvx_24 z c), (qdvx_22 z), (qdvx_23 z c), (qdvx_39 z b87 B1 B2 B3 cR), (caps 3 B1), (caps 3 B2), (caps 3 B3), (qdvx_12 n17 z)] rfl rfl ?_
                     refine e_keep [3, 8, 9, 10] [(qdvx_56 z), (qdvx_51 b87 z B1 B2 B3 cR), (qdvx_52 z B1 B2 B3), (qdvx_58 k)] ?_
                     refine e_inv (fun a w' hs => ⟨(asks (z + 2) B1 B2 B3).length - (k + 1), by omega, (w91.heap.size + 1), (k + 1), (some ⟨b87, 0, none⟩), cR, rfl, by omega, by omega, upto_ hf (by rw [ha]; exact fine_eq.1 h92), hs⟩)
                   · refine q_cS 5 0 [1] [[(an 3 9), (oa [.via 0 (i6 0), .via 0 (i6 0), .via 0 (i6 0)]), ⟨.seq false, none⟩]] [Qb w91.heap.size, Qb w91.heap.size, Qb w91.heap.size, Old w 0 0 (i6 0), Old w 0 1 (i6 0), Old w 0 2 (i6 0), (((kernQ c).e : Int) == (0 : Int) && ((((kernQ c).where_.First : Int) == (0 : Int) && (((kernQ c).where_.Second : Int) == (0 : Int) && true)) && true)) = false] [(qdvx_56 z), (qdvx_51 b87 z B1 B2 B3 cR), (qdvx_52 z B1 B2 B3), (10, i6 (k : Int)), (6, pt w91.heap.size), (18, .bool true)] rfl ⟨rfl, rfl, rfl, old_cell' (hL.2 0 _ rfl), old_cell' (hL.2 1 _ rfl), old_cell' (hL.2 2 _ rfl), (Bool.eq_false_iff.2 h92), trivial⟩ ?_
                     refine g_draw 5 [0, 1, 2, 3, 4, 5, 6, 7, 8, 9] [(old0 w), (qdvx_24 z c), (qdvx_22 z), (qdvx_23 z c), (qdvx_39 z b87 B1 B2 B3 cR), (caps 3 B1), (caps 3 B2), (caps 3 B3), (qdvx_12 n17 z), (qdvx_21 w91 c)] rfl rfl ?_
                     refine w_take [(0, o0), (1, (a1 9)), (2, o0), (3, (an 2 9)), (4, o0)] [3, 22, 2] [Qb w91.heap.size, Qb w91.heap.size, Qb w91.heap.size] [true, true, true, true, true, false] [(qdvx_56 z), (22, .agg #[i6 ((kernQ c).where_.First), i6 ((kernQ c).where_.Second)]), (2, i6 ((kernQ c).e))] rfl (by as_aux_lemma => kernel_rfl) (by as_aux_lemma => kernel_rfl) ⟨rfl, rfl, rfl, trivial⟩ ?_
                     refine w_one 5 (by as_aux_lemma => kernel_rfl) rfl ?_
                     refine wo_eff (an 2 2) [3, 2] [Qb (z + 1), Qb (z + 1)] [(qdvx_56 z), (2, i6 ((kernQ c).e))] ⟨w, w91.heap.size + 1, [(old0 w), (qdvx_24 z c), (qdvx_11 z c), (qdvx_23 z c), (qdvx_39 z b87 B1 B2 B3 cR), (caps 3 B1), (caps 3 B2), (caps 3 B3), (qdvx_12 n17 z), (qdvx_21 w91 c)]⟩ [] (by as_aux_lemma => kernel_rfl) rfl ⟨rfl, rfl, trivial⟩ (.inl rfl) ?_
                     refine w_free 6 [0, 1, 2, 3, 4, 5, 6, 7, 8, 9] [(old0 w), (qdvx_24 z c), (qdvx_11 z c), (qdvx_23 z c), (qdvx_39 z b87 B1 B2 B3 cR), (caps 3 B1), (caps 3 B2), (caps 3 B3), (qdvx_12 n17 z), (qdvx_21 w91 c)] rfl rfl ?_
                     refine w_done (by as_aux_lemma => kernel_rfl) ?_
                     refine e_keep [3, 2] [(qdvx_56 z), (2, i6 ((kernQ c).e))] ?_
                     refine e_seq <| g_ret <| e_ret [.at 2, .at 2] [Qb (z + 1), Qb (z + 1)] (.tuple #[i6 ((kernQ c).e), .agg #[i6 ((kernQ c).where_.First), i6 ((kernQ c).where_.Second)]]) ⟨rfl, rfl, trivial⟩ ?_
                     intro w93 hw93
                     exact ⟨congrArg (fun t : Tfound => Ending.returned (.tuple #[i6 t.e, .agg #[i6 t.where_.First, i6 t.where_.Second]])) ((fst_at (xs := answers c) (k := k) (by rw [answers_len]; omega) hf (by rw [ha]; exact fun x => h92 (fine_eq.2 x))).trans ha).symm, back0 hw93⟩
               · refine q_cS 15 0 [0] [[oF], [o0, o0, (an 2 2)]] [BF (((k : Int) : Int) < (((asks (z + 2) B1 B2 B3).length : Nat) : Int)), Qb (z + 1), Qb (z + 1)] [(qdvx_56 z), (2, i6 0)] rfl ⟨bf (by omega), rfl, rfl, trivial⟩ ?_
                 refine e_ret [.at 2, .at 2] [Qb (z + 1), Qb (z + 1)] (.tuple #[i6 0, .agg #[i6 0, i6 0]]) ⟨rfl, rfl, trivial⟩ ?_
                 intro w94 hw94
                 exact ⟨congrArg (fun t : Tfound => Ending.returned (.tuple #[i6 t.e, .agg #[i6 t.where_.First, i6 t.where_.Second]])) (fst_all (xs := answers c) (fun i hi => hf i (by rw [answers_len] at hi; omega))).symm, back0 hw94⟩
end Go.Proofs.YtnjhekfgmbpmlaaDoor.Ad
namespace Go.Proofs.YtnjhekfgmbpmlaaDoor.Ad
open Go Go.Proofs.YtnjhekfgmbpmlaaDoor.Eng Go.Proofs.YtnjhekfgmbpmlaaDoor.Mem Go.Proofs.YtnjhekfgmbpmlaaDoor.Ly
set_option linter.unusedSimpArgs false
set_option linter.unusedVariables false
set_option maxRecDepth 100000
def stripS {α : Type} (s : Sl α) : Sl α := ⟨none, 0, s.xs⟩
def stripP (x : TPartition) : TPartition := { x with Regions := stripS x.Regions, Ports := stripS x.Ports }
def strip (c : TConfig) : TConfig := { c with Cores := ⟨none, 0, c.Cores.xs.map stripS⟩, Partitions := ⟨none, 0, c.Partitions.xs.map stripP⟩, Channels := stripS c.Channels }
theorem gd_mapd {α β : Type} [Inhabited α] [Inhabited β] {f : α → β} (h : f default = default) (xs : List α) (k : Nat) : gd (xs.map f) k = f (gd xs k) := by
  unfold gd
  rw [List.getD_eq_getElem?_getD, List.getD_eq_getElem?_getD, List.getElem?_map]
  cases xs[k]? with
  | none => exact h.symm
  | some x => rfl
section
variable {c : TConfig}
theorem str_p (p : Nat) : gd (strip c).Partitions.xs p = stripP (gd c.Partitions.xs p) := gd_mapd (by rfl) _ _
theorem str_c (p : Nat) : gd (strip c).Cores.xs p = stripS (gd c.Cores.xs p) := gd_mapd (by rfl) _ _
theorem str_pl : (strip c).Partitions.xs.length = c.Partitions.xs.length := List.length_map _
theorem str_cl : (strip c).Cores.xs.length = c.Cores.xs.length := List.length_map _
theorem nEnds_strip (k : Nat) (b : Bool) : nEnds (strip c) k b = nEnds c k b := by
  unfold nEnds sumN
  rw [str_pl]
  show ((List.take _ (c.Partitions.xs.map stripP)).map _).sum = _
  rw [← List.map_take, List.map_map]; rfl
theorem confOk_strip : confOk (strip c) = confOk c := by
  unfold confOk
  rw [str_pl, show (strip c).Partitions.xs.all (partOk (strip c).Channels.xs.length) = c.Partitions.xs.all (partOk c.Channels.xs.length) from by
    show (c.Partitions.xs.map stripP).all _ = _
    rw [List.all_map]; rfl]
  have h : chanOk (strip c) = chanOk c := by
    funext k; unfold chanOk; rw [nEnds_strip, nEnds_strip]; rfl
  rw [h]; rfl
theorem ends_strip (k : Int) (b : Bool) : endsOf (strip c) k b = endsOf c k b := by
  unfold endsOf endsUp
  rw [str_pl]
  congr 1
  funext p
  rw [str_p]; rfl
theorem cAt_strip : ∀ k, cAt (strip c) k = cAt c k
  | 0 => by show pAt _ _ = pAt _ _; unfold pAt; rw [str_pl]; rfl
  | k + 1 => by
    show cAt (strip c) k + cLen (strip c) k = cAt c k + cLen c k
    rw [cAt_strip k]
    unfold cLen nDest
    rw [ends_strip]; rfl
theorem tAt_strip : ∀ k, tAt (strip c) k = tAt c k
  | 0 => by
    show frame0 (strip c) = frame0 c
    unfold frame0
    rw [cAt_strip]; rfl
  | k + 1 => by
    show tAt (strip c) k + 1 + (tabsN (gd (strip c).Partitions.xs k) : Int) = tAt c k + 1 + (tabsN (gd c.Partitions.xs k) : Int)
    rw [tAt_strip k, str_p]; rfl
theorem need_strip : needOf (strip c) = needOf c := by unfold needOf; rw [confOk_strip, str_pl, tAt_strip]; rfl
theorem err_strip : errOf (strip c) = errOf c := by unfold errOf; rw [confOk_strip]
theorem reg_strip (p k : Nat) : regC (strip c) p k = regC c p k := by unfold regC; rw [str_p]; rfl
theorem prt_strip (p k : Nat) : prtC (strip c) p k = prtC c p k := by unfold prtC; rw [str_p]; rfl
theorem named_strip (p : Nat) : namedP (strip c) p = namedP c p := by
  unfold namedP parC
  simp only [str_p]; rfl
theorem up_strip (f : TPort → Bool) (n : Nat) : upP f (strip c).Partitions.xs n = upP f c.Partitions.xs n := by
  unfold upP
  simp only [str_p]; rfl
theorem src_strip (h : Int) : srcC (strip c) h = srcC c h := by unfold srcC; rw [up_strip, str_pl]
theorem dst_strip (h : Int) : dstC (strip c) h = dstC c h := by unfold dstC; rw [up_strip, str_pl]
theorem regQ_strip (p k : Nat) : regQ (strip c) p k = regQ c p k := by
  have h1 : pagB (strip c) p k = pagB c p k := by funext i; unfold pagB; rw [reg_strip, reg_strip]
  have h2 : frmQ (strip c) p k = frmQ c p k := by
    funext q
    unfold frmQ parC
    have h3 : frmB (strip c) p k q = frmB c p k q := by funext n; unfold frmB; rw [reg_strip, reg_strip]
    rw [h3, str_p]; rfl
  unfold regQ
  rw [h1, h2, reg_strip]; rfl
theorem partQ_strip (p : Nat) : partQ (strip c) p = partQ c p := by
  have hA : partA (strip c) p = partA c p := by unfold partA parC; rw [named_strip, str_p]; rfl
  have hE : partE (strip c) p = partE c p := by unfold partE parC; rw [str_p]; rfl
  have hQ : portQ (strip c) p = portQ c p := by funext k; unfold portQ; rw [prt_strip]; rfl
  have hR : regQ (strip c) p = regQ c p := by funext k; exact regQ_strip p k
  have hB : partB (strip c) p = partB c p := by unfold partB; rw [hA, hR]; unfold parC; rw [str_p]; rfl
  unfold partQ
  rw [hB, hE, hQ]; unfold parC; rw [str_p]; rfl
theorem chanQ_strip (h : Nat) : chanQ (strip c) h = chanQ c h := by
  unfold chanQ
  rw [src_strip, dst_strip]; rfl
theorem split_strip (k : Nat) (p : Int) : splitP (strip c) k p = splitP c k p := by
  unfold splitP
  congr 1
  funext i
  unfold splitAt_ corC
  rw [str_c]; rfl
theorem coreQ_strip (k : Nat) : coreQ (strip c) k = coreQ c k := by
  have hW : coreW (strip c) k = coreW c k := by
    funext n
    unfold coreW coreA
    simp only [split_strip, str_pl]
    unfold corC
    rw [str_c]; rfl
  unfold coreQ
  rw [hW]; unfold corC; rw [str_c]; rfl
theorem kern_strip : kernB (strip c) = kernB c := by
  have h : ovlP (strip c) = ovlP c := by
    funext q
    have h2 : ovlQ (strip c) q = ovlQ c q := by funext n; unfold ovlQ; rw [reg_strip]; rfl
    unfold ovlP parC
    rw [h2, str_p]; rfl
  unfold kernB
  rw [h, err_strip, need_strip, str_pl]; rfl
theorem check_strip : checkF (strip c) = checkF c := by
  have h1 : partQ (strip c) = partQ c := by funext p; exact partQ_strip p
  have h2 : chanQ (strip c) = chanQ c := by funext p; exact chanQ_strip p
  have h3 : coreQ (strip c) = coreQ c := by funext p; exact coreQ_strip p
  unfold checkF answers
  rw [h1, h2, h3, str_pl, str_cl]
  unfold kernQ whole3 whole4
  rw [kern_strip, str_pl, str_cl]; rfl
end
/-- The same numbers, wherever they lie. -/
theorem check_same {c d : TConfig} (h : strip c = strip d) : checkF c = checkF d := by rw [← check_strip, h, check_strip]
theorem need_same {c d : TConfig} (h : strip c = strip d) : needOf c = needOf d := by rw [← need_strip, h, need_strip]
theorem err_same {c d : TConfig} (h : strip c = strip d) : errOf c = errOf d := by rw [← err_strip, h, err_strip]
end Go.Proofs.YtnjhekfgmbpmlaaDoor.Ad
namespace Go.Proofs.YtnjhekfgmbpmlaaDoor.Ad
open Go Go.Proofs.YtnjhekfgmbpmlaaDoor.Eng Go.Proofs.YtnjhekfgmbpmlaaDoor.Mem Go.Proofs.YtnjhekfgmbpmlaaDoor.Ly
set_option linter.unusedSimpArgs false
set_option linter.unusedVariables false
set_option maxRecDepth 100000
/-- An answer that is not fine has an error of its own and a place. -/
def Okf (x : Tfound) : Prop := x = fineF ∨ ((400 ≤ x.e ∧ x.e ≤ 423) ∧ -1 ≤ x.where_.First ∧ -1 ≤ x.where_.Second)
theorem okf_fine : Okf fineF := .inl rfl
theorem okf_mk {e a b : Int} (h : 400 ≤ e ∧ e ≤ 423) (ha : -1 ≤ a) (hb : -1 ≤ b) : Okf ⟨e, ⟨a, b⟩⟩ := .inr ⟨h, ha, hb⟩
theorem okf_unl {b : Bool} {e x y : Int} (h : 400 ≤ e ∧ e ≤ 423) (ha : -1 ≤ x) (hb : -1 ≤ y) : Okf (unl b e ⟨x, y⟩) := by
  cases b
  · exact okf_mk h ha hb
  · exact okf_fine
theorem okf_fst : ∀ {l : List Tfound}, (∀ x ∈ l, Okf x) → Okf (fstW l)
  | [], _ => okf_fine
  | x :: r, h => by
    unfold fstW
    by_cases e : x = fineF
    · rw [if_pos e]; exact okf_fst fun y hy => h y (List.mem_cons_of_mem _ hy)
    · rw [if_neg e]; exact h x (List.mem_cons_self ..)
theorem okf_then {o : Tfound} {f : Nat → Tfound} {n : Nat} (ho : Okf o) (hf : ∀ i, Okf (f i)) : Okf (thenF o f n) := by
  unfold thenF
  refine okf_fst fun x hx => ?_
  rcases List.mem_cons.1 hx with rfl | hx
  · exact ho
  · obtain ⟨i, -, rfl⟩ := List.mem_map.1 hx; exact hf i
section
variable (c : TConfig)
theorem okf_part (p : Nat) : Okf (partQ c p) := by
  have hr : ∀ k, Okf (regQ c p k) := by
    intro k
    unfold regQ
    split
    · exact okf_mk (by decide) (by omega) (by omega)
    split
    · exact okf_mk (by decide) (by omega) (by omega)
    split
    · exact okf_mk (by decide) (by omega) (by omega)
    · exact okf_fine
  have hA : Okf (partB c p) := okf_then (okf_fst fun x hx => by
    simp only [partA, List.mem_cons, List.not_mem_nil, or_false] at hx
    rcases hx with rfl | rfl | rfl | rfl <;> exact okf_unl (by decide) (by omega) (by omega)) hr
  unfold partQ
  split
  · exact okf_then (okf_fst fun x hx => by
      simp only [partE, List.mem_cons, List.not_mem_nil, or_false] at hx
      rcases hx with rfl | rfl <;> exact okf_unl (by decide) (by omega) (by omega)) (fun k => okf_unl (by decide) (by omega) (by omega))
  · exact hA
theorem okf_chan (h : Nat) : Okf (chanQ c h) := okf_fst fun x hx => by
  simp only [List.mem_cons, List.not_mem_nil, or_false] at hx
  rcases hx with rfl | rfl | rfl <;> exact okf_unl (by decide) (by omega) (by omega)
theorem okf_core (k : Nat) : Okf (coreQ c k) := by
  have hw : ∀ n, Okf (coreW c k n) := fun n => okf_fst fun x hx => by
    simp only [coreA, List.mem_cons, List.not_mem_nil, or_false] at hx
    rcases hx with rfl | rfl | rfl <;> exact okf_unl (by decide) (by omega) (by omega)
  unfold coreQ
  split
  · exact okf_mk (by decide) (by omega) (by omega)
  split
  · exact okf_unl (by decide) (by omega) (by omega)
  · exact okf_then okf_fine hw
theorem okf_check : Okf (checkF c) := okf_fst fun x hx => by
  simp only [answers, List.mem_append, List.mem_cons, List.not_mem_nil, or_false, List.mem_map, List.mem_range] at hx
  rcases hx with (((hx | ⟨p, -, rfl⟩) | ⟨p, -, rfl⟩) | ⟨p, -, rfl⟩) | rfl
  · rcases hx with rfl | rfl | rfl | rfl | rfl <;> exact okf_unl (by decide) (by decide) (by decide)
  · exact okf_part c p
  · exact okf_chan c p
  · exact okf_core c p
  · exact okf_unl (by decide) (by decide) (by decide)
variable {c}
theorem check_bad (h : ¬ (checkF c).e = 0) : (400 ≤ (checkF c).e ∧ (checkF c).e ≤ 423) ∧ -1 ≤ (checkF c).where_.First ∧ -1 ≤ (checkF c).where_.Second := by
  rcases okf_check c with e | e
  · rw [e] at h; exact absurd rfl h
  · exact e
theorem check_fine (h : (checkF c).e = 0) : checkF c = fineF := by
  rcases okf_check c with e | e
  · exact e
  · omega
theorem fst_nil : ∀ {l : List Tfound}, fstW l = fineF → ∀ k, k < l.length → gd l k = fineF := fun h k hk => by
  rw [gd_eq hk]; exact fst_mem h _ (List.getElem_mem _)
/-- What holds together. -/
structure Good (c : TConfig) : Prop where
  fr : 1 ≤ c.Frames ∧ c.Frames ≤ 1024
  mj : 1 ≤ c.Major ∧ c.Major ≤ 16384
  cn : 1 ≤ c.Cores.xs.length ∧ c.Cores.xs.length ≤ 4
  pn : c.Partitions.xs.length ≤ 8
  hn : c.Channels.xs.length ≤ 16
  reg : ∀ p k, p < c.Partitions.xs.length → k < (gd c.Partitions.xs p).Regions.xs.length → 1 ≤ (regC c p k).Pages ∧ 0 ≤ (regC c p k).Frame ∧ (regC c p k).Frame + (regC c p k).Pages ≤ c.Frames
  apart : ∀ p k q n, p < c.Partitions.xs.length → k < (gd c.Partitions.xs p).Regions.xs.length → q ≤ p → n < (gd c.Partitions.xs q).Regions.xs.length → (q < p ∨ n < k) → (regC c p k).Frame + (regC c p k).Pages ≤ (regC c q n).Frame ∨ (regC c q n).Frame + (regC c q n).Pages ≤ (regC c p k).Frame
  rn : ∀ p, p < c.Partitions.xs.length → (gd c.Partitions.xs p).Regions.xs.length ≤ 8
  qn : ∀ p, p < c.Partitions.xs.length → (gd c.Partitions.xs p).Ports.xs.length ≤ 8
  port : ∀ p k, p < c.Partitions.xs.length → k < (gd c.Partitions.xs p).Ports.xs.length → 0 ≤ (prtC c p k).Channel ∧ (prtC c p k).Channel < (c.Channels.xs.length : Int)
  src : ∀ h, h < c.Channels.xs.length → srcC c h = 1
  dst : ∀ h, h < c.Channels.xs.length → 1 ≤ dstC c h ∧ dstC c h ≤ 4
  wn : ∀ k, k < c.Cores.xs.length → (gd c.Cores.xs k).xs.length ≤ 16
  win : ∀ k n, k < c.Cores.xs.length → n < (gd c.Cores.xs k).xs.length → (-1 ≤ (gd (corC c k).xs n).Partition ∧ (gd (corC c k).xs n).Partition < (c.Partitions.xs.length : Int)) ∧ (1 ≤ (gd (corC c k).xs n).Usable ∧ (gd (corC c k).xs n).Usable ≤ 16384) ∧ (82 ≤ (gd (corC c k).xs n).Slack ∧ (gd (corC c k).xs n).Slack ≤ 16384)
  split : ∀ k n, k < c.Cores.xs.length → n < (gd c.Cores.xs k).xs.length → splitP c k (gd (corC c k).xs n).Partition = false
  sum : ∀ k, k < c.Cores.xs.length → sumW (corC c k).xs (corC c k).xs.length = c.Major
  kern : (0 ≤ c.Kernel ∧ c.Kernel ≤ c.Frames - 1) ∧ (1 ≤ c.Room ∧ c.Room ≤ c.Frames - c.Kernel)
  own : ∀ q n, q < c.Partitions.xs.length → n < (gd c.Partitions.xs q).Regions.xs.length → (regC c q n).Frame + (regC c q n).Pages ≤ c.Kernel ∨ c.Kernel + c.Room ≤ (regC c q n).Frame
  err : errOf c = 0
  need : 1 ≤ needOf c ∧ needOf c ≤ c.Room
theorem meet_no {a m b o : Int} (h : meet a m b o = false) : b + o ≤ a ∨ a + m ≤ b := by
  unfold meet at h
  simp only [Bool.and_eq_false_iff, decide_eq_false_iff_not] at h
  omega
theorem any_no {p : Nat → Bool} {n : Nat} (h : (List.range n).any p = false) {k : Nat} (hk : k < n) : p k = false := by
  rw [List.any_eq_false] at h
  have := h k (List.mem_range.2 hk)
  simpa using this
theorem tAt_low (h : Fine c) : ∀ i, c.Kernel + 1 ≤ tAt c i
  | 0 => by
    have h1 := cAt_bd h _ (Nat.le_refl _)
    unfold pAt at h1
    rw [tAt_zero]; omega
  | i + 1 => by
    have := tAt_low h i
    rw [tAt_succ]; omega
theorem need_pos (h : errOf c = 0) : 1 ≤ needOf c := by
  have hok : confOk c = true := by
    cases e : confOk c with
    | true => rfl
    | false => unfold errOf at h; rw [e] at h; exact absurd h (by decide)
  unfold needOf
  rw [if_pos hok]
  have hf := fine_of hok
  have h1 := tAt_low hf c.Partitions.xs.length
  omega
theorem good_of (h : checkF c = fineF) : Good c := by
  have ha : ∀ i, i < (answers c).length → gd (answers c) i = fineF := fst_nil h
  have hl := answers_len (c := c)
  have g0 := ha 0 (by omega); have g1 := ha 1 (by omega); have g2 := ha 2 (by omega); have g3 := ha 3 (by omega); have g4 := ha 4 (by omega)
  rw [ans_lo (by decide)] at g0 g1 g2 g3 g4
  have w0 := win_yes ((unl_fine (by decide)).1 (show unl (win c.Frames 1 1024) 400 ⟨-1, -1⟩ = fineF from g0))
  have w1 := win_yes ((unl_fine (by decide)).1 (show unl (win c.Major 1 16384) 401 ⟨-1, -1⟩ = fineF from g1))
  have w2 := win_yes ((unl_fine (by decide)).1 (show unl (win ((c.Cores.xs.length : Nat) : Int) 1 4) 402 ⟨-1, -1⟩ = fineF from g2))
  have w3 := win_yes ((unl_fine (by decide)).1 (show unl (win ((c.Partitions.xs.length : Nat) : Int) 1 8) 403 ⟨-1, -1⟩ = fineF from g3))
  have w4 := of_decide_eq_true ((unl_fine (by decide)).1 (show unl (decide (((c.Channels.xs.length : Nat) : Int) ≤ 16)) 404 ⟨-1, -1⟩ = fineF from g4))
  have hp : ∀ p, p < c.Partitions.xs.length → partQ c p = fineF := fun p hp => by rw [← ans_p hp]; exact ha _ (by omega)
  have hh : ∀ k, k < c.Channels.xs.length → chanQ c k = fineF := fun p hp => by rw [← ans_h hp]; exact ha _ (by omega)
  have hk : ∀ k, k < c.Cores.xs.length → coreQ c k = fineF := fun p hp => by rw [← ans_k hp]; exact ha _ (by omega)
  have he : kernQ c = fineF := by rw [← ans_e (c := c)]; exact ha _ (by omega)
  have hB : ∀ p, p < c.Partitions.xs.length → ∀ k, k < (parC c p).Regions.xs.length → regQ c p k = fineF := fun p hp' => (thenF_all (partQ_fine (hp p hp'))).2
  have hreg : ∀ p k, p < c.Partitions.xs.length → k < (gd c.Partitions.xs p).Regions.xs.length → regB c (regC c p k) = true ∧ (List.range k).any (pagB c p k) = false ∧ (List.range (p + 1)).any (frmQ c p k) = false := by
    intro p k h1 h2
    have e := hB p h1 k h2
    have e1 := regQ_fine e
    by_cases e2 : (List.range k).any (pagB c p k) = true
    · rw [regQ_b e1 e2] at e; exact absurd (congrArg Tfound.e e) (by decide : ¬ (410 : Int) = 0)
    · have e2' : (List.range k).any (pagB c p k) = false := by simpa using e2
      by_cases e3 : (List.range (p + 1)).any (frmQ c p k) = true
      · rw [regQ_c e1 e2' e3] at e; exact absurd (congrArg Tfound.e e) (by decide : ¬ (411 : Int) = 0)
      · exact ⟨e1, e2', by simpa using e3⟩
  have hPE : ∀ p, p < c.Partitions.xs.length → _ := fun p hp' => thenF_all (partQ_E (hp p hp'))
  have hkb := (unl_fine (by decide)).1 (show unl (kernB c) 423 ⟨-1, -1⟩ = fineF from he)
  unfold kernB at hkb
  simp only [Bool.and_eq_true, Bool.not_eq_true', decide_eq_true_eq] at hkb
  obtain ⟨⟨⟨k1, k2⟩, k3⟩, k4, k5⟩ := hkb
  have hcore : ∀ k, k < c.Cores.xs.length → win ((corC c k).xs.length : Nat) 1 16 = true ∧ thenF fineF (coreW c k) (corC c k).xs.length = fineF ∧ sumW (corC c k).xs (corC c k).xs.length = c.Major := by
    intro k hk'
    have e := hk k hk'
    unfold coreQ at e
    by_cases e1 : win ((corC c k).xs.length : Nat) 1 16 = false
    · rw [if_pos e1] at e; exact absurd (congrArg Tfound.e e) (by decide : ¬ (418 : Int) = 0)
    · rw [if_neg e1] at e
      by_cases e2 : thenF fineF (coreW c k) (corC c k).xs.length = fineF
      · rw [if_pos e2, unl_fine (by decide)] at e
        exact ⟨by simpa using e1, e2, of_decide_eq_true e⟩
      · rw [if_neg e2] at e; exact absurd e e2
  have hcw : ∀ k n, k < c.Cores.xs.length → n < (gd c.Cores.xs k).xs.length → coreW c k n = fineF := fun k n h1 h2 => (thenF_all (hcore k h1).2.1).2 n h2
  refine ⟨w0, w1, by omega, by omega, by omega, ?_, ?_, ?_, ?_, ?_, ?_, ?_, ?_, ?_, ?_, ?_, ⟨win_yes k1, win_yes k2⟩, ?_, k4, ⟨need_pos k4, k5⟩⟩
  · intro p k h1 h2
    have e := (hreg p k h1 h2).1
    unfold regB at e
    simp only [Bool.and_eq_true, decide_eq_true_eq] at e
    have a1 := win_yes e.1.1.1.2
    omega
  · intro p k q n h1 h2 h3 h4 h5
    have e := any_no (any_no (hreg p k h1 h2).2.2 (show q < p + 1 by omega)) (show n < (parC c q).Regions.xs.length from h4)
    unfold frmB at e
    rw [Bool.and_eq_false_iff] at e
    rcases e with e | e
    · simp only [Bool.or_eq_false_iff, decide_eq_false_iff_not] at e; omega
    · have := meet_no e; omega
  · intro p h1
    have e := (thenF_all (partQ_fine (hp p h1))).1
    have e2 := fst_mem e _ (List.mem_cons_of_mem _ (List.mem_cons_of_mem _ (List.mem_cons_of_mem _ (List.mem_cons_self ..))))
    rw [unl_fine (by decide)] at e2
    have := win_yes e2
    simp only [parC] at this
    omega
  · intro p h1
    have e2 := fst_mem (hPE p h1).1 _ (List.mem_cons_of_mem _ (List.mem_cons_self ..))
    rw [unl_fine (by decide)] at e2
    have := of_decide_eq_true e2
    simp only [parC] at this
    omega
  · intro p k h1 h2
    have e2 := (hPE p h1).2 k h2
    unfold portQ at e2
    rw [unl_fine (by decide)] at e2
    have := win_yes e2
    omega
  · intro k h1
    have e0 := hh k h1
    unfold chanQ at e0
    have e := fst_mem e0 _ (List.mem_cons_of_mem _ (List.mem_cons_self ..))
    rw [unl_fine (by decide)] at e
    have := of_decide_eq_true e
    omega
  · intro k h1
    have e0 := hh k h1
    unfold chanQ at e0
    have e := fst_mem e0 _ (List.mem_cons_of_mem _ (List.mem_cons_of_mem _ (List.mem_cons_self ..)))
    rw [unl_fine (by decide)] at e
    have := win_yes e
    have h4 : mostI (chaC c k) ≤ 4 := by unfold mostI; split <;> omega
    omega
  · intro k h1
    have := win_yes (hcore k h1).1
    simp only [corC] at this
    omega
  · intro k n h1 h2
    have e := hcw k n h1 h2
    have e2 := coreW_fine e
    unfold coreW coreA at e
    have e3 := fst_mem e _ (List.mem_cons_self ..)
    rw [unl_fine (by decide), Bool.and_eq_true] at e3
    have e4 := win_yes e3.1
    exact ⟨by omega, e2⟩
  · intro k n h1 h2
    have e := hcw k n h1 h2
    unfold coreW coreA at e
    have e3 := fst_mem e _ (List.mem_cons_of_mem _ (List.mem_cons_of_mem _ (List.mem_cons_self ..)))
    rw [unl_fine (by decide)] at e3
    simpa using e3
  · intro k h1
    exact (hcore k h1).2.2
  · intro q n h1 h2
    have e := any_no (any_no k3 h1) (show n < (parC c q).Regions.xs.length from h2)
    unfold ovlQ at e
    have := meet_no e
    omega
end
end Go.Proofs.YtnjhekfgmbpmlaaDoor.Ad
namespace Go.Proofs.YtnjhekfgmbpmlaaDoor.Eng
open Go Go.ChangeShapes Go.WideShapes Go.Deep
set_option linter.unusedSimpArgs false
set_option linter.unusedVariables false
theorem weightsAll_mem {H : Type} {P : Program} {e : TypeId} : ∀ {l : List (DataW H)} {d : DataW H}, d ∈ l → ∀ n ∈ d.weights P e, n ∈ DataW.weightsAll P e l
  | a :: l, d, h, n, hn => by
    simp only [DataW.weightsAll, List.mem_append]
    rcases List.mem_cons.1 h with rfl | h
    · exact .inl hn
    · exact .inr (weightsAll_mem h n hn)
/-- Cells of type t that read as data are those of a thing. -/
def Rd (P : Program) {α : Type} (t : TypeId) (cells : α → List Value) (ok : (Nat → Prop) → World → α → Prop) : Prop :=
  ∀ (H : Type) (enc : TypeId × Value → H) (W : World) (fuel : Nat) (cs : List Value) (x : DataW H × List MemPlace), DataW.trod enc P W 0 (fun _ => true) true fuel t cs = some x → (∀ n ∈ x.1.weights P t, n ≤ reachBytes) → ∃ a : α, cs = cells a ∧ ok Any W a
section
variable {P : Program} {t : TypeId}
theorem rd_int {k : IntKind} (ht : P.underlying t = some (.int k)) : Rd P t (fun x : Int => [Value.int k x]) (fun _ _ x => InK k x) := by
  intro H enc W fuel cs x h _
  obtain ⟨n, rfl, rfl, hw⟩ := DataW.trod_int ht h
  refine ⟨n, rfl, ?_⟩
  simp only [Lit.wf, Bool.and_eq_true, decide_eq_true_eq] at hw
  cases k <;> simp only [InK] <;> simp [IntKind.min, IntKind.max, IntKind.bits, IntKind.signed] at hw <;> first | omega | exact ⟨by omega, by omega⟩ | trivial
theorem rd_bool (ht : P.underlying t = some .bool) : Rd P t (fun x : Bool => [Value.bool x]) (fun _ _ _ => True) := by
  intro H enc W fuel cs x h _
  obtain ⟨b, rfl, rfl⟩ := DataW.trod_bool ht h
  exact ⟨b, rfl, trivial⟩
theorem rd_string (ht : P.underlying t = some .string) : Rd P t (fun x : ByteArray => [Value.string x]) (fun _ _ x => x.size ≤ 140737488351232) := by
  intro H enc W fuel cs x h hw
  obtain ⟨s, rfl, rfl, -⟩ := DataW.trod_string ht h
  refine ⟨s, rfl, ?_⟩
  have := hw s.data.toList.length (by simp [DataW.weights])
  simpa [reachBytes] using this
/-- One field of a struct that reads as data. -/
theorem rd_field {H : Type} {enc : TypeId × Value → H} {W : World} {α : Type} {cells : α → List Value} {ok : (Nat → Prop) → World → α → Prop} {fs : Array Field} {xs : List (DataW H × List MemPlace)} {n : Nat} {cs : List Value} (ht : P.underlying t = some (.struct fs)) (hlen : xs.length = fs.size)
    (hf : ∀ (i : Nat) (f : Field), fs[i]? = some f → DataW.trod enc P W 0 (fun _ => true) true n f.type ((cs.drop f.offset).take (P.cellsOf f.type)) = xs[i]?) (hw : ∀ n ∈ (DataW.agg (xs.map (·.1))).weights P t, n ≤ reachBytes)
    (i o c : Nat) (f : Field) (hi : fs[i]? = some f) (ho : f.offset = o) (hc : P.cellsOf f.type = c) (hr : Rd P f.type cells ok) : ∃ y : α, (cs.drop o).take c = cells y ∧ ok Any W y := by
  subst ho; subst hc
  have hlt : i < xs.length := by rw [hlen]; exact (Array.getElem?_eq_some_iff.1 hi).1
  have h1 := hf i f hi
  rw [List.getElem?_eq_getElem hlt] at h1
  refine hr H enc W n _ _ h1 (fun q hq => hw q ?_)
  simp only [DataW.weights, ht]
  exact DataW.weights_mem_each (j := i) (t := f.type) (d := (xs[i]).1) (by rw [List.getElem?_map]; simp only [Array.getElem?_toList, hi]; rfl) (by simp [hlt]) q hq
theorem cs1 {cs : List Value} (h : cs.length = 1) : ∃ a, cs = [a] := match cs, h with | [a], _ => ⟨a, rfl⟩
/-- An argument of struct type. -/
theorem rd_arg {H : Type} {enc : TypeId × Value → H} {W : World} {base j : Nat} {α : Type} {cells : α → List Value} {ok : (Nat → Prop) → World → α → Prop} {fs : Array Field} {v : Value} {d : DataW H} {p : List MemPlace} {ts : List TypeId} {ds : List (DataW H)}
    (hr : Rd P t cells ok) (ht : P.underlying t = some (.struct fs)) (hv : Value.okWide P W .any base t v) (h : DataW.Trod enc P W 0 (fun _ => true) true t v d p) (hsz : (DataW.weightsEach P ts ds).all (· ≤ reachBytes) = true) (hj : ts[j]? = some t) (hd : ds[j]? = some d) : ∃ a : α, v = .agg (cells a).toArray ∧ ok Any W a := by
  obtain ⟨arr, rfl, -⟩ := okWide_struct ht hv
  obtain ⟨fuel, h⟩ := h
  obtain ⟨a, ha, hok⟩ := hr H enc W fuel _ _ h (fun n hn => by have := List.all_eq_true.1 hsz _ (DataW.weights_mem_each hj hd n hn); simpa using this)
  refine ⟨a, ?_, hok⟩
  have ha' : arr.toList = cells a := ha
  rw [← ha']
end
end Go.Proofs.YtnjhekfgmbpmlaaDoor.Eng
namespace Go.Proofs.YtnjhekfgmbpmlaaDoor.Eng
open Go Go.Proofs.YtnjhekfgmbpmlaaDoor.Mem Go.ChangeShapes Go.WideShapes Go.Deep
set_option linter.unusedSimpArgs false
set_option linter.unusedVariables false
section
variable {P : Program} {N : Nat} {env : Env} {ds : List Deferred} {A : AW} {ops : Array Oper} {l : List Oper} {s : List Kt} {Q : Exit → Act → World → Prop}
/-- The next operation appends a list of data to a row. -/
theorem l_pushSB {α : Type} (base i k : Nat) (xs ys : List α) (ya : Option Addr) (cells : α → List Value) (e : TypeId) (sz by' : Nat) (v : Value) (m cp : Nat) (c0 : Ch) (d : Option Nat) (h63 : xs.length + ys.length ≤ 281474976710656) (hbytes : (xs.length + ys.length) * by' ≤ 140737488355328) (hbase : base ≤ A.n) (hd : ∀ w', c0.holds w' → SlAt cells sz Any w' ⟨ya, cp, ys⟩)
    (K : ∀ a' cap' n', A.n ≤ n' → Lg P N (putE env d (.slice a' (xs ++ ys).length cap')) ds { A with n := n', σ := A.σ.set i (rowL base e sz cells (.slice a' (xs ++ ys).length cap') (xs ++ ys)) } ops (l.drop 1) s Q)
    (hm : ys.length = m := by rfl) (h : (match l with | o :: _ => (appS P N ops env o).map (fun x => (x, o.dst)) | [] => none) = some ((e, sz, by', v, ya, m, cp), d) := by as_aux_lemma => kernel_rfl) (hi : A.σ[i]? = some (rowL base e sz cells v xs) := by rfl) (hk : A.σ[k]? = some c0 := by rfl) (hsz : ∀ x, (cells x).length = sz := by intro _; rfl) (h1 : ∀ x, (cells x).all Value.oneCell' = true := by intro _; rfl) : Lg P N env ds A ops l s Q := by
  intro a w hst
  cases l with
  | nil => cases h
  | cons o l =>
    simp only [Option.map_eq_some_iff] at h
    obtain ⟨y, hy, h⟩ := h
    simp only [Prod.mk.injEq] at h
    obtain ⟨rfl, rfl⟩ := h
    obtain ⟨hw, hdst, a', cap', w', hr, hsz', hs'⟩ := appS_run (xs := xs) (ys := ys) hy hst hi hsz (fun x u hu => List.all_eq_true.1 (h1 x) u hu) (hd w (hst.mem.at hk)) hm (by unfold maxLen; omega) (by rw [← hm]; exact hbytes) hbase
    refine step_yields hw (.inl hr) ?_
    exact K a' cap' _ hsz' _ _ (hst.put hs' _ hdst _)
end
section
variable {P : Program} {t : TypeId}
theorem rd_sliceB {α : Type} [Inhabited α] {cells : α → List Value} {ok : (Nat → Prop) → World → α → Prop} {e : TypeId} {sz : Nat} (ht : P.underlying t = some (.slice e)) (hc : P.cellsOf e = sz) (hsz : ∀ x, (cells x).length = sz) (hs0 : 0 < sz) (hpos : Nat.blt 0 (P.bytesOf e) = true) (h : Rd P e cells ok) :
    Rd P t (fun s : Sl α => [s.val]) (fun F W s => SlOk cells sz ok F W s ∧ s.xs.length * P.bytesOf e ≤ reachBytes) := by
  intro H enc W fuel cs x hx hw
  rcases open_slice ht hx with ⟨rfl, rfl⟩ | ⟨a, len, cap, m, n, D, Pl, rfl, hb, hl, hm, hmm, rfl, hi⟩
  · exact ⟨⟨none, 0, []⟩, rfl, ⟨⟨Nat.zero_le _, Nat.le_refl _, fun h => absurd rfl h⟩, fun i hi => absurd hi (Nat.not_lt_zero i)⟩, by simp⟩
  · simp only [if_true] at hmm
    subst hmm
    rw [hc] at hi
    have hww : ∀ q ∈ DataW.weightsAll P e ((List.range len).map D), q ≤ reachBytes := fun q hq => hw q (by simp only [DataW.weights, ht, List.mem_cons, List.mem_append]; exact .inr (.inl hq))
    have hY : ∀ i, i < len → ∃ y : α, (W.cells? 0 (a.add (i * sz)) sz = some (cells y)) ∧ ok Any W y := by
      intro i hi'
      obtain ⟨cs', h1, h2⟩ := hi i (by omega)
      obtain ⟨y, rfl, hy⟩ := h H enc W n cs' _ h2 (fun q hq => hww q (weightsAll_mem (d := D i) (List.mem_map_of_mem (List.mem_range.2 hi')) q hq))
      exact ⟨y, h1, hy⟩
    obtain ⟨Y, hY⟩ := choose_lt hY
    have hbig : (len + (m - len)) * P.bytesOf e ≤ reachBytes := hw _ (by simp [DataW.weights, ht])
    have hlen : len + (m - len) ≤ 140737488351232 := Nat.le_trans (Nat.le_mul_of_pos_right _ (by simpa using hpos)) hbig
    have hg : ∀ i, i < len → gd ((List.range len).map Y) i = Y i := fun i hi' => by rw [gd_eq (by simpa using hi')]; simp
    refine ⟨⟨some a, m, (List.range len).map Y⟩, by simp [Sl.val], ⟨⟨by simp; omega, by simpa using hl, fun hne => ?_⟩, fun i hi' => ?_⟩, Nat.le_trans (Nat.mul_le_mul_right _ (by simp)) hbig⟩
    · have h0 : 0 < len := by
        rcases Nat.eq_zero_or_pos len with h | h
        · subst h; exact absurd rfl hne
        · exact h
      have hsp : a.spot = none := by
        obtain ⟨-, -, h3⟩ := World.cells?_some (hY 0 h0).1
        have h4 := h3 0 hs0
        rw [List.getElem?_eq_getElem (by rw [hsz]; exact hs0)] at h4
        have := World.cell?_spot h4
        simpa [Addr.add] using this
      obtain ⟨b, off, sp⟩ := a
      simp only at hsp; subst hsp
      refine ⟨b, off, rfl, trivial, fun i hi' k v hv => ?_⟩
      have hi2 : i < len := by simpa using hi'
      obtain ⟨-, -, h3⟩ := World.cells?_some (hY i hi2).1
      have hv' : (cells (Y i))[k]? = some v := by simpa using hv
      have hk : k < sz := by rw [← hsz (Y i)]; exact (List.getElem?_eq_some_iff.1 hv').1
      have := h3 k hk
      rw [hv'] at this
      rw [offs_eq]
      have e1 : (⟨b, off, none⟩ : Addr).add (i * sz) = ⟨b, off + i * sz, none⟩ := addr_eta rfl _
      have e2 : (⟨b, off + i * sz, none⟩ : Addr).add k = ⟨b, off + i * sz + k, none⟩ := addr_eta rfl _
      rw [e1, e2] at this
      exact this
    · have hi2 : i < len := by simpa using hi'
      rw [hg i hi2]; exact (hY i hi2).2
end
end Go.Proofs.YtnjhekfgmbpmlaaDoor.Eng
namespace Go.Proofs.YtnjhekfgmbpmlaaDoor.Ad
open Go Go.Proofs.YtnjhekfgmbpmlaaDoor.Eng Go.Proofs.YtnjhekfgmbpmlaaDoor.Mem Go.Proofs.YtnjhekfgmbpmlaaDoor.Ly
set_option linter.unusedSimpArgs false
set_option linter.unusedVariables false
set_option maxRecDepth 100000
def HomeOk (c : TConfig) (i k : Nat) (l : List Int) : Prop := l.length = c.Partitions.xs.length ∧ ∀ p, p < c.Partitions.xs.length → gd l p = 0 ∨ ∃ i' k', (i' < i ∨ (i' = i ∧ k' < k)) ∧ k' < (gd c.Cores.xs i').xs.length ∧ gd l p = (i' : Int) + 1 ∧ (gd (corC c i').xs k').Partition = (p : Int)
theorem home_nil {c : TConfig} : HomeOk c 0 0 (List.replicate c.Partitions.xs.length 0) := ⟨List.length_replicate, fun p hp => .inl (by rw [gd_eq (by simpa using hp)]; simp)⟩
theorem home_next {c : TConfig} {i : Nat} {l : List Int} (h : HomeOk c i (gd c.Cores.xs i).xs.length l) : HomeOk c (i + 1) 0 l := ⟨h.1, fun p hp => by
  rcases h.2 p hp with e | ⟨i', k', h1, h2, h3, h4⟩
  · exact .inl e
  · exact .inr ⟨i', k', .inl (by omega), h2, h3, h4⟩⟩
theorem home_skip {c : TConfig} {i k : Nat} {l : List Int} (h : HomeOk c i k l) : HomeOk c i (k + 1) l := ⟨h.1, fun p hp => by
  rcases h.2 p hp with e | ⟨i', k', h1, h2, h3, h4⟩
  · exact .inl e
  · exact .inr ⟨i', k', by omega, h2, h3, h4⟩⟩
theorem home_set {c : TConfig} {i k p : Nat} {l : List Int} (h : HomeOk c i k l) (hk : k < (gd c.Cores.xs i).xs.length) (hp : (gd (corC c i).xs k).Partition = (p : Int)) (hpl : p < c.Partitions.xs.length) : HomeOk c i (k + 1) (l.set p ((i : Int) + 1)) := ⟨by rw [List.length_set]; exact h.1, fun q hq => by
  have hl := h.1
  by_cases e : q = p
  · subst e
    exact .inr ⟨i, k, .inr ⟨rfl, by omega⟩, hk, gd_set (by omega), hp⟩
  · rw [gd_set_ne (fun e2 => e e2.symm) (by omega)]
    exact (home_skip h).2 q hq⟩
theorem home_at {c : TConfig} {i k p : Nat} {l : List Int} (hG : Good c) (h : HomeOk c i k l) (hi : i < c.Cores.xs.length) (hk : k < (gd c.Cores.xs i).xs.length) (hp : (gd (corC c i).xs k).Partition = (p : Int)) (hpl : p < c.Partitions.xs.length) : gd l p = 0 ∨ gd l p = (i : Int) + 1 := by
  rcases h.2 p hpl with e | ⟨i', k', h1, h2, h3, h4⟩
  · exact .inl e
  · rcases h1 with h1 | ⟨rfl, h1⟩
    · have e := hG.split i k hi hk
      rw [hp] at e
      have e2 : splitP c i (p : Int) = true := range_any (k := i') h1 (range_any (k := k') h2 (by rw [h4]; simp))
      rw [e] at e2; cases e2
    · exact .inr h3
theorem sumW_bd {c : TConfig} (hG : Good c) {i : Nat} (hi : i < c.Cores.xs.length) : ∀ n, n ≤ (gd c.Cores.xs i).xs.length → 0 ≤ sumW (corC c i).xs n ∧ sumW (corC c i).xs n ≤ (n : Int) * 32768
  | 0, _ => by simp [sumW]
  | n + 1, hn => by
    have ih := sumW_bd hG hi n (by omega)
    have hw := hG.win i n hi (by omega)
    rw [sumW_succ]; omega
abbrev qjbh_0 (z : Nat) (c : TConfig) : Ch := bk z (TConfig.arr c) 26
abbrev qjbh_1 (z : Nat) (b31 : Nat) (hm2 : List Int) (cH2 : Nat) : Ch := rowL z 3 1 (fun x : Int => [i6 x]) (.slice (some ⟨b31, 0, none⟩) hm2.length cH2) hm2
abbrev qjbh_2 (z : Nat) (aH2 : Option Addr) (hm2 : List Int) (cH2 : Nat) : Ch := rowL z 3 1 (fun x : Int => [i6 x]) (.slice aH2 hm2.length cH2) hm2
abbrev qjbh_3 (c : TConfig) (i : Nat) (k : Nat) (y24 : TWindow) : Nat × Value := (5, i6 ((sumW (corC c i).xs k) + (y24.Usable + y24.Slack)))
abbrev qjbh_4 (b31 : Nat) (hm2 : List Int) (cH2 : Nat) : Nat × Value := (3, .slice (some ⟨b31, 0, none⟩) hm2.length cH2)
abbrev qjbh_5 (k : Nat) : Nat × Value := (6, i6 ((k + 1 : Nat) : Int))
theorem timed_calls (w : World) (c : TConfig) (hc : TConfig.ok Any w c) (hG : Good c) : Calls Tryd.prog 13 #[.agg (TConfig.arr c)] w fun e w' => e = .returned (.bool true) ∧ Keeps (fun _ => False) w w' := by
 obtain ⟨z, hz⟩ : ∃ z, z = w.heap.size := ⟨_, rfl⟩
 refine calls_G (args := [.agg (TConfig.arr c)]) 93 ⟨w, z, [(old0 w)]⟩ Tryd.func13 rfl (by kernel_rfl) (by kernel_rfl) (sat_0 hz) ?_
 have hpl := hc.Partitions.1.len; have hpc := hc.Cores.1.len; have hGp := hG.pn; have hGc := hG.cn; have hGm := hG.mj
 refine g_keep [0] [(0, .agg (TConfig.arr c))] ?_
 refine q_c 6 3 [] [[o0, o0], [o0, (a1 1), o0]] [Qb z] [(1, pt z), (10, i6 ((c.Partitions.xs.length : Nat) : Int))] ⟨w, z + 1, [(old0 w), (qjbh_0 z c)]⟩ rfl ⟨rfl, trivial⟩ ?_
 refine l_makeB z c.Partitions.xs.length 0 (fun x : Int => [i6 x]) 3 1 8 (i6 0) (((c.Partitions.xs.length : Nat) : Int) : Int) (((c.Partitions.xs.length : Nat) : Int) : Int) (some 11) rfl rfl (by omega) (by omega) (show z ≤ z + 1 by omega) (fun n1 (hn2 : z + 1 + 1 ≤ n1) => ?_)
 refine q_rS 8 0 [] [[o0], [o0]] [] [(1, pt z), (3, .slice (some ⟨z + 1, 0, none⟩) c.Partitions.xs.length c.Partitions.xs.length), (4, i6 0)] rfl trivial ?_
 refine g_loop (fun m a w' => ∃ (n4 : Nat) (i : Nat) (hmG : List Int) (aH : Option Addr) (cH : Nat), m = c.Cores.xs.length - i ∧ n1 ≤ n4 ∧ (i ≤ c.Cores.xs.length) ∧ (HomeOk c i 0 hmG) ∧ St 93 [(1, pt z), (3, .slice aH hmG.length cH), (4, i6 (i : Int))] [] ⟨w, n4, [(old0 w), (qjbh_0 z c), (rowL z 3 1 (fun x : Int => [i6 x]) (.slice aH hmG.length cH) hmG)]⟩ a w') (c.Cores.xs.length - 0) ?_ ?_
 · intro a w' hs; exact ⟨n1, 0, (List.replicate c.Partitions.xs.length 0), (some ⟨z + 1, 0, none⟩), c.Partitions.xs.length, rfl, Nat.le_refl _, Nat.zero_le _, home_nil, (by (try dsimp only [qjbh_0, qjbh_1, qjbh_2, qjbh_3, qjbh_4, qjbh_5] at hs ⊢); rw [List.length_replicate]; exact hs)⟩
 · rintro m a w' ⟨n4, i, hmG, aH, cH, rfl, hn3, hki, hH, hs⟩
   refine (?_ : G Tryd.prog 93 [(1, pt z), (3, .slice aH hmG.length cH), (4, i6 (i : Int))] [] ⟨w, n4, [(old0 w), (qjbh_0 z c), (rowL z 3 1 (fun x : Int => [i6 x]) (.slice aH hmG.length cH) hmG)]⟩ _ _ _) a w' hs
   clear hs a w'
   have hHl := hH.1
   have hGp := hG.pn; have hGc := hG.cn
   refine g_seq <| g_seq ?_
   by_cases h5 : ((i : Int) : Int) < ((c.Cores.xs.length : Nat) : Int)
   · refine q_cS 18 0 [1] [[o0, o0, (a1 1), o0, oT], [o0], [o0]] [Qb z, BT (((i : Int) : Int) < ((c.Cores.xs.length : Nat) : Int))] [(1, pt z), (3, .slice aH hmG.length cH), (4, i6 (i : Int)), (5, i6 0), (6, i6 0)] rfl ⟨rfl, bt (by omega), trivial⟩ ?_
     refine g_loop (fun m a w' => ∃ (n7 : Nat) (k : Nat) (hm2 : List Int) (aH2 : Option Addr) (cH2 : Nat), m = (gd c.Cores.xs i).xs.length - k ∧ n4 ≤ n7 ∧ (k ≤ (gd c.Cores.xs i).xs.length) ∧ (HomeOk c i k hm2) ∧ St 93 [(1, pt z), (3, .slice aH2 hm2.length cH2), (4, i6 (i : Int)), (5, i6 (sumW (corC c i).xs k)), (6, i6 (k : Int))] [] ⟨w, n7, [(old0 w), (qjbh_0 z c), (qjbh_2 z aH2 hm2 cH2)]⟩ a w') ((gd c.Cores.xs i).xs.length - 0) ?_ ?_
     · intro a w' hs; exact ⟨n4, 0, hmG, aH, cH, rfl, Nat.le_refl _, Nat.zero_le _, hH, hs⟩
     · rintro m a w' ⟨n7, k, hm2, aH2, cH2, rfl, hn6, hkk, hH2, hs⟩
       refine (?_ : G Tryd.prog 93 [(1, pt z), (3, .slice aH2 hm2.length cH2), (4, i6 (i : Int)), (5, i6 (sumW (corC c i).xs k)), (6, i6 (k : Int))] [] ⟨w, n7, [(old0 w), (qjbh_0 z c), (qjbh_2 z aH2 hm2 cH2)]⟩ _ _ _) a w' hs
       clear hs a w'
       have hH2l := hH2.1
       have hsb := sumW_bd hG (show i < c.Cores.xs.length by omega) k (by omega)
       have hwn0 := hG.wn i (by omega)
       refine g_seq <| g_seq ?_
       obtain ⟨b8, o9, ha10, hF12, hc11⟩ := (hc.Cores).1.all (show 0 < c.Cores.xs.length by omega)
       replace ha10 : c.Cores.a = some ⟨b8, o9, none⟩ := ha10
       have hc13 := hc11 i (show i < c.Cores.xs.length by omega)
       have he14 := (hc.Cores).2 i (show i < c.Cores.xs.length by omega)
       obtain ⟨y15, hy15⟩ : ∃ y_, y_ = gd c.Cores.xs i := ⟨_, rfl⟩
       rw [← hy15] at he14 hc13
       have hyly15 := he14.1.len; have hwny15 := hG.wn i (by omega); have hley15 : y15.xs.length = (gd c.Cores.xs i).xs.length := (by rw [hy15])
       by_cases h16 : ((k : Int) : Int) < ((y15.xs.length : Nat) : Int)
       · refine q_cS 9 0 [1] [[o0, o0, ⟨.auto [.at 1], some (.slice (some ⟨b8, o9, none⟩) c.Cores.xs.length c.Cores.cap)⟩, o0, (oi i), (oa [.via 0 (.slice y15.a y15.xs.length y15.cap)]), o0, oT]] [Qb z, Value.slice c.Cores.a c.Cores.xs.length c.Cores.cap = Value.slice (some ⟨b8, o9, none⟩) c.Cores.xs.length c.Cores.cap, ((i : Int) : Int) = ((i : Nat) : Int), i < c.Cores.xs.length, (none : Option Nat) = none, Old w b8 (o9 + i) (.slice y15.a y15.xs.length y15.cap), BT (((k : Int) : Int) < ((y15.xs.length : Nat) : Int))] [(1, pt z), (3, .slice aH2 hm2.length cH2), (4, i6 (i : Int)), (5, i6 (sumW (corC c i).xs k)), (6, i6 (k : Int)), (26, .bool true)] rfl ⟨rfl, congrArg (fun a => Value.slice a _ _) ha10, rfl, (by omega), rfl, old_cell' (hc13 0 _ rfl), bt (by omega), trivial⟩ ?_
         obtain ⟨b17, o18, ha19, hF21, hc20⟩ := (he14).1.all (show 0 < y15.xs.length by omega)
         replace ha19 : y15.a = some ⟨b17, o18, none⟩ := ha19
         have hc22 := hc20 k (show k < y15.xs.length by omega)
         have he23 := (he14).2 k (show k < y15.xs.length by omega)
         obtain ⟨y24, hy24⟩ : ∃ y_, y_ = gd y15.xs k := ⟨_, rfl⟩
         rw [← hy24] at he23 hc22
         have hwy24 := hG.win i k (by omega) (by rw [← hy15]; omega); have e0y24 : gd (corC c i).xs k = y24 := (by rw [hy24, hy15]); rw [e0y24] at hwy24
         refine q_c 9 0 [] [[o0, ⟨.auto [.at 1], some (.slice (some ⟨b8, o9, none⟩) c.Cores.xs.length c.Cores.cap)⟩, o0, (oi i), ⟨.auto [.via 0 (.slice y15.a y15.xs.length y15.cap)], some (.slice (some ⟨b17, o18, none⟩) y15.xs.length y15.cap)⟩, o0, (oi k), (ol 0 (TWindow.arr y24)), o0, (an 3 3)], [o0, o0, (a1 3), o0, (a1 3), (ov (i6 (y24.Usable + y24.Slack))), (ov (i6 ((sumW (corC c i).xs k) + (y24.Usable + y24.Slack)))), o0]] [Qb z, Value.slice c.Cores.a c.Cores.xs.length c.Cores.cap = Value.slice (some ⟨b8, o9, none⟩) c.Cores.xs.length c.Cores.cap, ((i : Int) : Int) = ((i : Nat) : Int), i < c.Cores.xs.length, (none : Option Nat) = none, Old w b8 (o9 + i) (.slice y15.a y15.xs.length y15.cap), Value.slice y15.a y15.xs.length y15.cap = Value.slice (some ⟨b17, o18, none⟩) y15.xs.length y15.cap, ((k : Int) : Int) = ((k : Nat) : Int), k < y15.xs.length, (none : Option Nat) = none, OldR w b17 (o18 + k * 3) (TWindow.arr y24), Qb n7, Qb n7, Qb n7, Qb n7, Qb n7, Wr ((y24.Usable : Int) + y24.Slack) (y24.Usable + y24.Slack), Wr ((sumW (corC c i).xs k : Int) + (y24.Usable + y24.Slack)) ((sumW (corC c i).xs k) + (y24.Usable + y24.Slack))] [(1, pt z), (3, .slice aH2 hm2.length cH2), (4, i6 (i : Int)), (qjbh_3 c i k y24), (6, i6 (k : Int)), (7, pt n7)] ⟨w, n7 + 1, [(old0 w), (qjbh_0 z c), (qjbh_2 z aH2 hm2 cH2), (bk n7 (TWindow.arr y24) 44)]⟩ rfl ⟨rfl, congrArg (fun a => Value.slice a _ _) ha10, rfl, (by omega), rfl, old_cell' (hc13 0 _ rfl), congrArg (fun a => Value.slice a _ _) ha19, rfl, (by omega), rfl, old_row hc22, rfl, rfl, rfl, rfl, rfl, wrI, wrI, trivial⟩ ?_
         by_cases h25 : (y24.Slack : Int) < 82
         · refine q_cS 9 0 [1] [[o0, (a1 3), oT, o0, o0, o0, o0], [o0]] [Qb n7, BT ((y24.Slack : Int) < 82)] [(2, .bool false)] rfl ⟨rfl, bt (by omega), trivial⟩ ?_
           refine e_ret [] [] (.bool false) trivial ?_
           intro w26 hw26
           exfalso; first | omega | (have e9 := hG.sum i (by omega); have e8 : (corC c i).xs.length = k := (by dsimp only [corC]; omega); rw [e8] at e9; omega) | (have e7 := home_at (p := y24.Partition.toNat) hG hH2 (by omega) (by omega) (by rw [e0y24]; omega) (by omega); omega)
         · by_cases h27 : (y24.Usable : Int) < 1
           · refine q_cS 9 0 [1] [[o0, (a1 3), oF, o0, o0, (a1 3), oT, o0, o0, o0], [o0]] [Qb n7, BF ((y24.Slack : Int) < 82), Qb n7, BT ((y24.Usable : Int) < 1)] [(2, .bool false)] rfl ⟨rfl, bf (by omega), rfl, bt (by omega), trivial⟩ ?_
             refine e_ret [] [] (.bool false) trivial ?_
             intro w28 hw28
             exfalso; first | omega | (have e9 := hG.sum i (by omega); have e8 : (corC c i).xs.length = k := (by dsimp only [corC]; omega); rw [e8] at e9; omega) | (have e7 := home_at (p := y24.Partition.toNat) hG hH2 (by omega) (by omega) (by rw [e0y24]; omega) (by omega); omega)
           · by_cases h29 : (y24.Partition : Int) < ((c.Partitions.xs.length : Nat) : Int)
             · refine q_cS 8 0 [0] [[o0, (a1 3), oF, o0, o0, (a1 3), oF, o0, o0, o0, (a1 3), o0, (a1 1), o0, oF, o0]] [Qb n7, BF ((y24.Slack : Int) < 82), Qb n7, BF ((y24.Usable : Int) < 1), Qb n7, Qb z, BF ((y24.Partition : Int) ≥ ((c.Partitions.xs.length : Nat) : Int))] [(1, pt z), (3, .slice aH2 hm2.length cH2), (4, i6 (i : Int)), (qjbh_3 c i k y24), (6, i6 (k : Int)), (7, pt n7), (59, .bool false)] rfl ⟨rfl, bf (by omega), rfl, bf (by omega), rfl, rfl, bf (by omega), trivial⟩ ?_
               by_cases h30 : (y24.Partition : Int) < 0
               · refine q_cS 10 0 [1] [[o0, (a1 3), oT], [o0, (ov (i6 ((k + 1 : Nat) : Int))), o0]] [Qb n7, BT ((y24.Partition : Int) < 0), Wr (((k : Int) : Int) + 1) (((k + 1 : Nat) : Int))] [(1, pt z), (3, .slice aH2 hm2.length cH2), (4, i6 (i : Int)), (qjbh_3 c i k y24), (qjbh_5 k)] rfl ⟨rfl, bt (by omega), wrI, trivial⟩ ?_
                 refine e_pick [0, 1, 2] [(old0 w), (qjbh_0 z c), (qjbh_2 z aH2 hm2 cH2)] rfl rfl ?_
                 have eS := sumW_succ (corC c i).xs k; rw [e0y24] at eS
                 refine e_keep [1, 3, 4, 5, 6] [(1, pt z), (3, .slice aH2 hm2.length cH2), (4, i6 (i : Int)), (qjbh_3 c i k y24), (qjbh_5 k)] ?_
                 refine e_inv (fun a w' hs => ⟨(gd c.Cores.xs i).xs.length - (k + 1), by omega, (n7 + 1), (k + 1), hm2, aH2, cH2, rfl, by omega, by omega, home_skip hH2, (by (try dsimp only [qjbh_0, qjbh_1, qjbh_2, qjbh_3, qjbh_4, qjbh_5] at hs ⊢); rw [eS]; exact hs)⟩)
               · refine q_cS 8 0 [0] [[o0, (a1 3), oF]] [Qb n7, BF ((y24.Partition : Int) < 0)] [(1, pt z), (3, .slice aH2 hm2.length cH2), (4, i6 (i : Int)), (qjbh_3 c i k y24), (6, i6 (k : Int)), (7, pt n7), (62, .bool false)] rfl ⟨rfl, bf (by omega), trivial⟩ ?_
                 refine g_rowat (base := z) (e := 3) (sz := 1) (cells := (fun x : Int => [i6 x])) (a := aH2) (n := hm2.length) (cap := cH2) (xs := hm2) 2 (by omega) (fun b31 hg32 hb33 => ?_)
                 subst hg32
                 by_cases h34 : ((gd hm2 ((y24.Partition).toNat)) : Int) = 0
                 · refine q_cS 7 6 [0] [[o0, o0, (a1 3), (oi ((y24.Partition).toNat)), (oa [.via 2 (i6 (gd hm2 ((y24.Partition).toNat)))]), oF, o0, o0], [o0, o0, (a1 3), o0, (ov (i6 ((i + 1 : Nat) : Int))), (oi ((y24.Partition).toNat))]] [Qb n7, (y24.Partition : Int) = (((y24.Partition).toNat : Nat) : Int), (y24.Partition).toNat < hm2.length, (none : Option Nat) = none, ∀ w', Ch.holds (qjbh_1 z b31 hm2 cH2) w' → w'.cell? ⟨b31, 0 + (y24.Partition).toNat, none⟩ = some (i6 (gd hm2 ((y24.Partition).toNat))), NF (gd hm2 ((y24.Partition).toNat)) 0, Qb n7, Wr (((i : Int) : Int) + 1) (((i + 1 : Nat) : Int)), (y24.Partition : Int) = (((y24.Partition).toNat : Nat) : Int), (y24.Partition).toNat < hm2.length, (none : Option Nat) = none] [(1, pt z), (qjbh_4 b31 hm2 cH2), (4, i6 (i : Int)), (qjbh_3 c i k y24), (6, i6 (k : Int)), (83, i6 ((i + 1 : Nat) : Int)), (84, .pointer (some ⟨b31, 0 + (y24.Partition).toNat, none⟩))] rfl ⟨rfl, (by omega), (by omega), rfl, rowL_cell (sz := 1) (j := (y24.Partition).toNat) (k := 0) (fun _ => rfl) (by omega) rfl, nf (by omega), rfl, wrI, (by omega), (by omega), rfl, trivial⟩ ?_
                   refine l_rowset 2 ((y24.Partition).toNat) 0 hm2 ((i + 1 : Nat) : Int) (fun x : Int => [i6 x]) z 3 1 b31 hm2.length cH2 (i6 ((i + 1 : Nat) : Int)) none (by omega) rfl ?_
                   refine q_rS 5 0 [] [[], [o0, (ov (i6 ((k + 1 : Nat) : Int))), o0]] [Wr (((k : Int) : Int) + 1) (((k + 1 : Nat) : Int))] [(1, pt z), (qjbh_4 b31 hm2 cH2), (4, i6 (i : Int)), (qjbh_3 c i k y24), (qjbh_5 k)] rfl ⟨wrI, trivial⟩ ?_
                   refine e_pick [0, 1, 2] [(old0 w), (qjbh_0 z c), (rowL z 3 1 (fun x : Int => [i6 x]) (.slice (some ⟨b31, 0, none⟩) hm2.length cH2) (hm2.set ((y24.Partition).toNat) ((i + 1 : Nat) : Int)))] rfl rfl ?_
                   have eS := sumW_succ (corC c i).xs k; rw [e0y24] at eS
                   refine e_keep [1, 3, 4, 5, 6] [(1, pt z), (qjbh_4 b31 hm2 cH2), (4, i6 (i : Int)), (qjbh_3 c i k y24), (qjbh_5 k)] ?_
                   refine e_inv (fun a w' hs => ⟨(gd c.Cores.xs i).xs.length - (k + 1), by omega, (n7 + 1), (k + 1), (hm2.set ((y24.Partition).toNat) ((i + 1 : Nat) : Int)), (some ⟨b31, 0, none⟩), cH2, rfl, by omega, by omega, home_set hH2 (by omega) (by rw [e0y24]; omega) (by omega), (by (try dsimp only [qjbh_0, qjbh_1, qjbh_2, qjbh_3, qjbh_4, qjbh_5] at hs ⊢); rw [eS, List.length_set]; exact hs)⟩)
                 · by_cases h35 : ((gd hm2 ((y24.Partition).toNat)) : Int) = ((i + 1 : Nat) : Int)
                   · refine q_cS 7 6 [0] [[o0, o0, (a1 3), (oi ((y24.Partition).toNat)), (oa [.via 2 (i6 (gd hm2 ((y24.Partition).toNat)))]), oT, o0, o0, o0, (a1 3), (oi ((y24.Partition).toNat)), (oa [.via 2 (i6 (gd hm2 ((y24.Partition).toNat)))]), o0, (ov (i6 ((i + 1 : Nat) : Int))), oF, o0], [o0, o0, (a1 3), o0, (ov (i6 ((i + 1 : Nat) : Int))), (oi ((y24.Partition).toNat))]] [Qb n7, (y24.Partition : Int) = (((y24.Partition).toNat : Nat) : Int), (y24.Partition).toNat < hm2.length, (none : Option Nat) = none, ∀ w', Ch.holds (qjbh_1 z b31 hm2 cH2) w' → w'.cell? ⟨b31, 0 + (y24.Partition).toNat, none⟩ = some (i6 (gd hm2 ((y24.Partition).toNat))), NT (gd hm2 ((y24.Partition).toNat)) 0, Qb n7, (y24.Partition : Int) = (((y24.Partition).toNat : Nat) : Int), (y24.Partition).toNat < hm2.length, (none : Option Nat) = none, ∀ w', Ch.holds (qjbh_1 z b31 hm2 cH2) w' → w'.cell? ⟨b31, 0 + (y24.Partition).toNat, none⟩ = some (i6 (gd hm2 ((y24.Partition).toNat))), Wr (((i : Int) : Int) + 1) (((i + 1 : Nat) : Int)), NF (gd hm2 ((y24.Partition).toNat)) ((i + 1 : Nat) : Int), Qb n7, Wr (((i : Int) : Int) + 1) (((i + 1 : Nat) : Int)), (y24.Partition : Int) = (((y24.Partition).toNat : Nat) : Int), (y24.Partition).toNat < hm2.length, (none : Option Nat) = none] [(1, pt z), (qjbh_4 b31 hm2 cH2), (4, i6 (i : Int)), (qjbh_3 c i k y24), (6, i6 (k : Int)), (83, i6 ((i + 1 : Nat) : Int)), (84, .pointer (some ⟨b31, 0 + (y24.Partition).toNat, none⟩))] rfl ⟨rfl, (by omega), (by omega), rfl, rowL_cell (sz := 1) (j := (y24.Partition).toNat) (k := 0) (fun _ => rfl) (by omega) rfl, nt (by omega), rfl, (by omega), (by omega), rfl, rowL_cell (sz := 1) (j := (y24.Partition).toNat) (k := 0) (fun _ => rfl) (by omega) rfl, wrI, nf (by omega), rfl, wrI, (by omega), (by omega), rfl, trivial⟩ ?_
                     refine l_rowset 2 ((y24.Partition).toNat) 0 hm2 ((i + 1 : Nat) : Int) (fun x : Int => [i6 x]) z 3 1 b31 hm2.length cH2 (i6 ((i + 1 : Nat) : Int)) none (by omega) rfl ?_
                     refine q_rS 5 0 [] [[], [o0, (ov (i6 ((k + 1 : Nat) : Int))), o0]] [Wr (((k : Int) : Int) + 1) (((k + 1 : Nat) : Int))] [(1, pt z), (qjbh_4 b31 hm2 cH2), (4, i6 (i : Int)), (qjbh_3 c i k y24), (qjbh_5 k)] rfl ⟨wrI, trivial⟩ ?_
                     refine e_pick [0, 1, 2] [(old0 w), (qjbh_0 z c), (rowL z 3 1 (fun x : Int => [i6 x]) (.slice (some ⟨b31, 0, none⟩) hm2.length cH2) (hm2.set ((y24.Partition).toNat) ((i + 1 : Nat) : Int)))] rfl rfl ?_
                     have eS := sumW_succ (corC c i).xs k; rw [e0y24] at eS
                     refine e_keep [1, 3, 4, 5, 6] [(1, pt z), (qjbh_4 b31 hm2 cH2), (4, i6 (i : Int)), (qjbh_3 c i k y24), (qjbh_5 k)] ?_
                     refine e_inv (fun a w' hs => ⟨(gd c.Cores.xs i).xs.length - (k + 1), by omega, (n7 + 1), (k + 1), (hm2.set ((y24.Partition).toNat) ((i + 1 : Nat) : Int)), (some ⟨b31, 0, none⟩), cH2, rfl, by omega, by omega, home_set hH2 (by omega) (by rw [e0y24]; omega) (by omega), (by (try dsimp only [qjbh_0, qjbh_1, qjbh_2, qjbh_3, qjbh_4, qjbh_5] at hs ⊢); rw [eS, List.length_set]; exact hs)⟩)
                   · refine q_cS 9 0 [1] [[o0, o0, (a1 3), (oi ((y24.Partition).toNat)), (oa [.via 2 (i6 (gd hm2 ((y24.Partition).toNat)))]), oT, o0, o0, o0, (a1 3), (oi ((y24.Partition).toNat)), (oa [.via 2 (i6 (gd hm2 ((y24.Partition).toNat)))]), o0, (ov (i6 ((i + 1 : Nat) : Int))), oT, o0], [o0]] [Qb n7, (y24.Partition : Int) = (((y24.Partition).toNat : Nat) : Int), (y24.Partition).toNat < hm2.length, (none : Option Nat) = none, ∀ w', Ch.holds (qjbh_1 z b31 hm2 cH2) w' → w'.cell? ⟨b31, 0 + (y24.Partition).toNat, none⟩ = some (i6 (gd hm2 ((y24.Partition).toNat))), NT (gd hm2 ((y24.Partition).toNat)) 0, Qb n7, (y24.Partition : Int) = (((y24.Partition).toNat : Nat) : Int), (y24.Partition).toNat < hm2.length, (none : Option Nat) = none, ∀ w', Ch.holds (qjbh_1 z b31 hm2 cH2) w' → w'.cell? ⟨b31, 0 + (y24.Partition).toNat, none⟩ = some (i6 (gd hm2 ((y24.Partition).toNat))), Wr (((i : Int) : Int) + 1) (((i + 1 : Nat) : Int)), NT (gd hm2 ((y24.Partition).toNat)) ((i + 1 : Nat) : Int)] [(2, .bool false)] rfl ⟨rfl, (by omega), (by omega), rfl, rowL_cell (sz := 1) (j := (y24.Partition).toNat) (k := 0) (fun _ => rfl) (by omega) rfl, nt (by omega), rfl, (by omega), (by omega), rfl, rowL_cell (sz := 1) (j := (y24.Partition).toNat) (k := 0) (fun _ => rfl) (by omega) rfl, wrI, nt (by omega), trivial⟩ ?_
                     refine e_ret [] [] (.bool false) trivial ?_
                     intro w36 hw36
                     exfalso; first | omega | (have e9 := hG.sum i (by omega); have e8 : (corC c i).xs.length = k := (by dsimp only [corC]; omega); rw [e8] at e9; omega) | (have e7 := home_at (p := y24.Partition.toNat) hG hH2 (by omega) (by omega) (by rw [e0y24]; omega) (by omega); omega)
             · refine q_cS 9 0 [1] [[o0, (a1 3), oF, o0, o0, (a1 3), oF, o0, o0, o0, (a1 3), o0, (a1 1), o0, oT, o0], [o0]] [Qb n7, BF ((y24.Slack : Int) < 82), Qb n7, BF ((y24.Usable : Int) < 1), Qb n7, Qb z, BT ((y24.Partition : Int) ≥ ((c.Partitions.xs.length : Nat) : Int))] [(2, .bool false)] rfl ⟨rfl, bf (by omega), rfl, bf (by omega), rfl, rfl, bt (by omega), trivial⟩ ?_
               refine e_ret [] [] (.bool false) trivial ?_
               intro w37 hw37
               exfalso; first | omega | (have e9 := hG.sum i (by omega); have e8 : (corC c i).xs.length = k := (by dsimp only [corC]; omega); rw [e8] at e9; omega) | (have e7 := home_at (p := y24.Partition.toNat) hG hH2 (by omega) (by omega) (by rw [e0y24]; omega) (by omega); omega)
       · refine q_cS 10 0 [0] [[o0, o0, ⟨.auto [.at 1], some (.slice (some ⟨b8, o9, none⟩) c.Cores.xs.length c.Cores.cap)⟩, o0, (oi i), (oa [.via 0 (.slice y15.a y15.xs.length y15.cap)]), o0, oF]] [Qb z, Value.slice c.Cores.a c.Cores.xs.length c.Cores.cap = Value.slice (some ⟨b8, o9, none⟩) c.Cores.xs.length c.Cores.cap, ((i : Int) : Int) = ((i : Nat) : Int), i < c.Cores.xs.length, (none : Option Nat) = none, Old w b8 (o9 + i) (.slice y15.a y15.xs.length y15.cap), BF (((k : Int) : Int) < ((y15.xs.length : Nat) : Int))] [(1, pt z), (3, .slice aH2 hm2.length cH2), (4, i6 (i : Int)), (5, i6 (sumW (corC c i).xs k)), (6, i6 (k : Int)), (26, .bool false)] rfl ⟨rfl, congrArg (fun a => Value.slice a _ _) ha10, rfl, (by omega), rfl, old_cell' (hc13 0 _ rfl), bf (by omega), trivial⟩ ?_
         by_cases h38 : (sumW (corC c i).xs k : Int) = c.Major
         · refine q_cS 9 0 [0] [[o0, o0, (a1 1), oF], [o0, (ov (i6 ((i + 1 : Nat) : Int))), o0]] [Qb z, NF (sumW (corC c i).xs k) c.Major, Wr (((i : Int) : Int) + 1) (((i + 1 : Nat) : Int))] [(1, pt z), (3, .slice aH2 hm2.length cH2), (4, i6 ((i + 1 : Nat) : Int))] rfl ⟨rfl, nf (by omega), wrI, trivial⟩ ?_
           refine e_inv (fun a w' hs => ⟨c.Cores.xs.length - (i + 1), by omega, n7, (i + 1), hm2, aH2, cH2, rfl, by omega, by omega, home_next (by rw [show (gd c.Cores.xs i).xs.length = k from by omega]; exact hH2), hs⟩)
         · refine q_cS 9 0 [1] [[o0, o0, (a1 1), oT], [o0]] [Qb z, NT (sumW (corC c i).xs k) c.Major] [(2, .bool false)] rfl ⟨rfl, nt (by omega), trivial⟩ ?_
           refine e_ret [] [] (.bool false) trivial ?_
           intro w39 hw39
           exfalso; first | omega | (have e9 := hG.sum i (by omega); have e8 : (corC c i).xs.length = k := (by dsimp only [corC]; omega); rw [e8] at e9; omega) | (have e7 := home_at (p := y24.Partition.toNat) hG hH2 (by omega) (by omega) (by rw [e0y24]; omega) (by omega); omega)
   · refine q_cS 10 0 [0] [[o0, o0, (a1 1), o0, oF]] [Qb z, BF (((i : Int) : Int) < ((c.Cores.xs.length : Nat) : Int))] [(1, pt z), (3, .slice aH hmG.length cH), (4, i6 (i : Int)), (16, .bool false)] rfl ⟨rfl, bf (by omega), trivial⟩ ?_
     by_cases h40 : (0 : Int) < ((c.Cores.xs.length : Nat) : Int)
     · refine q_cS 4 0 [] [[o0, (a1 1), o0, oT, o0]] [Qb z, BT ((((c.Cores.xs.length : Nat) : Int) : Int) > 0)] [(2, .bool true)] rfl ⟨rfl, bt (by omega), trivial⟩ ?_
       refine e_ret [] [] (.bool true) trivial ?_
       intro w41 hw41
       exact ⟨rfl, back0 hw41⟩
     · refine q_cS 4 0 [] [[o0, (a1 1), o0, oF, o0]] [Qb z, BF ((((c.Cores.xs.length : Nat) : Int) : Int) > 0)] [(2, .bool false)] rfl ⟨rfl, bf (by omega), trivial⟩ ?_
       refine e_ret [] [] (.bool false) trivial ?_
       intro w42 hw42
       exfalso; first | omega | (have e9 := hG.sum i (by omega); have e8 : (corC c i).xs.length = k := (by dsimp only [corC]; omega); rw [e8] at e9; omega) | (have e7 := home_at (p := y24.Partition.toNat) hG hH2 (by omega) (by omega) (by rw [e0y24]; omega) (by omega); omega)
end Go.Proofs.YtnjhekfgmbpmlaaDoor.Ad
namespace Go.Proofs.YtnjhekfgmbpmlaaDoor.Ad
open Go Go.Proofs.YtnjhekfgmbpmlaaDoor.Eng Go.Proofs.YtnjhekfgmbpmlaaDoor.Mem Go.Proofs.YtnjhekfgmbpmlaaDoor.Ly
set_option linter.unusedSimpArgs false
set_option linter.unusedVariables false
set_option maxRecDepth 100000
def LedOk (f : Int → TPort → Bool) (c : TConfig) (p k : Nat) (l : List Int) : Prop := l.length = c.Channels.xs.length ∧ ∀ h : Nat, h < c.Channels.xs.length → gd l h = ((upP (f h) c.Partitions.xs p + upQ (f h) (gd c.Partitions.xs p).Ports.xs k : Nat) : Int)
theorem led_nil {f : Int → TPort → Bool} {c : TConfig} : LedOk f c 0 0 (List.replicate c.Channels.xs.length 0) := ⟨List.length_replicate, fun p hp => by rw [gd_eq (by simpa using hp)]; simp [upP, upQ]⟩
theorem led_next {f : Int → TPort → Bool} {c : TConfig} {p k : Nat} {l : List Int} (h : LedOk f c p k l) (hk : k = (gd c.Partitions.xs p).Ports.xs.length) : LedOk f c (p + 1) 0 l := ⟨h.1, fun q hq => by
  rw [h.2 q hq, upP_succ, upQ_all _ _ hk]; simp [upQ]⟩
theorem led_skip {f : Int → TPort → Bool} {c : TConfig} {p k : Nat} {l : List Int} (h : LedOk f c p k l) (hk : k < (gd c.Partitions.xs p).Ports.xs.length) (hn : ∀ i, f i (gd (gd c.Partitions.xs p).Ports.xs k) = false) : LedOk f c p (k + 1) l := ⟨h.1, fun q hq => by
  rw [h.2 q hq, upQ_succ _ _ hk, hn]; simp⟩
theorem led_set {f : Int → TPort → Bool} {c : TConfig} {p k j : Nat} {l : List Int} (h : LedOk f c p k l) (hk : k < (gd c.Partitions.xs p).Ports.xs.length) (hj : j < c.Channels.xs.length) (hn : ∀ i : Nat, f i (gd (gd c.Partitions.xs p).Ports.xs k) = decide ((i : Int) = (j : Int))) : LedOk f c p (k + 1) (l.set j (gd l j + 1)) := ⟨by rw [List.length_set]; exact h.1, fun q hq => by
  have hl := h.1
  rw [upQ_succ _ _ hk, hn]
  by_cases e : q = j
  · subst e
    rw [gd_set (by omega), h.2 q hq, if_pos (by simp)]; omega
  · have hne : ¬ ((q : Int) = (j : Int)) := by omega
    rw [gd_set_ne (fun e2 => e e2.symm) (by omega), h.2 q hq]
    simp [hne]⟩
theorem led_bd {f : Int → TPort → Bool} {c : TConfig} {p k h : Nat} {l : List Int} (hG : Good c) (hL : LedOk f c p k l) (hp : p ≤ c.Partitions.xs.length) (hk : k ≤ 8) (hh : h < c.Channels.xs.length) : 0 ≤ gd l h ∧ gd l h ≤ 100 := by
  rw [hL.2 h hh]
  have h1 := upP_le (f := f h) (xs := c.Partitions.xs) (n := p) (m := 8) (fun q hq => hG.qn q (by omega))
  have h2 := upQ_le (f h) (gd c.Partitions.xs p).Ports.xs k
  have h3 := hG.pn
  omega
theorem led_src {c : TConfig} {p : Nat} {l : List Int} (hG : Good c) (hL : LedOk isSrc c p 0 l) (hp : p = c.Partitions.xs.length) : ∀ h, h < c.Channels.xs.length → gd l h = 1 := fun h hh => by
  have h1 := hG.src h hh
  unfold srcC at h1
  rw [hL.2 h hh, hp, h1]; simp [upQ]
theorem led_dst {c : TConfig} {p : Nat} {l : List Int} (hG : Good c) (hL : LedOk isDst c p 0 l) (hp : p = c.Partitions.xs.length) : ∀ h, h < c.Channels.xs.length → 1 ≤ gd l h ∧ gd l h ≤ 4 := fun h hh => by
  have h1 := hG.dst h hh
  unfold dstC at h1
  rw [hL.2 h hh, hp]; simp [upQ]; omega
abbrev qknb_0 (z : Nat) (c : TConfig) : Ch := bk z (TConfig.arr c) 26
abbrev qknb_1 (z : Nat) (b41 : Nat) (sG : List Int) (cS3 : Nat) : Ch := rowL z 3 1 (fun x : Int => [i6 x]) (.slice (some ⟨b41, 0, none⟩) sG.length cS3) sG
abbrev qknb_2 (z : Nat) (b45 : Nat) (dG : List Int) (cD3 : Nat) : Ch := rowL z 3 1 (fun x : Int => [i6 x]) (.slice (some ⟨b45, 0, none⟩) dG.length cD3) dG
abbrev qknb_3 (z : Nat) (aS2 : Option Addr) (sG2 : List Int) (cS2 : Nat) : Ch := rowL z 3 1 (fun x : Int => [i6 x]) (.slice aS2 sG2.length cS2) sG2
abbrev qknb_4 (z : Nat) (aD2 : Option Addr) (dG2 : List Int) (cD2 : Nat) : Ch := rowL z 3 1 (fun x : Int => [i6 x]) (.slice aD2 dG2.length cD2) dG2
theorem led_calls (w : World) (c : TConfig) (hc : TConfig.ok Any w c) (hG : Good c) : Calls Tryd.prog 14 #[.agg (TConfig.arr c)] w fun e w' => e = .returned (.bool true) ∧ Keeps (fun _ => False) w w' := by
 obtain ⟨z, hz⟩ : ∃ z, z = w.heap.size := ⟨_, rfl⟩
 refine calls_G (args := [.agg (TConfig.arr c)]) 97 ⟨w, z, [(old0 w)]⟩ Tryd.func14 rfl (by kernel_rfl) (by kernel_rfl) (sat_0 hz) ?_
 have hpl := hc.Partitions.1.len; have hpc := hc.Channels.1.len; have hGp := hG.pn; have hGh := hG.hn
 refine g_keep [0] [(0, .agg (TConfig.arr c))] ?_
 refine q_c 6 3 [] [[o0, o0], [o0, (a1 1), o0]] [Qb z] [(1, pt z), (11, i6 ((c.Channels.xs.length : Nat) : Int))] ⟨w, z + 1, [(old0 w), (qknb_0 z c)]⟩ rfl ⟨rfl, trivial⟩ ?_
 refine l_makeB z c.Channels.xs.length 0 (fun x : Int => [i6 x]) 3 1 8 (i6 0) (((c.Channels.xs.length : Nat) : Int) : Int) (((c.Channels.xs.length : Nat) : Int) : Int) (some 12) rfl rfl (by omega) (by omega) (show z ≤ z + 1 by omega) (fun n1 (hn2 : z + 1 + 1 ≤ n1) => ?_)
 refine q_rS 4 3 [] [[o0], [o0, (a1 1), o0]] [Qb z] [(1, pt z), (3, .slice (some ⟨z + 1, 0, none⟩) c.Channels.xs.length c.Channels.xs.length), (15, i6 ((c.Channels.xs.length : Nat) : Int))] rfl ⟨rfl, trivial⟩ ?_
 refine l_makeB z c.Channels.xs.length 0 (fun x : Int => [i6 x]) 3 1 8 (i6 0) (((c.Channels.xs.length : Nat) : Int) : Int) (((c.Channels.xs.length : Nat) : Int) : Int) (some 16) rfl rfl (by omega) (by omega) (show z ≤ n1 by omega) (fun n3 (hn4 : n1 + 1 ≤ n3) => ?_)
 refine q_rS 8 0 [] [[o0], [o0]] [] [(1, pt z), (3, .slice (some ⟨z + 1, 0, none⟩) c.Channels.xs.length c.Channels.xs.length), (4, .slice (some ⟨n1, 0, none⟩) c.Channels.xs.length c.Channels.xs.length), (5, i6 0)] rfl trivial ?_
 refine g_loop (fun m a w' => ∃ (n6 : Nat) (p : Nat) (sG : List Int) (dG : List Int) (aS : Option Addr) (cS : Nat) (aD : Option Addr) (cD : Nat), m = c.Partitions.xs.length - p ∧ n3 ≤ n6 ∧ (p ≤ c.Partitions.xs.length) ∧ (LedOk isSrc c p 0 sG) ∧ (LedOk isDst c p 0 dG) ∧ St 97 [(1, pt z), (3, .slice aS sG.length cS), (4, .slice aD dG.length cD), (5, i6 (p : Int))] [] ⟨w, n6, [(old0 w), (qknb_0 z c), (rowL z 3 1 (fun x : Int => [i6 x]) (.slice aS sG.length cS) sG), (rowL z 3 1 (fun x : Int => [i6 x]) (.slice aD dG.length cD) dG)]⟩ a w') (c.Partitions.xs.length - 0) ?_ ?_
 · intro a w' hs; exact ⟨n3, 0, (List.replicate c.Channels.xs.length 0), (List.replicate c.Channels.xs.length 0), (some ⟨z + 1, 0, none⟩), c.Channels.xs.length, (some ⟨n1, 0, none⟩), c.Channels.xs.length, rfl, Nat.le_refl _, Nat.zero_le _, led_nil, led_nil, (by (try dsimp only [qknb_0, qknb_1, qknb_2, qknb_3, qknb_4] at hs ⊢); rw [List.length_replicate]; exact hs)⟩
 · rintro m a w' ⟨n6, p, sG, dG, aS, cS, aD, cD, rfl, hn5, hkp, hS, hD, hs⟩
   refine (?_ : G Tryd.prog 97 [(1, pt z), (3, .slice aS sG.length cS), (4, .slice aD dG.length cD), (5, i6 (p : Int))] [] ⟨w, n6, [(old0 w), (qknb_0 z c), (rowL z 3 1 (fun x : Int => [i6 x]) (.slice aS sG.length cS) sG), (rowL z 3 1 (fun x : Int => [i6 x]) (.slice aD dG.length cD) dG)]⟩ _ _ _) a w' hs
   clear hs a w'
   have hSl := hS.1; have hDl := hD.1
   refine g_seq <| g_seq ?_
   by_cases h7 : ((p : Int) : Int) < ((c.Partitions.xs.length : Nat) : Int)
   · refine q_cS 13 0 [1] [[o0, o0, (a1 1), o0, oT], [o0]] [Qb z, BT (((p : Int) : Int) < ((c.Partitions.xs.length : Nat) : Int))] [(1, pt z), (3, .slice aS sG.length cS), (4, .slice aD dG.length cD), (5, i6 (p : Int)), (6, i6 0)] rfl ⟨rfl, bt (by omega), trivial⟩ ?_
     refine g_loop (fun m a w' => ∃ (n9 : Nat) (k : Nat) (sG2 : List Int) (dG2 : List Int) (aS2 : Option Addr) (cS2 : Nat) (aD2 : Option Addr) (cD2 : Nat), m = (gd c.Partitions.xs p).Ports.xs.length - k ∧ n6 ≤ n9 ∧ (k ≤ (gd c.Partitions.xs p).Ports.xs.length) ∧ (LedOk isSrc c p k sG2) ∧ (LedOk isDst c p k dG2) ∧ St 97 [(1, pt z), (3, .slice aS2 sG2.length cS2), (4, .slice aD2 dG2.length cD2), (5, i6 (p : Int)), (6, i6 (k : Int))] [] ⟨w, n9, [(old0 w), (qknb_0 z c), (qknb_3 z aS2 sG2 cS2), (qknb_4 z aD2 dG2 cD2)]⟩ a w') ((gd c.Partitions.xs p).Ports.xs.length - 0) ?_ ?_
     · intro a w' hs; exact ⟨n6, 0, sG, dG, aS, cS, aD, cD, rfl, Nat.le_refl _, Nat.zero_le _, hS, hD, hs⟩
     · rintro m a w' ⟨n9, k, sG2, dG2, aS2, cS2, aD2, cD2, rfl, hn8, hkk, hS2, hD2, hs⟩
       refine (?_ : G Tryd.prog 97 [(1, pt z), (3, .slice aS2 sG2.length cS2), (4, .slice aD2 dG2.length cD2), (5, i6 (p : Int)), (6, i6 (k : Int))] [] ⟨w, n9, [(old0 w), (qknb_0 z c), (qknb_3 z aS2 sG2 cS2), (qknb_4 z aD2 dG2 cD2)]⟩ _ _ _) a w' hs
       clear hs a w'
       have hS2l := hS2.1; have hD2l := hD2.1
       have hqn := hG.qn p (by omega)
       refine g_seq <| g_seq ?_
       obtain ⟨b10, o11, ha12, hF14, hc13⟩ := (hc.Partitions).1.all (show 0 < c.Partitions.xs.length by omega)
       replace ha12 : c.Partitions.a = some ⟨b10, o11, none⟩ := ha12
       have hc15 := hc13 p (show p < c.Partitions.xs.length by omega)
       have he16 := (hc.Partitions).2 p (show p < c.Partitions.xs.length by omega)
       obtain ⟨y17, hy17⟩ : ∃ y_, y_ = gd c.Partitions.xs p := ⟨_, rfl⟩
       rw [← hy17] at he16 hc15
       have hyly17 := he16.Ports.1.len; have hley17 : y17.Ports.xs.length = (gd c.Partitions.xs p).Ports.xs.length := (by rw [hy17])
       by_cases h18 : ((k : Int) : Int) < ((y17.Ports.xs.length : Nat) : Int)
       · refine q_cS 9 0 [1] [[o0, o0, ⟨.auto [.at 1], some (.slice (some ⟨b10, o11, none⟩) c.Partitions.xs.length c.Partitions.cap)⟩, o0, (oi p), o0, (oa [.via 0 (.slice y17.Ports.a y17.Ports.xs.length y17.Ports.cap)]), o0, oT]] [Qb z, Value.slice c.Partitions.a c.Partitions.xs.length c.Partitions.cap = Value.slice (some ⟨b10, o11, none⟩) c.Partitions.xs.length c.Partitions.cap, ((p : Int) : Int) = ((p : Nat) : Int), p < c.Partitions.xs.length, (none : Option Nat) = none, Old w b10 (o11 + p * 8 + 7) (.slice y17.Ports.a y17.Ports.xs.length y17.Ports.cap), BT (((k : Int) : Int) < ((y17.Ports.xs.length : Nat) : Int))] [(1, pt z), (3, .slice aS2 sG2.length cS2), (4, .slice aD2 dG2.length cD2), (5, i6 (p : Int)), (6, i6 (k : Int)), (32, .bool true)] rfl ⟨rfl, congrArg (fun a => Value.slice a _ _) ha12, rfl, (by omega), rfl, old_cell' (hc15 7 _ rfl), bt (by omega), trivial⟩ ?_
         obtain ⟨b19, o20, ha21, hF23, hc22⟩ := (he16.Ports).1.all (show 0 < y17.Ports.xs.length by omega)
         replace ha21 : y17.Ports.a = some ⟨b19, o20, none⟩ := ha21
         have hc24 := hc22 k (show k < y17.Ports.xs.length by omega)
         have he25 := (he16.Ports).2 k (show k < y17.Ports.xs.length by omega)
         obtain ⟨y26, hy26⟩ : ∃ y_, y_ = gd y17.Ports.xs k := ⟨_, rfl⟩
         rw [← hy26] at he25 hc24
         have e0y26 : gd (gd c.Partitions.xs p).Ports.xs k = y26 := (by rw [hy26, hy17])
         have hqy26 := hG.port p k (by omega) (by omega); dsimp only [prtC] at hqy26; rw [e0y26] at hqy26
         have hbsy26 := led_bd (h := y26.Channel.toNat) hG hS2 (by omega) (by omega) (by omega); have hbdy26 := led_bd (h := y26.Channel.toNat) hG hD2 (by omega) (by omega) (by omega)
         refine q_c 5 0 [] [[o0, ⟨.auto [.at 1], some (.slice (some ⟨b10, o11, none⟩) c.Partitions.xs.length c.Partitions.cap)⟩, o0, (oi p), o0, ⟨.auto [.via 0 (.slice y17.Ports.a y17.Ports.xs.length y17.Ports.cap)], some (.slice (some ⟨b19, o20, none⟩) y17.Ports.xs.length y17.Ports.cap)⟩, o0, (oi k), (ol 0 (TPort.arr y26)), o0, (an 2 4)]] [Qb z, Value.slice c.Partitions.a c.Partitions.xs.length c.Partitions.cap = Value.slice (some ⟨b10, o11, none⟩) c.Partitions.xs.length c.Partitions.cap, ((p : Int) : Int) = ((p : Nat) : Int), p < c.Partitions.xs.length, (none : Option Nat) = none, Old w b10 (o11 + p * 8 + 7) (.slice y17.Ports.a y17.Ports.xs.length y17.Ports.cap), Value.slice y17.Ports.a y17.Ports.xs.length y17.Ports.cap = Value.slice (some ⟨b19, o20, none⟩) y17.Ports.xs.length y17.Ports.cap, ((k : Int) : Int) = ((k : Nat) : Int), k < y17.Ports.xs.length, (none : Option Nat) = none, OldR w b19 (o20 + k * 2) (TPort.arr y26), Qb n9, Qb n9] [(1, pt z), (3, .slice aS2 sG2.length cS2), (4, .slice aD2 dG2.length cD2), (5, i6 (p : Int)), (6, i6 (k : Int)), (7, pt n9)] ⟨w, n9 + 1, [(old0 w), (qknb_0 z c), (qknb_3 z aS2 sG2 cS2), (qknb_4 z aD2 dG2 cD2), (bk n9 (TPort.arr y26) 57)]⟩ rfl ⟨rfl, congrArg (fun a => Value.slice a _ _) ha12, rfl, (by omega), rfl, old_cell' (hc15 7 _ rfl), congrArg (fun a => Value.slice a _ _) ha21, rfl, (by omega), rfl, old_row hc24, rfl, rfl, trivial⟩ ?_
         by_cases h27 : (y26.Channel : Int) < 0
         · refine q_cS 9 0 [1] [[o0, (a1 4), oT, o0, o0], [o0]] [Qb n9, BT ((y26.Channel : Int) < 0)] [(2, .bool false)] rfl ⟨rfl, bt (by omega), trivial⟩ ?_
           refine e_ret [] [] (.bool false) trivial ?_
           intro w28 hw28
           exfalso; first | omega | (have a1 := hS1 h (by omega); have a2 := hD1 h (by omega); omega)
         · by_cases h29 : (y26.Channel : Int) < ((c.Channels.xs.length : Nat) : Int)
           · refine q_cS 10 0 [0] [[o0, (a1 4), oF, o0, o0, (a1 4), o0, (a1 1), o0, oF, o0], [o0, (a1 4)]] [Qb n9, BF ((y26.Channel : Int) < 0), Qb n9, Qb z, BF ((y26.Channel : Int) ≥ ((c.Channels.xs.length : Nat) : Int)), Qb n9] [(1, pt z), (3, .slice aS2 sG2.length cS2), (4, .slice aD2 dG2.length cD2), (5, i6 (p : Int)), (6, i6 (k : Int)), (7, pt n9), (56, .bool y26.Source)] rfl ⟨rfl, bf (by omega), rfl, rfl, bf (by omega), rfl, trivial⟩ ?_
             by_cases h30 : y26.Source = true
             · refine g_true ?_ (congrArg Value.bool h30)
               refine g_rowat (base := z) (e := 3) (sz := 1) (cells := (fun x : Int => [i6 x])) (a := aS2) (n := sG2.length) (cap := cS2) (xs := sG2) 2 (by omega) (fun b31 hg32 hb33 => ?_)
               subst hg32
               refine q_cS 1 7 [] [[o0, o0, (a1 4), (oi ((y26.Channel).toNat)), (oa [.via 2 (i6 (gd sG2 ((y26.Channel).toNat)))]), (ov (i6 ((gd sG2 ((y26.Channel).toNat)) + 1))), (oi ((y26.Channel).toNat))]] [Qb n9, (y26.Channel : Int) = (((y26.Channel).toNat : Nat) : Int), (y26.Channel).toNat < sG2.length, (none : Option Nat) = none, ∀ w', Ch.holds (rowL z 3 1 (fun x : Int => [i6 x]) (.slice (some ⟨b31, 0, none⟩) sG2.length cS2) sG2) w' → w'.cell? ⟨b31, 0 + (y26.Channel).toNat, none⟩ = some (i6 (gd sG2 ((y26.Channel).toNat))), Wr (((gd sG2 ((y26.Channel).toNat)) : Int) + 1) ((gd sG2 ((y26.Channel).toNat)) + 1), (y26.Channel : Int) = (((y26.Channel).toNat : Nat) : Int), (y26.Channel).toNat < sG2.length, (none : Option Nat) = none] [(1, pt z), (3, .slice (some ⟨b31, 0, none⟩) sG2.length cS2), (4, .slice aD2 dG2.length cD2), (5, i6 (p : Int)), (6, i6 (k : Int)), (62, i6 ((gd sG2 ((y26.Channel).toNat)) + 1)), (63, .pointer (some ⟨b31, 0 + (y26.Channel).toNat, none⟩))] rfl ⟨rfl, (by omega), (by omega), rfl, rowL_cell (sz := 1) (j := (y26.Channel).toNat) (k := 0) (fun _ => rfl) (by omega) rfl, wrI, (by omega), (by omega), rfl, trivial⟩ ?_
               refine l_rowset 2 ((y26.Channel).toNat) 0 sG2 ((gd sG2 ((y26.Channel).toNat)) + 1) (fun x : Int => [i6 x]) z 3 1 b31 sG2.length cS2 (i6 ((gd sG2 ((y26.Channel).toNat)) + 1)) none (by omega) rfl ?_
               refine q_rS 5 0 [] [[], [o0, (ov (i6 ((k + 1 : Nat) : Int))), o0]] [Wr (((k : Int) : Int) + 1) (((k + 1 : Nat) : Int))] [(1, pt z), (3, .slice (some ⟨b31, 0, none⟩) sG2.length cS2), (4, .slice aD2 dG2.length cD2), (5, i6 (p : Int)), (6, i6 ((k + 1 : Nat) : Int))] rfl ⟨wrI, trivial⟩ ?_
               refine e_pick [0, 1, 2, 3] [(old0 w), (qknb_0 z c), (rowL z 3 1 (fun x : Int => [i6 x]) (.slice (some ⟨b31, 0, none⟩) sG2.length cS2) (sG2.set ((y26.Channel).toNat) ((gd sG2 ((y26.Channel).toNat)) + 1))), (qknb_4 z aD2 dG2 cD2)] rfl rfl ?_
               refine e_keep [1, 3, 4, 5, 6] [(1, pt z), (3, .slice (some ⟨b31, 0, none⟩) sG2.length cS2), (4, .slice aD2 dG2.length cD2), (5, i6 (p : Int)), (6, i6 ((k + 1 : Nat) : Int))] ?_
               refine e_inv (fun a w' hs => ⟨(gd c.Partitions.xs p).Ports.xs.length - (k + 1), by omega, (n9 + 1), (k + 1), (sG2.set ((y26.Channel).toNat) ((gd sG2 ((y26.Channel).toNat)) + 1)), dG2, (some ⟨b31, 0, none⟩), cS2, aD2, cD2, rfl, by omega, by omega, led_set hS2 (by omega) (by omega) (fun i => by unfold isSrc; rw [e0y26, (show y26.Source = true from h30)]; simp; omega), led_skip hD2 (by omega) (fun i => by unfold isDst; rw [e0y26, (show y26.Source = true from h30)]; simp), (by (try dsimp only [qknb_0, qknb_1, qknb_2, qknb_3, qknb_4] at hs ⊢); rw [List.length_set]; exact hs)⟩)
             · refine g_false ?_ (congrArg Value.bool (Bool.eq_false_iff.2 h30))
               refine g_rowat (base := z) (e := 3) (sz := 1) (cells := (fun x : Int => [i6 x])) (a := aD2) (n := dG2.length) (cap := cD2) (xs := dG2) 3 (by omega) (fun b34 hg35 hb36 => ?_)
               subst hg35
               refine q_cS 1 7 [] [[o0, o0, (a1 4), (oi ((y26.Channel).toNat)), (oa [.via 3 (i6 (gd dG2 ((y26.Channel).toNat)))]), (ov (i6 ((gd dG2 ((y26.Channel).toNat)) + 1))), (oi ((y26.Channel).toNat))]] [Qb n9, (y26.Channel : Int) = (((y26.Channel).toNat : Nat) : Int), (y26.Channel).toNat < dG2.length, (none : Option Nat) = none, ∀ w', Ch.holds (rowL z 3 1 (fun x : Int => [i6 x]) (.slice (some ⟨b34, 0, none⟩) dG2.length cD2) dG2) w' → w'.cell? ⟨b34, 0 + (y26.Channel).toNat, none⟩ = some (i6 (gd dG2 ((y26.Channel).toNat))), Wr (((gd dG2 ((y26.Channel).toNat)) : Int) + 1) ((gd dG2 ((y26.Channel).toNat)) + 1), (y26.Channel : Int) = (((y26.Channel).toNat : Nat) : Int), (y26.Channel).toNat < dG2.length, (none : Option Nat) = none] [(1, pt z), (3, .slice aS2 sG2.length cS2), (4, .slice (some ⟨b34, 0, none⟩) dG2.length cD2), (5, i6 (p : Int)), (6, i6 (k : Int)), (69, i6 ((gd dG2 ((y26.Channel).toNat)) + 1)), (70, .pointer (some ⟨b34, 0 + (y26.Channel).toNat, none⟩))] rfl ⟨rfl, (by omega), (by omega), rfl, rowL_cell (sz := 1) (j := (y26.Channel).toNat) (k := 0) (fun _ => rfl) (by omega) rfl, wrI, (by omega), (by omega), rfl, trivial⟩ ?_
               refine l_rowset 3 ((y26.Channel).toNat) 0 dG2 ((gd dG2 ((y26.Channel).toNat)) + 1) (fun x : Int => [i6 x]) z 3 1 b34 dG2.length cD2 (i6 ((gd dG2 ((y26.Channel).toNat)) + 1)) none (by omega) rfl ?_
               refine q_rS 5 0 [] [[], [o0, (ov (i6 ((k + 1 : Nat) : Int))), o0]] [Wr (((k : Int) : Int) + 1) (((k + 1 : Nat) : Int))] [(1, pt z), (3, .slice aS2 sG2.length cS2), (4, .slice (some ⟨b34, 0, none⟩) dG2.length cD2), (5, i6 (p : Int)), (6, i6 ((k + 1 : Nat) : Int))] rfl ⟨wrI, trivial⟩ ?_
               refine e_pick [0, 1, 2, 3] [(old0 w), (qknb_0 z c), (qknb_3 z aS2 sG2 cS2), (rowL z 3 1 (fun x : Int => [i6 x]) (.slice (some ⟨b34, 0, none⟩) dG2.length cD2) (dG2.set ((y26.Channel).toNat) ((gd dG2 ((y26.Channel).toNat)) + 1)))] rfl rfl ?_
               refine e_keep [1, 3, 4, 5, 6] [(1, pt z), (3, .slice aS2 sG2.length cS2), (4, .slice (some ⟨b34, 0, none⟩) dG2.length cD2), (5, i6 (p : Int)), (6, i6 ((k + 1 : Nat) : Int))] ?_
               refine e_inv (fun a w' hs => ⟨(gd c.Partitions.xs p).Ports.xs.length - (k + 1), by omega, (n9 + 1), (k + 1), sG2, (dG2.set ((y26.Channel).toNat) ((gd dG2 ((y26.Channel).toNat)) + 1)), aS2, cS2, (some ⟨b34, 0, none⟩), cD2, rfl, by omega, by omega, led_skip hS2 (by omega) (fun i => by unfold isSrc; rw [e0y26, (show y26.Source = false from by simpa using h30)]; simp), led_set hD2 (by omega) (by omega) (fun i => by unfold isDst; rw [e0y26, (show y26.Source = false from by simpa using h30)]; simp; omega), (by (try dsimp only [qknb_0, qknb_1, qknb_2, qknb_3, qknb_4] at hs ⊢); rw [List.length_set]; exact hs)⟩)
           · refine q_cS 9 0 [1] [[o0, (a1 4), oF, o0, o0, (a1 4), o0, (a1 1), o0, oT, o0], [o0]] [Qb n9, BF ((y26.Channel : Int) < 0), Qb n9, Qb z, BT ((y26.Channel : Int) ≥ ((c.Channels.xs.length : Nat) : Int))] [(2, .bool false)] rfl ⟨rfl, bf (by omega), rfl, rfl, bt (by omega), trivial⟩ ?_
             refine e_ret [] [] (.bool false) trivial ?_
             intro w37 hw37
             exfalso; first | omega | (have a1 := hS1 h (by omega); have a2 := hD1 h (by omega); omega)
       · refine q_cS 12 0 [0] [[o0, o0, ⟨.auto [.at 1], some (.slice (some ⟨b10, o11, none⟩) c.Partitions.xs.length c.Partitions.cap)⟩, o0, (oi p), o0, (oa [.via 0 (.slice y17.Ports.a y17.Ports.xs.length y17.Ports.cap)]), o0, oF], [o0, (ov (i6 ((p + 1 : Nat) : Int))), o0]] [Qb z, Value.slice c.Partitions.a c.Partitions.xs.length c.Partitions.cap = Value.slice (some ⟨b10, o11, none⟩) c.Partitions.xs.length c.Partitions.cap, ((p : Int) : Int) = ((p : Nat) : Int), p < c.Partitions.xs.length, (none : Option Nat) = none, Old w b10 (o11 + p * 8 + 7) (.slice y17.Ports.a y17.Ports.xs.length y17.Ports.cap), BF (((k : Int) : Int) < ((y17.Ports.xs.length : Nat) : Int)), Wr (((p : Int) : Int) + 1) (((p + 1 : Nat) : Int))] [(1, pt z), (3, .slice aS2 sG2.length cS2), (4, .slice aD2 dG2.length cD2), (5, i6 ((p + 1 : Nat) : Int))] rfl ⟨rfl, congrArg (fun a => Value.slice a _ _) ha12, rfl, (by omega), rfl, old_cell' (hc15 7 _ rfl), bf (by omega), wrI, trivial⟩ ?_
         refine e_inv (fun a w' hs => ⟨c.Partitions.xs.length - (p + 1), by omega, n9, (p + 1), sG2, dG2, aS2, cS2, aD2, cD2, rfl, by omega, by omega, led_next hS2 (by omega), led_next hD2 (by omega), hs⟩)
   · refine q_cS 15 0 [0] [[o0, o0, (a1 1), o0, oF], [o0]] [Qb z, BF (((p : Int) : Int) < ((c.Partitions.xs.length : Nat) : Int))] [(1, pt z), (3, .slice aS sG.length cS), (4, .slice aD dG.length cD), (8, i6 0)] rfl ⟨rfl, bf (by omega), trivial⟩ ?_
     refine g_loop (fun m a w' => ∃ (n39 : Nat) (h : Nat) (aS3 : Option Addr) (cS3 : Nat) (aD3 : Option Addr) (cD3 : Nat), m = c.Channels.xs.length - h ∧ n6 ≤ n39 ∧ (h ≤ c.Channels.xs.length) ∧ St 97 [(1, pt z), (3, .slice aS3 sG.length cS3), (4, .slice aD3 dG.length cD3), (8, i6 (h : Int))] [] ⟨w, n39, [(old0 w), (qknb_0 z c), (rowL z 3 1 (fun x : Int => [i6 x]) (.slice aS3 sG.length cS3) sG), (rowL z 3 1 (fun x : Int => [i6 x]) (.slice aD3 dG.length cD3) dG)]⟩ a w') (c.Channels.xs.length - 0) ?_ ?_
     · intro a w' hs; exact ⟨n6, 0, aS, cS, aD, cD, rfl, Nat.le_refl _, Nat.zero_le _, hs⟩
     · rintro m a w' ⟨n39, h, aS3, cS3, aD3, cD3, rfl, hn38, hkh, hs⟩
       refine (?_ : G Tryd.prog 97 [(1, pt z), (3, .slice aS3 sG.length cS3), (4, .slice aD3 dG.length cD3), (8, i6 (h : Int))] [] ⟨w, n39, [(old0 w), (qknb_0 z c), (rowL z 3 1 (fun x : Int => [i6 x]) (.slice aS3 sG.length cS3) sG), (rowL z 3 1 (fun x : Int => [i6 x]) (.slice aD3 dG.length cD3) dG)]⟩ _ _ _) a w' hs
       clear hs a w'
       have hS1 := led_src hG hS (by omega)
       have hD1 := led_dst hG hD (by omega)
       refine g_seq <| g_seq ?_
       by_cases h40 : ((h : Int) : Int) < ((c.Channels.xs.length : Nat) : Int)
       · refine q_cS 9 0 [1] [[o0, o0, (a1 1), o0, oT]] [Qb z, BT (((h : Int) : Int) < ((c.Channels.xs.length : Nat) : Int))] [(1, pt z), (3, .slice aS3 sG.length cS3), (4, .slice aD3 dG.length cD3), (8, i6 (h : Int)), (75, .bool true)] rfl ⟨rfl, bt (by omega), trivial⟩ ?_
         refine g_rowat (base := z) (e := 3) (sz := 1) (cells := (fun x : Int => [i6 x])) (a := aS3) (n := sG.length) (cap := cS3) (xs := sG) 2 (by omega) (fun b41 hg42 hb43 => ?_)
         subst hg42
         by_cases h44 : ((gd sG h) : Int) = 1
         · refine g_rowat (base := z) (e := 3) (sz := 1) (cells := (fun x : Int => [i6 x])) (a := aD3) (n := dG.length) (cap := cD3) (xs := dG) 3 (by omega) (fun b45 hg46 hb47 => ?_)
           subst hg46
           by_cases h48 : ((gd dG h) : Int) < 1
           · refine q_cS 9 0 [1] [[o0, o0, (oi h), (oa [.via 2 (i6 (gd sG h))]), oF, o0, o0, o0, (oi h), (oa [.via 3 (i6 (gd dG h))]), oT, o0, o0, o0], [o0]] [((h : Int) : Int) = ((h : Nat) : Int), h < sG.length, (none : Option Nat) = none, ∀ w', Ch.holds (qknb_1 z b41 sG cS3) w' → w'.cell? ⟨b41, 0 + h, none⟩ = some (i6 (gd sG h)), NF (gd sG h) 1, ((h : Int) : Int) = ((h : Nat) : Int), h < dG.length, (none : Option Nat) = none, ∀ w', Ch.holds (qknb_2 z b45 dG cD3) w' → w'.cell? ⟨b45, 0 + h, none⟩ = some (i6 (gd dG h)), BT (((gd dG h) : Int) < 1)] [(2, .bool false)] rfl ⟨rfl, (by omega), rfl, rowL_cell (sz := 1) (j := h) (k := 0) (fun _ => rfl) (by omega) rfl, nf (by omega), rfl, (by omega), rfl, rowL_cell (sz := 1) (j := h) (k := 0) (fun _ => rfl) (by omega) rfl, bt (by omega), trivial⟩ ?_
             refine e_ret [] [] (.bool false) trivial ?_
             intro w49 hw49
             exfalso; first | omega | (have a1 := hS1 h (by omega); have a2 := hD1 h (by omega); omega)
           · by_cases h50 : (4 : Int) < (gd dG h)
             · refine q_cS 9 0 [1] [[o0, o0, (oi h), (oa [.via 2 (i6 (gd sG h))]), oF, o0, o0, o0, (oi h), (oa [.via 3 (i6 (gd dG h))]), oF, o0, o0, o0, o0, (oi h), (oa [.via 3 (i6 (gd dG h))]), oT, o0], [o0]] [((h : Int) : Int) = ((h : Nat) : Int), h < sG.length, (none : Option Nat) = none, ∀ w', Ch.holds (qknb_1 z b41 sG cS3) w' → w'.cell? ⟨b41, 0 + h, none⟩ = some (i6 (gd sG h)), NF (gd sG h) 1, ((h : Int) : Int) = ((h : Nat) : Int), h < dG.length, (none : Option Nat) = none, ∀ w', Ch.holds (qknb_2 z b45 dG cD3) w' → w'.cell? ⟨b45, 0 + h, none⟩ = some (i6 (gd dG h)), BF (((gd dG h) : Int) < 1), ((h : Int) : Int) = ((h : Nat) : Int), h < dG.length, (none : Option Nat) = none, ∀ w', Ch.holds (qknb_2 z b45 dG cD3) w' → w'.cell? ⟨b45, 0 + h, none⟩ = some (i6 (gd dG h)), BT (((gd dG h) : Int) > 4)] [(2, .bool false)] rfl ⟨rfl, (by omega), rfl, rowL_cell (sz := 1) (j := h) (k := 0) (fun _ => rfl) (by omega) rfl, nf (by omega), rfl, (by omega), rfl, rowL_cell (sz := 1) (j := h) (k := 0) (fun _ => rfl) (by omega) rfl, bf (by omega), rfl, (by omega), rfl, rowL_cell (sz := 1) (j := h) (k := 0) (fun _ => rfl) (by omega) rfl, bt (by omega), trivial⟩ ?_
               refine e_ret [] [] (.bool false) trivial ?_
               intro w51 hw51
               exfalso; first | omega | (have a1 := hS1 h (by omega); have a2 := hD1 h (by omega); omega)
             · refine q_cS 9 0 [0] [[o0, o0, (oi h), (oa [.via 2 (i6 (gd sG h))]), oF, o0, o0, o0, (oi h), (oa [.via 3 (i6 (gd dG h))]), oF, o0, o0, o0, o0, (oi h), (oa [.via 3 (i6 (gd dG h))]), oF, o0], [o0, (ov (i6 ((h + 1 : Nat) : Int))), o0]] [((h : Int) : Int) = ((h : Nat) : Int), h < sG.length, (none : Option Nat) = none, ∀ w', Ch.holds (qknb_1 z b41 sG cS3) w' → w'.cell? ⟨b41, 0 + h, none⟩ = some (i6 (gd sG h)), NF (gd sG h) 1, ((h : Int) : Int) = ((h : Nat) : Int), h < dG.length, (none : Option Nat) = none, ∀ w', Ch.holds (qknb_2 z b45 dG cD3) w' → w'.cell? ⟨b45, 0 + h, none⟩ = some (i6 (gd dG h)), BF (((gd dG h) : Int) < 1), ((h : Int) : Int) = ((h : Nat) : Int), h < dG.length, (none : Option Nat) = none, ∀ w', Ch.holds (qknb_2 z b45 dG cD3) w' → w'.cell? ⟨b45, 0 + h, none⟩ = some (i6 (gd dG h)), BF (((gd dG h) : Int) > 4), Wr (((h : Int) : Int) + 1) (((h + 1 : Nat) : Int))] [(1, pt z), (3, .slice (some ⟨b41, 0, none⟩) sG.length cS3), (4, .slice (some ⟨b45, 0, none⟩) dG.length cD3), (8, i6 ((h + 1 : Nat) : Int))] rfl ⟨rfl, (by omega), rfl, rowL_cell (sz := 1) (j := h) (k := 0) (fun _ => rfl) (by omega) rfl, nf (by omega), rfl, (by omega), rfl, rowL_cell (sz := 1) (j := h) (k := 0) (fun _ => rfl) (by omega) rfl, bf (by omega), rfl, (by omega), rfl, rowL_cell (sz := 1) (j := h) (k := 0) (fun _ => rfl) (by omega) rfl, bf (by omega), wrI, trivial⟩ ?_
               refine e_inv (fun a w' hs => ⟨c.Channels.xs.length - (h + 1), by omega, n39, (h + 1), (some ⟨b41, 0, none⟩), cS3, (some ⟨b45, 0, none⟩), cD3, rfl, by omega, by omega, hs⟩)
         · refine q_cS 9 0 [1] [[o0, o0, (oi h), (oa [.via 2 (i6 (gd sG h))]), oT, o0, o0, o0, o0], [o0]] [((h : Int) : Int) = ((h : Nat) : Int), h < sG.length, (none : Option Nat) = none, ∀ w', Ch.holds (qknb_1 z b41 sG cS3) w' → w'.cell? ⟨b41, 0 + h, none⟩ = some (i6 (gd sG h)), NT (gd sG h) 1] [(2, .bool false)] rfl ⟨rfl, (by omega), rfl, rowL_cell (sz := 1) (j := h) (k := 0) (fun _ => rfl) (by omega) rfl, nt (by omega), trivial⟩ ?_
           refine e_ret [] [] (.bool false) trivial ?_
           intro w52 hw52
           exfalso; first | omega | (have a1 := hS1 h (by omega); have a2 := hD1 h (by omega); omega)
       · refine q_cS 14 0 [0] [[o0, o0, (a1 1), o0, oF], [o0]] [Qb z, BF (((h : Int) : Int) < ((c.Channels.xs.length : Nat) : Int))] [(2, .bool true)] rfl ⟨rfl, bf (by omega), trivial⟩ ?_
         refine e_ret [] [] (.bool true) trivial ?_
         intro w53 hw53
         exact ⟨rfl, back0 hw53⟩
end Go.Proofs.YtnjhekfgmbpmlaaDoor.Ad
namespace Go.Proofs.YtnjhekfgmbpmlaaDoor.Ad
open Go Go.Proofs.YtnjhekfgmbpmlaaDoor.Eng Go.Proofs.YtnjhekfgmbpmlaaDoor.Mem Go.Proofs.YtnjhekfgmbpmlaaDoor.Ly
set_option linter.unusedSimpArgs false
set_option linter.unusedVariables false
set_option maxRecDepth 100000
/-- What memory can hold. -/
structure Lim (c : TConfig) : Prop where
  cl : c.Cores.xs.length * 24 ≤ 140737488351232
  pl : c.Partitions.xs.length * 104 ≤ 140737488351232
  hl : c.Channels.xs.length * 24 ≤ 140737488351232
  ws : ∀ i, i < c.Cores.xs.length → (gd c.Cores.xs i).xs.length * 24 ≤ 140737488351232
  rs : ∀ i, i < c.Partitions.xs.length → (gd c.Partitions.xs i).Regions.xs.length * 32 ≤ 140737488351232
  qs : ∀ i, i < c.Partitions.xs.length → (gd c.Partitions.xs i).Ports.xs.length * 16 ≤ 140737488351232
/-- The lists of a configuration of one's own: rows that lie apart. -/
def confS (n : Nat) (C : TConfig) : List Ch := [rowL n 42 1 (fun x : Sl TWindow => [Sl.val x]) C.Cores.val C.Cores.xs, famC n 44 3 TWindow.cells C.Cores.xs, rowL n 41 8 TPartition.cells C.Partitions.val C.Partitions.xs, famC n 49 4 TRegion.cells (C.Partitions.xs.map TPartition.Regions), famC n 57 2 TPort.cells (C.Partitions.xs.map TPartition.Ports), rowL n 55 3 TChannel.cells C.Channels.val C.Channels.xs]
def ConfOwn (n : Nat) (W : World) (C : TConfig) : Prop := ∃ w0, Sat ⟨w0, W.heap.size, confS n C⟩ W
theorem str_xs {c d : TConfig} (h : strip d = strip c) : d.Cores.xs.length = c.Cores.xs.length ∧ d.Partitions.xs.length = c.Partitions.xs.length ∧ d.Channels.xs = c.Channels.xs ∧ (∀ i, (gd d.Cores.xs i).xs = (gd c.Cores.xs i).xs) ∧ ∀ i, stripP (gd d.Partitions.xs i) = stripP (gd c.Partitions.xs i) := by
  refine ⟨?_, ?_, ?_, fun i => ?_, fun i => ?_⟩
  · rw [← str_cl (c := d), h, str_cl]
  · rw [← str_pl (c := d), h, str_pl]
  · show (strip d).Channels.xs = (strip c).Channels.xs
    rw [h]
  · have e1 := str_c (c := d) i
    have e2 := str_c (c := c) i
    rw [h] at e1
    have := congrArg Sl.xs (e1.symm.trans e2)
    exact this
  · have e1 := str_p (c := d) i
    have e2 := str_p (c := c) i
    rw [h] at e1
    exact e1.symm.trans e2
theorem own_ok {c d : TConfig} {n : Nat} {W W0 : World} {F : Nat → Prop} (hc : TConfig.ok F W0 c) (h : strip d = strip c) (ho : ConfOwn n W d) : TConfig.ok (New n) W d := by
  obtain ⟨w0, hs⟩ := ho
  obtain ⟨h1, h2, h3, h4, h5⟩ := str_xs h
  have r1 : W.ownsRow n 42 1 (.slice d.Cores.a d.Cores.xs.length d.Cores.cap) d.Cores.xs.length (d.Cores.xs.flatMap (fun x : Sl TWindow => [Sl.val x])) := hs.at (i := 0) rfl
  have r2 : (famC n 44 3 TWindow.cells d.Cores.xs).holds W := hs.at (i := 1) rfl
  have r3 : W.ownsRow n 41 8 (.slice d.Partitions.a d.Partitions.xs.length d.Partitions.cap) d.Partitions.xs.length (d.Partitions.xs.flatMap TPartition.cells) := hs.at (i := 2) rfl
  have r4 : (famC n 49 4 TRegion.cells (d.Partitions.xs.map TPartition.Regions)).holds W := hs.at (i := 3) rfl
  have r5 : (famC n 57 2 TPort.cells (d.Partitions.xs.map TPartition.Ports)).holds W := hs.at (i := 4) rfl
  have r6 : W.ownsRow n 55 3 (.slice d.Channels.a d.Channels.xs.length d.Channels.cap) d.Channels.xs.length (d.Channels.xs.flatMap TChannel.cells) := hs.at (i := 5) rfl
  have nums := congrArg (fun c : TConfig => (c.Frames, c.Major, c.Kernel, c.Room)) h
  simp only [Prod.mk.injEq] at nums
  obtain ⟨n1, n2, n3, n4⟩ := nums
  have n1' : d.Frames = c.Frames := n1
  have n2' : d.Major = c.Major := n2
  have n3' : d.Kernel = c.Kernel := n3
  have n4' : d.Room = c.Room := n4
  refine ⟨by rw [n1']; exact hc.Frames, by rw [n2']; exact hc.Major, by rw [n3']; exact hc.Kernel, by rw [n4']; exact hc.Room, ⟨?_, fun i hi => ?_⟩, ⟨?_, fun i hi => ?_⟩, ⟨?_, fun i hi => ?_⟩⟩
  · exact row_sl (fun _ => rfl) r1 (by rw [h1]; exact hc.Cores.1.len)
  · have hi' : i < c.Cores.xs.length := by omega
    refine ⟨fam_sl (cells := TWindow.cells) (hs := d.Cores.xs) (s := gd d.Cores.xs i) (fun _ => rfl) r2 (by rw [gd_eq hi]; exact List.getElem_mem _) (by rw [h4]; exact (hc.Cores.2 i hi').1.len), fun j hj => ?_⟩
    rw [h4] at hj ⊢
    have := (hc.Cores.2 i hi').2 j hj
    exact ⟨this.Partition, this.Usable, this.Slack⟩
  · exact row_sl (fun _ => rfl) r3 (by rw [h2]; exact hc.Partitions.1.len)
  · have hi' : i < c.Partitions.xs.length := by omega
    have hp := hc.Partitions.2 i hi'
    have e := h5 i
    have m1 := congrArg (fun x : TPartition => (x.Name, x.Entry, x.Action, x.Restarts, x.Inputs, x.Outputs)) e
    simp only [Prod.mk.injEq] at m1
    obtain ⟨a1, a2, a3, a4, a5, a6⟩ := m1
    have b1 : (gd d.Partitions.xs i).Name = (gd c.Partitions.xs i).Name := a1
    have b2 : (gd d.Partitions.xs i).Entry = (gd c.Partitions.xs i).Entry := a2
    have b3 : (gd d.Partitions.xs i).Action = (gd c.Partitions.xs i).Action := a3
    have b4 : (gd d.Partitions.xs i).Restarts = (gd c.Partitions.xs i).Restarts := a4
    have b5 : (gd d.Partitions.xs i).Inputs = (gd c.Partitions.xs i).Inputs := a5
    have b6 : (gd d.Partitions.xs i).Outputs = (gd c.Partitions.xs i).Outputs := a6
    have e1 : (gd d.Partitions.xs i).Regions.xs = (gd c.Partitions.xs i).Regions.xs := by have := congrArg (fun x : TPartition => x.Regions.xs) e; exact this
    have e2 : (gd d.Partitions.xs i).Ports.xs = (gd c.Partitions.xs i).Ports.xs := by have := congrArg (fun x : TPartition => x.Ports.xs) e; exact this
    have hm : gd d.Partitions.xs i ∈ d.Partitions.xs := by rw [gd_eq hi]; exact List.getElem_mem _
    refine ⟨by rw [b1]; exact hp.Name, by rw [b2]; exact hp.Entry, by rw [b3]; exact hp.Action, by rw [b4]; exact hp.Restarts, by rw [b5]; exact hp.Inputs, by rw [b6]; exact hp.Outputs, ⟨fam_sl (cells := TRegion.cells) (fun _ => rfl) r4 (List.mem_map_of_mem hm) (by rw [e1]; exact hp.Regions.1.len), fun j hj => ?_⟩, ⟨fam_sl (cells := TPort.cells) (fun _ => rfl) r5 (List.mem_map_of_mem hm) (by rw [e2]; exact hp.Ports.1.len), fun j hj => ?_⟩⟩
    · rw [e1] at hj ⊢
      have := hp.Regions.2 j hj
      exact ⟨this.Page, this.Pages, this.Frame, this.Rights⟩
    · rw [e2] at hj ⊢
      have := hp.Ports.2 j hj
      exact ⟨this.Channel, this.Source⟩
  · exact row_sl (fun _ => rfl) r6 (by rw [h3]; exact hc.Channels.1.len)
  · rw [h3] at hi ⊢
    have := hc.Channels.2 i hi
    exact ⟨this.Kind, this.Words, this.Depth⟩
theorem strip_of {c d : TConfig} (h0 : d.Frames = c.Frames ∧ d.Major = c.Major ∧ d.Kernel = c.Kernel ∧ d.Room = c.Room) (h1 : d.Cores.xs.length = c.Cores.xs.length) (h2 : d.Partitions.xs.length = c.Partitions.xs.length) (h3 : d.Channels.xs = c.Channels.xs) (h4 : ∀ i, i < c.Cores.xs.length → (gd d.Cores.xs i).xs = (gd c.Cores.xs i).xs) (h5 : ∀ i, i < c.Partitions.xs.length → stripP (gd d.Partitions.xs i) = stripP (gd c.Partitions.xs i)) : strip d = strip c := by
  have e1 : d.Cores.xs.map stripS = c.Cores.xs.map stripS := by
    apply List.ext_getElem (by simpa using h1)
    intro i hi hi'
    have := h4 i (by simpa using hi')
    rw [gd_eq (by simpa using hi), gd_eq (by simpa using hi')] at this
    simp [stripS, this]
  have e2 : d.Partitions.xs.map stripP = c.Partitions.xs.map stripP := by
    apply List.ext_getElem (by simpa using h2)
    intro i hi hi'
    have := h5 i (by simpa using hi')
    rw [gd_eq (by simpa using hi), gd_eq (by simpa using hi')] at this
    simpa using this
  obtain ⟨f1, f2, f3, f4⟩ := h0
  unfold strip
  rw [e1, e2, f1, f2, f3, f4]
  simp only [stripS, h3]
abbrev q7o7_0 (n24 : Nat) (y33 : TPartition) (ax34 : Option Addr) (cp35 : Nat) (ax38 : Option Addr) (cp39 : Nat) : Ch := bk n24 #[.string y33.Name, i6 y33.Entry, i6 y33.Action, i6 y33.Restarts, i6 y33.Inputs, i6 y33.Outputs, .slice ax34 (([] ++ y33.Regions.xs).length) cp35, .slice ax38 (([] ++ y33.Ports.xs).length) cp39] 41
abbrev q7o7_1 (z : Nat) (c : TConfig) (aC : Option Addr) (csG : List (Sl TWindow)) (cC : Nat) : Ch := bk (z + 2) #[i6 c.Frames, i6 c.Major, i6 c.Kernel, i6 c.Room, .slice aC csG.length cC, .slice c.Partitions.a c.Partitions.xs.length c.Partitions.cap, .slice c.Channels.a c.Channels.xs.length c.Channels.cap] 26
abbrev q7o7_2 (z : Nat) (c : TConfig) (aC : Option Addr) (csG : List (Sl TWindow)) (cC : Nat) (b42 : Nat) (psG : List TPartition) (cP : Nat) : Ch := bk (z + 2) #[i6 c.Frames, i6 c.Major, i6 c.Kernel, i6 c.Room, .slice aC csG.length cC, .slice (some ⟨b42, 0, none⟩) psG.length cP, .slice c.Channels.a c.Channels.xs.length c.Channels.cap] 26
abbrev q7o7_3 (z : Nat) (c : TConfig) (aC : Option Addr) (csG : List (Sl TWindow)) (cC : Nat) (aP : Option Addr) (psG : List TPartition) (cP : Nat) : Ch := bk (z + 2) #[i6 c.Frames, i6 c.Major, i6 c.Kernel, i6 c.Room, .slice aC csG.length cC, .slice aP psG.length cP, .slice c.Channels.a c.Channels.xs.length c.Channels.cap] 26
abbrev q7o7_4 (z : Nat) : Ch := bk (z + 1) #[i6 0, i6 0, i6 0, i6 0, .slice none 0 0, .slice none 0 0, .slice none 0 0] 26
abbrev q7o7_5 (z : Nat) (c : TConfig) : Ch := bk z (TConfig.arr c) 26
abbrev q7o7_6 (z : Nat) (b42 : Nat) (psG : List TPartition) (cP : Nat) (p : Nat) (y33 : TPartition) (ax34 : Option Addr) (cp35 : Nat) (ax38 : Option Addr) (cp39 : Nat) : Ch := rowL z 41 8 TPartition.cells (.slice (some ⟨b42, 0, none⟩) psG.length cP) (psG.set p (⟨y33.Name, y33.Entry, y33.Action, y33.Restarts, y33.Inputs, y33.Outputs, (⟨ax34, cp35, ([] ++ y33.Regions.xs)⟩ : Sl TRegion), (⟨ax38, cp39, ([] ++ y33.Ports.xs)⟩ : Sl TPort)⟩ : TPartition))
abbrev q7o7_7 (z : Nat) (aC : Option Addr) (csG : List (Sl TWindow)) (cC : Nat) : Ch := rowL z 42 1 (fun x : Sl TWindow => [Sl.val x]) (.slice aC csG.length cC) csG
abbrev q7o7_8 (z : Nat) (psG : List TPartition) (p : Nat) : Ch := famC z 49 4 TRegion.cells ((psG.take p).map TPartition.Regions)
abbrev q7o7_9 (z : Nat) (psG : List TPartition) (p : Nat) : Ch := famC z 57 2 TPort.cells ((psG.take p).map TPartition.Ports)
abbrev q7o7_10 (z : Nat) (aP : Option Addr) (psG : List TPartition) (cP : Nat) : Ch := rowL z 41 8 TPartition.cells (.slice aP psG.length cP) psG
abbrev q7o7_11 (z : Nat) : Nat × Value := (2, pt (z + 1))
abbrev q7o7_12 (z : Nat) : Nat × Value := (3, pt (z + 2))
set_option maxHeartbeats 2000000 in
theorem copied_calls (w : World) (c : TConfig) (hc : TConfig.ok Any w c) (hLim : Lim c) : Calls Tryd.prog 11 #[.agg (TConfig.arr c)] w fun e w' => ∃ d : TConfig, e = .returned (.agg (TConfig.arr d)) ∧ strip d = strip c ∧ ConfOwn w.heap.size w' d ∧ Keeps (fun _ => False) w w' := by
 obtain ⟨z, hz⟩ : ∃ z, z = w.heap.size := ⟨_, rfl⟩
 refine calls_G (args := [.agg (TConfig.arr c)]) 77 ⟨w, z, [(old0 w)]⟩ Tryd.func11 rfl (by kernel_rfl) (by kernel_rfl) (sat_0 hz) ?_
 have hpl := hc.Partitions.1.len; have hpc := hc.Cores.1.len; have hpch := hc.Channels.1.len; have hll1 := hLim.cl; have hll2 := hLim.pl; have hll3 := hLim.hl
 refine g_keep [0] [(0, .agg (TConfig.arr c))] ?_
 refine q_c 10 3 [] [[o0, o0], [(an 7 1), o0, (an 7 3)], [o0, (a1 1), o0]] [Qb z, Qb z, Qb z, Qb z, Qb z, Qb z, Qb z, Qb (z + 2), Qb (z + 2), Qb (z + 2), Qb (z + 2), Qb (z + 2), Qb (z + 2), Qb (z + 2), Qb z] [(1, pt z), (q7o7_11 z), (q7o7_12 z), (14, i6 ((c.Cores.xs.length : Nat) : Int))] ⟨w, z + 3, [(old0 w), (q7o7_5 z c), (q7o7_4 z), (bk (z + 2) (TConfig.arr c) 26)]⟩ rfl ⟨rfl, rfl, rfl, rfl, rfl, rfl, rfl, rfl, rfl, rfl, rfl, rfl, rfl, rfl, rfl, trivial⟩ ?_
 refine l_makeB z c.Cores.xs.length (⟨none, 0, []⟩ : Sl TWindow) (fun x : Sl TWindow => [Sl.val x]) 42 1 24 (.slice none 0 0) (((c.Cores.xs.length : Nat) : Int) : Int) (((c.Cores.xs.length : Nat) : Int) : Int) (some 15) rfl rfl (by omega) (by omega) (show z ≤ z + 3 by omega) (fun n1 (hn2 : z + 3 + 1 ≤ n1) => ?_)
 refine q_r 8 0 [] [[o0, (a1 3)], [o0]] [Qb (z + 2)] [(1, pt z), (q7o7_11 z), (q7o7_12 z), (4, i6 0)] ⟨w, n1, [(old0 w), (q7o7_5 z c), (q7o7_4 z), (bk (z + 2) #[i6 c.Frames, i6 c.Major, i6 c.Kernel, i6 c.Room, .slice (some ⟨z + 3, 0, none⟩) c.Cores.xs.length c.Cores.xs.length, .slice c.Partitions.a c.Partitions.xs.length c.Partitions.cap, .slice c.Channels.a c.Channels.xs.length c.Channels.cap] 26), (rowL z 42 1 (fun x : Sl TWindow => [Sl.val x]) (.slice (some ⟨z + 3, 0, none⟩) c.Cores.xs.length c.Cores.xs.length) (List.replicate c.Cores.xs.length (⟨none, 0, []⟩ : Sl TWindow)))]⟩ rfl ⟨rfl, trivial⟩ ?_
 refine g_fam0 z 44 3 TWindow.cells ?_
 refine g_loop (fun m a w' => ∃ (n4 : Nat) (i : Nat) (csG : List (Sl TWindow)) (aC : Option Addr) (cC : Nat), m = c.Cores.xs.length - i ∧ n1 ≤ n4 ∧ (i ≤ c.Cores.xs.length) ∧ (csG.length = c.Cores.xs.length) ∧ (∀ q, q < i → (gd csG q).xs = (gd c.Cores.xs q).xs) ∧ St 77 [(1, pt z), (q7o7_11 z), (q7o7_12 z), (4, i6 (i : Int))] [] ⟨w, n4, [(old0 w), (q7o7_5 z c), (q7o7_4 z), (q7o7_1 z c aC csG cC), (q7o7_7 z aC csG cC), (famC z 44 3 TWindow.cells (csG.take i))]⟩ a w') (c.Cores.xs.length - 0) ?_ ?_
 · intro a w' hs; exact ⟨n1, 0, (List.replicate c.Cores.xs.length ⟨none, 0, []⟩), (some ⟨z + 3, 0, none⟩), c.Cores.xs.length, rfl, Nat.le_refl _, Nat.zero_le _, List.length_replicate, fun q hq => absurd hq (Nat.not_lt_zero q), (by (try dsimp only [q7o7_0, q7o7_1, q7o7_2, q7o7_3, q7o7_4, q7o7_5, q7o7_6, q7o7_7, q7o7_8, q7o7_9, q7o7_10, q7o7_11, q7o7_12] at hs ⊢); rw [List.take_zero, List.length_replicate]; exact hs)⟩
 · rintro m a w' ⟨n4, i, csG, aC, cC, rfl, hn3, hki, hcl, hc1, hs⟩
   refine (?_ : G Tryd.prog 77 [(1, pt z), (q7o7_11 z), (q7o7_12 z), (4, i6 (i : Int))] [] ⟨w, n4, [(old0 w), (q7o7_5 z c), (q7o7_4 z), (q7o7_1 z c aC csG cC), (q7o7_7 z aC csG cC), (famC z 44 3 TWindow.cells (csG.take i))]⟩ _ _ _) a w' hs
   clear hs a w'
   refine g_seq <| g_seq ?_
   by_cases h5 : ((i : Int) : Int) < ((c.Cores.xs.length : Nat) : Int)
   · refine q_cS 13 0 [1] [[o0, o0, (a1 1), o0, oT], [o0]] [Qb z, BT (((i : Int) : Int) < ((c.Cores.xs.length : Nat) : Int))] [(1, pt z), (q7o7_11 z), (q7o7_12 z), (4, i6 (i : Int)), (5, .slice none 0 0)] rfl ⟨rfl, bt (by omega), trivial⟩ ?_
     obtain ⟨b6, o7, ha8, hF10, hc9⟩ := (hc.Cores).1.all (show 0 < c.Cores.xs.length by omega)
     replace ha8 : c.Cores.a = some ⟨b6, o7, none⟩ := ha8
     have hc11 := hc9 i (show i < c.Cores.xs.length by omega)
     have he12 := (hc.Cores).2 i (show i < c.Cores.xs.length by omega)
     obtain ⟨y13, hy13⟩ : ∃ y_, y_ = gd c.Cores.xs i := ⟨_, rfl⟩
     rw [← hy13] at he12 hc11
     have hlw := hLim.ws i (by omega); rw [← hy13] at hlw; have hyl := he12.1.len
     refine q_cS 1 6 [] [[o0, o0, ⟨.auto [.at 1], some (.slice (some ⟨b6, o7, none⟩) c.Cores.xs.length c.Cores.cap)⟩, o0, (oi i), (oa [.via 0 (.slice y13.a y13.xs.length y13.cap)])]] [Qb z, Value.slice c.Cores.a c.Cores.xs.length c.Cores.cap = Value.slice (some ⟨b6, o7, none⟩) c.Cores.xs.length c.Cores.cap, ((i : Int) : Int) = ((i : Nat) : Int), i < c.Cores.xs.length, (none : Option Nat) = none, Old w b6 (o7 + i) (.slice y13.a y13.xs.length y13.cap)] [(1, pt z), (q7o7_11 z), (q7o7_12 z), (4, i6 (i : Int)), (24, .slice none 0 0), (29, .slice y13.a y13.xs.length y13.cap)] rfl ⟨rfl, congrArg (fun a => Value.slice a _ _) ha8, rfl, (by omega), rfl, old_cell' (hc11 0 _ rfl), trivial⟩ ?_
     refine l_rowL z 44 3 TWindow.cells ?_
     refine l_pushSB z 6 0 ([]) y13.xs y13.a TWindow.cells 44 3 24 (.slice none 0 0) y13.xs.length y13.cap (old0 w) (some 30) (by simp only [List.length_nil]; omega) (by simp only [List.length_nil]; omega) (show z ≤ n4 by omega) (fun w' hw => sl_mono (fun b k v _ hv => old_cell' hv w' hw) (fun _ h => h) (he12).1) (fun ax14 cp15 n16 (hn17 : n4 ≤ n16) => ?_)
     refine q_rS 2 0 [] [[o0]] [] [(1, pt z), (q7o7_11 z), (q7o7_12 z), (4, i6 (i : Int)), (5, .slice ax14 (([] ++ y13.xs).length) cp15)] rfl trivial ?_
     refine g_rowat (base := z) (e := 42) (sz := 1) (cells := (fun x : Sl TWindow => [Sl.val x])) (a := aC) (n := csG.length) (cap := cC) (xs := csG) 4 (by omega) (fun b18 hg19 hb20 => ?_)
     subst hg19
     refine q_cS 1 5 [] [[o0, (a1 3), o0, o0, (oi i)]] [Qb (z + 2), ((i : Int) : Int) = ((i : Nat) : Int), i < csG.length, (none : Option Nat) = none] [(1, pt z), (q7o7_11 z), (q7o7_12 z), (4, i6 (i : Int)), (34, .slice ax14 (([] ++ y13.xs).length) cp15), (35, .pointer (some ⟨b18, 0 + i, none⟩))] rfl ⟨rfl, rfl, (by omega), rfl, trivial⟩ ?_
     refine l_rowset 4 i 0 csG (⟨ax14, cp15, ([] ++ y13.xs)⟩ : Sl TWindow) (fun x : Sl TWindow => [Sl.val x]) z 42 1 b18 csG.length cC (.slice ax14 (([] ++ y13.xs).length) cp15) none (by omega) rfl ?_
     refine q_rS 5 0 [] [[], [o0, (ov (i6 ((i + 1 : Nat) : Int))), o0]] [Wr (((i : Int) : Int) + 1) (((i + 1 : Nat) : Int))] [(1, pt z), (q7o7_11 z), (q7o7_12 z), (4, i6 ((i + 1 : Nat) : Int))] rfl ⟨wrI, trivial⟩ ?_
     refine e_fam 5 6 [0, 1, 2, 3, 4] [(old0 w), (q7o7_5 z c), (q7o7_4 z), (bk (z + 2) #[i6 c.Frames, i6 c.Major, i6 c.Kernel, i6 c.Room, .slice (some ⟨b18, 0, none⟩) csG.length cC, .slice c.Partitions.a c.Partitions.xs.length c.Partitions.cap, .slice c.Channels.a c.Channels.xs.length c.Channels.cap] 26), (rowL z 42 1 (fun x : Sl TWindow => [Sl.val x]) (.slice (some ⟨b18, 0, none⟩) csG.length cC) (csG.set i (⟨ax14, cp15, ([] ++ y13.xs)⟩ : Sl TWindow)))] ?_
     refine e_keep [1, 2, 3, 4] [(1, pt z), (q7o7_11 z), (q7o7_12 z), (4, i6 ((i + 1 : Nat) : Int))] ?_
     refine e_inv (fun a w' hs => ⟨c.Cores.xs.length - (i + 1), by omega, n16, (i + 1), (csG.set i (⟨ax14, cp15, ([] ++ y13.xs)⟩ : Sl TWindow)), (some ⟨b18, 0, none⟩), cC, rfl, by omega, by omega, by rw [List.length_set]; exact hcl, fun q hq => if e : q = i then (by rw [e, gd_set (by omega), ← hy13]; rfl) else (by rw [gd_set_ne (fun e2 => e e2.symm) (by omega)]; exact hc1 q (by omega)), (by (try dsimp only [q7o7_0, q7o7_1, q7o7_2, q7o7_3, q7o7_4, q7o7_5, q7o7_6, q7o7_7, q7o7_8, q7o7_9, q7o7_10, q7o7_11, q7o7_12] at hs ⊢); rw [take_set_succ (by omega), List.length_set]; exact hs)⟩)
   · refine q_cS 11 3 [0] [[o0, o0, (a1 1), o0, oF], [o0, (a1 1), o0]] [Qb z, BF (((i : Int) : Int) < ((c.Cores.xs.length : Nat) : Int)), Qb z] [(1, pt z), (q7o7_11 z), (q7o7_12 z), (38, i6 ((c.Partitions.xs.length : Nat) : Int))] rfl ⟨rfl, bf (by omega), rfl, trivial⟩ ?_
     refine l_makeB z c.Partitions.xs.length (⟨⟨#[]⟩, 0, 0, 0, 0, 0, (⟨none, 0, []⟩ : Sl TRegion), (⟨none, 0, []⟩ : Sl TPort)⟩ : TPartition) TPartition.cells 41 8 104 (.agg #[.string (⟨#[]⟩), i6 0, i6 0, i6 0, i6 0, i6 0, .slice none 0 0, .slice none 0 0]) (((c.Partitions.xs.length : Nat) : Int) : Int) (((c.Partitions.xs.length : Nat) : Int) : Int) (some 39) rfl rfl (by omega) (by omega) (show z ≤ n4 by omega) (fun n21 (hn22 : n4 + 1 ≤ n21) => ?_)
     refine q_r 8 0 [] [[o0, (a1 3)], [o0]] [Qb (z + 2)] [(1, pt z), (q7o7_11 z), (q7o7_12 z), (6, i6 0)] ⟨w, n21, [(old0 w), (q7o7_5 z c), (q7o7_4 z), (bk (z + 2) #[i6 c.Frames, i6 c.Major, i6 c.Kernel, i6 c.Room, .slice aC csG.length cC, .slice (some ⟨n4, 0, none⟩) c.Partitions.xs.length c.Partitions.xs.length, .slice c.Channels.a c.Channels.xs.length c.Channels.cap] 26), (q7o7_7 z aC csG cC), (famC z 44 3 TWindow.cells (csG.take i)), (rowL z 41 8 TPartition.cells (.slice (some ⟨n4, 0, none⟩) c.Partitions.xs.length c.Partitions.xs.length) (List.replicate c.Partitions.xs.length (⟨⟨#[]⟩, 0, 0, 0, 0, 0, (⟨none, 0, []⟩ : Sl TRegion), (⟨none, 0, []⟩ : Sl TPort)⟩ : TPartition)))]⟩ rfl ⟨rfl, trivial⟩ ?_
     refine g_fam0 z 49 4 TRegion.cells ?_
     refine g_fam0 z 57 2 TPort.cells ?_
     refine g_loop (fun m a w' => ∃ (n24 : Nat) (p : Nat) (psG : List TPartition) (aP : Option Addr) (cP : Nat), m = c.Partitions.xs.length - p ∧ n21 ≤ n24 ∧ (p ≤ c.Partitions.xs.length) ∧ (psG.length = c.Partitions.xs.length) ∧ (∀ q, q < p → stripP (gd psG q) = stripP (gd c.Partitions.xs q)) ∧ St 77 [(1, pt z), (q7o7_11 z), (q7o7_12 z), (6, i6 (p : Int))] [] ⟨w, n24, [(old0 w), (q7o7_5 z c), (q7o7_4 z), (q7o7_3 z c aC csG cC aP psG cP), (q7o7_7 z aC csG cC), (famC z 44 3 TWindow.cells (csG.take i)), (q7o7_10 z aP psG cP), (q7o7_8 z psG p), (q7o7_9 z psG p)]⟩ a w') (c.Partitions.xs.length - 0) ?_ ?_
     · intro a w' hs; exact ⟨n21, 0, ((List.replicate c.Partitions.xs.length (⟨⟨#[]⟩, 0, 0, 0, 0, 0, (⟨none, 0, []⟩ : Sl TRegion), (⟨none, 0, []⟩ : Sl TPort)⟩ : TPartition))), (some ⟨n4, 0, none⟩), c.Partitions.xs.length, rfl, Nat.le_refl _, Nat.zero_le _, List.length_replicate, fun q hq => absurd hq (Nat.not_lt_zero q), (by (try dsimp only [q7o7_0, q7o7_1, q7o7_2, q7o7_3, q7o7_4, q7o7_5, q7o7_6, q7o7_7, q7o7_8, q7o7_9, q7o7_10, q7o7_11, q7o7_12] at hs ⊢); rw [List.take_zero, List.length_replicate]; exact hs)⟩
     · rintro m a w' ⟨n24, p, psG, aP, cP, rfl, hn23, hkp, hpl, hp1, hs⟩
       refine (?_ : G Tryd.prog 77 [(1, pt z), (q7o7_11 z), (q7o7_12 z), (6, i6 (p : Int))] [] ⟨w, n24, [(old0 w), (q7o7_5 z c), (q7o7_4 z), (q7o7_3 z c aC csG cC aP psG cP), (q7o7_7 z aC csG cC), (famC z 44 3 TWindow.cells (csG.take i)), (q7o7_10 z aP psG cP), (q7o7_8 z psG p), (q7o7_9 z psG p)]⟩ _ _ _) a w' hs
       clear hs a w'
       refine g_seq <| g_seq ?_
       by_cases h25 : ((p : Int) : Int) < ((c.Partitions.xs.length : Nat) : Int)
       · refine q_cS 9 0 [1] [[o0, o0, (a1 1), o0, oT]] [Qb z, BT (((p : Int) : Int) < ((c.Partitions.xs.length : Nat) : Int))] [(1, pt z), (q7o7_11 z), (q7o7_12 z), (6, i6 (p : Int)), (45, .bool true)] rfl ⟨rfl, bt (by omega), trivial⟩ ?_
         obtain ⟨b26, o27, ha28, hF30, hc29⟩ := (hc.Partitions).1.all (show 0 < c.Partitions.xs.length by omega)
         replace ha28 : c.Partitions.a = some ⟨b26, o27, none⟩ := ha28
         have hc31 := hc29 p (show p < c.Partitions.xs.length by omega)
         have he32 := (hc.Partitions).2 p (show p < c.Partitions.xs.length by omega)
         obtain ⟨y33, hy33⟩ : ∃ y_, y_ = gd c.Partitions.xs p := ⟨_, rfl⟩
         rw [← hy33] at he32 hc31
         have hlr := hLim.rs p (by omega); have hlq := hLim.qs p (by omega); rw [← hy33] at hlr hlq
         refine q_c 9 3 [] [[o0, ⟨.auto [.at 1], some (.slice (some ⟨b26, o27, none⟩) c.Partitions.xs.length c.Partitions.cap)⟩, o0, (oi p), (ol 0 (TPartition.arr y33)), o0, (an 8 9)], [o0], [o0, o0, (a1 9)]] [Qb z, Value.slice c.Partitions.a c.Partitions.xs.length c.Partitions.cap = Value.slice (some ⟨b26, o27, none⟩) c.Partitions.xs.length c.Partitions.cap, ((p : Int) : Int) = ((p : Nat) : Int), p < c.Partitions.xs.length, (none : Option Nat) = none, OldR w b26 (o27 + p * 8) (TPartition.arr y33), Qb n24, Qb n24, Qb n24, Qb n24, Qb n24, Qb n24, Qb n24, Qb n24, Qb n24] [(1, pt z), (q7o7_11 z), (q7o7_12 z), (6, i6 (p : Int)), (7, pt n24), (53, .slice none 0 0), (55, .slice y33.Regions.a y33.Regions.xs.length y33.Regions.cap)] ⟨w, n24 + 1, [(old0 w), (q7o7_5 z c), (q7o7_4 z), (q7o7_3 z c aC csG cC aP psG cP), (q7o7_7 z aC csG cC), (famC z 44 3 TWindow.cells (csG.take i)), (q7o7_10 z aP psG cP), (q7o7_8 z psG p), (q7o7_9 z psG p), (bk n24 (TPartition.arr y33) 41)]⟩ rfl ⟨rfl, congrArg (fun a => Value.slice a _ _) ha28, rfl, (by omega), rfl, old_row hc31, rfl, rfl, rfl, rfl, rfl, rfl, rfl, rfl, rfl, trivial⟩ ?_
         refine l_rowL z 49 4 TRegion.cells ?_
         refine l_pushSB z 10 0 ([]) y33.Regions.xs y33.Regions.a TRegion.cells 49 4 32 (.slice none 0 0) y33.Regions.xs.length y33.Regions.cap (old0 w) (some 56) (by simp only [List.length_nil]; omega) (by simp only [List.length_nil]; omega) (show z ≤ n24 + 1 by omega) (fun w' hw => sl_mono (fun b k v _ hv => old_cell' hv w' hw) (fun _ h => h) (he32.Regions).1) (fun ax34 cp35 n36 (hn37 : n24 + 1 ≤ n36) => ?_)
         refine q_rS 8 3 [] [[o0], [o0], [o0, o0, (a1 9)]] [Qb n24] [(1, pt z), (q7o7_11 z), (q7o7_12 z), (6, i6 (p : Int)), (7, pt n24), (8, .slice ax34 (([] ++ y33.Regions.xs).length) cp35), (57, .slice none 0 0), (59, .slice y33.Ports.a y33.Ports.xs.length y33.Ports.cap)] rfl ⟨rfl, trivial⟩ ?_
         refine l_rowL z 57 2 TPort.cells ?_
         refine l_pushSB z 11 0 ([]) y33.Ports.xs y33.Ports.a TPort.cells 57 2 16 (.slice none 0 0) y33.Ports.xs.length y33.Ports.cap (old0 w) (some 60) (by simp only [List.length_nil]; omega) (by simp only [List.length_nil]; omega) (show z ≤ n36 by omega) (fun w' hw => sl_mono (fun b k v _ hv => old_cell' hv w' hw) (fun _ h => h) (he32.Ports).1) (fun ax38 cp39 n40 (hn41 : n36 ≤ n40) => ?_)
         refine q_r 10 0 [] [[o0], [o0, o0, (a1 9)], [o0, o0, (a1 9)]] [Qb n24, Qb n24] [(1, pt z), (q7o7_11 z), (q7o7_12 z), (6, i6 (p : Int)), (7, pt n24)] ⟨w, n40, [(old0 w), (q7o7_5 z c), (q7o7_4 z), (q7o7_3 z c aC csG cC aP psG cP), (q7o7_7 z aC csG cC), (famC z 44 3 TWindow.cells (csG.take i)), (q7o7_10 z aP psG cP), (q7o7_8 z psG p), (q7o7_9 z psG p), (q7o7_0 n24 y33 ax34 cp35 ax38 cp39), (rowL z 49 4 TRegion.cells (.slice ax34 (([] ++ y33.Regions.xs).length) cp35) ([] ++ y33.Regions.xs)), (rowL z 57 2 TPort.cells (.slice ax38 (([] ++ y33.Ports.xs).length) cp39) ([] ++ y33.Ports.xs))]⟩ rfl ⟨rfl, rfl, trivial⟩ ?_
         refine g_rowat (base := z) (e := 41) (sz := 8) (cells := TPartition.cells) (a := aP) (n := psG.length) (cap := cP) (xs := psG) 6 (by omega) (fun b42 hg43 hb44 => ?_)
         subst hg43
         refine q_cS 1 5 [] [[o0, (a1 3), o0, (an 8 9), (oi p)]] [Qb (z + 2), Qb n24, Qb n24, Qb n24, Qb n24, Qb n24, Qb n24, Qb n24, Qb n24, ((p : Int) : Int) = ((p : Nat) : Int), p < psG.length, (none : Option Nat) = none] [(1, pt z), (q7o7_11 z), (q7o7_12 z), (6, i6 (p : Int)), (68, .agg #[.string y33.Name, i6 y33.Entry, i6 y33.Action, i6 y33.Restarts, i6 y33.Inputs, i6 y33.Outputs, .slice ax34 (([] ++ y33.Regions.xs).length) cp35, .slice ax38 (([] ++ y33.Ports.xs).length) cp39]), (69, .pointer (some ⟨b42, 0 + offs 8 p, none⟩))] rfl ⟨rfl, rfl, rfl, rfl, rfl, rfl, rfl, rfl, rfl, rfl, (by omega), rfl, trivial⟩ ?_
         refine l_rowsetN 6 p psG (⟨y33.Name, y33.Entry, y33.Action, y33.Restarts, y33.Inputs, y33.Outputs, (⟨ax34, cp35, ([] ++ y33.Regions.xs)⟩ : Sl TRegion), (⟨ax38, cp39, ([] ++ y33.Ports.xs)⟩ : Sl TPort)⟩ : TPartition) TPartition.cells z 41 8 b42 psG.length cP #[.string y33.Name, i6 y33.Entry, i6 y33.Action, i6 y33.Restarts, i6 y33.Inputs, i6 y33.Outputs, .slice ax34 (([] ++ y33.Regions.xs).length) cp35, .slice ax38 (([] ++ y33.Ports.xs).length) cp39] none (by omega) ?_
         refine q_rS 5 0 [] [[], [o0, (ov (i6 ((p + 1 : Nat) : Int))), o0]] [Wr (((p : Int) : Int) + 1) (((p + 1 : Nat) : Int))] [(1, pt z), (q7o7_11 z), (q7o7_12 z), (6, i6 ((p + 1 : Nat) : Int))] rfl ⟨wrI, trivial⟩ ?_
         refine e_fam 7 10 [0, 1, 2, 3, 4, 5, 6, 8, 9, 11] [(old0 w), (q7o7_5 z c), (q7o7_4 z), (q7o7_2 z c aC csG cC b42 psG cP), (q7o7_7 z aC csG cC), (famC z 44 3 TWindow.cells (csG.take i)), (q7o7_6 z b42 psG cP p y33 ax34 cp35 ax38 cp39), (q7o7_9 z psG p), (q7o7_0 n24 y33 ax34 cp35 ax38 cp39), (rowL z 57 2 TPort.cells (.slice ax38 (([] ++ y33.Ports.xs).length) cp39) ([] ++ y33.Ports.xs))] ?_
         refine e_fam 7 9 [0, 1, 2, 3, 4, 5, 6, 8, 10] [(old0 w), (q7o7_5 z c), (q7o7_4 z), (q7o7_2 z c aC csG cC b42 psG cP), (q7o7_7 z aC csG cC), (famC z 44 3 TWindow.cells (csG.take i)), (q7o7_6 z b42 psG cP p y33 ax34 cp35 ax38 cp39), (q7o7_0 n24 y33 ax34 cp35 ax38 cp39), (famC z 49 4 TRegion.cells (((psG.take p).map TPartition.Regions) ++ [⟨ax34, cp35, ([] ++ y33.Regions.xs)⟩]))] ?_
         refine e_pick [0, 1, 2, 3, 4, 5, 6, 8, 9] [(old0 w), (q7o7_5 z c), (q7o7_4 z), (q7o7_2 z c aC csG cC b42 psG cP), (q7o7_7 z aC csG cC), (famC z 44 3 TWindow.cells (csG.take i)), (q7o7_6 z b42 psG cP p y33 ax34 cp35 ax38 cp39), (famC z 49 4 TRegion.cells (((psG.take p).map TPartition.Regions) ++ [⟨ax34, cp35, ([] ++ y33.Regions.xs)⟩])), (famC z 57 2 TPort.cells (((psG.take p).map TPartition.Ports) ++ [⟨ax38, cp39, ([] ++ y33.Ports.xs)⟩]))] rfl rfl ?_
         refine e_keep [1, 2, 3, 6] [(1, pt z), (q7o7_11 z), (q7o7_12 z), (6, i6 ((p + 1 : Nat) : Int))] ?_
         refine e_inv (fun a w' hs => ⟨c.Partitions.xs.length - (p + 1), by omega, n40, (p + 1), (psG.set p (⟨y33.Name, y33.Entry, y33.Action, y33.Restarts, y33.Inputs, y33.Outputs, (⟨ax34, cp35, ([] ++ y33.Regions.xs)⟩ : Sl TRegion), (⟨ax38, cp39, ([] ++ y33.Ports.xs)⟩ : Sl TPort)⟩ : TPartition)), (some ⟨b42, 0, none⟩), cP, rfl, by omega, by omega, by rw [List.length_set]; exact hpl, fun q hq => if e : q = p then (by rw [e, gd_set (by omega), ← hy33]; rfl) else (by rw [gd_set_ne (fun e2 => e e2.symm) (by omega)]; exact hp1 q (by omega)), (by (try dsimp only [q7o7_0, q7o7_1, q7o7_2, q7o7_3, q7o7_4, q7o7_5, q7o7_6, q7o7_7, q7o7_8, q7o7_9, q7o7_10, q7o7_11, q7o7_12] at hs ⊢); rw [take_set_succ (by omega), List.map_append, List.map_append, List.length_set]; exact hs)⟩)
       · refine q_cS 15 3 [0] [[o0, o0, (a1 1), o0, oF], [o0], [o0, o0, (a1 1)]] [Qb z, BF (((p : Int) : Int) < ((c.Partitions.xs.length : Nat) : Int)), Qb z] [(q7o7_11 z), (q7o7_12 z), (70, .slice none 0 0), (72, .slice c.Channels.a c.Channels.xs.length c.Channels.cap)] rfl ⟨rfl, bf (by omega), rfl, trivial⟩ ?_
         refine l_rowL z 55 3 TChannel.cells ?_
         refine l_pushSB z 9 0 ([]) c.Channels.xs c.Channels.a TChannel.cells 55 3 24 (.slice none 0 0) c.Channels.xs.length c.Channels.cap (old0 w) (some 73) (by simp only [List.length_nil]; omega) (by simp only [List.length_nil]; omega) (show z ≤ n24 by omega) (fun w' hw => sl_mono (fun b k v _ hv => old_cell' hv w' hw) (fun _ h => h) (hc.Channels).1) (fun ax45 cp46 n47 (hn48 : n24 ≤ n47) => ?_)
         refine q_r 11 0 [] [[o0], [o0, o0, (a1 3)], [(an 7 3), (an 7 2)]] [Qb (z + 2), Qb (z + 2), Qb (z + 2), Qb (z + 2), Qb (z + 2), Qb (z + 2), Qb (z + 2), Qb (z + 2), Qb (z + 1), Qb (z + 1), Qb (z + 1), Qb (z + 1), Qb (z + 1), Qb (z + 1), Qb (z + 1)] [(q7o7_11 z)] ⟨w, n47, [(old0 w), (q7o7_5 z c), (bk (z + 1) #[i6 c.Frames, i6 c.Major, i6 c.Kernel, i6 c.Room, .slice aC csG.length cC, .slice aP psG.length cP, .slice ax45 (([] ++ c.Channels.xs).length) cp46] 26), (bk (z + 2) #[i6 c.Frames, i6 c.Major, i6 c.Kernel, i6 c.Room, .slice aC csG.length cC, .slice aP psG.length cP, .slice ax45 (([] ++ c.Channels.xs).length) cp46] 26), (q7o7_7 z aC csG cC), (famC z 44 3 TWindow.cells (csG.take i)), (q7o7_10 z aP psG cP), (q7o7_8 z psG p), (q7o7_9 z psG p), (rowL z 55 3 TChannel.cells (.slice ax45 (([] ++ c.Channels.xs).length) cp46) ([] ++ c.Channels.xs))]⟩ rfl ⟨rfl, rfl, rfl, rfl, rfl, rfl, rfl, rfl, rfl, rfl, rfl, rfl, rfl, rfl, rfl, trivial⟩ ?_
         refine e_ret [.at 2, .at 2, .at 2, .at 2, .at 2, .at 2, .at 2] [Qb (z + 1), Qb (z + 1), Qb (z + 1), Qb (z + 1), Qb (z + 1), Qb (z + 1), Qb (z + 1)] (.agg #[i6 c.Frames, i6 c.Major, i6 c.Kernel, i6 c.Room, .slice aC csG.length cC, .slice aP psG.length cP, .slice ax45 (([] ++ c.Channels.xs).length) cp46]) ⟨rfl, rfl, rfl, rfl, rfl, rfl, rfl, trivial⟩ ?_
         intro w49 hw49
         have hO : ConfOwn z w49 (⟨c.Frames, c.Major, c.Kernel, c.Room, ⟨aC, cC, csG⟩, ⟨aP, cP, psG⟩, ⟨ax45, cp46, ([] ++ c.Channels.xs)⟩⟩ : TConfig) := ⟨w, by
           have h4 := hw49.pick [4, 5, 6, 7, 8, 9] rfl rfl
           rw [hw49.size]
           unfold confS Sl.val
           (try dsimp only [q7o7_0, q7o7_1, q7o7_2, q7o7_3, q7o7_4, q7o7_5, q7o7_6, q7o7_7, q7o7_8, q7o7_9, q7o7_10, q7o7_11, q7o7_12] at h4)
           rw [List.take_of_length_le (by omega), List.take_of_length_le (by omega)] at h4
           exact h4⟩
         exact ⟨(⟨c.Frames, c.Major, c.Kernel, c.Room, ⟨aC, cC, csG⟩, ⟨aP, cP, psG⟩, ⟨ax45, cp46, ([] ++ c.Channels.xs)⟩⟩ : TConfig), by simp only [TConfig.arr, hcl, hpl], strip_of ⟨rfl, rfl, rfl, rfl⟩ hcl hpl rfl (fun q hq => hc1 q (by omega)) (fun q hq => hp1 q (by omega)), hz ▸ hO, back0 hw49⟩
end Go.Proofs.YtnjhekfgmbpmlaaDoor.Ad
namespace Go.Proofs.YtnjhekfgmbpmlaaDoor.Ad
open Go Go.Proofs.YtnjhekfgmbpmlaaDoor.Eng Go.Proofs.YtnjhekfgmbpmlaaDoor.Mem Go.Proofs.YtnjhekfgmbpmlaaDoor.Ly
set_option linter.unusedSimpArgs false
set_option linter.unusedVariables false
set_option maxRecDepth 100000
open Go.ChangeShapes Go.WideShapes Go.Deep
theorem rd_TWindow : Rd Tryd.prog 44 TWindow.cells TWindow.ok := by
  intro H enc W fuel cs x hx hw
  obtain ⟨xs, n, -, rfl, hl, hlen, hf⟩ := DataW.trod_struct Tryd.underlying44 hx
  rw [show Tryd.prog.cellsOf 44 = 3 from by kernel_rfl] at hl
  match cs, hl with
  | [c0, c1, c2], _ =>
    obtain ⟨y0, e0, k0⟩ := rd_field Tryd.underlying44 hlen hf hw 0 0 1 _ rfl rfl (by kernel_rfl) (rd_int Tryd.underlying3)
    have g0 : [c0] = _ := e0
    simp only [List.cons.injEq, and_true] at g0
    subst g0
    obtain ⟨y1, e1, k1⟩ := rd_field Tryd.underlying44 hlen hf hw 1 1 1 _ rfl rfl (by kernel_rfl) (rd_int Tryd.underlying3)
    have g1 : [c1] = _ := e1
    simp only [List.cons.injEq, and_true] at g1
    subst g1
    obtain ⟨y2, e2, k2⟩ := rd_field Tryd.underlying44 hlen hf hw 2 2 1 _ rfl rfl (by kernel_rfl) (rd_int Tryd.underlying3)
    have g2 : [c2] = _ := e2
    simp only [List.cons.injEq, and_true] at g2
    subst g2
    exact ⟨⟨y0, y1, y2⟩, rfl, ⟨k0, k1, k2⟩⟩
theorem rd_TRegion : Rd Tryd.prog 49 TRegion.cells TRegion.ok := by
  intro H enc W fuel cs x hx hw
  obtain ⟨xs, n, -, rfl, hl, hlen, hf⟩ := DataW.trod_struct Tryd.underlying49 hx
  rw [show Tryd.prog.cellsOf 49 = 4 from by kernel_rfl] at hl
  match cs, hl with
  | [c0, c1, c2, c3], _ =>
    obtain ⟨y0, e0, k0⟩ := rd_field Tryd.underlying49 hlen hf hw 0 0 1 _ rfl rfl (by kernel_rfl) (rd_int Tryd.underlying3)
    have g0 : [c0] = _ := e0
    simp only [List.cons.injEq, and_true] at g0
    subst g0
    obtain ⟨y1, e1, k1⟩ := rd_field Tryd.underlying49 hlen hf hw 1 1 1 _ rfl rfl (by kernel_rfl) (rd_int Tryd.underlying3)
    have g1 : [c1] = _ := e1
    simp only [List.cons.injEq, and_true] at g1
    subst g1
    obtain ⟨y2, e2, k2⟩ := rd_field Tryd.underlying49 hlen hf hw 2 2 1 _ rfl rfl (by kernel_rfl) (rd_int Tryd.underlying3)
    have g2 : [c2] = _ := e2
    simp only [List.cons.injEq, and_true] at g2
    subst g2
    obtain ⟨y3, e3, k3⟩ := rd_field Tryd.underlying49 hlen hf hw 3 3 1 _ rfl rfl (by kernel_rfl) (rd_int Tryd.underlying3)
    have g3 : [c3] = _ := e3
    simp only [List.cons.injEq, and_true] at g3
    subst g3
    exact ⟨⟨y0, y1, y2, y3⟩, rfl, ⟨k0, k1, k2, k3⟩⟩
theorem rd_TPort : Rd Tryd.prog 57 TPort.cells TPort.ok := by
  intro H enc W fuel cs x hx hw
  obtain ⟨xs, n, -, rfl, hl, hlen, hf⟩ := DataW.trod_struct Tryd.underlying57 hx
  rw [show Tryd.prog.cellsOf 57 = 2 from by kernel_rfl] at hl
  match cs, hl with
  | [c0, c1], _ =>
    obtain ⟨y0, e0, k0⟩ := rd_field Tryd.underlying57 hlen hf hw 0 0 1 _ rfl rfl (by kernel_rfl) (rd_int Tryd.underlying3)
    have g0 : [c0] = _ := e0
    simp only [List.cons.injEq, and_true] at g0
    subst g0
    obtain ⟨y1, e1, k1⟩ := rd_field Tryd.underlying57 hlen hf hw 1 1 1 _ rfl rfl (by kernel_rfl) (rd_bool Tryd.underlying4)
    have g1 : [c1] = _ := e1
    simp only [List.cons.injEq, and_true] at g1
    subst g1
    exact ⟨⟨y0, y1⟩, rfl, ⟨k0, k1⟩⟩
theorem rd_TChannel : Rd Tryd.prog 55 TChannel.cells TChannel.ok := by
  intro H enc W fuel cs x hx hw
  obtain ⟨xs, n, -, rfl, hl, hlen, hf⟩ := DataW.trod_struct Tryd.underlying55 hx
  rw [show Tryd.prog.cellsOf 55 = 3 from by kernel_rfl] at hl
  match cs, hl with
  | [c0, c1, c2], _ =>
    obtain ⟨y0, e0, k0⟩ := rd_field Tryd.underlying55 hlen hf hw 0 0 1 _ rfl rfl (by kernel_rfl) (rd_int Tryd.underlying3)
    have g0 : [c0] = _ := e0
    simp only [List.cons.injEq, and_true] at g0
    subst g0
    obtain ⟨y1, e1, k1⟩ := rd_field Tryd.underlying55 hlen hf hw 1 1 1 _ rfl rfl (by kernel_rfl) (rd_int Tryd.underlying3)
    have g1 : [c1] = _ := e1
    simp only [List.cons.injEq, and_true] at g1
    subst g1
    obtain ⟨y2, e2, k2⟩ := rd_field Tryd.underlying55 hlen hf hw 2 2 1 _ rfl rfl (by kernel_rfl) (rd_int Tryd.underlying3)
    have g2 : [c2] = _ := e2
    simp only [List.cons.injEq, and_true] at g2
    subst g2
    exact ⟨⟨y0, y1, y2⟩, rfl, ⟨k0, k1, k2⟩⟩
theorem rd_PartB : Rd Tryd.prog 41 TPartition.cells (fun F W x => TPartition.ok F W x ∧ x.Regions.xs.length * Tryd.prog.bytesOf 49 ≤ reachBytes ∧ x.Ports.xs.length * Tryd.prog.bytesOf 57 ≤ reachBytes) := by
  intro H enc W fuel cs x hx hw
  obtain ⟨xs, n, -, rfl, hl, hlen, hf⟩ := DataW.trod_struct Tryd.underlying41 hx
  rw [show Tryd.prog.cellsOf 41 = 8 from by kernel_rfl] at hl
  match cs, hl with
  | [c0, c1, c2, c3, c4, c5, c6, c7], _ =>
    obtain ⟨y0, e0, k0⟩ := rd_field Tryd.underlying41 hlen hf hw 0 0 1 _ rfl rfl (by kernel_rfl) (rd_string Tryd.underlying9)
    have g0 : [c0] = _ := e0
    simp only [List.cons.injEq, and_true] at g0
    subst g0
    obtain ⟨y1, e1, k1⟩ := rd_field Tryd.underlying41 hlen hf hw 1 1 1 _ rfl rfl (by kernel_rfl) (rd_int Tryd.underlying3)
    have g1 : [c1] = _ := e1
    simp only [List.cons.injEq, and_true] at g1
    subst g1
    obtain ⟨y2, e2, k2⟩ := rd_field Tryd.underlying41 hlen hf hw 2 2 1 _ rfl rfl (by kernel_rfl) (rd_int Tryd.underlying3)
    have g2 : [c2] = _ := e2
    simp only [List.cons.injEq, and_true] at g2
    subst g2
    obtain ⟨y3, e3, k3⟩ := rd_field Tryd.underlying41 hlen hf hw 3 3 1 _ rfl rfl (by kernel_rfl) (rd_int Tryd.underlying3)
    have g3 : [c3] = _ := e3
    simp only [List.cons.injEq, and_true] at g3
    subst g3
    obtain ⟨y4, e4, k4⟩ := rd_field Tryd.underlying41 hlen hf hw 4 4 1 _ rfl rfl (by kernel_rfl) (rd_int Tryd.underlying3)
    have g4 : [c4] = _ := e4
    simp only [List.cons.injEq, and_true] at g4
    subst g4
    obtain ⟨y5, e5, k5⟩ := rd_field Tryd.underlying41 hlen hf hw 5 5 1 _ rfl rfl (by kernel_rfl) (rd_int Tryd.underlying3)
    have g5 : [c5] = _ := e5
    simp only [List.cons.injEq, and_true] at g5
    subst g5
    obtain ⟨y6, e6, k6⟩ := rd_field Tryd.underlying41 hlen hf hw 6 6 1 _ rfl rfl (by kernel_rfl) (rd_sliceB (cells := TRegion.cells) (sz := 4) Tryd.underlying38 (by kernel_rfl) (fun _ => rfl) (by decide) (by kernel_rfl) rd_TRegion)
    have g6 : [c6] = _ := e6
    simp only [List.cons.injEq, and_true] at g6
    subst g6
    obtain ⟨y7, e7, k7⟩ := rd_field Tryd.underlying41 hlen hf hw 7 7 1 _ rfl rfl (by kernel_rfl) (rd_sliceB (cells := TPort.cells) (sz := 2) Tryd.underlying39 (by kernel_rfl) (fun _ => rfl) (by decide) (by kernel_rfl) rd_TPort)
    have g7 : [c7] = _ := e7
    simp only [List.cons.injEq, and_true] at g7
    subst g7
    exact ⟨⟨y0, y1, y2, y3, y4, y5, y6, y7⟩, rfl, ⟨⟨k0, k1, k2, k3, k4, k5, k6.1, k7.1⟩, k6.2, k7.2⟩⟩
set_option maxHeartbeats 1000000 in
theorem rd_Conf : Rd Tryd.prog 26 TConfig.cells (fun F W x => TConfig.ok F W x ∧ Lim x) := by
  intro H enc W fuel cs x hx hw
  obtain ⟨xs, n, -, rfl, hl, hlen, hf⟩ := DataW.trod_struct Tryd.underlying26 hx
  rw [show Tryd.prog.cellsOf 26 = 7 from by kernel_rfl] at hl
  match cs, hl with
  | [c0, c1, c2, c3, c4, c5, c6], _ =>
    obtain ⟨y0, e0, k0⟩ := rd_field Tryd.underlying26 hlen hf hw 0 0 1 _ rfl rfl (by kernel_rfl) (rd_int Tryd.underlying3)
    have g0 : [c0] = _ := e0
    simp only [List.cons.injEq, and_true] at g0
    subst g0
    obtain ⟨y1, e1, k1⟩ := rd_field Tryd.underlying26 hlen hf hw 1 1 1 _ rfl rfl (by kernel_rfl) (rd_int Tryd.underlying3)
    have g1 : [c1] = _ := e1
    simp only [List.cons.injEq, and_true] at g1
    subst g1
    obtain ⟨y2, e2, k2⟩ := rd_field Tryd.underlying26 hlen hf hw 2 2 1 _ rfl rfl (by kernel_rfl) (rd_int Tryd.underlying3)
    have g2 : [c2] = _ := e2
    simp only [List.cons.injEq, and_true] at g2
    subst g2
    obtain ⟨y3, e3, k3⟩ := rd_field Tryd.underlying26 hlen hf hw 3 3 1 _ rfl rfl (by kernel_rfl) (rd_int Tryd.underlying3)
    have g3 : [c3] = _ := e3
    simp only [List.cons.injEq, and_true] at g3
    subst g3
    obtain ⟨y4, e4, k4⟩ := rd_field Tryd.underlying26 hlen hf hw 4 4 1 _ rfl rfl (by kernel_rfl) (rd_sliceB (cells := (fun x : Sl TWindow => [Sl.val x])) (sz := 1) Tryd.underlying22 (by kernel_rfl) (fun _ => rfl) (by decide) (by kernel_rfl) (rd_sliceB (cells := TWindow.cells) (sz := 3) Tryd.underlying42 (by kernel_rfl) (fun _ => rfl) (by decide) (by kernel_rfl) rd_TWindow))
    have g4 : [c4] = _ := e4
    simp only [List.cons.injEq, and_true] at g4
    subst g4
    obtain ⟨y5, e5, k5⟩ := rd_field Tryd.underlying26 hlen hf hw 5 5 1 _ rfl rfl (by kernel_rfl) (rd_sliceB (cells := TPartition.cells) (sz := 8) Tryd.underlying23 (by kernel_rfl) (fun _ => rfl) (by decide) (by kernel_rfl) rd_PartB)
    have g5 : [c5] = _ := e5
    simp only [List.cons.injEq, and_true] at g5
    subst g5
    obtain ⟨y6, e6, k6⟩ := rd_field Tryd.underlying26 hlen hf hw 6 6 1 _ rfl rfl (by kernel_rfl) (rd_sliceB (cells := TChannel.cells) (sz := 3) Tryd.underlying24 (by kernel_rfl) (fun _ => rfl) (by decide) (by kernel_rfl) rd_TChannel)
    have g6 : [c6] = _ := e6
    simp only [List.cons.injEq, and_true] at g6
    subst g6
    exact ⟨⟨y0, y1, y2, y3, y4, y5, y6⟩, rfl, ⟨⟨k0, k1, k2, k3, ⟨k4.1.1, fun i hi => (k4.1.2 i hi).1⟩, ⟨k5.1.1, fun i hi => (k5.1.2 i hi).1⟩, k6.1⟩, ⟨by have h := k4.2; rw [(show Tryd.prog.bytesOf 42 = 24 from by kernel_rfl)] at h; exact h, by have h := k5.2; rw [(show Tryd.prog.bytesOf 41 = 104 from by kernel_rfl)] at h; exact h, by have h := k6.2; rw [(show Tryd.prog.bytesOf 55 = 24 from by kernel_rfl)] at h; exact h, fun i hi => by have h := (k4.1.2 i hi).2; rw [(show Tryd.prog.bytesOf 44 = 24 from by kernel_rfl)] at h; exact h, fun i hi => by have h := (k5.1.2 i hi).2.1; rw [(show Tryd.prog.bytesOf 49 = 32 from by kernel_rfl)] at h; exact h, fun i hi => by have h := (k5.1.2 i hi).2.2; rw [(show Tryd.prog.bytesOf 57 = 16 from by kernel_rfl)] at h; exact h⟩⟩⟩
theorem Lim.sum {c : TConfig} (h : Lim c) : c.Partitions.xs.length + c.Channels.xs.length + c.Cores.xs.length ≤ 15000000000000 := by
  have h1 := h.cl; have h2 := h.pl; have h3 := h.hl
  omega
end Go.Proofs.YtnjhekfgmbpmlaaDoor.Ad
namespace Go.Proofs.YtnjhekfgmbpmlaaDoor.Ad
open Go Go.Proofs.YtnjhekfgmbpmlaaDoor.Eng Go.Proofs.YtnjhekfgmbpmlaaDoor.Mem Go.Proofs.YtnjhekfgmbpmlaaDoor.Ly
set_option linter.unusedSimpArgs false
set_option linter.unusedVariables false
set_option maxRecDepth 100000
theorem check_copy (w : World) (hL : LaidAt w) (c d : TConfig) (hd : TConfig.ok Any w d) (h : strip d = strip c) (hLim : Lim c) : Calls Tryd.prog 9 #[.agg (TConfig.arr d)] w fun e w' => e = .returned (.tuple #[.int .i64 (checkF c).e, .agg #[.int .i64 (checkF c).where_.First, .int .i64 (checkF c).where_.Second]]) ∧ Keeps (fun _ => False) w w' := by
  have hx := str_xs h
  have h3 : d.Channels.xs.length = c.Channels.xs.length := by rw [hx.2.2.1]
  have := check_calls w hL d hd (by rw [hx.1, hx.2.1, h3]; exact hLim.sum)
  rwa [check_same h] at this
theorem need_copy (w : World) (c d : TConfig) (hd : TConfig.ok Any w d) (h : strip d = strip c) : Calls Tryd.prog 12 #[.agg (TConfig.arr d)] w fun e w' => e = .returned (.tuple #[.int .i64 (needOf c), .int .i64 (errOf c)]) ∧ Keeps (fun _ => False) w w' := by
  have := need_calls w d hd
  rwa [need_same h, err_same h] at this
def takA (f : Nat → Bool) : Array Value := ((List.range 1024).map (fun t => Value.bool (f t))).toArray
theorem tak_size (f : Nat → Bool) : (takA f).size = 1024 := by simp [takA]
theorem tak_at (f : Nat → Bool) {t : Nat} (h : t < 1024) : (takA f)[t]? = some (Value.bool (f t)) := by simp [takA, h]
theorem tak_set (f : Nat → Bool) (t : Nat) : takA (fun s => f s || decide (s = t)) = (takA f).setIfInBounds t (.bool true) := by
  apply Array.ext_getElem?
  intro i
  rw [Array.getElem?_setIfInBounds, tak_size]
  by_cases hi : i < 1024
  · rw [tak_at _ hi, tak_at _ hi]
    by_cases e : t = i
    · subst e; simp [hi]
    · rw [if_neg e]
      simp [Ne.symm e]
  · have h1 : ∀ l, (takA l)[i]? = none := fun l => Array.getElem?_eq_none (by rw [tak_size]; omega)
    rw [h1, h1]
    by_cases e : t = i
    · subst e; simp [hi]
    · simp [e]
theorem tk_kern {K : Int} {j : Nat} {tk : Nat → Bool} (h : ∀ t : Nat, tk t = true → K ≤ t ∧ t < K + (j : Int)) (hK : 0 ≤ K) : ∀ t : Nat, (tk t || decide (t = (K + (j : Int)).toNat)) = true → K ≤ t ∧ t < K + ((j + 1 : Nat) : Int) := fun t ht => by
  simp only [Bool.or_eq_true, decide_eq_true_eq] at ht
  rcases ht with ht | ht
  · have := h t ht; omega
  · omega
def TkIn (c : TConfig) (p k : Nat) (m : Int) (tk : Nat → Bool) : Prop := ∀ t : Nat, tk t = true → (c.Kernel ≤ t ∧ t < c.Kernel + c.Room) ∨ (∃ q n, (q < p ∨ (q = p ∧ n < k)) ∧ q < c.Partitions.xs.length ∧ n < (gd c.Partitions.xs q).Regions.xs.length ∧ (regC c q n).Frame ≤ t ∧ t < (regC c q n).Frame + (regC c q n).Pages) ∨ ((regC c p k).Frame ≤ t ∧ t < (regC c p k).Frame + m)
theorem tk_begin {c : TConfig} {tk : Nat → Bool} (h : ∀ t : Nat, tk t = true → c.Kernel ≤ t ∧ t < c.Kernel + c.Room) : TkIn c 0 0 0 tk := fun t ht => .inl (h t ht)
theorem tk_reg {c : TConfig} {p k : Nat} {m : Int} {tk : Nat → Bool} (h : TkIn c p k m tk) (hp : p < c.Partitions.xs.length) (hk : k < (gd c.Partitions.xs p).Regions.xs.length) (hm : m ≤ (regC c p k).Pages) : TkIn c p (k + 1) 0 tk := fun t ht => by
  rcases h t ht with e | ⟨q, n, h1, h2, h3, h4⟩ | e
  · exact .inl e
  · exact .inr (.inl ⟨q, n, by omega, h2, h3, h4⟩)
  · exact .inr (.inl ⟨p, k, .inr ⟨rfl, by omega⟩, hp, hk, by omega⟩)
theorem tk_part {c : TConfig} {p k : Nat} {tk : Nat → Bool} (h : TkIn c p k 0 tk) : TkIn c (p + 1) 0 0 tk := fun t ht => by
  rcases h t ht with e | ⟨q, n, h1, h2, h3, h4⟩ | e
  · exact .inl e
  · exact .inr (.inl ⟨q, n, .inl (by omega), h2, h3, h4⟩)
  · omega
theorem tk_one {c : TConfig} {p k j : Nat} {m : Int} {tk : Nat → Bool} (h : TkIn c p k m tk) (hm : 0 ≤ m) (hj : (j : Int) = (regC c p k).Frame + m) : TkIn c p k (m + 1) (fun s => tk s || decide (s = j)) := fun t ht => by
  simp only [Bool.or_eq_true, decide_eq_true_eq] at ht
  rcases ht with ht | ht
  · rcases h t ht with e | e | e
    · exact .inl e
    · exact .inr (.inl e)
    · exact .inr (.inr (by omega))
  · exact .inr (.inr (by omega))
theorem tk_free {c : TConfig} {p k j : Nat} {m : Int} {tk : Nat → Bool} (hG : Good c) (h : TkIn c p k m tk) (hp : p < c.Partitions.xs.length) (hk : k < (gd c.Partitions.xs p).Regions.xs.length) (hm : 0 ≤ m ∧ m < (regC c p k).Pages) (hj : (j : Int) = (regC c p k).Frame + m) : ¬ tk j = true := fun ht => by
  rcases h j ht with e | ⟨q, n, h1, h2, h3, h4⟩ | e
  · have := hG.own p k hp hk; omega
  · have := hG.apart p k q n hp hk (by omega) h3 (by omega); omega
  · omega
abbrev qrh7_0 (w7 : World) (c : TConfig) : Ch := .blk w7.heap.size (.cells #[i6 ((checkF c).where_.First), i6 ((checkF c).where_.Second)] 34 (0, 0)) true
abbrev qrh7_1 (n27 : Nat) (y44 : TRegion) : Ch := bk n27 (TRegion.arr y44) 49
abbrev qrh7_2 (z : Nat) (c : TConfig) : Ch := bk z (TConfig.arr c) 26
abbrev qrh7_3 (w7 : World) : Nat × Value := (5, pt (w7.heap.size + 1))
abbrev qrh7_4 (n27 : Nat) : Nat × Value := (9, pt n27)
set_option maxHeartbeats 2000000 in
theorem holds_calls (w : World) (hL : LaidAt w) (c : TConfig) (hc : TConfig.ok Any w c) (hLim : Lim c) : Calls Tryd.prog 4 #[.agg (TConfig.arr c)] w fun e w' => e = .returned (.bool true) ∧ Keeps (fun _ => False) w w' := by
 obtain ⟨z, hz⟩ : ∃ z, z = w.heap.size := ⟨_, rfl⟩
 refine calls_G (args := [.agg (TConfig.arr c)]) 170 ⟨w, z, [(old0 w)]⟩ Tryd.func4 rfl (by kernel_rfl) (by kernel_rfl) (sat_0 hz) ?_
 have hpl := hc.Partitions.1.len; have hpc := hc.Channels.1.len; have hIk : (-9223372036854775808 : Int) ≤ c.Kernel ∧ c.Kernel ≤ 9223372036854775807 := hc.Kernel; have hIr : (-9223372036854775808 : Int) ≤ c.Room ∧ c.Room ≤ 9223372036854775807 := hc.Room
 refine g_keep [0] [(0, .agg (TConfig.arr c))] ?_
 refine q_c 6 1 [] [[o0, o0], [(an 7 1)]] [Qb z, Qb z, Qb z, Qb z, Qb z, Qb z, Qb z] [(1, pt z), (14, .agg (TConfig.arr c))] ⟨w, z + 1, [(old0 w), (qrh7_2 z c)]⟩ rfl ⟨rfl, rfl, rfl, rfl, rfl, rfl, rfl, trivial⟩ ?_
 refine l_call [] [] 11 #[.agg (TConfig.arr c)] (some 15) trivial ?_
 intro w1 hw1
 refine (copied_calls w1 c (hc.ext (hw1.ext rfl) (fun _ h => h)) hLim).mono ?_
 rintro e w2 ⟨d3, rfl, hs4, ho5, hkw2⟩
 have hnw2 : z + 1 ≤ w2.heap.size := size_of hw1 hkw2
 replace ho5 := own_ok hc hs4 ho5
 rw [hw1.size] at ho5
 refine ⟨_, _, rfl, hw1.keepsM hkw2, ?_⟩
 refine l_keep [1, 15] [(1, pt z), (15, .agg (TConfig.arr d3))] ?_
 refine l_call [] [] 9 #[.agg (TConfig.arr d3)] (some 16) trivial ?_
 intro w6 hw6
 refine (check_copy w6 (hL.ext (hw6.ext rfl)) c d3 (ho5.ext (hw6.extM 2) (fun _ _ => trivial)) hs4 hLim).mono ?_
 rintro e w7 ⟨rfl, hkw7⟩
 have hnw7 : w2.heap.size ≤ w7.heap.size := size_of hw6 hkw7
 refine ⟨_, _, rfl, hw6.keeps hkw7, ?_⟩
 refine q_r 4 0 [] [[o0, o0, o0, o0, o0, (an 2 3)]] [Qb w7.heap.size, Qb w7.heap.size] [(1, pt z), (4, pt w7.heap.size), (3, i6 ((checkF c).e))] ⟨w, w7.heap.size + 1, [(old0 w), (qrh7_2 z c), (mid (z + 1) w2), (qrh7_0 w7 c)]⟩ rfl ⟨rfl, rfl, trivial⟩ ?_
 by_cases h8 : ((checkF c).e : Int) = 0
 · have hF := check_fine h8; have hG := good_of hF; have hwF : (checkF c).where_.First = 0 ∧ (checkF c).where_.Second = 0 := by rw [hF]; exact ⟨rfl, rfl⟩
   have hGf := hG.fr; have hGk := hG.kern; have hGp := hG.pn; have hGn := hG.need; have hGe := hG.err
   refine q_cS 8 0 [0] [[o0, oF]] [NF ((checkF c).e) 0] [(1, pt z), (4, pt w7.heap.size), (3, i6 ((checkF c).e)), (20, .bool false)] rfl ⟨nf (by omega), trivial⟩ ?_
   by_cases h9 : (((checkF c).where_.First : Int) == (0 : Int) && (((checkF c).where_.Second : Int) == (0 : Int) && true)) = true
   · by_cases h10 : (c.Frames : Int) < 1
     · refine q_cS 9 0 [1] [[(an 2 3), o0, ⟨.seq true, none⟩, o0, o0, (a1 1), oT, o0, o0, o0, o0, o0, o0, o0, o0, o0], [o0]] [Qb w7.heap.size, Qb w7.heap.size, (((checkF c).where_.First : Int) == (0 : Int) && (((checkF c).where_.Second : Int) == (0 : Int) && true)) = true, Qb z, BT ((c.Frames : Int) < 1)] [(2, .bool false)] rfl ⟨rfl, rfl, h9, rfl, bt (by omega), trivial⟩ ?_
       refine e_ret [] [] (.bool false) trivial ?_
       intro w11 hw11
       exfalso; omega
     · by_cases h12 : (1024 : Int) < c.Frames
       · refine q_cS 9 0 [1] [[(an 2 3), o0, ⟨.seq true, none⟩, o0, o0, (a1 1), oF, o0, o0, o0, (a1 1), oT, o0, o0, o0, o0, o0, o0, o0], [o0]] [Qb w7.heap.size, Qb w7.heap.size, (((checkF c).where_.First : Int) == (0 : Int) && (((checkF c).where_.Second : Int) == (0 : Int) && true)) = true, Qb z, BF ((c.Frames : Int) < 1), Qb z, BT ((c.Frames : Int) > 1024)] [(2, .bool false)] rfl ⟨rfl, rfl, h9, rfl, bf (by omega), rfl, bt (by omega), trivial⟩ ?_
         refine e_ret [] [] (.bool false) trivial ?_
         intro w13 hw13
         exfalso; omega
       · by_cases h14 : (c.Kernel : Int) < 0
         · refine q_cS 9 0 [1] [[(an 2 3), o0, ⟨.seq true, none⟩, o0, o0, (a1 1), oF, o0, o0, o0, (a1 1), oF, o0, o0, o0, (a1 1), oT, o0, o0, o0, o0, o0], [o0]] [Qb w7.heap.size, Qb w7.heap.size, (((checkF c).where_.First : Int) == (0 : Int) && (((checkF c).where_.Second : Int) == (0 : Int) && true)) = true, Qb z, BF ((c.Frames : Int) < 1), Qb z, BF ((c.Frames : Int) > 1024), Qb z, BT ((c.Kernel : Int) < 0)] [(2, .bool false)] rfl ⟨rfl, rfl, h9, rfl, bf (by omega), rfl, bf (by omega), rfl, bt (by omega), trivial⟩ ?_
           refine e_ret [] [] (.bool false) trivial ?_
           intro w15 hw15
           exfalso; omega
         · by_cases h16 : (c.Room : Int) < 1
           · refine q_cS 9 0 [1] [[(an 2 3), o0, ⟨.seq true, none⟩, o0, o0, (a1 1), oF, o0, o0, o0, (a1 1), oF, o0, o0, o0, (a1 1), oF, o0, o0, o0, (a1 1), oT, o0, o0, o0], [o0]] [Qb w7.heap.size, Qb w7.heap.size, (((checkF c).where_.First : Int) == (0 : Int) && (((checkF c).where_.Second : Int) == (0 : Int) && true)) = true, Qb z, BF ((c.Frames : Int) < 1), Qb z, BF ((c.Frames : Int) > 1024), Qb z, BF ((c.Kernel : Int) < 0), Qb z, BT ((c.Room : Int) < 1)] [(2, .bool false)] rfl ⟨rfl, rfl, h9, rfl, bf (by omega), rfl, bf (by omega), rfl, bf (by omega), rfl, bt (by omega), trivial⟩ ?_
             refine e_ret [] [] (.bool false) trivial ?_
             intro w17 hw17
             exfalso; omega
           · by_cases h18 : (c.Frames : Int) < c.Kernel + c.Room
             · refine q_cS 9 0 [1] [[(an 2 3), o0, ⟨.seq true, none⟩, o0, o0, (a1 1), oF, o0, o0, o0, (a1 1), oF, o0, o0, o0, (a1 1), oF, o0, o0, o0, (a1 1), oF, o0, o0, o0, (a1 1), o0, (a1 1), (ov (i6 (c.Kernel + c.Room))), o0, (a1 1), oT, o0], [o0]] [Qb w7.heap.size, Qb w7.heap.size, (((checkF c).where_.First : Int) == (0 : Int) && (((checkF c).where_.Second : Int) == (0 : Int) && true)) = true, Qb z, BF ((c.Frames : Int) < 1), Qb z, BF ((c.Frames : Int) > 1024), Qb z, BF ((c.Kernel : Int) < 0), Qb z, BF ((c.Room : Int) < 1), Qb z, Qb z, Wr ((c.Kernel : Int) + c.Room) (c.Kernel + c.Room), Qb z, BT ((c.Kernel + c.Room : Int) > c.Frames)] [(2, .bool false)] rfl ⟨rfl, rfl, h9, rfl, bf (by omega), rfl, bf (by omega), rfl, bf (by omega), rfl, bf (by omega), rfl, rfl, wrI, rfl, bt (by omega), trivial⟩ ?_
               refine e_ret [] [] (.bool false) trivial ?_
               intro w19 hw19
               exfalso; omega
             · refine q_c 16 0 [0] [[(an 2 3), o0, ⟨.seq true, none⟩, o0, o0, (a1 1), oF, o0, o0, o0, (a1 1), oF, o0, o0, o0, (a1 1), oF, o0, o0, o0, (a1 1), oF, o0, o0, o0, (a1 1), o0, (a1 1), (ov (i6 (c.Kernel + c.Room))), o0, (a1 1), oF, o0], [o0], [o0, (a1 1), o0]] [Qb w7.heap.size, Qb w7.heap.size, (((checkF c).where_.First : Int) == (0 : Int) && (((checkF c).where_.Second : Int) == (0 : Int) && true)) = true, Qb z, BF ((c.Frames : Int) < 1), Qb z, BF ((c.Frames : Int) > 1024), Qb z, BF ((c.Kernel : Int) < 0), Qb z, BF ((c.Room : Int) < 1), Qb z, Qb z, Wr ((c.Kernel : Int) + c.Room) (c.Kernel + c.Room), Qb z, BF ((c.Kernel + c.Room : Int) > c.Frames), Qb z] [(1, pt z), (qrh7_3 w7), (6, i6 c.Kernel)] ⟨w, w7.heap.size + 2, [(old0 w), (qrh7_2 z c), (mid (z + 1) w2), (qrh7_0 w7 c), (bk (w7.heap.size + 1) (takA (fun _ => false)) 47)]⟩ rfl ⟨rfl, rfl, h9, rfl, bf (by omega), rfl, bf (by omega), rfl, bf (by omega), rfl, bf (by omega), rfl, rfl, wrI, rfl, bf (by omega), rfl, trivial⟩ ?_
               refine g_loop (fun m a w' => ∃ (n21 : Nat) (j : Nat) (tkj : Nat → Bool), m = c.Room.toNat - j ∧ w7.heap.size + 2 ≤ n21 ∧ (j ≤ c.Room.toNat) ∧ (∀ t : Nat, tkj t = true → c.Kernel ≤ t ∧ t < c.Kernel + (j : Int)) ∧ St 170 [(1, pt z), (qrh7_3 w7), (6, i6 (c.Kernel + (j : Int)))] [] ⟨w, n21, [(old0 w), (qrh7_2 z c), (mid (z + 1) w2), (qrh7_0 w7 c), (bk (w7.heap.size + 1) (takA tkj) 47)]⟩ a w') (c.Room.toNat - 0) ?_ ?_
               · intro a w' hs; exact ⟨(w7.heap.size + 2), 0, (fun _ => false), rfl, Nat.le_refl _, Nat.zero_le _, (fun t ht => by cases ht), (by (try dsimp only [qrh7_0, qrh7_1, qrh7_2, qrh7_3, qrh7_4] at hs ⊢); rw [show c.Kernel + ((0 : Nat) : Int) = c.Kernel from by omega]; exact hs)⟩
               · rintro m a w' ⟨n21, j, tkj, rfl, hn20, hkj, hT_j, hs⟩
                 refine (?_ : G Tryd.prog 170 [(1, pt z), (qrh7_3 w7), (6, i6 (c.Kernel + (j : Int)))] [] ⟨w, n21, [(old0 w), (qrh7_2 z c), (mid (z + 1) w2), (qrh7_0 w7 c), (bk (w7.heap.size + 1) (takA tkj) 47)]⟩ _ _ _) a w' hs
                 clear hs a w'
                 refine g_seq <| g_seq ?_
                 by_cases h22 : ((c.Kernel + (j : Int)) : Int) < c.Kernel + c.Room
                 · refine q_c 14 0 [1] [[o0, o0, (a1 1), o0, (a1 1), (ov (i6 (c.Kernel + c.Room))), oT], [o0, (oi (((c.Kernel + (j : Int))).toNat)), (oa [.atv 4 undef])], [o0, (ov (i6 ((c.Kernel + (j : Int)) + 1))), o0]] [Qb z, Qb z, Wr ((c.Kernel : Int) + c.Room) (c.Kernel + c.Room), BT (((c.Kernel + (j : Int)) : Int) < (c.Kernel + c.Room)), ((c.Kernel + (j : Int)) : Int) = ((((c.Kernel + (j : Int))).toNat : Nat) : Int), ((c.Kernel + (j : Int))).toNat < 1024, (none : Option Nat) = none, (none : Option Nat) = none, Qb (w7.heap.size + 1), 0 + (((c.Kernel + (j : Int))).toNat) < (takA tkj).size, Wr (((c.Kernel + (j : Int)) : Int) + 1) ((c.Kernel + (j : Int)) + 1)] [(1, pt z), (qrh7_3 w7), (6, i6 ((c.Kernel + (j : Int)) + 1))] ⟨w, n21, [(old0 w), (qrh7_2 z c), (mid (z + 1) w2), (qrh7_0 w7 c), (Ch.blk (w7.heap.size + 1) (.cells ((takA tkj).setIfInBounds (0 + (((c.Kernel + (j : Int))).toNat)) (.bool true)) 47 (0, 0)) true)]⟩ rfl ⟨rfl, rfl, wrI, bt (by omega), (by omega), (by omega), rfl, rfl, rfl, (by rw [tak_size]; omega), wrI, trivial⟩ ?_
                   refine e_inv (fun a w' hs => ⟨c.Room.toNat - (j + 1), by omega, n21, (j + 1), (fun s => tkj s || decide (s = (((c.Kernel + (j : Int))).toNat))), rfl, by omega, by omega, tk_kern hT_j (by omega), (by (try dsimp only [qrh7_0, qrh7_1, qrh7_2, qrh7_3, qrh7_4] at hs ⊢); rw [show c.Kernel + ((j + 1 : Nat) : Int) = c.Kernel + (j : Int) + 1 from by omega, tak_set]; simpa only [Nat.zero_add] using hs)⟩)
                 · refine q_cS 15 0 [0] [[o0, o0, (a1 1), o0, (a1 1), (ov (i6 (c.Kernel + c.Room))), oF], [o0]] [Qb z, Qb z, Wr ((c.Kernel : Int) + c.Room) (c.Kernel + c.Room), BF (((c.Kernel + (j : Int)) : Int) < (c.Kernel + c.Room))] [(1, pt z), (qrh7_3 w7), (7, i6 0)] rfl ⟨rfl, rfl, wrI, bf (by omega), trivial⟩ ?_
                   refine g_loop (fun m a w' => ∃ (n24 : Nat) (p : Nat) (tkp : Nat → Bool), m = c.Partitions.xs.length - p ∧ n21 ≤ n24 ∧ (p ≤ c.Partitions.xs.length) ∧ (TkIn c p 0 0 tkp) ∧ St 170 [(1, pt z), (qrh7_3 w7), (7, i6 (p : Int))] [] ⟨w, n24, [(old0 w), (qrh7_2 z c), (mid (z + 1) w2), (qrh7_0 w7 c), (bk (w7.heap.size + 1) (takA tkp) 47)]⟩ a w') (c.Partitions.xs.length - 0) ?_ ?_
                   · intro a w' hs; exact ⟨n21, 0, tkj, rfl, Nat.le_refl _, Nat.zero_le _, tk_begin (fun t ht => by have := hT_j t ht; omega), hs⟩
                   · rintro m a w' ⟨n24, p, tkp, rfl, hn23, hkp, hT_p, hs⟩
                     refine (?_ : G Tryd.prog 170 [(1, pt z), (qrh7_3 w7), (7, i6 (p : Int))] [] ⟨w, n24, [(old0 w), (qrh7_2 z c), (mid (z + 1) w2), (qrh7_0 w7 c), (bk (w7.heap.size + 1) (takA tkp) 47)]⟩ _ _ _) a w' hs
                     clear hs a w'
                     refine g_seq <| g_seq ?_
                     by_cases h25 : ((p : Int) : Int) < ((c.Partitions.xs.length : Nat) : Int)
                     · refine q_cS 13 0 [1] [[o0, o0, (a1 1), o0, oT], [o0]] [Qb z, BT (((p : Int) : Int) < ((c.Partitions.xs.length : Nat) : Int))] [(1, pt z), (qrh7_3 w7), (7, i6 (p : Int)), (8, i6 0)] rfl ⟨rfl, bt (by omega), trivial⟩ ?_
                       refine g_loop (fun m a w' => ∃ (n27 : Nat) (k : Nat) (tkk : Nat → Bool), m = (gd c.Partitions.xs p).Regions.xs.length - k ∧ n24 ≤ n27 ∧ (k ≤ (gd c.Partitions.xs p).Regions.xs.length) ∧ (TkIn c p k 0 tkk) ∧ St 170 [(1, pt z), (qrh7_3 w7), (7, i6 (p : Int)), (8, i6 (k : Int))] [] ⟨w, n27, [(old0 w), (qrh7_2 z c), (mid (z + 1) w2), (qrh7_0 w7 c), (bk (w7.heap.size + 1) (takA tkk) 47)]⟩ a w') ((gd c.Partitions.xs p).Regions.xs.length - 0) ?_ ?_
                       · intro a w' hs; exact ⟨n24, 0, tkp, rfl, Nat.le_refl _, Nat.zero_le _, hT_p, hs⟩
                       · rintro m a w' ⟨n27, k, tkk, rfl, hn26, hkk, hT_k, hs⟩
                         refine (?_ : G Tryd.prog 170 [(1, pt z), (qrh7_3 w7), (7, i6 (p : Int)), (8, i6 (k : Int))] [] ⟨w, n27, [(old0 w), (qrh7_2 z c), (mid (z + 1) w2), (qrh7_0 w7 c), (bk (w7.heap.size + 1) (takA tkk) 47)]⟩ _ _ _) a w' hs
                         clear hs a w'
                         refine g_seq <| g_seq ?_
                         obtain ⟨b28, o29, ha30, hF32, hc31⟩ := (hc.Partitions).1.all (show 0 < c.Partitions.xs.length by omega)
                         replace ha30 : c.Partitions.a = some ⟨b28, o29, none⟩ := ha30
                         have hc33 := hc31 p (show p < c.Partitions.xs.length by omega)
                         have he34 := (hc.Partitions).2 p (show p < c.Partitions.xs.length by omega)
                         obtain ⟨y35, hy35⟩ : ∃ y_, y_ = gd c.Partitions.xs p := ⟨_, rfl⟩
                         rw [← hy35] at he34 hc33
                         have hley35 : y35.Regions.xs.length = (gd c.Partitions.xs p).Regions.xs.length := (by rw [hy35]); have hyly35 := he34.Regions.1.len
                         by_cases h36 : ((k : Int) : Int) < ((y35.Regions.xs.length : Nat) : Int)
                         · refine q_cS 9 0 [1] [[o0, o0, ⟨.auto [.at 1], some (.slice (some ⟨b28, o29, none⟩) c.Partitions.xs.length c.Partitions.cap)⟩, o0, (oi p), o0, (oa [.via 0 (.slice y35.Regions.a y35.Regions.xs.length y35.Regions.cap)]), o0, oT]] [Qb z, Value.slice c.Partitions.a c.Partitions.xs.length c.Partitions.cap = Value.slice (some ⟨b28, o29, none⟩) c.Partitions.xs.length c.Partitions.cap, ((p : Int) : Int) = ((p : Nat) : Int), p < c.Partitions.xs.length, (none : Option Nat) = none, Old w b28 (o29 + p * 8 + 6) (.slice y35.Regions.a y35.Regions.xs.length y35.Regions.cap), BT (((k : Int) : Int) < ((y35.Regions.xs.length : Nat) : Int))] [(1, pt z), (qrh7_3 w7), (7, i6 (p : Int)), (8, i6 (k : Int)), (98, .bool true)] rfl ⟨rfl, congrArg (fun a => Value.slice a _ _) ha30, rfl, (by omega), rfl, old_cell' (hc33 6 _ rfl), bt (by omega), trivial⟩ ?_
                           obtain ⟨b37, o38, ha39, hF41, hc40⟩ := (he34.Regions).1.all (show 0 < y35.Regions.xs.length by omega)
                           replace ha39 : y35.Regions.a = some ⟨b37, o38, none⟩ := ha39
                           have hc42 := hc40 k (show k < y35.Regions.xs.length by omega)
                           have he43 := (he34.Regions).2 k (show k < y35.Regions.xs.length by omega)
                           obtain ⟨y44, hy44⟩ : ∃ y_, y_ = gd y35.Regions.xs k := ⟨_, rfl⟩
                           rw [← hy44] at he43 hc42
                           have e0y44 : regC c p k = y44 := (by dsimp only [regC]; rw [hy44, hy35])
                           have hry44 := hG.reg p k (by omega) (by omega); rw [e0y44] at hry44
                           refine q_c 5 0 [] [[o0, ⟨.auto [.at 1], some (.slice (some ⟨b28, o29, none⟩) c.Partitions.xs.length c.Partitions.cap)⟩, o0, (oi p), o0, ⟨.auto [.via 0 (.slice y35.Regions.a y35.Regions.xs.length y35.Regions.cap)], some (.slice (some ⟨b37, o38, none⟩) y35.Regions.xs.length y35.Regions.cap)⟩, o0, (oi k), (ol 0 (TRegion.arr y44)), o0, (an 4 5)]] [Qb z, Value.slice c.Partitions.a c.Partitions.xs.length c.Partitions.cap = Value.slice (some ⟨b28, o29, none⟩) c.Partitions.xs.length c.Partitions.cap, ((p : Int) : Int) = ((p : Nat) : Int), p < c.Partitions.xs.length, (none : Option Nat) = none, Old w b28 (o29 + p * 8 + 6) (.slice y35.Regions.a y35.Regions.xs.length y35.Regions.cap), Value.slice y35.Regions.a y35.Regions.xs.length y35.Regions.cap = Value.slice (some ⟨b37, o38, none⟩) y35.Regions.xs.length y35.Regions.cap, ((k : Int) : Int) = ((k : Nat) : Int), k < y35.Regions.xs.length, (none : Option Nat) = none, OldR w b37 (o38 + k * 4) (TRegion.arr y44), Qb n27, Qb n27, Qb n27, Qb n27] [(1, pt z), (qrh7_3 w7), (7, i6 (p : Int)), (8, i6 (k : Int)), (qrh7_4 n27)] ⟨w, n27 + 1, [(old0 w), (qrh7_2 z c), (mid (z + 1) w2), (qrh7_0 w7 c), (bk (w7.heap.size + 1) (takA tkk) 47), (qrh7_1 n27 y44)]⟩ rfl ⟨rfl, congrArg (fun a => Value.slice a _ _) ha30, rfl, (by omega), rfl, old_cell' (hc33 6 _ rfl), congrArg (fun a => Value.slice a _ _) ha39, rfl, (by omega), rfl, old_row hc42, rfl, rfl, rfl, rfl, trivial⟩ ?_
                           by_cases h45 : (y44.Pages : Int) < 1
                           · refine q_cS 9 0 [1] [[o0, (a1 5), oT, o0, o0, o0, o0], [o0]] [Qb n27, BT ((y44.Pages : Int) < 1)] [(2, .bool false)] rfl ⟨rfl, bt (by omega), trivial⟩ ?_
                             refine e_ret [] [] (.bool false) trivial ?_
                             intro w46 hw46
                             exfalso; omega
                           · by_cases h47 : (y44.Frame : Int) < 0
                             · refine q_cS 9 0 [1] [[o0, (a1 5), oF, o0, o0, (a1 5), oT, o0, o0, o0], [o0]] [Qb n27, BF ((y44.Pages : Int) < 1), Qb n27, BT ((y44.Frame : Int) < 0)] [(2, .bool false)] rfl ⟨rfl, bf (by omega), rfl, bt (by omega), trivial⟩ ?_
                               refine e_ret [] [] (.bool false) trivial ?_
                               intro w48 hw48
                               exfalso; omega
                             · by_cases h49 : (c.Frames : Int) < y44.Frame + y44.Pages
                               · refine q_cS 9 0 [1] [[o0, (a1 5), oF, o0, o0, (a1 5), oF, o0, o0, o0, (a1 5), o0, (a1 5), (ov (i6 (y44.Frame + y44.Pages))), o0, (a1 1), oT, o0], [o0]] [Qb n27, BF ((y44.Pages : Int) < 1), Qb n27, BF ((y44.Frame : Int) < 0), Qb n27, Qb n27, Wr ((y44.Frame : Int) + y44.Pages) (y44.Frame + y44.Pages), Qb z, BT ((y44.Frame + y44.Pages : Int) > c.Frames)] [(2, .bool false)] rfl ⟨rfl, bf (by omega), rfl, bf (by omega), rfl, rfl, wrI, rfl, bt (by omega), trivial⟩ ?_
                                 refine e_ret [] [] (.bool false) trivial ?_
                                 intro w50 hw50
                                 exfalso; omega
                               · refine q_cS 11 0 [0] [[o0, (a1 5), oF, o0, o0, (a1 5), oF, o0, o0, o0, (a1 5), o0, (a1 5), (ov (i6 (y44.Frame + y44.Pages))), o0, (a1 1), oF, o0], [o0, (a1 5), o0]] [Qb n27, BF ((y44.Pages : Int) < 1), Qb n27, BF ((y44.Frame : Int) < 0), Qb n27, Qb n27, Wr ((y44.Frame : Int) + y44.Pages) (y44.Frame + y44.Pages), Qb z, BF ((y44.Frame + y44.Pages : Int) > c.Frames), Qb n27] [(1, pt z), (qrh7_3 w7), (7, i6 (p : Int)), (8, i6 (k : Int)), (qrh7_4 n27), (10, i6 y44.Frame)] rfl ⟨rfl, bf (by omega), rfl, bf (by omega), rfl, rfl, wrI, rfl, bf (by omega), rfl, trivial⟩ ?_
                                 refine g_loop (fun m a w' => ∃ (n52 : Nat) (fm : Nat) (tkfm : Nat → Bool), m = y44.Pages.toNat - fm ∧ n27 + 1 ≤ n52 ∧ (fm ≤ y44.Pages.toNat) ∧ (TkIn c p k (fm : Int) tkfm) ∧ St 170 [(1, pt z), (qrh7_3 w7), (7, i6 (p : Int)), (8, i6 (k : Int)), (qrh7_4 n27), (10, i6 (y44.Frame + (fm : Int)))] [] ⟨w, n52, [(old0 w), (qrh7_2 z c), (mid (z + 1) w2), (qrh7_0 w7 c), (bk (w7.heap.size + 1) (takA tkfm) 47), (qrh7_1 n27 y44)]⟩ a w') (y44.Pages.toNat - 0) ?_ ?_
                                 · intro a w' hs; exact ⟨(n27 + 1), 0, tkk, rfl, Nat.le_refl _, Nat.zero_le _, hT_k, (by (try dsimp only [qrh7_0, qrh7_1, qrh7_2, qrh7_3, qrh7_4] at hs ⊢); rw [show y44.Frame + ((0 : Nat) : Int) = y44.Frame from by omega]; exact hs)⟩
                                 · rintro m a w' ⟨n52, fm, tkfm, rfl, hn51, hkfm, hT_fm, hs⟩
                                   refine (?_ : G Tryd.prog 170 [(1, pt z), (qrh7_3 w7), (7, i6 (p : Int)), (8, i6 (k : Int)), (qrh7_4 n27), (10, i6 (y44.Frame + (fm : Int)))] [] ⟨w, n52, [(old0 w), (qrh7_2 z c), (mid (z + 1) w2), (qrh7_0 w7 c), (bk (w7.heap.size + 1) (takA tkfm) 47), (qrh7_1 n27 y44)]⟩ _ _ _) a w' hs
                                   clear hs a w'
                                   refine g_seq <| g_seq ?_
                                   by_cases h53 : ((y44.Frame + (fm : Int)) : Int) < y44.Frame + y44.Pages
                                   · refine q_cS 13 0 [1] [[o0, o0, (a1 5), o0, (a1 5), (ov (i6 (y44.Frame + y44.Pages))), oT], [o0, (oi (((y44.Frame + (fm : Int))).toNat)), (oa [.atv 4 (.bool (tkfm (0 + (((y44.Frame + (fm : Int))).toNat))))])]] [Qb n27, Qb n27, Wr ((y44.Frame : Int) + y44.Pages) (y44.Frame + y44.Pages), BT (((y44.Frame + (fm : Int)) : Int) < (y44.Frame + y44.Pages)), ((y44.Frame + (fm : Int)) : Int) = ((((y44.Frame + (fm : Int))).toNat : Nat) : Int), ((y44.Frame + (fm : Int))).toNat < 1024, (none : Option Nat) = none, (none : Option Nat) = none, Qb (w7.heap.size + 1), (takA tkfm)[0 + (((y44.Frame + (fm : Int))).toNat)]? = some (Value.bool (tkfm (0 + (((y44.Frame + (fm : Int))).toNat))))] [(1, pt z), (qrh7_3 w7), (7, i6 (p : Int)), (8, i6 (k : Int)), (qrh7_4 n27), (10, i6 (y44.Frame + (fm : Int))), (141, .bool (tkfm (0 + (((y44.Frame + (fm : Int))).toNat))))] rfl ⟨rfl, rfl, wrI, bt (by omega), (by omega), (by omega), rfl, rfl, rfl, tak_at _ (by omega), trivial⟩ ?_
                                     by_cases h54 : (tkfm (0 + (((y44.Frame + (fm : Int))).toNat))) = true
                                     · refine q_cS 6 0 [3] [[o0]] [Value.bool (tkfm (0 + (((y44.Frame + (fm : Int))).toNat))) = Value.bool true] [(2, .bool false)] rfl ⟨(congrArg Value.bool h54), trivial⟩ ?_
                                       refine e_ret [] [] (.bool false) trivial ?_
                                       intro w55 hw55
                                       exact absurd (by simpa only [Nat.zero_add] using h54) (tk_free (j := (y44.Frame + (fm : Int)).toNat) hG hT_fm (by omega) (by omega) (by rw [e0y44]; omega) (by rw [e0y44]; omega))
                                     · refine q_c 9 0 [2] [[o0, (oi (((y44.Frame + (fm : Int))).toNat)), (oa [.atv 4 undef])], [o0, (ov (i6 ((y44.Frame + (fm : Int)) + 1))), o0]] [Value.bool (tkfm (0 + (((y44.Frame + (fm : Int))).toNat))) = Value.bool false, ((y44.Frame + (fm : Int)) : Int) = ((((y44.Frame + (fm : Int))).toNat : Nat) : Int), ((y44.Frame + (fm : Int))).toNat < 1024, (none : Option Nat) = none, (none : Option Nat) = none, Qb (w7.heap.size + 1), 0 + (((y44.Frame + (fm : Int))).toNat) < (takA tkfm).size, Wr (((y44.Frame + (fm : Int)) : Int) + 1) ((y44.Frame + (fm : Int)) + 1)] [(1, pt z), (qrh7_3 w7), (7, i6 (p : Int)), (8, i6 (k : Int)), (qrh7_4 n27), (10, i6 ((y44.Frame + (fm : Int)) + 1))] ⟨w, n52, [(old0 w), (qrh7_2 z c), (mid (z + 1) w2), (qrh7_0 w7 c), (Ch.blk (w7.heap.size + 1) (.cells ((takA tkfm).setIfInBounds (0 + (((y44.Frame + (fm : Int))).toNat)) (.bool true)) 47 (0, 0)) true), (qrh7_1 n27 y44)]⟩ rfl ⟨(congrArg Value.bool (Bool.eq_false_iff.2 h54)), (by omega), (by omega), rfl, rfl, rfl, (by rw [tak_size]; omega), wrI, trivial⟩ ?_
                                       refine e_inv (fun a w' hs => ⟨y44.Pages.toNat - (fm + 1), by omega, n52, (fm + 1), (fun s => tkfm s || decide (s = (((y44.Frame + (fm : Int))).toNat))), rfl, by omega, by omega, tk_one hT_fm (by omega) (by rw [e0y44]; omega), (by (try dsimp only [qrh7_0, qrh7_1, qrh7_2, qrh7_3, qrh7_4] at hs ⊢); rw [show y44.Frame + ((fm + 1 : Nat) : Int) = y44.Frame + (fm : Int) + 1 from by omega, tak_set]; simpa only [Nat.zero_add] using hs)⟩)
                                   · refine q_cS 12 0 [0] [[o0, o0, (a1 5), o0, (a1 5), (ov (i6 (y44.Frame + y44.Pages))), oF], [o0, (ov (i6 ((k + 1 : Nat) : Int))), o0]] [Qb n27, Qb n27, Wr ((y44.Frame : Int) + y44.Pages) (y44.Frame + y44.Pages), BF (((y44.Frame + (fm : Int)) : Int) < (y44.Frame + y44.Pages)), Wr (((k : Int) : Int) + 1) (((k + 1 : Nat) : Int))] [(1, pt z), (qrh7_3 w7), (7, i6 (p : Int)), (8, i6 ((k + 1 : Nat) : Int))] rfl ⟨rfl, rfl, wrI, bf (by omega), wrI, trivial⟩ ?_
                                     refine e_pick [0, 1, 2, 3, 4] [(old0 w), (qrh7_2 z c), (mid (z + 1) w2), (qrh7_0 w7 c), (bk (w7.heap.size + 1) (takA tkfm) 47)] rfl rfl ?_
                                     refine e_keep [1, 5, 7, 8] [(1, pt z), (qrh7_3 w7), (7, i6 (p : Int)), (8, i6 ((k + 1 : Nat) : Int))] ?_
                                     refine e_inv (fun a w' hs => ⟨(gd c.Partitions.xs p).Regions.xs.length - (k + 1), by omega, n52, (k + 1), tkfm, rfl, by omega, by omega, tk_reg hT_fm (by omega) (by omega) (by rw [e0y44]; omega), hs⟩)
                         · refine q_cS 12 0 [0] [[o0, o0, ⟨.auto [.at 1], some (.slice (some ⟨b28, o29, none⟩) c.Partitions.xs.length c.Partitions.cap)⟩, o0, (oi p), o0, (oa [.via 0 (.slice y35.Regions.a y35.Regions.xs.length y35.Regions.cap)]), o0, oF], [o0, (ov (i6 ((p + 1 : Nat) : Int))), o0]] [Qb z, Value.slice c.Partitions.a c.Partitions.xs.length c.Partitions.cap = Value.slice (some ⟨b28, o29, none⟩) c.Partitions.xs.length c.Partitions.cap, ((p : Int) : Int) = ((p : Nat) : Int), p < c.Partitions.xs.length, (none : Option Nat) = none, Old w b28 (o29 + p * 8 + 6) (.slice y35.Regions.a y35.Regions.xs.length y35.Regions.cap), BF (((k : Int) : Int) < ((y35.Regions.xs.length : Nat) : Int)), Wr (((p : Int) : Int) + 1) (((p + 1 : Nat) : Int))] [(1, pt z), (qrh7_3 w7), (7, i6 ((p + 1 : Nat) : Int))] rfl ⟨rfl, congrArg (fun a => Value.slice a _ _) ha30, rfl, (by omega), rfl, old_cell' (hc33 6 _ rfl), bf (by omega), wrI, trivial⟩ ?_
                           refine e_inv (fun a w' hs => ⟨c.Partitions.xs.length - (p + 1), by omega, n27, (p + 1), tkk, rfl, by omega, by omega, tk_part hT_k, hs⟩)
                     · refine q_cS 11 1 [0] [[o0, o0, (a1 1), o0, oF], [(an 7 1)]] [Qb z, BF (((p : Int) : Int) < ((c.Partitions.xs.length : Nat) : Int)), Qb z, Qb z, Qb z, Qb z, Qb z, Qb z, Qb z] [(1, pt z), (145, .agg (TConfig.arr c))] rfl ⟨rfl, bf (by omega), rfl, rfl, rfl, rfl, rfl, rfl, rfl, trivial⟩ ?_
                       refine l_call [] [] 11 #[.agg (TConfig.arr c)] (some 146) trivial ?_
                       intro w56 hw56
                       refine (copied_calls w56 c (hc.ext (hw56.ext rfl) (fun _ h => h)) hLim).mono ?_
                       rintro e w57 ⟨d58, rfl, hs59, ho60, hkw57⟩
                       have hnw57 : n24 ≤ w57.heap.size := size_of hw56 hkw57
                       replace ho60 := own_ok hc hs59 ho60
                       rw [hw56.size] at ho60
                       refine ⟨_, _, rfl, hw56.keepsM hkw57, ?_⟩
                       refine l_keep [1, 146] [(1, pt z), (146, .agg (TConfig.arr d58))] ?_
                       refine l_call [] [] 12 #[.agg (TConfig.arr d58)] (some 147) trivial ?_
                       intro w61 hw61
                       refine (need_copy w61 c d58 (ho60.ext (hw61.extM 5) (fun _ _ => trivial)) hs59).mono ?_
                       rintro e w62 ⟨rfl, hkw62⟩
                       have hnw62 : w57.heap.size ≤ w62.heap.size := size_of hw61 hkw62
                       refine ⟨_, _, rfl, hw61.keeps hkw62, ?_⟩
                       refine q_rS 3 0 [] [[o0, o0, o0, o0, o0]] [] [(1, pt z), (11, i6 (needOf c)), (12, i6 (errOf c))] rfl trivial ?_
                       by_cases h63 : (errOf c : Int) = 0
                       · by_cases h64 : (needOf c : Int) < 1
                         · refine q_cS 4 0 [] [[o0, oT, o0, o0, oF, o0, o0, o0, o0, o0, o0, o0, o0]] [ET (errOf c) 0, BF ((needOf c : Int) ≥ 1)] [(2, .bool false)] rfl ⟨et (by omega), bf (by omega), trivial⟩ ?_
                           refine e_ret [] [] (.bool false) trivial ?_
                           intro w65 hw65
                           exfalso; omega
                         · by_cases h66 : (c.Room : Int) < needOf c
                           · refine q_cS 4 0 [] [[o0, oT, o0, o0, oT, o0, o0, o0, o0, (a1 1), oF, o0, o0, o0, o0, o0, o0]] [ET (errOf c) 0, BT ((needOf c : Int) ≥ 1), Qb z, BF ((needOf c : Int) ≤ c.Room)] [(2, .bool false)] rfl ⟨et (by omega), bt (by omega), rfl, bf (by omega), trivial⟩ ?_
                             refine e_ret [] [] (.bool false) trivial ?_
                             intro w67 hw67
                             exfalso; omega
                           · refine q_cS 1 14 [] [[o0, oT, o0, o0, oT, o0, o0, o0, o0, (a1 1), oT, o0, o0, (an 7 1)]] [ET (errOf c) 0, BT ((needOf c : Int) ≥ 1), Qb z, BT ((needOf c : Int) ≤ c.Room), Qb z, Qb z, Qb z, Qb z, Qb z, Qb z, Qb z] [(1, pt z), (162, .bool true), (163, .agg (TConfig.arr c))] rfl ⟨et (by omega), bt (by omega), rfl, bt (by omega), rfl, rfl, rfl, rfl, rfl, rfl, rfl, trivial⟩ ?_
                             refine l_call [] [] 13 #[.agg (TConfig.arr c)] (some 164) trivial ?_
                             intro w68 hw68
                             refine (timed_calls w68 c (hc.ext (hw68.ext rfl) (fun _ h => h)) hG).mono ?_
                             rintro e w69 ⟨rfl, hkw69⟩
                             have hnw69 : w62.heap.size ≤ w69.heap.size := size_of hw68 hkw69
                             refine ⟨_, _, rfl, hw68.keeps hkw69, ?_⟩
                             refine q_rS 0 3 [] [[o0, o0, (an 7 1)]] [Qb z, Qb z, Qb z, Qb z, Qb z, Qb z, Qb z] [(166, .bool true), (167, .agg (TConfig.arr c))] rfl ⟨rfl, rfl, rfl, rfl, rfl, rfl, rfl, trivial⟩ ?_
                             refine l_call [] [] 14 #[.agg (TConfig.arr c)] (some 168) trivial ?_
                             intro w70 hw70
                             refine (led_calls w70 c (hc.ext (hw70.ext rfl) (fun _ h => h)) hG).mono ?_
                             rintro e w71 ⟨rfl, hkw71⟩
                             have hnw71 : w69.heap.size ≤ w71.heap.size := size_of hw70 hkw71
                             refine ⟨_, _, rfl, hw70.keeps hkw71, ?_⟩
                             refine q_rS 3 0 [] [[o0, o0]] [] [(2, .bool true)] rfl trivial ?_
                             refine e_ret [] [] (.bool true) trivial ?_
                             intro w72 hw72
                             exact ⟨rfl, back0 hw72⟩
                       · refine q_cS 4 0 [] [[o0, oF, o0, o0, o0, o0, o0, o0, o0, o0, o0]] [EF (errOf c) 0] [(2, .bool false)] rfl ⟨ef (by omega), trivial⟩ ?_
                         refine e_ret [] [] (.bool false) trivial ?_
                         intro w73 hw73
                         exfalso; omega
   · refine q_cS 9 0 [1] [[(an 2 3), o0, ⟨.seq false, none⟩, o0, o0, o0, o0, o0, o0, o0, o0, o0, o0], [o0]] [Qb w7.heap.size, Qb w7.heap.size, (((checkF c).where_.First : Int) == (0 : Int) && (((checkF c).where_.Second : Int) == (0 : Int) && true)) = false] [(2, .bool false)] rfl ⟨rfl, rfl, (Bool.eq_false_iff.2 h9), trivial⟩ ?_
     refine e_ret [] [] (.bool false) trivial ?_
     intro w74 hw74
     exact absurd (by rw [hwF.1, hwF.2]; rfl) h9
 · have hbad := check_bad h8
   refine q_cS 5 0 [1] [[o0, oT]] [NT ((checkF c).e) 0] [(1, pt z), (4, pt w7.heap.size), (3, i6 ((checkF c).e)), (20, .bool true)] rfl ⟨nt (by omega), trivial⟩ ?_
   by_cases h75 : ((checkF c).where_.First : Int) < -1
   · refine q_cS 4 0 [] [[o0, (a1 3), oF, o0, o0, o0, o0, o0, o0, o0]] [Qb w7.heap.size, BF (((checkF c).where_.First : Int) ≥ (-1))] [(2, .bool false)] rfl ⟨rfl, bf (by omega), trivial⟩ ?_
     refine e_ret [] [] (.bool false) trivial ?_
     intro w76 hw76
     exfalso; omega
   · by_cases h77 : ((checkF c).where_.Second : Int) < -1
     · refine q_cS 4 0 [] [[o0, (a1 3), oT, o0, o0, (a1 3), oF, o0, o0, o0, o0, o0, o0]] [Qb w7.heap.size, BT (((checkF c).where_.First : Int) ≥ (-1)), Qb w7.heap.size, BF (((checkF c).where_.Second : Int) ≥ (-1))] [(2, .bool false)] rfl ⟨rfl, bt (by omega), rfl, bf (by omega), trivial⟩ ?_
       refine e_ret [] [] (.bool false) trivial ?_
       intro w78 hw78
       exfalso; omega
     · by_cases h79 : ((checkF c).e : Int) < 400
       · refine q_cS 4 0 [] [[o0, (a1 3), oT, o0, o0, (a1 3), oT, o0, o0, o0, oF, o0, o0, o0, o0]] [Qb w7.heap.size, BT (((checkF c).where_.First : Int) ≥ (-1)), Qb w7.heap.size, BT (((checkF c).where_.Second : Int) ≥ (-1)), BF (((checkF c).e : Int) ≥ 400)] [(2, .bool false)] rfl ⟨rfl, bt (by omega), rfl, bt (by omega), bf (by omega), trivial⟩ ?_
         refine e_ret [] [] (.bool false) trivial ?_
         intro w80 hw80
         exfalso; omega
       · by_cases h81 : (423 : Int) < (checkF c).e
         · refine q_cS 4 0 [] [[o0, (a1 3), oT, o0, o0, (a1 3), oT, o0, o0, o0, oT, o0, o0, o0, oF, o0, o0]] [Qb w7.heap.size, BT (((checkF c).where_.First : Int) ≥ (-1)), Qb w7.heap.size, BT (((checkF c).where_.Second : Int) ≥ (-1)), BT (((checkF c).e : Int) ≥ 400), BF (((checkF c).e : Int) ≤ 423)] [(2, .bool false)] rfl ⟨rfl, bt (by omega), rfl, bt (by omega), bt (by omega), bf (by omega), trivial⟩ ?_
           refine e_ret [] [] (.bool false) trivial ?_
           intro w82 hw82
           exfalso; omega
         · refine q_cS 4 0 [] [[o0, (a1 3), oT, o0, o0, (a1 3), oT, o0, o0, o0, oT, o0, o0, o0, oT, o0, o0]] [Qb w7.heap.size, BT (((checkF c).where_.First : Int) ≥ (-1)), Qb w7.heap.size, BT (((checkF c).where_.Second : Int) ≥ (-1)), BT (((checkF c).e : Int) ≥ 400), BT (((checkF c).e : Int) ≤ 423)] [(2, .bool true)] rfl ⟨rfl, bt (by omega), rfl, bt (by omega), bt (by omega), bt (by omega), trivial⟩ ?_
           refine e_ret [] [] (.bool true) trivial ?_
           intro w83 hw83
           exact ⟨rfl, back0 hw83⟩
end Go.Proofs.YtnjhekfgmbpmlaaDoor.Ad
namespace Go.Proofs.YtnjhekfgmbpmlaaDoor.Row
open Go.ChangeShapes Go.WideShapes Go.ChangeAt Go.RowKit
set_option linter.unusedVariables false
section
variable {H : Type} {enc : TypeId × Value → H} {P : Program}
theorem trodAll_below (hl : laidOutB P = true) {W W' : World} (hb : Below W.heap.size W W') :
    ∀ {ts : List TypeId} {vs : List Value} {ds : List (DataW H)} {ps : List MemPlace},
      ts.all (fun t => P.readableRec t && decide (t < P.types.size)) = true → (∀ x ∈ ps, x.block < W.heap.size) →
      DataW.TrodAll enc P W 0 (fun _ => true) true ts vs ds ps → DataW.TrodAll enc P W' 0 (fun b => decide (b < W.heap.size)) true ts vs ds ps := by
  intro ts
  induction ts with
  | nil =>
    intro vs ds ps _ _ h
    obtain ⟨rfl, rfl, rfl⟩ := trodAll_nil h
    exact trodAll_mk0
  | cons t ts ih =>
    intro vs ds ps ht hlt h
    obtain ⟨v0, vs0, d0, ds0, p0, q0, rfl, rfl, rfl, h0, r0⟩ := trodAll_cons h
    simp only [List.all_cons, Bool.and_eq_true, decide_eq_true_eq] at ht
    refine trodAll_cons_mk (Below.trod hl ht.1.1 ht.1.2 h0 hb (fun x hx => hlt x (by simp [hx]))) (ih ht.2 (fun x hx => hlt x (by simp [hx])) r0)
theorem post_true (hl : laidOutB P = true) {f : Func} {s : ChangeSpec} {tb : TypeId} {W W' : World} {args : Array Value} {ds gs : List (DataW H)} {before : List MemPlace}
    (hts : f.params.toList.all (fun t => P.readableRec t && decide (t < P.types.size)) = true) (hres : f.resultTypes = #[tb]) (hbool : P.underlying tb = some .bool)
    (hvars : s.vars = []) (hfn : s.fn H (ds ++ gs) = { results := [.lit (.bool true)], args := ds })
    (hW : DataW.Whole enc P f.params.toList s.vars false W args.toList ds gs before) (bel : Below W.heap.size W W') :
    s.post enc P f false true false false W args (.bool true) W' := by
  have hW' := hW
  obtain ⟨p, q, hA, hV, rfl, hfz, hnd⟩ := hW
  rw [hvars] at hV
  obtain ⟨rfl, rfl⟩ := trodVars_none hV
  have hlt : ∀ x ∈ p, x.block < W.heap.size := fun x hx => hW'.lt x (by simp [hx])
  refine ⟨ds, [], _, [], p, [], hW', ?_, ?_, ?_, bel.frame _, fun h => by cases h⟩
  · rw [hfn, hres]; exact trodAll_mk1 (shut_bool hbool _)
  · rw [hfn]; exact trodAll_below hl bel hts hlt hA
  · rw [hfn, hvars]; rfl
end
end Go.Proofs.YtnjhekfgmbpmlaaDoor.Row
