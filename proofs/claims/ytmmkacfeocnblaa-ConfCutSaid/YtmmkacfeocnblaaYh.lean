/- The configuration, read. No conditions. -/
import Derived.Test.YtmmkacfeocnblaaYg
namespace Go.Proofs.Ytmmkacfeocnblaa.Ly
open Go Go.Proofs.Ytmmkacfeocnblaa.Eng Go.Proofs.Ytmmkacfeocnblaa.Mem
set_option linter.unusedSimpArgs false
set_option linter.unusedVariables false
set_option maxRecDepth 100000
abbrev qb5d_0 (w11 : World) (x8 : TPartition) : Ch := .blk w11.heap.size (.cells #[.string x8.Name, i6 x8.Entry, i6 x8.Action, i6 x8.Restarts, i6 x8.Inputs, i6 x8.Outputs, .slice x8.Regions.a x8.Regions.xs.length x8.Regions.cap, .slice x8.Ports.a x8.Ports.xs.length x8.Ports.cap] 69 (0, 0)) true
abbrev qb5d_1 (z : Nat) (pr : Nat) : Ch := bk z #[pt pr] 87
abbrev qb5d_2 (z : Nat) (a12 : Option Addr) (xs : List TPartition) (x8 : TPartition) (cp13 : Nat) : Ch := rowL z 69 8 TPartition.cells (.slice a12 ((xs ++ [(⟨x8.Name, x8.Entry, x8.Action, x8.Restarts, x8.Inputs, x8.Outputs, (⟨x8.Regions.a, x8.Regions.cap, x8.Regions.xs⟩ : Sl TRegion), (⟨x8.Ports.a, x8.Ports.cap, x8.Ports.xs⟩ : Sl TPort)⟩ : TPartition)]).length) cp13) (xs ++ [(⟨x8.Name, x8.Entry, x8.Action, x8.Restarts, x8.Inputs, x8.Outputs, (⟨x8.Regions.a, x8.Regions.cap, x8.Regions.xs⟩ : Sl TRegion), (⟨x8.Ports.a, x8.Ports.cap, x8.Ports.xs⟩ : Sl TPort)⟩ : TPartition)])
abbrev qb5d_3 (z : Nat) (xs : List TPartition) : Ch := famC z 99 4 TRegion.cells (xs.map TPartition.Regions)
abbrev qb5d_4 (z : Nat) (xs : List TPartition) : Ch := famC z 101 2 TPort.cells (xs.map TPartition.Ports)
abbrev qb5d_5 (a12 : Option Addr) (xs : List TPartition) (x8 : TPartition) (cp13 : Nat) : Nat × Value := (6, .slice a12 ((xs ++ [(⟨x8.Name, x8.Entry, x8.Action, x8.Restarts, x8.Inputs, x8.Outputs, (⟨x8.Regions.a, x8.Regions.cap, x8.Regions.xs⟩ : Sl TRegion), (⟨x8.Ports.a, x8.Ports.cap, x8.Ports.xs⟩ : Sl TPort)⟩ : TPartition)]).length) cp13)
theorem takePt (w : World) (pr : Nat) (F : Nat → Prop) (b : List Int) (at0 : Nat) (hr : RdIs w pr F b at0 0) : Calls Try.prog 76 #[.agg #[.pointer (some ⟨pr, 0, none⟩)], .func (.func 77) #[] #[]] w fun e w' => MPost w pr F b (listAt b (partAt b) at0) (fun x => x.xs.map plP) (fun x => .slice x.a x.xs.length x.cap) partsFs e w' := by
 obtain ⟨z, hz⟩ : ∃ z, z = w.heap.size := ⟨_, rfl⟩
 refine calls_G (args := [.agg #[pt pr], .func (.func 77) #[] #[]]) 20 ⟨w, z, [(old F w), (rdC pr F b at0 0)]⟩ Try.func76 rfl (by kernel_rfl) (by kernel_rfl) (hz ▸ sat_rdC hr) ?_
 have hB := hr.byt; have hlen := hr.len; have hat := hr.le
 refine g_keep [0, 1] [(0, .agg #[pt pr]), (1, .func (.func 77) #[] #[])] ?_
 refine q_c 6 1 [] [[o0, o0], [(a1 2)]] [Qb z] [(1, .func (.func 77) #[] #[]), (2, pt z), (7, .agg #[pt pr])] ⟨w, z + 1, [(old F w), (rdC pr F b at0 0), (qb5d_1 z pr)]⟩ rfl ⟨rfl, trivial⟩ ?_
 refine l_callX [] [] 88 #[.agg #[pt pr]] (some 8) trivial ?_
 intro w1 hw1
 have hlew1 := RdIs.le (hw1.at (i := 1) (c := (rdC pr F b at0 0)) rfl)
 refine (byte_r w1 pr F b at0 (hw1.at (i := 1) rfl)).mono ?_
 rintro e w2 (⟨hqw2, rfl, hRw2, hkw2⟩ | ⟨hqw2, rfl, hkw2⟩)
 · have hvbw2 := byt_gd hB at0
   obtain ⟨n3, hnn3⟩ : ∃ n : Nat, (gd b at0) = (n : Int) := ⟨_, (Int.toNat_of_nonneg hvbw2.1).symm⟩; rw [hnn3]
   obtain ⟨hnw2, hSw2⟩ := rd_set hw1 (i := 1) rfl hRw2 hkw2
   have hnw2' : z + 1 ≤ w2.heap.size := hnw2
   refine .inl ⟨_, _, rfl, hSw2, ?_⟩
   refine q_rS 12 0 [] [[o0], [o0], [o0, o0]] [] [(1, .func (.func 77) #[] #[]), (2, pt z), (6, .slice none 0 0), (9, i6 (n3 : Int)), (10, i6 0)] rfl trivial ?_
   refine g_fam0 z 99 4 TRegion.cells ?_
   refine g_fam0 z 101 2 TPort.cells ?_
   refine g_rowL z 69 8 TPartition.cells ?_
   refine g_loop (fun m a w' => ∃ (n5 : Nat) (i : Nat) (xs : List TPartition) (ati : Nat) (aL : Option Addr) (cL : Nat), m = n3 - i ∧ w2.heap.size ≤ n5 ∧ (i ≤ n3) ∧ (many (partAt b) i (at0 + 1) = .ok (xs.map plP) ati) ∧ St 20 [(1, .func (.func 77) #[] #[]), (2, pt z), (6, .slice aL xs.length cL), (9, i6 (n3 : Int)), (10, i6 (i : Int))] [] ⟨w, n5, [(old F w), (rdC pr F b ati 0), (qb5d_1 z pr), (qb5d_3 z xs), (qb5d_4 z xs), (rowL z 69 8 TPartition.cells (.slice aL xs.length cL) xs)]⟩ a w') (n3 - 0) ?_ ?_
   · intro a w' hs; exact ⟨w2.heap.size, 0, ([]), (at0 + 1), none, 0, rfl, Nat.le_refl _, Nat.zero_le _, rfl, hs⟩
   · rintro m a w' ⟨n5, i, xs, ati, aL, cL, rfl, hn4, hki, hm, hs⟩
     refine (?_ : G Try.prog 20 [(1, .func (.func 77) #[] #[]), (2, pt z), (6, .slice aL xs.length cL), (9, i6 (n3 : Int)), (10, i6 (i : Int))] [] ⟨w, n5, [(old F w), (rdC pr F b ati 0), (qb5d_1 z pr), (qb5d_3 z xs), (qb5d_4 z xs), (rowL z 69 8 TPartition.cells (.slice aL xs.length cL) xs)]⟩ _ _ _) a w' hs
     clear hs a w'
     have hxl := many_len hm; rw [List.length_map] at hxl
     refine g_seq ?_
     by_cases h6 : ((i : Int) : Int) < (n3 : Int)
     · refine q_cS 10 3 [1] [[oT], [o0, o0, (a1 2)]] [BT (((i : Int) : Int) < (n3 : Int)), Qb z] [(1, .func (.func 77) #[] #[]), (2, pt z), (9, i6 (n3 : Int)), (10, i6 (i : Int)), (12, .slice aL xs.length cL), (13, .func (.func 77) #[] #[]), (14, .agg #[pt pr])] rfl ⟨bt (by omega), rfl, trivial⟩ ?_
       refine l_callX [] [] 77 #[.agg #[pt pr]] (some 15) trivial ?_
       intro w7 hw7
       have hlew7 := RdIs.le (hw7.at (i := 1) (c := (rdC pr F b ati 0)) rfl)
       refine (partition_r w7 pr F b ati (hw7.at (i := 1) rfl)).mono ?_
       rintro e w11 (⟨x8, n9, hxw11, rfl, hRw11, hkw11, hMw11⟩ | ⟨n10, hxw11, rfl, hkw11⟩)
       · obtain ⟨hnw11, hSw11⟩ := rd_made hw7 (i := 1) rfl hRw11 hkw11 hMw11 z (show z ≤ n5 by omega)
         have hnw11' : n5 ≤ w11.heap.size := hnw11
         refine .inl ⟨_, _, rfl, hSw11, ?_⟩
         refine q_r 0 1 [] [[o0]] [] [(1, .func (.func 77) #[] #[]), (2, pt z), (9, i6 (n3 : Int)), (10, i6 (i : Int)), (12, .slice aL xs.length cL), (16, .slice (some ⟨w11.heap.size, 0, none⟩) 1 1)] ⟨w, w11.heap.size + 1, [(old F w), (rdC pr F b n9 0), (qb5d_1 z pr), (qb5d_3 z xs), (qb5d_4 z xs), (rowL z 69 8 TPartition.cells (.slice aL xs.length cL) xs), (rowL z 99 4 TRegion.cells (.slice x8.Regions.a x8.Regions.xs.length x8.Regions.cap) x8.Regions.xs), (rowL z 101 2 TPort.cells (.slice x8.Ports.a x8.Ports.xs.length x8.Ports.cap) x8.Ports.xs), (qb5d_0 w11 x8)]⟩ rfl trivial ?_
         refine l_push z 5 8 xs [(⟨x8.Name, x8.Entry, x8.Action, x8.Restarts, x8.Inputs, x8.Outputs, (⟨x8.Regions.a, x8.Regions.cap, x8.Regions.xs⟩ : Sl TRegion), (⟨x8.Ports.a, x8.Ports.cap, x8.Ports.xs⟩ : Sl TPort)⟩ : TPartition)] TPartition.cells 69 8 104 (.slice aL xs.length cL) w11.heap.size 1 1 #[.string x8.Name, i6 x8.Entry, i6 x8.Action, i6 x8.Restarts, i6 x8.Inputs, i6 x8.Outputs, .slice x8.Regions.a x8.Regions.xs.length x8.Regions.cap, .slice x8.Ports.a x8.Ports.xs.length x8.Ports.cap] 69 (0, 0) true (some 17) (by simp only [List.length_cons, List.length_nil]; omega) (show z ≤ w11.heap.size + 1 by omega) (fun a12 cp13 n14 (hn15 : w11.heap.size + 1 ≤ n14) => ?_)
         refine q_rS 5 0 [] [[o0], [(ov (i6 ((i + 1 : Nat) : Int))), o0]] [Wr (((i : Int) : Int) + 1) (((i + 1 : Nat) : Int))] [(1, .func (.func 77) #[] #[]), (2, pt z), (9, i6 (n3 : Int)), (10, i6 ((i + 1 : Nat) : Int)), (qb5d_5 a12 xs x8 cp13)] rfl ⟨wrI, trivial⟩ ?_
         refine e_fam 3 6 [0, 1, 2, 4, 5, 7, 8] [(old F w), (rdC pr F b n9 0), (qb5d_1 z pr), (qb5d_4 z xs), (qb5d_2 z a12 xs x8 cp13), (rowL z 101 2 TPort.cells (.slice x8.Ports.a x8.Ports.xs.length x8.Ports.cap) x8.Ports.xs), (qb5d_0 w11 x8)] ?_
         refine e_fam 3 5 [0, 1, 2, 4, 6, 7] [(old F w), (rdC pr F b n9 0), (qb5d_1 z pr), (qb5d_2 z a12 xs x8 cp13), (qb5d_0 w11 x8), (famC z 99 4 TRegion.cells ((xs.map TPartition.Regions) ++ [⟨x8.Regions.a, x8.Regions.cap, x8.Regions.xs⟩]))] ?_
         refine e_pick [0, 1, 2, 5, 6, 3] [(old F w), (rdC pr F b n9 0), (qb5d_1 z pr), (famC z 99 4 TRegion.cells ((xs.map TPartition.Regions) ++ [⟨x8.Regions.a, x8.Regions.cap, x8.Regions.xs⟩])), (famC z 101 2 TPort.cells ((xs.map TPartition.Ports) ++ [⟨x8.Ports.a, x8.Ports.cap, x8.Ports.xs⟩])), (qb5d_2 z a12 xs x8 cp13)] rfl rfl ?_
         refine e_keep [1, 2, 6, 9, 10] [(1, .func (.func 77) #[] #[]), (2, pt z), (qb5d_5 a12 xs x8 cp13), (9, i6 (n3 : Int)), (10, i6 ((i + 1 : Nat) : Int))] ?_
         refine e_inv (fun a w' hs => ⟨n3 - (i + 1), by omega, n14, (i + 1), (xs ++ [(⟨x8.Name, x8.Entry, x8.Action, x8.Restarts, x8.Inputs, x8.Outputs, (⟨x8.Regions.a, x8.Regions.cap, x8.Regions.xs⟩ : Sl TRegion), (⟨x8.Ports.a, x8.Ports.cap, x8.Ports.xs⟩ : Sl TPort)⟩ : TPartition)]), n9, a12, cp13, rfl, by omega, by omega, by rw [map_push]; exact many_step hm hxw11, by (try dsimp only [qb5d_0, qb5d_1, qb5d_2, qb5d_3, qb5d_4, qb5d_5] at hs ⊢); rw [map_push, map_push]; exact hs⟩)
       · have hnw11 : n5 ≤ w11.heap.size := size_of hw7 hkw11
         have hSw11 := rd_drop hw7 [0, 2, 3, 4, 5] (i := 1) rfl rfl rfl rfl hkw11
         refine .inr ⟨_, _, rfl, hSw11, ?_⟩
         refine e_panicR ?_
         intro w16 hw16
         exact .inr ⟨_, list_no (by omega) hnn3 (by omega) hm hxw11, rfl, back0 hw16⟩
     · refine q_cS 15 0 [0] [[oF], [o0, o0]] [BF (((i : Int) : Int) < (n3 : Int))] [(4, .slice aL xs.length cL)] rfl ⟨bf (by omega), trivial⟩ ?_
       refine e_ret [] [] (.slice aL xs.length cL) trivial ?_
       intro w17 hw17
       exact .inl ⟨⟨aL, cL, xs⟩, ati, list_ok (by omega) hnn3 (by omega) hm, rfl, hw17.at (i := 1) rfl, back0 hw17, made_of (fs := partsFs ⟨aL, cL, xs⟩) (parts_low ⟨aL, cL, xs⟩) (by have hP := hw17.pick [5, 3, 4] (σ' := [(rowL z 69 8 TPartition.cells (.slice aL xs.length cL) xs), (qb5d_3 z xs), (qb5d_4 z xs)]) rfl rfl; rw [hw17.size]; exact hz ▸ hP)⟩
 · have hnw2 : z + 1 ≤ w2.heap.size := size_of hw1 hkw2
   have hSw2 := rd_drop hw1 [0, 2] (i := 1) rfl rfl rfl rfl hkw2
   refine .inr ⟨_, _, rfl, hSw2, ?_⟩
   refine e_panicR ?_
   intro w18 hw18
   exact .inr ⟨_, list_no0 (by omega), rfl, back0 hw18⟩
abbrev qmzh_0 (w15 : World) (b : List Int) (at0 : Nat) : Ch := .blk w15.heap.size (.cells #[i6 (leV b (at0 + 4) 4), i6 (leV b (at0 + 4 + 4) 4), i6 (leV b (at0 + 4 + 4 + 4) 4), i6 (leV b (at0 + 4 + 4 + 4 + 4) 4), .slice none 0 0, .slice none 0 0, .slice none 0 0] 26 (0, 0)) true
abbrev qmzh_1 (w12 : World) (b : List Int) (at0 : Nat) : Ch := .blk w12.heap.size (.cells #[i6 (leV b (at0 + 4) 4), i6 (leV b (at0 + 4 + 4) 4), i6 (leV b (at0 + 4 + 4 + 4) 4), i6 (leV b (at0 + 4 + 4 + 4 + 4) 4), .slice none 0 0, .slice none 0 0, .slice none 0 0] 26 (0, 0)) true
abbrev qmzh_2 (w9 : World) (b : List Int) (at0 : Nat) : Ch := .blk w9.heap.size (.cells #[i6 (leV b (at0 + 4) 4), i6 (leV b (at0 + 4 + 4) 4), i6 (leV b (at0 + 4 + 4 + 4) 4), i6 (leV b (at0 + 4 + 4 + 4 + 4) 4), .slice none 0 0, .slice none 0 0, .slice none 0 0] 26 (0, 0)) true
abbrev qmzh_3 (w6 : World) (b : List Int) (at0 : Nat) : Ch := .blk w6.heap.size (.cells #[i6 (leV b (at0 + 4) 4), i6 (leV b (at0 + 4 + 4) 4), i6 (leV b (at0 + 4 + 4 + 4) 4), i6 (leV b (at0 + 4 + 4 + 4 + 4) 4), .slice none 0 0, .slice none 0 0, .slice none 0 0] 26 (0, 0)) true
abbrev qmzh_4 (w2 : World) (b : List Int) (at0 : Nat) : Ch := .blk w2.heap.size (.cells #[i6 (leV b (at0 + 4) 4), i6 (leV b (at0 + 4 + 4) 4), i6 (leV b (at0 + 4 + 4 + 4) 4), i6 (leV b (at0 + 4 + 4 + 4 + 4) 4), .slice none 0 0, .slice none 0 0, .slice none 0 0] 26 (0, 0)) true
abbrev qmzh_5 (z : Nat) : Ch := bk (z + 1) #[i6 0, i6 0, i6 0, i6 0, .slice none 0 0, .slice none 0 0, .slice none 0 0] 26
abbrev qmzh_6 (z : Nat) (pr : Nat) : Ch := bk z #[pt pr] 87
abbrev qmzh_7 (z : Nat) (x63 : Sl (Sl TWindow)) : Ch := rowL z 62 1 (fun x : Sl TWindow => [Sl.val x]) (.slice x63.a x63.xs.length x63.cap) x63.xs
abbrev qmzh_8 (z : Nat) (x68 : Sl TPartition) : Ch := rowL z 69 8 TPartition.cells (.slice x68.a x68.xs.length x68.cap) x68.xs
abbrev qmzh_9 (b : List Int) (at0 : Nat) : Nat × Value := (15, .agg #[i6 (leV b (at0 + 4) 4), i6 (leV b (at0 + 4 + 4) 4), i6 (leV b (at0 + 4 + 4 + 4) 4), i6 (leV b (at0 + 4 + 4 + 4 + 4) 4), .slice none 0 0, .slice none 0 0, .slice none 0 0])
abbrev qmzh_10 (b : List Int) (at0 : Nat) : Nat × Value := (14, i6 (leV b (at0 + 4 + 4 + 4 + 4) 4))
abbrev qmzh_11 (w12 : World) : Nat × Value := (3, pt w12.heap.size)
abbrev qmzh_12 (w9 : World) : Nat × Value := (3, pt w9.heap.size)
abbrev qmzh_13 (w6 : World) : Nat × Value := (3, pt w6.heap.size)
abbrev qmzh_14 (w2 : World) : Nat × Value := (3, pt w2.heap.size)
abbrev qmzh_15 (pr : Nat) : Nat × Value := (11, .agg #[pt pr])
abbrev qmzh_16 (pr : Nat) : Nat × Value := (13, .agg #[pt pr])
abbrev qmzh_17 (b : List Int) (at0 : Nat) : Nat × Value := (12, i6 (leV b (at0 + 4 + 4 + 4) 4))
abbrev qmzh_18 (pr : Nat) : Nat × Value := (9, .agg #[pt pr])
abbrev qmzh_19 (b : List Int) (at0 : Nat) : Nat × Value := (10, i6 (leV b (at0 + 4 + 4) 4))
abbrev qmzh_20 (z : Nat) : Nat × Value := (2, pt (z + 1))
abbrev qmzh_21 (b : List Int) (at0 : Nat) : Nat × Value := (8, i6 (leV b (at0 + 4) 4))
theorem config_r (w : World) (pr : Nat) (F : Nat → Prop) (b : List Int) (at0 : Nat) (hr : RdIs w pr F b at0 0) : Calls Try.prog 41 #[.agg #[.pointer (some ⟨pr, 0, none⟩)]] w fun e w' => MPost w pr F b ((markAt b at0).bind (fun _ a => confAt b a)) plC (fun x => .agg (TConfig.arr x)) confFs e w' := by
 obtain ⟨z, hz⟩ : ∃ z, z = w.heap.size := ⟨_, rfl⟩
 refine calls_G (args := [.agg #[pt pr]]) 26 ⟨w, z, [(old F w), (rdC pr F b at0 0)]⟩ Try.func41 rfl (by kernel_rfl) (by kernel_rfl) (hz ▸ sat_rdC hr) ?_
 have hB := hr.byt; have hlen := hr.len; have hat := hr.le
 refine g_keep [0] [(0, .agg #[pt pr])] ?_
 refine q_c 6 2 [] [[o0, o0], [(a1 2), o0]] [Qb z] [(1, pt z), (qmzh_20 z), (4, .agg #[pt pr]), (5, .func (.func 72) #[] #[pt z])] ⟨w, z + 2, [(old F w), (rdC pr F b at0 0), (qmzh_6 z pr), (qmzh_5 z)]⟩ rfl ⟨rfl, trivial⟩ ?_
 refine l_callX [] [] 71 #[.agg #[pt pr], .func (.func 72) #[] #[pt z]] (some 6) trivial ?_
 intro w1 hw1
 refine (it_mark w1 pr F b at0 (hw1.at (i := 1) rfl) z (bx_of hw1 (i := 1) (j := 2) rfl rfl (by decide)).1 (bx_of hw1 (i := 1) (j := 2) rfl rfl (by decide)).2).mono ?_
 rintro e w2 (⟨hqw2, rfl, hRw2, hkw2⟩ | ⟨hqw2, rfl, hkw2⟩)
 · obtain ⟨hnw2, hSw2⟩ := rd_set hw1 (i := 1) rfl hRw2 hkw2
   have hnw2' : z + 2 ≤ w2.heap.size := hnw2
   refine .inl ⟨_, _, rfl, hSw2, ?_⟩
   refine l_keep [1, 2] [(1, pt z), (qmzh_20 z)] ?_
   refine l_nil (by kernel_rfl) ?_
   refine e_seq <| g_seq <| g_draw 10 [0, 2, 3] [(old F w), (qmzh_6 z pr), (qmzh_5 z)] rfl rfl ?_
   refine w_take [(0, (a1 1)), (2, (a1 1)), (4, (a1 1)), (6, (a1 1))] [1, 2, 7, 9, 11, 13] [Qb z, Qb z, Qb z, Qb z] [true, false, true, false, true, false, true, false, false, false, false] [(1, pt z), (qmzh_20 z), (7, .agg #[pt pr]), (qmzh_18 pr), (qmzh_15 pr), (qmzh_16 pr)] rfl (by as_aux_lemma => kernel_rfl) (by as_aux_lemma => kernel_rfl) ⟨rfl, rfl, rfl, rfl, trivial⟩ ?_
   refine w_join (fun x : {p : Nat × Nat // w2.heap.size ≤ p.1 ∧ w2.heap.size ≤ p.2} => ([(1, pt z), (qmzh_20 z), (3, pt x.1.2)], ⟨w, x.1.1, [(old F w), (rdC pr F b (at0 + 4 + 4 + 4 + 4 + 4) 0), (qmzh_6 z pr), (qmzh_5 z), (.blk x.1.2 (.cells #[i6 (leV b (at0 + 4) 4), i6 (leV b (at0 + 4 + 4) 4), i6 (leV b (at0 + 4 + 4 + 4) 4), i6 (leV b (at0 + 4 + 4 + 4 + 4) 4), .slice none 0 0, .slice none 0 0, .slice none 0 0] 26 (0, 0)) true)]⟩)) (fun hK => ?_) ?_
   · refine w_all [1, 9] (by as_aux_lemma => kernel_rfl) rfl rfl ?_
     refine List.forall_mem_cons.2 ⟨?_, List.forall_mem_cons.2 ⟨?_, fun _ h => absurd h List.not_mem_nil⟩⟩
     · refine wo_callX [] [] 43 #[.agg #[pt pr]] (some 8) (by as_aux_lemma => kernel_rfl) rfl rfl trivial ?_
       intro w5 hw5
       have hlew5 := RdIs.le (hw5.at (i := 1) (c := (rdC pr F b (at0 + 4) 0)) rfl)
       refine (number_r w5 pr F b (at0 + 4) (hw5.at (i := 1) rfl)).mono ?_
       rintro e w6 (⟨hqw6, rfl, hRw6, hkw6⟩ | ⟨hqw6, rfl, hkw6⟩)
       · have hvbw6 := leV_bd hB (at0 + 4)
         obtain ⟨hnw6, hSw6⟩ := rd_set hw5 (i := 1) rfl hRw6 hkw6
         have hnw6' : w2.heap.size ≤ w6.heap.size := hnw6
         have hs7 := hSw6
         refine .inl ⟨_, _, rfl, hs7, .inr (fun c hc => hs7.all c (by first | exact hc | exact picks_mem (is := [0, 2, 3]) rfl c hc)), ?_⟩
         refine w_keep [1, 2, 9, 11, 13, 8] [(1, pt z), (qmzh_20 z), (qmzh_18 pr), (qmzh_15 pr), (qmzh_16 pr), (qmzh_21 b at0)] ?_
         refine w_all [3, 9] (by as_aux_lemma => kernel_rfl) rfl rfl ?_
         refine List.forall_mem_cons.2 ⟨?_, List.forall_mem_cons.2 ⟨?_, fun _ h => absurd h List.not_mem_nil⟩⟩
         · refine wo_callX [] [] 43 #[.agg #[pt pr]] (some 10) (by as_aux_lemma => kernel_rfl) rfl rfl trivial ?_
           intro w8 hw8
           have hlew8 := RdIs.le (hw8.at (i := 1) (c := (rdC pr F b (at0 + 4 + 4) 0)) rfl)
           refine (number_r w8 pr F b (at0 + 4 + 4) (hw8.at (i := 1) rfl)).mono ?_
           rintro e w9 (⟨hqw9, rfl, hRw9, hkw9⟩ | ⟨hqw9, rfl, hkw9⟩)
           · have hvbw9 := leV_bd hB (at0 + 4 + 4)
             obtain ⟨hnw9, hSw9⟩ := rd_set hw8 (i := 1) rfl hRw9 hkw9
             have hnw9' : w6.heap.size ≤ w9.heap.size := hnw9
             have hs10 := hSw9
             refine .inl ⟨_, _, rfl, hs10, .inr (fun c hc => hs10.all c (by first | exact hc | exact picks_mem (is := [0, 2, 3]) rfl c hc)), ?_⟩
             refine w_keep [1, 2, 11, 13, 8, 10] [(1, pt z), (qmzh_20 z), (qmzh_15 pr), (qmzh_16 pr), (qmzh_21 b at0), (qmzh_19 b at0)] ?_
             refine w_all [5, 9] (by as_aux_lemma => kernel_rfl) rfl rfl ?_
             refine List.forall_mem_cons.2 ⟨?_, List.forall_mem_cons.2 ⟨?_, fun _ h => absurd h List.not_mem_nil⟩⟩
             · refine wo_callX [] [] 43 #[.agg #[pt pr]] (some 12) (by as_aux_lemma => kernel_rfl) rfl rfl trivial ?_
               intro w11 hw11
               have hlew11 := RdIs.le (hw11.at (i := 1) (c := (rdC pr F b (at0 + 4 + 4 + 4) 0)) rfl)
               refine (number_r w11 pr F b (at0 + 4 + 4 + 4) (hw11.at (i := 1) rfl)).mono ?_
               rintro e w12 (⟨hqw12, rfl, hRw12, hkw12⟩ | ⟨hqw12, rfl, hkw12⟩)
               · have hvbw12 := leV_bd hB (at0 + 4 + 4 + 4)
                 obtain ⟨hnw12, hSw12⟩ := rd_set hw11 (i := 1) rfl hRw12 hkw12
                 have hnw12' : w9.heap.size ≤ w12.heap.size := hnw12
                 have hs13 := hSw12
                 refine .inl ⟨_, _, rfl, hs13, .inr (fun c hc => hs13.all c (by first | exact hc | exact picks_mem (is := [0, 2, 3]) rfl c hc)), ?_⟩
                 refine w_keep [1, 2, 13, 8, 10, 12] [(1, pt z), (qmzh_20 z), (qmzh_16 pr), (qmzh_21 b at0), (qmzh_19 b at0), (qmzh_17 b at0)] ?_
                 refine w_all [7, 9] (by as_aux_lemma => kernel_rfl) rfl rfl ?_
                 refine List.forall_mem_cons.2 ⟨?_, List.forall_mem_cons.2 ⟨?_, fun _ h => absurd h List.not_mem_nil⟩⟩
                 · refine wo_callX [] [] 43 #[.agg #[pt pr]] (some 14) (by as_aux_lemma => kernel_rfl) rfl rfl trivial ?_
                   intro w14 hw14
                   have hlew14 := RdIs.le (hw14.at (i := 1) (c := (rdC pr F b (at0 + 4 + 4 + 4 + 4) 0)) rfl)
                   refine (number_r w14 pr F b (at0 + 4 + 4 + 4 + 4) (hw14.at (i := 1) rfl)).mono ?_
                   rintro e w15 (⟨hqw15, rfl, hRw15, hkw15⟩ | ⟨hqw15, rfl, hkw15⟩)
                   · have hvbw15 := leV_bd hB (at0 + 4 + 4 + 4 + 4)
                     obtain ⟨hnw15, hSw15⟩ := rd_set hw14 (i := 1) rfl hRw15 hkw15
                     have hnw15' : w12.heap.size ≤ w15.heap.size := hnw15
                     have hs16 := hSw15
                     refine .inl ⟨_, _, rfl, hs16, .inr (fun c hc => hs16.all c (by first | exact hc | exact picks_mem (is := [0, 2, 3]) rfl c hc)), ?_⟩
                     refine w_keep [1, 2, 8, 10, 12, 14] [(1, pt z), (qmzh_20 z), (qmzh_21 b at0), (qmzh_19 b at0), (qmzh_17 b at0), (qmzh_10 b at0)] ?_
                     refine w_take [(8, o0)] [1, 2, 15] [] [true, true, true, true, true, true, true, true, true, false, false] [(1, pt z), (qmzh_20 z), (qmzh_9 b at0)] rfl (by as_aux_lemma => kernel_rfl) (by as_aux_lemma => kernel_rfl) trivial ?_
                     refine w_one 9 (by as_aux_lemma => kernel_rfl) rfl ?_
                     refine wo_eff o0 [1, 2, 15, 3] [] [(1, pt z), (qmzh_20 z), (qmzh_9 b at0), (3, pt w15.heap.size)] ⟨w, w15.heap.size + 1, [(old F w), (rdC pr F b (at0 + 4 + 4 + 4 + 4 + 4) 0), (qmzh_6 z pr), (qmzh_5 z), (.blk w15.heap.size (.cells #[i6 0, i6 0, i6 0, i6 0, .slice none 0 0, .slice none 0 0, .slice none 0 0] 26 (0, 0)) true)]⟩ [0, 2, 3] (by as_aux_lemma => kernel_rfl) rfl trivial (.inr rfl) ?_
                     refine w_one 10 (by as_aux_lemma => kernel_rfl) rfl ?_
                     refine wo_eff (an 7 4) [1, 2, 3] [Qb w15.heap.size, Qb w15.heap.size, Qb w15.heap.size, Qb w15.heap.size, Qb w15.heap.size, Qb w15.heap.size, Qb w15.heap.size] [(1, pt z), (qmzh_20 z), (3, pt w15.heap.size)] ⟨w, w15.heap.size + 1, [(old F w), (rdC pr F b (at0 + 4 + 4 + 4 + 4 + 4) 0), (qmzh_6 z pr), (qmzh_5 z), (qmzh_0 w15 b at0)]⟩ [] (by as_aux_lemma => kernel_rfl) rfl ⟨rfl, rfl, rfl, rfl, rfl, rfl, rfl, trivial⟩ (.inl rfl) ?_
                     refine w_free 11 [0, 1, 2, 3, 4] [(old F w), (rdC pr F b (at0 + 4 + 4 + 4 + 4 + 4) 0), (qmzh_6 z pr), (qmzh_5 z), (qmzh_0 w15 b at0)] rfl rfl ?_
                     refine w_done (by as_aux_lemma => kernel_rfl) ?_
                     refine e_keep [1, 2, 3] [(1, pt z), (qmzh_20 z), (3, pt w15.heap.size)] ?_
                     refine e_pick [0, 1, 2, 3, 4] [(old F w), (rdC pr F b (at0 + 4 + 4 + 4 + 4 + 4) 0), (qmzh_6 z pr), (qmzh_5 z), (qmzh_0 w15 b at0)] rfl rfl ?_
                     exact hK ⟨(w15.heap.size + 1, w15.heap.size), by first | omega | (dsimp only; omega)⟩
                   · have hnw15 : w12.heap.size ≤ w15.heap.size := size_of hw14 hkw15
                     have hSw15 := rd_drop hw14 [0, 2, 3] (i := 1) rfl rfl rfl rfl hkw15
                     refine .inr ⟨_, _, rfl, hSw15, ?_⟩
                     refine e_panicR ?_
                     intro w17 hw17
                     exact .inr ⟨_, (by rw [markAt_ok (by omega), PR.bind_ok]; unfold confAt; rw [numAt_ok (by omega), PR.bind_ok, numAt_ok (by omega), PR.bind_ok, numAt_ok (by omega), PR.bind_ok, numAt_no (by omega), PR.bind_no]), rfl, back0 hw17⟩
                 · refine wo_eff o0 [1, 2, 13, 8, 10, 12, 3] [] [(1, pt z), (qmzh_20 z), (qmzh_16 pr), (qmzh_21 b at0), (qmzh_19 b at0), (qmzh_17 b at0), (qmzh_11 w12)] ⟨w, w12.heap.size + 1, [(old F w), (rdC pr F b (at0 + 4 + 4 + 4 + 4) 0), (qmzh_6 z pr), (qmzh_5 z), (.blk w12.heap.size (.cells #[i6 0, i6 0, i6 0, i6 0, .slice none 0 0, .slice none 0 0, .slice none 0 0] 26 (0, 0)) true)]⟩ [0, 2, 3] (by as_aux_lemma => kernel_rfl) rfl trivial (.inr rfl) ?_
                   refine w_one 7 (by as_aux_lemma => kernel_rfl) rfl ?_
                   refine wo_callX [] [] 43 #[.agg #[pt pr]] (some 14) (by as_aux_lemma => kernel_rfl) rfl rfl trivial ?_
                   intro w18 hw18
                   have hlew18 := RdIs.le (hw18.at (i := 1) (c := (rdC pr F b (at0 + 4 + 4 + 4 + 4) 0)) rfl)
                   refine (number_r w18 pr F b (at0 + 4 + 4 + 4 + 4) (hw18.at (i := 1) rfl)).mono ?_
                   rintro e w19 (⟨hqw19, rfl, hRw19, hkw19⟩ | ⟨hqw19, rfl, hkw19⟩)
                   · have hvbw19 := leV_bd hB (at0 + 4 + 4 + 4 + 4)
                     obtain ⟨hnw19, hSw19⟩ := rd_set hw18 (i := 1) rfl hRw19 hkw19
                     have hnw19' : w12.heap.size + 1 ≤ w19.heap.size := hnw19
                     have hs20 := hSw19
                     refine .inl ⟨_, _, rfl, hs20, .inr (fun c hc => hs20.all c (by first | exact hc | exact picks_mem (is := [0, 2, 3]) rfl c hc)), ?_⟩
                     refine w_keep [1, 2, 8, 10, 12, 3, 14] [(1, pt z), (qmzh_20 z), (qmzh_21 b at0), (qmzh_19 b at0), (qmzh_17 b at0), (qmzh_11 w12), (qmzh_10 b at0)] ?_
                     refine w_take [(8, o0)] [1, 2, 3, 15] [] [true, true, true, true, true, true, true, true, true, true, false] [(1, pt z), (qmzh_20 z), (qmzh_11 w12), (qmzh_9 b at0)] rfl (by as_aux_lemma => kernel_rfl) (by as_aux_lemma => kernel_rfl) trivial ?_
                     refine w_one 10 (by as_aux_lemma => kernel_rfl) rfl ?_
                     refine wo_eff (an 7 4) [1, 2, 3] [Qb w12.heap.size, Qb w12.heap.size, Qb w12.heap.size, Qb w12.heap.size, Qb w12.heap.size, Qb w12.heap.size, Qb w12.heap.size] [(1, pt z), (qmzh_20 z), (qmzh_11 w12)] ⟨w, w19.heap.size, [(old F w), (rdC pr F b (at0 + 4 + 4 + 4 + 4 + 4) 0), (qmzh_6 z pr), (qmzh_5 z), (qmzh_1 w12 b at0)]⟩ [] (by as_aux_lemma => kernel_rfl) rfl ⟨rfl, rfl, rfl, rfl, rfl, rfl, rfl, trivial⟩ (.inl rfl) ?_
                     refine w_free 11 [0, 1, 2, 3, 4] [(old F w), (rdC pr F b (at0 + 4 + 4 + 4 + 4 + 4) 0), (qmzh_6 z pr), (qmzh_5 z), (qmzh_1 w12 b at0)] rfl rfl ?_
                     refine w_done (by as_aux_lemma => kernel_rfl) ?_
                     refine e_keep [1, 2, 3] [(1, pt z), (qmzh_20 z), (qmzh_11 w12)] ?_
                     refine e_pick [0, 1, 2, 3, 4] [(old F w), (rdC pr F b (at0 + 4 + 4 + 4 + 4 + 4) 0), (qmzh_6 z pr), (qmzh_5 z), (qmzh_1 w12 b at0)] rfl rfl ?_
                     exact hK ⟨(w19.heap.size, w12.heap.size), by first | omega | (dsimp only; omega)⟩
                   · have hnw19 : w12.heap.size + 1 ≤ w19.heap.size := size_of hw18 hkw19
                     have hSw19 := rd_drop hw18 [0, 2, 3, 4] (i := 1) rfl rfl rfl rfl hkw19
                     refine .inr ⟨_, _, rfl, hSw19, ?_⟩
                     refine e_panicR ?_
                     intro w21 hw21
                     exact .inr ⟨_, (by rw [markAt_ok (by omega), PR.bind_ok]; unfold confAt; rw [numAt_ok (by omega), PR.bind_ok, numAt_ok (by omega), PR.bind_ok, numAt_ok (by omega), PR.bind_ok, numAt_no (by omega), PR.bind_no]), rfl, back0 hw21⟩
               · have hnw12 : w9.heap.size ≤ w12.heap.size := size_of hw11 hkw12
                 have hSw12 := rd_drop hw11 [0, 2, 3] (i := 1) rfl rfl rfl rfl hkw12
                 refine .inr ⟨_, _, rfl, hSw12, ?_⟩
                 refine e_panicR ?_
                 intro w22 hw22
                 exact .inr ⟨_, (by rw [markAt_ok (by omega), PR.bind_ok]; unfold confAt; rw [numAt_ok (by omega), PR.bind_ok, numAt_ok (by omega), PR.bind_ok, numAt_no (by omega), PR.bind_no]), rfl, back0 hw22⟩
             · refine wo_eff o0 [1, 2, 11, 13, 8, 10, 3] [] [(1, pt z), (qmzh_20 z), (qmzh_15 pr), (qmzh_16 pr), (qmzh_21 b at0), (qmzh_19 b at0), (qmzh_12 w9)] ⟨w, w9.heap.size + 1, [(old F w), (rdC pr F b (at0 + 4 + 4 + 4) 0), (qmzh_6 z pr), (qmzh_5 z), (.blk w9.heap.size (.cells #[i6 0, i6 0, i6 0, i6 0, .slice none 0 0, .slice none 0 0, .slice none 0 0] 26 (0, 0)) true)]⟩ [0, 2, 3] (by as_aux_lemma => kernel_rfl) rfl trivial (.inr rfl) ?_
               refine w_one 5 (by as_aux_lemma => kernel_rfl) rfl ?_
               refine wo_callX [] [] 43 #[.agg #[pt pr]] (some 12) (by as_aux_lemma => kernel_rfl) rfl rfl trivial ?_
               intro w23 hw23
               have hlew23 := RdIs.le (hw23.at (i := 1) (c := (rdC pr F b (at0 + 4 + 4 + 4) 0)) rfl)
               refine (number_r w23 pr F b (at0 + 4 + 4 + 4) (hw23.at (i := 1) rfl)).mono ?_
               rintro e w24 (⟨hqw24, rfl, hRw24, hkw24⟩ | ⟨hqw24, rfl, hkw24⟩)
               · have hvbw24 := leV_bd hB (at0 + 4 + 4 + 4)
                 obtain ⟨hnw24, hSw24⟩ := rd_set hw23 (i := 1) rfl hRw24 hkw24
                 have hnw24' : w9.heap.size + 1 ≤ w24.heap.size := hnw24
                 have hs25 := hSw24
                 refine .inl ⟨_, _, rfl, hs25, .inr (fun c hc => hs25.all c (by first | exact hc | exact picks_mem (is := [0, 2, 3]) rfl c hc)), ?_⟩
                 refine w_keep [1, 2, 13, 8, 10, 3, 12] [(1, pt z), (qmzh_20 z), (qmzh_16 pr), (qmzh_21 b at0), (qmzh_19 b at0), (qmzh_12 w9), (qmzh_17 b at0)] ?_
                 refine w_one 7 (by as_aux_lemma => kernel_rfl) rfl ?_
                 refine wo_callX [] [] 43 #[.agg #[pt pr]] (some 14) (by as_aux_lemma => kernel_rfl) rfl rfl trivial ?_
                 intro w26 hw26
                 have hlew26 := RdIs.le (hw26.at (i := 1) (c := (rdC pr F b (at0 + 4 + 4 + 4 + 4) 0)) rfl)
                 refine (number_r w26 pr F b (at0 + 4 + 4 + 4 + 4) (hw26.at (i := 1) rfl)).mono ?_
                 rintro e w27 (⟨hqw27, rfl, hRw27, hkw27⟩ | ⟨hqw27, rfl, hkw27⟩)
                 · have hvbw27 := leV_bd hB (at0 + 4 + 4 + 4 + 4)
                   obtain ⟨hnw27, hSw27⟩ := rd_set hw26 (i := 1) rfl hRw27 hkw27
                   have hnw27' : w24.heap.size ≤ w27.heap.size := hnw27
                   have hs28 := hSw27
                   refine .inl ⟨_, _, rfl, hs28, .inr (fun c hc => hs28.all c (by first | exact hc | exact picks_mem (is := [0, 2, 3]) rfl c hc)), ?_⟩
                   refine w_keep [1, 2, 8, 10, 3, 12, 14] [(1, pt z), (qmzh_20 z), (qmzh_21 b at0), (qmzh_19 b at0), (qmzh_12 w9), (qmzh_17 b at0), (qmzh_10 b at0)] ?_
                   refine w_take [(8, o0)] [1, 2, 3, 15] [] [true, true, true, true, true, true, true, true, true, true, false] [(1, pt z), (qmzh_20 z), (qmzh_12 w9), (qmzh_9 b at0)] rfl (by as_aux_lemma => kernel_rfl) (by as_aux_lemma => kernel_rfl) trivial ?_
                   refine w_one 10 (by as_aux_lemma => kernel_rfl) rfl ?_
                   refine wo_eff (an 7 4) [1, 2, 3] [Qb w9.heap.size, Qb w9.heap.size, Qb w9.heap.size, Qb w9.heap.size, Qb w9.heap.size, Qb w9.heap.size, Qb w9.heap.size] [(1, pt z), (qmzh_20 z), (qmzh_12 w9)] ⟨w, w27.heap.size, [(old F w), (rdC pr F b (at0 + 4 + 4 + 4 + 4 + 4) 0), (qmzh_6 z pr), (qmzh_5 z), (qmzh_2 w9 b at0)]⟩ [] (by as_aux_lemma => kernel_rfl) rfl ⟨rfl, rfl, rfl, rfl, rfl, rfl, rfl, trivial⟩ (.inl rfl) ?_
                   refine w_free 11 [0, 1, 2, 3, 4] [(old F w), (rdC pr F b (at0 + 4 + 4 + 4 + 4 + 4) 0), (qmzh_6 z pr), (qmzh_5 z), (qmzh_2 w9 b at0)] rfl rfl ?_
                   refine w_done (by as_aux_lemma => kernel_rfl) ?_
                   refine e_keep [1, 2, 3] [(1, pt z), (qmzh_20 z), (qmzh_12 w9)] ?_
                   refine e_pick [0, 1, 2, 3, 4] [(old F w), (rdC pr F b (at0 + 4 + 4 + 4 + 4 + 4) 0), (qmzh_6 z pr), (qmzh_5 z), (qmzh_2 w9 b at0)] rfl rfl ?_
                   exact hK ⟨(w27.heap.size, w9.heap.size), by first | omega | (dsimp only; omega)⟩
                 · have hnw27 : w24.heap.size ≤ w27.heap.size := size_of hw26 hkw27
                   have hSw27 := rd_drop hw26 [0, 2, 3, 4] (i := 1) rfl rfl rfl rfl hkw27
                   refine .inr ⟨_, _, rfl, hSw27, ?_⟩
                   refine e_panicR ?_
                   intro w29 hw29
                   exact .inr ⟨_, (by rw [markAt_ok (by omega), PR.bind_ok]; unfold confAt; rw [numAt_ok (by omega), PR.bind_ok, numAt_ok (by omega), PR.bind_ok, numAt_ok (by omega), PR.bind_ok, numAt_no (by omega), PR.bind_no]), rfl, back0 hw29⟩
               · have hnw24 : w9.heap.size + 1 ≤ w24.heap.size := size_of hw23 hkw24
                 have hSw24 := rd_drop hw23 [0, 2, 3, 4] (i := 1) rfl rfl rfl rfl hkw24
                 refine .inr ⟨_, _, rfl, hSw24, ?_⟩
                 refine e_panicR ?_
                 intro w30 hw30
                 exact .inr ⟨_, (by rw [markAt_ok (by omega), PR.bind_ok]; unfold confAt; rw [numAt_ok (by omega), PR.bind_ok, numAt_ok (by omega), PR.bind_ok, numAt_no (by omega), PR.bind_no]), rfl, back0 hw30⟩
           · have hnw9 : w6.heap.size ≤ w9.heap.size := size_of hw8 hkw9
             have hSw9 := rd_drop hw8 [0, 2, 3] (i := 1) rfl rfl rfl rfl hkw9
             refine .inr ⟨_, _, rfl, hSw9, ?_⟩
             refine e_panicR ?_
             intro w31 hw31
             exact .inr ⟨_, (by rw [markAt_ok (by omega), PR.bind_ok]; unfold confAt; rw [numAt_ok (by omega), PR.bind_ok, numAt_no (by omega), PR.bind_no]), rfl, back0 hw31⟩
         · refine wo_eff o0 [1, 2, 9, 11, 13, 8, 3] [] [(1, pt z), (qmzh_20 z), (qmzh_18 pr), (qmzh_15 pr), (qmzh_16 pr), (qmzh_21 b at0), (qmzh_13 w6)] ⟨w, w6.heap.size + 1, [(old F w), (rdC pr F b (at0 + 4 + 4) 0), (qmzh_6 z pr), (qmzh_5 z), (.blk w6.heap.size (.cells #[i6 0, i6 0, i6 0, i6 0, .slice none 0 0, .slice none 0 0, .slice none 0 0] 26 (0, 0)) true)]⟩ [0, 2, 3] (by as_aux_lemma => kernel_rfl) rfl trivial (.inr rfl) ?_
           refine w_one 3 (by as_aux_lemma => kernel_rfl) rfl ?_
           refine wo_callX [] [] 43 #[.agg #[pt pr]] (some 10) (by as_aux_lemma => kernel_rfl) rfl rfl trivial ?_
           intro w32 hw32
           have hlew32 := RdIs.le (hw32.at (i := 1) (c := (rdC pr F b (at0 + 4 + 4) 0)) rfl)
           refine (number_r w32 pr F b (at0 + 4 + 4) (hw32.at (i := 1) rfl)).mono ?_
           rintro e w33 (⟨hqw33, rfl, hRw33, hkw33⟩ | ⟨hqw33, rfl, hkw33⟩)
           · have hvbw33 := leV_bd hB (at0 + 4 + 4)
             obtain ⟨hnw33, hSw33⟩ := rd_set hw32 (i := 1) rfl hRw33 hkw33
             have hnw33' : w6.heap.size + 1 ≤ w33.heap.size := hnw33
             have hs34 := hSw33
             refine .inl ⟨_, _, rfl, hs34, .inr (fun c hc => hs34.all c (by first | exact hc | exact picks_mem (is := [0, 2, 3]) rfl c hc)), ?_⟩
             refine w_keep [1, 2, 11, 13, 8, 3, 10] [(1, pt z), (qmzh_20 z), (qmzh_15 pr), (qmzh_16 pr), (qmzh_21 b at0), (qmzh_13 w6), (qmzh_19 b at0)] ?_
             refine w_one 5 (by as_aux_lemma => kernel_rfl) rfl ?_
             refine wo_callX [] [] 43 #[.agg #[pt pr]] (some 12) (by as_aux_lemma => kernel_rfl) rfl rfl trivial ?_
             intro w35 hw35
             have hlew35 := RdIs.le (hw35.at (i := 1) (c := (rdC pr F b (at0 + 4 + 4 + 4) 0)) rfl)
             refine (number_r w35 pr F b (at0 + 4 + 4 + 4) (hw35.at (i := 1) rfl)).mono ?_
             rintro e w36 (⟨hqw36, rfl, hRw36, hkw36⟩ | ⟨hqw36, rfl, hkw36⟩)
             · have hvbw36 := leV_bd hB (at0 + 4 + 4 + 4)
               obtain ⟨hnw36, hSw36⟩ := rd_set hw35 (i := 1) rfl hRw36 hkw36
               have hnw36' : w33.heap.size ≤ w36.heap.size := hnw36
               have hs37 := hSw36
               refine .inl ⟨_, _, rfl, hs37, .inr (fun c hc => hs37.all c (by first | exact hc | exact picks_mem (is := [0, 2, 3]) rfl c hc)), ?_⟩
               refine w_keep [1, 2, 13, 8, 3, 10, 12] [(1, pt z), (qmzh_20 z), (qmzh_16 pr), (qmzh_21 b at0), (qmzh_13 w6), (qmzh_19 b at0), (qmzh_17 b at0)] ?_
               refine w_one 7 (by as_aux_lemma => kernel_rfl) rfl ?_
               refine wo_callX [] [] 43 #[.agg #[pt pr]] (some 14) (by as_aux_lemma => kernel_rfl) rfl rfl trivial ?_
               intro w38 hw38
               have hlew38 := RdIs.le (hw38.at (i := 1) (c := (rdC pr F b (at0 + 4 + 4 + 4 + 4) 0)) rfl)
               refine (number_r w38 pr F b (at0 + 4 + 4 + 4 + 4) (hw38.at (i := 1) rfl)).mono ?_
               rintro e w39 (⟨hqw39, rfl, hRw39, hkw39⟩ | ⟨hqw39, rfl, hkw39⟩)
               · have hvbw39 := leV_bd hB (at0 + 4 + 4 + 4 + 4)
                 obtain ⟨hnw39, hSw39⟩ := rd_set hw38 (i := 1) rfl hRw39 hkw39
                 have hnw39' : w36.heap.size ≤ w39.heap.size := hnw39
                 have hs40 := hSw39
                 refine .inl ⟨_, _, rfl, hs40, .inr (fun c hc => hs40.all c (by first | exact hc | exact picks_mem (is := [0, 2, 3]) rfl c hc)), ?_⟩
                 refine w_keep [1, 2, 8, 3, 10, 12, 14] [(1, pt z), (qmzh_20 z), (qmzh_21 b at0), (qmzh_13 w6), (qmzh_19 b at0), (qmzh_17 b at0), (qmzh_10 b at0)] ?_
                 refine w_take [(8, o0)] [1, 2, 3, 15] [] [true, true, true, true, true, true, true, true, true, true, false] [(1, pt z), (qmzh_20 z), (qmzh_13 w6), (qmzh_9 b at0)] rfl (by as_aux_lemma => kernel_rfl) (by as_aux_lemma => kernel_rfl) trivial ?_
                 refine w_one 10 (by as_aux_lemma => kernel_rfl) rfl ?_
                 refine wo_eff (an 7 4) [1, 2, 3] [Qb w6.heap.size, Qb w6.heap.size, Qb w6.heap.size, Qb w6.heap.size, Qb w6.heap.size, Qb w6.heap.size, Qb w6.heap.size] [(1, pt z), (qmzh_20 z), (qmzh_13 w6)] ⟨w, w39.heap.size, [(old F w), (rdC pr F b (at0 + 4 + 4 + 4 + 4 + 4) 0), (qmzh_6 z pr), (qmzh_5 z), (qmzh_3 w6 b at0)]⟩ [] (by as_aux_lemma => kernel_rfl) rfl ⟨rfl, rfl, rfl, rfl, rfl, rfl, rfl, trivial⟩ (.inl rfl) ?_
                 refine w_free 11 [0, 1, 2, 3, 4] [(old F w), (rdC pr F b (at0 + 4 + 4 + 4 + 4 + 4) 0), (qmzh_6 z pr), (qmzh_5 z), (qmzh_3 w6 b at0)] rfl rfl ?_
                 refine w_done (by as_aux_lemma => kernel_rfl) ?_
                 refine e_keep [1, 2, 3] [(1, pt z), (qmzh_20 z), (qmzh_13 w6)] ?_
                 refine e_pick [0, 1, 2, 3, 4] [(old F w), (rdC pr F b (at0 + 4 + 4 + 4 + 4 + 4) 0), (qmzh_6 z pr), (qmzh_5 z), (qmzh_3 w6 b at0)] rfl rfl ?_
                 exact hK ⟨(w39.heap.size, w6.heap.size), by first | omega | (dsimp only; omega)⟩
               · have hnw39 : w36.heap.size ≤ w39.heap.size := size_of hw38 hkw39
                 have hSw39 := rd_drop hw38 [0, 2, 3, 4] (i := 1) rfl rfl rfl rfl hkw39
                 refine .inr ⟨_, _, rfl, hSw39, ?_⟩
                 refine e_panicR ?_
                 intro w41 hw41
                 exact .inr ⟨_, (by rw [markAt_ok (by omega), PR.bind_ok]; unfold confAt; rw [numAt_ok (by omega), PR.bind_ok, numAt_ok (by omega), PR.bind_ok, numAt_ok (by omega), PR.bind_ok, numAt_no (by omega), PR.bind_no]), rfl, back0 hw41⟩
             · have hnw36 : w33.heap.size ≤ w36.heap.size := size_of hw35 hkw36
               have hSw36 := rd_drop hw35 [0, 2, 3, 4] (i := 1) rfl rfl rfl rfl hkw36
               refine .inr ⟨_, _, rfl, hSw36, ?_⟩
               refine e_panicR ?_
               intro w42 hw42
               exact .inr ⟨_, (by rw [markAt_ok (by omega), PR.bind_ok]; unfold confAt; rw [numAt_ok (by omega), PR.bind_ok, numAt_ok (by omega), PR.bind_ok, numAt_no (by omega), PR.bind_no]), rfl, back0 hw42⟩
           · have hnw33 : w6.heap.size + 1 ≤ w33.heap.size := size_of hw32 hkw33
             have hSw33 := rd_drop hw32 [0, 2, 3, 4] (i := 1) rfl rfl rfl rfl hkw33
             refine .inr ⟨_, _, rfl, hSw33, ?_⟩
             refine e_panicR ?_
             intro w43 hw43
             exact .inr ⟨_, (by rw [markAt_ok (by omega), PR.bind_ok]; unfold confAt; rw [numAt_ok (by omega), PR.bind_ok, numAt_no (by omega), PR.bind_no]), rfl, back0 hw43⟩
       · have hnw6 : w2.heap.size ≤ w6.heap.size := size_of hw5 hkw6
         have hSw6 := rd_drop hw5 [0, 2, 3] (i := 1) rfl rfl rfl rfl hkw6
         refine .inr ⟨_, _, rfl, hSw6, ?_⟩
         refine e_panicR ?_
         intro w44 hw44
         exact .inr ⟨_, (by rw [markAt_ok (by omega), PR.bind_ok]; unfold confAt; rw [numAt_no (by omega), PR.bind_no]), rfl, back0 hw44⟩
     · refine wo_eff o0 [1, 2, 7, 9, 11, 13, 3] [] [(1, pt z), (qmzh_20 z), (7, .agg #[pt pr]), (qmzh_18 pr), (qmzh_15 pr), (qmzh_16 pr), (qmzh_14 w2)] ⟨w, w2.heap.size + 1, [(old F w), (rdC pr F b (at0 + 4) 0), (qmzh_6 z pr), (qmzh_5 z), (.blk w2.heap.size (.cells #[i6 0, i6 0, i6 0, i6 0, .slice none 0 0, .slice none 0 0, .slice none 0 0] 26 (0, 0)) true)]⟩ [0, 2, 3] (by as_aux_lemma => kernel_rfl) rfl trivial (.inr rfl) ?_
       refine w_one 1 (by as_aux_lemma => kernel_rfl) rfl ?_
       refine wo_callX [] [] 43 #[.agg #[pt pr]] (some 8) (by as_aux_lemma => kernel_rfl) rfl rfl trivial ?_
       intro w45 hw45
       have hlew45 := RdIs.le (hw45.at (i := 1) (c := (rdC pr F b (at0 + 4) 0)) rfl)
       refine (number_r w45 pr F b (at0 + 4) (hw45.at (i := 1) rfl)).mono ?_
       rintro e w46 (⟨hqw46, rfl, hRw46, hkw46⟩ | ⟨hqw46, rfl, hkw46⟩)
       · have hvbw46 := leV_bd hB (at0 + 4)
         obtain ⟨hnw46, hSw46⟩ := rd_set hw45 (i := 1) rfl hRw46 hkw46
         have hnw46' : w2.heap.size + 1 ≤ w46.heap.size := hnw46
         have hs47 := hSw46
         refine .inl ⟨_, _, rfl, hs47, .inr (fun c hc => hs47.all c (by first | exact hc | exact picks_mem (is := [0, 2, 3]) rfl c hc)), ?_⟩
         refine w_keep [1, 2, 9, 11, 13, 3, 8] [(1, pt z), (qmzh_20 z), (qmzh_18 pr), (qmzh_15 pr), (qmzh_16 pr), (qmzh_14 w2), (qmzh_21 b at0)] ?_
         refine w_one 3 (by as_aux_lemma => kernel_rfl) rfl ?_
         refine wo_callX [] [] 43 #[.agg #[pt pr]] (some 10) (by as_aux_lemma => kernel_rfl) rfl rfl trivial ?_
         intro w48 hw48
         have hlew48 := RdIs.le (hw48.at (i := 1) (c := (rdC pr F b (at0 + 4 + 4) 0)) rfl)
         refine (number_r w48 pr F b (at0 + 4 + 4) (hw48.at (i := 1) rfl)).mono ?_
         rintro e w49 (⟨hqw49, rfl, hRw49, hkw49⟩ | ⟨hqw49, rfl, hkw49⟩)
         · have hvbw49 := leV_bd hB (at0 + 4 + 4)
           obtain ⟨hnw49, hSw49⟩ := rd_set hw48 (i := 1) rfl hRw49 hkw49
           have hnw49' : w46.heap.size ≤ w49.heap.size := hnw49
           have hs50 := hSw49
           refine .inl ⟨_, _, rfl, hs50, .inr (fun c hc => hs50.all c (by first | exact hc | exact picks_mem (is := [0, 2, 3]) rfl c hc)), ?_⟩
           refine w_keep [1, 2, 11, 13, 3, 8, 10] [(1, pt z), (qmzh_20 z), (qmzh_15 pr), (qmzh_16 pr), (qmzh_14 w2), (qmzh_21 b at0), (qmzh_19 b at0)] ?_
           refine w_one 5 (by as_aux_lemma => kernel_rfl) rfl ?_
           refine wo_callX [] [] 43 #[.agg #[pt pr]] (some 12) (by as_aux_lemma => kernel_rfl) rfl rfl trivial ?_
           intro w51 hw51
           have hlew51 := RdIs.le (hw51.at (i := 1) (c := (rdC pr F b (at0 + 4 + 4 + 4) 0)) rfl)
           refine (number_r w51 pr F b (at0 + 4 + 4 + 4) (hw51.at (i := 1) rfl)).mono ?_
           rintro e w52 (⟨hqw52, rfl, hRw52, hkw52⟩ | ⟨hqw52, rfl, hkw52⟩)
           · have hvbw52 := leV_bd hB (at0 + 4 + 4 + 4)
             obtain ⟨hnw52, hSw52⟩ := rd_set hw51 (i := 1) rfl hRw52 hkw52
             have hnw52' : w49.heap.size ≤ w52.heap.size := hnw52
             have hs53 := hSw52
             refine .inl ⟨_, _, rfl, hs53, .inr (fun c hc => hs53.all c (by first | exact hc | exact picks_mem (is := [0, 2, 3]) rfl c hc)), ?_⟩
             refine w_keep [1, 2, 13, 3, 8, 10, 12] [(1, pt z), (qmzh_20 z), (qmzh_16 pr), (qmzh_14 w2), (qmzh_21 b at0), (qmzh_19 b at0), (qmzh_17 b at0)] ?_
             refine w_one 7 (by as_aux_lemma => kernel_rfl) rfl ?_
             refine wo_callX [] [] 43 #[.agg #[pt pr]] (some 14) (by as_aux_lemma => kernel_rfl) rfl rfl trivial ?_
             intro w54 hw54
             have hlew54 := RdIs.le (hw54.at (i := 1) (c := (rdC pr F b (at0 + 4 + 4 + 4 + 4) 0)) rfl)
             refine (number_r w54 pr F b (at0 + 4 + 4 + 4 + 4) (hw54.at (i := 1) rfl)).mono ?_
             rintro e w55 (⟨hqw55, rfl, hRw55, hkw55⟩ | ⟨hqw55, rfl, hkw55⟩)
             · have hvbw55 := leV_bd hB (at0 + 4 + 4 + 4 + 4)
               obtain ⟨hnw55, hSw55⟩ := rd_set hw54 (i := 1) rfl hRw55 hkw55
               have hnw55' : w52.heap.size ≤ w55.heap.size := hnw55
               have hs56 := hSw55
               refine .inl ⟨_, _, rfl, hs56, .inr (fun c hc => hs56.all c (by first | exact hc | exact picks_mem (is := [0, 2, 3]) rfl c hc)), ?_⟩
               refine w_keep [1, 2, 3, 8, 10, 12, 14] [(1, pt z), (qmzh_20 z), (qmzh_14 w2), (qmzh_21 b at0), (qmzh_19 b at0), (qmzh_17 b at0), (qmzh_10 b at0)] ?_
               refine w_take [(8, o0)] [1, 2, 3, 15] [] [true, true, true, true, true, true, true, true, true, true, false] [(1, pt z), (qmzh_20 z), (qmzh_14 w2), (qmzh_9 b at0)] rfl (by as_aux_lemma => kernel_rfl) (by as_aux_lemma => kernel_rfl) trivial ?_
               refine w_one 10 (by as_aux_lemma => kernel_rfl) rfl ?_
               refine wo_eff (an 7 4) [1, 2, 3] [Qb w2.heap.size, Qb w2.heap.size, Qb w2.heap.size, Qb w2.heap.size, Qb w2.heap.size, Qb w2.heap.size, Qb w2.heap.size] [(1, pt z), (qmzh_20 z), (qmzh_14 w2)] ⟨w, w55.heap.size, [(old F w), (rdC pr F b (at0 + 4 + 4 + 4 + 4 + 4) 0), (qmzh_6 z pr), (qmzh_5 z), (qmzh_4 w2 b at0)]⟩ [] (by as_aux_lemma => kernel_rfl) rfl ⟨rfl, rfl, rfl, rfl, rfl, rfl, rfl, trivial⟩ (.inl rfl) ?_
               refine w_free 11 [0, 1, 2, 3, 4] [(old F w), (rdC pr F b (at0 + 4 + 4 + 4 + 4 + 4) 0), (qmzh_6 z pr), (qmzh_5 z), (qmzh_4 w2 b at0)] rfl rfl ?_
               refine w_done (by as_aux_lemma => kernel_rfl) ?_
               refine e_keep [1, 2, 3] [(1, pt z), (qmzh_20 z), (qmzh_14 w2)] ?_
               refine e_pick [0, 1, 2, 3, 4] [(old F w), (rdC pr F b (at0 + 4 + 4 + 4 + 4 + 4) 0), (qmzh_6 z pr), (qmzh_5 z), (qmzh_4 w2 b at0)] rfl rfl ?_
               exact hK ⟨(w55.heap.size, w2.heap.size), by first | omega | (dsimp only; omega)⟩
             · have hnw55 : w52.heap.size ≤ w55.heap.size := size_of hw54 hkw55
               have hSw55 := rd_drop hw54 [0, 2, 3, 4] (i := 1) rfl rfl rfl rfl hkw55
               refine .inr ⟨_, _, rfl, hSw55, ?_⟩
               refine e_panicR ?_
               intro w57 hw57
               exact .inr ⟨_, (by rw [markAt_ok (by omega), PR.bind_ok]; unfold confAt; rw [numAt_ok (by omega), PR.bind_ok, numAt_ok (by omega), PR.bind_ok, numAt_ok (by omega), PR.bind_ok, numAt_no (by omega), PR.bind_no]), rfl, back0 hw57⟩
           · have hnw52 : w49.heap.size ≤ w52.heap.size := size_of hw51 hkw52
             have hSw52 := rd_drop hw51 [0, 2, 3, 4] (i := 1) rfl rfl rfl rfl hkw52
             refine .inr ⟨_, _, rfl, hSw52, ?_⟩
             refine e_panicR ?_
             intro w58 hw58
             exact .inr ⟨_, (by rw [markAt_ok (by omega), PR.bind_ok]; unfold confAt; rw [numAt_ok (by omega), PR.bind_ok, numAt_ok (by omega), PR.bind_ok, numAt_no (by omega), PR.bind_no]), rfl, back0 hw58⟩
         · have hnw49 : w46.heap.size ≤ w49.heap.size := size_of hw48 hkw49
           have hSw49 := rd_drop hw48 [0, 2, 3, 4] (i := 1) rfl rfl rfl rfl hkw49
           refine .inr ⟨_, _, rfl, hSw49, ?_⟩
           refine e_panicR ?_
           intro w59 hw59
           exact .inr ⟨_, (by rw [markAt_ok (by omega), PR.bind_ok]; unfold confAt; rw [numAt_ok (by omega), PR.bind_ok, numAt_no (by omega), PR.bind_no]), rfl, back0 hw59⟩
       · have hnw46 : w2.heap.size + 1 ≤ w46.heap.size := size_of hw45 hkw46
         have hSw46 := rd_drop hw45 [0, 2, 3, 4] (i := 1) rfl rfl rfl rfl hkw46
         refine .inr ⟨_, _, rfl, hSw46, ?_⟩
         refine e_panicR ?_
         intro w60 hw60
         exact .inr ⟨_, (by rw [markAt_ok (by omega), PR.bind_ok]; unfold confAt; rw [numAt_no (by omega), PR.bind_no]), rfl, back0 hw60⟩
   rintro ⟨⟨n3, b4⟩, hJ61⟩
   simp only at hJ61
   show E _ _ [(1, pt z), (qmzh_20 z), (3, pt b4)] _ ⟨w, n3, [(old F w), (rdC pr F b (at0 + 4 + 4 + 4 + 4 + 4) 0), (qmzh_6 z pr), (qmzh_5 z), (bk b4 #[i6 (leV b (at0 + 4) 4), i6 (leV b (at0 + 4 + 4) 4), i6 (leV b (at0 + 4 + 4 + 4) 4), i6 (leV b (at0 + 4 + 4 + 4 + 4) 4), .slice none 0 0, .slice none 0 0, .slice none 0 0] 26)]⟩ _ _ _
   refine q_oS 3 1 [] [[(a1 2)]] [Qb z] [(1, pt z), (qmzh_20 z), (3, pt b4), (16, .agg #[pt pr])] rfl ⟨rfl, trivial⟩ ?_
   refine l_callX [] [] 74 #[.agg #[pt pr], .func (.func 75) #[] #[]] (some 17) trivial ?_
   intro w62 hw62
   have hlew62 := RdIs.le (hw62.at (i := 1) (c := (rdC pr F b (at0 + 4 + 4 + 4 + 4 + 4) 0)) rfl)
   refine (takeWs w62 pr F b (at0 + 4 + 4 + 4 + 4 + 4) (hw62.at (i := 1) rfl)).mono ?_
   rintro e w66 (⟨x63, n64, hxw66, rfl, hRw66, hkw66, hMw66⟩ | ⟨n65, hxw66, rfl, hkw66⟩)
   · obtain ⟨hnw66, hSw66⟩ := rd_made hw62 (i := 1) rfl hRw66 hkw66 hMw66 z (show z ≤ n3 by omega)
     have hnw66' : n3 ≤ w66.heap.size := hnw66
     have hllw66 := (list_of hB hxw66).1; rw [List.length_map] at hllw66
     refine .inl ⟨_, _, rfl, hSw66, ?_⟩
     refine q_r 4 1 [] [[o0, (a1 4)], [(a1 2)]] [Qb b4, Qb z] [(1, pt z), (qmzh_20 z), (3, pt b4), (19, .agg #[pt pr])] ⟨w, w66.heap.size, [(old F w), (rdC pr F b n64 0), (qmzh_6 z pr), (qmzh_5 z), (bk b4 #[i6 (leV b (at0 + 4) 4), i6 (leV b (at0 + 4 + 4) 4), i6 (leV b (at0 + 4 + 4 + 4) 4), i6 (leV b (at0 + 4 + 4 + 4 + 4) 4), .slice x63.a x63.xs.length x63.cap, .slice none 0 0, .slice none 0 0] 26), (qmzh_7 z x63), (famC z 97 3 TWindow.cells x63.xs)]⟩ rfl ⟨rfl, rfl, trivial⟩ ?_
     refine l_callX [] [] 76 #[.agg #[pt pr], .func (.func 77) #[] #[]] (some 20) trivial ?_
     intro w67 hw67
     have hlew67 := RdIs.le (hw67.at (i := 1) (c := (rdC pr F b n64 0)) rfl)
     refine (takePt w67 pr F b n64 (hw67.at (i := 1) rfl)).mono ?_
     rintro e w71 (⟨x68, n69, hxw71, rfl, hRw71, hkw71, hMw71⟩ | ⟨n70, hxw71, rfl, hkw71⟩)
     · obtain ⟨hnw71, hSw71⟩ := rd_made hw67 (i := 1) rfl hRw71 hkw71 hMw71 z (show z ≤ w66.heap.size by omega)
       have hnw71' : w66.heap.size ≤ w71.heap.size := hnw71
       have hllw71 := (list_of hB hxw71).1; rw [List.length_map] at hllw71
       refine .inl ⟨_, _, rfl, hSw71, ?_⟩
       refine q_r 4 1 [] [[o0, (a1 4)], [(a1 2)]] [Qb b4, Qb z] [(qmzh_20 z), (3, pt b4), (22, .agg #[pt pr])] ⟨w, w71.heap.size, [(old F w), (rdC pr F b n69 0), (qmzh_6 z pr), (qmzh_5 z), (bk b4 #[i6 (leV b (at0 + 4) 4), i6 (leV b (at0 + 4 + 4) 4), i6 (leV b (at0 + 4 + 4 + 4) 4), i6 (leV b (at0 + 4 + 4 + 4 + 4) 4), .slice x63.a x63.xs.length x63.cap, .slice x68.a x68.xs.length x68.cap, .slice none 0 0] 26), (qmzh_7 z x63), (famC z 97 3 TWindow.cells x63.xs), (qmzh_8 z x68), (famC z 99 4 TRegion.cells (x68.xs.map TPartition.Regions)), (famC z 101 2 TPort.cells (x68.xs.map TPartition.Ports))]⟩ rfl ⟨rfl, rfl, trivial⟩ ?_
       refine l_callX [] [] 78 #[.agg #[pt pr], .func (.func 79) #[] #[]] (some 23) trivial ?_
       intro w72 hw72
       have hlew72 := RdIs.le (hw72.at (i := 1) (c := (rdC pr F b n69 0)) rfl)
       refine (takeC w72 pr F b n69 (hw72.at (i := 1) rfl)).mono ?_
       rintro e w78 (⟨x73, n74, a76, cp77, hxw78, rfl, hRw78, hkw78, how78⟩ | ⟨n75, hxw78, rfl, hkw78⟩)
       · obtain ⟨hnw78, hSw78⟩ := rd_row hw72 (i := 1) rfl hRw78 hkw78 how78 z (show z ≤ w71.heap.size by omega)
         have hnw78' : w71.heap.size ≤ w78.heap.size := hnw78
         have hllw78 := (list_of hB hxw78).1
         refine .inl ⟨_, _, rfl, hSw78, ?_⟩
         refine q_r 7 0 [] [[o0, (a1 4)], [(an 7 4), (an 7 3)]] [Qb b4, Qb b4, Qb b4, Qb b4, Qb b4, Qb b4, Qb b4, Qb b4, Qb (z + 1), Qb (z + 1), Qb (z + 1), Qb (z + 1), Qb (z + 1), Qb (z + 1), Qb (z + 1)] [(qmzh_20 z)] ⟨w, w78.heap.size, [(old F w), (rdC pr F b n74 0), (qmzh_6 z pr), (bk (z + 1) #[i6 (leV b (at0 + 4) 4), i6 (leV b (at0 + 4 + 4) 4), i6 (leV b (at0 + 4 + 4 + 4) 4), i6 (leV b (at0 + 4 + 4 + 4 + 4) 4), .slice x63.a x63.xs.length x63.cap, .slice x68.a x68.xs.length x68.cap, .slice a76 x73.length cp77] 26), (bk b4 #[i6 (leV b (at0 + 4) 4), i6 (leV b (at0 + 4 + 4) 4), i6 (leV b (at0 + 4 + 4 + 4) 4), i6 (leV b (at0 + 4 + 4 + 4 + 4) 4), .slice x63.a x63.xs.length x63.cap, .slice x68.a x68.xs.length x68.cap, .slice a76 x73.length cp77] 26), (qmzh_7 z x63), (famC z 97 3 TWindow.cells x63.xs), (qmzh_8 z x68), (famC z 99 4 TRegion.cells (x68.xs.map TPartition.Regions)), (famC z 101 2 TPort.cells (x68.xs.map TPartition.Ports)), (rowL z 74 3 TChannel.cells (.slice a76 x73.length cp77) x73)]⟩ rfl ⟨rfl, rfl, rfl, rfl, rfl, rfl, rfl, rfl, rfl, rfl, rfl, rfl, rfl, rfl, rfl, trivial⟩ ?_
         refine e_ret [.at 3, .at 3, .at 3, .at 3, .at 3, .at 3, .at 3] [Qb (z + 1), Qb (z + 1), Qb (z + 1), Qb (z + 1), Qb (z + 1), Qb (z + 1), Qb (z + 1)] (.agg #[i6 (leV b (at0 + 4) 4), i6 (leV b (at0 + 4 + 4) 4), i6 (leV b (at0 + 4 + 4 + 4) 4), i6 (leV b (at0 + 4 + 4 + 4 + 4) 4), .slice x63.a x63.xs.length x63.cap, .slice x68.a x68.xs.length x68.cap, .slice a76 x73.length cp77]) ⟨rfl, rfl, rfl, rfl, rfl, rfl, rfl, trivial⟩ ?_
         intro w79 hw79
         exact .inl ⟨(⟨(leV b (at0 + 4) 4), (leV b (at0 + 4 + 4) 4), (leV b (at0 + 4 + 4 + 4) 4), (leV b (at0 + 4 + 4 + 4 + 4) 4), ⟨x63.a, x63.cap, x63.xs⟩, ⟨x68.a, x68.cap, x68.xs⟩, ⟨a76, cp77, x73⟩⟩ : TConfig), _, (by rw [markAt_ok (by omega), PR.bind_ok]; unfold confAt; rw [numAt_ok (by omega), PR.bind_ok, numAt_ok (by omega), PR.bind_ok, numAt_ok (by omega), PR.bind_ok, numAt_ok (by omega), PR.bind_ok, hxw66, PR.bind_ok, hxw71, PR.bind_ok, hxw78, PR.bind_ok]; rfl), rfl, hw79.at (i := 1) rfl, back0 hw79, made_of (fs := confFs (⟨(leV b (at0 + 4) 4), (leV b (at0 + 4 + 4) 4), (leV b (at0 + 4 + 4 + 4) 4), (leV b (at0 + 4 + 4 + 4 + 4) 4), ⟨x63.a, x63.cap, x63.xs⟩, ⟨x68.a, x68.cap, x68.xs⟩, ⟨a76, cp77, x73⟩⟩ : TConfig)) (conf_low (⟨(leV b (at0 + 4) 4), (leV b (at0 + 4 + 4) 4), (leV b (at0 + 4 + 4 + 4) 4), (leV b (at0 + 4 + 4 + 4 + 4) 4), ⟨x63.a, x63.cap, x63.xs⟩, ⟨x68.a, x68.cap, x68.xs⟩, ⟨a76, cp77, x73⟩⟩ : TConfig)) (by have hP := hw79.pick [5, 6, 7, 8, 9, 10] (σ' := [(qmzh_7 z x63), (famC z 97 3 TWindow.cells x63.xs), (qmzh_8 z x68), (famC z 99 4 TRegion.cells (x68.xs.map TPartition.Regions)), (famC z 101 2 TPort.cells (x68.xs.map TPartition.Ports)), (rowL z 74 3 TChannel.cells (.slice a76 x73.length cp77) x73)]) rfl rfl; rw [hw79.size]; exact hz ▸ hP)⟩
       · have hnw78 : w71.heap.size ≤ w78.heap.size := size_of hw72 hkw78
         have hSw78 := rd_drop hw72 [0, 2, 3, 4, 5, 6, 7, 8, 9] (i := 1) rfl rfl rfl rfl hkw78
         refine .inr ⟨_, _, rfl, hSw78, ?_⟩
         refine e_panicR ?_
         intro w80 hw80
         exact .inr ⟨_, (by rw [markAt_ok (by omega), PR.bind_ok]; unfold confAt; rw [numAt_ok (by omega), PR.bind_ok, numAt_ok (by omega), PR.bind_ok, numAt_ok (by omega), PR.bind_ok, numAt_ok (by omega), PR.bind_ok, hxw66, PR.bind_ok, hxw71, PR.bind_ok, hxw78, PR.bind_no]), rfl, back0 hw80⟩
     · have hnw71 : w66.heap.size ≤ w71.heap.size := size_of hw67 hkw71
       have hSw71 := rd_drop hw67 [0, 2, 3, 4, 5, 6] (i := 1) rfl rfl rfl rfl hkw71
       refine .inr ⟨_, _, rfl, hSw71, ?_⟩
       refine e_panicR ?_
       intro w81 hw81
       exact .inr ⟨_, (by rw [markAt_ok (by omega), PR.bind_ok]; unfold confAt; rw [numAt_ok (by omega), PR.bind_ok, numAt_ok (by omega), PR.bind_ok, numAt_ok (by omega), PR.bind_ok, numAt_ok (by omega), PR.bind_ok, hxw66, PR.bind_ok, hxw71, PR.bind_no]), rfl, back0 hw81⟩
   · have hnw66 : n3 ≤ w66.heap.size := size_of hw62 hkw66
     have hSw66 := rd_drop hw62 [0, 2, 3, 4] (i := 1) rfl rfl rfl rfl hkw66
     refine .inr ⟨_, _, rfl, hSw66, ?_⟩
     refine e_panicR ?_
     intro w82 hw82
     exact .inr ⟨_, (by rw [markAt_ok (by omega), PR.bind_ok]; unfold confAt; rw [numAt_ok (by omega), PR.bind_ok, numAt_ok (by omega), PR.bind_ok, numAt_ok (by omega), PR.bind_ok, numAt_ok (by omega), PR.bind_ok, hxw66, PR.bind_no]), rfl, back0 hw82⟩
 · have hnw2 : z + 2 ≤ w2.heap.size := size_of hw1 hkw2
   have hSw2 := rd_drop hw1 [0, 2, 3] (i := 1) rfl rfl rfl rfl hkw2
   refine .inr ⟨_, _, rfl, hSw2, ?_⟩
   refine e_panicR ?_
   intro w83 hw83
   exact .inr ⟨_, (by rw [markAt_no (by omega), PR.bind_no]), rfl, back0 hw83⟩

end Go.Proofs.Ytmmkacfeocnblaa.Ly
