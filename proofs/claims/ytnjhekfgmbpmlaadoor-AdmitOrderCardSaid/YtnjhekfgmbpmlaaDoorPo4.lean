/- Packed: Le, Lf, Lg, Lh, Li, Lz, Ah, Ai, Aj, Ba, EngX. No conditions. -/
import Derived.Test.YtnjhekfgmbpmlaaDoorPo3
import Derived.WalkKit
namespace Go.Proofs.YtnjhekfgmbpmlaaDoor.Ly
open Go Go.Proofs.YtnjhekfgmbpmlaaDoor.Eng Go.Proofs.YtnjhekfgmbpmlaaDoor.Mem
set_option linter.unusedSimpArgs false
set_option linter.unusedVariables false
set_option maxRecDepth 100000
def partEnds (p : Nat) (x : TPartition) (k : Int) (b : Bool) (j : Nat) : List Tend := ((List.range j).filter (fun q => srcIs k b (gd x.Ports.xs q))).map (fun (q : Nat) => (⟨(p : Int), (q : Int)⟩ : Tend))
def endsUp (c : TConfig) (k : Int) (b : Bool) (i : Nat) : List Tend := (List.range i).flatMap (fun p => partEnds p (gd c.Partitions.xs p) k b (gd c.Partitions.xs p).Ports.xs.length)
def endsOf (c : TConfig) (k : Int) (b : Bool) : List Tend := endsUp c k b c.Partitions.xs.length
theorem partEnds_yes {p : Nat} {x : TPartition} {k : Int} {b : Bool} {j : Nat} (h : srcIs k b (gd x.Ports.xs j) = true) : partEnds p x k b (j + 1) = partEnds p x k b j ++ [⟨(p : Int), (j : Int)⟩] := by
  unfold partEnds; rw [List.range_succ, List.filter_append, List.map_append]; simp [h]
theorem partEnds_no {p : Nat} {x : TPartition} {k : Int} {b : Bool} {j : Nat} (h : srcIs k b (gd x.Ports.xs j) = false) : partEnds p x k b (j + 1) = partEnds p x k b j := by
  unfold partEnds; rw [List.range_succ, List.filter_append, List.map_append]; simp [h]
theorem partEnds_len {p : Nat} {x : TPartition} {k : Int} {b : Bool} {j : Nat} : (partEnds p x k b j).length ≤ j := by
  unfold partEnds; rw [List.length_map]; exact Nat.le_trans (List.length_filter_le _ _) (by simp)
theorem endsUp_succ {c : TConfig} {k : Int} {b : Bool} {i : Nat} : endsUp c k b (i + 1) = endsUp c k b i ++ partEnds i (gd c.Partitions.xs i) k b (gd c.Partitions.xs i).Ports.xs.length := by
  unfold endsUp; rw [List.range_succ, List.flatMap_append]; simp
theorem endsUp_len {c : TConfig} {k : Int} {b : Bool} (hp : ∀ i, i < c.Partitions.xs.length → (gd c.Partitions.xs i).Ports.xs.length ≤ 8) : ∀ (i : Nat), i ≤ c.Partitions.xs.length → (endsUp c k b i).length ≤ 8 * i
  | 0, _ => by simp [endsUp]
  | i + 1, h => by
    have h1 := endsUp_len (k := k) (b := b) hp i (by omega)
    have h2 := hp i (by omega)
    have h3 := partEnds_len (p := i) (x := gd c.Partitions.xs i) (k := k) (b := b) (j := (gd c.Partitions.xs i).Ports.xs.length)
    rw [endsUp_succ, List.length_append]; omega
theorem cnt_range (xs : List TPort) (p : TPort → Bool) : ∀ (j : Nat), j ≤ xs.length → ((List.range j).filter (fun q => p (gd xs q))).length = (xs.take j).countP p
  | 0, _ => by simp
  | j + 1, h => by
    rw [List.range_succ, List.filter_append, List.length_append, cnt_range xs p j (by omega), take_snoc (by omega), List.countP_append]
    cases hp : p (gd xs j) <;> simp [hp]
theorem endsUp_cnt {c : TConfig} {k : Int} {b : Bool} : ∀ (i : Nat), i ≤ c.Partitions.xs.length → (endsUp c k b i).length = sumN (fun x => endsN x k b) c.Partitions.xs i
  | 0, _ => by simp [endsUp, sumN]
  | i + 1, h => by
    rw [endsUp_succ, List.length_append, endsUp_cnt i (by omega), sumN_succ (by omega)]
    congr 1
    unfold partEnds endsN
    rw [List.length_map, cnt_range _ _ _ (Nat.le_refl _), List.take_length]
theorem endsOf_cnt (c : TConfig) (k : Nat) (b : Bool) : (endsOf c k b).length = nEnds c k b := endsUp_cnt _ (Nat.le_refl _)
abbrev q1df_0 (n2 : Nat) (y11 : TPartition) : Ch := bk n2 (TPartition.arr y11) 41
abbrev q1df_1 (z : Nat) (c : TConfig) : Ch := bk z (TConfig.arr c) 26
abbrev q1df_2 (z : Nat) (aD2 : Option Addr) (c : TConfig) (ch : Int) (i : Nat) (y11 : TPartition) (j : Nat) (cD2 : Nat) : Ch := rowL z 101 2 Tend.cells (.slice aD2 ((endsUp c ch false i ++ partEnds i y11 ch false j).length) cD2) (endsUp c ch false i ++ partEnds i y11 ch false j)
abbrev q1df_3 (z : Nat) (aS2 : Option Addr) (c : TConfig) (ch : Int) (i : Nat) (y11 : TPartition) (j : Nat) (cS2 : Nat) : Ch := rowL z 101 2 Tend.cells (.slice aS2 ((endsUp c ch true i ++ partEnds i y11 ch true j).length) cS2) (endsUp c ch true i ++ partEnds i y11 ch true j)
abbrev q1df_4 (z : Nat) (aD : Option Addr) (c : TConfig) (ch : Int) (i : Nat) (cD : Nat) : Ch := rowL z 101 2 Tend.cells (.slice aD ((endsUp c ch false i).length) cD) (endsUp c ch false i)
abbrev q1df_5 (z : Nat) (aS : Option Addr) (c : TConfig) (ch : Int) (i : Nat) (cS : Nat) : Ch := rowL z 101 2 Tend.cells (.slice aS ((endsUp c ch true i).length) cS) (endsUp c ch true i)
abbrev q1df_6 (aD2 : Option Addr) (c : TConfig) (ch : Int) (i : Nat) (y11 : TPartition) (j : Nat) (cD2 : Nat) : Nat × Value := (5, .slice aD2 ((endsUp c ch false i ++ partEnds i y11 ch false j).length) cD2)
abbrev q1df_7 (aS2 : Option Addr) (c : TConfig) (ch : Int) (i : Nat) (y11 : TPartition) (j : Nat) (cS2 : Nat) : Nat × Value := (4, .slice aS2 ((endsUp c ch true i ++ partEnds i y11 ch true j).length) cS2)
abbrev q1df_8 (b4 : Nat) (o5 : Nat) (c : TConfig) : Nat × Value := (11, .slice (some ⟨b4, o5, none⟩) c.Partitions.xs.length c.Partitions.cap)
abbrev q1df_9 (b15 : Nat) (o16 : Nat) (y11 : TPartition) : Nat × Value := (19, .slice (some ⟨b15, o16, none⟩) y11.Ports.xs.length y11.Ports.cap)
abbrev q1df_10 (c : TConfig) : Nat × Value := (11, .slice c.Partitions.a c.Partitions.xs.length c.Partitions.cap)
abbrev q1df_11 (y11 : TPartition) : Nat × Value := (19, .slice y11.Ports.a y11.Ports.xs.length y11.Ports.cap)
abbrev q1df_12 (c : TConfig) : Nat × Value := (12, i6 ((c.Partitions.xs.length : Nat) : Int))
abbrev q1df_13 (y11 : TPartition) : Nat × Value := (20, i6 ((y11.Ports.xs.length : Nat) : Int))
abbrev q1df_14 (aD : Option Addr) (c : TConfig) (ch : Int) (i : Nat) (cD : Nat) : Nat × Value := (5, .slice aD ((endsUp c ch false i).length) cD)
abbrev q1df_15 (j : Nat) : Nat × Value := (21, i6 ((j + 1 : Nat) : Int))
theorem ends_calls (w : World) (c : TConfig) (ch : Int) (hc : TConfig.ok Any w c) (hl : c.Partitions.xs.length ≤ 8) (hp : ∀ i, i < c.Partitions.xs.length → (gd c.Partitions.xs i).Ports.xs.length ≤ 8) : Calls Tryd.prog 58 #[.agg (TConfig.arr c), .int .i64 ch] w fun e w' => ∃ a1 c1 a2 c2, e = .returned (.tuple #[.slice a1 (endsOf c ch true).length c1, .slice a2 (endsOf c ch false).length c2]) ∧ SlAt Tend.cells 2 (New w.heap.size) w' ⟨a1, c1, endsOf c ch true⟩ ∧ SlAt Tend.cells 2 (New w.heap.size) w' ⟨a2, c2, endsOf c ch false⟩ ∧ Keeps (fun _ => False) w w' := by
 obtain ⟨z, hz⟩ : ∃ z, z = w.heap.size := ⟨_, rfl⟩
 refine calls_G (args := [.agg (TConfig.arr c), i6 ch]) 50 ⟨w, z, [(old0 w)]⟩ Tryd.func58 rfl (by kernel_rfl) (by kernel_rfl) (sat_0 hz) ?_
 refine g_keep [0, 1] [(0, .agg (TConfig.arr c)), (1, i6 ch)] ?_
 refine q_c 10 0 [] [[o0, o0, o0], [o0, (a1 1), o0, o0]] [Qb z] [(1, i6 ch), (4, .slice none 0 0), (5, .slice none 0 0), (q1df_10 c), (q1df_12 c), (13, i6 0)] ⟨w, z + 1, [(old0 w), (q1df_1 z c)]⟩ rfl ⟨rfl, trivial⟩ ?_
 refine g_rowL z 101 2 Tend.cells ?_
 refine g_rowL z 101 2 Tend.cells ?_
 refine g_loop (fun m a w' => ∃ (n2 : Nat) (i : Nat) (aS : Option Addr) (cS : Nat) (aD : Option Addr) (cD : Nat), m = c.Partitions.xs.length - i ∧ z + 1 ≤ n2 ∧ (i ≤ c.Partitions.xs.length) ∧ St 50 [(1, i6 ch), (4, .slice aS ((endsUp c ch true i).length) cS), (q1df_14 aD c ch i cD), (q1df_10 c), (q1df_12 c), (13, i6 (i : Int))] [] ⟨w, n2, [(old0 w), (q1df_1 z c), (q1df_5 z aS c ch i cS), (q1df_4 z aD c ch i cD)]⟩ a w') (c.Partitions.xs.length - 0) ?_ ?_
 · intro a w' hs; exact ⟨(z + 1), 0, none, 0, none, 0, rfl, Nat.le_refl _, Nat.zero_le _, hs⟩
 · rintro m a w' ⟨n2, i, aS, cS, aD, cD, rfl, hn1, hki, hs⟩
   refine (?_ : G Tryd.prog 50 [(1, i6 ch), (4, .slice aS ((endsUp c ch true i).length) cS), (q1df_14 aD c ch i cD), (q1df_10 c), (q1df_12 c), (13, i6 (i : Int))] [] ⟨w, n2, [(old0 w), (q1df_1 z c), (q1df_5 z aS c ch i cS), (q1df_4 z aD c ch i cD)]⟩ _ _ _) a w' hs
   clear hs a w'
   have hq3 := endsUp_len (k := ch) (b := true) hp i (by omega)
   have hq4 := endsUp_len (k := ch) (b := false) hp i (by omega)
   refine g_seq ?_
   by_cases h3 : ((i : Int) : Int) < ((c.Partitions.xs.length : Nat) : Int)
   · refine q_cS 10 0 [1] [[oT]] [BT (((i : Int) : Int) < ((c.Partitions.xs.length : Nat) : Int))] [(1, i6 ch), (4, .slice aS ((endsUp c ch true i).length) cS), (q1df_14 aD c ch i cD), (q1df_10 c), (q1df_12 c), (13, i6 (i : Int)), (14, .bool true)] rfl ⟨bt (by omega), trivial⟩ ?_
     obtain ⟨b4, o5, ha6, hF8, hc7⟩ := (hc.Partitions).1.all (show 0 < c.Partitions.xs.length by omega)
     replace ha6 : c.Partitions.a = some ⟨b4, o5, none⟩ := ha6
     refine g_eq [(1, i6 ch), (4, .slice aS ((endsUp c ch true i).length) cS), (q1df_14 aD c ch i cD), (q1df_8 b4 o5 c), (q1df_12 c), (13, i6 (i : Int)), (14, .bool true)] (by (try dsimp only [q1df_0, q1df_1, q1df_2, q1df_3, q1df_4, q1df_5, q1df_6, q1df_7, q1df_8, q1df_9, q1df_10, q1df_11, q1df_12, q1df_13, q1df_14, q1df_15]); simp only [ha6]) ?_
     have hc9 := hc7 i (show i < c.Partitions.xs.length by omega)
     have he10 := (hc.Partitions).2 i (show i < c.Partitions.xs.length by omega)
     obtain ⟨y11, hy11⟩ : ∃ y_, y_ = gd c.Partitions.xs i := ⟨_, rfl⟩
     rw [← hy11] at he10 hc9
     have h8y11 := hp i (by omega); rw [← hy11] at h8y11
     refine q_c 8 0 [] [[o0, (oi i), (ol 0 (TPartition.arr y11)), o0, o0, (an 8 4)], [o0, (a1 4), o0, o0]] [((i : Int) : Int) = ((i : Nat) : Int), i < c.Partitions.xs.length, (none : Option Nat) = none, OldR w b4 (o5 + i * 8) (TPartition.arr y11), Qb n2, Qb n2, Qb n2, Qb n2, Qb n2, Qb n2, Qb n2, Qb n2, Qb n2] [(1, i6 ch), (4, .slice aS ((endsUp c ch true i).length) cS), (q1df_14 aD c ch i cD), (6, i6 (i : Int)), (q1df_8 b4 o5 c), (q1df_12 c), (13, i6 (i : Int)), (q1df_11 y11), (q1df_13 y11), (21, i6 0)] ⟨w, n2 + 1, [(old0 w), (q1df_1 z c), (q1df_5 z aS c ch i cS), (q1df_4 z aD c ch i cD), (q1df_0 n2 y11)]⟩ rfl ⟨rfl, (by omega), rfl, old_row hc9, rfl, rfl, rfl, rfl, rfl, rfl, rfl, rfl, rfl, trivial⟩ ?_
     refine g_loop (fun m a w' => ∃ (n13 : Nat) (j : Nat) (aS2 : Option Addr) (cS2 : Nat) (aD2 : Option Addr) (cD2 : Nat), m = y11.Ports.xs.length - j ∧ n2 + 1 ≤ n13 ∧ (j ≤ y11.Ports.xs.length) ∧ St 50 [(1, i6 ch), (q1df_7 aS2 c ch i y11 j cS2), (q1df_6 aD2 c ch i y11 j cD2), (6, i6 (i : Int)), (q1df_8 b4 o5 c), (q1df_12 c), (13, i6 (i : Int)), (q1df_11 y11), (q1df_13 y11), (21, i6 (j : Int))] [] ⟨w, n13, [(old0 w), (q1df_1 z c), (q1df_3 z aS2 c ch i y11 j cS2), (q1df_2 z aD2 c ch i y11 j cD2), (q1df_0 n2 y11)]⟩ a w') (y11.Ports.xs.length - 0) ?_ ?_
     · intro a w' hs; exact ⟨(n2 + 1), 0, aS, cS, aD, cD, rfl, Nat.le_refl _, Nat.zero_le _, by (try dsimp only [q1df_0, q1df_1, q1df_2, q1df_3, q1df_4, q1df_5, q1df_6, q1df_7, q1df_8, q1df_9, q1df_10, q1df_11, q1df_12, q1df_13, q1df_14, q1df_15] at hs ⊢); rw [show partEnds i y11 ch true 0 = [] from rfl, show partEnds i y11 ch false 0 = [] from rfl, List.append_nil, List.append_nil]; exact hs⟩
     · rintro m a w' ⟨n13, j, aS2, cS2, aD2, cD2, rfl, hn12, hkj, hs⟩
       refine (?_ : G Tryd.prog 50 [(1, i6 ch), (q1df_7 aS2 c ch i y11 j cS2), (q1df_6 aD2 c ch i y11 j cD2), (6, i6 (i : Int)), (q1df_8 b4 o5 c), (q1df_12 c), (13, i6 (i : Int)), (q1df_11 y11), (q1df_13 y11), (21, i6 (j : Int))] [] ⟨w, n13, [(old0 w), (q1df_1 z c), (q1df_3 z aS2 c ch i y11 j cS2), (q1df_2 z aD2 c ch i y11 j cD2), (q1df_0 n2 y11)]⟩ _ _ _) a w' hs
       clear hs a w'
       have hq1 : (partEnds i y11 ch true j).length ≤ j := partEnds_len
       have hq2 : (partEnds i y11 ch false j).length ≤ j := partEnds_len
       refine g_seq ?_
       by_cases h14 : ((j : Int) : Int) < ((y11.Ports.xs.length : Nat) : Int)
       · refine q_cS 10 0 [1] [[oT]] [BT (((j : Int) : Int) < ((y11.Ports.xs.length : Nat) : Int))] [(1, i6 ch), (q1df_7 aS2 c ch i y11 j cS2), (q1df_6 aD2 c ch i y11 j cD2), (6, i6 (i : Int)), (q1df_8 b4 o5 c), (q1df_12 c), (13, i6 (i : Int)), (q1df_11 y11), (q1df_13 y11), (21, i6 (j : Int)), (22, .bool true)] rfl ⟨bt (by omega), trivial⟩ ?_
         obtain ⟨b15, o16, ha17, hF19, hc18⟩ := (he10.Ports).1.all (show 0 < y11.Ports.xs.length by omega)
         replace ha17 : y11.Ports.a = some ⟨b15, o16, none⟩ := ha17
         refine g_eq [(1, i6 ch), (q1df_7 aS2 c ch i y11 j cS2), (q1df_6 aD2 c ch i y11 j cD2), (6, i6 (i : Int)), (q1df_8 b4 o5 c), (q1df_12 c), (13, i6 (i : Int)), (q1df_9 b15 o16 y11), (q1df_13 y11), (21, i6 (j : Int)), (22, .bool true)] (by (try dsimp only [q1df_0, q1df_1, q1df_2, q1df_3, q1df_4, q1df_5, q1df_6, q1df_7, q1df_8, q1df_9, q1df_10, q1df_11, q1df_12, q1df_13, q1df_14, q1df_15]); simp only [ha17]) ?_
         have hc20 := hc18 j (show j < y11.Ports.xs.length by omega)
         have he21 := (he10.Ports).2 j (show j < y11.Ports.xs.length by omega)
         obtain ⟨y22, hy22⟩ : ∃ y_, y_ = gd y11.Ports.xs j := ⟨_, rfl⟩
         rw [← hy22] at he21 hc20
         refine q_c 5 0 [] [[o0, (oi j), (ol 0 (TPort.arr y22)), o0, o0, (an 2 5)]] [((j : Int) : Int) = ((j : Nat) : Int), j < y11.Ports.xs.length, (none : Option Nat) = none, OldR w b15 (o16 + j * 2) (TPort.arr y22), Qb n13, Qb n13] [(1, i6 ch), (q1df_7 aS2 c ch i y11 j cS2), (q1df_6 aD2 c ch i y11 j cD2), (6, i6 (i : Int)), (q1df_8 b4 o5 c), (q1df_12 c), (13, i6 (i : Int)), (q1df_9 b15 o16 y11), (q1df_13 y11), (21, i6 (j : Int)), (9, pt n13), (8, i6 (j : Int))] ⟨w, n13 + 1, [(old0 w), (q1df_1 z c), (q1df_3 z aS2 c ch i y11 j cS2), (q1df_2 z aD2 c ch i y11 j cD2), (q1df_0 n2 y11), (bk n13 (TPort.arr y22) 57)]⟩ rfl ⟨rfl, (by omega), rfl, old_row hc20, rfl, rfl, trivial⟩ ?_
         by_cases h23 : (y22.Channel : Int) = ch
         · refine q_cS 8 0 [0] [[o0, (a1 5), o0, oF, o0], [o0, (a1 5), o0]] [Qb n13, NF y22.Channel ch, Qb n13] [(1, i6 ch), (q1df_7 aS2 c ch i y11 j cS2), (q1df_6 aD2 c ch i y11 j cD2), (6, i6 (i : Int)), (q1df_8 b4 o5 c), (q1df_12 c), (13, i6 (i : Int)), (q1df_9 b15 o16 y11), (q1df_13 y11), (21, i6 (j : Int)), (8, i6 (j : Int)), (37, .bool y22.Source)] rfl ⟨rfl, nf (by omega), rfl, trivial⟩ ?_
           by_cases h24 : y22.Source = true
           · refine q_c 2 5 [3] [[o0, o0, o0, o0, o0]] [Value.bool y22.Source = Value.bool true] [(1, i6 ch), (q1df_6 aD2 c ch i y11 j cD2), (6, i6 (i : Int)), (q1df_8 b4 o5 c), (q1df_12 c), (13, i6 (i : Int)), (q1df_9 b15 o16 y11), (q1df_13 y11), (21, i6 (j : Int)), (40, .slice aS2 ((endsUp c ch true i ++ partEnds i y11 ch true j).length) cS2), (44, .slice (some ⟨n13 + 1, 0, none⟩) 1 1)] ⟨w, n13 + 2, [(old0 w), (q1df_1 z c), (q1df_3 z aS2 c ch i y11 j cS2), (q1df_2 z aD2 c ch i y11 j cD2), (q1df_0 n2 y11), (bk n13 (TPort.arr y22) 57), (bk (n13 + 1) #[i6 (i : Int), i6 (j : Int)] 101)]⟩ rfl ⟨(congrArg Value.bool h24), trivial⟩ ?_
             refine l_push z 2 6 (endsUp c ch true i ++ partEnds i y11 ch true j) [(⟨(i : Int), (j : Int)⟩ : Tend)] Tend.cells 101 2 16 (.slice aS2 ((endsUp c ch true i ++ partEnds i y11 ch true j).length) cS2) (n13 + 1) 1 1 #[i6 (i : Int), i6 (j : Int)] 101 (0, 0) true (some 45) (by simp only [List.length_cons, List.length_nil, List.length_append]; omega) (show z ≤ n13 + 2 by omega) (fun ax25 cp26 n27 (hn28 : n13 + 2 ≤ n27) => ?_)
             refine q_rS 6 0 [] [[o0], [(ov (i6 ((j + 1 : Nat) : Int))), o0]] [Wr (((j : Int) : Int) + 1) (((j + 1 : Nat) : Int))] [(1, i6 ch), (q1df_6 aD2 c ch i y11 j cD2), (6, i6 (i : Int)), (q1df_8 b4 o5 c), (q1df_12 c), (13, i6 (i : Int)), (q1df_9 b15 o16 y11), (q1df_13 y11), (q1df_15 j), (4, .slice ax25 ((endsUp c ch true i ++ partEnds i y11 ch true j ++ [(⟨(i : Int), (j : Int)⟩ : Tend)]).length) cp26)] rfl ⟨wrI, trivial⟩ ?_
             refine e_pick [0, 1, 2, 3, 4] [(old0 w), (q1df_1 z c), (rowL z 101 2 Tend.cells (.slice ax25 ((endsUp c ch true i ++ partEnds i y11 ch true j ++ [(⟨(i : Int), (j : Int)⟩ : Tend)]).length) cp26) (endsUp c ch true i ++ partEnds i y11 ch true j ++ [(⟨(i : Int), (j : Int)⟩ : Tend)])), (q1df_2 z aD2 c ch i y11 j cD2), (q1df_0 n2 y11)] rfl rfl ?_
             have hTtrue := partEnds_yes (p := i) (x := y11) (k := ch) (b := true) (j := j) (by rw [← hy22]; exact src_t (by omega) (by revert h24; cases y22.Source <;> simp))
             have hTfalse := partEnds_no (p := i) (x := y11) (k := ch) (b := false) (j := j) (by rw [← hy22]; exact src_f2 (by revert h24; cases y22.Source <;> simp))
             refine e_eqk [1, 4, 5, 6, 11, 12, 13, 19, 20, 21] [(1, i6 ch), (4, .slice ax25 ((endsUp c ch true i ++ partEnds i y11 ch true j ++ [(⟨(i : Int), (j : Int)⟩ : Tend)]).length) cp26), (q1df_6 aD2 c ch i y11 j cD2), (6, i6 (i : Int)), (q1df_8 b4 o5 c), (q1df_12 c), (13, i6 (i : Int)), (q1df_11 y11), (q1df_13 y11), (q1df_15 j)] (by (try dsimp only [q1df_0, q1df_1, q1df_2, q1df_3, q1df_4, q1df_5, q1df_6, q1df_7, q1df_8, q1df_9, q1df_10, q1df_11, q1df_12, q1df_13, q1df_14, q1df_15]); simp only [ha17]; rfl) ?_
             refine e_inv (fun a w' hs => ⟨y11.Ports.xs.length - (j + 1), by omega, n27, (j + 1), ax25, cp26, aD2, cD2, rfl, by omega, by omega, by (try dsimp only [q1df_0, q1df_1, q1df_2, q1df_3, q1df_4, q1df_5, q1df_6, q1df_7, q1df_8, q1df_9, q1df_10, q1df_11, q1df_12, q1df_13, q1df_14, q1df_15] at hs ⊢); rw [hTtrue, ← List.append_assoc, hTfalse]; exact hs⟩)
           · refine q_c 2 5 [2] [[o0, o0, o0, o0, o0]] [Value.bool y22.Source = Value.bool false] [(1, i6 ch), (q1df_7 aS2 c ch i y11 j cS2), (6, i6 (i : Int)), (q1df_8 b4 o5 c), (q1df_12 c), (13, i6 (i : Int)), (q1df_9 b15 o16 y11), (q1df_13 y11), (21, i6 (j : Int)), (26, .slice aD2 ((endsUp c ch false i ++ partEnds i y11 ch false j).length) cD2), (30, .slice (some ⟨n13 + 1, 0, none⟩) 1 1)] ⟨w, n13 + 2, [(old0 w), (q1df_1 z c), (q1df_3 z aS2 c ch i y11 j cS2), (q1df_2 z aD2 c ch i y11 j cD2), (q1df_0 n2 y11), (bk n13 (TPort.arr y22) 57), (bk (n13 + 1) #[i6 (i : Int), i6 (j : Int)] 101)]⟩ rfl ⟨(congrArg Value.bool (Bool.eq_false_iff.2 h24)), trivial⟩ ?_
             refine l_push z 3 6 (endsUp c ch false i ++ partEnds i y11 ch false j) [(⟨(i : Int), (j : Int)⟩ : Tend)] Tend.cells 101 2 16 (.slice aD2 ((endsUp c ch false i ++ partEnds i y11 ch false j).length) cD2) (n13 + 1) 1 1 #[i6 (i : Int), i6 (j : Int)] 101 (0, 0) true (some 31) (by simp only [List.length_cons, List.length_nil, List.length_append]; omega) (show z ≤ n13 + 2 by omega) (fun ax29 cp30 n31 (hn32 : n13 + 2 ≤ n31) => ?_)
             refine q_rS 6 0 [] [[o0], [(ov (i6 ((j + 1 : Nat) : Int))), o0]] [Wr (((j : Int) : Int) + 1) (((j + 1 : Nat) : Int))] [(1, i6 ch), (q1df_7 aS2 c ch i y11 j cS2), (6, i6 (i : Int)), (q1df_8 b4 o5 c), (q1df_12 c), (13, i6 (i : Int)), (q1df_9 b15 o16 y11), (q1df_13 y11), (q1df_15 j), (5, .slice ax29 ((endsUp c ch false i ++ partEnds i y11 ch false j ++ [(⟨(i : Int), (j : Int)⟩ : Tend)]).length) cp30)] rfl ⟨wrI, trivial⟩ ?_
             refine e_pick [0, 1, 2, 3, 4] [(old0 w), (q1df_1 z c), (q1df_3 z aS2 c ch i y11 j cS2), (rowL z 101 2 Tend.cells (.slice ax29 ((endsUp c ch false i ++ partEnds i y11 ch false j ++ [(⟨(i : Int), (j : Int)⟩ : Tend)]).length) cp30) (endsUp c ch false i ++ partEnds i y11 ch false j ++ [(⟨(i : Int), (j : Int)⟩ : Tend)])), (q1df_0 n2 y11)] rfl rfl ?_
             have hTtrue := partEnds_no (p := i) (x := y11) (k := ch) (b := true) (j := j) (by rw [← hy22]; exact src_f2 (by revert h24; cases y22.Source <;> simp))
             have hTfalse := partEnds_yes (p := i) (x := y11) (k := ch) (b := false) (j := j) (by rw [← hy22]; exact src_t (by omega) (by revert h24; cases y22.Source <;> simp))
             refine e_eqk [1, 4, 5, 6, 11, 12, 13, 19, 20, 21] [(1, i6 ch), (q1df_7 aS2 c ch i y11 j cS2), (5, .slice ax29 ((endsUp c ch false i ++ partEnds i y11 ch false j ++ [(⟨(i : Int), (j : Int)⟩ : Tend)]).length) cp30), (6, i6 (i : Int)), (q1df_8 b4 o5 c), (q1df_12 c), (13, i6 (i : Int)), (q1df_11 y11), (q1df_13 y11), (q1df_15 j)] (by (try dsimp only [q1df_0, q1df_1, q1df_2, q1df_3, q1df_4, q1df_5, q1df_6, q1df_7, q1df_8, q1df_9, q1df_10, q1df_11, q1df_12, q1df_13, q1df_14, q1df_15]); simp only [ha17]; rfl) ?_
             refine e_inv (fun a w' hs => ⟨y11.Ports.xs.length - (j + 1), by omega, n31, (j + 1), aS2, cS2, ax29, cp30, rfl, by omega, by omega, by (try dsimp only [q1df_0, q1df_1, q1df_2, q1df_3, q1df_4, q1df_5, q1df_6, q1df_7, q1df_8, q1df_9, q1df_10, q1df_11, q1df_12, q1df_13, q1df_14, q1df_15] at hs ⊢); rw [hTtrue, hTfalse, ← List.append_assoc]; exact hs⟩)
         · refine q_cS 10 0 [1] [[o0, (a1 5), o0, oT, o0], [(ov (i6 ((j + 1 : Nat) : Int))), o0]] [Qb n13, NT y22.Channel ch, Wr (((j : Int) : Int) + 1) (((j + 1 : Nat) : Int))] [(1, i6 ch), (q1df_7 aS2 c ch i y11 j cS2), (q1df_6 aD2 c ch i y11 j cD2), (6, i6 (i : Int)), (q1df_8 b4 o5 c), (q1df_12 c), (13, i6 (i : Int)), (q1df_9 b15 o16 y11), (q1df_13 y11), (q1df_15 j)] rfl ⟨rfl, nt (by omega), wrI, trivial⟩ ?_
           refine e_pick [0, 1, 2, 3, 4] [(old0 w), (q1df_1 z c), (q1df_3 z aS2 c ch i y11 j cS2), (q1df_2 z aD2 c ch i y11 j cD2), (q1df_0 n2 y11)] rfl rfl ?_
           have hTtrue := partEnds_no (p := i) (x := y11) (k := ch) (b := true) (j := j) (by rw [← hy22]; exact src_f1 (by omega))
           have hTfalse := partEnds_no (p := i) (x := y11) (k := ch) (b := false) (j := j) (by rw [← hy22]; exact src_f1 (by omega))
           refine e_eqk [1, 4, 5, 6, 11, 12, 13, 19, 20, 21] [(1, i6 ch), (q1df_7 aS2 c ch i y11 j cS2), (q1df_6 aD2 c ch i y11 j cD2), (6, i6 (i : Int)), (q1df_8 b4 o5 c), (q1df_12 c), (13, i6 (i : Int)), (q1df_11 y11), (q1df_13 y11), (q1df_15 j)] (by (try dsimp only [q1df_0, q1df_1, q1df_2, q1df_3, q1df_4, q1df_5, q1df_6, q1df_7, q1df_8, q1df_9, q1df_10, q1df_11, q1df_12, q1df_13, q1df_14, q1df_15]); simp only [ha17]; rfl) ?_
           refine e_inv (fun a w' hs => ⟨y11.Ports.xs.length - (j + 1), by omega, (n13 + 1), (j + 1), aS2, cS2, aD2, cD2, rfl, by omega, by omega, by (try dsimp only [q1df_0, q1df_1, q1df_2, q1df_3, q1df_4, q1df_5, q1df_6, q1df_7, q1df_8, q1df_9, q1df_10, q1df_11, q1df_12, q1df_13, q1df_14, q1df_15] at hs ⊢); rw [hTtrue, hTfalse]; exact hs⟩)
       · refine q_cS 13 0 [0] [[oF], [(ov (i6 ((i + 1 : Nat) : Int))), o0]] [BF (((j : Int) : Int) < ((y11.Ports.xs.length : Nat) : Int)), Wr (((i : Int) : Int) + 1) (((i + 1 : Nat) : Int))] [(1, i6 ch), (q1df_7 aS2 c ch i y11 j cS2), (q1df_6 aD2 c ch i y11 j cD2), (q1df_8 b4 o5 c), (q1df_12 c), (13, i6 ((i + 1 : Nat) : Int))] rfl ⟨bf (by omega), wrI, trivial⟩ ?_
         refine e_pick [0, 1, 2, 3] [(old0 w), (q1df_1 z c), (q1df_3 z aS2 c ch i y11 j cS2), (q1df_2 z aD2 c ch i y11 j cD2)] rfl rfl ?_
         refine e_eqk [1, 4, 5, 11, 12, 13] [(1, i6 ch), (q1df_7 aS2 c ch i y11 j cS2), (q1df_6 aD2 c ch i y11 j cD2), (q1df_10 c), (q1df_12 c), (13, i6 ((i + 1 : Nat) : Int))] (by (try dsimp only [q1df_0, q1df_1, q1df_2, q1df_3, q1df_4, q1df_5, q1df_6, q1df_7, q1df_8, q1df_9, q1df_10, q1df_11, q1df_12, q1df_13, q1df_14, q1df_15]); simp only [ha6]; rfl) ?_
         refine e_inv (fun a w' hs => ⟨c.Partitions.xs.length - (i + 1), by omega, n13, (i + 1), aS2, cS2, aD2, cD2, rfl, by omega, by omega, by (try dsimp only [q1df_0, q1df_1, q1df_2, q1df_3, q1df_4, q1df_5, q1df_6, q1df_7, q1df_8, q1df_9, q1df_10, q1df_11, q1df_12, q1df_13, q1df_14, q1df_15] at hs ⊢); rw [endsUp_succ, endsUp_succ, ← hy11, show y11.Ports.xs.length = j by omega]; exact hs⟩)
   · refine q_cS 15 0 [0] [[oF], [o0, o0, o0, o0]] [BF (((i : Int) : Int) < ((c.Partitions.xs.length : Nat) : Int))] [(4, .slice aS ((endsUp c ch true i).length) cS), (q1df_14 aD c ch i cD)] rfl ⟨bf (by omega), trivial⟩ ?_
     refine e_ret [] [] (.tuple #[.slice aS ((endsUp c ch true i).length) cS, .slice aD ((endsUp c ch false i).length) cD]) trivial ?_
     intro w33 hw33
     have e0 : i = c.Partitions.xs.length := by omega
     subst e0
     refine ⟨_, _, _, _, rfl, hz ▸ row_sl (fun _ => rfl) (hw33.at (i := 2) rfl) (by unfold endsOf; omega), hz ▸ row_sl (fun _ => rfl) (hw33.at (i := 3) rfl) (by unfold endsOf; omega), back0 hw33⟩
end Go.Proofs.YtnjhekfgmbpmlaaDoor.Ly
namespace Go.Proofs.YtnjhekfgmbpmlaaDoor.Ly
open Go Go.Proofs.YtnjhekfgmbpmlaaDoor.Eng Go.Proofs.YtnjhekfgmbpmlaaDoor.Mem
set_option linter.unusedSimpArgs false
set_option linter.unusedVariables false
set_option maxRecDepth 100000
abbrev q0ma_0 (z : Nat) (c : TConfig) : Ch := bk z (TConfig.arr c) 26
abbrev q0ma_1 (b11 : Nat) (o12 : Nat) (c : TConfig) : Nat × Value := (30, .slice (some ⟨b11, o12, none⟩) c.Partitions.xs.length c.Partitions.cap)
abbrev q0ma_2 (b26 : Nat) (o27 : Nat) (c : TConfig) : Nat × Value := (42, .slice (some ⟨b26, o27, none⟩) c.Channels.xs.length c.Channels.cap)
abbrev q0ma_3 (c : TConfig) : Nat × Value := (30, .slice c.Partitions.a c.Partitions.xs.length c.Partitions.cap)
abbrev q0ma_4 (c : TConfig) : Nat × Value := (42, .slice c.Channels.a c.Channels.xs.length c.Channels.cap)
abbrev q0ma_5 (c : TConfig) : Nat × Value := (31, i6 ((c.Partitions.xs.length : Nat) : Int))
abbrev q0ma_6 (c : TConfig) : Nat × Value := (43, i6 ((c.Channels.xs.length : Nat) : Int))
theorem can_calls (w : World) (c : TConfig) (hc : TConfig.ok Any w c) : Calls Tryd.prog 56 #[.agg (TConfig.arr c)] w fun e w' => e = .returned (.bool (confOk c)) ∧ Keeps (fun _ => False) w w' := by
 obtain ⟨z, hz⟩ : ∃ z, z = w.heap.size := ⟨_, rfl⟩
 refine calls_G (args := [.agg (TConfig.arr c)]) 82 ⟨w, z, [(old0 w)]⟩ Tryd.func56 rfl (by kernel_rfl) (by kernel_rfl) (sat_0 hz) ?_
 have hlC := hc.Channels.1.len
 refine g_keep [0] [(0, .agg (TConfig.arr c))] ?_
 refine q_c 6 0 [] [[o0, o0]] [] [(1, pt z)] ⟨w, z + 1, [(old0 w), (q0ma_0 z c)]⟩ rfl trivial ?_
 by_cases h1 : (c.Kernel : Int) < 0
 · refine q_cS 9 0 [1] [[o0, (a1 1), oT, o0, o0, o0, o0, o0, o0], [o0]] [Qb z, BT ((c.Kernel : Int) < 0)] [(2, .bool false)] rfl ⟨rfl, bt (by omega), trivial⟩ ?_
   refine e_ret [] [] (.bool false) trivial ?_
   intro w2 hw2
   refine ⟨congrArg (fun b => Ending.returned (Value.bool b)) (Eq.symm (?_ : confOk c = false)), back0 hw2⟩
   exact conf_no1 (by omega)
 · by_cases h3 : (c.Kernel : Int) < 1024
   · by_cases h4 : (8 : Int) < ((c.Partitions.xs.length : Nat) : Int)
     · refine q_cS 9 0 [1] [[o0, (a1 1), oF, o0, o0, (a1 1), oF, o0, o0, o0, (a1 1), o0, oT, o0, o0, o0], [o0]] [Qb z, BF ((c.Kernel : Int) < 0), Qb z, BF ((c.Kernel : Int) ≥ 1024), Qb z, BT ((((c.Partitions.xs.length : Nat) : Int) : Int) > 8)] [(2, .bool false)] rfl ⟨rfl, bf (by omega), rfl, bf (by omega), rfl, bt (by omega), trivial⟩ ?_
       refine e_ret [] [] (.bool false) trivial ?_
       intro w5 hw5
       refine ⟨congrArg (fun b => Ending.returned (Value.bool b)) (Eq.symm (?_ : confOk c = false)), back0 hw5⟩
       exact conf_no1 (by omega)
     · by_cases h6 : (16 : Int) < ((c.Channels.xs.length : Nat) : Int)
       · refine q_cS 9 0 [1] [[o0, (a1 1), oF, o0, o0, (a1 1), oF, o0, o0, o0, (a1 1), o0, oF, o0, o0, o0, (a1 1), o0, oT, o0], [o0]] [Qb z, BF ((c.Kernel : Int) < 0), Qb z, BF ((c.Kernel : Int) ≥ 1024), Qb z, BF ((((c.Partitions.xs.length : Nat) : Int) : Int) > 8), Qb z, BT ((((c.Channels.xs.length : Nat) : Int) : Int) > 16)] [(2, .bool false)] rfl ⟨rfl, bf (by omega), rfl, bf (by omega), rfl, bf (by omega), rfl, bt (by omega), trivial⟩ ?_
         refine e_ret [] [] (.bool false) trivial ?_
         intro w7 hw7
         refine ⟨congrArg (fun b => Ending.returned (Value.bool b)) (Eq.symm (?_ : confOk c = false)), back0 hw7⟩
         exact conf_no1 (by omega)
       · refine q_cS 12 0 [0] [[o0, (a1 1), oF, o0, o0, (a1 1), oF, o0, o0, o0, (a1 1), o0, oF, o0, o0, o0, (a1 1), o0, oF, o0], [o0, (a1 1), o0, o0]] [Qb z, BF ((c.Kernel : Int) < 0), Qb z, BF ((c.Kernel : Int) ≥ 1024), Qb z, BF ((((c.Partitions.xs.length : Nat) : Int) : Int) > 8), Qb z, BF ((((c.Channels.xs.length : Nat) : Int) : Int) > 16), Qb z] [(1, pt z), (q0ma_3 c), (q0ma_5 c), (32, i6 0)] rfl ⟨rfl, bf (by omega), rfl, bf (by omega), rfl, bf (by omega), rfl, bf (by omega), rfl, trivial⟩ ?_
         refine g_loop (fun m a w' => ∃ (n9 : Nat) (k : Nat), m = c.Partitions.xs.length - k ∧ z + 1 ≤ n9 ∧ (k ≤ c.Partitions.xs.length) ∧ (∀ i, i < k → partOk c.Channels.xs.length (gd c.Partitions.xs i) = true) ∧ St 82 [(1, pt z), (q0ma_3 c), (q0ma_5 c), (32, i6 (k : Int))] [] ⟨w, n9, [(old0 w), (q0ma_0 z c)]⟩ a w') (c.Partitions.xs.length - 0) ?_ ?_
         · intro a w' hs; exact ⟨(z + 1), 0, rfl, Nat.le_refl _, Nat.zero_le _, fun i hi => absurd hi (Nat.not_lt_zero i), hs⟩
         · rintro m a w' ⟨n9, k, rfl, hn8, hkk, hp, hs⟩
           refine (?_ : G Tryd.prog 82 [(1, pt z), (q0ma_3 c), (q0ma_5 c), (32, i6 (k : Int))] [] ⟨w, n9, [(old0 w), (q0ma_0 z c)]⟩ _ _ _) a w' hs
           clear hs a w'
           refine g_seq ?_
           by_cases h10 : ((k : Int) : Int) < ((c.Partitions.xs.length : Nat) : Int)
           · refine q_cS 10 0 [1] [[oT]] [BT (((k : Int) : Int) < ((c.Partitions.xs.length : Nat) : Int))] [(1, pt z), (q0ma_3 c), (q0ma_5 c), (32, i6 (k : Int)), (33, .bool true)] rfl ⟨bt (by omega), trivial⟩ ?_
             obtain ⟨b11, o12, ha13, hF15, hc14⟩ := (hc.Partitions).1.all (show 0 < c.Partitions.xs.length by omega)
             replace ha13 : c.Partitions.a = some ⟨b11, o12, none⟩ := ha13
             refine g_eq [(1, pt z), (q0ma_1 b11 o12 c), (q0ma_5 c), (32, i6 (k : Int)), (33, .bool true)] (by (try dsimp only [q0ma_0, q0ma_1, q0ma_2, q0ma_3, q0ma_4, q0ma_5, q0ma_6]); simp only [ha13]) ?_
             have hc16 := hc14 k (show k < c.Partitions.xs.length by omega)
             have he17 := (hc.Partitions).2 k (show k < c.Partitions.xs.length by omega)
             obtain ⟨y18, hy18⟩ : ∃ y_, y_ = gd c.Partitions.xs k := ⟨_, rfl⟩
             rw [← hy18] at he17 hc16
             refine q_c 5 2 [] [[(oi k), (ol 0 (TPartition.arr y18)), o0, (an 8 2)], [(an 7 1), (an 8 2)]] [((k : Int) : Int) = ((k : Nat) : Int), k < c.Partitions.xs.length, (none : Option Nat) = none, OldR w b11 (o12 + k * 8) (TPartition.arr y18), Qb n9, Qb n9, Qb n9, Qb n9, Qb n9, Qb n9, Qb n9, Qb n9, Qb z, Qb z, Qb z, Qb z, Qb z, Qb z, Qb z, Qb n9, Qb n9, Qb n9, Qb n9, Qb n9, Qb n9, Qb n9, Qb n9] [(1, pt z), (q0ma_1 b11 o12 c), (q0ma_5 c), (32, i6 (k : Int)), (36, .agg (TConfig.arr c)), (37, .agg (TPartition.arr y18))] ⟨w, n9 + 1, [(old0 w), (q0ma_0 z c), (bk n9 (TPartition.arr y18) 41)]⟩ rfl ⟨rfl, (by omega), rfl, old_row hc16, rfl, rfl, rfl, rfl, rfl, rfl, rfl, rfl, rfl, rfl, rfl, rfl, rfl, rfl, rfl, rfl, rfl, rfl, rfl, rfl, rfl, rfl, rfl, trivial⟩ ?_
             refine l_call [] [] 74 #[.agg (TConfig.arr c), .agg (TPartition.arr y18)] (some 38) trivial ?_
             intro w19 hw19
             refine (partition_calls w19 c y18 (hc.ext (hw19.ext rfl) (fun _ h => h)) (he17.ext (hw19.ext rfl) (fun _ h => h))).mono ?_
             rintro e w20 ⟨rfl, hkw20⟩
             have hnw20 : n9 + 1 ≤ w20.heap.size := size_of hw19 hkw20
             refine ⟨_, _, rfl, hw19.keeps hkw20, ?_⟩
             refine l_keep [1, 30, 31, 32, 38] [(1, pt z), (q0ma_1 b11 o12 c), (q0ma_5 c), (32, i6 (k : Int)), (38, .bool (partOk c.Channels.xs.length y18))] ?_
             by_cases h21 : (partOk c.Channels.xs.length y18) = true
             · refine q_rS 8 0 [0] [[(ov (.bool false))], [(ov (i6 ((k + 1 : Nat) : Int))), o0]] [Value.bool (!(partOk c.Channels.xs.length y18)) = Value.bool false, Wr (((k : Int) : Int) + 1) (((k + 1 : Nat) : Int))] [(1, pt z), (q0ma_1 b11 o12 c), (q0ma_5 c), (32, i6 ((k + 1 : Nat) : Int))] rfl ⟨by simp [h21], wrI, trivial⟩ ?_
               refine e_pick [0, 1] [(old0 w), (q0ma_0 z c)] rfl rfl ?_
               refine e_eqk [1, 30, 31, 32] [(1, pt z), (q0ma_3 c), (q0ma_5 c), (32, i6 ((k + 1 : Nat) : Int))] (by (try dsimp only [q0ma_0, q0ma_1, q0ma_2, q0ma_3, q0ma_4, q0ma_5, q0ma_6]); simp only [ha13]; rfl) ?_
               refine e_inv (fun a w' hs => ⟨c.Partitions.xs.length - (k + 1), by omega, w20.heap.size, (k + 1), rfl, by omega, by omega, upto hp (by rw [← hy18]; exact h21), hs⟩)
             · refine q_rS 8 0 [1] [[(ov (.bool true))], [o0]] [Value.bool (!(partOk c.Channels.xs.length y18)) = Value.bool true] [(2, .bool false)] rfl ⟨by simp [h21], trivial⟩ ?_
               refine e_ret [] [] (.bool false) trivial ?_
               intro w22 hw22
               refine ⟨congrArg (fun b => Ending.returned (Value.bool b)) (Eq.symm (?_ : confOk c = false)), back0 hw22⟩
               exact conf_no2 (k := k) (by omega) (by rw [← hy18]; exact Bool.eq_false_iff.2 h21)
           · refine q_cS 16 0 [0] [[oF], [o0, (a1 1), o0, o0]] [BF (((k : Int) : Int) < ((c.Partitions.xs.length : Nat) : Int)), Qb z] [(1, pt z), (q0ma_4 c), (q0ma_6 c), (44, i6 0)] rfl ⟨bf (by omega), rfl, trivial⟩ ?_
             refine g_loop (fun m a w' => ∃ (n24 : Nat) (k2 : Nat), m = c.Channels.xs.length - k2 ∧ n9 ≤ n24 ∧ (k2 ≤ c.Channels.xs.length) ∧ (∀ i, i < k2 → chanOk c i = true) ∧ St 82 [(1, pt z), (q0ma_4 c), (q0ma_6 c), (44, i6 (k2 : Int))] [] ⟨w, n24, [(old0 w), (q0ma_0 z c)]⟩ a w') (c.Channels.xs.length - 0) ?_ ?_
             · intro a w' hs; exact ⟨n9, 0, rfl, Nat.le_refl _, Nat.zero_le _, fun i hi => absurd hi (Nat.not_lt_zero i), hs⟩
             · rintro m a w' ⟨n24, k2, rfl, hn23, hkk2, hch, hs⟩
               refine (?_ : G Tryd.prog 82 [(1, pt z), (q0ma_4 c), (q0ma_6 c), (44, i6 (k2 : Int))] [] ⟨w, n24, [(old0 w), (q0ma_0 z c)]⟩ _ _ _) a w' hs
               clear hs a w'
               refine g_seq ?_
               by_cases h25 : ((k2 : Int) : Int) < ((c.Channels.xs.length : Nat) : Int)
               · refine q_cS 10 0 [1] [[oT]] [BT (((k2 : Int) : Int) < ((c.Channels.xs.length : Nat) : Int))] [(1, pt z), (q0ma_4 c), (q0ma_6 c), (44, i6 (k2 : Int)), (45, .bool true)] rfl ⟨bt (by omega), trivial⟩ ?_
                 obtain ⟨b26, o27, ha28, hF30, hc29⟩ := (hc.Channels).1.all (show 0 < c.Channels.xs.length by omega)
                 replace ha28 : c.Channels.a = some ⟨b26, o27, none⟩ := ha28
                 refine g_eq [(1, pt z), (q0ma_2 b26 o27 c), (q0ma_6 c), (44, i6 (k2 : Int)), (45, .bool true)] (by (try dsimp only [q0ma_0, q0ma_1, q0ma_2, q0ma_3, q0ma_4, q0ma_5, q0ma_6]); simp only [ha28]) ?_
                 have hc31 := hc29 k2 (show k2 < c.Channels.xs.length by omega)
                 have he32 := (hc.Channels).2 k2 (show k2 < c.Channels.xs.length by omega)
                 obtain ⟨y33, hy33⟩ : ∃ y_, y_ = gd c.Channels.xs k2 := ⟨_, rfl⟩
                 rw [← hy33] at he32 hc31
                 have hsb := stage_bd y33; have hsp := stage_port y33; have hec1 := endsOf_cnt c k2 true; have hec2 := endsOf_cnt c k2 false
                 refine q_c 5 2 [] [[o0, (oi k2), (ol 0 (TChannel.arr y33)), o0, o0, (an 3 2)], [(an 7 1), o0]] [((k2 : Int) : Int) = ((k2 : Nat) : Int), k2 < c.Channels.xs.length, (none : Option Nat) = none, OldR w b26 (o27 + k2 * 3) (TChannel.arr y33), Qb n24, Qb n24, Qb n24, Qb z, Qb z, Qb z, Qb z, Qb z, Qb z, Qb z] [(1, pt z), (q0ma_2 b26 o27 c), (q0ma_6 c), (44, i6 (k2 : Int)), (6, pt n24), (50, .agg (TConfig.arr c)), (51, i6 (k2 : Int))] ⟨w, n24 + 1, [(old0 w), (q0ma_0 z c), (bk n24 (TChannel.arr y33) 55)]⟩ rfl ⟨rfl, (by omega), rfl, old_row hc31, rfl, rfl, rfl, rfl, rfl, rfl, rfl, rfl, rfl, rfl, trivial⟩ ?_
                 refine l_call [] [] 58 #[.agg (TConfig.arr c), i6 (k2 : Int)] (some 52) trivial ?_
                 intro w34 hw34
                 refine (ends_calls w34 c (k2 : Int) (hc.ext (hw34.ext rfl) (fun _ h => h)) (by omega) (fun i hi => part_ports (hp i (by omega)))).mono ?_
                 rintro e w35 ⟨ax36, cp37, ax38, cp39, rfl, hSw35, hDw35, hkw35⟩
                 have hnw35 : n24 + 1 ≤ w35.heap.size := size_of hw34 hkw35
                 rw [hw34.size] at hSw35 hDw35
                 refine ⟨_, _, rfl, hw34.keepsM hkw35, ?_⟩
                 refine q_rS 5 1 [] [[o0, o0, o0, o0, o0], [(an 3 2)]] [Qb n24, Qb n24, Qb n24] [(1, pt z), (q0ma_2 b26 o27 c), (q0ma_6 c), (44, i6 (k2 : Int)), (6, pt n24), (7, .slice ax36 ((endsOf c (k2 : Int) true).length) cp37), (8, .slice ax38 ((endsOf c (k2 : Int) false).length) cp39), (55, .agg (TChannel.arr y33))] rfl ⟨rfl, rfl, rfl, trivial⟩ ?_
                 refine l_call [] [] 59 #[.agg (TChannel.arr y33)] (some 56) trivial ?_
                 intro w40 hw40
                 refine (stage_calls w40 y33 (he32.ext (hw40.ext rfl) (fun _ h => h))).mono ?_
                 rintro e w41 ⟨rfl, hkw41⟩
                 have hnw41 : w35.heap.size ≤ w41.heap.size := size_of hw40 hkw41
                 refine ⟨_, _, rfl, hw40.keeps hkw41, ?_⟩
                 refine l_keep [1, 42, 43, 44, 6, 7, 8, 56] [(1, pt z), (q0ma_2 b26 o27 c), (q0ma_6 c), (44, i6 (k2 : Int)), (6, pt n24), (7, .slice ax36 ((endsOf c (k2 : Int) true).length) cp37), (8, .slice ax38 ((endsOf c (k2 : Int) false).length) cp39), (56, i6 (stageOf y33))] ?_
                 by_cases h42 : (stageOf y33 : Int) = 0
                 · refine q_rS 8 0 [1] [[oT, o0, o0], [o0]] [ET (stageOf y33) 0] [(2, .bool false)] rfl ⟨et (by omega), trivial⟩ ?_
                   refine e_ret [] [] (.bool false) trivial ?_
                   intro w43 hw43
                   refine ⟨congrArg (fun b => Ending.returned (Value.bool b)) (Eq.symm (?_ : confOk c = false)), back0 hw43⟩
                   exact conf_no3 (k := k2) (by omega) (chan_no (by rw [← hy33]; first | omega | (left; exact (stage_port _).1 (by omega))))
                 · by_cases h44 : (y33.Kind : Int) = 1
                   · by_cases h45 : (y33.Depth : Int) = 0
                     · refine q_rS 6 0 [0] [[oF, o0, o0, (a1 2), oT, o0, o0, (a1 2), oF, o0, o0]] [EF (stageOf y33) 0, Qb n24, ET y33.Kind 1, Qb n24, NF y33.Depth 0] [(1, pt z), (q0ma_2 b26 o27 c), (q0ma_6 c), (44, i6 (k2 : Int)), (7, .slice ax36 ((endsOf c (k2 : Int) true).length) cp37), (8, .slice ax38 ((endsOf c (k2 : Int) false).length) cp39), (67, .bool false)] rfl ⟨ef (by omega), rfl, et (by omega), rfl, nf (by omega), trivial⟩ ?_
                       by_cases h46 : ((((endsOf c (k2 : Int) true).length : Nat) : Int) : Int) = 1
                       · by_cases h47 : ((((endsOf c (k2 : Int) false).length : Nat) : Int) : Int) < 1
                         · refine q_cS 9 0 [1] [[o0, o0, oF, o0, o0, o0, oT, o0, o0, o0], [o0]] [NF (((endsOf c (k2 : Int) true).length : Nat) : Int) 1, BT (((((endsOf c (k2 : Int) false).length : Nat) : Int) : Int) < 1)] [(2, .bool false)] rfl ⟨nf (by omega), bt (by omega), trivial⟩ ?_
                           refine e_ret [] [] (.bool false) trivial ?_
                           intro w48 hw48
                           refine ⟨congrArg (fun b => Ending.returned (Value.bool b)) (Eq.symm (?_ : confOk c = false)), back0 hw48⟩
                           exact conf_no3 (k := k2) (by omega) (chan_no (by rw [← hy33]; first | omega | (left; exact (stage_port _).1 (by omega))))
                         · by_cases h49 : (4 : Int) < (((endsOf c (k2 : Int) false).length : Nat) : Int)
                           · refine q_cS 9 0 [1] [[o0, o0, oF, o0, o0, o0, oF, o0, o0, o0, o0, oT, o0], [o0]] [NF (((endsOf c (k2 : Int) true).length : Nat) : Int) 1, BF (((((endsOf c (k2 : Int) false).length : Nat) : Int) : Int) < 1), BT (((((endsOf c (k2 : Int) false).length : Nat) : Int) : Int) > 4)] [(2, .bool false)] rfl ⟨nf (by omega), bf (by omega), bt (by omega), trivial⟩ ?_
                             refine e_ret [] [] (.bool false) trivial ?_
                             intro w50 hw50
                             refine ⟨congrArg (fun b => Ending.returned (Value.bool b)) (Eq.symm (?_ : confOk c = false)), back0 hw50⟩
                             exact conf_no3 (k := k2) (by omega) (chan_no (by rw [← hy33]; first | omega | (left; exact (stage_port _).1 (by omega))))
                           · refine q_cS 9 0 [0] [[o0, o0, oF, o0, o0, o0, oF, o0, o0, o0, o0, oF, o0], [(ov (i6 ((k2 + 1 : Nat) : Int))), o0]] [NF (((endsOf c (k2 : Int) true).length : Nat) : Int) 1, BF (((((endsOf c (k2 : Int) false).length : Nat) : Int) : Int) < 1), BF (((((endsOf c (k2 : Int) false).length : Nat) : Int) : Int) > 4), Wr (((k2 : Int) : Int) + 1) (((k2 + 1 : Nat) : Int))] [(1, pt z), (q0ma_2 b26 o27 c), (q0ma_6 c), (44, i6 ((k2 + 1 : Nat) : Int))] rfl ⟨nf (by omega), bf (by omega), bf (by omega), wrI, trivial⟩ ?_
                             refine e_pick [0, 1] [(old0 w), (q0ma_0 z c)] rfl rfl ?_
                             refine e_eqk [1, 42, 43, 44] [(1, pt z), (q0ma_4 c), (q0ma_6 c), (44, i6 ((k2 + 1 : Nat) : Int))] (by (try dsimp only [q0ma_0, q0ma_1, q0ma_2, q0ma_3, q0ma_4, q0ma_5, q0ma_6]); simp only [ha28]; rfl) ?_
                             refine e_inv (fun a w' hs => ⟨c.Channels.xs.length - (k2 + 1), by omega, w41.heap.size, (k2 + 1), rfl, by omega, by omega, upto hch (chan_yes (by rw [← hy33]; intro e; exact absurd (hsp.2 e) (by omega)) (by rw [← hy33]; omega) (by omega) (by omega)), hs⟩)
                       · refine q_cS 9 0 [1] [[o0, o0, oT, o0, o0, o0, o0], [o0]] [NT (((endsOf c (k2 : Int) true).length : Nat) : Int) 1] [(2, .bool false)] rfl ⟨nt (by omega), trivial⟩ ?_
                         refine e_ret [] [] (.bool false) trivial ?_
                         intro w51 hw51
                         refine ⟨congrArg (fun b => Ending.returned (Value.bool b)) (Eq.symm (?_ : confOk c = false)), back0 hw51⟩
                         exact conf_no3 (k := k2) (by omega) (chan_no (by rw [← hy33]; first | omega | (left; exact (stage_port _).1 (by omega))))
                     · refine q_rS 8 0 [1] [[oF, o0, o0, (a1 2), oT, o0, o0, (a1 2), oT, o0, o0], [o0]] [EF (stageOf y33) 0, Qb n24, ET y33.Kind 1, Qb n24, NT y33.Depth 0] [(2, .bool false)] rfl ⟨ef (by omega), rfl, et (by omega), rfl, nt (by omega), trivial⟩ ?_
                       refine e_ret [] [] (.bool false) trivial ?_
                       intro w52 hw52
                       refine ⟨congrArg (fun b => Ending.returned (Value.bool b)) (Eq.symm (?_ : confOk c = false)), back0 hw52⟩
                       exact conf_no3 (k := k2) (by omega) (chan_no (by rw [← hy33]; first | omega | (left; exact (stage_port _).1 (by omega))))
                   · refine q_rS 6 0 [0] [[oF, o0, o0, (a1 2), oF, o0, o0, o0]] [EF (stageOf y33) 0, Qb n24, EF y33.Kind 1] [(1, pt z), (q0ma_2 b26 o27 c), (q0ma_6 c), (44, i6 (k2 : Int)), (7, .slice ax36 ((endsOf c (k2 : Int) true).length) cp37), (8, .slice ax38 ((endsOf c (k2 : Int) false).length) cp39), (67, .bool false)] rfl ⟨ef (by omega), rfl, ef (by omega), trivial⟩ ?_
                     by_cases h53 : ((((endsOf c (k2 : Int) true).length : Nat) : Int) : Int) = 1
                     · by_cases h54 : ((((endsOf c (k2 : Int) false).length : Nat) : Int) : Int) < 1
                       · refine q_cS 9 0 [1] [[o0, o0, oF, o0, o0, o0, oT, o0, o0, o0], [o0]] [NF (((endsOf c (k2 : Int) true).length : Nat) : Int) 1, BT (((((endsOf c (k2 : Int) false).length : Nat) : Int) : Int) < 1)] [(2, .bool false)] rfl ⟨nf (by omega), bt (by omega), trivial⟩ ?_
                         refine e_ret [] [] (.bool false) trivial ?_
                         intro w55 hw55
                         refine ⟨congrArg (fun b => Ending.returned (Value.bool b)) (Eq.symm (?_ : confOk c = false)), back0 hw55⟩
                         exact conf_no3 (k := k2) (by omega) (chan_no (by rw [← hy33]; first | omega | (left; exact (stage_port _).1 (by omega))))
                       · by_cases h56 : (4 : Int) < (((endsOf c (k2 : Int) false).length : Nat) : Int)
                         · refine q_cS 9 0 [1] [[o0, o0, oF, o0, o0, o0, oF, o0, o0, o0, o0, oT, o0], [o0]] [NF (((endsOf c (k2 : Int) true).length : Nat) : Int) 1, BF (((((endsOf c (k2 : Int) false).length : Nat) : Int) : Int) < 1), BT (((((endsOf c (k2 : Int) false).length : Nat) : Int) : Int) > 4)] [(2, .bool false)] rfl ⟨nf (by omega), bf (by omega), bt (by omega), trivial⟩ ?_
                           refine e_ret [] [] (.bool false) trivial ?_
                           intro w57 hw57
                           refine ⟨congrArg (fun b => Ending.returned (Value.bool b)) (Eq.symm (?_ : confOk c = false)), back0 hw57⟩
                           exact conf_no3 (k := k2) (by omega) (chan_no (by rw [← hy33]; first | omega | (left; exact (stage_port _).1 (by omega))))
                         · refine q_cS 9 0 [0] [[o0, o0, oF, o0, o0, o0, oF, o0, o0, o0, o0, oF, o0], [(ov (i6 ((k2 + 1 : Nat) : Int))), o0]] [NF (((endsOf c (k2 : Int) true).length : Nat) : Int) 1, BF (((((endsOf c (k2 : Int) false).length : Nat) : Int) : Int) < 1), BF (((((endsOf c (k2 : Int) false).length : Nat) : Int) : Int) > 4), Wr (((k2 : Int) : Int) + 1) (((k2 + 1 : Nat) : Int))] [(1, pt z), (q0ma_2 b26 o27 c), (q0ma_6 c), (44, i6 ((k2 + 1 : Nat) : Int))] rfl ⟨nf (by omega), bf (by omega), bf (by omega), wrI, trivial⟩ ?_
                           refine e_pick [0, 1] [(old0 w), (q0ma_0 z c)] rfl rfl ?_
                           refine e_eqk [1, 42, 43, 44] [(1, pt z), (q0ma_4 c), (q0ma_6 c), (44, i6 ((k2 + 1 : Nat) : Int))] (by (try dsimp only [q0ma_0, q0ma_1, q0ma_2, q0ma_3, q0ma_4, q0ma_5, q0ma_6]); simp only [ha28]; rfl) ?_
                           refine e_inv (fun a w' hs => ⟨c.Channels.xs.length - (k2 + 1), by omega, w41.heap.size, (k2 + 1), rfl, by omega, by omega, upto hch (chan_yes (by rw [← hy33]; intro e; exact absurd (hsp.2 e) (by omega)) (by rw [← hy33]; omega) (by omega) (by omega)), hs⟩)
                     · refine q_cS 9 0 [1] [[o0, o0, oT, o0, o0, o0, o0], [o0]] [NT (((endsOf c (k2 : Int) true).length : Nat) : Int) 1] [(2, .bool false)] rfl ⟨nt (by omega), trivial⟩ ?_
                       refine e_ret [] [] (.bool false) trivial ?_
                       intro w58 hw58
                       refine ⟨congrArg (fun b => Ending.returned (Value.bool b)) (Eq.symm (?_ : confOk c = false)), back0 hw58⟩
                       exact conf_no3 (k := k2) (by omega) (chan_no (by rw [← hy33]; first | omega | (left; exact (stage_port _).1 (by omega))))
               · refine q_cS 15 0 [0] [[oF], [o0]] [BF (((k2 : Int) : Int) < ((c.Channels.xs.length : Nat) : Int))] [(2, .bool true)] rfl ⟨bf (by omega), trivial⟩ ?_
                 refine e_ret [] [] (.bool true) trivial ?_
                 intro w59 hw59
                 refine ⟨congrArg (fun b => Ending.returned (Value.bool b)) (Eq.symm (?_ : confOk c = true)), back0 hw59⟩
                 exact conf_yes (by omega) (by omega) (by omega) (fun i hi => hp i (by omega)) (fun i hi => hch i (by omega))
   · refine q_cS 9 0 [1] [[o0, (a1 1), oF, o0, o0, (a1 1), oT, o0, o0, o0, o0, o0], [o0]] [Qb z, BF ((c.Kernel : Int) < 0), Qb z, BT ((c.Kernel : Int) ≥ 1024)] [(2, .bool false)] rfl ⟨rfl, bf (by omega), rfl, bt (by omega), trivial⟩ ?_
     refine e_ret [] [] (.bool false) trivial ?_
     intro w60 hw60
     refine ⟨congrArg (fun b => Ending.returned (Value.bool b)) (Eq.symm (?_ : confOk c = false)), back0 hw60⟩
     exact conf_no1 (by omega)
end Go.Proofs.YtnjhekfgmbpmlaaDoor.Ly
namespace Go.Proofs.YtnjhekfgmbpmlaaDoor.Ly
open Go Go.Proofs.YtnjhekfgmbpmlaaDoor.Eng Go.Proofs.YtnjhekfgmbpmlaaDoor.Mem
set_option linter.unusedSimpArgs false
set_option linter.unusedVariables false
set_option maxRecDepth 100000
def tabsOf (g : TRegion) (n : Nat) : List Nat := (List.range n).map (fun (k : Nat) => ((g.Page + (k : Int)) / 16).toNat)
def tabsUp (x : TPartition) (i : Nat) : List Nat := (List.range i).flatMap (fun r => tabsOf (gd x.Regions.xs r) (gd x.Regions.xs r).Pages.toNat)
def markA (l : List Nat) : Array Value := ((List.range 16).map (fun t => Value.bool (l.contains t))).toArray
theorem mark_size (l : List Nat) : (markA l).size = 16 := by simp [markA]
theorem mark_at (l : List Nat) {t : Nat} (h : t < 16) : (markA l)[t]? = some (Value.bool (l.contains t)) := by simp [markA, h]
theorem mark_push (l : List Nat) (t : Nat) : markA (l ++ [t]) = (markA l).setIfInBounds t (.bool true) := by
  apply Array.ext_getElem?
  intro i
  rw [Array.getElem?_setIfInBounds, mark_size]
  by_cases hi : i < 16
  · rw [mark_at _ hi, mark_at _ hi]
    by_cases e : t = i
    · subst e; simp [hi]
    · rw [if_neg e]
      simp [Ne.symm e]
  · have h1 : ∀ l, (markA l)[i]? = none := fun l => Array.getElem?_eq_none (by rw [mark_size]; omega)
    rw [h1, h1]
    by_cases e : t = i
    · subst e; simp [hi]
    · simp [e]
theorem tabsOf_succ {g : TRegion} {k : Nat} : tabsOf g (k + 1) = tabsOf g k ++ [((g.Page + (k : Int)) / 16).toNat] := by
  unfold tabsOf; rw [List.range_succ, List.map_append]; rfl
theorem tabsUp_succ {x : TPartition} {i : Nat} : tabsUp x (i + 1) = tabsUp x i ++ tabsOf (gd x.Regions.xs i) (gd x.Regions.xs i).Pages.toNat := by
  unfold tabsUp; rw [List.range_succ, List.flatMap_append]; simp
def tabsN (x : TPartition) : Nat := (List.range 16).countP (fun t => (tabsUp x x.Regions.xs.length).contains t)
theorem cntr_succ {p : Nat → Bool} {j : Nat} : (List.range (j + 1)).countP p = (List.range j).countP p + if p j then 1 else 0 := by
  rw [List.range_succ, List.countP_append]; simp [List.countP_singleton]
theorem tabsN_le (x : TPartition) : tabsN x ≤ 16 := Nat.le_trans List.countP_le_length (by simp)
theorem blk_row {b : Nat} {c : Array Value} {t : TypeId} {r : Bool} : RowOf (.blk b (.cells c t (0, 0)) r) b 0 c := fun w hw i v hv => by
  have hw' : w.heap[b]? = some (.cells c t (0, 0)) := hw
  simp only [World.cell?, hw', Nat.zero_add]; simpa using hv
abbrev qth4_0 (z : Nat) (x : TPartition) : Ch := bk z (TPartition.arr x) 41
abbrev qth4_1 (n2 : Nat) (y11 : TRegion) : Ch := bk n2 (TRegion.arr y11) 49
abbrev qth4_2 (j : Nat) (x : TPartition) : Nat × Value := (7, i6 ((((List.range j).countP (fun t => (tabsUp x x.Regions.xs.length).contains t)) + 1 : Nat) : Int))
abbrev qth4_3 (j : Nat) (x : TPartition) : Nat × Value := (7, i6 (((List.range j).countP (fun t => (tabsUp x x.Regions.xs.length).contains t) : Nat) : Int))
abbrev qth4_4 (b4 : Nat) (o5 : Nat) (x : TPartition) : Nat × Value := (11, .slice (some ⟨b4, o5, none⟩) x.Regions.xs.length x.Regions.cap)
abbrev qth4_5 (x : TPartition) : Nat × Value := (11, .slice x.Regions.a x.Regions.xs.length x.Regions.cap)
abbrev qth4_6 (x : TPartition) : Nat × Value := (12, i6 ((x.Regions.xs.length : Nat) : Int))
abbrev qth4_7 (x : TPartition) : Nat × Value := (30, .agg (markA (tabsUp x x.Regions.xs.length)))
abbrev qth4_8 (z : Nat) : Nat × Value := (3, pt (z + 1))
abbrev qth4_9 (w : World) (z : Nat) (x : TPartition) : List Ch := [(old0 w), (qth4_0 z x), (bk (z + 1) (markA (tabsUp x x.Regions.xs.length)) 114)]
theorem tables_calls (w : World) (x : TPartition) (hx : TPartition.ok Any w x) (hr : ∀ i, i < x.Regions.xs.length → regOk (gd x.Regions.xs i) = true) : Calls Tryd.prog 61 #[.agg (TPartition.arr x)] w fun e w' => e = .returned (.int .i64 (tabsN x : Nat)) ∧ Keeps (fun _ => False) w w' := by
 obtain ⟨z, hz⟩ : ∃ z, z = w.heap.size := ⟨_, rfl⟩
 refine calls_G (args := [.agg (TPartition.arr x)]) 39 ⟨w, z, [(old0 w)]⟩ Tryd.func61 rfl (by kernel_rfl) (by kernel_rfl) (sat_0 hz) ?_
 have hlR := hx.Regions.1.len
 refine g_keep [0] [(0, .agg (TPartition.arr x))] ?_
 refine q_c 14 0 [] [[o0, o0], [o0], [o0, (a1 1), o0, o0]] [Qb z] [(qth4_8 z), (qth4_5 x), (qth4_6 x), (13, i6 0)] ⟨w, z + 2, [(old0 w), (qth4_0 z x), (bk (z + 1) #[.bool false, .bool false, .bool false, .bool false, .bool false, .bool false, .bool false, .bool false, .bool false, .bool false, .bool false, .bool false, .bool false, .bool false, .bool false, .bool false] 114)]⟩ rfl ⟨rfl, trivial⟩ ?_
 refine g_loop (fun m a w' => ∃ (n2 : Nat) (i : Nat), m = x.Regions.xs.length - i ∧ z + 2 ≤ n2 ∧ (i ≤ x.Regions.xs.length) ∧ St 39 [(qth4_8 z), (qth4_5 x), (qth4_6 x), (13, i6 (i : Int))] [] ⟨w, n2, [(old0 w), (qth4_0 z x), (bk (z + 1) (markA (tabsUp x i)) 114)]⟩ a w') (x.Regions.xs.length - 0) ?_ ?_
 · intro a w' hs; exact ⟨(z + 2), 0, rfl, Nat.le_refl _, Nat.zero_le _, hs⟩
 · rintro m a w' ⟨n2, i, rfl, hn1, hki, hs⟩
   refine (?_ : G Tryd.prog 39 [(qth4_8 z), (qth4_5 x), (qth4_6 x), (13, i6 (i : Int))] [] ⟨w, n2, [(old0 w), (qth4_0 z x), (bk (z + 1) (markA (tabsUp x i)) 114)]⟩ _ _ _) a w' hs
   clear hs a w'
   refine g_seq ?_
   by_cases h3 : ((i : Int) : Int) < ((x.Regions.xs.length : Nat) : Int)
   · refine q_cS 10 0 [1] [[oT]] [BT (((i : Int) : Int) < ((x.Regions.xs.length : Nat) : Int))] [(qth4_8 z), (qth4_5 x), (qth4_6 x), (13, i6 (i : Int)), (14, .bool true)] rfl ⟨bt (by omega), trivial⟩ ?_
     obtain ⟨b4, o5, ha6, hF8, hc7⟩ := (hx.Regions).1.all (show 0 < x.Regions.xs.length by omega)
     replace ha6 : x.Regions.a = some ⟨b4, o5, none⟩ := ha6
     refine g_eq [(qth4_8 z), (qth4_4 b4 o5 x), (qth4_6 x), (13, i6 (i : Int)), (14, .bool true)] (by (try dsimp only [qth4_0, qth4_1, qth4_2, qth4_3, qth4_4, qth4_5, qth4_6, qth4_7, qth4_8, qth4_9]); simp only [ha6]) ?_
     have hc9 := hc7 i (show i < x.Regions.xs.length by omega)
     have he10 := (hx.Regions).2 i (show i < x.Regions.xs.length by omega)
     obtain ⟨y11, hy11⟩ : ∃ y_, y_ = gd x.Regions.xs i := ⟨_, rfl⟩
     rw [← hy11] at he10 hc9
     have hrg := hr i (by omega); rw [← hy11] at hrg; unfold regOk at hrg; rw [decide_eq_true_eq] at hrg
     refine q_c 8 0 [] [[(oi i), (ol 0 (TRegion.arr y11)), o0, (an 4 3)], [o0, (a1 3), o0]] [((i : Int) : Int) = ((i : Nat) : Int), i < x.Regions.xs.length, (none : Option Nat) = none, OldR w b4 (o5 + i * 4) (TRegion.arr y11), Qb n2, Qb n2, Qb n2, Qb n2, Qb n2] [(qth4_8 z), (5, pt n2), (qth4_4 b4 o5 x), (qth4_6 x), (13, i6 (i : Int)), (18, i6 y11.Pages), (19, i6 0)] ⟨w, n2 + 1, [(old0 w), (qth4_0 z x), (bk (z + 1) (markA (tabsUp x i)) 114), (qth4_1 n2 y11)]⟩ rfl ⟨rfl, (by omega), rfl, old_row hc9, rfl, rfl, rfl, rfl, rfl, trivial⟩ ?_
     refine g_loop (fun m a w' => ∃ (n13 : Nat) (k : Nat), m = y11.Pages.toNat - k ∧ n2 + 1 ≤ n13 ∧ (k ≤ y11.Pages.toNat) ∧ St 39 [(qth4_8 z), (5, pt n2), (qth4_4 b4 o5 x), (qth4_6 x), (13, i6 (i : Int)), (18, i6 y11.Pages), (19, i6 (k : Int))] [] ⟨w, n13, [(old0 w), (qth4_0 z x), (bk (z + 1) (markA (tabsUp x i ++ tabsOf y11 k)) 114), (qth4_1 n2 y11)]⟩ a w') (y11.Pages.toNat - 0) ?_ ?_
     · intro a w' hs; exact ⟨(n2 + 1), 0, rfl, Nat.le_refl _, Nat.zero_le _, by (try dsimp only [qth4_0, qth4_1, qth4_2, qth4_3, qth4_4, qth4_5, qth4_6, qth4_7, qth4_8, qth4_9] at hs ⊢); rw [show tabsOf y11 0 = [] from rfl, List.append_nil]; exact hs⟩
     · rintro m a w' ⟨n13, k, rfl, hn12, hkk, hs⟩
       refine (?_ : G Tryd.prog 39 [(qth4_8 z), (5, pt n2), (qth4_4 b4 o5 x), (qth4_6 x), (13, i6 (i : Int)), (18, i6 y11.Pages), (19, i6 (k : Int))] [] ⟨w, n13, [(old0 w), (qth4_0 z x), (bk (z + 1) (markA (tabsUp x i ++ tabsOf y11 k)) 114), (qth4_1 n2 y11)]⟩ _ _ _) a w' hs
       clear hs a w'
       refine g_seq ?_
       by_cases h14 : ((k : Int) : Int) < y11.Pages
       · refine q_c 19 0 [1] [[oT], [o0, o0], [o0, (a1 3), o0, (ov (i6 (y11.Page + (k : Int)))), (ov (i6 ((y11.Page + (k : Int)) / 16))), (oi (((y11.Page + (k : Int)) / 16).toNat)), (oa [.atv 2 undef])], [(ov (i6 ((k + 1 : Nat) : Int))), o0]] [BT (((k : Int) : Int) < y11.Pages), Qb n2, Wr ((y11.Page : Int) + (k : Int)) (y11.Page + (k : Int)), Wr (Int.tdiv (y11.Page + (k : Int)) 16) ((y11.Page + (k : Int)) / 16), ((y11.Page + (k : Int)) / 16 : Int) = ((((y11.Page + (k : Int)) / 16).toNat : Nat) : Int), ((y11.Page + (k : Int)) / 16).toNat < 16, (none : Option Nat) = none, (none : Option Nat) = none, Qb (z + 1), 0 + (((y11.Page + (k : Int)) / 16).toNat) < (markA (tabsUp x i ++ tabsOf y11 k)).size, Wr (((k : Int) : Int) + 1) (((k + 1 : Nat) : Int))] [(qth4_8 z), (5, pt n2), (qth4_4 b4 o5 x), (qth4_6 x), (13, i6 (i : Int)), (18, i6 y11.Pages), (19, i6 ((k + 1 : Nat) : Int))] ⟨w, n13, [(old0 w), (qth4_0 z x), (Ch.blk (z + 1) (.cells ((markA (tabsUp x i ++ tabsOf y11 k)).setIfInBounds (0 + (((y11.Page + (k : Int)) / 16).toNat)) (.bool true)) 114 (0, 0)) true), (qth4_1 n2 y11)]⟩ rfl ⟨bt (by omega), rfl, wrI, congrArg (Value.int .i64) (wr_div (by omega) (by omega) (by omega)), (by omega), (by omega), rfl, rfl, rfl, (by rw [mark_size]; omega), wrI, trivial⟩ ?_
         refine e_inv (fun a w' hs => ⟨y11.Pages.toNat - (k + 1), by omega, n13, (k + 1), rfl, by omega, by omega, by (try dsimp only [qth4_0, qth4_1, qth4_2, qth4_3, qth4_4, qth4_5, qth4_6, qth4_7, qth4_8, qth4_9] at hs ⊢); rw [tabsOf_succ, ← List.append_assoc, mark_push]; simpa only [Nat.zero_add] using hs⟩)
       · refine q_cS 13 0 [0] [[oF], [(ov (i6 ((i + 1 : Nat) : Int))), o0]] [BF (((k : Int) : Int) < y11.Pages), Wr (((i : Int) : Int) + 1) (((i + 1 : Nat) : Int))] [(qth4_8 z), (qth4_4 b4 o5 x), (qth4_6 x), (13, i6 ((i + 1 : Nat) : Int))] rfl ⟨bf (by omega), wrI, trivial⟩ ?_
         refine e_pick [0, 1, 2] [(old0 w), (qth4_0 z x), (bk (z + 1) (markA (tabsUp x i ++ tabsOf y11 k)) 114)] rfl rfl ?_
         refine e_eqk [3, 11, 12, 13] [(qth4_8 z), (qth4_5 x), (qth4_6 x), (13, i6 ((i + 1 : Nat) : Int))] (by (try dsimp only [qth4_0, qth4_1, qth4_2, qth4_3, qth4_4, qth4_5, qth4_6, qth4_7, qth4_8, qth4_9]); simp only [ha6]; rfl) ?_
         refine e_inv (fun a w' hs => ⟨x.Regions.xs.length - (i + 1), by omega, n13, (i + 1), rfl, by omega, by omega, by (try dsimp only [qth4_0, qth4_1, qth4_2, qth4_3, qth4_4, qth4_5, qth4_6, qth4_7, qth4_8, qth4_9] at hs ⊢); rw [tabsUp_succ, ← hy11, show y11.Pages.toNat = k by omega]; exact hs⟩)
   · refine q_cS 20 0 [0] [[oF], [o0], [⟨.row 2 (markA (tabsUp x i)), none⟩, o0]] [BF (((i : Int) : Int) < ((x.Regions.xs.length : Nat) : Int)), RowOf (bk (z + 1) (markA (tabsUp x i)) 114) (z + 1) 0 (markA (tabsUp x i))] [(7, i6 0), (30, .agg (markA (tabsUp x i))), (31, i6 0)] rfl ⟨bf (by omega), blk_row, trivial⟩ ?_
     have e0 : i = x.Regions.xs.length := by omega
     subst e0
     refine g_loop (fun m a w' => ∃ (n16 : Nat) (j : Nat), m = 16 - j ∧ n2 ≤ n16 ∧ (j ≤ 16) ∧ St 39 [(qth4_3 j x), (qth4_7 x), (31, i6 (j : Int))] [] ⟨w, n16, (qth4_9 w z x)⟩ a w') (16 - 0) ?_ ?_
     · intro a w' hs; exact ⟨n2, 0, rfl, Nat.le_refl _, Nat.zero_le _, hs⟩
     · rintro m a w' ⟨n16, j, rfl, hn15, hkj, hs⟩
       refine (?_ : G Tryd.prog 39 [(qth4_3 j x), (qth4_7 x), (31, i6 (j : Int))] [] ⟨w, n16, (qth4_9 w z x)⟩ _ _ _) a w' hs
       clear hs a w'
       have hcl : (List.range j).countP (fun t => (tabsUp x x.Regions.xs.length).contains t) ≤ j := Nat.le_trans List.countP_le_length (by simp)
       refine g_seq ?_
       by_cases h17 : ((j : Int) : Int) < 16
       · refine q_cS 17 0 [1] [[oT], [⟨.aidx j (.bool ((tabsUp x x.Regions.xs.length).contains j)), none⟩, o0], [o0]] [BT (((j : Int) : Int) < 16), ((j : Int) : Int) = ((j : Nat) : Int), j < 16, ((markA (tabsUp x x.Regions.xs.length)) : Array Value)[offs 1 j]? = some (.bool ((tabsUp x x.Regions.xs.length).contains j))] [(qth4_3 j x), (qth4_7 x), (31, i6 (j : Int)), (34, .bool ((tabsUp x x.Regions.xs.length).contains j))] rfl ⟨bt (by omega), rfl, (by omega), (mark_at (t := j) _ (by omega)), trivial⟩ ?_
         by_cases h18 : ((tabsUp x x.Regions.xs.length).contains j) = true
         · refine q_cS 7 0 [3] [[o0, (ov (i6 ((((List.range j).countP (fun t => (tabsUp x x.Regions.xs.length).contains t)) + 1 : Nat) : Int))), o0], [(ov (i6 ((j + 1 : Nat) : Int))), o0]] [Value.bool ((tabsUp x x.Regions.xs.length).contains j) = Value.bool true, Wr (((((List.range j).countP (fun t => (tabsUp x x.Regions.xs.length).contains t) : Nat) : Int) : Int) + 1) (((((List.range j).countP (fun t => (tabsUp x x.Regions.xs.length).contains t)) + 1 : Nat) : Int)), Wr (((j : Int) : Int) + 1) (((j + 1 : Nat) : Int))] [(qth4_2 j x), (qth4_7 x), (31, i6 ((j + 1 : Nat) : Int))] rfl ⟨(congrArg Value.bool h18), wrI, wrI, trivial⟩ ?_
           have hT := cntr_succ (p := fun t => (tabsUp x x.Regions.xs.length).contains t) (j := j)
           simp only [h18, if_true, if_false, Nat.add_zero] at hT
           refine e_keep [7, 30, 31] [(qth4_2 j x), (qth4_7 x), (31, i6 ((j + 1 : Nat) : Int))] ?_
           refine e_inv (fun a w' hs => ⟨16 - (j + 1), by omega, n16, (j + 1), rfl, by omega, by omega, by (try dsimp only [qth4_0, qth4_1, qth4_2, qth4_3, qth4_4, qth4_5, qth4_6, qth4_7, qth4_8, qth4_9] at hs ⊢); rw [hT]; exact hs⟩)
         · refine q_cS 6 0 [2] [[(ov (i6 ((j + 1 : Nat) : Int))), o0]] [Value.bool ((tabsUp x x.Regions.xs.length).contains j) = Value.bool false, Wr (((j : Int) : Int) + 1) (((j + 1 : Nat) : Int))] [(qth4_3 j x), (qth4_7 x), (31, i6 ((j + 1 : Nat) : Int))] rfl ⟨(congrArg Value.bool (Bool.eq_false_iff.2 h18)), wrI, trivial⟩ ?_
           have hT := cntr_succ (p := fun t => (tabsUp x x.Regions.xs.length).contains t) (j := j)
           simp only [(Bool.eq_false_iff.2 h18), Bool.false_eq_true, if_true, if_false, Nat.add_zero] at hT
           refine e_keep [7, 30, 31] [(qth4_3 j x), (qth4_7 x), (31, i6 ((j + 1 : Nat) : Int))] ?_
           refine e_inv (fun a w' hs => ⟨16 - (j + 1), by omega, n16, (j + 1), rfl, by omega, by omega, by (try dsimp only [qth4_0, qth4_1, qth4_2, qth4_3, qth4_4, qth4_5, qth4_6, qth4_7, qth4_8, qth4_9] at hs ⊢); rw [hT]; exact hs⟩)
       · refine q_cS 15 0 [0] [[oF], [o0, o0]] [BF (((j : Int) : Int) < 16)] [(2, i6 (((List.range j).countP (fun t => (tabsUp x x.Regions.xs.length).contains t) : Nat) : Int))] rfl ⟨bf (by omega), trivial⟩ ?_
         refine e_ret [] [] (i6 (((List.range j).countP (fun t => (tabsUp x x.Regions.xs.length).contains t) : Nat) : Int)) trivial ?_
         intro w19 hw19
         refine ⟨congrArg (fun n => Ending.returned (i6 n)) (?_ : ((((List.range j).countP (fun t => (tabsUp x x.Regions.xs.length).contains t) : Nat) : Int) : Int) = (tabsN x : Int)), back0 hw19⟩
         rw [show j = 16 by omega]; rfl
end Go.Proofs.YtnjhekfgmbpmlaaDoor.Ly
namespace Go.Proofs.YtnjhekfgmbpmlaaDoor.Ly
open Go Go.RowKit Go.Proofs.YtnjhekfgmbpmlaaDoor.Eng Go.Proofs.YtnjhekfgmbpmlaaDoor.Mem
set_option linter.unusedSimpArgs false
set_option linter.unusedVariables false
set_option maxRecDepth 100000
def pAt (c : TConfig) (i : Nat) : Int := c.Kernel * 16 + 2 + 24 * (i : Int)
def placeAt (c : TConfig) (i : Nat) : TPartitionPlace := ⟨pAt c i, pAt c i + 2, pAt c i + 2 + 17, 0, ⟨none, 0, []⟩⟩
def placesUp (c : TConfig) (i : Nat) : List TPartitionPlace := (List.range i).map (placeAt c)
theorem placesUp_succ {c : TConfig} {i : Nat} : placesUp c (i + 1) = placesUp c i ++ [placeAt c i] := by unfold placesUp; rw [List.range_succ, List.map_append]; rfl
theorem placesUp_len {c : TConfig} {i : Nat} : (placesUp c i).length = i := by simp [placesUp]
theorem gd_map {β : Type} [Inhabited β] {f : Nat → β} {n i : Nat} (h : i < n) : gd ((List.range n).map f) i = f i := by
  rw [gd_eq (by simpa using h)]; simp
def nDest (c : TConfig) (k : Nat) : Nat := (endsOf c (k : Int) false).length
def cLen (c : TConfig) (k : Nat) : Int := 2 + stageOf (gd c.Channels.xs k) + (nDest c k : Int) * portOf (gd c.Channels.xs k)
def cAt (c : TConfig) : Nat → Int
  | 0 => pAt c c.Partitions.xs.length
  | k + 1 => cAt c k + cLen c k
def dAt (c : TConfig) (k j : Nat) : Int := cAt c k + 2 + stageOf (gd c.Channels.xs k) + (j : Int) * portOf (gd c.Channels.xs k)
def destAt (c : TConfig) (k d : Nat) : TDestPlace := ⟨(gd (endsOf c (k : Int) false) d).partition, (gd (endsOf c (k : Int) false) d).port, dAt c k d⟩
def destsUp (c : TConfig) (k j : Nat) : List TDestPlace := (List.range j).map (destAt c k)
theorem destsUp_succ {c : TConfig} {k j : Nat} : destsUp c k (j + 1) = destsUp c k j ++ [destAt c k j] := by unfold destsUp; rw [List.range_succ, List.map_append]; rfl
theorem destsUp_len {c : TConfig} {k j : Nat} : (destsUp c k j).length = j := by simp [destsUp]
theorem dAt_succ {c : TConfig} {k j : Nat} : dAt c k (j + 1) = dAt c k j + portOf (gd c.Channels.xs k) := by
  unfold dAt; rw [show ((j + 1 : Nat) : Int) = (j : Int) + 1 from by omega, Int.add_mul]; omega
theorem cAt_succ {c : TConfig} {k : Nat} : cAt c (k + 1) = dAt c k (nDest c k) := by unfold dAt; rw [cAt, cLen]; omega
def chanAt (c : TConfig) (k : Nat) (s : Sl TDestPlace) : TChannelPlace := ⟨cAt c k, cAt c k + 2, (gd (endsOf c (k : Int) true) 0).partition, (gd (endsOf c (k : Int) true) 0).port, s⟩
def frame0 (c : TConfig) : Int := (cAt c c.Channels.xs.length + 16 - 1) / 16
def tAt (c : TConfig) : Nat → Int
  | 0 => frame0 c
  | i + 1 => tAt c i + 1 + (tabsN (gd c.Partitions.xs i) : Int)
def tabsAt (c : TConfig) (i n : Nat) : List Int := (List.range n).map (fun (k : Nat) => tAt c i + 1 + (k : Int))
theorem tabsAt_succ {c : TConfig} {i n : Nat} : tabsAt c i (n + 1) = tabsAt c i n ++ [tAt c i + 1 + (n : Int)] := by unfold tabsAt; rw [List.range_succ, List.map_append]; rfl
theorem tabsAt_len {c : TConfig} {i n : Nat} : (tabsAt c i n).length = n := by simp [tabsAt]
def placeDone (c : TConfig) (i : Nat) (s : Sl Int) : TPartitionPlace := ⟨pAt c i, pAt c i + 2, pAt c i + 2 + 17, tAt c i, s⟩
structure Fine (c : TConfig) : Prop where
  kn : 0 ≤ c.Kernel ∧ c.Kernel < 1024
  pn : c.Partitions.xs.length ≤ 8
  cn : c.Channels.xs.length ≤ 16
  parts : ∀ i, i < c.Partitions.xs.length → partOk c.Channels.xs.length (gd c.Partitions.xs i) = true
  chans : ∀ i, i < c.Channels.xs.length → chanOk c i = true
theorem fine_of {c : TConfig} (h : confOk c = true) : Fine c := by
  unfold confOk at h
  simp only [Bool.and_eq_true, decide_eq_true_eq, List.all_eq_true, List.mem_range] at h
  exact ⟨h.1.1.1.1, h.1.1.1.2, h.1.1.2, fun i hi => h.1.2 _ (by rw [gd_eq hi]; exact List.getElem_mem hi), h.2⟩
theorem Fine.dests {c : TConfig} (h : Fine c) {k : Nat} (hk : k < c.Channels.xs.length) : (endsOf c (k : Int) true).length = 1 ∧ 1 ≤ nDest c k ∧ nDest c k ≤ 4 := by
  have := h.chans k hk
  unfold chanOk at this
  simp only [Bool.and_eq_true, decide_eq_true_eq] at this
  have e1 := endsOf_cnt c k true
  have e2 := endsOf_cnt c k false
  unfold nDest
  omega
theorem cLen_bd {c : TConfig} (h : Fine c) {k : Nat} (hk : k < c.Channels.xs.length) : 2 ≤ cLen c k ∧ cLen c k ≤ 695 := by
  have h1 := stage_bd (gd c.Channels.xs k)
  have h2 := port_bd (gd c.Channels.xs k)
  have h3 := h.dests hk
  unfold cLen
  have h4 := Int.mul_nonneg (show (0 : Int) ≤ (nDest c k : Int) by omega) h2.1
  have h5 := Int.mul_le_mul (show (nDest c k : Int) ≤ 4 by omega) h2.2 h2.1 (by omega)
  omega
theorem cAt_bd {c : TConfig} (h : Fine c) : ∀ (k : Nat), k ≤ c.Channels.xs.length → pAt c c.Partitions.xs.length ≤ cAt c k ∧ cAt c k ≤ pAt c c.Partitions.xs.length + 695 * k
  | 0, _ => by simp [cAt]
  | k + 1, hk => by
    have h1 := cAt_bd h k (by omega)
    have h2 := cLen_bd h (show k < c.Channels.xs.length by omega)
    rw [cAt]; omega
theorem dAt_bd {c : TConfig} (h : Fine c) {k j : Nat} (hk : k < c.Channels.xs.length) (hj : j ≤ 4) : cAt c k ≤ dAt c k j ∧ dAt c k j ≤ cAt c k + 695 := by
  have h1 := stage_bd (gd c.Channels.xs k)
  have h2 := port_bd (gd c.Channels.xs k)
  unfold dAt
  have h4 := Int.mul_nonneg (show (0 : Int) ≤ (j : Int) by omega) h2.1
  have h5 := Int.mul_le_mul (show (j : Int) ≤ 4 by omega) h2.2 h2.1 (by omega)
  omega
theorem frame0_bd {c : TConfig} (h : Fine c) : 0 ≤ frame0 c ∧ frame0 c ≤ 2000 := by
  have h1 := cAt_bd h _ (Nat.le_refl _)
  have h2 := h.kn; have h3 := h.pn; have h4 := h.cn
  unfold frame0
  unfold pAt at h1
  omega
theorem tAt_bd {c : TConfig} (h : Fine c) : ∀ (i : Nat), i ≤ c.Partitions.xs.length → 0 ≤ tAt c i ∧ tAt c i ≤ 2000 + 17 * i
  | 0, _ => by have := frame0_bd h; simp only [tAt]; omega
  | i + 1, hi => by
    have h1 := tAt_bd h i (by omega)
    have h2 := tabsN_le (gd c.Partitions.xs i)
    rw [tAt]; omega
theorem gd_push {α : Type} [Inhabited α] {xs : List α} {y : α} : gd (xs ++ [y]) xs.length = y := by rw [gd_eq (by simp)]; simp
theorem gd_old {α : Type} [Inhabited α] {xs : List α} {y : α} {q : Nat} (h : q < xs.length) : gd (xs ++ [y]) q = gd xs q := by
  rw [gd_eq h, gd_eq (by simp; omega), List.getElem_append_left h]
theorem gd_set {α : Type} [Inhabited α] {xs : List α} {y : α} {q : Nat} (h : q < xs.length) : gd (xs.set q y) q = y := by rw [gd_eq (by simpa using h)]; simp
theorem gd_set_ne {α : Type} [Inhabited α] {xs : List α} {y : α} {q p : Nat} (h : q ≠ p) (hp : p < xs.length) : gd (xs.set q y) p = gd xs p := by rw [gd_eq (by simpa using hp), gd_eq hp, List.getElem_set_ne h]
theorem take_set_succ {α : Type} {xs : List α} {y : α} {i : Nat} (h : i < xs.length) : (xs.set i y).take (i + 1) = xs.take i ++ [y] := by
  rw [List.take_succ_eq_append_getElem (by simpa using h), List.getElem_set_self]
  rw [List.take_set_of_le (Nat.le_refl i)]
theorem chans_push {c : TConfig} {cs : List TChannelPlace} {k : Nat} (hl : cs.length = k) (h : ∀ q, q < k → ∃ a cp, gd cs q = chanAt c q ⟨a, cp, destsUp c q (nDest c q)⟩) {y : TChannelPlace} {a : Option Addr} {cp : Nat} (hy : y = chanAt c k ⟨a, cp, destsUp c k (nDest c k)⟩) :
    ∀ q, q < k + 1 → ∃ a cp, gd (cs ++ [y]) q = chanAt c q ⟨a, cp, destsUp c q (nDest c q)⟩ := by
  intro q hq
  by_cases e : q = k
  · subst e; subst hl; exact ⟨a, cp, by rw [gd_push]; exact hy⟩
  · rw [gd_old (by omega)]; exact h q (by omega)
structure IsLay (c : TConfig) (L : TLayout) : Prop where
  bar : L.Barrier = c.Kernel * 16
  fin : L.End = tAt c c.Partitions.xs.length
  pl : L.Partitions.xs.length = c.Partitions.xs.length
  ps : ∀ p, p < c.Partitions.xs.length → ∃ a cp, gd L.Partitions.xs p = placeDone c p ⟨a, cp, tabsAt c p (tabsN (gd c.Partitions.xs p))⟩
  cl : L.Channels.xs.length = c.Channels.xs.length
  cs : ∀ k, k < c.Channels.xs.length → ∃ a cp, gd L.Channels.xs k = chanAt c k ⟨a, cp, destsUp c k (nDest c k)⟩
end Go.Proofs.YtnjhekfgmbpmlaaDoor.Ly
namespace Go.Proofs.YtnjhekfgmbpmlaaDoor.Ly
open Go Go.Proofs.YtnjhekfgmbpmlaaDoor.Eng Go.Proofs.YtnjhekfgmbpmlaaDoor.Mem
set_option linter.unusedSimpArgs false
set_option linter.unusedVariables false
set_option maxRecDepth 100000
theorem tAt_succ {c : TConfig} {i : Nat} : tAt c (i + 1) = tAt c i + 1 + (tabsN (gd c.Partitions.xs i) : Int) := rfl
theorem tAt_zero {c : TConfig} : tAt c 0 = (cAt c c.Channels.xs.length + 16 - 1) / 16 := rfl
theorem regs_ok {n : Nat} {x : TPartition} (h : partOk n x = true) : ∀ i, i < x.Regions.xs.length → regOk (gd x.Regions.xs i) = true := fun i hi => by
  rw [gd_eq hi]; exact List.all_eq_true.1 (part_regs h).2 _ (List.getElem_mem hi)
theorem can_yes (w : World) (c : TConfig) (hc : TConfig.ok Any w c) (h : confOk c = true) : Calls Tryd.prog 56 #[.agg (TConfig.arr c)] w fun e w' => e = .returned (.bool true) ∧ Keeps (fun _ => False) w w' := by
  have := can_calls w c hc
  rwa [h] at this
theorem can_no (w : World) (c : TConfig) (hc : TConfig.ok Any w c) (h : confOk c = false) : Calls Tryd.prog 56 #[.agg (TConfig.arr c)] w fun e w' => e = .returned (.bool false) ∧ Keeps (fun _ => False) w w' := by
  have := can_calls w c hc
  rwa [h] at this
/-- The lists of an answer: rows that lie apart. -/
def layS (n : Nat) (L : TLayout) : List Ch := [rowL n 95 5 TPartitionPlace.cells L.Partitions.val L.Partitions.xs, rowL n 104 5 TChannelPlace.cells L.Channels.val L.Channels.xs, famC n 106 3 TDestPlace.cells (L.Channels.xs.map TChannelPlace.Dests), famC n 3 1 (fun x : Int => [Value.int .i64 x]) (L.Partitions.xs.map TPartitionPlace.Tables)]
def LayOwn (n : Nat) (W : World) (L : TLayout) : Prop := ∃ w0, Sat ⟨w0, W.heap.size, layS n L⟩ W
theorem ends_bd {c : TConfig} {k : Int} {b : Bool} (hp : ∀ i, i < c.Partitions.xs.length → (gd c.Partitions.xs i).Ports.xs.length ≤ 8) (h8 : c.Partitions.xs.length ≤ 8) : ∀ y ∈ endsOf c k b, 0 ≤ y.partition ∧ y.partition < 8 ∧ 0 ≤ y.port ∧ y.port < 8 := by
  intro y hy
  unfold endsOf endsUp at hy
  simp only [List.mem_flatMap, List.mem_range] at hy
  obtain ⟨p, hpl, hy⟩ := hy
  unfold partEnds at hy
  simp only [List.mem_map, List.mem_filter, List.mem_range] at hy
  obtain ⟨q, ⟨hq, -⟩, rfl⟩ := hy
  have := hp p hpl
  simp only
  omega
theorem ink {x : Int} (h : 0 ≤ x) (h2 : x ≤ 1000000) : InK .i64 x := ⟨by omega, by omega⟩
theorem ends_ink {F : Nat → Prop} {W : World} {c : TConfig} {k : Int} {b : Bool} (hf : Fine c) : ∀ i, i < (endsOf c k b).length → Tend.ok F W (gd (endsOf c k b) i) := fun i hi => by
  have := ends_bd (k := k) (b := b) (fun i hi => part_ports (hf.parts i hi)) hf.pn (gd (endsOf c k b) i) (by rw [gd_eq hi]; exact List.getElem_mem _)
  exact ⟨ink (by omega) (by omega), ink (by omega) (by omega)⟩
theorem fam_sl {α : Type} {base : Nat} {e : TypeId} {sz : Nat} {cells : α → List Value} {hs : List (Sl α)} {W : World} (hsz : ∀ x, (cells x).length = sz) (h : (famC base e sz cells hs).holds W) {s : Sl α} (hs' : s ∈ hs) (hl : s.xs.length ≤ 140737488351232) : SlAt cells sz (New base) W s := row_sl hsz (h.1 s hs') hl
theorem lay_ok {c : TConfig} {n : Nat} {W : World} {L : TLayout} (hf : Fine c) (hL : IsLay c L) (ho : LayOwn n W L) : TLayout.ok (New n) W L := by
  obtain ⟨w0, hs⟩ := ho
  have h0 : W.ownsRow n 95 5 L.Partitions.val L.Partitions.xs.length (L.Partitions.xs.flatMap TPartitionPlace.cells) := hs.at (i := 0) rfl
  have h1 : W.ownsRow n 104 5 L.Channels.val L.Channels.xs.length (L.Channels.xs.flatMap TChannelPlace.cells) := hs.at (i := 1) rfl
  have h2 : (famC n 106 3 TDestPlace.cells (L.Channels.xs.map TChannelPlace.Dests)).holds W := hs.at (i := 2) rfl
  have h3 : (famC n 3 1 (fun x : Int => [Value.int .i64 x]) (L.Partitions.xs.map TPartitionPlace.Tables)).holds W := hs.at (i := 3) rfl
  have hkn := hf.kn; have hpn := hf.pn; have hcn := hf.cn
  refine ⟨ink (by rw [hL.bar]; omega) (by rw [hL.bar]; omega), ⟨row_sl (fun _ => rfl) h0 (by rw [hL.pl]; omega), ?_⟩, ⟨row_sl (fun _ => rfl) h1 (by rw [hL.cl]; omega), ?_⟩, ?_⟩
  · intro i hi
    have hi' : i < c.Partitions.xs.length := by rw [← hL.pl]; exact hi
    obtain ⟨a, cp, e⟩ := hL.ps i hi'
    have ht := tAt_bd hf i (by omega)
    have hn := tabsN_le (gd c.Partitions.xs i)
    have hm : (gd L.Partitions.xs i).Tables ∈ L.Partitions.xs.map TPartitionPlace.Tables := List.mem_map_of_mem (by rw [gd_eq hi]; exact List.getElem_mem hi)
    have hsl := fam_sl (by intro _; rfl) h3 hm (by rw [e]; simp only [placeDone, tabsAt_len]; omega)
    rw [e] at hsl ⊢
    refine ⟨ink (by simp only [placeDone, pAt]; omega) (by simp only [placeDone, pAt]; omega), ink (by simp only [placeDone, pAt]; omega) (by simp only [placeDone, pAt]; omega), ink (by simp only [placeDone, pAt]; omega) (by simp only [placeDone, pAt]; omega), ink (by simp only [placeDone]; omega) (by simp only [placeDone]; omega), hsl, ?_⟩
    intro q hq
    have hq' : q < tabsN (gd c.Partitions.xs i) := by simpa only [placeDone, tabsAt_len] using hq
    show InK .i64 (gd _ _)
    have : gd (placeDone c i ⟨a, cp, tabsAt c i (tabsN (gd c.Partitions.xs i))⟩).Tables.xs q = tAt c i + 1 + (q : Int) := gd_map hq'
    rw [this]
    exact ink (by omega) (by omega)
  · intro k hk
    have hk' : k < c.Channels.xs.length := by rw [← hL.cl]; exact hk
    obtain ⟨a, cp, e⟩ := hL.cs k hk'
    have hb := cAt_bd hf k (by omega)
    have hd := hf.dests hk'
    have hp0 : pAt c c.Partitions.xs.length = c.Kernel * 16 + 2 + 24 * (c.Partitions.xs.length : Int) := rfl
    have hpp : ∀ i, i < c.Partitions.xs.length → (gd c.Partitions.xs i).Ports.xs.length ≤ 8 := fun i hi => part_ports (hf.parts i hi)
    have hm : (gd L.Channels.xs k).Dests ∈ L.Channels.xs.map TChannelPlace.Dests := List.mem_map_of_mem (by rw [gd_eq hk]; exact List.getElem_mem hk)
    have hsl := fam_sl (by intro _; rfl) h2 hm (by rw [e]; simp only [chanAt, destsUp_len]; omega)
    have h1p : 0 < (endsOf c (k : Int) true).length := by omega
    have hsrc := ends_bd (k := (k : Int)) (b := true) hpp hpn (gd (endsOf c (k : Int) true) 0) (by rw [gd_eq h1p]; exact List.getElem_mem _)
    rw [e] at hsl ⊢
    refine ⟨ink (by simp only [chanAt]; omega) (by simp only [chanAt]; omega), ink (by simp only [chanAt]; omega) (by simp only [chanAt]; omega), ink (by simp only [chanAt]; omega) (by simp only [chanAt]; omega), ink (by simp only [chanAt]; omega) (by simp only [chanAt]; omega), hsl, ?_⟩
    intro q hq
    have hq' : q < nDest c k := by simpa only [chanAt, destsUp_len] using hq
    have e2 : gd (chanAt c k ⟨a, cp, destsUp c k (nDest c k)⟩).Dests.xs q = destAt c k q := gd_map hq'
    have hdst := ends_bd (k := (k : Int)) (b := false) hpp hpn (gd (endsOf c (k : Int) false) q) (by rw [gd_eq hq']; exact List.getElem_mem _)
    have hdb := dAt_bd hf hk' (show q ≤ 4 by omega)
    rw [e2]
    exact ⟨ink (by simp only [destAt]; omega) (by simp only [destAt]; omega), ink (by simp only [destAt]; omega) (by simp only [destAt]; omega), ink (by simp only [destAt]; omega) (by simp only [destAt]; omega)⟩
  · have := tAt_bd hf _ (Nat.le_refl _)
    exact ink (by rw [hL.fin]; omega) (by rw [hL.fin]; omega)
theorem of_no (w : World) (c : TConfig) (hc : TConfig.ok Any w c) (hok : confOk c = false) : Calls Tryd.prog 31 #[.agg (TConfig.arr c)] w fun e w' => e = .returned (.tuple #[.agg #[.int .i64 0, .slice none 0 0, .slice none 0 0, .int .i64 0], .int .i64 150]) ∧ Keeps (fun _ => False) w w' := by
 obtain ⟨z, hz⟩ : ∃ z, z = w.heap.size := ⟨_, rfl⟩
 refine calls_G (args := [.agg (TConfig.arr c)]) 148 ⟨w, z, [(old0 w)]⟩ Tryd.func31 rfl (by kernel_rfl) (by kernel_rfl) (sat_0 hz) ?_
 refine g_keep [0] [(0, .agg (TConfig.arr c))] ?_
 refine q_c 7 1 [] [[o0, o0, o0], [(an 7 1)]] [Qb z, Qb z, Qb z, Qb z, Qb z, Qb z, Qb z] [(1, pt z), (2, pt (z + 1)), (16, .agg (TConfig.arr c))] ⟨w, z + 2, [(old0 w), (bk z (TConfig.arr c) 26), (bk (z + 1) #[i6 0, .slice none 0 0, .slice none 0 0, i6 0] 79)]⟩ rfl ⟨rfl, rfl, rfl, rfl, rfl, rfl, rfl, trivial⟩ ?_
 refine l_call [] [] 56 #[.agg (TConfig.arr c)] (some 17) trivial ?_
 intro w1 hw1
 refine (can_no w1 c (hc.ext (hw1.ext rfl) (fun _ h => h)) hok).mono ?_
 rintro e w2 ⟨rfl, hkw2⟩
 have hnw2 : z + 2 ≤ w2.heap.size := size_of hw1 hkw2
 refine ⟨_, _, rfl, hw1.keeps hkw2, ?_⟩
 refine q_rS 8 0 [1] [[o0], [o0, (an 4 2), o0]] [Qb (z + 1), Qb (z + 1), Qb (z + 1), Qb (z + 1)] [(2, pt (z + 1)), (3, i6 150)] rfl ⟨rfl, rfl, rfl, rfl, trivial⟩ ?_
 refine e_ret [.at 2, .at 2, .at 2, .at 2] [Qb (z + 1), Qb (z + 1), Qb (z + 1), Qb (z + 1)] (.tuple #[.agg #[i6 0, .slice none 0 0, .slice none 0 0, i6 0], i6 150]) ⟨rfl, rfl, rfl, rfl, trivial⟩ ?_
 intro w3 hw3
 exact ⟨rfl, back0 hw3⟩
abbrev qzm6_0 (w2 : World) (c : TConfig) (aP : Option Addr) (i : Nat) (cP : Nat) (ax99 : Option Addr) (csG : List TChannelPlace) (k : Nat) (y47 : Tend) (aD : Option Addr) (cD : Nat) (j : Nat) (cp100 : Nat) : Ch := bk (w2.heap.size + 1) #[i6 (c.Kernel * 16), .slice aP ((placesUp c i).length) cP, .slice ax99 ((csG ++ [(⟨cAt c k, (cAt c k) + 2, y47.partition, y47.port, (⟨aD, cD, destsUp c k j⟩ : Sl TDestPlace)⟩ : TChannelPlace)]).length) cp100, i6 0] 79
abbrev qzm6_1 (w2 : World) (c : TConfig) (ax19 : Option Addr) (i : Nat) (cp20 : Nat) : Ch := .blk (w2.heap.size + 1) (.cells #[i6 (c.Kernel * 16), .slice ax19 ((placesUp c i ++ [(⟨pAt c i, (pAt c i) + 2, ((pAt c i) + 2) + 17, 0, (⟨none, 0, []⟩ : Sl Int)⟩ : TPartitionPlace)]).length) cp20, .slice none 0 0, i6 0] 79 (0, 0)) true
abbrev qzm6_2 (b49 : Nat) (c : TConfig) (k : Nat) (y47 : Tend) (ax95 : Option Addr) (j : Nat) (y88 : Tend) (cp96 : Nat) : Ch := bk b49 #[i6 (cAt c k), i6 ((cAt c k) + 2), i6 y47.partition, i6 y47.port, .slice ax95 ((destsUp c k j ++ [(⟨y88.partition, y88.port, dAt c k j⟩ : TDestPlace)]).length) cp96] 104
abbrev qzm6_3 (b49 : Nat) (c : TConfig) (k : Nat) (y47 : Tend) (aD : Option Addr) (j : Nat) (cD : Nat) : Ch := bk b49 #[i6 (cAt c k), i6 ((cAt c k) + 2), i6 y47.partition, i6 y47.port, .slice aD ((destsUp c k j).length) cD] 104
abbrev qzm6_4 (n79 : Nat) (c : TConfig) (k : Nat) (y47 : Tend) (aD : Option Addr) (j : Nat) (cD : Nat) : Ch := bk n79 #[i6 (cAt c k), i6 ((cAt c k) + 2), i6 y47.partition, i6 y47.port, .slice aD ((destsUp c k j).length) cD] 104
abbrev qzm6_5 (w2 : World) (c : TConfig) (b118 : Nat) (psG : List TPartitionPlace) (cP2 : Nat) (aC : Option Addr) (csG : List TChannelPlace) (cC : Nat) : Ch := bk (w2.heap.size + 1) #[i6 (c.Kernel * 16), .slice (some ⟨b118, 0, none⟩) psG.length cP2, .slice aC csG.length cC, i6 0] 79
abbrev qzm6_6 (w54 : World) (c : TConfig) (k : Nat) (y47 : Tend) : Ch := .blk w54.heap.size (.cells #[i6 (cAt c k), i6 ((cAt c k) + 2), i6 y47.partition, i6 y47.port, .slice none 0 0] 104 (0, 0)) true
abbrev qzm6_7 (w35 : World) (c : TConfig) (k : Nat) (y47 : Tend) : Ch := .blk w35.heap.size (.cells #[i6 (cAt c k), i6 ((cAt c k) + 2), i6 y47.partition, i6 y47.port, .slice none 0 0] 104 (0, 0)) true
abbrev qzm6_8 (w2 : World) (c : TConfig) (aP : Option Addr) (i : Nat) (cP : Nat) (aC : Option Addr) (csG : List TChannelPlace) (cC : Nat) : Ch := bk (w2.heap.size + 1) #[i6 (c.Kernel * 16), .slice aP ((placesUp c i).length) cP, .slice aC csG.length cC, i6 0] 79
abbrev qzm6_9 (n8 : Nat) (c : TConfig) (i : Nat) : Ch := bk n8 #[i6 (pAt c i), i6 ((pAt c i) + 2), i6 (((pAt c i) + 2) + 17), i6 0, .slice none 0 0] 95
abbrev qzm6_10 (w2 : World) (c : TConfig) (aP : Option Addr) (i : Nat) (cP : Nat) : Ch := bk (w2.heap.size + 1) #[i6 (c.Kernel * 16), .slice aP ((placesUp c i).length) cP, .slice none 0 0, i6 0] 79
abbrev qzm6_11 (w2 : World) (c : TConfig) (aP2 : Option Addr) (psG : List TPartitionPlace) (cP2 : Nat) (aC : Option Addr) (csG : List TChannelPlace) (cC : Nat) : Ch := bk (w2.heap.size + 1) #[i6 (c.Kernel * 16), .slice aP2 psG.length cP2, .slice aC csG.length cC, i6 0] 79
abbrev qzm6_12 (w54 : World) : Ch := .blk w54.heap.size (.cells #[i6 0, i6 0, i6 0, i6 0, .slice none 0 0] 104 (0, 0)) true
abbrev qzm6_13 (w35 : World) : Ch := .blk w35.heap.size (.cells #[i6 0, i6 0, i6 0, i6 0, .slice none 0 0] 104 (0, 0)) true
abbrev qzm6_14 (w90 : World) (y88 : Tend) (c : TConfig) (k : Nat) (j : Nat) : Ch := .blk w90.heap.size (.cells #[i6 y88.partition, i6 y88.port, i6 (dAt c k j)] 106 (0, 0)) true
abbrev qzm6_15 (z : Nat) : Ch := bk (z + 1) #[i6 0, .slice none 0 0, .slice none 0 0, i6 0] 79
abbrev qzm6_16 (w2 : World) (c : TConfig) (k : Nat) (y33 : TChannel) : Ch := .blk w2.heap.size (.cells #[i6 (((cAt c k) + 2) + (stageOf y33))] 3 (0, 0)) true
abbrev qzm6_17 (w2 : World) (c : TConfig) (i : Nat) : Ch := .blk w2.heap.size (.cells #[i6 ((((pAt c i) + 2) + 17) + 5)] 3 (0, 0)) true
abbrev qzm6_18 (w2 : World) (c : TConfig) (k : Nat) (j : Nat) (y33 : TChannel) : Ch := .blk w2.heap.size (.cells #[i6 ((dAt c k j) + (portOf y33))] 3 (0, 0)) true
abbrev qzm6_19 (n24 : Nat) (c : TConfig) (p : Nat) (t : Nat) : Ch := bk n24 #[i6 ((tAt c p + 1 + (t : Int)) + 1)] 3
abbrev qzm6_20 (n24 : Nat) (c : TConfig) (p : Nat) (t : Nat) : Ch := bk n24 #[i6 (tAt c p + 1 + (t : Int))] 3
abbrev qzm6_21 (w2 : World) (c : TConfig) (k : Nat) : Ch := .blk w2.heap.size (.cells #[i6 ((cAt c k) + 2)] 3 (0, 0)) true
abbrev qzm6_22 (w2 : World) (c : TConfig) (k : Nat) (j : Nat) : Ch := .blk w2.heap.size (.cells #[i6 (dAt c k j)] 3 (0, 0)) true
abbrev qzm6_23 (w2 : World) (c : TConfig) (k : Nat) : Ch := .blk w2.heap.size (.cells #[i6 (cAt c k)] 3 (0, 0)) true
abbrev qzm6_24 (n108 : Nat) (y117 : TPartition) : Ch := bk n108 (TPartition.arr y117) 41
abbrev qzm6_25 (n24 : Nat) (c : TConfig) (p : Nat) : Ch := bk n24 #[i6 (tAt c p)] 3
abbrev qzm6_26 (n24 : Nat) (y33 : TChannel) : Ch := bk n24 (TChannel.arr y33) 55
abbrev qzm6_27 (n79 : Nat) (y88 : Tend) : Ch := bk n79 (Tend.arr y88) 101
abbrev qzm6_28 (z : Nat) (c : TConfig) : Ch := bk z (TConfig.arr c) 26
abbrev qzm6_29 (z : Nat) (b118 : Nat) (psG : List TPartitionPlace) (cP2 : Nat) (p : Nat) (c : TConfig) (aT : Option Addr) (cT : Nat) (t : Nat) (ax132 : Option Addr) (cp133 : Nat) : Ch := rowL z 95 5 TPartitionPlace.cells (.slice (some ⟨b118, 0, none⟩) psG.length cP2) ((psG.set p (⟨pAt c p, pAt c p + 2, pAt c p + 2 + 17, tAt c p, (⟨aT, cT, tabsAt c p t⟩ : Sl Int)⟩ : TPartitionPlace)).set p (⟨pAt c p, pAt c p + 2, pAt c p + 2 + 17, tAt c p, (⟨ax132, cp133, ((tabsAt c p t) ++ [tAt c p + 1 + (t : Int)])⟩ : Sl Int)⟩ : TPartitionPlace))
abbrev qzm6_30 (z : Nat) (ax99 : Option Addr) (csG : List TChannelPlace) (c : TConfig) (k : Nat) (y47 : Tend) (aD : Option Addr) (cD : Nat) (j : Nat) (cp100 : Nat) : Ch := rowL z 104 5 TChannelPlace.cells (.slice ax99 ((csG ++ [(⟨cAt c k, (cAt c k) + 2, y47.partition, y47.port, (⟨aD, cD, destsUp c k j⟩ : Sl TDestPlace)⟩ : TChannelPlace)]).length) cp100) (csG ++ [(⟨cAt c k, (cAt c k) + 2, y47.partition, y47.port, (⟨aD, cD, destsUp c k j⟩ : Sl TDestPlace)⟩ : TChannelPlace)])
abbrev qzm6_31 (z : Nat) (ax19 : Option Addr) (c : TConfig) (i : Nat) (cp20 : Nat) : Ch := rowL z 95 5 TPartitionPlace.cells (.slice ax19 ((placesUp c i ++ [(⟨pAt c i, (pAt c i) + 2, ((pAt c i) + 2) + 17, 0, (⟨none, 0, []⟩ : Sl Int)⟩ : TPartitionPlace)]).length) cp20) (placesUp c i ++ [(⟨pAt c i, (pAt c i) + 2, ((pAt c i) + 2) + 17, 0, (⟨none, 0, []⟩ : Sl Int)⟩ : TPartitionPlace)])
abbrev qzm6_32 (z : Nat) (ax95 : Option Addr) (c : TConfig) (k : Nat) (j : Nat) (y88 : Tend) (cp96 : Nat) : Ch := rowL z 106 3 TDestPlace.cells (.slice ax95 ((destsUp c k j ++ [(⟨y88.partition, y88.port, dAt c k j⟩ : TDestPlace)]).length) cp96) (destsUp c k j ++ [(⟨y88.partition, y88.port, dAt c k j⟩ : TDestPlace)])
abbrev qzm6_33 (z : Nat) (b118 : Nat) (psG : List TPartitionPlace) (cP2 : Nat) (p : Nat) (c : TConfig) (aT : Option Addr) (cT : Nat) (t : Nat) : Ch := rowL z 95 5 TPartitionPlace.cells (.slice (some ⟨b118, 0, none⟩) psG.length cP2) (psG.set p (⟨pAt c p, pAt c p + 2, pAt c p + 2 + 17, tAt c p, (⟨aT, cT, tabsAt c p t⟩ : Sl Int)⟩ : TPartitionPlace))
abbrev qzm6_34 (z : Nat) (aT : Option Addr) (c : TConfig) (p : Nat) (t : Nat) (cT : Nat) : Ch := rowL z 3 1 (fun x : Int => [i6 x]) (.slice aT ((tabsAt c p t).length) cT) (tabsAt c p t)
abbrev qzm6_35 (z : Nat) (psG : List TPartitionPlace) (p : Nat) : Ch := famC z 3 1 (fun x : Int => [i6 x]) ((psG.take p).map TPartitionPlace.Tables)
abbrev qzm6_36 (z : Nat) (aP : Option Addr) (c : TConfig) (i : Nat) (cP : Nat) : Ch := rowL z 95 5 TPartitionPlace.cells (.slice aP ((placesUp c i).length) cP) (placesUp c i)
abbrev qzm6_37 (z : Nat) (aD : Option Addr) (c : TConfig) (k : Nat) (j : Nat) (cD : Nat) : Ch := rowL z 106 3 TDestPlace.cells (.slice aD ((destsUp c k j).length) cD) (destsUp c k j)
abbrev qzm6_38 (z : Nat) (aP2 : Option Addr) (psG : List TPartitionPlace) (cP2 : Nat) : Ch := rowL z 95 5 TPartitionPlace.cells (.slice aP2 psG.length cP2) psG
abbrev qzm6_39 (z : Nat) (aC : Option Addr) (csG : List TChannelPlace) (cC : Nat) : Ch := rowL z 104 5 TChannelPlace.cells (.slice aC csG.length cC) csG
abbrev qzm6_40 (z : Nat) (csG : List TChannelPlace) : Ch := famC z 106 3 TDestPlace.cells (csG.map TChannelPlace.Dests)
abbrev qzm6_41 (ax19 : Option Addr) (c : TConfig) (i : Nat) (cp20 : Nat) : Nat × Value := (42, .slice ax19 ((placesUp c i ++ [(⟨pAt c i, (pAt c i) + 2, ((pAt c i) + 2) + 17, 0, (⟨none, 0, []⟩ : Sl Int)⟩ : TPartitionPlace)]).length) cp20)
abbrev qzm6_42 (c : TConfig) (k : Nat) (y47 : Tend) : Nat × Value := (73, .agg #[i6 (cAt c k), i6 ((cAt c k) + 2), i6 y47.partition, i6 y47.port, .slice none 0 0])
abbrev qzm6_43 (b110 : Nat) (o111 : Nat) (c : TConfig) : Nat × Value := (109, .slice (some ⟨b110, o111, none⟩) c.Partitions.xs.length c.Partitions.cap)
abbrev qzm6_44 (b81 : Nat) (o82 : Nat) (c : TConfig) (k : Nat) (cp39 : Nat) : Nat × Value := (74, .slice (some ⟨b81, o82, none⟩) ((endsOf c (k : Int) false).length) cp39)
abbrev qzm6_45 (b26 : Nat) (o27 : Nat) (c : TConfig) : Nat × Value := (46, .slice (some ⟨b26, o27, none⟩) c.Channels.xs.length c.Channels.cap)
abbrev qzm6_46 (w2 : World) : Nat × Value := (38, .func (.func 75) #[] #[pt w2.heap.size])
abbrev qzm6_47 (w2 : World) : Nat × Value := (61, .func (.func 75) #[] #[pt w2.heap.size])
abbrev qzm6_48 (w2 : World) : Nat × Value := (4, .func (.func 75) #[] #[pt w2.heap.size])
abbrev qzm6_49 (c : TConfig) : Nat × Value := (109, .slice c.Partitions.a c.Partitions.xs.length c.Partitions.cap)
abbrev qzm6_50 (c : TConfig) (k : Nat) : Nat × Value := (75, i6 (((endsOf c (k : Int) false).length : Nat) : Int))
abbrev qzm6_51 (c : TConfig) : Nat × Value := (46, .slice c.Channels.a c.Channels.xs.length c.Channels.cap)
abbrev qzm6_52 (n24 : Nat) : Nat × Value := (13, .func (.func 75) #[] #[pt n24])
abbrev qzm6_53 (ax38 : Option Addr) (c : TConfig) (k : Nat) (cp39 : Nat) : Nat × Value := (74, .slice ax38 ((endsOf c (k : Int) false).length) cp39)
abbrev qzm6_54 (ax38 : Option Addr) (c : TConfig) (k : Nat) (cp39 : Nat) : Nat × Value := (9, .slice ax38 ((endsOf c (k : Int) false).length) cp39)
abbrev qzm6_55 (c : TConfig) : Nat × Value := (110, i6 ((c.Partitions.xs.length : Nat) : Int))
abbrev qzm6_56 (c : TConfig) : Nat × Value := (29, i6 ((c.Partitions.xs.length : Nat) : Int))
abbrev qzm6_57 (c : TConfig) : Nat × Value := (47, i6 ((c.Channels.xs.length : Nat) : Int))
abbrev qzm6_58 (w2 : World) : Nat × Value := (5, pt (w2.heap.size + 1))
abbrev qzm6_59 (w54 : World) : Nat × Value := (10, pt w54.heap.size)
abbrev qzm6_60 (w35 : World) : Nat × Value := (10, pt w35.heap.size)
abbrev qzm6_61 (y117 : TPartition) : Nat × Value := (124, i6 ((tabsN y117 : Nat) : Int))
abbrev qzm6_62 (aP : Option Addr) (c : TConfig) (i : Nat) (cP : Nat) : Nat × Value := (33, .slice aP ((placesUp c i).length) cP)
abbrev qzm6_63 (z : Nat) : Nat × Value := (2, pt (z + 1))
abbrev qzm6_64 (b49 : Nat) : Nat × Value := (10, pt b49)
abbrev qzm6_65 (n24 : Nat) : Nat × Value := (7, pt n24)
abbrev qzm6_66 (w : World) (z : Nat) (c : TConfig) (w2 : World) (k : Nat) (b118 : Nat) (psG : List TPartitionPlace) (cP2 : Nat) (aC : Option Addr) (csG : List TChannelPlace) (cC : Nat) (p : Nat) (aT : Option Addr) (cT : Nat) (t : Nat) (n24 : Nat) (n108 : Nat) (y117 : TPartition) : List Ch := [(old0 w), (qzm6_28 z c), (qzm6_15 z), (qzm6_23 w2 c k), (qzm6_5 w2 c b118 psG cP2 aC csG cC), (qzm6_33 z b118 psG cP2 p c aT cT t), (qzm6_40 z csG), (qzm6_39 z aC csG cC), (qzm6_20 n24 c p t), (qzm6_35 z psG p), (qzm6_24 n108 y117), (qzm6_34 z aT c p t cT)]
abbrev qzm6_67 (w : World) (z : Nat) (c : TConfig) (w2 : World) (k : Nat) (y33 : TChannel) (aP : Option Addr) (i : Nat) (cP : Nat) (aC : Option Addr) (csG : List TChannelPlace) (cC : Nat) (n24 : Nat) (w35 : World) (w54 : World) (y47 : Tend) : List Ch := [(old0 w), (qzm6_28 z c), (qzm6_15 z), (qzm6_16 w2 c k y33), (qzm6_8 w2 c aP i cP aC csG cC), (qzm6_36 z aP c i cP), (qzm6_40 z csG), (qzm6_39 z aC csG cC), (qzm6_26 n24 y33), (mid (n24 + 1) w35), (qzm6_6 w54 c k y47)]
abbrev qzm6_68 (w : World) (z : Nat) (c : TConfig) (w2 : World) (k : Nat) (y33 : TChannel) (aP : Option Addr) (i : Nat) (cP : Nat) (aC : Option Addr) (csG : List TChannelPlace) (cC : Nat) (n24 : Nat) (w35 : World) (y47 : Tend) : List Ch := [(old0 w), (qzm6_28 z c), (qzm6_15 z), (qzm6_16 w2 c k y33), (qzm6_8 w2 c aP i cP aC csG cC), (qzm6_36 z aP c i cP), (qzm6_40 z csG), (qzm6_39 z aC csG cC), (qzm6_26 n24 y33), (mid (n24 + 1) w35), (qzm6_7 w35 c k y47)]
abbrev qzm6_69 (w : World) (z : Nat) (c : TConfig) (w2 : World) (k : Nat) (aP : Option Addr) (i : Nat) (cP : Nat) (aC : Option Addr) (csG : List TChannelPlace) (cC : Nat) (n24 : Nat) (y33 : TChannel) (w35 : World) : List Ch := [(old0 w), (qzm6_28 z c), (qzm6_15 z), (qzm6_21 w2 c k), (qzm6_8 w2 c aP i cP aC csG cC), (qzm6_36 z aP c i cP), (qzm6_40 z csG), (qzm6_39 z aC csG cC), (qzm6_26 n24 y33), (mid (n24 + 1) w35), (qzm6_13 w35)]
abbrev qzm6_70 (w : World) (z : Nat) (c : TConfig) (w2 : World) (k : Nat) (aP2 : Option Addr) (psG : List TPartitionPlace) (cP2 : Nat) (aC : Option Addr) (csG : List TChannelPlace) (cC : Nat) (n24 : Nat) (p : Nat) : List Ch := [(old0 w), (qzm6_28 z c), (qzm6_15 z), (qzm6_23 w2 c k), (qzm6_11 w2 c aP2 psG cP2 aC csG cC), (qzm6_38 z aP2 psG cP2), (qzm6_40 z csG), (qzm6_39 z aC csG cC), (qzm6_25 n24 c p), (qzm6_35 z psG p)]
abbrev qzm6_71 (w : World) (z : Nat) (c : TConfig) (w2 : World) (i : Nat) (aP : Option Addr) (cP : Nat) : List Ch := [(old0 w), (qzm6_28 z c), (qzm6_15 z), (.blk w2.heap.size (.cells #[i6 (pAt c i)] 3 (0, 0)) true), (qzm6_10 w2 c aP i cP), (qzm6_36 z aP c i cP)]
abbrev qzm6_72 (w : World) (z : Nat) (c : TConfig) (w2 : World) (k : Nat) (aP : Option Addr) (i : Nat) (cP : Nat) (aC : Option Addr) (csG : List TChannelPlace) (cC : Nat) : List Ch := [(old0 w), (qzm6_28 z c), (qzm6_15 z), (qzm6_23 w2 c k), (qzm6_8 w2 c aP i cP aC csG cC), (qzm6_36 z aP c i cP), (qzm6_40 z csG), (qzm6_39 z aC csG cC)]
theorem of_yes (w : World) (c : TConfig) (hc : TConfig.ok Any w c) (hok : confOk c = true) : Calls Tryd.prog 31 #[.agg (TConfig.arr c)] w fun e w' => ∃ L : TLayout, e = .returned (.tuple #[.agg (TLayout.arr L), .int .i64 0]) ∧ IsLay c L ∧ TLayout.ok (New w.heap.size) w' L ∧ LayOwn w.heap.size w' L ∧ Keeps (fun _ => False) w w' := by
 obtain ⟨z, hz⟩ : ∃ z, z = w.heap.size := ⟨_, rfl⟩
 refine calls_G (args := [.agg (TConfig.arr c)]) 148 ⟨w, z, [(old0 w)]⟩ Tryd.func31 rfl (by kernel_rfl) (by kernel_rfl) (sat_0 hz) ?_
 have hfine := fine_of hok; have hkn := hfine.kn; have hpn := hfine.pn; have hcn := hfine.cn
 refine g_keep [0] [(0, .agg (TConfig.arr c))] ?_
 refine q_c 7 1 [] [[o0, o0, o0], [(an 7 1)]] [Qb z, Qb z, Qb z, Qb z, Qb z, Qb z, Qb z] [(1, pt z), (qzm6_63 z), (16, .agg (TConfig.arr c))] ⟨w, z + 2, [(old0 w), (qzm6_28 z c), (qzm6_15 z)]⟩ rfl ⟨rfl, rfl, rfl, rfl, rfl, rfl, rfl, trivial⟩ ?_
 refine l_call [] [] 56 #[.agg (TConfig.arr c)] (some 17) trivial ?_
 intro w1 hw1
 refine (can_yes w1 c (hc.ext (hw1.ext rfl) (fun _ h => h)) hok).mono ?_
 rintro e w2 ⟨rfl, hkw2⟩
 have hnw2 : z + 2 ≤ w2.heap.size := size_of hw1 hkw2
 refine ⟨_, _, rfl, hw1.keeps hkw2, ?_⟩
 refine q_rS 7 3 [0] [[o0], [o0, (a1 1), (ov (i6 (c.Kernel * 16)))]] [Qb z, Wr ((c.Kernel : Int) * 16) (c.Kernel * 16)] [(1, pt z), (qzm6_63 z), (22, i6 (c.Kernel * 16))] rfl ⟨rfl, wrI, trivial⟩ ?_
 refine l_call [] [] 57 #[i6 (c.Kernel * 16)] (some 23) trivial ?_
 intro w3 hw3
 refine calls_G (args := [i6 (c.Kernel * 16)]) 4 ⟨w, w2.heap.size, [(old0 w), (qzm6_28 z c), (qzm6_15 z)]⟩ Tryd.func57 rfl (by kernel_rfl) (by kernel_rfl) hw3 ?_
 refine q_c 9 0 [] [[o0, o0], [o0, o0]] [] [(2, .func (.func 75) #[] #[pt w2.heap.size])] ⟨w, w2.heap.size + 1, [(old0 w), (qzm6_28 z c), (qzm6_15 z), (.blk w2.heap.size (.cells #[i6 (c.Kernel * 16)] 3 (0, 0)) true)]⟩ rfl trivial ?_
 refine e_ret [] [] (.func (.func 75) #[] #[pt w2.heap.size]) trivial ?_
 intro w4 hw4
 refine ⟨_, _, rfl, hw4, ?_⟩
 refine q_rS 4 1 [] [[o0], [o0]] [] [(1, pt z), (qzm6_63 z), (qzm6_48 w2), (24, .func (.func 75) #[] #[pt w2.heap.size])] rfl trivial ?_
 refine l_call [] [] 75 #[i6 2, pt w2.heap.size] (some 25) trivial ?_
 intro w5 hw5
 refine calls_G (args := [i6 2, pt w2.heap.size]) 10 ⟨w, w2.heap.size + 1, [(old0 w), (qzm6_28 z c), (qzm6_15 z), (.blk w2.heap.size (.cells #[i6 (c.Kernel * 16)] 3 (0, 0)) true)]⟩ Tryd.func75 rfl (by kernel_rfl) (by kernel_rfl) hw5 ?_
 refine q_c 17 0 [] [[o0], [(a1 3), o0], [(a1 3), o0, (ov (i6 ((c.Kernel * 16) + 2))), (a1 3)], [o0, o0]] [Qb w2.heap.size, Qb w2.heap.size, Wr ((c.Kernel * 16 : Int) + 2) ((c.Kernel * 16) + 2), Qb w2.heap.size] [(3, i6 (c.Kernel * 16))] ⟨w, w2.heap.size + 1, [(old0 w), (qzm6_28 z c), (qzm6_15 z), (.blk w2.heap.size (.cells #[i6 ((c.Kernel * 16) + 2)] 3 (0, 0)) true)]⟩ rfl ⟨rfl, rfl, wrI, rfl, trivial⟩ ?_
 refine e_ret [] [] (i6 (c.Kernel * 16)) trivial ?_
 intro w6 hw6
 refine ⟨_, _, rfl, hw6, ?_⟩
 refine q_r 8 0 [] [[o0, o0, (an 4 4)], [o0, (a1 1), o0, o0]] [Qb (w2.heap.size + 1), Qb (w2.heap.size + 1), Qb (w2.heap.size + 1), Qb (w2.heap.size + 1), Qb z] [(1, pt z), (qzm6_63 z), (qzm6_48 w2), (qzm6_58 w2), (qzm6_56 c), (30, i6 0)] ⟨w, w2.heap.size + 2, [(old0 w), (qzm6_28 z c), (qzm6_15 z), (.blk w2.heap.size (.cells #[i6 ((c.Kernel * 16) + 2)] 3 (0, 0)) true), (bk (w2.heap.size + 1) #[i6 (c.Kernel * 16), .slice none 0 0, .slice none 0 0, i6 0] 79)]⟩ rfl ⟨rfl, rfl, rfl, rfl, rfl, trivial⟩ ?_
 refine g_rowL z 95 5 TPartitionPlace.cells ?_
 refine g_loop (fun m a w' => ∃ (n8 : Nat) (i : Nat) (aP : Option Addr) (cP : Nat), m = c.Partitions.xs.length - i ∧ w2.heap.size + 2 ≤ n8 ∧ (i ≤ c.Partitions.xs.length) ∧ St 148 [(1, pt z), (qzm6_63 z), (qzm6_48 w2), (qzm6_58 w2), (qzm6_56 c), (30, i6 (i : Int))] [] ⟨w, n8, (qzm6_71 w z c w2 i aP cP)⟩ a w') (c.Partitions.xs.length - 0) ?_ ?_
 · intro a w' hs; exact ⟨(w2.heap.size + 2), 0, none, 0, rfl, Nat.le_refl _, Nat.zero_le _, by (try dsimp only [qzm6_0, qzm6_1, qzm6_2, qzm6_3, qzm6_4, qzm6_5, qzm6_6, qzm6_7, qzm6_8, qzm6_9, qzm6_10, qzm6_11, qzm6_12, qzm6_13, qzm6_14, qzm6_15, qzm6_16, qzm6_17, qzm6_18, qzm6_19, qzm6_20, qzm6_21, qzm6_22, qzm6_23, qzm6_24, qzm6_25, qzm6_26, qzm6_27, qzm6_28, qzm6_29, qzm6_30, qzm6_31, qzm6_32, qzm6_33, qzm6_34, qzm6_35, qzm6_36, qzm6_37, qzm6_38, qzm6_39, qzm6_40, qzm6_41, qzm6_42, qzm6_43, qzm6_44, qzm6_45, qzm6_46, qzm6_47, qzm6_48, qzm6_49, qzm6_50, qzm6_51, qzm6_52, qzm6_53, qzm6_54, qzm6_55, qzm6_56, qzm6_57, qzm6_58, qzm6_59, qzm6_60, qzm6_61, qzm6_62, qzm6_63, qzm6_64, qzm6_65, qzm6_66, qzm6_67, qzm6_68, qzm6_69, qzm6_70, qzm6_71, qzm6_72] at hs ⊢); rw [show pAt c 0 = (c.Kernel * 16) + 2 from by unfold pAt; omega]; exact hs⟩
 · rintro m a w' ⟨n8, i, aP, cP, rfl, hn7, hki, hs⟩
   refine (?_ : G Tryd.prog 148 [(1, pt z), (qzm6_63 z), (qzm6_48 w2), (qzm6_58 w2), (qzm6_56 c), (30, i6 (i : Int))] [] ⟨w, n8, (qzm6_71 w z c w2 i aP cP)⟩ _ _ _) a w' hs
   clear hs a w'
   have hpA : pAt c i = c.Kernel * 16 + 2 + 24 * (i : Int) := rfl
   have hpl0 : (placesUp c i).length = i := placesUp_len
   refine g_seq ?_
   by_cases h9 : ((i : Int) : Int) < ((c.Partitions.xs.length : Nat) : Int)
   · refine q_cS 9 0 [1] [[oT]] [BT (((i : Int) : Int) < ((c.Partitions.xs.length : Nat) : Int))] [(1, pt z), (qzm6_63 z), (qzm6_48 w2), (qzm6_58 w2), (qzm6_56 c), (30, i6 (i : Int)), (31, .bool true)] rfl ⟨bt (by omega), trivial⟩ ?_
     refine g_draw 12 [0, 1, 2, 4] [(old0 w), (qzm6_28 z c), (qzm6_15 z), (qzm6_10 w2 c aP i cP)] rfl rfl ?_
     refine w_take [(0, o0), (1, (a1 3)), (2, o0), (4, o0), (6, o0)] [1, 2, 4, 5, 29, 30, 33, 34, 36, 38] [Qb (w2.heap.size + 1)] [true, true, true, false, true, false, true, false, false, false, false, false, false] [(1, pt z), (qzm6_63 z), (qzm6_48 w2), (qzm6_58 w2), (qzm6_56 c), (30, i6 (i : Int)), (qzm6_62 aP c i cP), (34, .func (.func 75) #[] #[pt w2.heap.size]), (36, .func (.func 75) #[] #[pt w2.heap.size]), (qzm6_46 w2)] rfl (by as_aux_lemma => kernel_rfl) (by as_aux_lemma => kernel_rfl) ⟨rfl, trivial⟩ ?_
     refine w_one 3 (by as_aux_lemma => kernel_rfl) rfl ?_
     refine wo_call [] [] 75 #[i6 2, pt w2.heap.size] (some 35) (by as_aux_lemma => kernel_rfl) rfl rfl trivial ?_
     intro w10 hw10
     refine calls_G (args := [i6 2, pt w2.heap.size]) 10 ⟨w, n8, (qzm6_71 w z c w2 i aP cP)⟩ Tryd.func75 rfl (by kernel_rfl) (by kernel_rfl) hw10 ?_
     refine q_c 17 0 [] [[o0], [(a1 3), o0], [(a1 3), o0, (ov (i6 ((pAt c i) + 2))), (a1 3)], [o0, o0]] [Qb w2.heap.size, Qb w2.heap.size, Wr ((pAt c i : Int) + 2) ((pAt c i) + 2), Qb w2.heap.size] [(3, i6 (pAt c i))] ⟨w, n8, [(old0 w), (qzm6_28 z c), (qzm6_15 z), (.blk w2.heap.size (.cells #[i6 ((pAt c i) + 2)] 3 (0, 0)) true), (qzm6_10 w2 c aP i cP), (qzm6_36 z aP c i cP)]⟩ rfl ⟨rfl, rfl, wrI, rfl, trivial⟩ ?_
     refine e_ret [] [] (i6 (pAt c i)) trivial ?_
     intro w11 hw11
     have hs12 := hw11
     refine ⟨_, _, rfl, hs12, .inr (fun c hc => hs12.all c (by first | exact hc | exact picks_mem (is := [0, 1, 2, 4]) rfl c hc)), ?_⟩
     refine w_keep [1, 2, 4, 5, 29, 30, 33, 36, 38, 35] [(1, pt z), (qzm6_63 z), (qzm6_48 w2), (qzm6_58 w2), (qzm6_56 c), (30, i6 (i : Int)), (qzm6_62 aP c i cP), (36, .func (.func 75) #[] #[pt w2.heap.size]), (qzm6_46 w2), (35, i6 (pAt c i))] ?_
     refine w_one 5 (by as_aux_lemma => kernel_rfl) rfl ?_
     refine wo_call [] [] 75 #[i6 17, pt w2.heap.size] (some 37) (by as_aux_lemma => kernel_rfl) rfl rfl trivial ?_
     intro w13 hw13
     refine calls_G (args := [i6 17, pt w2.heap.size]) 10 ⟨w, n8, [(old0 w), (qzm6_28 z c), (qzm6_15 z), (.blk w2.heap.size (.cells #[i6 ((pAt c i) + 2)] 3 (0, 0)) true), (qzm6_10 w2 c aP i cP), (qzm6_36 z aP c i cP)]⟩ Tryd.func75 rfl (by kernel_rfl) (by kernel_rfl) hw13 ?_
     refine q_c 17 0 [] [[o0], [(a1 3), o0], [(a1 3), o0, (ov (i6 (((pAt c i) + 2) + 17))), (a1 3)], [o0, o0]] [Qb w2.heap.size, Qb w2.heap.size, Wr (((pAt c i) + 2 : Int) + 17) (((pAt c i) + 2) + 17), Qb w2.heap.size] [(3, i6 ((pAt c i) + 2))] ⟨w, n8, [(old0 w), (qzm6_28 z c), (qzm6_15 z), (.blk w2.heap.size (.cells #[i6 (((pAt c i) + 2) + 17)] 3 (0, 0)) true), (qzm6_10 w2 c aP i cP), (qzm6_36 z aP c i cP)]⟩ rfl ⟨rfl, rfl, wrI, rfl, trivial⟩ ?_
     refine e_ret [] [] (i6 ((pAt c i) + 2)) trivial ?_
     intro w14 hw14
     have hs15 := hw14
     refine ⟨_, _, rfl, hs15, .inr (fun c hc => hs15.all c (by first | exact hc | exact picks_mem (is := [0, 1, 2, 4]) rfl c hc)), ?_⟩
     refine w_keep [1, 2, 4, 5, 29, 30, 33, 38, 35, 37] [(1, pt z), (qzm6_63 z), (qzm6_48 w2), (qzm6_58 w2), (qzm6_56 c), (30, i6 (i : Int)), (qzm6_62 aP c i cP), (qzm6_46 w2), (35, i6 (pAt c i)), (37, i6 ((pAt c i) + 2))] ?_
     refine w_one 7 (by as_aux_lemma => kernel_rfl) rfl ?_
     refine wo_call [] [] 75 #[i6 5, pt w2.heap.size] (some 39) (by as_aux_lemma => kernel_rfl) rfl rfl trivial ?_
     intro w16 hw16
     refine calls_G (args := [i6 5, pt w2.heap.size]) 10 ⟨w, n8, [(old0 w), (qzm6_28 z c), (qzm6_15 z), (.blk w2.heap.size (.cells #[i6 (((pAt c i) + 2) + 17)] 3 (0, 0)) true), (qzm6_10 w2 c aP i cP), (qzm6_36 z aP c i cP)]⟩ Tryd.func75 rfl (by kernel_rfl) (by kernel_rfl) hw16 ?_
     refine q_c 17 0 [] [[o0], [(a1 3), o0], [(a1 3), o0, (ov (i6 ((((pAt c i) + 2) + 17) + 5))), (a1 3)], [o0, o0]] [Qb w2.heap.size, Qb w2.heap.size, Wr ((((pAt c i) + 2) + 17 : Int) + 5) ((((pAt c i) + 2) + 17) + 5), Qb w2.heap.size] [(3, i6 (((pAt c i) + 2) + 17))] ⟨w, n8, [(old0 w), (qzm6_28 z c), (qzm6_15 z), (qzm6_17 w2 c i), (qzm6_10 w2 c aP i cP), (qzm6_36 z aP c i cP)]⟩ rfl ⟨rfl, rfl, wrI, rfl, trivial⟩ ?_
     refine e_ret [] [] (i6 (((pAt c i) + 2) + 17)) trivial ?_
     intro w17 hw17
     have hs18 := hw17
     refine ⟨_, _, rfl, hs18, .inr (fun c hc => hs18.all c (by first | exact hc | exact picks_mem (is := [0, 1, 2, 4]) rfl c hc)), ?_⟩
     refine w_keep [1, 2, 4, 5, 29, 30, 33, 35, 37, 39] [(1, pt z), (qzm6_63 z), (qzm6_48 w2), (qzm6_58 w2), (qzm6_56 c), (30, i6 (i : Int)), (qzm6_62 aP c i cP), (35, i6 (pAt c i)), (37, i6 ((pAt c i) + 2)), (39, i6 (((pAt c i) + 2) + 17))] ?_
     refine w_take [(8, o0)] [1, 2, 4, 5, 29, 30, 33, 40] [] [true, true, true, true, true, true, true, true, true, false, false, false, false] [(1, pt z), (qzm6_63 z), (qzm6_48 w2), (qzm6_58 w2), (qzm6_56 c), (30, i6 (i : Int)), (qzm6_62 aP c i cP), (40, .agg #[i6 (pAt c i), i6 ((pAt c i) + 2), i6 (((pAt c i) + 2) + 17), i6 0, .slice none 0 0])] rfl (by as_aux_lemma => kernel_rfl) (by as_aux_lemma => kernel_rfl) trivial ?_
     refine w_one 9 (by as_aux_lemma => kernel_rfl) rfl ?_
     refine wo_eff o0 [1, 2, 4, 5, 29, 30, 33, 41] [] [(1, pt z), (qzm6_63 z), (qzm6_48 w2), (qzm6_58 w2), (qzm6_56 c), (30, i6 (i : Int)), (qzm6_62 aP c i cP), (41, .slice (some ⟨n8, 0, none⟩) 1 1)] ⟨w, n8 + 1, [(old0 w), (qzm6_28 z c), (qzm6_15 z), (qzm6_17 w2 c i), (qzm6_10 w2 c aP i cP), (qzm6_36 z aP c i cP), (qzm6_9 n8 c i)]⟩ [0, 1, 2, 4] (by as_aux_lemma => kernel_rfl) rfl trivial (.inr rfl) ?_
     refine w_one 10 (by as_aux_lemma => kernel_rfl) rfl ?_
     refine wo_push z 5 6 (placesUp c i) [(⟨pAt c i, (pAt c i) + 2, ((pAt c i) + 2) + 17, 0, (⟨none, 0, []⟩ : Sl Int)⟩ : TPartitionPlace)] TPartitionPlace.cells 95 5 56 (.slice aP ((placesUp c i).length) cP) n8 1 1 #[i6 (pAt c i), i6 ((pAt c i) + 2), i6 (((pAt c i) + 2) + 17), i6 0, .slice none 0 0] 95 (0, 0) true (some 42) [0, 1, 2, 4] (by simp only [List.length_cons, List.length_nil]; omega) (show z ≤ n8 + 1 by omega) (.inr ⟨rfl, rfl⟩) (fun ax19 cp20 n21 (hn22 : n8 + 1 ≤ n21) => ?_)
     refine w_keep [1, 2, 4, 5, 29, 30, 42] [(1, pt z), (qzm6_63 z), (qzm6_48 w2), (qzm6_58 w2), (qzm6_56 c), (30, i6 (i : Int)), (qzm6_41 ax19 c i cp20)] ?_
     refine w_take [(11, o0)] [1, 2, 4, 5, 29, 30, 42, 43] [] [true, true, true, true, true, true, true, true, true, true, true, true, false] [(1, pt z), (qzm6_63 z), (qzm6_48 w2), (qzm6_58 w2), (qzm6_56 c), (30, i6 (i : Int)), (qzm6_41 ax19 c i cp20), (43, .pointer (some ⟨w2.heap.size + 1, 1, none⟩))] rfl (by as_aux_lemma => kernel_rfl) (by as_aux_lemma => kernel_rfl) trivial ?_
     refine w_one 12 (by as_aux_lemma => kernel_rfl) rfl ?_
     refine wo_eff (a1 4) [1, 2, 4, 5, 29, 30] [Qb (w2.heap.size + 1)] [(1, pt z), (qzm6_63 z), (qzm6_48 w2), (qzm6_58 w2), (qzm6_56 c), (30, i6 (i : Int))] ⟨w, n21, [(old0 w), (qzm6_28 z c), (qzm6_15 z), (qzm6_17 w2 c i), (qzm6_1 w2 c ax19 i cp20), (qzm6_31 z ax19 c i cp20), (qzm6_9 n8 c i)]⟩ [] (by as_aux_lemma => kernel_rfl) rfl ⟨rfl, trivial⟩ (.inl rfl) ?_
     refine w_free 13 [0, 1, 2, 3, 4, 5, 6] [(old0 w), (qzm6_28 z c), (qzm6_15 z), (qzm6_17 w2 c i), (qzm6_1 w2 c ax19 i cp20), (qzm6_31 z ax19 c i cp20), (qzm6_9 n8 c i)] rfl rfl ?_
     refine w_done (by as_aux_lemma => kernel_rfl) ?_
     refine q_oS 4 0 [] [[(ov (i6 ((i + 1 : Nat) : Int))), o0]] [Wr (((i : Int) : Int) + 1) (((i + 1 : Nat) : Int))] [(1, pt z), (qzm6_63 z), (qzm6_48 w2), (qzm6_58 w2), (qzm6_56 c), (30, i6 ((i + 1 : Nat) : Int))] rfl ⟨wrI, trivial⟩ ?_
     refine e_pick [0, 1, 2, 3, 4, 5] [(old0 w), (qzm6_28 z c), (qzm6_15 z), (qzm6_17 w2 c i), (qzm6_1 w2 c ax19 i cp20), (qzm6_31 z ax19 c i cp20)] rfl rfl ?_
     refine e_keep [1, 2, 4, 5, 29, 30] [(1, pt z), (qzm6_63 z), (qzm6_48 w2), (qzm6_58 w2), (qzm6_56 c), (30, i6 ((i + 1 : Nat) : Int))] ?_
     refine e_inv (fun a w' hs => ⟨c.Partitions.xs.length - (i + 1), by omega, n21, (i + 1), ax19, cp20, rfl, by omega, by omega, by (try dsimp only [qzm6_0, qzm6_1, qzm6_2, qzm6_3, qzm6_4, qzm6_5, qzm6_6, qzm6_7, qzm6_8, qzm6_9, qzm6_10, qzm6_11, qzm6_12, qzm6_13, qzm6_14, qzm6_15, qzm6_16, qzm6_17, qzm6_18, qzm6_19, qzm6_20, qzm6_21, qzm6_22, qzm6_23, qzm6_24, qzm6_25, qzm6_26, qzm6_27, qzm6_28, qzm6_29, qzm6_30, qzm6_31, qzm6_32, qzm6_33, qzm6_34, qzm6_35, qzm6_36, qzm6_37, qzm6_38, qzm6_39, qzm6_40, qzm6_41, qzm6_42, qzm6_43, qzm6_44, qzm6_45, qzm6_46, qzm6_47, qzm6_48, qzm6_49, qzm6_50, qzm6_51, qzm6_52, qzm6_53, qzm6_54, qzm6_55, qzm6_56, qzm6_57, qzm6_58, qzm6_59, qzm6_60, qzm6_61, qzm6_62, qzm6_63, qzm6_64, qzm6_65, qzm6_66, qzm6_67, qzm6_68, qzm6_69, qzm6_70, qzm6_71, qzm6_72] at hs ⊢); rw [show pAt c (i + 1) = (((pAt c i) + 2) + 17) + 5 from by unfold pAt; omega, placesUp_succ]; exact hs⟩)
   · refine q_cS 16 0 [0] [[oF], [o0, (a1 1), o0, o0]] [BF (((i : Int) : Int) < ((c.Partitions.xs.length : Nat) : Int)), Qb z] [(1, pt z), (qzm6_63 z), (qzm6_48 w2), (qzm6_58 w2), (qzm6_51 c), (qzm6_57 c), (48, i6 0)] rfl ⟨bf (by omega), rfl, trivial⟩ ?_
     refine g_fam0 z 106 3 TDestPlace.cells ?_
     refine g_rowL z 104 5 TChannelPlace.cells ?_
     refine g_loop (fun m a w' => ∃ (n24 : Nat) (k : Nat) (csG : List TChannelPlace) (aC : Option Addr) (cC : Nat), m = c.Channels.xs.length - k ∧ n8 ≤ n24 ∧ (k ≤ c.Channels.xs.length) ∧ (csG.length = k) ∧ (∀ q, q < k → ∃ a cp, gd csG q = chanAt c q ⟨a, cp, destsUp c q (nDest c q)⟩) ∧ St 148 [(1, pt z), (qzm6_63 z), (qzm6_48 w2), (qzm6_58 w2), (qzm6_51 c), (qzm6_57 c), (48, i6 (k : Int))] [] ⟨w, n24, (qzm6_72 w z c w2 k aP i cP aC csG cC)⟩ a w') (c.Channels.xs.length - 0) ?_ ?_
     · intro a w' hs; exact ⟨n8, 0, ([]), none, 0, rfl, Nat.le_refl _, Nat.zero_le _, rfl, fun q hq => absurd hq (Nat.not_lt_zero q), by (try dsimp only [qzm6_0, qzm6_1, qzm6_2, qzm6_3, qzm6_4, qzm6_5, qzm6_6, qzm6_7, qzm6_8, qzm6_9, qzm6_10, qzm6_11, qzm6_12, qzm6_13, qzm6_14, qzm6_15, qzm6_16, qzm6_17, qzm6_18, qzm6_19, qzm6_20, qzm6_21, qzm6_22, qzm6_23, qzm6_24, qzm6_25, qzm6_26, qzm6_27, qzm6_28, qzm6_29, qzm6_30, qzm6_31, qzm6_32, qzm6_33, qzm6_34, qzm6_35, qzm6_36, qzm6_37, qzm6_38, qzm6_39, qzm6_40, qzm6_41, qzm6_42, qzm6_43, qzm6_44, qzm6_45, qzm6_46, qzm6_47, qzm6_48, qzm6_49, qzm6_50, qzm6_51, qzm6_52, qzm6_53, qzm6_54, qzm6_55, qzm6_56, qzm6_57, qzm6_58, qzm6_59, qzm6_60, qzm6_61, qzm6_62, qzm6_63, qzm6_64, qzm6_65, qzm6_66, qzm6_67, qzm6_68, qzm6_69, qzm6_70, qzm6_71, qzm6_72] at hs ⊢); rw [show cAt c 0 = pAt c i from by rw [show i = c.Partitions.xs.length by omega]; rfl]; exact hs⟩
     · rintro m a w' ⟨n24, k, csG, aC, cC, rfl, hn23, hkk, hcl, hcs, hs⟩
       refine (?_ : G Tryd.prog 148 [(1, pt z), (qzm6_63 z), (qzm6_48 w2), (qzm6_58 w2), (qzm6_51 c), (qzm6_57 c), (48, i6 (k : Int))] [] ⟨w, n24, (qzm6_72 w z c w2 k aP i cP aC csG cC)⟩ _ _ _) a w' hs
       clear hs a w'
       have hcb := cAt_bd hfine k (by omega)
       have hp0 : pAt c c.Partitions.xs.length = c.Kernel * 16 + 2 + 24 * (c.Partitions.xs.length : Int) := rfl
       refine g_seq ?_
       by_cases h25 : ((k : Int) : Int) < ((c.Channels.xs.length : Nat) : Int)
       · refine q_cS 10 0 [1] [[oT]] [BT (((k : Int) : Int) < ((c.Channels.xs.length : Nat) : Int))] [(1, pt z), (qzm6_63 z), (qzm6_48 w2), (qzm6_58 w2), (qzm6_51 c), (qzm6_57 c), (48, i6 (k : Int)), (49, .bool true)] rfl ⟨bt (by omega), trivial⟩ ?_
         obtain ⟨b26, o27, ha28, hF30, hc29⟩ := (hc.Channels).1.all (show 0 < c.Channels.xs.length by omega)
         replace ha28 : c.Channels.a = some ⟨b26, o27, none⟩ := ha28
         refine g_eq [(1, pt z), (qzm6_63 z), (qzm6_48 w2), (qzm6_58 w2), (qzm6_45 b26 o27 c), (qzm6_57 c), (48, i6 (k : Int)), (49, .bool true)] (by (try dsimp only [qzm6_0, qzm6_1, qzm6_2, qzm6_3, qzm6_4, qzm6_5, qzm6_6, qzm6_7, qzm6_8, qzm6_9, qzm6_10, qzm6_11, qzm6_12, qzm6_13, qzm6_14, qzm6_15, qzm6_16, qzm6_17, qzm6_18, qzm6_19, qzm6_20, qzm6_21, qzm6_22, qzm6_23, qzm6_24, qzm6_25, qzm6_26, qzm6_27, qzm6_28, qzm6_29, qzm6_30, qzm6_31, qzm6_32, qzm6_33, qzm6_34, qzm6_35, qzm6_36, qzm6_37, qzm6_38, qzm6_39, qzm6_40, qzm6_41, qzm6_42, qzm6_43, qzm6_44, qzm6_45, qzm6_46, qzm6_47, qzm6_48, qzm6_49, qzm6_50, qzm6_51, qzm6_52, qzm6_53, qzm6_54, qzm6_55, qzm6_56, qzm6_57, qzm6_58, qzm6_59, qzm6_60, qzm6_61, qzm6_62, qzm6_63, qzm6_64, qzm6_65, qzm6_66, qzm6_67, qzm6_68, qzm6_69, qzm6_70, qzm6_71, qzm6_72]); simp only [ha28]) ?_
         have hc31 := hc29 k (show k < c.Channels.xs.length by omega)
         have he32 := (hc.Channels).2 k (show k < c.Channels.xs.length by omega)
         obtain ⟨y33, hy33⟩ : ∃ y_, y_ = gd c.Channels.xs k := ⟨_, rfl⟩
         rw [← hy33] at he32 hc31
         have hEd := hfine.dests (k := k) (by omega); have hsb := stage_bd y33; have hpb := port_bd y33; have hlb := cLen_bd hfine (show k < c.Channels.xs.length by omega); have hEn : nDest c k = (endsOf c (k : Int) false).length := rfl
         refine q_c 5 2 [] [[o0, (oi k), (ol 0 (TChannel.arr y33)), o0, o0, (an 3 8)], [(an 7 1), o0]] [((k : Int) : Int) = ((k : Nat) : Int), k < c.Channels.xs.length, (none : Option Nat) = none, OldR w b26 (o27 + k * 3) (TChannel.arr y33), Qb n24, Qb n24, Qb n24, Qb z, Qb z, Qb z, Qb z, Qb z, Qb z, Qb z] [(1, pt z), (qzm6_63 z), (qzm6_48 w2), (qzm6_58 w2), (qzm6_45 b26 o27 c), (qzm6_57 c), (48, i6 (k : Int)), (qzm6_65 n24), (54, .agg (TConfig.arr c)), (55, i6 (k : Int))] ⟨w, n24 + 1, [(old0 w), (qzm6_28 z c), (qzm6_15 z), (qzm6_23 w2 c k), (qzm6_8 w2 c aP i cP aC csG cC), (qzm6_36 z aP c i cP), (qzm6_40 z csG), (qzm6_39 z aC csG cC), (qzm6_26 n24 y33)]⟩ rfl ⟨rfl, (by omega), rfl, old_row hc31, rfl, rfl, rfl, rfl, rfl, rfl, rfl, rfl, rfl, rfl, trivial⟩ ?_
         refine l_call [] [] 58 #[.agg (TConfig.arr c), i6 (k : Int)] (some 56) trivial ?_
         intro w34 hw34
         refine (ends_calls w34 c (k : Int) (hc.ext (hw34.ext rfl) (fun _ h => h)) (by omega) (fun i hi => part_ports (hfine.parts i hi))).mono ?_
         rintro e w35 ⟨ax36, cp37, ax38, cp39, rfl, hSw35, hDw35, hkw35⟩
         have hnw35 : n24 + 1 ≤ w35.heap.size := size_of hw34 hkw35
         rw [hw34.size] at hSw35 hDw35
         refine ⟨_, _, rfl, hw34.keepsM hkw35, ?_⟩
         refine q_rS 3 0 [] [[o0, o0, o0, o0, o0]] [] [(1, pt z), (qzm6_63 z), (qzm6_48 w2), (qzm6_58 w2), (qzm6_45 b26 o27 c), (qzm6_57 c), (48, i6 (k : Int)), (qzm6_65 n24), (8, .slice ax36 ((endsOf c (k : Int) true).length) cp37), (qzm6_54 ax38 c k cp39)] rfl trivial ?_
         obtain ⟨b40, o41, ha42, hF44, hc43⟩ := ((⟨hSw35, ends_ink hfine⟩ : SlOk Tend.cells 2 Tend.ok _ _ _)).1.all (show 0 < (endsOf c (k : Int) true).length by omega)
         replace ha42 : ax36 = some ⟨b40, o41, none⟩ := ha42
         refine g_eq [(1, pt z), (qzm6_63 z), (qzm6_48 w2), (qzm6_58 w2), (qzm6_45 b26 o27 c), (qzm6_57 c), (48, i6 (k : Int)), (qzm6_65 n24), (8, .slice (some ⟨b40, o41, none⟩) ((endsOf c (k : Int) true).length) cp37), (qzm6_54 ax38 c k cp39)] (by (try dsimp only [qzm6_0, qzm6_1, qzm6_2, qzm6_3, qzm6_4, qzm6_5, qzm6_6, qzm6_7, qzm6_8, qzm6_9, qzm6_10, qzm6_11, qzm6_12, qzm6_13, qzm6_14, qzm6_15, qzm6_16, qzm6_17, qzm6_18, qzm6_19, qzm6_20, qzm6_21, qzm6_22, qzm6_23, qzm6_24, qzm6_25, qzm6_26, qzm6_27, qzm6_28, qzm6_29, qzm6_30, qzm6_31, qzm6_32, qzm6_33, qzm6_34, qzm6_35, qzm6_36, qzm6_37, qzm6_38, qzm6_39, qzm6_40, qzm6_41, qzm6_42, qzm6_43, qzm6_44, qzm6_45, qzm6_46, qzm6_47, qzm6_48, qzm6_49, qzm6_50, qzm6_51, qzm6_52, qzm6_53, qzm6_54, qzm6_55, qzm6_56, qzm6_57, qzm6_58, qzm6_59, qzm6_60, qzm6_61, qzm6_62, qzm6_63, qzm6_64, qzm6_65, qzm6_66, qzm6_67, qzm6_68, qzm6_69, qzm6_70, qzm6_71, qzm6_72]); simp only [ha42]) ?_
         have hc45 := hc43 0 (show 0 < (endsOf c (k : Int) true).length by omega)
         have he46 := ((⟨hSw35, ends_ink hfine⟩ : SlOk Tend.cells 2 Tend.ok _ _ _)).2 0 (show 0 < (endsOf c (k : Int) true).length by omega)
         obtain ⟨y47, hy47⟩ : ∃ y_, y_ = gd (⟨ax36, cp37, endsOf c (k : Int) true⟩ : Sl Tend).xs 0 := ⟨_, rfl⟩
         rw [← hy47] at he46 hc45
         refine g_draw 16 [0, 1, 2, 4, 5, 6, 7, 8, 9] [(old0 w), (qzm6_28 z c), (qzm6_15 z), (qzm6_8 w2 c aP i cP aC csG cC), (qzm6_36 z aP c i cP), (qzm6_40 z csG), (qzm6_39 z aC csG cC), (qzm6_26 n24 y33), (mid (n24 + 1) w35)] rfl rfl ?_
         refine w_take [(0, o0), (2, o0), (3, (an 3 7)), (6, o0), (7, (oi 0)), (8, o0), (9, (oa [.via 8 (i6 y47.partition)])), (10, o0), (11, (oi 0)), (12, o0), (13, (oa [.via 8 (i6 y47.port)]))] [1, 2, 4, 5, 46, 47, 48, 7, 9, 59, 61, 62, 68, 72] [Qb n24, Qb n24, Qb n24, (0 : Int) = ((0 : Nat) : Int), 0 < (endsOf c (k : Int) true).length, (none : Option Nat) = none, ∀ w', Ch.holds (mid (n24 + 1) w35) w' → w'.cell? ⟨b40, o41, none⟩ = some (i6 y47.partition), (0 : Int) = ((0 : Nat) : Int), 0 < (endsOf c (k : Int) true).length, (none : Option Nat) = none, ∀ w', Ch.holds (mid (n24 + 1) w35) w' → w'.cell? ⟨b40, o41 + 1, none⟩ = some (i6 y47.port)] [true, false, true, true, false, false, true, true, true, true, true, true, true, true, false, false, false] [(1, pt z), (qzm6_63 z), (qzm6_48 w2), (qzm6_58 w2), (qzm6_45 b26 o27 c), (qzm6_57 c), (48, i6 (k : Int)), (qzm6_65 n24), (qzm6_54 ax38 c k cp39), (59, .func (.func 75) #[] #[pt w2.heap.size]), (qzm6_47 w2), (62, .agg (TChannel.arr y33)), (68, i6 y47.partition), (72, i6 y47.port)] rfl (by as_aux_lemma => kernel_rfl) (by as_aux_lemma => kernel_rfl) ⟨rfl, rfl, rfl, rfl, (by omega), rfl, mid_cell hF44 (hc45 0 _ rfl), rfl, (by omega), rfl, mid_cell hF44 (hc45 1 _ rfl), trivial⟩ ?_
         refine w_join (fun x : {p : Nat × Nat // w35.heap.size ≤ p.1 ∧ w35.heap.size ≤ p.2} => ([(1, pt z), (qzm6_63 z), (qzm6_48 w2), (qzm6_58 w2), (qzm6_45 b26 o27 c), (qzm6_57 c), (48, i6 (k : Int)), (qzm6_65 n24), (qzm6_54 ax38 c k cp39), (10, pt x.1.2)], ⟨w, x.1.1, [(old0 w), (qzm6_28 z c), (qzm6_15 z), (qzm6_16 w2 c k y33), (qzm6_8 w2 c aP i cP aC csG cC), (qzm6_36 z aP c i cP), (qzm6_40 z csG), (qzm6_39 z aC csG cC), (qzm6_26 n24 y33), (mid (n24 + 1) w35), (.blk x.1.2 (.cells #[i6 (cAt c k), i6 ((cAt c k) + 2), i6 y47.partition, i6 y47.port, .slice none 0 0] 104 (0, 0)) true)]⟩)) (fun hK => ?_) ?_
         · refine w_all [1, 15] (by as_aux_lemma => kernel_rfl) rfl rfl ?_
           refine List.forall_mem_cons.2 ⟨?_, List.forall_mem_cons.2 ⟨?_, fun _ h => absurd h List.not_mem_nil⟩⟩
           · refine wo_call [] [] 75 #[i6 2, pt w2.heap.size] (some 60) (by as_aux_lemma => kernel_rfl) rfl rfl trivial ?_
             intro w50 hw50
             refine calls_G (args := [i6 2, pt w2.heap.size]) 10 ⟨w, w35.heap.size, [(old0 w), (qzm6_28 z c), (qzm6_15 z), (qzm6_23 w2 c k), (qzm6_8 w2 c aP i cP aC csG cC), (qzm6_36 z aP c i cP), (qzm6_40 z csG), (qzm6_39 z aC csG cC), (qzm6_26 n24 y33), (mid (n24 + 1) w35)]⟩ Tryd.func75 rfl (by kernel_rfl) (by kernel_rfl) hw50 ?_
             refine q_c 17 0 [] [[o0], [(a1 3), o0], [(a1 3), o0, (ov (i6 ((cAt c k) + 2))), (a1 3)], [o0, o0]] [Qb w2.heap.size, Qb w2.heap.size, Wr ((cAt c k : Int) + 2) ((cAt c k) + 2), Qb w2.heap.size] [(3, i6 (cAt c k))] ⟨w, w35.heap.size, [(old0 w), (qzm6_28 z c), (qzm6_15 z), (qzm6_21 w2 c k), (qzm6_8 w2 c aP i cP aC csG cC), (qzm6_36 z aP c i cP), (qzm6_40 z csG), (qzm6_39 z aC csG cC), (qzm6_26 n24 y33), (mid (n24 + 1) w35)]⟩ rfl ⟨rfl, rfl, wrI, rfl, trivial⟩ ?_
             refine e_ret [] [] (i6 (cAt c k)) trivial ?_
             intro w51 hw51
             have hs52 := hw51
             refine ⟨_, _, rfl, hs52, .inr (fun c hc => hs52.all c (by first | exact hc | exact picks_mem (is := [0, 1, 2, 4, 5, 6, 7, 8, 9]) rfl c hc)), ?_⟩
             refine w_keep [1, 2, 4, 5, 46, 47, 48, 7, 9, 61, 62, 68, 72, 60] [(1, pt z), (qzm6_63 z), (qzm6_48 w2), (qzm6_58 w2), (qzm6_45 b26 o27 c), (qzm6_57 c), (48, i6 (k : Int)), (qzm6_65 n24), (qzm6_54 ax38 c k cp39), (qzm6_47 w2), (62, .agg (TChannel.arr y33)), (68, i6 y47.partition), (72, i6 y47.port), (60, i6 (cAt c k))] ?_
             refine w_all [4, 15] (by as_aux_lemma => kernel_rfl) rfl rfl ?_
             refine List.forall_mem_cons.2 ⟨?_, List.forall_mem_cons.2 ⟨?_, fun _ h => absurd h List.not_mem_nil⟩⟩
             · refine wo_call [] [] 59 #[.agg (TChannel.arr y33)] (some 63) (by as_aux_lemma => kernel_rfl) rfl rfl trivial ?_
               intro w53 hw53
               refine (stage_calls w53 y33 (he32.ext (hw53.ext rfl) (fun _ h => h))).mono ?_
               rintro e w54 ⟨rfl, hkw54⟩
               have hnw54 : w35.heap.size ≤ w54.heap.size := size_of hw53 hkw54
               have hs55 := hw53.keeps hkw54
               refine ⟨_, _, rfl, hs55, .inr (fun c hc => hs55.all c (by first | exact hc | exact picks_mem (is := [0, 1, 2, 4, 5, 6, 7, 8, 9]) rfl c hc)), ?_⟩
               refine w_keep [1, 2, 4, 5, 46, 47, 48, 7, 9, 61, 68, 72, 60, 63] [(1, pt z), (qzm6_63 z), (qzm6_48 w2), (qzm6_58 w2), (qzm6_45 b26 o27 c), (qzm6_57 c), (48, i6 (k : Int)), (qzm6_65 n24), (qzm6_54 ax38 c k cp39), (qzm6_47 w2), (68, i6 y47.partition), (72, i6 y47.port), (60, i6 (cAt c k)), (63, i6 (stageOf y33))] ?_
               refine w_all [5, 15] (by as_aux_lemma => kernel_rfl) rfl rfl ?_
               refine List.forall_mem_cons.2 ⟨?_, List.forall_mem_cons.2 ⟨?_, fun _ h => absurd h List.not_mem_nil⟩⟩
               · refine wo_call [] [] 75 #[i6 (stageOf y33), pt w2.heap.size] (some 64) (by as_aux_lemma => kernel_rfl) rfl rfl trivial ?_
                 intro w56 hw56
                 refine calls_G (args := [i6 (stageOf y33), pt w2.heap.size]) 10 ⟨w, w54.heap.size, [(old0 w), (qzm6_28 z c), (qzm6_15 z), (qzm6_21 w2 c k), (qzm6_8 w2 c aP i cP aC csG cC), (qzm6_36 z aP c i cP), (qzm6_40 z csG), (qzm6_39 z aC csG cC), (qzm6_26 n24 y33), (mid (n24 + 1) w35)]⟩ Tryd.func75 rfl (by kernel_rfl) (by kernel_rfl) hw56 ?_
                 refine q_c 17 0 [] [[o0], [(a1 3), o0], [(a1 3), o0, (ov (i6 (((cAt c k) + 2) + (stageOf y33)))), (a1 3)], [o0, o0]] [Qb w2.heap.size, Qb w2.heap.size, Wr (((cAt c k) + 2 : Int) + (stageOf y33)) (((cAt c k) + 2) + (stageOf y33)), Qb w2.heap.size] [(3, i6 ((cAt c k) + 2))] ⟨w, w54.heap.size, [(old0 w), (qzm6_28 z c), (qzm6_15 z), (qzm6_16 w2 c k y33), (qzm6_8 w2 c aP i cP aC csG cC), (qzm6_36 z aP c i cP), (qzm6_40 z csG), (qzm6_39 z aC csG cC), (qzm6_26 n24 y33), (mid (n24 + 1) w35)]⟩ rfl ⟨rfl, rfl, wrI, rfl, trivial⟩ ?_
                 refine e_ret [] [] (i6 ((cAt c k) + 2)) trivial ?_
                 intro w57 hw57
                 have hs58 := hw57
                 refine ⟨_, _, rfl, hs58, .inr (fun c hc => hs58.all c (by first | exact hc | exact picks_mem (is := [0, 1, 2, 4, 5, 6, 7, 8, 9]) rfl c hc)), ?_⟩
                 refine w_keep [1, 2, 4, 5, 46, 47, 48, 7, 9, 68, 72, 60, 64] [(1, pt z), (qzm6_63 z), (qzm6_48 w2), (qzm6_58 w2), (qzm6_45 b26 o27 c), (qzm6_57 c), (48, i6 (k : Int)), (qzm6_65 n24), (qzm6_54 ax38 c k cp39), (68, i6 y47.partition), (72, i6 y47.port), (60, i6 (cAt c k)), (64, i6 ((cAt c k) + 2))] ?_
                 refine w_take [(14, o0)] [1, 2, 4, 5, 46, 47, 48, 7, 9, 73] [] [true, true, true, true, true, true, true, true, true, true, true, true, true, true, true, false, false] [(1, pt z), (qzm6_63 z), (qzm6_48 w2), (qzm6_58 w2), (qzm6_45 b26 o27 c), (qzm6_57 c), (48, i6 (k : Int)), (qzm6_65 n24), (qzm6_54 ax38 c k cp39), (qzm6_42 c k y47)] rfl (by as_aux_lemma => kernel_rfl) (by as_aux_lemma => kernel_rfl) trivial ?_
                 refine w_one 15 (by as_aux_lemma => kernel_rfl) rfl ?_
                 refine wo_eff o0 [1, 2, 4, 5, 46, 47, 48, 7, 9, 73, 10] [] [(1, pt z), (qzm6_63 z), (qzm6_48 w2), (qzm6_58 w2), (qzm6_45 b26 o27 c), (qzm6_57 c), (48, i6 (k : Int)), (qzm6_65 n24), (qzm6_54 ax38 c k cp39), (qzm6_42 c k y47), (qzm6_59 w54)] ⟨w, w54.heap.size + 1, [(old0 w), (qzm6_28 z c), (qzm6_15 z), (qzm6_16 w2 c k y33), (qzm6_8 w2 c aP i cP aC csG cC), (qzm6_36 z aP c i cP), (qzm6_40 z csG), (qzm6_39 z aC csG cC), (qzm6_26 n24 y33), (mid (n24 + 1) w35), (qzm6_12 w54)]⟩ [0, 1, 2, 4, 5, 6, 7, 8, 9] (by as_aux_lemma => kernel_rfl) rfl trivial (.inr rfl) ?_
                 refine w_one 16 (by as_aux_lemma => kernel_rfl) rfl ?_
                 refine wo_eff (an 5 10) [1, 2, 4, 5, 46, 47, 48, 7, 9, 10] [Qb w54.heap.size, Qb w54.heap.size, Qb w54.heap.size, Qb w54.heap.size, Qb w54.heap.size] [(1, pt z), (qzm6_63 z), (qzm6_48 w2), (qzm6_58 w2), (qzm6_45 b26 o27 c), (qzm6_57 c), (48, i6 (k : Int)), (qzm6_65 n24), (qzm6_54 ax38 c k cp39), (qzm6_59 w54)] ⟨w, w54.heap.size + 1, (qzm6_67 w z c w2 k y33 aP i cP aC csG cC n24 w35 w54 y47)⟩ [] (by as_aux_lemma => kernel_rfl) rfl ⟨rfl, rfl, rfl, rfl, rfl, trivial⟩ (.inl rfl) ?_
                 refine w_free 17 [0, 1, 2, 3, 4, 5, 6, 7, 8, 9, 10] (qzm6_67 w z c w2 k y33 aP i cP aC csG cC n24 w35 w54 y47) rfl rfl ?_
                 refine w_done (by as_aux_lemma => kernel_rfl) ?_
                 refine e_keep [1, 2, 4, 5, 46, 47, 48, 7, 9, 10] [(1, pt z), (qzm6_63 z), (qzm6_48 w2), (qzm6_58 w2), (qzm6_45 b26 o27 c), (qzm6_57 c), (48, i6 (k : Int)), (qzm6_65 n24), (qzm6_54 ax38 c k cp39), (qzm6_59 w54)] ?_
                 refine e_pick [0, 1, 2, 3, 4, 5, 6, 7, 8, 9, 10] (qzm6_67 w z c w2 k y33 aP i cP aC csG cC n24 w35 w54 y47) rfl rfl ?_
                 exact hK ⟨(w54.heap.size + 1, w54.heap.size), by first | omega | (dsimp only; omega)⟩
               · refine wo_eff o0 [1, 2, 4, 5, 46, 47, 48, 7, 9, 61, 68, 72, 60, 63, 10] [] [(1, pt z), (qzm6_63 z), (qzm6_48 w2), (qzm6_58 w2), (qzm6_45 b26 o27 c), (qzm6_57 c), (48, i6 (k : Int)), (qzm6_65 n24), (qzm6_54 ax38 c k cp39), (qzm6_47 w2), (68, i6 y47.partition), (72, i6 y47.port), (60, i6 (cAt c k)), (63, i6 (stageOf y33)), (qzm6_59 w54)] ⟨w, w54.heap.size + 1, [(old0 w), (qzm6_28 z c), (qzm6_15 z), (qzm6_21 w2 c k), (qzm6_8 w2 c aP i cP aC csG cC), (qzm6_36 z aP c i cP), (qzm6_40 z csG), (qzm6_39 z aC csG cC), (qzm6_26 n24 y33), (mid (n24 + 1) w35), (qzm6_12 w54)]⟩ [0, 1, 2, 4, 5, 6, 7, 8, 9] (by as_aux_lemma => kernel_rfl) rfl trivial (.inr rfl) ?_
                 refine w_one 5 (by as_aux_lemma => kernel_rfl) rfl ?_
                 refine wo_call [] [] 75 #[i6 (stageOf y33), pt w2.heap.size] (some 64) (by as_aux_lemma => kernel_rfl) rfl rfl trivial ?_
                 intro w59 hw59
                 refine calls_G (args := [i6 (stageOf y33), pt w2.heap.size]) 10 ⟨w, w54.heap.size + 1, [(old0 w), (qzm6_28 z c), (qzm6_15 z), (qzm6_21 w2 c k), (qzm6_8 w2 c aP i cP aC csG cC), (qzm6_36 z aP c i cP), (qzm6_40 z csG), (qzm6_39 z aC csG cC), (qzm6_26 n24 y33), (mid (n24 + 1) w35), (qzm6_12 w54)]⟩ Tryd.func75 rfl (by kernel_rfl) (by kernel_rfl) hw59 ?_
                 refine q_c 17 0 [] [[o0], [(a1 3), o0], [(a1 3), o0, (ov (i6 (((cAt c k) + 2) + (stageOf y33)))), (a1 3)], [o0, o0]] [Qb w2.heap.size, Qb w2.heap.size, Wr (((cAt c k) + 2 : Int) + (stageOf y33)) (((cAt c k) + 2) + (stageOf y33)), Qb w2.heap.size] [(3, i6 ((cAt c k) + 2))] ⟨w, w54.heap.size + 1, [(old0 w), (qzm6_28 z c), (qzm6_15 z), (qzm6_16 w2 c k y33), (qzm6_8 w2 c aP i cP aC csG cC), (qzm6_36 z aP c i cP), (qzm6_40 z csG), (qzm6_39 z aC csG cC), (qzm6_26 n24 y33), (mid (n24 + 1) w35), (qzm6_12 w54)]⟩ rfl ⟨rfl, rfl, wrI, rfl, trivial⟩ ?_
                 refine e_ret [] [] (i6 ((cAt c k) + 2)) trivial ?_
                 intro w60 hw60
                 have hs61 := hw60
                 refine ⟨_, _, rfl, hs61, .inr (fun c hc => hs61.all c (by first | exact hc | exact picks_mem (is := [0, 1, 2, 4, 5, 6, 7, 8, 9]) rfl c hc)), ?_⟩
                 refine w_keep [1, 2, 4, 5, 46, 47, 48, 7, 9, 68, 72, 60, 10, 64] [(1, pt z), (qzm6_63 z), (qzm6_48 w2), (qzm6_58 w2), (qzm6_45 b26 o27 c), (qzm6_57 c), (48, i6 (k : Int)), (qzm6_65 n24), (qzm6_54 ax38 c k cp39), (68, i6 y47.partition), (72, i6 y47.port), (60, i6 (cAt c k)), (qzm6_59 w54), (64, i6 ((cAt c k) + 2))] ?_
                 refine w_take [(14, o0)] [1, 2, 4, 5, 46, 47, 48, 7, 9, 10, 73] [] [true, true, true, true, true, true, true, true, true, true, true, true, true, true, true, true, false] [(1, pt z), (qzm6_63 z), (qzm6_48 w2), (qzm6_58 w2), (qzm6_45 b26 o27 c), (qzm6_57 c), (48, i6 (k : Int)), (qzm6_65 n24), (qzm6_54 ax38 c k cp39), (qzm6_59 w54), (qzm6_42 c k y47)] rfl (by as_aux_lemma => kernel_rfl) (by as_aux_lemma => kernel_rfl) trivial ?_
                 refine w_one 16 (by as_aux_lemma => kernel_rfl) rfl ?_
                 refine wo_eff (an 5 10) [1, 2, 4, 5, 46, 47, 48, 7, 9, 10] [Qb w54.heap.size, Qb w54.heap.size, Qb w54.heap.size, Qb w54.heap.size, Qb w54.heap.size] [(1, pt z), (qzm6_63 z), (qzm6_48 w2), (qzm6_58 w2), (qzm6_45 b26 o27 c), (qzm6_57 c), (48, i6 (k : Int)), (qzm6_65 n24), (qzm6_54 ax38 c k cp39), (qzm6_59 w54)] ⟨w, w54.heap.size + 1, (qzm6_67 w z c w2 k y33 aP i cP aC csG cC n24 w35 w54 y47)⟩ [] (by as_aux_lemma => kernel_rfl) rfl ⟨rfl, rfl, rfl, rfl, rfl, trivial⟩ (.inl rfl) ?_
                 refine w_free 17 [0, 1, 2, 3, 4, 5, 6, 7, 8, 9, 10] (qzm6_67 w z c w2 k y33 aP i cP aC csG cC n24 w35 w54 y47) rfl rfl ?_
                 refine w_done (by as_aux_lemma => kernel_rfl) ?_
                 refine e_keep [1, 2, 4, 5, 46, 47, 48, 7, 9, 10] [(1, pt z), (qzm6_63 z), (qzm6_48 w2), (qzm6_58 w2), (qzm6_45 b26 o27 c), (qzm6_57 c), (48, i6 (k : Int)), (qzm6_65 n24), (qzm6_54 ax38 c k cp39), (qzm6_59 w54)] ?_
                 refine e_pick [0, 1, 2, 3, 4, 5, 6, 7, 8, 9, 10] (qzm6_67 w z c w2 k y33 aP i cP aC csG cC n24 w35 w54 y47) rfl rfl ?_
                 exact hK ⟨(w54.heap.size + 1, w54.heap.size), by first | omega | (dsimp only; omega)⟩
             · refine wo_eff o0 [1, 2, 4, 5, 46, 47, 48, 7, 9, 61, 62, 68, 72, 60, 10] [] [(1, pt z), (qzm6_63 z), (qzm6_48 w2), (qzm6_58 w2), (qzm6_45 b26 o27 c), (qzm6_57 c), (48, i6 (k : Int)), (qzm6_65 n24), (qzm6_54 ax38 c k cp39), (qzm6_47 w2), (62, .agg (TChannel.arr y33)), (68, i6 y47.partition), (72, i6 y47.port), (60, i6 (cAt c k)), (qzm6_60 w35)] ⟨w, w35.heap.size + 1, (qzm6_69 w z c w2 k aP i cP aC csG cC n24 y33 w35)⟩ [0, 1, 2, 4, 5, 6, 7, 8, 9] (by as_aux_lemma => kernel_rfl) rfl trivial (.inr rfl) ?_
               refine w_one 4 (by as_aux_lemma => kernel_rfl) rfl ?_
               refine wo_call [] [] 59 #[.agg (TChannel.arr y33)] (some 63) (by as_aux_lemma => kernel_rfl) rfl rfl trivial ?_
               intro w62 hw62
               refine (stage_calls w62 y33 (he32.ext (hw62.ext rfl) (fun _ h => h))).mono ?_
               rintro e w63 ⟨rfl, hkw63⟩
               have hnw63 : w35.heap.size + 1 ≤ w63.heap.size := size_of hw62 hkw63
               have hs64 := hw62.keeps hkw63
               refine ⟨_, _, rfl, hs64, .inr (fun c hc => hs64.all c (by first | exact hc | exact picks_mem (is := [0, 1, 2, 4, 5, 6, 7, 8, 9]) rfl c hc)), ?_⟩
               refine w_keep [1, 2, 4, 5, 46, 47, 48, 7, 9, 61, 68, 72, 60, 10, 63] [(1, pt z), (qzm6_63 z), (qzm6_48 w2), (qzm6_58 w2), (qzm6_45 b26 o27 c), (qzm6_57 c), (48, i6 (k : Int)), (qzm6_65 n24), (qzm6_54 ax38 c k cp39), (qzm6_47 w2), (68, i6 y47.partition), (72, i6 y47.port), (60, i6 (cAt c k)), (qzm6_60 w35), (63, i6 (stageOf y33))] ?_
               refine w_one 5 (by as_aux_lemma => kernel_rfl) rfl ?_
               refine wo_call [] [] 75 #[i6 (stageOf y33), pt w2.heap.size] (some 64) (by as_aux_lemma => kernel_rfl) rfl rfl trivial ?_
               intro w65 hw65
               refine calls_G (args := [i6 (stageOf y33), pt w2.heap.size]) 10 ⟨w, w63.heap.size, (qzm6_69 w z c w2 k aP i cP aC csG cC n24 y33 w35)⟩ Tryd.func75 rfl (by kernel_rfl) (by kernel_rfl) hw65 ?_
               refine q_c 17 0 [] [[o0], [(a1 3), o0], [(a1 3), o0, (ov (i6 (((cAt c k) + 2) + (stageOf y33)))), (a1 3)], [o0, o0]] [Qb w2.heap.size, Qb w2.heap.size, Wr (((cAt c k) + 2 : Int) + (stageOf y33)) (((cAt c k) + 2) + (stageOf y33)), Qb w2.heap.size] [(3, i6 ((cAt c k) + 2))] ⟨w, w63.heap.size, [(old0 w), (qzm6_28 z c), (qzm6_15 z), (qzm6_16 w2 c k y33), (qzm6_8 w2 c aP i cP aC csG cC), (qzm6_36 z aP c i cP), (qzm6_40 z csG), (qzm6_39 z aC csG cC), (qzm6_26 n24 y33), (mid (n24 + 1) w35), (qzm6_13 w35)]⟩ rfl ⟨rfl, rfl, wrI, rfl, trivial⟩ ?_
               refine e_ret [] [] (i6 ((cAt c k) + 2)) trivial ?_
               intro w66 hw66
               have hs67 := hw66
               refine ⟨_, _, rfl, hs67, .inr (fun c hc => hs67.all c (by first | exact hc | exact picks_mem (is := [0, 1, 2, 4, 5, 6, 7, 8, 9]) rfl c hc)), ?_⟩
               refine w_keep [1, 2, 4, 5, 46, 47, 48, 7, 9, 68, 72, 60, 10, 64] [(1, pt z), (qzm6_63 z), (qzm6_48 w2), (qzm6_58 w2), (qzm6_45 b26 o27 c), (qzm6_57 c), (48, i6 (k : Int)), (qzm6_65 n24), (qzm6_54 ax38 c k cp39), (68, i6 y47.partition), (72, i6 y47.port), (60, i6 (cAt c k)), (qzm6_60 w35), (64, i6 ((cAt c k) + 2))] ?_
               refine w_take [(14, o0)] [1, 2, 4, 5, 46, 47, 48, 7, 9, 10, 73] [] [true, true, true, true, true, true, true, true, true, true, true, true, true, true, true, true, false] [(1, pt z), (qzm6_63 z), (qzm6_48 w2), (qzm6_58 w2), (qzm6_45 b26 o27 c), (qzm6_57 c), (48, i6 (k : Int)), (qzm6_65 n24), (qzm6_54 ax38 c k cp39), (qzm6_60 w35), (qzm6_42 c k y47)] rfl (by as_aux_lemma => kernel_rfl) (by as_aux_lemma => kernel_rfl) trivial ?_
               refine w_one 16 (by as_aux_lemma => kernel_rfl) rfl ?_
               refine wo_eff (an 5 10) [1, 2, 4, 5, 46, 47, 48, 7, 9, 10] [Qb w35.heap.size, Qb w35.heap.size, Qb w35.heap.size, Qb w35.heap.size, Qb w35.heap.size] [(1, pt z), (qzm6_63 z), (qzm6_48 w2), (qzm6_58 w2), (qzm6_45 b26 o27 c), (qzm6_57 c), (48, i6 (k : Int)), (qzm6_65 n24), (qzm6_54 ax38 c k cp39), (qzm6_60 w35)] ⟨w, w63.heap.size, (qzm6_68 w z c w2 k y33 aP i cP aC csG cC n24 w35 y47)⟩ [] (by as_aux_lemma => kernel_rfl) rfl ⟨rfl, rfl, rfl, rfl, rfl, trivial⟩ (.inl rfl) ?_
               refine w_free 17 [0, 1, 2, 3, 4, 5, 6, 7, 8, 9, 10] (qzm6_68 w z c w2 k y33 aP i cP aC csG cC n24 w35 y47) rfl rfl ?_
               refine w_done (by as_aux_lemma => kernel_rfl) ?_
               refine e_keep [1, 2, 4, 5, 46, 47, 48, 7, 9, 10] [(1, pt z), (qzm6_63 z), (qzm6_48 w2), (qzm6_58 w2), (qzm6_45 b26 o27 c), (qzm6_57 c), (48, i6 (k : Int)), (qzm6_65 n24), (qzm6_54 ax38 c k cp39), (qzm6_60 w35)] ?_
               refine e_pick [0, 1, 2, 3, 4, 5, 6, 7, 8, 9, 10] (qzm6_68 w z c w2 k y33 aP i cP aC csG cC n24 w35 y47) rfl rfl ?_
               exact hK ⟨(w63.heap.size, w35.heap.size), by first | omega | (dsimp only; omega)⟩
           · refine wo_eff o0 [1, 2, 4, 5, 46, 47, 48, 7, 9, 59, 61, 62, 68, 72, 10] [] [(1, pt z), (qzm6_63 z), (qzm6_48 w2), (qzm6_58 w2), (qzm6_45 b26 o27 c), (qzm6_57 c), (48, i6 (k : Int)), (qzm6_65 n24), (qzm6_54 ax38 c k cp39), (59, .func (.func 75) #[] #[pt w2.heap.size]), (qzm6_47 w2), (62, .agg (TChannel.arr y33)), (68, i6 y47.partition), (72, i6 y47.port), (qzm6_60 w35)] ⟨w, w35.heap.size + 1, [(old0 w), (qzm6_28 z c), (qzm6_15 z), (qzm6_23 w2 c k), (qzm6_8 w2 c aP i cP aC csG cC), (qzm6_36 z aP c i cP), (qzm6_40 z csG), (qzm6_39 z aC csG cC), (qzm6_26 n24 y33), (mid (n24 + 1) w35), (qzm6_13 w35)]⟩ [0, 1, 2, 4, 5, 6, 7, 8, 9] (by as_aux_lemma => kernel_rfl) rfl trivial (.inr rfl) ?_
             refine w_one 1 (by as_aux_lemma => kernel_rfl) rfl ?_
             refine wo_call [] [] 75 #[i6 2, pt w2.heap.size] (some 60) (by as_aux_lemma => kernel_rfl) rfl rfl trivial ?_
             intro w68 hw68
             refine calls_G (args := [i6 2, pt w2.heap.size]) 10 ⟨w, w35.heap.size + 1, [(old0 w), (qzm6_28 z c), (qzm6_15 z), (qzm6_23 w2 c k), (qzm6_8 w2 c aP i cP aC csG cC), (qzm6_36 z aP c i cP), (qzm6_40 z csG), (qzm6_39 z aC csG cC), (qzm6_26 n24 y33), (mid (n24 + 1) w35), (qzm6_13 w35)]⟩ Tryd.func75 rfl (by kernel_rfl) (by kernel_rfl) hw68 ?_
             refine q_c 17 0 [] [[o0], [(a1 3), o0], [(a1 3), o0, (ov (i6 ((cAt c k) + 2))), (a1 3)], [o0, o0]] [Qb w2.heap.size, Qb w2.heap.size, Wr ((cAt c k : Int) + 2) ((cAt c k) + 2), Qb w2.heap.size] [(3, i6 (cAt c k))] ⟨w, w35.heap.size + 1, (qzm6_69 w z c w2 k aP i cP aC csG cC n24 y33 w35)⟩ rfl ⟨rfl, rfl, wrI, rfl, trivial⟩ ?_
             refine e_ret [] [] (i6 (cAt c k)) trivial ?_
             intro w69 hw69
             have hs70 := hw69
             refine ⟨_, _, rfl, hs70, .inr (fun c hc => hs70.all c (by first | exact hc | exact picks_mem (is := [0, 1, 2, 4, 5, 6, 7, 8, 9]) rfl c hc)), ?_⟩
             refine w_keep [1, 2, 4, 5, 46, 47, 48, 7, 9, 61, 62, 68, 72, 10, 60] [(1, pt z), (qzm6_63 z), (qzm6_48 w2), (qzm6_58 w2), (qzm6_45 b26 o27 c), (qzm6_57 c), (48, i6 (k : Int)), (qzm6_65 n24), (qzm6_54 ax38 c k cp39), (qzm6_47 w2), (62, .agg (TChannel.arr y33)), (68, i6 y47.partition), (72, i6 y47.port), (qzm6_60 w35), (60, i6 (cAt c k))] ?_
             refine w_one 4 (by as_aux_lemma => kernel_rfl) rfl ?_
             refine wo_call [] [] 59 #[.agg (TChannel.arr y33)] (some 63) (by as_aux_lemma => kernel_rfl) rfl rfl trivial ?_
             intro w71 hw71
             refine (stage_calls w71 y33 (he32.ext (hw71.ext rfl) (fun _ h => h))).mono ?_
             rintro e w72 ⟨rfl, hkw72⟩
             have hnw72 : w35.heap.size + 1 ≤ w72.heap.size := size_of hw71 hkw72
             have hs73 := hw71.keeps hkw72
             refine ⟨_, _, rfl, hs73, .inr (fun c hc => hs73.all c (by first | exact hc | exact picks_mem (is := [0, 1, 2, 4, 5, 6, 7, 8, 9]) rfl c hc)), ?_⟩
             refine w_keep [1, 2, 4, 5, 46, 47, 48, 7, 9, 61, 68, 72, 10, 60, 63] [(1, pt z), (qzm6_63 z), (qzm6_48 w2), (qzm6_58 w2), (qzm6_45 b26 o27 c), (qzm6_57 c), (48, i6 (k : Int)), (qzm6_65 n24), (qzm6_54 ax38 c k cp39), (qzm6_47 w2), (68, i6 y47.partition), (72, i6 y47.port), (qzm6_60 w35), (60, i6 (cAt c k)), (63, i6 (stageOf y33))] ?_
             refine w_one 5 (by as_aux_lemma => kernel_rfl) rfl ?_
             refine wo_call [] [] 75 #[i6 (stageOf y33), pt w2.heap.size] (some 64) (by as_aux_lemma => kernel_rfl) rfl rfl trivial ?_
             intro w74 hw74
             refine calls_G (args := [i6 (stageOf y33), pt w2.heap.size]) 10 ⟨w, w72.heap.size, (qzm6_69 w z c w2 k aP i cP aC csG cC n24 y33 w35)⟩ Tryd.func75 rfl (by kernel_rfl) (by kernel_rfl) hw74 ?_
             refine q_c 17 0 [] [[o0], [(a1 3), o0], [(a1 3), o0, (ov (i6 (((cAt c k) + 2) + (stageOf y33)))), (a1 3)], [o0, o0]] [Qb w2.heap.size, Qb w2.heap.size, Wr (((cAt c k) + 2 : Int) + (stageOf y33)) (((cAt c k) + 2) + (stageOf y33)), Qb w2.heap.size] [(3, i6 ((cAt c k) + 2))] ⟨w, w72.heap.size, [(old0 w), (qzm6_28 z c), (qzm6_15 z), (qzm6_16 w2 c k y33), (qzm6_8 w2 c aP i cP aC csG cC), (qzm6_36 z aP c i cP), (qzm6_40 z csG), (qzm6_39 z aC csG cC), (qzm6_26 n24 y33), (mid (n24 + 1) w35), (qzm6_13 w35)]⟩ rfl ⟨rfl, rfl, wrI, rfl, trivial⟩ ?_
             refine e_ret [] [] (i6 ((cAt c k) + 2)) trivial ?_
             intro w75 hw75
             have hs76 := hw75
             refine ⟨_, _, rfl, hs76, .inr (fun c hc => hs76.all c (by first | exact hc | exact picks_mem (is := [0, 1, 2, 4, 5, 6, 7, 8, 9]) rfl c hc)), ?_⟩
             refine w_keep [1, 2, 4, 5, 46, 47, 48, 7, 9, 68, 72, 10, 60, 64] [(1, pt z), (qzm6_63 z), (qzm6_48 w2), (qzm6_58 w2), (qzm6_45 b26 o27 c), (qzm6_57 c), (48, i6 (k : Int)), (qzm6_65 n24), (qzm6_54 ax38 c k cp39), (68, i6 y47.partition), (72, i6 y47.port), (qzm6_60 w35), (60, i6 (cAt c k)), (64, i6 ((cAt c k) + 2))] ?_
             refine w_take [(14, o0)] [1, 2, 4, 5, 46, 47, 48, 7, 9, 10, 73] [] [true, true, true, true, true, true, true, true, true, true, true, true, true, true, true, true, false] [(1, pt z), (qzm6_63 z), (qzm6_48 w2), (qzm6_58 w2), (qzm6_45 b26 o27 c), (qzm6_57 c), (48, i6 (k : Int)), (qzm6_65 n24), (qzm6_54 ax38 c k cp39), (qzm6_60 w35), (qzm6_42 c k y47)] rfl (by as_aux_lemma => kernel_rfl) (by as_aux_lemma => kernel_rfl) trivial ?_
             refine w_one 16 (by as_aux_lemma => kernel_rfl) rfl ?_
             refine wo_eff (an 5 10) [1, 2, 4, 5, 46, 47, 48, 7, 9, 10] [Qb w35.heap.size, Qb w35.heap.size, Qb w35.heap.size, Qb w35.heap.size, Qb w35.heap.size] [(1, pt z), (qzm6_63 z), (qzm6_48 w2), (qzm6_58 w2), (qzm6_45 b26 o27 c), (qzm6_57 c), (48, i6 (k : Int)), (qzm6_65 n24), (qzm6_54 ax38 c k cp39), (qzm6_60 w35)] ⟨w, w72.heap.size, (qzm6_68 w z c w2 k y33 aP i cP aC csG cC n24 w35 y47)⟩ [] (by as_aux_lemma => kernel_rfl) rfl ⟨rfl, rfl, rfl, rfl, rfl, trivial⟩ (.inl rfl) ?_
             refine w_free 17 [0, 1, 2, 3, 4, 5, 6, 7, 8, 9, 10] (qzm6_68 w z c w2 k y33 aP i cP aC csG cC n24 w35 y47) rfl rfl ?_
             refine w_done (by as_aux_lemma => kernel_rfl) ?_
             refine e_keep [1, 2, 4, 5, 46, 47, 48, 7, 9, 10] [(1, pt z), (qzm6_63 z), (qzm6_48 w2), (qzm6_58 w2), (qzm6_45 b26 o27 c), (qzm6_57 c), (48, i6 (k : Int)), (qzm6_65 n24), (qzm6_54 ax38 c k cp39), (qzm6_60 w35)] ?_
             refine e_pick [0, 1, 2, 3, 4, 5, 6, 7, 8, 9, 10] (qzm6_68 w z c w2 k y33 aP i cP aC csG cC n24 w35 y47) rfl rfl ?_
             exact hK ⟨(w72.heap.size, w35.heap.size), by first | omega | (dsimp only; omega)⟩
         rintro ⟨⟨n48, b49⟩, hJ77⟩
         simp only at hJ77
         show E _ _ [(1, pt z), (qzm6_63 z), (qzm6_48 w2), (qzm6_58 w2), (qzm6_45 b26 o27 c), (qzm6_57 c), (48, i6 (k : Int)), (qzm6_65 n24), (qzm6_54 ax38 c k cp39), (qzm6_64 b49)] _ ⟨w, n48, [(old0 w), (qzm6_28 z c), (qzm6_15 z), (qzm6_16 w2 c k y33), (qzm6_8 w2 c aP i cP aC csG cC), (qzm6_36 z aP c i cP), (qzm6_40 z csG), (qzm6_39 z aC csG cC), (qzm6_26 n24 y33), (mid (n24 + 1) w35), (bk b49 #[i6 (cAt c k), i6 ((cAt c k) + 2), i6 y47.partition, i6 y47.port, .slice none 0 0] 104)]⟩ _ _ _
         refine q_oS 7 0 [] [[o0, o0, o0]] [] [(1, pt z), (qzm6_63 z), (qzm6_48 w2), (qzm6_58 w2), (qzm6_45 b26 o27 c), (qzm6_57 c), (48, i6 (k : Int)), (qzm6_65 n24), (qzm6_64 b49), (qzm6_53 ax38 c k cp39), (qzm6_50 c k), (76, i6 0)] rfl trivial ?_
         refine g_rowL z 106 3 TDestPlace.cells ?_
         refine g_keep [1, 2, 4, 5, 7, 10, 46, 47, 48, 74, 75, 76] [(1, pt z), (qzm6_63 z), (qzm6_48 w2), (qzm6_58 w2), (qzm6_65 n24), (qzm6_64 b49), (qzm6_45 b26 o27 c), (qzm6_57 c), (48, i6 (k : Int)), (qzm6_53 ax38 c k cp39), (qzm6_50 c k), (76, i6 0)] ?_
         refine g_loop (fun m a w' => ∃ (n79 : Nat) (j : Nat) (aD : Option Addr) (cD : Nat), m = (endsOf c (k : Int) false).length - j ∧ n48 ≤ n79 ∧ (j ≤ (endsOf c (k : Int) false).length) ∧ St 148 [(1, pt z), (qzm6_63 z), (qzm6_48 w2), (qzm6_58 w2), (qzm6_65 n24), (qzm6_64 b49), (qzm6_45 b26 o27 c), (qzm6_57 c), (48, i6 (k : Int)), (qzm6_53 ax38 c k cp39), (qzm6_50 c k), (76, i6 (j : Int))] [] ⟨w, n79, [(old0 w), (qzm6_28 z c), (qzm6_15 z), (qzm6_22 w2 c k j), (qzm6_8 w2 c aP i cP aC csG cC), (qzm6_36 z aP c i cP), (qzm6_40 z csG), (qzm6_39 z aC csG cC), (qzm6_26 n24 y33), (mid (n24 + 1) w35), (qzm6_3 b49 c k y47 aD j cD), (qzm6_37 z aD c k j cD)]⟩ a w') ((endsOf c (k : Int) false).length - 0) ?_ ?_
         · intro a w' hs; exact ⟨n48, 0, none, 0, rfl, Nat.le_refl _, Nat.zero_le _, by (try dsimp only [qzm6_0, qzm6_1, qzm6_2, qzm6_3, qzm6_4, qzm6_5, qzm6_6, qzm6_7, qzm6_8, qzm6_9, qzm6_10, qzm6_11, qzm6_12, qzm6_13, qzm6_14, qzm6_15, qzm6_16, qzm6_17, qzm6_18, qzm6_19, qzm6_20, qzm6_21, qzm6_22, qzm6_23, qzm6_24, qzm6_25, qzm6_26, qzm6_27, qzm6_28, qzm6_29, qzm6_30, qzm6_31, qzm6_32, qzm6_33, qzm6_34, qzm6_35, qzm6_36, qzm6_37, qzm6_38, qzm6_39, qzm6_40, qzm6_41, qzm6_42, qzm6_43, qzm6_44, qzm6_45, qzm6_46, qzm6_47, qzm6_48, qzm6_49, qzm6_50, qzm6_51, qzm6_52, qzm6_53, qzm6_54, qzm6_55, qzm6_56, qzm6_57, qzm6_58, qzm6_59, qzm6_60, qzm6_61, qzm6_62, qzm6_63, qzm6_64, qzm6_65, qzm6_66, qzm6_67, qzm6_68, qzm6_69, qzm6_70, qzm6_71, qzm6_72] at hs ⊢); rw [show dAt c k 0 = ((cAt c k) + 2) + (stageOf y33) from by unfold dAt; rw [← hy33]; omega]; exact hs⟩
         · rintro m a w' ⟨n79, j, aD, cD, rfl, hn78, hkj, hs⟩
           refine (?_ : G Tryd.prog 148 [(1, pt z), (qzm6_63 z), (qzm6_48 w2), (qzm6_58 w2), (qzm6_65 n24), (qzm6_64 b49), (qzm6_45 b26 o27 c), (qzm6_57 c), (48, i6 (k : Int)), (qzm6_53 ax38 c k cp39), (qzm6_50 c k), (76, i6 (j : Int))] [] ⟨w, n79, [(old0 w), (qzm6_28 z c), (qzm6_15 z), (qzm6_22 w2 c k j), (qzm6_8 w2 c aP i cP aC csG cC), (qzm6_36 z aP c i cP), (qzm6_40 z csG), (qzm6_39 z aC csG cC), (qzm6_26 n24 y33), (mid (n24 + 1) w35), (qzm6_3 b49 c k y47 aD j cD), (qzm6_37 z aD c k j cD)]⟩ _ _ _) a w' hs
           clear hs a w'
           have hdb := dAt_bd hfine (show k < c.Channels.xs.length by omega) (show j ≤ 4 by unfold nDest at hEd; omega)
           have hdl : (destsUp c k j).length = j := destsUp_len
           refine g_seq ?_
           by_cases h80 : ((j : Int) : Int) < (((endsOf c (k : Int) false).length : Nat) : Int)
           · refine q_cS 10 0 [1] [[oT]] [BT (((j : Int) : Int) < (((endsOf c (k : Int) false).length : Nat) : Int))] [(1, pt z), (qzm6_63 z), (qzm6_48 w2), (qzm6_58 w2), (qzm6_65 n24), (qzm6_64 b49), (qzm6_45 b26 o27 c), (qzm6_57 c), (48, i6 (k : Int)), (qzm6_53 ax38 c k cp39), (qzm6_50 c k), (76, i6 (j : Int)), (77, .bool true)] rfl ⟨bt (by omega), trivial⟩ ?_
             obtain ⟨b81, o82, ha83, hF85, hc84⟩ := ((⟨hDw35, ends_ink hfine⟩ : SlOk Tend.cells 2 Tend.ok _ _ _)).1.all (show 0 < (endsOf c (k : Int) false).length by omega)
             replace ha83 : ax38 = some ⟨b81, o82, none⟩ := ha83
             refine g_eq [(1, pt z), (qzm6_63 z), (qzm6_48 w2), (qzm6_58 w2), (qzm6_65 n24), (qzm6_64 b49), (qzm6_45 b26 o27 c), (qzm6_57 c), (48, i6 (k : Int)), (qzm6_44 b81 o82 c k cp39), (qzm6_50 c k), (76, i6 (j : Int)), (77, .bool true)] (by (try dsimp only [qzm6_0, qzm6_1, qzm6_2, qzm6_3, qzm6_4, qzm6_5, qzm6_6, qzm6_7, qzm6_8, qzm6_9, qzm6_10, qzm6_11, qzm6_12, qzm6_13, qzm6_14, qzm6_15, qzm6_16, qzm6_17, qzm6_18, qzm6_19, qzm6_20, qzm6_21, qzm6_22, qzm6_23, qzm6_24, qzm6_25, qzm6_26, qzm6_27, qzm6_28, qzm6_29, qzm6_30, qzm6_31, qzm6_32, qzm6_33, qzm6_34, qzm6_35, qzm6_36, qzm6_37, qzm6_38, qzm6_39, qzm6_40, qzm6_41, qzm6_42, qzm6_43, qzm6_44, qzm6_45, qzm6_46, qzm6_47, qzm6_48, qzm6_49, qzm6_50, qzm6_51, qzm6_52, qzm6_53, qzm6_54, qzm6_55, qzm6_56, qzm6_57, qzm6_58, qzm6_59, qzm6_60, qzm6_61, qzm6_62, qzm6_63, qzm6_64, qzm6_65, qzm6_66, qzm6_67, qzm6_68, qzm6_69, qzm6_70, qzm6_71, qzm6_72]); simp only [ha83]) ?_
             have hc86 := hc84 j (show j < (endsOf c (k : Int) false).length by omega)
             have he87 := ((⟨hDw35, ends_ink hfine⟩ : SlOk Tend.cells 2 Tend.ok _ _ _)).2 j (show j < (endsOf c (k : Int) false).length by omega)
             obtain ⟨y88, hy88⟩ : ∃ y_, y_ = gd (⟨ax38, cp39, endsOf c (k : Int) false⟩ : Sl Tend).xs j := ⟨_, rfl⟩
             rw [← hy88] at he87 hc86
             refine q_c 3 0 [] [[(oi j), (oa [.via 9 (i6 y88.partition), .via 9 (i6 y88.port)]), o0, (an 2 12)]] [((j : Int) : Int) = ((j : Nat) : Int), j < (endsOf c (k : Int) false).length, (none : Option Nat) = none, ∀ w', Ch.holds (mid (n24 + 1) w35) w' → w'.cell? ⟨b81, o82 + j * 2, none⟩ = some (i6 y88.partition), ∀ w', Ch.holds (mid (n24 + 1) w35) w' → w'.cell? ⟨b81, o82 + j * 2 + 1, none⟩ = some (i6 y88.port), Qb n79, Qb n79] [(1, pt z), (qzm6_63 z), (qzm6_48 w2), (qzm6_58 w2), (qzm6_65 n24), (qzm6_64 b49), (qzm6_45 b26 o27 c), (qzm6_57 c), (48, i6 (k : Int)), (qzm6_44 b81 o82 c k cp39), (qzm6_50 c k), (76, i6 (j : Int)), (12, pt n79)] ⟨w, n79 + 1, [(old0 w), (qzm6_28 z c), (qzm6_15 z), (qzm6_22 w2 c k j), (qzm6_8 w2 c aP i cP aC csG cC), (qzm6_36 z aP c i cP), (qzm6_40 z csG), (qzm6_39 z aC csG cC), (qzm6_26 n24 y33), (mid (n24 + 1) w35), (qzm6_3 b49 c k y47 aD j cD), (qzm6_37 z aD c k j cD), (qzm6_27 n79 y88)]⟩ rfl ⟨rfl, (by omega), rfl, mid_cell hF85 (hc86 0 _ rfl), mid_cell hF85 (hc86 1 _ rfl), rfl, rfl, trivial⟩ ?_
             refine g_draw 14 [0, 1, 2, 4, 5, 6, 7, 8, 9, 10, 12] [(old0 w), (qzm6_28 z c), (qzm6_15 z), (qzm6_8 w2 c aP i cP aC csG cC), (qzm6_36 z aP c i cP), (qzm6_40 z csG), (qzm6_39 z aC csG cC), (qzm6_26 n24 y33), (mid (n24 + 1) w35), (qzm6_3 b49 c k y47 aD j cD), (qzm6_27 n79 y88)] rfl rfl ?_
             refine w_take [(0, o0), (1, (a1 9)), (2, o0), (3, (a1 10)), (4, o0), (5, (a1 10)), (6, o0), (7, (an 3 7))] [1, 2, 4, 5, 7, 10, 46, 47, 48, 74, 75, 76, 81, 83, 85, 86, 87] [Qb b49, Qb n79, Qb n79, Qb n24, Qb n24, Qb n24] [true, true, true, true, true, true, true, true, false, false, false, false, false, false, false] [(1, pt z), (qzm6_63 z), (qzm6_48 w2), (qzm6_58 w2), (qzm6_65 n24), (qzm6_64 b49), (qzm6_45 b26 o27 c), (qzm6_57 c), (48, i6 (k : Int)), (qzm6_44 b81 o82 c k cp39), (qzm6_50 c k), (76, i6 (j : Int)), (81, .slice aD ((destsUp c k j).length) cD), (83, i6 y88.partition), (85, i6 y88.port), (86, .func (.func 75) #[] #[pt w2.heap.size]), (87, .agg (TChannel.arr y33))] rfl (by as_aux_lemma => kernel_rfl) (by as_aux_lemma => kernel_rfl) ⟨rfl, rfl, rfl, rfl, rfl, rfl, trivial⟩ ?_
             refine w_one 8 (by as_aux_lemma => kernel_rfl) rfl ?_
             refine wo_call [] [] 60 #[.agg (TChannel.arr y33)] (some 88) (by as_aux_lemma => kernel_rfl) rfl rfl trivial ?_
             intro w89 hw89
             refine (port_calls w89 y33 (he32.ext (hw89.ext rfl) (fun _ h => h))).mono ?_
             rintro e w90 ⟨rfl, hkw90⟩
             have hnw90 : n79 + 1 ≤ w90.heap.size := size_of hw89 hkw90
             have hs91 := hw89.keeps hkw90
             refine ⟨_, _, rfl, hs91, .inr (fun c hc => hs91.all c (by first | exact hc | exact picks_mem (is := [0, 1, 2, 4, 5, 6, 7, 8, 9, 10, 12]) rfl c hc)), ?_⟩
             refine w_keep [1, 2, 4, 5, 7, 10, 46, 47, 48, 74, 75, 76, 81, 83, 85, 86, 88] [(1, pt z), (qzm6_63 z), (qzm6_48 w2), (qzm6_58 w2), (qzm6_65 n24), (qzm6_64 b49), (qzm6_45 b26 o27 c), (qzm6_57 c), (48, i6 (k : Int)), (qzm6_44 b81 o82 c k cp39), (qzm6_50 c k), (76, i6 (j : Int)), (81, .slice aD ((destsUp c k j).length) cD), (83, i6 y88.partition), (85, i6 y88.port), (86, .func (.func 75) #[] #[pt w2.heap.size]), (88, i6 (portOf y33))] ?_
             refine w_one 9 (by as_aux_lemma => kernel_rfl) rfl ?_
             refine wo_call [] [] 75 #[i6 (portOf y33), pt w2.heap.size] (some 89) (by as_aux_lemma => kernel_rfl) rfl rfl trivial ?_
             intro w92 hw92
             refine calls_G (args := [i6 (portOf y33), pt w2.heap.size]) 10 ⟨w, w90.heap.size, [(old0 w), (qzm6_28 z c), (qzm6_15 z), (qzm6_22 w2 c k j), (qzm6_8 w2 c aP i cP aC csG cC), (qzm6_36 z aP c i cP), (qzm6_40 z csG), (qzm6_39 z aC csG cC), (qzm6_26 n24 y33), (mid (n24 + 1) w35), (qzm6_3 b49 c k y47 aD j cD), (qzm6_37 z aD c k j cD), (qzm6_27 n79 y88)]⟩ Tryd.func75 rfl (by kernel_rfl) (by kernel_rfl) hw92 ?_
             refine q_c 17 0 [] [[o0], [(a1 3), o0], [(a1 3), o0, (ov (i6 ((dAt c k j) + (portOf y33)))), (a1 3)], [o0, o0]] [Qb w2.heap.size, Qb w2.heap.size, Wr ((dAt c k j : Int) + (portOf y33)) ((dAt c k j) + (portOf y33)), Qb w2.heap.size] [(3, i6 (dAt c k j))] ⟨w, w90.heap.size, [(old0 w), (qzm6_28 z c), (qzm6_15 z), (qzm6_18 w2 c k j y33), (qzm6_8 w2 c aP i cP aC csG cC), (qzm6_36 z aP c i cP), (qzm6_40 z csG), (qzm6_39 z aC csG cC), (qzm6_26 n24 y33), (mid (n24 + 1) w35), (qzm6_3 b49 c k y47 aD j cD), (qzm6_37 z aD c k j cD), (qzm6_27 n79 y88)]⟩ rfl ⟨rfl, rfl, wrI, rfl, trivial⟩ ?_
             refine e_ret [] [] (i6 (dAt c k j)) trivial ?_
             intro w93 hw93
             have hs94 := hw93
             refine ⟨_, _, rfl, hs94, .inr (fun c hc => hs94.all c (by first | exact hc | exact picks_mem (is := [0, 1, 2, 4, 5, 6, 7, 8, 9, 10, 12]) rfl c hc)), ?_⟩
             refine w_keep [1, 2, 4, 5, 7, 10, 46, 47, 48, 74, 75, 76, 81, 83, 85, 89] [(1, pt z), (qzm6_63 z), (qzm6_48 w2), (qzm6_58 w2), (qzm6_65 n24), (qzm6_64 b49), (qzm6_45 b26 o27 c), (qzm6_57 c), (48, i6 (k : Int)), (qzm6_44 b81 o82 c k cp39), (qzm6_50 c k), (76, i6 (j : Int)), (81, .slice aD ((destsUp c k j).length) cD), (83, i6 y88.partition), (85, i6 y88.port), (89, i6 (dAt c k j))] ?_
             refine w_take [(10, o0)] [1, 2, 4, 5, 7, 10, 46, 47, 48, 74, 75, 76, 81, 90] [] [true, true, true, true, true, true, true, true, true, true, true, false, false, false, false] [(1, pt z), (qzm6_63 z), (qzm6_48 w2), (qzm6_58 w2), (qzm6_65 n24), (qzm6_64 b49), (qzm6_45 b26 o27 c), (qzm6_57 c), (48, i6 (k : Int)), (qzm6_44 b81 o82 c k cp39), (qzm6_50 c k), (76, i6 (j : Int)), (81, .slice aD ((destsUp c k j).length) cD), (90, .agg #[i6 y88.partition, i6 y88.port, i6 (dAt c k j)])] rfl (by as_aux_lemma => kernel_rfl) (by as_aux_lemma => kernel_rfl) trivial ?_
             refine w_one 11 (by as_aux_lemma => kernel_rfl) rfl ?_
             refine wo_eff o0 [1, 2, 4, 5, 7, 10, 46, 47, 48, 74, 75, 76, 81, 91] [] [(1, pt z), (qzm6_63 z), (qzm6_48 w2), (qzm6_58 w2), (qzm6_65 n24), (qzm6_64 b49), (qzm6_45 b26 o27 c), (qzm6_57 c), (48, i6 (k : Int)), (qzm6_44 b81 o82 c k cp39), (qzm6_50 c k), (76, i6 (j : Int)), (81, .slice aD ((destsUp c k j).length) cD), (91, .slice (some ⟨w90.heap.size, 0, none⟩) 1 1)] ⟨w, w90.heap.size + 1, [(old0 w), (qzm6_28 z c), (qzm6_15 z), (qzm6_18 w2 c k j y33), (qzm6_8 w2 c aP i cP aC csG cC), (qzm6_36 z aP c i cP), (qzm6_40 z csG), (qzm6_39 z aC csG cC), (qzm6_26 n24 y33), (mid (n24 + 1) w35), (qzm6_3 b49 c k y47 aD j cD), (qzm6_37 z aD c k j cD), (qzm6_27 n79 y88), (qzm6_14 w90 y88 c k j)]⟩ [0, 1, 2, 4, 5, 6, 7, 8, 9, 10, 12] (by as_aux_lemma => kernel_rfl) rfl trivial (.inr rfl) ?_
             refine w_one 12 (by as_aux_lemma => kernel_rfl) rfl ?_
             refine wo_push z 11 13 (destsUp c k j) [(⟨y88.partition, y88.port, dAt c k j⟩ : TDestPlace)] TDestPlace.cells 106 3 24 (.slice aD ((destsUp c k j).length) cD) w90.heap.size 1 1 #[i6 y88.partition, i6 y88.port, i6 (dAt c k j)] 106 (0, 0) true (some 92) [0, 1, 2, 4, 5, 6, 7, 8, 9, 10, 12] (by simp only [List.length_cons, List.length_nil]; omega) (show z ≤ w90.heap.size + 1 by omega) (.inr ⟨rfl, rfl⟩) (fun ax95 cp96 n97 (hn98 : w90.heap.size + 1 ≤ n97) => ?_)
             refine w_keep [1, 2, 4, 5, 7, 10, 46, 47, 48, 74, 75, 76, 92] [(1, pt z), (qzm6_63 z), (qzm6_48 w2), (qzm6_58 w2), (qzm6_65 n24), (qzm6_64 b49), (qzm6_45 b26 o27 c), (qzm6_57 c), (48, i6 (k : Int)), (qzm6_44 b81 o82 c k cp39), (qzm6_50 c k), (76, i6 (j : Int)), (92, .slice ax95 ((destsUp c k j ++ [(⟨y88.partition, y88.port, dAt c k j⟩ : TDestPlace)]).length) cp96)] ?_
             refine w_take [(13, o0)] [1, 2, 4, 5, 7, 10, 46, 47, 48, 74, 75, 76, 92, 93] [] [true, true, true, true, true, true, true, true, true, true, true, true, true, true, false] [(1, pt z), (qzm6_63 z), (qzm6_48 w2), (qzm6_58 w2), (qzm6_65 n24), (qzm6_64 b49), (qzm6_45 b26 o27 c), (qzm6_57 c), (48, i6 (k : Int)), (qzm6_44 b81 o82 c k cp39), (qzm6_50 c k), (76, i6 (j : Int)), (92, .slice ax95 ((destsUp c k j ++ [(⟨y88.partition, y88.port, dAt c k j⟩ : TDestPlace)]).length) cp96), (93, .pointer (some ⟨b49, 4, none⟩))] rfl (by as_aux_lemma => kernel_rfl) (by as_aux_lemma => kernel_rfl) trivial ?_
             refine w_one 14 (by as_aux_lemma => kernel_rfl) rfl ?_
             refine wo_eff (a1 10) [1, 2, 4, 5, 7, 10, 46, 47, 48, 74, 75, 76] [Qb b49] [(1, pt z), (qzm6_63 z), (qzm6_48 w2), (qzm6_58 w2), (qzm6_65 n24), (qzm6_64 b49), (qzm6_45 b26 o27 c), (qzm6_57 c), (48, i6 (k : Int)), (qzm6_44 b81 o82 c k cp39), (qzm6_50 c k), (76, i6 (j : Int))] ⟨w, n97, [(old0 w), (qzm6_28 z c), (qzm6_15 z), (qzm6_18 w2 c k j y33), (qzm6_8 w2 c aP i cP aC csG cC), (qzm6_36 z aP c i cP), (qzm6_40 z csG), (qzm6_39 z aC csG cC), (qzm6_26 n24 y33), (mid (n24 + 1) w35), (qzm6_2 b49 c k y47 ax95 j y88 cp96), (qzm6_32 z ax95 c k j y88 cp96), (qzm6_27 n79 y88), (qzm6_14 w90 y88 c k j)]⟩ [] (by as_aux_lemma => kernel_rfl) rfl ⟨rfl, trivial⟩ (.inl rfl) ?_
             refine w_free 15 [0, 1, 2, 3, 4, 5, 6, 7, 8, 9, 10, 11, 12, 13] [(old0 w), (qzm6_28 z c), (qzm6_15 z), (qzm6_18 w2 c k j y33), (qzm6_8 w2 c aP i cP aC csG cC), (qzm6_36 z aP c i cP), (qzm6_40 z csG), (qzm6_39 z aC csG cC), (qzm6_26 n24 y33), (mid (n24 + 1) w35), (qzm6_2 b49 c k y47 ax95 j y88 cp96), (qzm6_32 z ax95 c k j y88 cp96), (qzm6_27 n79 y88), (qzm6_14 w90 y88 c k j)] rfl rfl ?_
             refine w_done (by as_aux_lemma => kernel_rfl) ?_
             refine q_oS 4 0 [] [[(ov (i6 ((j + 1 : Nat) : Int))), o0]] [Wr (((j : Int) : Int) + 1) (((j + 1 : Nat) : Int))] [(1, pt z), (qzm6_63 z), (qzm6_48 w2), (qzm6_58 w2), (qzm6_65 n24), (qzm6_64 b49), (qzm6_45 b26 o27 c), (qzm6_57 c), (48, i6 (k : Int)), (qzm6_44 b81 o82 c k cp39), (qzm6_50 c k), (76, i6 ((j + 1 : Nat) : Int))] rfl ⟨wrI, trivial⟩ ?_
             refine e_pick [0, 1, 2, 3, 4, 5, 6, 7, 8, 9, 10, 11] [(old0 w), (qzm6_28 z c), (qzm6_15 z), (qzm6_18 w2 c k j y33), (qzm6_8 w2 c aP i cP aC csG cC), (qzm6_36 z aP c i cP), (qzm6_40 z csG), (qzm6_39 z aC csG cC), (qzm6_26 n24 y33), (mid (n24 + 1) w35), (qzm6_2 b49 c k y47 ax95 j y88 cp96), (qzm6_32 z ax95 c k j y88 cp96)] rfl rfl ?_
             refine e_eqk [1, 2, 4, 5, 7, 10, 46, 47, 48, 74, 75, 76] [(1, pt z), (qzm6_63 z), (qzm6_48 w2), (qzm6_58 w2), (qzm6_65 n24), (qzm6_64 b49), (qzm6_45 b26 o27 c), (qzm6_57 c), (48, i6 (k : Int)), (qzm6_53 ax38 c k cp39), (qzm6_50 c k), (76, i6 ((j + 1 : Nat) : Int))] (by (try dsimp only [qzm6_0, qzm6_1, qzm6_2, qzm6_3, qzm6_4, qzm6_5, qzm6_6, qzm6_7, qzm6_8, qzm6_9, qzm6_10, qzm6_11, qzm6_12, qzm6_13, qzm6_14, qzm6_15, qzm6_16, qzm6_17, qzm6_18, qzm6_19, qzm6_20, qzm6_21, qzm6_22, qzm6_23, qzm6_24, qzm6_25, qzm6_26, qzm6_27, qzm6_28, qzm6_29, qzm6_30, qzm6_31, qzm6_32, qzm6_33, qzm6_34, qzm6_35, qzm6_36, qzm6_37, qzm6_38, qzm6_39, qzm6_40, qzm6_41, qzm6_42, qzm6_43, qzm6_44, qzm6_45, qzm6_46, qzm6_47, qzm6_48, qzm6_49, qzm6_50, qzm6_51, qzm6_52, qzm6_53, qzm6_54, qzm6_55, qzm6_56, qzm6_57, qzm6_58, qzm6_59, qzm6_60, qzm6_61, qzm6_62, qzm6_63, qzm6_64, qzm6_65, qzm6_66, qzm6_67, qzm6_68, qzm6_69, qzm6_70, qzm6_71, qzm6_72]); simp only [ha83]; rfl) ?_
             refine e_inv (fun a w' hs => ⟨(endsOf c (k : Int) false).length - (j + 1), by omega, n97, (j + 1), ax95, cp96, rfl, by omega, by omega, by (try dsimp only [qzm6_0, qzm6_1, qzm6_2, qzm6_3, qzm6_4, qzm6_5, qzm6_6, qzm6_7, qzm6_8, qzm6_9, qzm6_10, qzm6_11, qzm6_12, qzm6_13, qzm6_14, qzm6_15, qzm6_16, qzm6_17, qzm6_18, qzm6_19, qzm6_20, qzm6_21, qzm6_22, qzm6_23, qzm6_24, qzm6_25, qzm6_26, qzm6_27, qzm6_28, qzm6_29, qzm6_30, qzm6_31, qzm6_32, qzm6_33, qzm6_34, qzm6_35, qzm6_36, qzm6_37, qzm6_38, qzm6_39, qzm6_40, qzm6_41, qzm6_42, qzm6_43, qzm6_44, qzm6_45, qzm6_46, qzm6_47, qzm6_48, qzm6_49, qzm6_50, qzm6_51, qzm6_52, qzm6_53, qzm6_54, qzm6_55, qzm6_56, qzm6_57, qzm6_58, qzm6_59, qzm6_60, qzm6_61, qzm6_62, qzm6_63, qzm6_64, qzm6_65, qzm6_66, qzm6_67, qzm6_68, qzm6_69, qzm6_70, qzm6_71, qzm6_72] at hs ⊢); rw [dAt_succ, destsUp_succ, ← hy33, show destAt c k j = ⟨y88.partition, y88.port, dAt c k j⟩ from by rw [hy88]; rfl]; exact hs⟩)
           · refine q_c 11 4 [0] [[oF], [o0, (a1 4), (an 5 10), o0]] [BF (((j : Int) : Int) < (((endsOf c (k : Int) false).length : Nat) : Int)), Qb (w2.heap.size + 1), Qb b49, Qb b49, Qb b49, Qb b49, Qb b49] [(1, pt z), (qzm6_63 z), (qzm6_48 w2), (qzm6_58 w2), (qzm6_45 b26 o27 c), (qzm6_57 c), (48, i6 (k : Int)), (96, .slice aC csG.length cC), (98, .slice (some ⟨n79, 0, none⟩) 1 1)] ⟨w, n79 + 1, [(old0 w), (qzm6_28 z c), (qzm6_15 z), (qzm6_22 w2 c k j), (qzm6_8 w2 c aP i cP aC csG cC), (qzm6_36 z aP c i cP), (qzm6_40 z csG), (qzm6_39 z aC csG cC), (qzm6_26 n24 y33), (mid (n24 + 1) w35), (qzm6_3 b49 c k y47 aD j cD), (qzm6_37 z aD c k j cD), (qzm6_4 n79 c k y47 aD j cD)]⟩ rfl ⟨bf (by omega), rfl, rfl, rfl, rfl, rfl, rfl, trivial⟩ ?_
             refine l_push z 7 12 csG [(⟨cAt c k, (cAt c k) + 2, y47.partition, y47.port, (⟨aD, cD, destsUp c k j⟩ : Sl TDestPlace)⟩ : TChannelPlace)] TChannelPlace.cells 104 5 56 (.slice aC csG.length cC) n79 1 1 #[i6 (cAt c k), i6 ((cAt c k) + 2), i6 y47.partition, i6 y47.port, .slice aD ((destsUp c k j).length) cD] 104 (0, 0) true (some 99) (by simp only [List.length_cons, List.length_nil]; omega) (show z ≤ n79 + 1 by omega) (fun ax99 cp100 n101 (hn102 : n79 + 1 ≤ n101) => ?_)
             refine q_r 5 0 [] [[o0, (a1 4)], [(ov (i6 ((k + 1 : Nat) : Int))), o0]] [Qb (w2.heap.size + 1), Wr (((k : Int) : Int) + 1) (((k + 1 : Nat) : Int))] [(1, pt z), (qzm6_63 z), (qzm6_48 w2), (qzm6_58 w2), (qzm6_45 b26 o27 c), (qzm6_57 c), (48, i6 ((k + 1 : Nat) : Int))] ⟨w, n101, [(old0 w), (qzm6_28 z c), (qzm6_15 z), (qzm6_22 w2 c k j), (qzm6_0 w2 c aP i cP ax99 csG k y47 aD cD j cp100), (qzm6_36 z aP c i cP), (qzm6_40 z csG), (qzm6_30 z ax99 csG c k y47 aD cD j cp100), (qzm6_26 n24 y33), (mid (n24 + 1) w35), (qzm6_3 b49 c k y47 aD j cD), (qzm6_37 z aD c k j cD), (qzm6_4 n79 c k y47 aD j cD)]⟩ rfl ⟨rfl, wrI, trivial⟩ ?_
             refine e_fam 6 11 [0, 1, 2, 3, 4, 5, 7, 8, 9, 10, 12] [(old0 w), (qzm6_28 z c), (qzm6_15 z), (qzm6_22 w2 c k j), (qzm6_0 w2 c aP i cP ax99 csG k y47 aD cD j cp100), (qzm6_36 z aP c i cP), (qzm6_30 z ax99 csG c k y47 aD cD j cp100), (qzm6_26 n24 y33), (mid (n24 + 1) w35), (qzm6_3 b49 c k y47 aD j cD), (qzm6_4 n79 c k y47 aD j cD)] ?_
             refine e_pick [0, 1, 2, 3, 4, 5, 11, 6] [(old0 w), (qzm6_28 z c), (qzm6_15 z), (qzm6_22 w2 c k j), (qzm6_0 w2 c aP i cP ax99 csG k y47 aD cD j cp100), (qzm6_36 z aP c i cP), (famC z 106 3 TDestPlace.cells (csG.map TChannelPlace.Dests ++ [⟨aD, cD, destsUp c k j⟩])), (qzm6_30 z ax99 csG c k y47 aD cD j cp100)] rfl rfl ?_
             refine e_eqk [1, 2, 4, 5, 46, 47, 48] [(1, pt z), (qzm6_63 z), (qzm6_48 w2), (qzm6_58 w2), (qzm6_51 c), (qzm6_57 c), (48, i6 ((k + 1 : Nat) : Int))] (by (try dsimp only [qzm6_0, qzm6_1, qzm6_2, qzm6_3, qzm6_4, qzm6_5, qzm6_6, qzm6_7, qzm6_8, qzm6_9, qzm6_10, qzm6_11, qzm6_12, qzm6_13, qzm6_14, qzm6_15, qzm6_16, qzm6_17, qzm6_18, qzm6_19, qzm6_20, qzm6_21, qzm6_22, qzm6_23, qzm6_24, qzm6_25, qzm6_26, qzm6_27, qzm6_28, qzm6_29, qzm6_30, qzm6_31, qzm6_32, qzm6_33, qzm6_34, qzm6_35, qzm6_36, qzm6_37, qzm6_38, qzm6_39, qzm6_40, qzm6_41, qzm6_42, qzm6_43, qzm6_44, qzm6_45, qzm6_46, qzm6_47, qzm6_48, qzm6_49, qzm6_50, qzm6_51, qzm6_52, qzm6_53, qzm6_54, qzm6_55, qzm6_56, qzm6_57, qzm6_58, qzm6_59, qzm6_60, qzm6_61, qzm6_62, qzm6_63, qzm6_64, qzm6_65, qzm6_66, qzm6_67, qzm6_68, qzm6_69, qzm6_70, qzm6_71, qzm6_72]); simp only [ha28]; rfl) ?_
             refine e_inv (fun a w' hs => ⟨c.Channels.xs.length - (k + 1), by omega, n101, (k + 1), (csG ++ [(⟨cAt c k, (cAt c k) + 2, y47.partition, y47.port, (⟨aD, cD, destsUp c k j⟩ : Sl TDestPlace)⟩ : TChannelPlace)]), ax99, cp100, rfl, by omega, by omega, by rw [List.length_append, hcl]; rfl, chans_push hcl hcs (a := aD) (cp := cD) (by unfold chanAt; rw [← hy47, show nDest c k = j from by unfold nDest; omega]), by (try dsimp only [qzm6_0, qzm6_1, qzm6_2, qzm6_3, qzm6_4, qzm6_5, qzm6_6, qzm6_7, qzm6_8, qzm6_9, qzm6_10, qzm6_11, qzm6_12, qzm6_13, qzm6_14, qzm6_15, qzm6_16, qzm6_17, qzm6_18, qzm6_19, qzm6_20, qzm6_21, qzm6_22, qzm6_23, qzm6_24, qzm6_25, qzm6_26, qzm6_27, qzm6_28, qzm6_29, qzm6_30, qzm6_31, qzm6_32, qzm6_33, qzm6_34, qzm6_35, qzm6_36, qzm6_37, qzm6_38, qzm6_39, qzm6_40, qzm6_41, qzm6_42, qzm6_43, qzm6_44, qzm6_45, qzm6_46, qzm6_47, qzm6_48, qzm6_49, qzm6_50, qzm6_51, qzm6_52, qzm6_53, qzm6_54, qzm6_55, qzm6_56, qzm6_57, qzm6_58, qzm6_59, qzm6_60, qzm6_61, qzm6_62, qzm6_63, qzm6_64, qzm6_65, qzm6_66, qzm6_67, qzm6_68, qzm6_69, qzm6_70, qzm6_71, qzm6_72] at hs ⊢); rw [List.map_append, cAt_succ, show nDest c k = j from by unfold nDest; omega]; exact hs⟩)
       · refine q_cS 12 1 [0] [[oF], [o0]] [BF (((k : Int) : Int) < ((c.Channels.xs.length : Nat) : Int))] [(1, pt z), (qzm6_63 z), (qzm6_58 w2), (102, .func (.func 75) #[] #[pt w2.heap.size])] rfl ⟨bf (by omega), trivial⟩ ?_
         refine l_call [] [] 75 #[i6 0, pt w2.heap.size] (some 103) trivial ?_
         intro w103 hw103
         refine calls_G (args := [i6 0, pt w2.heap.size]) 10 ⟨w, n24, (qzm6_72 w z c w2 k aP i cP aC csG cC)⟩ Tryd.func75 rfl (by kernel_rfl) (by kernel_rfl) hw103 ?_
         refine q_cS 17 0 [] [[o0], [(a1 3), o0], [(a1 3), o0, (ov (i6 (cAt c k))), (a1 3)], [o0, o0]] [Qb w2.heap.size, Qb w2.heap.size, Wr ((cAt c k : Int) + 0) (cAt c k), Qb w2.heap.size] [(3, i6 (cAt c k))] rfl ⟨rfl, rfl, wrI, rfl, trivial⟩ ?_
         refine e_ret [] [] (i6 (cAt c k)) trivial ?_
         intro w104 hw104
         refine ⟨_, _, rfl, hw104, ?_⟩
         refine q_rS 0 3 [] [[(ov (i6 ((cAt c k) + 16))), (ov (i6 (((cAt c k) + 16) - 1))), (ov (i6 ((((cAt c k) + 16) - 1) / 16)))]] [Wr ((cAt c k : Int) + 16) ((cAt c k) + 16), Wr (((cAt c k) + 16 : Int) - 1) (((cAt c k) + 16) - 1), Wr (Int.tdiv (((cAt c k) + 16) - 1) 16) ((((cAt c k) + 16) - 1) / 16)] [(1, pt z), (qzm6_63 z), (qzm6_58 w2), (106, i6 ((((cAt c k) + 16) - 1) / 16))] rfl ⟨wrI, wrI, congrArg (Value.int .i64) (wr_div (by omega) (by omega) (by omega)), trivial⟩ ?_
         refine l_call [] [] 57 #[i6 ((((cAt c k) + 16) - 1) / 16)] (some 107) trivial ?_
         intro w105 hw105
         refine calls_G (args := [i6 ((((cAt c k) + 16) - 1) / 16)]) 4 ⟨w, n24, (qzm6_72 w z c w2 k aP i cP aC csG cC)⟩ Tryd.func57 rfl (by kernel_rfl) (by kernel_rfl) hw105 ?_
         refine q_c 9 0 [] [[o0, o0], [o0, o0]] [] [(2, .func (.func 75) #[] #[pt n24])] ⟨w, n24 + 1, [(old0 w), (qzm6_28 z c), (qzm6_15 z), (qzm6_23 w2 c k), (qzm6_8 w2 c aP i cP aC csG cC), (qzm6_36 z aP c i cP), (qzm6_40 z csG), (qzm6_39 z aC csG cC), (bk n24 #[i6 ((((cAt c k) + 16) - 1) / 16)] 3)]⟩ rfl trivial ?_
         refine e_ret [] [] (.func (.func 75) #[] #[pt n24]) trivial ?_
         intro w106 hw106
         refine ⟨_, _, rfl, hw106, ?_⟩
         refine q_rS 8 0 [] [[o0], [o0, (a1 1), o0, o0]] [Qb z] [(qzm6_63 z), (qzm6_58 w2), (qzm6_52 n24), (qzm6_49 c), (qzm6_55 c), (111, i6 0)] rfl ⟨rfl, trivial⟩ ?_
         refine g_fam0 z 3 1 (fun x : Int => [i6 x]) ?_
         refine g_loop (fun m a w' => ∃ (n108 : Nat) (p : Nat) (psG : List TPartitionPlace) (aP2 : Option Addr) (cP2 : Nat), m = c.Partitions.xs.length - p ∧ n24 + 1 ≤ n108 ∧ (p ≤ c.Partitions.xs.length) ∧ (psG.length = c.Partitions.xs.length) ∧ (∀ q, p ≤ q → q < c.Partitions.xs.length → gd psG q = placeAt c q) ∧ (∀ q, q < p → ∃ a cp, gd psG q = placeDone c q ⟨a, cp, tabsAt c q (tabsN (gd c.Partitions.xs q))⟩) ∧ St 148 [(qzm6_63 z), (qzm6_58 w2), (qzm6_52 n24), (qzm6_49 c), (qzm6_55 c), (111, i6 (p : Int))] [] ⟨w, n108, (qzm6_70 w z c w2 k aP2 psG cP2 aC csG cC n24 p)⟩ a w') (c.Partitions.xs.length - 0) ?_ ?_
         · intro a w' hs; exact ⟨(n24 + 1), 0, (placesUp c i), aP, cP, rfl, Nat.le_refl _, Nat.zero_le _, (by rw [placesUp_len]; omega), (fun q _ hq => gd_map (show q < i by omega)), fun q hq => absurd hq (Nat.not_lt_zero q), by (try dsimp only [qzm6_0, qzm6_1, qzm6_2, qzm6_3, qzm6_4, qzm6_5, qzm6_6, qzm6_7, qzm6_8, qzm6_9, qzm6_10, qzm6_11, qzm6_12, qzm6_13, qzm6_14, qzm6_15, qzm6_16, qzm6_17, qzm6_18, qzm6_19, qzm6_20, qzm6_21, qzm6_22, qzm6_23, qzm6_24, qzm6_25, qzm6_26, qzm6_27, qzm6_28, qzm6_29, qzm6_30, qzm6_31, qzm6_32, qzm6_33, qzm6_34, qzm6_35, qzm6_36, qzm6_37, qzm6_38, qzm6_39, qzm6_40, qzm6_41, qzm6_42, qzm6_43, qzm6_44, qzm6_45, qzm6_46, qzm6_47, qzm6_48, qzm6_49, qzm6_50, qzm6_51, qzm6_52, qzm6_53, qzm6_54, qzm6_55, qzm6_56, qzm6_57, qzm6_58, qzm6_59, qzm6_60, qzm6_61, qzm6_62, qzm6_63, qzm6_64, qzm6_65, qzm6_66, qzm6_67, qzm6_68, qzm6_69, qzm6_70, qzm6_71, qzm6_72] at hs ⊢); rw [show tAt c 0 = (((cAt c k) + 16) - 1) / 16 from by rw [tAt_zero, show k = c.Channels.xs.length by omega]]; exact hs⟩
         · rintro m a w' ⟨n108, p, psG, aP2, cP2, rfl, hn107, hkp, hpl, hp1, hp2, hs⟩
           refine (?_ : G Tryd.prog 148 [(qzm6_63 z), (qzm6_58 w2), (qzm6_52 n24), (qzm6_49 c), (qzm6_55 c), (111, i6 (p : Int))] [] ⟨w, n108, (qzm6_70 w z c w2 k aP2 psG cP2 aC csG cC n24 p)⟩ _ _ _) a w' hs
           clear hs a w'
           have htb := tAt_bd hfine p (by omega)
           refine g_seq ?_
           by_cases h109 : ((p : Int) : Int) < ((c.Partitions.xs.length : Nat) : Int)
           · refine q_cS 10 0 [1] [[oT]] [BT (((p : Int) : Int) < ((c.Partitions.xs.length : Nat) : Int))] [(qzm6_63 z), (qzm6_58 w2), (qzm6_52 n24), (qzm6_49 c), (qzm6_55 c), (111, i6 (p : Int)), (112, .bool true)] rfl ⟨bt (by omega), trivial⟩ ?_
             obtain ⟨b110, o111, ha112, hF114, hc113⟩ := (hc.Partitions).1.all (show 0 < c.Partitions.xs.length by omega)
             replace ha112 : c.Partitions.a = some ⟨b110, o111, none⟩ := ha112
             refine g_eq [(qzm6_63 z), (qzm6_58 w2), (qzm6_52 n24), (qzm6_43 b110 o111 c), (qzm6_55 c), (111, i6 (p : Int)), (112, .bool true)] (by (try dsimp only [qzm6_0, qzm6_1, qzm6_2, qzm6_3, qzm6_4, qzm6_5, qzm6_6, qzm6_7, qzm6_8, qzm6_9, qzm6_10, qzm6_11, qzm6_12, qzm6_13, qzm6_14, qzm6_15, qzm6_16, qzm6_17, qzm6_18, qzm6_19, qzm6_20, qzm6_21, qzm6_22, qzm6_23, qzm6_24, qzm6_25, qzm6_26, qzm6_27, qzm6_28, qzm6_29, qzm6_30, qzm6_31, qzm6_32, qzm6_33, qzm6_34, qzm6_35, qzm6_36, qzm6_37, qzm6_38, qzm6_39, qzm6_40, qzm6_41, qzm6_42, qzm6_43, qzm6_44, qzm6_45, qzm6_46, qzm6_47, qzm6_48, qzm6_49, qzm6_50, qzm6_51, qzm6_52, qzm6_53, qzm6_54, qzm6_55, qzm6_56, qzm6_57, qzm6_58, qzm6_59, qzm6_60, qzm6_61, qzm6_62, qzm6_63, qzm6_64, qzm6_65, qzm6_66, qzm6_67, qzm6_68, qzm6_69, qzm6_70, qzm6_71, qzm6_72]); simp only [ha112]) ?_
             have hc115 := hc113 p (show p < c.Partitions.xs.length by omega)
             have he116 := (hc.Partitions).2 p (show p < c.Partitions.xs.length by omega)
             obtain ⟨y117, hy117⟩ : ∃ y_, y_ = gd c.Partitions.xs p := ⟨_, rfl⟩
             rw [← hy117] at he116 hc115
             have htn := tabsN_le y117
             refine q_c 4 0 [] [[o0, (oi p), (ol 0 (TPartition.arr y117)), o0, o0, (an 8 10)]] [((p : Int) : Int) = ((p : Nat) : Int), p < c.Partitions.xs.length, (none : Option Nat) = none, OldR w b110 (o111 + p * 8) (TPartition.arr y117), Qb n108, Qb n108, Qb n108, Qb n108, Qb n108, Qb n108, Qb n108, Qb n108] [(qzm6_63 z), (qzm6_58 w2), (qzm6_52 n24), (qzm6_43 b110 o111 c), (qzm6_55 c), (111, i6 (p : Int)), (15, pt n108), (14, i6 (p : Int))] ⟨w, n108 + 1, [(old0 w), (qzm6_28 z c), (qzm6_15 z), (qzm6_23 w2 c k), (qzm6_11 w2 c aP2 psG cP2 aC csG cC), (qzm6_38 z aP2 psG cP2), (qzm6_40 z csG), (qzm6_39 z aC csG cC), (qzm6_25 n24 c p), (qzm6_35 z psG p), (qzm6_24 n108 y117)]⟩ rfl ⟨rfl, (by omega), rfl, old_row hc115, rfl, rfl, rfl, rfl, rfl, rfl, rfl, rfl, trivial⟩ ?_
             refine g_rowat (base := z) (e := 95) (sz := 5) (cells := TPartitionPlace.cells) (a := aP2) (n := psG.length) (cap := cP2) (xs := psG) 5 (by omega) (fun b118 hg119 hb120 => ?_)
             subst hg119
             refine g_draw 7 [0, 1, 2, 3, 4, 5, 6, 7, 9, 10] [(old0 w), (qzm6_28 z c), (qzm6_15 z), (qzm6_23 w2 c k), (qzm6_5 w2 c b118 psG cP2 aC csG cC), (rowL z 95 5 TPartitionPlace.cells (.slice (some ⟨b118, 0, none⟩) psG.length cP2) psG), (qzm6_40 z csG), (qzm6_39 z aC csG cC), (qzm6_35 z psG p), (qzm6_24 n108 y117)] rfl rfl ?_
             refine w_take [(0, o0), (1, (a1 4)), (2, o0), (3, o0)] [2, 5, 13, 109, 110, 111, 15, 14, 117, 118, 119] [Qb (w2.heap.size + 1)] [true, true, true, true, false, false, false, false] [(qzm6_63 z), (qzm6_58 w2), (qzm6_52 n24), (qzm6_43 b110 o111 c), (qzm6_55 c), (111, i6 (p : Int)), (15, pt n108), (14, i6 (p : Int)), (117, .slice (some ⟨b118, 0, none⟩) psG.length cP2), (118, i6 (p : Int)), (119, .func (.func 75) #[] #[pt n24])] rfl (by as_aux_lemma => kernel_rfl) (by as_aux_lemma => kernel_rfl) ⟨rfl, trivial⟩ ?_
             refine w_one 4 (by as_aux_lemma => kernel_rfl) rfl ?_
             refine wo_call [] [] 75 #[i6 1, pt n24] (some 120) (by as_aux_lemma => kernel_rfl) rfl rfl trivial ?_
             intro w121 hw121
             refine calls_G (args := [i6 1, pt n24]) 10 ⟨w, n108 + 1, [(old0 w), (qzm6_28 z c), (qzm6_15 z), (qzm6_23 w2 c k), (qzm6_5 w2 c b118 psG cP2 aC csG cC), (rowL z 95 5 TPartitionPlace.cells (.slice (some ⟨b118, 0, none⟩) psG.length cP2) psG), (qzm6_40 z csG), (qzm6_39 z aC csG cC), (qzm6_25 n24 c p), (qzm6_35 z psG p), (qzm6_24 n108 y117)]⟩ Tryd.func75 rfl (by kernel_rfl) (by kernel_rfl) hw121 ?_
             refine q_c 17 0 [] [[o0], [(a1 8), o0], [(a1 8), o0, (ov (i6 ((tAt c p) + 1))), (a1 8)], [o0, o0]] [Qb n24, Qb n24, Wr ((tAt c p : Int) + 1) ((tAt c p) + 1), Qb n24] [(3, i6 (tAt c p))] ⟨w, n108 + 1, [(old0 w), (qzm6_28 z c), (qzm6_15 z), (qzm6_23 w2 c k), (qzm6_5 w2 c b118 psG cP2 aC csG cC), (rowL z 95 5 TPartitionPlace.cells (.slice (some ⟨b118, 0, none⟩) psG.length cP2) psG), (qzm6_40 z csG), (qzm6_39 z aC csG cC), (bk n24 #[i6 ((tAt c p) + 1)] 3), (qzm6_35 z psG p), (qzm6_24 n108 y117)]⟩ rfl ⟨rfl, rfl, wrI, rfl, trivial⟩ ?_
             refine e_ret [] [] (i6 (tAt c p)) trivial ?_
             intro w122 hw122
             have hs123 := hw122
             refine ⟨_, _, rfl, hs123, .inr (fun c hc => hs123.all c (by first | exact hc | exact picks_mem (is := [0, 1, 2, 3, 4, 5, 6, 7, 9, 10]) rfl c hc)), ?_⟩
             refine w_keep [2, 5, 13, 109, 110, 111, 15, 14, 117, 118, 120] [(qzm6_63 z), (qzm6_58 w2), (qzm6_52 n24), (qzm6_43 b110 o111 c), (qzm6_55 c), (111, i6 (p : Int)), (15, pt n108), (14, i6 (p : Int)), (117, .slice (some ⟨b118, 0, none⟩) psG.length cP2), (118, i6 (p : Int)), (120, i6 (tAt c p))] ?_
             refine w_take [(5, (oi p)), (6, o0)] [2, 5, 13, 109, 110, 111, 15, 14, 120, 122] [((p : Int) : Int) = ((p : Nat) : Int), p < psG.length, (none : Option Nat) = none] [true, true, true, true, true, true, true, false] [(qzm6_63 z), (qzm6_58 w2), (qzm6_52 n24), (qzm6_43 b110 o111 c), (qzm6_55 c), (111, i6 (p : Int)), (15, pt n108), (14, i6 (p : Int)), (120, i6 (tAt c p)), (122, .pointer (some ⟨b118, 0 + offs 5 p + 3, none⟩))] rfl (by as_aux_lemma => kernel_rfl) (by as_aux_lemma => kernel_rfl) ⟨rfl, (by omega), rfl, trivial⟩ ?_
             refine w_one 7 (by as_aux_lemma => kernel_rfl) rfl ?_
             refine wo_rowset 5 p 3 psG (⟨pAt c p, pAt c p + 2, pAt c p + 2 + 17, tAt c p, (⟨none, 0, []⟩ : Sl Int)⟩ : TPartitionPlace) TPartitionPlace.cells z 95 5 b118 psG.length cP2 (i6 (tAt c p)) none [] (by first | omega | (rw [List.length_set]; omega)) (by first | (rw [hp1 p (Nat.le_refl _) (by omega)]; rfl) | (rw [gd_set (by omega)]; rfl)) (.inl rfl) ?_
             refine w_keep [2, 5, 13, 109, 110, 111, 15, 14] [(qzm6_63 z), (qzm6_58 w2), (qzm6_52 n24), (qzm6_43 b110 o111 c), (qzm6_55 c), (111, i6 (p : Int)), (15, pt n108), (14, i6 (p : Int))] ?_
             refine w_free 8 [0, 1, 2, 3, 4, 5, 6, 7, 8, 9, 10] [(old0 w), (qzm6_28 z c), (qzm6_15 z), (qzm6_23 w2 c k), (qzm6_5 w2 c b118 psG cP2 aC csG cC), (rowL z 95 5 TPartitionPlace.cells (.slice (some ⟨b118, 0, none⟩) psG.length cP2) (psG.set p (⟨pAt c p, pAt c p + 2, pAt c p + 2 + 17, tAt c p, (⟨none, 0, []⟩ : Sl Int)⟩ : TPartitionPlace))), (qzm6_40 z csG), (qzm6_39 z aC csG cC), (bk n24 #[i6 ((tAt c p) + 1)] 3), (qzm6_35 z psG p), (qzm6_24 n108 y117)] rfl rfl ?_
             refine w_done (by as_aux_lemma => kernel_rfl) ?_
             refine q_oS 3 1 [] [[(an 8 10)]] [Qb n108, Qb n108, Qb n108, Qb n108, Qb n108, Qb n108, Qb n108, Qb n108] [(qzm6_63 z), (qzm6_58 w2), (qzm6_52 n24), (qzm6_43 b110 o111 c), (qzm6_55 c), (111, i6 (p : Int)), (14, i6 (p : Int)), (123, .agg (TPartition.arr y117))] rfl ⟨rfl, rfl, rfl, rfl, rfl, rfl, rfl, rfl, trivial⟩ ?_
             refine l_call [] [] 61 #[.agg (TPartition.arr y117)] (some 124) trivial ?_
             intro w124 hw124
             refine (tables_calls w124 y117 (he116.ext (hw124.ext rfl) (fun _ h => h)) (regs_ok (by rw [hy117]; exact hfine.parts p (by omega)))).mono ?_
             rintro e w125 ⟨rfl, hkw125⟩
             have hnw125 : n108 + 1 ≤ w125.heap.size := size_of hw124 hkw125
             refine ⟨_, _, rfl, hw124.keeps hkw125, ?_⟩
             refine q_rS 3 0 [] [[o0]] [] [(qzm6_63 z), (qzm6_58 w2), (qzm6_52 n24), (qzm6_43 b110 o111 c), (qzm6_55 c), (111, i6 (p : Int)), (14, i6 (p : Int)), (qzm6_61 y117), (125, i6 0)] rfl trivial ?_
             refine g_rowL z 3 1 (fun x : Int => [i6 x]) ?_
             refine g_keep [2, 5, 13, 14, 109, 110, 111, 124, 125] [(qzm6_63 z), (qzm6_58 w2), (qzm6_52 n24), (14, i6 (p : Int)), (qzm6_43 b110 o111 c), (qzm6_55 c), (111, i6 (p : Int)), (qzm6_61 y117), (125, i6 0)] ?_
             refine g_loop (fun m a w' => ∃ (n127 : Nat) (t : Nat) (aT : Option Addr) (cT : Nat), m = (tabsN y117) - t ∧ w125.heap.size ≤ n127 ∧ (t ≤ (tabsN y117)) ∧ St 148 [(qzm6_63 z), (qzm6_58 w2), (qzm6_52 n24), (14, i6 (p : Int)), (qzm6_43 b110 o111 c), (qzm6_55 c), (111, i6 (p : Int)), (qzm6_61 y117), (125, i6 (t : Int))] [] ⟨w, n127, (qzm6_66 w z c w2 k b118 psG cP2 aC csG cC p aT cT t n24 n108 y117)⟩ a w') ((tabsN y117) - 0) ?_ ?_
             · intro a w' hs; exact ⟨w125.heap.size, 0, none, 0, rfl, Nat.le_refl _, Nat.zero_le _, by (try dsimp only [qzm6_0, qzm6_1, qzm6_2, qzm6_3, qzm6_4, qzm6_5, qzm6_6, qzm6_7, qzm6_8, qzm6_9, qzm6_10, qzm6_11, qzm6_12, qzm6_13, qzm6_14, qzm6_15, qzm6_16, qzm6_17, qzm6_18, qzm6_19, qzm6_20, qzm6_21, qzm6_22, qzm6_23, qzm6_24, qzm6_25, qzm6_26, qzm6_27, qzm6_28, qzm6_29, qzm6_30, qzm6_31, qzm6_32, qzm6_33, qzm6_34, qzm6_35, qzm6_36, qzm6_37, qzm6_38, qzm6_39, qzm6_40, qzm6_41, qzm6_42, qzm6_43, qzm6_44, qzm6_45, qzm6_46, qzm6_47, qzm6_48, qzm6_49, qzm6_50, qzm6_51, qzm6_52, qzm6_53, qzm6_54, qzm6_55, qzm6_56, qzm6_57, qzm6_58, qzm6_59, qzm6_60, qzm6_61, qzm6_62, qzm6_63, qzm6_64, qzm6_65, qzm6_66, qzm6_67, qzm6_68, qzm6_69, qzm6_70, qzm6_71, qzm6_72] at hs ⊢); rw [show tAt c p + 1 + ((0 : Nat) : Int) = tAt c p + 1 from by omega]; exact hs⟩
             · rintro m a w' ⟨n127, t, aT, cT, rfl, hn126, hkt, hs⟩
               refine (?_ : G Tryd.prog 148 [(qzm6_63 z), (qzm6_58 w2), (qzm6_52 n24), (14, i6 (p : Int)), (qzm6_43 b110 o111 c), (qzm6_55 c), (111, i6 (p : Int)), (qzm6_61 y117), (125, i6 (t : Int))] [] ⟨w, n127, (qzm6_66 w z c w2 k b118 psG cP2 aC csG cC p aT cT t n24 n108 y117)⟩ _ _ _) a w' hs
               clear hs a w'
               have htl : (tabsAt c p t).length = t := tabsAt_len
               refine g_seq ?_
               by_cases h128 : ((t : Int) : Int) < ((tabsN y117 : Nat) : Int)
               · refine q_cS 9 0 [1] [[oT]] [BT (((t : Int) : Int) < ((tabsN y117 : Nat) : Int))] [(qzm6_63 z), (qzm6_58 w2), (qzm6_52 n24), (14, i6 (p : Int)), (qzm6_43 b110 o111 c), (qzm6_55 c), (111, i6 (p : Int)), (qzm6_61 y117), (125, i6 (t : Int)), (126, .bool true)] rfl ⟨bt (by omega), trivial⟩ ?_
                 refine g_draw 15 [0, 1, 2, 3, 4, 5, 6, 7, 9, 10] [(old0 w), (qzm6_28 z c), (qzm6_15 z), (qzm6_23 w2 c k), (qzm6_5 w2 c b118 psG cP2 aC csG cC), (qzm6_33 z b118 psG cP2 p c aT cT t), (qzm6_40 z csG), (qzm6_39 z aC csG cC), (qzm6_35 z psG p), (qzm6_24 n108 y117)] rfl rfl ?_
                 refine w_take [(0, o0), (1, (a1 4)), (2, o0), (3, o0), (4, (a1 4)), (5, o0), (6, (oi p)), (7, o0), (8, (oa [.via 5 (.slice aT ((tabsAt c p t).length) cT)])), (9, o0)] [2, 5, 13, 14, 109, 110, 111, 124, 125, 128, 129, 135, 136] [Qb (w2.heap.size + 1), Qb (w2.heap.size + 1), ((p : Int) : Int) = ((p : Nat) : Int), p < psG.length, (none : Option Nat) = none, ∀ w', Ch.holds (qzm6_33 z b118 psG cP2 p c aT cT t) w' → w'.cell? ⟨b118, 0 + offs 5 p + 4, none⟩ = some (.slice aT ((tabsAt c p t).length) cT)] [true, true, true, true, true, true, true, true, true, true, false, false, false, false, false, false] [(qzm6_63 z), (qzm6_58 w2), (qzm6_52 n24), (14, i6 (p : Int)), (qzm6_43 b110 o111 c), (qzm6_55 c), (111, i6 (p : Int)), (qzm6_61 y117), (125, i6 (t : Int)), (128, .slice (some ⟨b118, 0, none⟩) psG.length cP2), (129, i6 (p : Int)), (135, .slice aT ((tabsAt c p t).length) cT), (136, .func (.func 75) #[] #[pt n24])] rfl (by as_aux_lemma => kernel_rfl) (by as_aux_lemma => kernel_rfl) ⟨rfl, rfl, rfl, (by omega), rfl, rowL_cell (sz := 5) (j := p) (k := 4) (fun _ => rfl) (by first | omega | (rw [List.length_set]; omega)) (by rw [gd_set (by omega)]; rfl), trivial⟩ ?_
                 refine w_one 10 (by as_aux_lemma => kernel_rfl) rfl ?_
                 refine wo_call [] [] 75 #[i6 1, pt n24] (some 137) (by as_aux_lemma => kernel_rfl) rfl rfl trivial ?_
                 intro w129 hw129
                 refine calls_G (args := [i6 1, pt n24]) 10 ⟨w, n127, (qzm6_66 w z c w2 k b118 psG cP2 aC csG cC p aT cT t n24 n108 y117)⟩ Tryd.func75 rfl (by kernel_rfl) (by kernel_rfl) hw129 ?_
                 refine q_c 17 0 [] [[o0], [(a1 8), o0], [(a1 8), o0, (ov (i6 ((tAt c p + 1 + (t : Int)) + 1))), (a1 8)], [o0, o0]] [Qb n24, Qb n24, Wr ((tAt c p + 1 + (t : Int) : Int) + 1) ((tAt c p + 1 + (t : Int)) + 1), Qb n24] [(3, i6 (tAt c p + 1 + (t : Int)))] ⟨w, n127, [(old0 w), (qzm6_28 z c), (qzm6_15 z), (qzm6_23 w2 c k), (qzm6_5 w2 c b118 psG cP2 aC csG cC), (qzm6_33 z b118 psG cP2 p c aT cT t), (qzm6_40 z csG), (qzm6_39 z aC csG cC), (qzm6_19 n24 c p t), (qzm6_35 z psG p), (qzm6_24 n108 y117), (qzm6_34 z aT c p t cT)]⟩ rfl ⟨rfl, rfl, wrI, rfl, trivial⟩ ?_
                 refine e_ret [] [] (i6 (tAt c p + 1 + (t : Int))) trivial ?_
                 intro w130 hw130
                 have hs131 := hw130
                 refine ⟨_, _, rfl, hs131, .inr (fun c hc => hs131.all c (by first | exact hc | exact picks_mem (is := [0, 1, 2, 3, 4, 5, 6, 7, 9, 10]) rfl c hc)), ?_⟩
                 refine w_keep [2, 5, 13, 14, 109, 110, 111, 124, 125, 128, 129, 135, 137] [(qzm6_63 z), (qzm6_58 w2), (qzm6_52 n24), (14, i6 (p : Int)), (qzm6_43 b110 o111 c), (qzm6_55 c), (111, i6 (p : Int)), (qzm6_61 y117), (125, i6 (t : Int)), (128, .slice (some ⟨b118, 0, none⟩) psG.length cP2), (129, i6 (p : Int)), (135, .slice aT ((tabsAt c p t).length) cT), (137, i6 (tAt c p + 1 + (t : Int)))] ?_
                 refine w_one 11 (by as_aux_lemma => kernel_rfl) rfl ?_
                 refine wo_eff o0 [2, 5, 13, 14, 109, 110, 111, 124, 125, 128, 129, 135, 138] [] [(qzm6_63 z), (qzm6_58 w2), (qzm6_52 n24), (14, i6 (p : Int)), (qzm6_43 b110 o111 c), (qzm6_55 c), (111, i6 (p : Int)), (qzm6_61 y117), (125, i6 (t : Int)), (128, .slice (some ⟨b118, 0, none⟩) psG.length cP2), (129, i6 (p : Int)), (135, .slice aT ((tabsAt c p t).length) cT), (138, .slice (some ⟨n127, 0, none⟩) 1 1)] ⟨w, n127 + 1, [(old0 w), (qzm6_28 z c), (qzm6_15 z), (qzm6_23 w2 c k), (qzm6_5 w2 c b118 psG cP2 aC csG cC), (qzm6_33 z b118 psG cP2 p c aT cT t), (qzm6_40 z csG), (qzm6_39 z aC csG cC), (qzm6_19 n24 c p t), (qzm6_35 z psG p), (qzm6_24 n108 y117), (qzm6_34 z aT c p t cT), (bk n127 #[i6 (tAt c p + 1 + (t : Int))] 3)]⟩ [0, 1, 2, 3, 4, 5, 6, 7, 9, 10] (by as_aux_lemma => kernel_rfl) rfl trivial (.inr rfl) ?_
                 refine w_one 12 (by as_aux_lemma => kernel_rfl) rfl ?_
                 refine wo_push z 11 12 (tabsAt c p t) [tAt c p + 1 + (t : Int)] (fun x : Int => [i6 x]) 3 1 8 (.slice aT ((tabsAt c p t).length) cT) n127 1 1 #[i6 (tAt c p + 1 + (t : Int))] 3 (0, 0) true (some 139) [0, 1, 2, 3, 4, 5, 6, 7, 9, 10] (by simp only [List.length_cons, List.length_nil]; omega) (show z ≤ n127 + 1 by omega) (.inr ⟨rfl, rfl⟩) (fun ax132 cp133 n134 (hn135 : n127 + 1 ≤ n134) => ?_)
                 refine w_keep [2, 5, 13, 14, 109, 110, 111, 124, 125, 128, 129, 139] [(qzm6_63 z), (qzm6_58 w2), (qzm6_52 n24), (14, i6 (p : Int)), (qzm6_43 b110 o111 c), (qzm6_55 c), (111, i6 (p : Int)), (qzm6_61 y117), (125, i6 (t : Int)), (128, .slice (some ⟨b118, 0, none⟩) psG.length cP2), (129, i6 (p : Int)), (139, .slice ax132 (((tabsAt c p t) ++ [tAt c p + 1 + (t : Int)]).length) cp133)] ?_
                 refine w_take [(13, (oi p)), (14, o0)] [2, 5, 13, 14, 109, 110, 111, 124, 125, 139, 141] [((p : Int) : Int) = ((p : Nat) : Int), p < psG.length, (none : Option Nat) = none] [true, true, true, true, true, true, true, true, true, true, true, true, true, true, true, false] [(qzm6_63 z), (qzm6_58 w2), (qzm6_52 n24), (14, i6 (p : Int)), (qzm6_43 b110 o111 c), (qzm6_55 c), (111, i6 (p : Int)), (qzm6_61 y117), (125, i6 (t : Int)), (139, .slice ax132 (((tabsAt c p t) ++ [tAt c p + 1 + (t : Int)]).length) cp133), (141, .pointer (some ⟨b118, 0 + offs 5 p + 4, none⟩))] rfl (by as_aux_lemma => kernel_rfl) (by as_aux_lemma => kernel_rfl) ⟨rfl, (by omega), rfl, trivial⟩ ?_
                 refine w_one 15 (by as_aux_lemma => kernel_rfl) rfl ?_
                 refine wo_rowset 5 p 4 (psG.set p (⟨pAt c p, pAt c p + 2, pAt c p + 2 + 17, tAt c p, (⟨aT, cT, tabsAt c p t⟩ : Sl Int)⟩ : TPartitionPlace)) (⟨pAt c p, pAt c p + 2, pAt c p + 2 + 17, tAt c p, (⟨ax132, cp133, ((tabsAt c p t) ++ [tAt c p + 1 + (t : Int)])⟩ : Sl Int)⟩ : TPartitionPlace) TPartitionPlace.cells z 95 5 b118 psG.length cP2 (.slice ax132 (((tabsAt c p t) ++ [tAt c p + 1 + (t : Int)]).length) cp133) none [] (by first | omega | (rw [List.length_set]; omega)) (by first | (rw [hp1 p (Nat.le_refl _) (by omega)]; rfl) | (rw [gd_set (by omega)]; rfl)) (.inl rfl) ?_
                 refine w_keep [2, 5, 13, 14, 109, 110, 111, 124, 125] [(qzm6_63 z), (qzm6_58 w2), (qzm6_52 n24), (14, i6 (p : Int)), (qzm6_43 b110 o111 c), (qzm6_55 c), (111, i6 (p : Int)), (qzm6_61 y117), (125, i6 (t : Int))] ?_
                 refine w_free 16 [0, 1, 2, 3, 4, 5, 6, 7, 8, 9, 10, 11, 12] [(old0 w), (qzm6_28 z c), (qzm6_15 z), (qzm6_23 w2 c k), (qzm6_5 w2 c b118 psG cP2 aC csG cC), (qzm6_29 z b118 psG cP2 p c aT cT t ax132 cp133), (qzm6_40 z csG), (qzm6_39 z aC csG cC), (qzm6_19 n24 c p t), (qzm6_35 z psG p), (qzm6_24 n108 y117), (rowL z 3 1 (fun x : Int => [i6 x]) (.slice ax132 (((tabsAt c p t) ++ [tAt c p + 1 + (t : Int)]).length) cp133) ((tabsAt c p t) ++ [tAt c p + 1 + (t : Int)])), (bk n127 #[i6 (tAt c p + 1 + (t : Int))] 3)] rfl rfl ?_
                 refine w_done (by as_aux_lemma => kernel_rfl) ?_
                 refine q_oS 4 0 [] [[(ov (i6 ((t + 1 : Nat) : Int))), o0]] [Wr (((t : Int) : Int) + 1) (((t + 1 : Nat) : Int))] [(qzm6_63 z), (qzm6_58 w2), (qzm6_52 n24), (14, i6 (p : Int)), (qzm6_43 b110 o111 c), (qzm6_55 c), (111, i6 (p : Int)), (qzm6_61 y117), (125, i6 ((t + 1 : Nat) : Int))] rfl ⟨wrI, trivial⟩ ?_
                 refine e_pick [0, 1, 2, 3, 4, 5, 6, 7, 8, 9, 10, 11] [(old0 w), (qzm6_28 z c), (qzm6_15 z), (qzm6_23 w2 c k), (qzm6_5 w2 c b118 psG cP2 aC csG cC), (qzm6_29 z b118 psG cP2 p c aT cT t ax132 cp133), (qzm6_40 z csG), (qzm6_39 z aC csG cC), (qzm6_19 n24 c p t), (qzm6_35 z psG p), (qzm6_24 n108 y117), (rowL z 3 1 (fun x : Int => [i6 x]) (.slice ax132 (((tabsAt c p t) ++ [tAt c p + 1 + (t : Int)]).length) cp133) ((tabsAt c p t) ++ [tAt c p + 1 + (t : Int)]))] rfl rfl ?_
                 refine e_keep [2, 5, 13, 14, 109, 110, 111, 124, 125] [(qzm6_63 z), (qzm6_58 w2), (qzm6_52 n24), (14, i6 (p : Int)), (qzm6_43 b110 o111 c), (qzm6_55 c), (111, i6 (p : Int)), (qzm6_61 y117), (125, i6 ((t + 1 : Nat) : Int))] ?_
                 refine e_inv (fun a w' hs => ⟨(tabsN y117) - (t + 1), by omega, n134, (t + 1), ax132, cp133, rfl, by omega, by omega, by (try dsimp only [qzm6_0, qzm6_1, qzm6_2, qzm6_3, qzm6_4, qzm6_5, qzm6_6, qzm6_7, qzm6_8, qzm6_9, qzm6_10, qzm6_11, qzm6_12, qzm6_13, qzm6_14, qzm6_15, qzm6_16, qzm6_17, qzm6_18, qzm6_19, qzm6_20, qzm6_21, qzm6_22, qzm6_23, qzm6_24, qzm6_25, qzm6_26, qzm6_27, qzm6_28, qzm6_29, qzm6_30, qzm6_31, qzm6_32, qzm6_33, qzm6_34, qzm6_35, qzm6_36, qzm6_37, qzm6_38, qzm6_39, qzm6_40, qzm6_41, qzm6_42, qzm6_43, qzm6_44, qzm6_45, qzm6_46, qzm6_47, qzm6_48, qzm6_49, qzm6_50, qzm6_51, qzm6_52, qzm6_53, qzm6_54, qzm6_55, qzm6_56, qzm6_57, qzm6_58, qzm6_59, qzm6_60, qzm6_61, qzm6_62, qzm6_63, qzm6_64, qzm6_65, qzm6_66, qzm6_67, qzm6_68, qzm6_69, qzm6_70, qzm6_71, qzm6_72] at hs ⊢); simp only [List.set_set] at hs; rw [show tAt c p + 1 + ((t + 1 : Nat) : Int) = tAt c p + 1 + (t : Int) + 1 from by omega, tabsAt_succ]; exact hs⟩)
               · refine q_cS 13 0 [0] [[oF], [(ov (i6 ((p + 1 : Nat) : Int))), o0]] [BF (((t : Int) : Int) < ((tabsN y117 : Nat) : Int)), Wr (((p : Int) : Int) + 1) (((p + 1 : Nat) : Int))] [(qzm6_63 z), (qzm6_58 w2), (qzm6_52 n24), (qzm6_43 b110 o111 c), (qzm6_55 c), (111, i6 ((p + 1 : Nat) : Int))] rfl ⟨bf (by omega), wrI, trivial⟩ ?_
                 refine e_fam 9 11 [0, 1, 2, 3, 4, 5, 6, 7, 8, 10] [(old0 w), (qzm6_28 z c), (qzm6_15 z), (qzm6_23 w2 c k), (qzm6_5 w2 c b118 psG cP2 aC csG cC), (qzm6_33 z b118 psG cP2 p c aT cT t), (qzm6_40 z csG), (qzm6_39 z aC csG cC), (qzm6_20 n24 c p t), (qzm6_24 n108 y117)] ?_
                 refine e_pick [0, 1, 2, 3, 4, 5, 6, 7, 8, 10] [(old0 w), (qzm6_28 z c), (qzm6_15 z), (qzm6_23 w2 c k), (qzm6_5 w2 c b118 psG cP2 aC csG cC), (qzm6_33 z b118 psG cP2 p c aT cT t), (qzm6_40 z csG), (qzm6_39 z aC csG cC), (qzm6_20 n24 c p t), (famC z 3 1 (fun x : Int => [i6 x]) ((psG.take p).map TPartitionPlace.Tables ++ [⟨aT, cT, (tabsAt c p t)⟩]))] rfl rfl ?_
                 refine e_eqk [2, 5, 13, 109, 110, 111] [(qzm6_63 z), (qzm6_58 w2), (qzm6_52 n24), (qzm6_49 c), (qzm6_55 c), (111, i6 ((p + 1 : Nat) : Int))] (by (try dsimp only [qzm6_0, qzm6_1, qzm6_2, qzm6_3, qzm6_4, qzm6_5, qzm6_6, qzm6_7, qzm6_8, qzm6_9, qzm6_10, qzm6_11, qzm6_12, qzm6_13, qzm6_14, qzm6_15, qzm6_16, qzm6_17, qzm6_18, qzm6_19, qzm6_20, qzm6_21, qzm6_22, qzm6_23, qzm6_24, qzm6_25, qzm6_26, qzm6_27, qzm6_28, qzm6_29, qzm6_30, qzm6_31, qzm6_32, qzm6_33, qzm6_34, qzm6_35, qzm6_36, qzm6_37, qzm6_38, qzm6_39, qzm6_40, qzm6_41, qzm6_42, qzm6_43, qzm6_44, qzm6_45, qzm6_46, qzm6_47, qzm6_48, qzm6_49, qzm6_50, qzm6_51, qzm6_52, qzm6_53, qzm6_54, qzm6_55, qzm6_56, qzm6_57, qzm6_58, qzm6_59, qzm6_60, qzm6_61, qzm6_62, qzm6_63, qzm6_64, qzm6_65, qzm6_66, qzm6_67, qzm6_68, qzm6_69, qzm6_70, qzm6_71, qzm6_72]); simp only [ha112]; rfl) ?_
                 refine e_inv (fun a w' hs => ⟨c.Partitions.xs.length - (p + 1), by omega, n127, (p + 1), (psG.set p (⟨pAt c p, pAt c p + 2, pAt c p + 2 + 17, tAt c p, (⟨aT, cT, tabsAt c p t⟩ : Sl Int)⟩ : TPartitionPlace)), (some ⟨b118, 0, none⟩), cP2, rfl, by omega, by omega, by rw [List.length_set]; exact hpl, fun q h1 h2 => by rw [gd_set_ne (by omega) (by omega)]; exact hp1 q (by omega) h2, fun q hq => if e : q = p then (by rw [e]; exact ⟨aT, cT, by rw [gd_set (by omega), ← hy117, show tabsN y117 = t by omega]; rfl⟩) else (by rw [gd_set_ne (fun e2 => e e2.symm) (by omega)]; exact hp2 q (by omega)), by (try dsimp only [qzm6_0, qzm6_1, qzm6_2, qzm6_3, qzm6_4, qzm6_5, qzm6_6, qzm6_7, qzm6_8, qzm6_9, qzm6_10, qzm6_11, qzm6_12, qzm6_13, qzm6_14, qzm6_15, qzm6_16, qzm6_17, qzm6_18, qzm6_19, qzm6_20, qzm6_21, qzm6_22, qzm6_23, qzm6_24, qzm6_25, qzm6_26, qzm6_27, qzm6_28, qzm6_29, qzm6_30, qzm6_31, qzm6_32, qzm6_33, qzm6_34, qzm6_35, qzm6_36, qzm6_37, qzm6_38, qzm6_39, qzm6_40, qzm6_41, qzm6_42, qzm6_43, qzm6_44, qzm6_45, qzm6_46, qzm6_47, qzm6_48, qzm6_49, qzm6_50, qzm6_51, qzm6_52, qzm6_53, qzm6_54, qzm6_55, qzm6_56, qzm6_57, qzm6_58, qzm6_59, qzm6_60, qzm6_61, qzm6_62, qzm6_63, qzm6_64, qzm6_65, qzm6_66, qzm6_67, qzm6_68, qzm6_69, qzm6_70, qzm6_71, qzm6_72] at hs ⊢); rw [take_set_succ (by omega), List.map_append, List.length_set, show tAt c (p + 1) = tAt c p + 1 + (t : Int) from by rw [tAt_succ, ← hy117]; omega]; exact hs⟩)
           · refine q_cS 12 1 [0] [[oF], [o0]] [BF (((p : Int) : Int) < ((c.Partitions.xs.length : Nat) : Int))] [(qzm6_63 z), (qzm6_58 w2), (144, .func (.func 75) #[] #[pt n24])] rfl ⟨bf (by omega), trivial⟩ ?_
             refine l_call [] [] 75 #[i6 0, pt n24] (some 145) trivial ?_
             intro w136 hw136
             refine calls_G (args := [i6 0, pt n24]) 10 ⟨w, n108, (qzm6_70 w z c w2 k aP2 psG cP2 aC csG cC n24 p)⟩ Tryd.func75 rfl (by kernel_rfl) (by kernel_rfl) hw136 ?_
             refine q_cS 17 0 [] [[o0], [(a1 8), o0], [(a1 8), o0, (ov (i6 (tAt c p))), (a1 8)], [o0, o0]] [Qb n24, Qb n24, Wr ((tAt c p : Int) + 0) (tAt c p), Qb n24] [(3, i6 (tAt c p))] rfl ⟨rfl, rfl, wrI, rfl, trivial⟩ ?_
             refine e_ret [] [] (i6 (tAt c p)) trivial ?_
             intro w137 hw137
             refine ⟨_, _, rfl, hw137, ?_⟩
             refine q_r 7 0 [] [[o0, (a1 4)], [(an 4 4), (an 4 2), o0]] [Qb (w2.heap.size + 1), Qb (w2.heap.size + 1), Qb (w2.heap.size + 1), Qb (w2.heap.size + 1), Qb (w2.heap.size + 1), Qb (z + 1), Qb (z + 1), Qb (z + 1), Qb (z + 1)] [(qzm6_63 z), (3, i6 0)] ⟨w, n108, [(old0 w), (qzm6_28 z c), (bk (z + 1) #[i6 (c.Kernel * 16), .slice aP2 psG.length cP2, .slice aC csG.length cC, i6 (tAt c p)] 79), (qzm6_23 w2 c k), (bk (w2.heap.size + 1) #[i6 (c.Kernel * 16), .slice aP2 psG.length cP2, .slice aC csG.length cC, i6 (tAt c p)] 79), (qzm6_38 z aP2 psG cP2), (qzm6_40 z csG), (qzm6_39 z aC csG cC), (qzm6_25 n24 c p), (qzm6_35 z psG p)]⟩ rfl ⟨rfl, rfl, rfl, rfl, rfl, rfl, rfl, rfl, rfl, trivial⟩ ?_
             refine e_ret [.at 2, .at 2, .at 2, .at 2] [Qb (z + 1), Qb (z + 1), Qb (z + 1), Qb (z + 1)] (.tuple #[.agg #[i6 (c.Kernel * 16), .slice aP2 psG.length cP2, .slice aC csG.length cC, i6 (tAt c p)], i6 0]) ⟨rfl, rfl, rfl, rfl, trivial⟩ ?_
             intro w138 hw138
             have hL : IsLay c ⟨c.Kernel * 16, ⟨aP2, cP2, psG⟩, ⟨aC, cC, csG⟩, tAt c p⟩ := ⟨rfl, by rw [show p = c.Partitions.xs.length by omega], hpl, fun q hq => hp2 q (by omega), by simp only; omega, fun q hq => hcs q (by omega)⟩
             have hO : LayOwn z w138 ⟨c.Kernel * 16, ⟨aP2, cP2, psG⟩, ⟨aC, cC, csG⟩, tAt c p⟩ := ⟨w, by
               have h4 := hw138.pick [5, 7, 6, 9] rfl rfl
               rw [hw138.size]
               unfold layS
               (try dsimp only [qzm6_0, qzm6_1, qzm6_2, qzm6_3, qzm6_4, qzm6_5, qzm6_6, qzm6_7, qzm6_8, qzm6_9, qzm6_10, qzm6_11, qzm6_12, qzm6_13, qzm6_14, qzm6_15, qzm6_16, qzm6_17, qzm6_18, qzm6_19, qzm6_20, qzm6_21, qzm6_22, qzm6_23, qzm6_24, qzm6_25, qzm6_26, qzm6_27, qzm6_28, qzm6_29, qzm6_30, qzm6_31, qzm6_32, qzm6_33, qzm6_34, qzm6_35, qzm6_36, qzm6_37, qzm6_38, qzm6_39, qzm6_40, qzm6_41, qzm6_42, qzm6_43, qzm6_44, qzm6_45, qzm6_46, qzm6_47, qzm6_48, qzm6_49, qzm6_50, qzm6_51, qzm6_52, qzm6_53, qzm6_54, qzm6_55, qzm6_56, qzm6_57, qzm6_58, qzm6_59, qzm6_60, qzm6_61, qzm6_62, qzm6_63, qzm6_64, qzm6_65, qzm6_66, qzm6_67, qzm6_68, qzm6_69, qzm6_70, qzm6_71, qzm6_72] at h4)
               rw [List.take_of_length_le (by omega)] at h4
               exact h4⟩
             exact ⟨_, rfl, hL, hz ▸ lay_ok hfine hL hO, hz ▸ hO, back0 hw138⟩
end Go.Proofs.YtnjhekfgmbpmlaaDoor.Ly
namespace Go.Proofs.YtnjhekfgmbpmlaaDoor.Ly
open Go Go.Proofs.YtnjhekfgmbpmlaaDoor.Eng Go.Proofs.YtnjhekfgmbpmlaaDoor.Mem
set_option linter.unusedSimpArgs false
set_option linter.unusedVariables false
set_option maxRecDepth 100000
def needOf (c : TConfig) : Int := if confOk c = true then tAt c c.Partitions.xs.length - c.Kernel else 0
def errOf (c : TConfig) : Int := if confOk c = true then 0 else 150
theorem need_calls (w : World) (c : TConfig) (hc : TConfig.ok Any w c) : Calls Tryd.prog 12 #[.agg (TConfig.arr c)] w fun e w' => e = .returned (.tuple #[.int .i64 (needOf c), .int .i64 (errOf c)]) ∧ Keeps (fun _ => False) w w' := by
 obtain ⟨z, hz⟩ : ∃ z, z = w.heap.size := ⟨_, rfl⟩
 refine calls_G (args := [.agg (TConfig.arr c)]) 19 ⟨w, z, [(old0 w)]⟩ Tryd.func12 rfl (by kernel_rfl) (by kernel_rfl) (sat_0 hz) ?_
 refine g_keep [0] [(0, .agg (TConfig.arr c))] ?_
 refine q_c 6 1 [] [[o0, o0, o0], [(an 7 1)]] [Qb z, Qb z, Qb z, Qb z, Qb z, Qb z, Qb z] [(1, pt z), (7, .agg (TConfig.arr c))] ⟨w, z + 1, [(old0 w), (bk z (TConfig.arr c) 26)]⟩ rfl ⟨rfl, rfl, rfl, rfl, rfl, rfl, rfl, trivial⟩ ?_
 refine l_call [] [] 31 #[.agg (TConfig.arr c)] (some 8) trivial ?_
 intro w1 hw1
 by_cases hok2 : confOk c = true
 · refine (of_yes w1 c (hc.ext (hw1.ext rfl) (fun _ h => h)) hok2).mono ?_
   rintro e w3 ⟨lw3, rfl, hIw3, hLw3, hOw3, hkw3⟩
   have hfw3 := fine_of hok2; have hknw3 := hfw3.kn; have hEw3 := hIw3.fin; have hEbw3 := tAt_bd hfw3 _ (Nat.le_refl _); have hpnw3 := hfw3.pn
   rw [hw1.size] at hLw3 hOw3
   have hnw3 : z + 1 ≤ w3.heap.size := size_of hw1 hkw3
   refine ⟨_, _, rfl, hw1.keepsM hkw3, ?_⟩
   refine q_r 15 0 [0] [[o0, o0, o0, o0, (an 4 3), o0], [o0, o0], [o0, (a1 3), o0, (a1 1), (ov (i6 (lw3.End - c.Kernel))), o0, o0]] [Qb w3.heap.size, Qb w3.heap.size, Qb w3.heap.size, Qb w3.heap.size, Qb w3.heap.size, Qb z, Wr ((lw3.End : Int) - c.Kernel) (lw3.End - c.Kernel)] [(2, i6 (lw3.End - c.Kernel)), (3, i6 0)] ⟨w, w3.heap.size + 1, [(old0 w), (bk z (TConfig.arr c) 26), (mid (z + 1) w3), (.blk w3.heap.size (.cells (TLayout.arr lw3) 79 (0, 0)) true)]⟩ rfl ⟨rfl, rfl, rfl, rfl, rfl, rfl, wrI, trivial⟩ ?_
   refine e_ret [] [] (.tuple #[i6 (lw3.End - c.Kernel), i6 0]) trivial ?_
   intro w4 hw4
   refine ⟨?_, back0 hw4⟩
   unfold needOf errOf; rw [if_pos hok2, if_pos hok2]; rw [← hEw3]
 · refine (of_no w1 c (hc.ext (hw1.ext rfl) (fun _ h => h)) (Bool.eq_false_iff.2 hok2)).mono ?_
   rintro e w5 ⟨rfl, hkw5⟩
   have hnw5 : z + 1 ≤ w5.heap.size := size_of hw1 hkw5
   refine ⟨_, _, rfl, hw1.keeps hkw5, ?_⟩
   refine q_r 13 0 [1] [[o0, o0, o0, o0, (an 4 2), o0], [o0, o0], [o0, o0, o0]] [Qb w5.heap.size, Qb w5.heap.size, Qb w5.heap.size, Qb w5.heap.size] [(2, i6 0), (3, i6 150)] ⟨w, w5.heap.size + 1, [(old0 w), (bk z (TConfig.arr c) 26), (.blk w5.heap.size (.cells #[i6 0, .slice none 0 0, .slice none 0 0, i6 0] 79 (0, 0)) true)]⟩ rfl ⟨rfl, rfl, rfl, rfl, trivial⟩ ?_
   refine e_ret [] [] (.tuple #[i6 0, i6 150]) trivial ?_
   intro w6 hw6
   refine ⟨?_, back0 hw6⟩
   unfold needOf errOf; rw [if_neg hok2, if_neg hok2]
end Go.Proofs.YtnjhekfgmbpmlaaDoor.Ly
namespace Go.Proofs.YtnjhekfgmbpmlaaDoor.Ad
open Go Go.Proofs.YtnjhekfgmbpmlaaDoor.Eng Go.Proofs.YtnjhekfgmbpmlaaDoor.Mem Go.Proofs.YtnjhekfgmbpmlaaDoor.Ly
set_option linter.unusedSimpArgs false
set_option linter.unusedVariables false
set_option maxRecDepth 100000
def ovlQ (c : TConfig) (q n : Nat) : Bool := meet (regC c q n).Frame (regC c q n).Pages c.Kernel c.Room
def ovlP (c : TConfig) (q : Nat) : Bool := (List.range (parC c q).Regions.xs.length).any (ovlQ c q)
def kernB (c : TConfig) : Bool := win c.Kernel 0 (c.Frames - 1) && win c.Room 1 (c.Frames - c.Kernel) && !(List.range c.Partitions.xs.length).any (ovlP c) && (decide (errOf c = 0) && decide (needOf c ≤ c.Room))
abbrev q69q_0 (n10 : Nat) (y19 : TPartition) : Ch := bk n10 (TPartition.arr y19) 41
abbrev q69q_1 (z : Nat) (c : TConfig) : Ch := bk z (TConfig.arr c) 26
abbrev q69q_2 (b12 : Nat) (o13 : Nat) (c : TConfig) : Nat × Value := (28, .slice (some ⟨b12, o13, none⟩) c.Partitions.xs.length c.Partitions.cap)
abbrev q69q_3 (b23 : Nat) (o24 : Nat) (y19 : TPartition) : Nat × Value := (35, .slice (some ⟨b23, o24, none⟩) y19.Regions.xs.length y19.Regions.cap)
abbrev q69q_4 (c : TConfig) : Nat × Value := (28, .slice c.Partitions.a c.Partitions.xs.length c.Partitions.cap)
abbrev q69q_5 (y19 : TPartition) : Nat × Value := (35, .slice y19.Regions.a y19.Regions.xs.length y19.Regions.cap)
abbrev q69q_6 (c : TConfig) : Nat × Value := (29, i6 ((c.Partitions.xs.length : Nat) : Int))
abbrev q69q_7 (y19 : TPartition) : Nat × Value := (36, i6 ((y19.Regions.xs.length : Nat) : Int))
theorem kernel_calls (w : World) (hL : LaidAt w) (c : TConfig) (hc : TConfig.ok Any w c) (hFr : 1 ≤ c.Frames ∧ c.Frames ≤ 1024) (hpf : ∀ q, q < c.Partitions.xs.length → partQ c q = fineF) : Calls Tryd.prog 54 #[.agg (TConfig.arr c)] w fun e w' => e = .returned (.bool (kernB c)) ∧ Keeps (fun _ => False) w w' := by
 obtain ⟨z, hz⟩ : ∃ z, z = w.heap.size := ⟨_, rfl⟩
 refine calls_G (args := [.agg (TConfig.arr c)]) 65 ⟨w, z, [(old0 w)]⟩ Tryd.func54 rfl (by kernel_rfl) (by kernel_rfl) (sat_0 hz) ?_
 have hpl := hc.Partitions.1.len; have hkk : (-9223372036854775808 : Int) ≤ c.Kernel ∧ c.Kernel ≤ 9223372036854775807 := hc.Kernel; have hrr : (-9223372036854775808 : Int) ≤ c.Room ∧ c.Room ≤ 9223372036854775807 := hc.Room
 refine g_keep [0] [(0, .agg (TConfig.arr c))] ?_
 refine q_c 7 5 [] [[o0, o0], [o0, (a1 1), o0, (a1 1), (ov (i6 (c.Frames - 1)))]] [Qb z, Qb z, Wr ((c.Frames : Int) - 1) (c.Frames - 1)] [(1, pt z), (10, i6 c.Kernel), (13, i6 (c.Frames - 1))] ⟨w, z + 1, [(old0 w), (q69q_1 z c)]⟩ rfl ⟨rfl, rfl, wrI, trivial⟩ ?_
 refine l_call [] [] 42 #[i6 c.Kernel, i6 0, i6 (c.Frames - 1)] (some 14) trivial ?_
 intro w1 hw1
 refine (within_calls w1 c.Kernel 0 (c.Frames - 1)).mono ?_
 rintro e w2 ⟨rfl, hkw2⟩
 have hnw2 : z + 1 ≤ w2.heap.size := size_of hw1 hkw2
 refine ⟨_, _, rfl, hw1.keeps hkw2, ?_⟩
 refine l_keep [1, 14] [(1, pt z), (14, .bool (win c.Kernel 0 (c.Frames - 1)))] ?_
 by_cases h3 : (win c.Kernel 0 (c.Frames - 1)) = true
 · have hd4 := win_yes h3
   refine q_rS 0 9 [] [[(ov (.bool false)), o0, o0, (a1 1), o0, (a1 1), o0, (a1 1), (ov (i6 (c.Frames - c.Kernel)))]] [Value.bool (!(win c.Kernel 0 (c.Frames - 1))) = Value.bool false, Qb z, Qb z, Qb z, Wr ((c.Frames : Int) - c.Kernel) (c.Frames - c.Kernel)] [(1, pt z), (16, .bool false), (18, i6 c.Room), (23, i6 (c.Frames - c.Kernel))] rfl ⟨by simp [h3], rfl, rfl, rfl, wrI, trivial⟩ ?_
   refine l_call [] [] 42 #[i6 c.Room, i6 1, i6 (c.Frames - c.Kernel)] (some 24) trivial ?_
   intro w5 hw5
   refine (within_calls w5 c.Room 1 (c.Frames - c.Kernel)).mono ?_
   rintro e w6 ⟨rfl, hkw6⟩
   have hnw6 : w2.heap.size ≤ w6.heap.size := size_of hw5 hkw6
   refine ⟨_, _, rfl, hw5.keeps hkw6, ?_⟩
   refine l_keep [1, 16, 24] [(1, pt z), (16, .bool false), (24, .bool (win c.Room 1 (c.Frames - c.Kernel)))] ?_
   by_cases h7 : (win c.Room 1 (c.Frames - c.Kernel)) = true
   · have hd8 := win_yes h7
     refine q_rS 11 0 [0] [[(ov (.bool false)), o0], [o0, (a1 1), o0, o0]] [Value.bool (!(win c.Room 1 (c.Frames - c.Kernel))) = Value.bool false, Qb z] [(1, pt z), (q69q_4 c), (q69q_6 c), (30, i6 0)] rfl ⟨by simp [h7], rfl, trivial⟩ ?_
     refine g_loop (fun m a w' => ∃ (n10 : Nat) (q : Nat), m = c.Partitions.xs.length - q ∧ w6.heap.size ≤ n10 ∧ (q ≤ c.Partitions.xs.length) ∧ (∀ a, a < q → ovlP c a = false) ∧ St 65 [(1, pt z), (q69q_4 c), (q69q_6 c), (30, i6 (q : Int))] [] ⟨w, n10, [(old0 w), (q69q_1 z c)]⟩ a w') (c.Partitions.xs.length - 0) ?_ ?_
     · intro a w' hs; exact ⟨w6.heap.size, 0, rfl, Nat.le_refl _, Nat.zero_le _, fun i hi => absurd hi (Nat.not_lt_zero i), hs⟩
     · rintro m a w' ⟨n10, q, rfl, hn9, hkq, hg, hs⟩
       refine (?_ : G Tryd.prog 65 [(1, pt z), (q69q_4 c), (q69q_6 c), (30, i6 (q : Int))] [] ⟨w, n10, [(old0 w), (q69q_1 z c)]⟩ _ _ _) a w' hs
       clear hs a w'
       refine g_seq ?_
       by_cases h11 : ((q : Int) : Int) < ((c.Partitions.xs.length : Nat) : Int)
       · refine q_cS 10 0 [1] [[oT]] [BT (((q : Int) : Int) < ((c.Partitions.xs.length : Nat) : Int))] [(1, pt z), (q69q_4 c), (q69q_6 c), (30, i6 (q : Int)), (31, .bool true)] rfl ⟨bt (by omega), trivial⟩ ?_
         obtain ⟨b12, o13, ha14, hF16, hc15⟩ := (hc.Partitions).1.all (show 0 < c.Partitions.xs.length by omega)
         replace ha14 : c.Partitions.a = some ⟨b12, o13, none⟩ := ha14
         refine g_eq [(1, pt z), (q69q_2 b12 o13 c), (q69q_6 c), (30, i6 (q : Int)), (31, .bool true)] (by (try dsimp only [q69q_0, q69q_1, q69q_2, q69q_3, q69q_4, q69q_5, q69q_6, q69q_7]); simp only [ha14]) ?_
         have hc17 := hc15 q (show q < c.Partitions.xs.length by omega)
         have he18 := (hc.Partitions).2 q (show q < c.Partitions.xs.length by omega)
         obtain ⟨y19, hy19⟩ : ∃ y_, y_ = gd c.Partitions.xs q := ⟨_, rfl⟩
         rw [← hy19] at he18 hc17
         have hyly19 := he18.Regions.1.len
         refine q_c 8 0 [] [[(oi q), (ol 0 (TPartition.arr y19)), o0, (an 8 2)], [o0, (a1 2), o0, o0]] [((q : Int) : Int) = ((q : Nat) : Int), q < c.Partitions.xs.length, (none : Option Nat) = none, OldR w b12 (o13 + q * 8) (TPartition.arr y19), Qb n10, Qb n10, Qb n10, Qb n10, Qb n10, Qb n10, Qb n10, Qb n10, Qb n10] [(1, pt z), (q69q_2 b12 o13 c), (q69q_6 c), (30, i6 (q : Int)), (q69q_5 y19), (q69q_7 y19), (37, i6 0)] ⟨w, n10 + 1, [(old0 w), (q69q_1 z c), (q69q_0 n10 y19)]⟩ rfl ⟨rfl, (by omega), rfl, old_row hc17, rfl, rfl, rfl, rfl, rfl, rfl, rfl, rfl, rfl, trivial⟩ ?_
         refine g_loop (fun m a w' => ∃ (n21 : Nat) (n : Nat), m = y19.Regions.xs.length - n ∧ n10 + 1 ≤ n21 ∧ (n ≤ y19.Regions.xs.length) ∧ (∀ a, a < n → ovlQ c q a = false) ∧ St 65 [(1, pt z), (q69q_2 b12 o13 c), (q69q_6 c), (30, i6 (q : Int)), (q69q_5 y19), (q69q_7 y19), (37, i6 (n : Int))] [] ⟨w, n21, [(old0 w), (q69q_1 z c), (q69q_0 n10 y19)]⟩ a w') (y19.Regions.xs.length - 0) ?_ ?_
         · intro a w' hs; exact ⟨(n10 + 1), 0, rfl, Nat.le_refl _, Nat.zero_le _, fun i hi => absurd hi (Nat.not_lt_zero i), hs⟩
         · rintro m a w' ⟨n21, n, rfl, hn20, hkn, hh, hs⟩
           refine (?_ : G Tryd.prog 65 [(1, pt z), (q69q_2 b12 o13 c), (q69q_6 c), (30, i6 (q : Int)), (q69q_5 y19), (q69q_7 y19), (37, i6 (n : Int))] [] ⟨w, n21, [(old0 w), (q69q_1 z c), (q69q_0 n10 y19)]⟩ _ _ _) a w' hs
           clear hs a w'
           refine g_seq ?_
           by_cases h22 : ((n : Int) : Int) < ((y19.Regions.xs.length : Nat) : Int)
           · refine q_cS 10 0 [1] [[oT]] [BT (((n : Int) : Int) < ((y19.Regions.xs.length : Nat) : Int))] [(1, pt z), (q69q_2 b12 o13 c), (q69q_6 c), (30, i6 (q : Int)), (q69q_5 y19), (q69q_7 y19), (37, i6 (n : Int)), (38, .bool true)] rfl ⟨bt (by omega), trivial⟩ ?_
             obtain ⟨b23, o24, ha25, hF27, hc26⟩ := (he18.Regions).1.all (show 0 < y19.Regions.xs.length by omega)
             replace ha25 : y19.Regions.a = some ⟨b23, o24, none⟩ := ha25
             refine g_eq [(1, pt z), (q69q_2 b12 o13 c), (q69q_6 c), (30, i6 (q : Int)), (q69q_3 b23 o24 y19), (q69q_7 y19), (37, i6 (n : Int)), (38, .bool true)] (by (try dsimp only [q69q_0, q69q_1, q69q_2, q69q_3, q69q_4, q69q_5, q69q_6, q69q_7]); simp only [ha25]) ?_
             have hc28 := hc26 n (show n < y19.Regions.xs.length by omega)
             have he29 := (he18.Regions).2 n (show n < y19.Regions.xs.length by omega)
             obtain ⟨y30, hy30⟩ : ∃ y_, y_ = gd y19.Regions.xs n := ⟨_, rfl⟩
             rw [← hy30] at he29 hc28
             refine q_c 5 8 [] [[(oi n), (ol 0 (TRegion.arr y30)), o0, (an 4 3)], [o0, (a1 3), o0, (a1 3), o0, (a1 1), o0, (a1 1)]] [((n : Int) : Int) = ((n : Nat) : Int), n < y19.Regions.xs.length, (none : Option Nat) = none, OldR w b23 (o24 + n * 4) (TRegion.arr y30), Qb n21, Qb n21, Qb n21, Qb n21, Qb n21, Qb n21, Qb z, Qb z] [(1, pt z), (q69q_2 b12 o13 c), (q69q_6 c), (30, i6 (q : Int)), (q69q_3 b23 o24 y19), (q69q_7 y19), (37, i6 (n : Int)), (42, i6 y30.Frame), (44, i6 y30.Pages), (46, i6 c.Kernel), (48, i6 c.Room)] ⟨w, n21 + 1, [(old0 w), (q69q_1 z c), (q69q_0 n10 y19), (bk n21 (TRegion.arr y30) 49)]⟩ rfl ⟨rfl, (by omega), rfl, old_row hc28, rfl, rfl, rfl, rfl, rfl, rfl, rfl, rfl, trivial⟩ ?_
             refine l_call [] [] 73 #[i6 y30.Frame, i6 y30.Pages, i6 c.Kernel, i6 c.Room] (some 49) trivial ?_
             intro w31 hw31
             have hm33 := partB_bd hFr.2 (partQ_fine (hpf q (by omega))) n (by dsimp only [parC]; rw [← hy19]; omega); dsimp only [regC] at hm33; rw [← hy19, ← hy30] at hm33; unfold Bd at hm33
             refine (meet_calls w31 y30.Frame y30.Pages c.Kernel c.Room (by omega) (by omega) (by omega) (by omega)).mono ?_
             rintro e w32 ⟨rfl, hkw32⟩
             have hnw32 : n21 + 1 ≤ w32.heap.size := size_of hw31 hkw32
             refine ⟨_, _, rfl, hw31.keeps hkw32, ?_⟩
             refine l_keep [1, 28, 29, 30, 35, 36, 37, 49] [(1, pt z), (q69q_2 b12 o13 c), (q69q_6 c), (30, i6 (q : Int)), (q69q_3 b23 o24 y19), (q69q_7 y19), (37, i6 (n : Int)), (49, .bool (meet y30.Frame y30.Pages c.Kernel c.Room))] ?_
             refine l_nil (by kernel_rfl) ?_
             refine e_seq ?_
             by_cases h34 : (meet y30.Frame y30.Pages c.Kernel c.Room) = true
             · refine q_cS 6 0 [3] [[o0]] [Value.bool (meet y30.Frame y30.Pages c.Kernel c.Room) = Value.bool true] [(2, .bool false)] rfl ⟨(congrArg Value.bool h34), trivial⟩ ?_
               refine e_ret [] [] (.bool false) trivial ?_
               intro w35 hw35
               refine ⟨congrArg (fun b => Ending.returned (Value.bool b)) (?_ : false = kernB c), back0 hw35⟩
               have en : regC c q n = y30 := (by dsimp only [regC]; rw [← hy19, ← hy30])
               have eo : (List.range c.Partitions.xs.length).any (ovlP c) = true := range_any (k := q) (by omega) (range_any (k := n) (by dsimp only [parC]; rw [← hy19]; omega) (by unfold ovlQ; rw [en]; exact h34))
               unfold kernB; simp [eo]
             · refine q_cS 6 0 [2] [[(ov (i6 ((n + 1 : Nat) : Int))), o0]] [Value.bool (meet y30.Frame y30.Pages c.Kernel c.Room) = Value.bool false, Wr (((n : Int) : Int) + 1) (((n + 1 : Nat) : Int))] [(1, pt z), (q69q_2 b12 o13 c), (q69q_6 c), (30, i6 (q : Int)), (q69q_3 b23 o24 y19), (q69q_7 y19), (37, i6 ((n + 1 : Nat) : Int))] rfl ⟨(congrArg Value.bool (Bool.eq_false_iff.2 h34)), wrI, trivial⟩ ?_
               refine e_pick [0, 1, 2] [(old0 w), (q69q_1 z c), (q69q_0 n10 y19)] rfl rfl ?_
               refine e_eqk [1, 28, 29, 30, 35, 36, 37] [(1, pt z), (q69q_2 b12 o13 c), (q69q_6 c), (30, i6 (q : Int)), (q69q_5 y19), (q69q_7 y19), (37, i6 ((n + 1 : Nat) : Int))] (by (try dsimp only [q69q_0, q69q_1, q69q_2, q69q_3, q69q_4, q69q_5, q69q_6, q69q_7]); simp only [ha25]; rfl) ?_
               refine e_inv (fun a w' hs => ⟨y19.Regions.xs.length - (n + 1), by omega, w32.heap.size, (n + 1), rfl, by omega, by omega, upto_ hh (by have en : regC c q n = y30 := (by dsimp only [regC]; rw [← hy19, ← hy30]); unfold ovlQ; rw [en]; simpa using h34), hs⟩)
           · refine q_cS 13 0 [0] [[oF], [(ov (i6 ((q + 1 : Nat) : Int))), o0]] [BF (((n : Int) : Int) < ((y19.Regions.xs.length : Nat) : Int)), Wr (((q : Int) : Int) + 1) (((q + 1 : Nat) : Int))] [(1, pt z), (q69q_2 b12 o13 c), (q69q_6 c), (30, i6 ((q + 1 : Nat) : Int))] rfl ⟨bf (by omega), wrI, trivial⟩ ?_
             refine e_pick [0, 1] [(old0 w), (q69q_1 z c)] rfl rfl ?_
             refine e_eqk [1, 28, 29, 30] [(1, pt z), (q69q_4 c), (q69q_6 c), (30, i6 ((q + 1 : Nat) : Int))] (by (try dsimp only [q69q_0, q69q_1, q69q_2, q69q_3, q69q_4, q69q_5, q69q_6, q69q_7]); simp only [ha14]; rfl) ?_
             refine e_inv (fun a w' hs => ⟨c.Partitions.xs.length - (q + 1), by omega, n21, (q + 1), rfl, by omega, by omega, upto_ hg (range_none (fun i hi => hh i (by dsimp only [parC] at hi; rw [← hy19] at hi; omega))), hs⟩)
       · refine q_cS 12 1 [0] [[oF], [(an 7 1)]] [BF (((q : Int) : Int) < ((c.Partitions.xs.length : Nat) : Int)), Qb z, Qb z, Qb z, Qb z, Qb z, Qb z, Qb z] [(1, pt z), (53, .agg (TConfig.arr c))] rfl ⟨bf (by omega), rfl, rfl, rfl, rfl, rfl, rfl, rfl, trivial⟩ ?_
         refine l_call [] [] 12 #[.agg (TConfig.arr c)] (some 54) trivial ?_
         intro w36 hw36
         refine (need_calls w36 c (hc.ext (hw36.ext rfl) (fun _ h => h))).mono ?_
         rintro e w37 ⟨rfl, hkw37⟩
         have hnw37 : n10 ≤ w37.heap.size := size_of hw36 hkw37
         refine ⟨_, _, rfl, hw36.keeps hkw37, ?_⟩
         refine q_rS 3 0 [] [[o0, o0, o0, o0, o0]] [] [(1, pt z), (7, i6 (needOf c)), (8, i6 (errOf c))] rfl trivial ?_
         by_cases h38 : (errOf c : Int) = 0
         · by_cases h39 : (c.Room : Int) < needOf c
           · refine q_cS 4 0 [] [[o0, oT, o0, o0, o0, (a1 1), oF, o0, o0]] [ET (errOf c) 0, Qb z, BF ((needOf c : Int) ≤ c.Room)] [(2, .bool false)] rfl ⟨et (by omega), rfl, bf (by omega), trivial⟩ ?_
             refine e_ret [] [] (.bool false) trivial ?_
             intro w40 hw40
             refine ⟨congrArg (fun b => Ending.returned (Value.bool b)) (?_ : false = kernB c), back0 hw40⟩
             have eo : (List.range c.Partitions.xs.length).any (ovlP c) = false := range_none (fun i hi => hg i (by omega))
             unfold kernB; rw [eo]; simp [h3, h7]; first | done | omega
           · refine q_cS 4 0 [] [[o0, oT, o0, o0, o0, (a1 1), oT, o0, o0]] [ET (errOf c) 0, Qb z, BT ((needOf c : Int) ≤ c.Room)] [(2, .bool true)] rfl ⟨et (by omega), rfl, bt (by omega), trivial⟩ ?_
             refine e_ret [] [] (.bool true) trivial ?_
             intro w41 hw41
             refine ⟨congrArg (fun b => Ending.returned (Value.bool b)) (?_ : true = kernB c), back0 hw41⟩
             have eo : (List.range c.Partitions.xs.length).any (ovlP c) = false := range_none (fun i hi => hg i (by omega))
             unfold kernB; rw [eo]; simp [h3, h7]; first | done | omega
         · refine q_cS 4 0 [] [[o0, oF, o0, o0, o0]] [EF (errOf c) 0] [(2, .bool false)] rfl ⟨ef (by omega), trivial⟩ ?_
           refine e_ret [] [] (.bool false) trivial ?_
           intro w42 hw42
           refine ⟨congrArg (fun b => Ending.returned (Value.bool b)) (?_ : false = kernB c), back0 hw42⟩
           have eo : (List.range c.Partitions.xs.length).any (ovlP c) = false := range_none (fun i hi => hg i (by omega))
           unfold kernB; rw [eo]; simp [h3, h7]; first | done | omega
   · have hd43 := win_no h7
     refine q_rS 8 0 [1] [[(ov (.bool true)), o0], [o0]] [Value.bool (!(win c.Room 1 (c.Frames - c.Kernel))) = Value.bool true] [(2, .bool false)] rfl ⟨by simp [h7], trivial⟩ ?_
     refine e_ret [] [] (.bool false) trivial ?_
     intro w44 hw44
     refine ⟨congrArg (fun b => Ending.returned (Value.bool b)) (?_ : false = kernB c), back0 hw44⟩
     unfold kernB; simp [h3, h7]
 · have hd45 := win_no h3
   refine q_rS 8 0 [1] [[(ov (.bool true)), o0, o0], [o0]] [Value.bool (!(win c.Kernel 0 (c.Frames - 1))) = Value.bool true] [(2, .bool false)] rfl ⟨by simp [h3], trivial⟩ ?_
   refine e_ret [] [] (.bool false) trivial ?_
   intro w46 hw46
   refine ⟨congrArg (fun b => Ending.returned (Value.bool b)) (?_ : false = kernB c), back0 hw46⟩
   unfold kernB; simp [h3]
end Go.Proofs.YtnjhekfgmbpmlaaDoor.Ad
namespace Go.Proofs.YtnjhekfgmbpmlaaDoor.Ad
open Go Go.Proofs.YtnjhekfgmbpmlaaDoor.Eng Go.Proofs.YtnjhekfgmbpmlaaDoor.Mem Go.Proofs.YtnjhekfgmbpmlaaDoor.Ly
set_option linter.unusedSimpArgs false
set_option linter.unusedVariables false
set_option maxRecDepth 100000
def whole1 (c : TConfig) : Tfound := unl (win c.Frames 1 1024) 400 ⟨-1, -1⟩
def whole2 (c : TConfig) : Tfound := unl (win c.Major 1 16384) 401 ⟨-1, -1⟩
def whole3 (c : TConfig) : Tfound := unl (win ((c.Cores.xs.length : Nat) : Int) 1 4) 402 ⟨-1, -1⟩
def whole4 (c : TConfig) : Tfound := unl (win ((c.Partitions.xs.length : Nat) : Int) 1 8) 403 ⟨-1, -1⟩
def whole5 (c : TConfig) : Tfound := unl (decide (((c.Channels.xs.length : Nat) : Int) ≤ 16)) 404 ⟨-1, -1⟩
def kernQ (c : TConfig) : Tfound := unl (kernB c) 423 ⟨-1, -1⟩
theorem q1_calls (w : World) (hL : LaidAt w) (c : TConfig) (hc : TConfig.ok Any w c) (bc : Nat) (hbc : ∀ (k : Nat) (v : Value), (TConfig.cells c)[k]? = some v → w.cell? ⟨bc, 0 + k, none⟩ = some v) : Calls Tryd.prog 40 #[.pointer (some ⟨bc, 0, none⟩)] w fun e w' => e = .returned (.agg (Tfound.arr (whole1 c))) ∧ Keeps (fun _ => False) w w' := by
 obtain ⟨z, hz⟩ : ∃ z, z = w.heap.size := ⟨_, rfl⟩
 refine calls_G (args := [pt bc]) 7 ⟨w, z, [(old0 w)]⟩ Tryd.func40 rfl (by kernel_rfl) (by kernel_rfl) (sat_0 hz) ?_
 have hpl := hc.Partitions.1.len; have hpc := hc.Cores.1.len; have hpch := hc.Channels.1.len
 refine g_keep [0] [(0, pt bc)] ?_
 refine q_c 5 0 [] [[o0]] [] [(0, pt bc), (1, pt z)] ⟨w, z + 1, [(old0 w), (bk z #[i6 0, i6 0, i6 0] 73)]⟩ rfl trivial ?_
 refine g_draw 5 [0, 1] [(old0 w), (bk z #[i6 0, i6 0, i6 0] 73)] rfl rfl ?_
 refine w_chainN [.tk 0 o0, .tk 1 (oa [.via 0 (i6 c.Frames)]), .tk 3 (oa [.via 0 (i6 (-1)), .via 0 (i6 (-1))]), .cl 2 (.bool (win c.Frames 1 1024)), .cl 4 (.agg (Tfound.arr (unl (win c.Frames 1 1024) 400 ⟨-1, -1⟩)))] [1, 6] [(42, #[i6 c.Frames, i6 1, i6 1024], .bool (win c.Frames 1 1024)), (41, #[.bool (win c.Frames 1 1024), i6 400, .agg #[i6 (-1), i6 (-1)]], .agg (Tfound.arr (unl (win c.Frames 1 1024) 400 ⟨-1, -1⟩)))] [true, true, true, true, true, false] [Old w bc 0 (i6 c.Frames), Old w 1 0 (i6 (-1)), Old w 1 1 (i6 (-1))] [(1, pt z), (6, .agg (Tfound.arr (unl (win c.Frames 1 1024) 400 ⟨-1, -1⟩)))] [0, 1] ⟨old_cell' (hbc 0 _ rfl), old_cell' (hL.1 0 _ rfl), old_cell' (hL.1 1 _ rfl), trivial⟩ ⟨fun w1 hw1 => within_calls w1 c.Frames 1 1024, fun w2 hw2 => unless_calls w2 (hL.ext (hw2.ext rfl)) (win c.Frames 1 1024) 400 (-1) (-1), trivial⟩ (fun n3 hn4 => ?_)
 replace hn4 : z + 1 ≤ n3 := hn4
 refine w_one 5 (by as_aux_lemma => kernel_rfl) rfl ?_
 refine wo_eff (an 3 1) [1] [Qb z, Qb z, Qb z] [(1, pt z)] ⟨w, n3, [(old0 w), (.blk z (.cells (Tfound.arr (unl (win c.Frames 1 1024) 400 ⟨-1, -1⟩)) 73 (0, 0)) true)]⟩ [] (by as_aux_lemma => kernel_rfl) rfl ⟨rfl, rfl, rfl, trivial⟩ (.inl rfl) ?_
 refine w_free 6 [0, 1] [(old0 w), (.blk z (.cells (Tfound.arr (unl (win c.Frames 1 1024) 400 ⟨-1, -1⟩)) 73 (0, 0)) true)] rfl rfl ?_
 refine w_done (by as_aux_lemma => kernel_rfl) ?_
 refine e_keep [1] [(1, pt z)] ?_
 refine e_seq <| g_ret <| e_ret [.at 1, .at 1, .at 1] [Qb z, Qb z, Qb z] (.agg #[i6 ((unl (win c.Frames 1 1024) 400 ⟨-1, -1⟩).e), i6 ((unl (win c.Frames 1 1024) 400 ⟨-1, -1⟩).where_.First), i6 ((unl (win c.Frames 1 1024) 400 ⟨-1, -1⟩).where_.Second)]) ⟨rfl, rfl, rfl, trivial⟩ ?_
 intro w5 hw5
 exact ⟨congrArg (fun t => Ending.returned (Value.agg (Tfound.arr t))) (show (unl (win c.Frames 1 1024) 400 ⟨-1, -1⟩) = whole1 c from by unfold whole1; first | rfl | rw [decide_eq_false (by omega)] | rw [decide_eq_true (by omega)]), back0 hw5⟩
theorem q2_calls (w : World) (hL : LaidAt w) (c : TConfig) (hc : TConfig.ok Any w c) (bc : Nat) (hbc : ∀ (k : Nat) (v : Value), (TConfig.cells c)[k]? = some v → w.cell? ⟨bc, 0 + k, none⟩ = some v) : Calls Tryd.prog 43 #[.pointer (some ⟨bc, 0, none⟩)] w fun e w' => e = .returned (.agg (Tfound.arr (whole2 c))) ∧ Keeps (fun _ => False) w w' := by
 obtain ⟨z, hz⟩ : ∃ z, z = w.heap.size := ⟨_, rfl⟩
 refine calls_G (args := [pt bc]) 7 ⟨w, z, [(old0 w)]⟩ Tryd.func43 rfl (by kernel_rfl) (by kernel_rfl) (sat_0 hz) ?_
 have hpl := hc.Partitions.1.len; have hpc := hc.Cores.1.len; have hpch := hc.Channels.1.len
 refine g_keep [0] [(0, pt bc)] ?_
 refine q_c 5 0 [] [[o0]] [] [(0, pt bc), (1, pt z)] ⟨w, z + 1, [(old0 w), (bk z #[i6 0, i6 0, i6 0] 73)]⟩ rfl trivial ?_
 refine g_draw 5 [0, 1] [(old0 w), (bk z #[i6 0, i6 0, i6 0] 73)] rfl rfl ?_
 refine w_chainN [.tk 0 o0, .tk 1 (oa [.via 0 (i6 c.Major)]), .tk 3 (oa [.via 0 (i6 (-1)), .via 0 (i6 (-1))]), .cl 2 (.bool (win c.Major 1 16384)), .cl 4 (.agg (Tfound.arr (unl (win c.Major 1 16384) 401 ⟨-1, -1⟩)))] [1, 6] [(42, #[i6 c.Major, i6 1, i6 16384], .bool (win c.Major 1 16384)), (41, #[.bool (win c.Major 1 16384), i6 401, .agg #[i6 (-1), i6 (-1)]], .agg (Tfound.arr (unl (win c.Major 1 16384) 401 ⟨-1, -1⟩)))] [true, true, true, true, true, false] [Old w bc 1 (i6 c.Major), Old w 1 0 (i6 (-1)), Old w 1 1 (i6 (-1))] [(1, pt z), (6, .agg (Tfound.arr (unl (win c.Major 1 16384) 401 ⟨-1, -1⟩)))] [0, 1] ⟨old_cell' (hbc 1 _ rfl), old_cell' (hL.1 0 _ rfl), old_cell' (hL.1 1 _ rfl), trivial⟩ ⟨fun w1 hw1 => within_calls w1 c.Major 1 16384, fun w2 hw2 => unless_calls w2 (hL.ext (hw2.ext rfl)) (win c.Major 1 16384) 401 (-1) (-1), trivial⟩ (fun n3 hn4 => ?_)
 replace hn4 : z + 1 ≤ n3 := hn4
 refine w_one 5 (by as_aux_lemma => kernel_rfl) rfl ?_
 refine wo_eff (an 3 1) [1] [Qb z, Qb z, Qb z] [(1, pt z)] ⟨w, n3, [(old0 w), (.blk z (.cells (Tfound.arr (unl (win c.Major 1 16384) 401 ⟨-1, -1⟩)) 73 (0, 0)) true)]⟩ [] (by as_aux_lemma => kernel_rfl) rfl ⟨rfl, rfl, rfl, trivial⟩ (.inl rfl) ?_
 refine w_free 6 [0, 1] [(old0 w), (.blk z (.cells (Tfound.arr (unl (win c.Major 1 16384) 401 ⟨-1, -1⟩)) 73 (0, 0)) true)] rfl rfl ?_
 refine w_done (by as_aux_lemma => kernel_rfl) ?_
 refine e_keep [1] [(1, pt z)] ?_
 refine e_seq <| g_ret <| e_ret [.at 1, .at 1, .at 1] [Qb z, Qb z, Qb z] (.agg #[i6 ((unl (win c.Major 1 16384) 401 ⟨-1, -1⟩).e), i6 ((unl (win c.Major 1 16384) 401 ⟨-1, -1⟩).where_.First), i6 ((unl (win c.Major 1 16384) 401 ⟨-1, -1⟩).where_.Second)]) ⟨rfl, rfl, rfl, trivial⟩ ?_
 intro w5 hw5
 exact ⟨congrArg (fun t => Ending.returned (Value.agg (Tfound.arr t))) (show (unl (win c.Major 1 16384) 401 ⟨-1, -1⟩) = whole2 c from by unfold whole2; first | rfl | rw [decide_eq_false (by omega)] | rw [decide_eq_true (by omega)]), back0 hw5⟩
abbrev qis8_0 (z : Nat) (c : TConfig) : Ch := .blk z (.cells (Tfound.arr (unl (win ((c.Cores.xs.length : Nat) : Int) 1 4) 402 ⟨-1, -1⟩)) 73 (0, 0)) true
theorem q3_calls (w : World) (hL : LaidAt w) (c : TConfig) (hc : TConfig.ok Any w c) (bc : Nat) (hbc : ∀ (k : Nat) (v : Value), (TConfig.cells c)[k]? = some v → w.cell? ⟨bc, 0 + k, none⟩ = some v) : Calls Tryd.prog 44 #[.pointer (some ⟨bc, 0, none⟩)] w fun e w' => e = .returned (.agg (Tfound.arr (whole3 c))) ∧ Keeps (fun _ => False) w w' := by
 obtain ⟨z, hz⟩ : ∃ z, z = w.heap.size := ⟨_, rfl⟩
 refine calls_G (args := [pt bc]) 8 ⟨w, z, [(old0 w)]⟩ Tryd.func44 rfl (by kernel_rfl) (by kernel_rfl) (sat_0 hz) ?_
 have hpl := hc.Partitions.1.len; have hpc := hc.Cores.1.len; have hpch := hc.Channels.1.len
 refine g_keep [0] [(0, pt bc)] ?_
 refine q_c 5 0 [] [[o0]] [] [(0, pt bc), (1, pt z)] ⟨w, z + 1, [(old0 w), (bk z #[i6 0, i6 0, i6 0] 73)]⟩ rfl trivial ?_
 refine g_draw 6 [0, 1] [(old0 w), (bk z #[i6 0, i6 0, i6 0] 73)] rfl rfl ?_
 refine w_chainN [.tk 0 o0, .tk 1 (oa [.via 0 (.slice c.Cores.a c.Cores.xs.length c.Cores.cap)]), .tk 2 o0, .tk 4 (oa [.via 0 (i6 (-1)), .via 0 (i6 (-1))]), .cl 3 (.bool (win ((c.Cores.xs.length : Nat) : Int) 1 4)), .cl 5 (.agg (Tfound.arr (unl (win ((c.Cores.xs.length : Nat) : Int) 1 4) 402 ⟨-1, -1⟩)))] [1, 7] [(42, #[i6 ((c.Cores.xs.length : Nat) : Int), i6 1, i6 4], .bool (win ((c.Cores.xs.length : Nat) : Int) 1 4)), (41, #[.bool (win ((c.Cores.xs.length : Nat) : Int) 1 4), i6 402, .agg #[i6 (-1), i6 (-1)]], .agg (Tfound.arr (unl (win ((c.Cores.xs.length : Nat) : Int) 1 4) 402 ⟨-1, -1⟩)))] [true, true, true, true, true, true, false] [Old w bc 4 (.slice c.Cores.a c.Cores.xs.length c.Cores.cap), Old w 1 0 (i6 (-1)), Old w 1 1 (i6 (-1))] [(1, pt z), (7, .agg (Tfound.arr (unl (win ((c.Cores.xs.length : Nat) : Int) 1 4) 402 ⟨-1, -1⟩)))] [0, 1] ⟨old_cell' (hbc 4 _ rfl), old_cell' (hL.1 0 _ rfl), old_cell' (hL.1 1 _ rfl), trivial⟩ ⟨fun w1 hw1 => within_calls w1 ((c.Cores.xs.length : Nat) : Int) 1 4, fun w2 hw2 => unless_calls w2 (hL.ext (hw2.ext rfl)) (win ((c.Cores.xs.length : Nat) : Int) 1 4) 402 (-1) (-1), trivial⟩ (fun n3 hn4 => ?_)
 replace hn4 : z + 1 ≤ n3 := hn4
 refine w_one 6 (by as_aux_lemma => kernel_rfl) rfl ?_
 refine wo_eff (an 3 1) [1] [Qb z, Qb z, Qb z] [(1, pt z)] ⟨w, n3, [(old0 w), (qis8_0 z c)]⟩ [] (by as_aux_lemma => kernel_rfl) rfl ⟨rfl, rfl, rfl, trivial⟩ (.inl rfl) ?_
 refine w_free 7 [0, 1] [(old0 w), (qis8_0 z c)] rfl rfl ?_
 refine w_done (by as_aux_lemma => kernel_rfl) ?_
 refine e_keep [1] [(1, pt z)] ?_
 refine e_seq <| g_ret <| e_ret [.at 1, .at 1, .at 1] [Qb z, Qb z, Qb z] (.agg #[i6 ((unl (win ((c.Cores.xs.length : Nat) : Int) 1 4) 402 ⟨-1, -1⟩).e), i6 ((unl (win ((c.Cores.xs.length : Nat) : Int) 1 4) 402 ⟨-1, -1⟩).where_.First), i6 ((unl (win ((c.Cores.xs.length : Nat) : Int) 1 4) 402 ⟨-1, -1⟩).where_.Second)]) ⟨rfl, rfl, rfl, trivial⟩ ?_
 intro w5 hw5
 exact ⟨congrArg (fun t => Ending.returned (Value.agg (Tfound.arr t))) (show (unl (win ((c.Cores.xs.length : Nat) : Int) 1 4) 402 ⟨-1, -1⟩) = whole3 c from by unfold whole3; first | rfl | rw [decide_eq_false (by omega)] | rw [decide_eq_true (by omega)]), back0 hw5⟩
abbrev qimu_0 (z : Nat) (c : TConfig) : Ch := .blk z (.cells (Tfound.arr (unl (win ((c.Partitions.xs.length : Nat) : Int) 1 8) 403 ⟨-1, -1⟩)) 73 (0, 0)) true
theorem q4_calls (w : World) (hL : LaidAt w) (c : TConfig) (hc : TConfig.ok Any w c) (bc : Nat) (hbc : ∀ (k : Nat) (v : Value), (TConfig.cells c)[k]? = some v → w.cell? ⟨bc, 0 + k, none⟩ = some v) : Calls Tryd.prog 45 #[.pointer (some ⟨bc, 0, none⟩)] w fun e w' => e = .returned (.agg (Tfound.arr (whole4 c))) ∧ Keeps (fun _ => False) w w' := by
 obtain ⟨z, hz⟩ : ∃ z, z = w.heap.size := ⟨_, rfl⟩
 refine calls_G (args := [pt bc]) 8 ⟨w, z, [(old0 w)]⟩ Tryd.func45 rfl (by kernel_rfl) (by kernel_rfl) (sat_0 hz) ?_
 have hpl := hc.Partitions.1.len; have hpc := hc.Cores.1.len; have hpch := hc.Channels.1.len
 refine g_keep [0] [(0, pt bc)] ?_
 refine q_c 5 0 [] [[o0]] [] [(0, pt bc), (1, pt z)] ⟨w, z + 1, [(old0 w), (bk z #[i6 0, i6 0, i6 0] 73)]⟩ rfl trivial ?_
 refine g_draw 6 [0, 1] [(old0 w), (bk z #[i6 0, i6 0, i6 0] 73)] rfl rfl ?_
 refine w_chainN [.tk 0 o0, .tk 1 (oa [.via 0 (.slice c.Partitions.a c.Partitions.xs.length c.Partitions.cap)]), .tk 2 o0, .tk 4 (oa [.via 0 (i6 (-1)), .via 0 (i6 (-1))]), .cl 3 (.bool (win ((c.Partitions.xs.length : Nat) : Int) 1 8)), .cl 5 (.agg (Tfound.arr (unl (win ((c.Partitions.xs.length : Nat) : Int) 1 8) 403 ⟨-1, -1⟩)))] [1, 7] [(42, #[i6 ((c.Partitions.xs.length : Nat) : Int), i6 1, i6 8], .bool (win ((c.Partitions.xs.length : Nat) : Int) 1 8)), (41, #[.bool (win ((c.Partitions.xs.length : Nat) : Int) 1 8), i6 403, .agg #[i6 (-1), i6 (-1)]], .agg (Tfound.arr (unl (win ((c.Partitions.xs.length : Nat) : Int) 1 8) 403 ⟨-1, -1⟩)))] [true, true, true, true, true, true, false] [Old w bc 5 (.slice c.Partitions.a c.Partitions.xs.length c.Partitions.cap), Old w 1 0 (i6 (-1)), Old w 1 1 (i6 (-1))] [(1, pt z), (7, .agg (Tfound.arr (unl (win ((c.Partitions.xs.length : Nat) : Int) 1 8) 403 ⟨-1, -1⟩)))] [0, 1] ⟨old_cell' (hbc 5 _ rfl), old_cell' (hL.1 0 _ rfl), old_cell' (hL.1 1 _ rfl), trivial⟩ ⟨fun w1 hw1 => within_calls w1 ((c.Partitions.xs.length : Nat) : Int) 1 8, fun w2 hw2 => unless_calls w2 (hL.ext (hw2.ext rfl)) (win ((c.Partitions.xs.length : Nat) : Int) 1 8) 403 (-1) (-1), trivial⟩ (fun n3 hn4 => ?_)
 replace hn4 : z + 1 ≤ n3 := hn4
 refine w_one 6 (by as_aux_lemma => kernel_rfl) rfl ?_
 refine wo_eff (an 3 1) [1] [Qb z, Qb z, Qb z] [(1, pt z)] ⟨w, n3, [(old0 w), (qimu_0 z c)]⟩ [] (by as_aux_lemma => kernel_rfl) rfl ⟨rfl, rfl, rfl, trivial⟩ (.inl rfl) ?_
 refine w_free 7 [0, 1] [(old0 w), (qimu_0 z c)] rfl rfl ?_
 refine w_done (by as_aux_lemma => kernel_rfl) ?_
 refine e_keep [1] [(1, pt z)] ?_
 refine e_seq <| g_ret <| e_ret [.at 1, .at 1, .at 1] [Qb z, Qb z, Qb z] (.agg #[i6 ((unl (win ((c.Partitions.xs.length : Nat) : Int) 1 8) 403 ⟨-1, -1⟩).e), i6 ((unl (win ((c.Partitions.xs.length : Nat) : Int) 1 8) 403 ⟨-1, -1⟩).where_.First), i6 ((unl (win ((c.Partitions.xs.length : Nat) : Int) 1 8) 403 ⟨-1, -1⟩).where_.Second)]) ⟨rfl, rfl, rfl, trivial⟩ ?_
 intro w5 hw5
 exact ⟨congrArg (fun t => Ending.returned (Value.agg (Tfound.arr t))) (show (unl (win ((c.Partitions.xs.length : Nat) : Int) 1 8) 403 ⟨-1, -1⟩) = whole4 c from by unfold whole4; first | rfl | rw [decide_eq_false (by omega)] | rw [decide_eq_true (by omega)]), back0 hw5⟩
theorem q5_calls (w : World) (hL : LaidAt w) (c : TConfig) (hc : TConfig.ok Any w c) (bc : Nat) (hbc : ∀ (k : Nat) (v : Value), (TConfig.cells c)[k]? = some v → w.cell? ⟨bc, 0 + k, none⟩ = some v) : Calls Tryd.prog 46 #[.pointer (some ⟨bc, 0, none⟩)] w fun e w' => e = .returned (.agg (Tfound.arr (whole5 c))) ∧ Keeps (fun _ => False) w w' := by
 obtain ⟨z, hz⟩ : ∃ z, z = w.heap.size := ⟨_, rfl⟩
 refine calls_G (args := [pt bc]) 8 ⟨w, z, [(old0 w)]⟩ Tryd.func46 rfl (by kernel_rfl) (by kernel_rfl) (sat_0 hz) ?_
 have hpl := hc.Partitions.1.len; have hpc := hc.Cores.1.len; have hpch := hc.Channels.1.len
 refine g_keep [0] [(0, pt bc)] ?_
 refine q_c 5 0 [] [[o0]] [] [(0, pt bc), (1, pt z)] ⟨w, z + 1, [(old0 w), (bk z #[i6 0, i6 0, i6 0] 73)]⟩ rfl trivial ?_
 by_cases h1 : (16 : Int) < ((c.Channels.xs.length : Nat) : Int)
 · refine q_cS 1 5 [] [[o0, (oa [.via 0 (.slice c.Channels.a c.Channels.xs.length c.Channels.cap)]), o0, oF, (oa [.via 0 (i6 (-1)), .via 0 (i6 (-1))])]] [Old w bc 6 (.slice c.Channels.a c.Channels.xs.length c.Channels.cap), BF ((((c.Channels.xs.length : Nat) : Int) : Int) ≤ 16), Old w 1 0 (i6 (-1)), Old w 1 1 (i6 (-1))] [(1, pt z), (5, .bool false), (6, .agg #[i6 (-1), i6 (-1)])] rfl ⟨old_cell' (hbc 6 _ rfl), bf (by omega), old_cell' (hL.1 0 _ rfl), old_cell' (hL.1 1 _ rfl), trivial⟩ ?_
   refine l_call [] [] 41 #[.bool false, i6 404, .agg #[i6 (-1), i6 (-1)]] (some 7) trivial ?_
   intro w2 hw2
   refine (unless_calls w2 (hL.ext (hw2.ext rfl)) false 404 (-1) (-1)).mono ?_
   rintro e w3 ⟨rfl, hkw3⟩
   have hnw3 : z + 1 ≤ w3.heap.size := size_of hw2 hkw3
   refine ⟨_, _, rfl, hw2.keeps hkw3, ?_⟩
   refine q_r 3 0 [] [[(an 3 1)]] [Qb z, Qb z, Qb z] [(1, pt z)] ⟨w, w3.heap.size, [(old0 w), (bk z (Tfound.arr (unl false 404 ⟨-1, -1⟩)) 73)]⟩ rfl ⟨rfl, rfl, rfl, trivial⟩ ?_
   refine e_ret [.at 1, .at 1, .at 1] [Qb z, Qb z, Qb z] (.agg #[i6 ((unl false 404 ⟨-1, -1⟩).e), i6 ((unl false 404 ⟨-1, -1⟩).where_.First), i6 ((unl false 404 ⟨-1, -1⟩).where_.Second)]) ⟨rfl, rfl, rfl, trivial⟩ ?_
   intro w4 hw4
   exact ⟨congrArg (fun t => Ending.returned (Value.agg (Tfound.arr t))) (show (unl false 404 ⟨-1, -1⟩) = whole5 c from by unfold whole5; first | rfl | rw [decide_eq_false (by omega)] | rw [decide_eq_true (by omega)]), back0 hw4⟩
 · refine q_cS 1 5 [] [[o0, (oa [.via 0 (.slice c.Channels.a c.Channels.xs.length c.Channels.cap)]), o0, oT, (oa [.via 0 (i6 (-1)), .via 0 (i6 (-1))])]] [Old w bc 6 (.slice c.Channels.a c.Channels.xs.length c.Channels.cap), BT ((((c.Channels.xs.length : Nat) : Int) : Int) ≤ 16), Old w 1 0 (i6 (-1)), Old w 1 1 (i6 (-1))] [(1, pt z), (5, .bool true), (6, .agg #[i6 (-1), i6 (-1)])] rfl ⟨old_cell' (hbc 6 _ rfl), bt (by omega), old_cell' (hL.1 0 _ rfl), old_cell' (hL.1 1 _ rfl), trivial⟩ ?_
   refine l_call [] [] 41 #[.bool true, i6 404, .agg #[i6 (-1), i6 (-1)]] (some 7) trivial ?_
   intro w5 hw5
   refine (unless_calls w5 (hL.ext (hw5.ext rfl)) true 404 (-1) (-1)).mono ?_
   rintro e w6 ⟨rfl, hkw6⟩
   have hnw6 : z + 1 ≤ w6.heap.size := size_of hw5 hkw6
   refine ⟨_, _, rfl, hw5.keeps hkw6, ?_⟩
   refine q_r 3 0 [] [[(an 3 1)]] [Qb z, Qb z, Qb z] [(1, pt z)] ⟨w, w6.heap.size, [(old0 w), (bk z (Tfound.arr (unl true 404 ⟨-1, -1⟩)) 73)]⟩ rfl ⟨rfl, rfl, rfl, trivial⟩ ?_
   refine e_ret [.at 1, .at 1, .at 1] [Qb z, Qb z, Qb z] (.agg #[i6 ((unl true 404 ⟨-1, -1⟩).e), i6 ((unl true 404 ⟨-1, -1⟩).where_.First), i6 ((unl true 404 ⟨-1, -1⟩).where_.Second)]) ⟨rfl, rfl, rfl, trivial⟩ ?_
   intro w7 hw7
   exact ⟨congrArg (fun t => Ending.returned (Value.agg (Tfound.arr t))) (show (unl true 404 ⟨-1, -1⟩) = whole5 c from by unfold whole5; first | rfl | rw [decide_eq_false (by omega)] | rw [decide_eq_true (by omega)]), back0 hw7⟩
theorem q6_calls (w : World) (hL : LaidAt w) (c : TConfig) (hc : TConfig.ok Any w c) (bc : Nat) (hbc : ∀ (k : Nat) (v : Value), (TConfig.cells c)[k]? = some v → w.cell? ⟨bc, 0 + k, none⟩ = some v) (b p : Nat) (hb : ∀ (k : Nat) (v : Value), [Value.int .i64 (p : Nat)][k]? = some v → w.cell? ⟨b, 0 + k, none⟩ = some v) (hp : p < c.Partitions.xs.length) (hFr : 1 ≤ c.Frames ∧ c.Frames ≤ 1024) (hpf : ∀ q, q < p → partQ c q = fineF) : Calls Tryd.prog 47 #[.pointer (some ⟨bc, 0, none⟩), .pointer (some ⟨b, 0, none⟩)] w fun e w' => e = .returned (.agg (Tfound.arr (partQ c p))) ∧ Keeps (fun _ => False) w w' := by
 obtain ⟨z, hz⟩ : ∃ z, z = w.heap.size := ⟨_, rfl⟩
 refine calls_G (args := [pt bc, pt b]) 6 ⟨w, z, [(old0 w)]⟩ Tryd.func47 rfl (by kernel_rfl) (by kernel_rfl) (sat_0 hz) ?_
 have hpl := hc.Partitions.1.len; have hpc := hc.Cores.1.len; have hpch := hc.Channels.1.len
 refine g_keep [0, 1] [(0, pt bc), (1, pt b)] ?_
 refine q_c 6 2 [] [[o0], [(ol 0 (TConfig.arr c)), (oa [.via 0 (i6 (p : Int))])]] [OldR w bc 0 (TConfig.arr c), Old w b 0 (i6 (p : Int))] [(2, pt z), (3, .agg (TConfig.arr c)), (4, i6 (p : Int))] ⟨w, z + 1, [(old0 w), (bk z #[i6 0, i6 0, i6 0] 73)]⟩ rfl ⟨old_row hbc, old_cell' (hb 0 _ rfl), trivial⟩ ?_
 refine l_call [] [] 48 #[.agg (TConfig.arr c), i6 (p : Int)] (some 5) trivial ?_
 intro w1 hw1
 refine (partition_calls w1 (hL.ext (hw1.ext rfl)) c (hc.ext (hw1.ext rfl) (fun _ h => h)) p hp hFr hpf).mono ?_
 rintro e w2 ⟨rfl, hkw2⟩
 have hnw2 : z + 1 ≤ w2.heap.size := size_of hw1 hkw2
 refine ⟨_, _, rfl, hw1.keeps hkw2, ?_⟩
 refine q_r 3 0 [] [[(an 3 1)]] [Qb z, Qb z, Qb z] [(2, pt z)] ⟨w, w2.heap.size, [(old0 w), (bk z (Tfound.arr (partQ c p)) 73)]⟩ rfl ⟨rfl, rfl, rfl, trivial⟩ ?_
 refine e_ret [.at 1, .at 1, .at 1] [Qb z, Qb z, Qb z] (.agg #[i6 ((partQ c p).e), i6 ((partQ c p).where_.First), i6 ((partQ c p).where_.Second)]) ⟨rfl, rfl, rfl, trivial⟩ ?_
 intro w3 hw3
 exact ⟨rfl, back0 hw3⟩
theorem q7_calls (w : World) (hL : LaidAt w) (c : TConfig) (hc : TConfig.ok Any w c) (bc : Nat) (hbc : ∀ (k : Nat) (v : Value), (TConfig.cells c)[k]? = some v → w.cell? ⟨bc, 0 + k, none⟩ = some v) (b p : Nat) (hb : ∀ (k : Nat) (v : Value), [Value.int .i64 (p : Nat)][k]? = some v → w.cell? ⟨b, 0 + k, none⟩ = some v) (hp : p < c.Channels.xs.length) (hm : c.Partitions.xs.length ≤ 1024) (hq : ∀ p, p < c.Partitions.xs.length → (gd c.Partitions.xs p).Ports.xs.length ≤ 1024) : Calls Tryd.prog 49 #[.pointer (some ⟨bc, 0, none⟩), .pointer (some ⟨b, 0, none⟩)] w fun e w' => e = .returned (.agg (Tfound.arr (chanQ c p))) ∧ Keeps (fun _ => False) w w' := by
 obtain ⟨z, hz⟩ : ∃ z, z = w.heap.size := ⟨_, rfl⟩
 refine calls_G (args := [pt bc, pt b]) 6 ⟨w, z, [(old0 w)]⟩ Tryd.func49 rfl (by kernel_rfl) (by kernel_rfl) (sat_0 hz) ?_
 have hpl := hc.Partitions.1.len; have hpc := hc.Cores.1.len; have hpch := hc.Channels.1.len
 refine g_keep [0, 1] [(0, pt bc), (1, pt b)] ?_
 refine q_c 6 2 [] [[o0], [(ol 0 (TConfig.arr c)), (oa [.via 0 (i6 (p : Int))])]] [OldR w bc 0 (TConfig.arr c), Old w b 0 (i6 (p : Int))] [(2, pt z), (3, .agg (TConfig.arr c)), (4, i6 (p : Int))] ⟨w, z + 1, [(old0 w), (bk z #[i6 0, i6 0, i6 0] 73)]⟩ rfl ⟨old_row hbc, old_cell' (hb 0 _ rfl), trivial⟩ ?_
 refine l_call [] [] 50 #[.agg (TConfig.arr c), i6 (p : Int)] (some 5) trivial ?_
 intro w1 hw1
 refine (channel_calls w1 (hL.ext (hw1.ext rfl)) c (hc.ext (hw1.ext rfl) (fun _ h => h)) p hp hm hq).mono ?_
 rintro e w2 ⟨rfl, hkw2⟩
 have hnw2 : z + 1 ≤ w2.heap.size := size_of hw1 hkw2
 refine ⟨_, _, rfl, hw1.keeps hkw2, ?_⟩
 refine q_r 3 0 [] [[(an 3 1)]] [Qb z, Qb z, Qb z] [(2, pt z)] ⟨w, w2.heap.size, [(old0 w), (bk z (Tfound.arr (chanQ c p)) 73)]⟩ rfl ⟨rfl, rfl, rfl, trivial⟩ ?_
 refine e_ret [.at 1, .at 1, .at 1] [Qb z, Qb z, Qb z] (.agg #[i6 ((chanQ c p).e), i6 ((chanQ c p).where_.First), i6 ((chanQ c p).where_.Second)]) ⟨rfl, rfl, rfl, trivial⟩ ?_
 intro w3 hw3
 exact ⟨rfl, back0 hw3⟩
theorem q8_calls (w : World) (hL : LaidAt w) (c : TConfig) (hc : TConfig.ok Any w c) (bc : Nat) (hbc : ∀ (k : Nat) (v : Value), (TConfig.cells c)[k]? = some v → w.cell? ⟨bc, 0 + k, none⟩ = some v) (b p : Nat) (hb : ∀ (k : Nat) (v : Value), [Value.int .i64 (p : Nat)][k]? = some v → w.cell? ⟨b, 0 + k, none⟩ = some v) (hp : p < c.Cores.xs.length)  : Calls Tryd.prog 51 #[.pointer (some ⟨bc, 0, none⟩), .pointer (some ⟨b, 0, none⟩)] w fun e w' => e = .returned (.agg (Tfound.arr (coreQ c p))) ∧ Keeps (fun _ => False) w w' := by
 obtain ⟨z, hz⟩ : ∃ z, z = w.heap.size := ⟨_, rfl⟩
 refine calls_G (args := [pt bc, pt b]) 6 ⟨w, z, [(old0 w)]⟩ Tryd.func51 rfl (by kernel_rfl) (by kernel_rfl) (sat_0 hz) ?_
 have hpl := hc.Partitions.1.len; have hpc := hc.Cores.1.len; have hpch := hc.Channels.1.len
 refine g_keep [0, 1] [(0, pt bc), (1, pt b)] ?_
 refine q_c 6 2 [] [[o0], [(ol 0 (TConfig.arr c)), (oa [.via 0 (i6 (p : Int))])]] [OldR w bc 0 (TConfig.arr c), Old w b 0 (i6 (p : Int))] [(2, pt z), (3, .agg (TConfig.arr c)), (4, i6 (p : Int))] ⟨w, z + 1, [(old0 w), (bk z #[i6 0, i6 0, i6 0] 73)]⟩ rfl ⟨old_row hbc, old_cell' (hb 0 _ rfl), trivial⟩ ?_
 refine l_call [] [] 52 #[.agg (TConfig.arr c), i6 (p : Int)] (some 5) trivial ?_
 intro w1 hw1
 refine (core_calls w1 (hL.ext (hw1.ext rfl)) c (hc.ext (hw1.ext rfl) (fun _ h => h)) p hp).mono ?_
 rintro e w2 ⟨rfl, hkw2⟩
 have hnw2 : z + 1 ≤ w2.heap.size := size_of hw1 hkw2
 refine ⟨_, _, rfl, hw1.keeps hkw2, ?_⟩
 refine q_r 3 0 [] [[(an 3 1)]] [Qb z, Qb z, Qb z] [(2, pt z)] ⟨w, w2.heap.size, [(old0 w), (bk z (Tfound.arr (coreQ c p)) 73)]⟩ rfl ⟨rfl, rfl, rfl, trivial⟩ ?_
 refine e_ret [.at 1, .at 1, .at 1] [Qb z, Qb z, Qb z] (.agg #[i6 ((coreQ c p).e), i6 ((coreQ c p).where_.First), i6 ((coreQ c p).where_.Second)]) ⟨rfl, rfl, rfl, trivial⟩ ?_
 intro w3 hw3
 exact ⟨rfl, back0 hw3⟩
theorem q9_calls (w : World) (hL : LaidAt w) (c : TConfig) (hc : TConfig.ok Any w c) (bc : Nat) (hbc : ∀ (k : Nat) (v : Value), (TConfig.cells c)[k]? = some v → w.cell? ⟨bc, 0 + k, none⟩ = some v) (hFr : 1 ≤ c.Frames ∧ c.Frames ≤ 1024) (hpf : ∀ q, q < c.Partitions.xs.length → partQ c q = fineF) : Calls Tryd.prog 53 #[.pointer (some ⟨bc, 0, none⟩)] w fun e w' => e = .returned (.agg (Tfound.arr (kernQ c))) ∧ Keeps (fun _ => False) w w' := by
 obtain ⟨z, hz⟩ : ∃ z, z = w.heap.size := ⟨_, rfl⟩
 refine calls_G (args := [pt bc]) 6 ⟨w, z, [(old0 w)]⟩ Tryd.func53 rfl (by kernel_rfl) (by kernel_rfl) (sat_0 hz) ?_
 have hpl := hc.Partitions.1.len; have hpc := hc.Cores.1.len; have hpch := hc.Channels.1.len
 refine g_keep [0] [(0, pt bc)] ?_
 refine q_c 5 0 [] [[o0]] [] [(0, pt bc), (1, pt z)] ⟨w, z + 1, [(old0 w), (bk z #[i6 0, i6 0, i6 0] 73)]⟩ rfl trivial ?_
 refine g_draw 4 [0, 1] [(old0 w), (bk z #[i6 0, i6 0, i6 0] 73)] rfl rfl ?_
 refine w_chainN [.tk 0 (ol 0 (TConfig.arr c)), .tk 2 (oa [.via 0 (i6 (-1)), .via 0 (i6 (-1))]), .cl 1 (.bool (kernB c)), .cl 3 (.agg (Tfound.arr (unl (kernB c) 423 ⟨-1, -1⟩)))] [1, 5] [(54, #[.agg (TConfig.arr c)], .bool (kernB c)), (41, #[.bool (kernB c), i6 423, .agg #[i6 (-1), i6 (-1)]], .agg (Tfound.arr (unl (kernB c) 423 ⟨-1, -1⟩)))] [true, true, true, true, false] [OldR w bc 0 (TConfig.arr c), Old w 1 0 (i6 (-1)), Old w 1 1 (i6 (-1))] [(1, pt z), (5, .agg (Tfound.arr (unl (kernB c) 423 ⟨-1, -1⟩)))] [0, 1] ⟨old_row hbc, old_cell' (hL.1 0 _ rfl), old_cell' (hL.1 1 _ rfl), trivial⟩ ⟨fun w1 hw1 => kernel_calls w1 (hL.ext (hw1.ext rfl)) c (hc.ext (hw1.ext rfl) (fun _ h => h)) hFr hpf, fun w2 hw2 => unless_calls w2 (hL.ext (hw2.ext rfl)) (kernB c) 423 (-1) (-1), trivial⟩ (fun n3 hn4 => ?_)
 replace hn4 : z + 1 ≤ n3 := hn4
 refine w_one 4 (by as_aux_lemma => kernel_rfl) rfl ?_
 refine wo_eff (an 3 1) [1] [Qb z, Qb z, Qb z] [(1, pt z)] ⟨w, n3, [(old0 w), (.blk z (.cells (Tfound.arr (unl (kernB c) 423 ⟨-1, -1⟩)) 73 (0, 0)) true)]⟩ [] (by as_aux_lemma => kernel_rfl) rfl ⟨rfl, rfl, rfl, trivial⟩ (.inl rfl) ?_
 refine w_free 5 [0, 1] [(old0 w), (.blk z (.cells (Tfound.arr (unl (kernB c) 423 ⟨-1, -1⟩)) 73 (0, 0)) true)] rfl rfl ?_
 refine w_done (by as_aux_lemma => kernel_rfl) ?_
 refine e_keep [1] [(1, pt z)] ?_
 refine e_seq <| g_ret <| e_ret [.at 1, .at 1, .at 1] [Qb z, Qb z, Qb z] (.agg #[i6 ((unl (kernB c) 423 ⟨-1, -1⟩).e), i6 ((unl (kernB c) 423 ⟨-1, -1⟩).where_.First), i6 ((unl (kernB c) 423 ⟨-1, -1⟩).where_.Second)]) ⟨rfl, rfl, rfl, trivial⟩ ?_
 intro w5 hw5
 exact ⟨congrArg (fun t => Ending.returned (Value.agg (Tfound.arr t))) (show (unl (kernB c) 423 ⟨-1, -1⟩) = kernQ c from by unfold kernQ; first | rfl | rw [decide_eq_false (by omega)] | rw [decide_eq_true (by omega)]), back0 hw5⟩
end Go.Proofs.YtnjhekfgmbpmlaaDoor.Ad
namespace Go.Proofs.YtnjhekfgmbpmlaaDoor.Ad
open Go Go.Proofs.YtnjhekfgmbpmlaaDoor.Eng Go.Proofs.YtnjhekfgmbpmlaaDoor.Mem Go.Proofs.YtnjhekfgmbpmlaaDoor.Ly
set_option linter.unusedSimpArgs false
set_option linter.unusedVariables false
set_option maxRecDepth 100000
abbrev fn1 (f bc : Nat) : Value := .func (.func f) #[] #[.pointer (some ⟨bc, 0, none⟩)]
abbrev fn2 (f bc b : Nat) : Value := .func (.func f) #[] #[.pointer (some ⟨bc, 0, none⟩), .pointer (some ⟨b, 0, none⟩)]
def ask5 (bc : Nat) : List Value := [fn1 40 bc, fn1 43 bc, fn1 44 bc, fn1 45 bc, fn1 46 bc]
def clo (f bc : Nat) (B : List Nat) : List Value := B.map fun b => fn2 f bc b
theorem clo_snoc {f bc b : Nat} {B : List Nat} : clo f bc (B ++ [b]) = clo f bc B ++ [.func (.func f) #[] #[.pointer (some ⟨bc, 0, none⟩), .pointer (some ⟨b, 0, none⟩)]] := List.map_append
theorem clo_len {f bc : Nat} {B : List Nat} : (clo f bc B).length = B.length := List.length_map _
def asks (bc : Nat) (B1 B2 B3 : List Nat) : List Value := ask5 bc ++ clo 47 bc B1 ++ clo 49 bc B2 ++ clo 51 bc B3 ++ [.func (.func 53) #[] #[.pointer (some ⟨bc, 0, none⟩)]]
def answers (c : TConfig) : List Tfound := [whole1 c, whole2 c, whole3 c, whole4 c, whole5 c] ++ (List.range c.Partitions.xs.length).map (partQ c) ++ (List.range c.Channels.xs.length).map (chanQ c) ++ (List.range c.Cores.xs.length).map (coreQ c) ++ [kernQ c]
def checkF (c : TConfig) : Tfound := fstW (answers c)
theorem asks_len {bc : Nat} {B1 B2 B3 : List Nat} : (asks bc B1 B2 B3).length = 6 + B1.length + B2.length + B3.length := by
  simp [asks, ask5, clo]; omega
theorem answers_len {c : TConfig} : (answers c).length = 6 + c.Partitions.xs.length + c.Channels.xs.length + c.Cores.xs.length := by
  simp [answers]; omega
theorem gd_l {α : Type} [Inhabited α] {a b : List α} {k : Nat} (h : k < a.length) : gd (a ++ b) k = gd a k := by
  rw [gd_eq (by rw [List.length_append]; omega), gd_eq h, List.getElem_append_left h]
theorem gd_r {α : Type} [Inhabited α] {a b : List α} {k n : Nat} (h : n = a.length + k) (hk : k < b.length) : gd (a ++ b) n = gd b k := by
  subst h
  rw [gd_eq (by rw [List.length_append]; omega), gd_eq hk, List.getElem_append_right (by omega)]
  congr 1; omega
theorem gd_map_ {β : Type} [Inhabited β] {f : Nat → β} {n i : Nat} (h : i < n) : gd ((List.range n).map f) i = f i := by
  rw [gd_eq (by simpa using h)]; simp
theorem gd_clo {f bc b : Nat} {B : List Nat} {i : Nat} (h : B[i]? = some b) : gd (clo f bc B) i = fn2 f bc b := by
  obtain ⟨hi, e⟩ := List.getElem?_eq_some_iff.1 h
  rw [gd_eq (by rw [clo_len]; exact hi)]
  simp [clo, e]
section
variable {c : TConfig} {bc : Nat} {B1 B2 B3 : List Nat}
theorem ask_lo {k : Nat} (hk : k < 5) : gd (asks bc B1 B2 B3) k = gd (ask5 bc) k := by
  unfold asks
  have h5 : (ask5 bc).length = 5 := rfl
  rw [gd_l (by simp only [List.length_append]; omega), gd_l (by simp only [List.length_append]; omega), gd_l (by simp only [List.length_append]; omega), gd_l (by omega)]
theorem ans_lo {k : Nat} (hk : k < 5) : gd (answers c) k = gd [whole1 c, whole2 c, whole3 c, whole4 c, whole5 c] k := by
  unfold answers
  rw [gd_l (by simp; omega), gd_l (by simp; omega), gd_l (by simp; omega), gd_l (by simpa using hk)]
theorem ans_p {p : Nat} (hp : p < c.Partitions.xs.length) : gd (answers c) (5 + p) = partQ c p := by
  unfold answers
  rw [gd_l (by simp; omega), gd_l (by simp; omega), gd_l (by simp; omega), gd_r (k := p) (by simp) (by simpa using hp), gd_map_ hp]
theorem ans_h {p : Nat} (hp : p < c.Channels.xs.length) : gd (answers c) (5 + c.Partitions.xs.length + p) = chanQ c p := by
  unfold answers
  rw [gd_l (by simp; omega), gd_l (by simp; omega), gd_r (k := p) (by simp; omega) (by simpa using hp), gd_map_ hp]
theorem ans_k {p : Nat} (hp : p < c.Cores.xs.length) : gd (answers c) (5 + c.Partitions.xs.length + c.Channels.xs.length + p) = coreQ c p := by
  unfold answers
  rw [gd_l (by simp; omega), gd_r (k := p) (by simp; omega) (by simpa using hp), gd_map_ hp]
theorem ans_e : gd (answers c) (5 + c.Partitions.xs.length + c.Channels.xs.length + c.Cores.xs.length) = kernQ c := by
  unfold answers
  rw [gd_r (k := 0) (by simp; omega) (by simp)]; rfl
/-- Which question is asked at number k. -/
theorem kinds (h1 : B1.length = c.Partitions.xs.length) (h2 : B2.length = c.Channels.xs.length) (h3 : B3.length = c.Cores.xs.length) {k : Nat} (hk : k < (asks bc B1 B2 B3).length) :
    (k = 0 ∧ gd (asks bc B1 B2 B3) k = .func (.func 40) #[] #[.pointer (some ⟨bc, 0, none⟩)] ∧ gd (answers c) k = whole1 c) ∨ (k = 1 ∧ gd (asks bc B1 B2 B3) k = .func (.func 43) #[] #[.pointer (some ⟨bc, 0, none⟩)] ∧ gd (answers c) k = whole2 c) ∨ (k = 2 ∧ gd (asks bc B1 B2 B3) k = .func (.func 44) #[] #[.pointer (some ⟨bc, 0, none⟩)] ∧ gd (answers c) k = whole3 c) ∨
    (k = 3 ∧ gd (asks bc B1 B2 B3) k = .func (.func 45) #[] #[.pointer (some ⟨bc, 0, none⟩)] ∧ gd (answers c) k = whole4 c) ∨ (k = 4 ∧ gd (asks bc B1 B2 B3) k = .func (.func 46) #[] #[.pointer (some ⟨bc, 0, none⟩)] ∧ gd (answers c) k = whole5 c) ∨
    (∃ p b, k = 5 + p ∧ p < c.Partitions.xs.length ∧ B1[p]? = some b ∧ gd (asks bc B1 B2 B3) k = .func (.func 47) #[] #[.pointer (some ⟨bc, 0, none⟩), .pointer (some ⟨b, 0, none⟩)] ∧ gd (answers c) k = partQ c p) ∨
    (∃ p b, k = 5 + c.Partitions.xs.length + p ∧ p < c.Channels.xs.length ∧ B2[p]? = some b ∧ gd (asks bc B1 B2 B3) k = .func (.func 49) #[] #[.pointer (some ⟨bc, 0, none⟩), .pointer (some ⟨b, 0, none⟩)] ∧ gd (answers c) k = chanQ c p) ∨
    (∃ p b, k = 5 + c.Partitions.xs.length + c.Channels.xs.length + p ∧ p < c.Cores.xs.length ∧ B3[p]? = some b ∧ gd (asks bc B1 B2 B3) k = .func (.func 51) #[] #[.pointer (some ⟨bc, 0, none⟩), .pointer (some ⟨b, 0, none⟩)] ∧ gd (answers c) k = coreQ c p) ∨
    (k = 5 + c.Partitions.xs.length + c.Channels.xs.length + c.Cores.xs.length ∧ gd (asks bc B1 B2 B3) k = .func (.func 53) #[] #[.pointer (some ⟨bc, 0, none⟩)] ∧ gd (answers c) k = kernQ c) := by
  rw [asks_len] at hk
  have l5 : (ask5 bc).length = 5 := rfl
  have hB : ∀ (B : List Nat) (i : Nat), i < B.length → ∃ b, B[i]? = some b := fun B i hi => ⟨B[i], by simp [hi]⟩
  rcases Nat.lt_or_ge k 5 with g | g
  · rw [ask_lo g, ans_lo g]
    rcases (by omega : k = 0 ∨ k = 1 ∨ k = 2 ∨ k = 3 ∨ k = 4) with rfl | rfl | rfl | rfl | rfl
    · exact .inl ⟨rfl, rfl, rfl⟩
    · exact .inr (.inl ⟨rfl, rfl, rfl⟩)
    · exact .inr (.inr (.inl ⟨rfl, rfl, rfl⟩))
    · exact .inr (.inr (.inr (.inl ⟨rfl, rfl, rfl⟩)))
    · exact .inr (.inr (.inr (.inr (.inl ⟨rfl, rfl, rfl⟩))))
  refine .inr (.inr (.inr (.inr (.inr ?_))))
  rcases Nat.lt_or_ge k (5 + c.Partitions.xs.length) with g1 | g1
  · obtain ⟨p, rfl⟩ : ∃ p, k = 5 + p := ⟨k - 5, by omega⟩
    obtain ⟨b, hb⟩ := hB B1 p (by omega)
    refine .inl ⟨p, b, rfl, by omega, hb, ?_, ans_p (by omega)⟩
    unfold asks
    rw [gd_l (by simp only [List.length_append, clo_len]; omega), gd_l (by simp only [List.length_append, clo_len]; omega), gd_l (by simp only [List.length_append, clo_len]; omega), gd_r (k := p) (by omega) (by rw [clo_len]; omega), gd_clo hb]
  rcases Nat.lt_or_ge k (5 + c.Partitions.xs.length + c.Channels.xs.length) with g2 | g2
  · obtain ⟨p, rfl⟩ : ∃ p, k = 5 + c.Partitions.xs.length + p := ⟨k - (5 + c.Partitions.xs.length), by omega⟩
    obtain ⟨b, hb⟩ := hB B2 p (by omega)
    refine .inr (.inl ⟨p, b, rfl, by omega, hb, ?_, ans_h (by omega)⟩)
    unfold asks
    rw [gd_l (by simp only [List.length_append, clo_len]; omega), gd_l (by simp only [List.length_append, clo_len]; omega), gd_r (k := p) (by simp only [List.length_append, clo_len]; omega) (by rw [clo_len]; omega), gd_clo hb]
  rcases Nat.lt_or_ge k (5 + c.Partitions.xs.length + c.Channels.xs.length + c.Cores.xs.length) with g3 | g3
  · obtain ⟨p, rfl⟩ : ∃ p, k = 5 + c.Partitions.xs.length + c.Channels.xs.length + p := ⟨k - (5 + c.Partitions.xs.length + c.Channels.xs.length), by omega⟩
    obtain ⟨b, hb⟩ := hB B3 p (by omega)
    refine .inr (.inr (.inl ⟨p, b, rfl, by omega, hb, ?_, ans_k (by omega)⟩))
    unfold asks
    rw [gd_l (by simp only [List.length_append, clo_len]; omega), gd_r (k := p) (by simp only [List.length_append, clo_len]; omega) (by rw [clo_len]; omega), gd_clo hb]
  · obtain rfl : k = 5 + c.Partitions.xs.length + c.Channels.xs.length + c.Cores.xs.length := by omega
    refine .inr (.inr (.inr ⟨rfl, ?_, ans_e⟩))
    unfold asks
    rw [gd_r (k := 0) (by simp only [List.length_append, clo_len]; omega) (by simp)]; rfl
variable {n : Nat} (hf : ∀ i, i < n → gd (answers c) i = fineF)
theorem frames_of (hf : ∀ i, i < n → gd (answers c) i = fineF) (hn : 1 ≤ n) : 1 ≤ c.Frames ∧ c.Frames ≤ 1024 := by
  have h := hf 0 (by omega)
  rw [ans_lo (by decide)] at h
  exact win_yes ((unl_fine (by decide)).1 (show unl (win c.Frames 1 1024) 400 ⟨-1, -1⟩ = fineF from h))
theorem parts_of (hf : ∀ i, i < n → gd (answers c) i = fineF) (hn : 4 ≤ n) : c.Partitions.xs.length ≤ 1024 := by
  have h := hf 3 (by omega)
  rw [ans_lo (by decide)] at h
  have := win_yes ((unl_fine (by decide)).1 (show unl (win ((c.Partitions.xs.length : Nat) : Int) 1 8) 403 ⟨-1, -1⟩ = fineF from h))
  omega
theorem part_of (hf : ∀ i, i < n → gd (answers c) i = fineF) {q : Nat} (hq : q < c.Partitions.xs.length) (hn : 5 + q < n) : partQ c q = fineF := by
  rw [← ans_p hq]; exact hf _ hn
theorem partQ_E {c : TConfig} {p : Nat} (h : partQ c p = fineF) : thenF (fstW (partE c p)) (portQ c p) (parC c p).Ports.xs.length = fineF := by
  unfold partQ at h
  rw [if_pos (partQ_fine (by unfold partQ; exact h))] at h
  exact h
theorem ports_of (hf : ∀ i, i < n → gd (answers c) i = fineF) (hn : 5 + c.Partitions.xs.length ≤ n) : ∀ p, p < c.Partitions.xs.length → (gd c.Partitions.xs p).Ports.xs.length ≤ 1024 := by
  intro p hp
  have h := (thenF_all (partQ_E (part_of hf hp (by omega)))).1
  have h2 := fst_mem h _ (List.mem_cons_of_mem _ (List.mem_cons_self ..))
  rw [unl_fine (by decide)] at h2
  have := of_decide_eq_true h2
  simp only [parC] at this
  omega
end
end Go.Proofs.YtnjhekfgmbpmlaaDoor.Ad
namespace Go.Proofs.YtnjhekfgmbpmlaaDoor.Ad
open Go Go.Proofs.YtnjhekfgmbpmlaaDoor.Eng Go.Proofs.YtnjhekfgmbpmlaaDoor.Mem Go.Proofs.YtnjhekfgmbpmlaaDoor.Ly
set_option linter.unusedSimpArgs false
set_option linter.unusedVariables false
set_option maxRecDepth 100000
def wholeE (c : TConfig) : Tfound := fstW [whole1 c, whole2 c, whole3 c, whole4 c, whole5 c]
end Go.Proofs.YtnjhekfgmbpmlaaDoor.Ad
namespace Go.Proofs.YtnjhekfgmbpmlaaDoor.Eng
open Go Go.Proofs.YtnjhekfgmbpmlaaDoor.Mem
set_option linter.unusedSimpArgs false
set_option linter.unusedVariables false
def caps (t : TypeId) (B : List Nat) : Ch := .inv (fun b => b ∈ B) (fun w => ∀ (i b : Nat), B[i]? = some b → w.heap[b]? = some (.cells #[.int .i64 (i : Nat)] t (0, 0))) true
theorem caps_stable (t : TypeId) (B : List Nat) : (caps t B).stable := fun w w' h hw i b hb => (h b (List.mem_of_getElem? hb)).trans (hw i b hb)
theorem caps_cells {A : AW} {w : World} (h : Sat A w) {i j b : Nat} {t : TypeId} {B : List Nat} (hb : B[j]? = some b) (hi : A.σ[i]? = some (caps t B) := by rfl) : ∀ (k : Nat) (v : Value), [Value.int .i64 (j : Nat)][k]? = some v → w.cell? ⟨b, 0 + k, none⟩ = some v := by
  have h1 : w.heap[b]? = some (.cells #[.int .i64 (j : Nat)] t (0, 0)) := h.at hi j b hb
  intro k v hk
  match k, hk with
  | 0, hk => cases hk; simp [World.cell?, h1]
theorem blk_cells {A : AW} {w : World} (h : Sat A w) {i b : Nat} {cs : Array Value} {t : TypeId} {fr : Nat × Nat} {rw' : Bool} {l : List Value} (hi : A.σ[i]? = some (.blk b (.cells cs t fr) rw') := by rfl) (hl : l = cs.toList := by rfl) : ∀ (k : Nat) (v : Value), l[k]? = some v → w.cell? ⟨b, 0 + k, none⟩ = some v := by
  have h1 : w.heap[b]? = some (.cells cs t fr) := h.at hi
  intro k v hk
  subst hl
  simp [World.cell?, h1] at hk ⊢
  exact hk
theorem Sat.caps {A : AW} {w : World} (h : Sat A w) (i j : Nat) (is : List Nat) {t : TypeId} {B : List Nat} {b n : Nat} {kept : List Ch} (hn : B.length = n) (hi : A.σ[i]? = some (caps t B)) (hj : A.σ[j]? = some (.blk b (.cells #[.int .i64 (n : Nat)] t (0, 0)) true)) (hnd : nodupB is = true) (hni : is.contains i = false) (hnj : is.contains j = false) (hp : picks is A.σ = some kept) : Sat { A with σ := kept ++ [Eng.caps t (B ++ [b])] } w := by
  have := h.exch is hnd hp (Keeps.refl (fun _ => False) w) (fun _ _ _ _ x => x) [Eng.caps t (B ++ [b])] (by
    intro d hd
    simp only [List.mem_singleton] at hd
    subst hd
    refine ⟨fun k b' hb => ?_, caps_stable _ _, ?_⟩
    · rcases Nat.lt_trichotomy k B.length with hk | hk | hk
      · rw [List.getElem?_append_left hk] at hb
        exact h.at hi k b' hb
      · subst hk
        rw [List.getElem?_append_right (Nat.le_refl _)] at hb
        simp at hb
        subst hb; subst hn
        exact h.at hj
      · rw [List.getElem?_eq_none (by simp; omega)] at hb; cases hb
    · intro b' hb'
      rw [h.size]
      rcases List.mem_append.1 hb' with hb' | hb'
      · exact h.bnd _ (List.mem_of_getElem? hi) b' hb'
      · exact h.bnd _ (List.mem_of_getElem? hj) b' (List.mem_singleton.1 hb')) (by simp) (by
    intro d hd d' hd' _ b' hb
    simp only [List.mem_singleton] at hd'
    subst hd'
    obtain ⟨q, hq, hqs⟩ := picks_at hp d hd
    intro hb'
    rcases List.mem_append.1 hb' with hb' | hb'
    · exact apart_of h.dis (i := i) (j := q) (by rw [List.getElem?_map, hi]; rfl) (by rw [List.getElem?_map, hqs]; rfl) (fun e => by subst e; simp [hq] at hni) rfl b' hb' hb
    · exact apart_of h.dis (i := j) (j := q) (by rw [List.getElem?_map, hj]; rfl) (by rw [List.getElem?_map, hqs]; rfl) (fun e => by subst e; simp [hq] at hnj) rfl b' (List.mem_singleton.1 hb') hb)
  rw [h.size] at this
  exact this
section
variable {P : Program} {N : Nat} {env : Env} {ds : List Deferred} {A : AW} {s : List Kt} {Q : Exit → Act → World → Prop} {c : Code} {x : Exit}
theorem g_caps0 (t : TypeId) (K : G P N env ds { A with σ := A.σ ++ [caps t []] } c s Q) : G P N env ds A c s Q :=
  fun a w hst => K a w ⟨hst.sz, hst.df, hst.kn, hst.mem.more _ (fun i b h => by simp at h) (caps_stable _ _) (fun b h => by cases h)⟩
theorem e_caps (i j : Nat) (is : List Nat) (t : TypeId) (B : List Nat) (b n : Nat) (kept : List Ch) (hn : B.length = n) (K : E P N env ds { A with σ := kept ++ [caps t (B ++ [b])] } x s Q)
    (hi : A.σ[i]? = some (caps t B) := by rfl) (hj : A.σ[j]? = some (.blk b (.cells #[.int .i64 (n : Nat)] t (0, 0)) true) := by rfl) (hnd : nodupB is = true := by rfl) (hni : is.contains i = false := by rfl) (hnj : is.contains j = false := by rfl) (hp : picks is A.σ = some kept := by rfl) : E P N env ds A x s Q :=
  fun a' w hst => K a' w ⟨hst.sz, hst.df, hst.kn, hst.mem.caps i j is hn hi hj hnd hni hnj hp⟩
end
end Go.Proofs.YtnjhekfgmbpmlaaDoor.Eng
