/- layout: ends. No conditions. -/
import Derived.Test.YtnjhekfgmbpmlaaDoorLd
namespace Go.Proofs.YtnjhekfgmbpmlaaDoor.Ly
open Go Go.Proofs.YtnjhekfgmbpmlaaDoor.Eng Go.Proofs.YtnjhekfgmbpmlaaDoor.Mem
set_option linter.unusedSimpArgs false
set_option linter.unusedVariables false
set_option maxRecDepth 100000

def partEnds (p : Nat) (x : TPartition) (k : Int) (b : Bool) (j : Nat) : List Tend := ((List.range j).filter (fun q => srcIs k b (gd x.Ports.xs q))).map (fun (q : Nat) => (⟨(p : Int), (q : Int)⟩ : Tend))
def endsUp (c : TConfig) (k : Int) (b : Bool) (i : Nat) : List Tend := (List.range i).flatMap (fun p => partEnds p (gd c.Partitions.xs p) k b (gd c.Partitions.xs p).Ports.xs.length)
def endsOf (c : TConfig) (k : Int) (b : Bool) : List Tend := endsUp c k b c.Partitions.xs.length
theorem partEnds_yes {p : Nat} {x : TPartition} {k : Int} {b : Bool} {j : Nat} (h : srcIs k b (gd x.Ports.xs j) = true) : partEnds p x k b (j + 1) = partEnds p x k b j ++ [⟨(p : Int), (j : Int)⟩] := by
  unfold partEnds; rw [List.range_succ, List.filter_append, List.map_append]; simp [h]
theorem partEnds_no {p : Nat} {x : TPartition} {k : Int} {b : Bool} {j : Nat} (h : srcIs k b (gd x.Ports.xs j) = false) : partEnds p x k b (j + 1) = partEnds p x k b j := by
  unfold partEnds; rw [List.range_succ, List.filter_append, List.map_append]; simp [h]
theorem partEnds_len {p : Nat} {x : TPartition} {k : Int} {b : Bool} {j : Nat} : (partEnds p x k b j).length ≤ j := by
  unfold partEnds; rw [List.length_map]; exact Nat.le_trans (List.length_filter_le _ _) (by simp)
theorem endsUp_succ {c : TConfig} {k : Int} {b : Bool} {i : Nat} : endsUp c k b (i + 1) = endsUp c k b i ++ partEnds i (gd c.Partitions.xs i) k b (gd c.Partitions.xs i).Ports.xs.length := by
  unfold endsUp; rw [List.range_succ, List.flatMap_append]; simp
theorem endsUp_len {c : TConfig} {k : Int} {b : Bool} (hp : ∀ i, i < c.Partitions.xs.length → (gd c.Partitions.xs i).Ports.xs.length ≤ 8) : ∀ (i : Nat), i ≤ c.Partitions.xs.length → (endsUp c k b i).length ≤ 8 * i
  | 0, _ => by simp [endsUp]
  | i + 1, h => by
    have h1 := endsUp_len (k := k) (b := b) hp i (by omega)
    have h2 := hp i (by omega)
    have h3 := partEnds_len (p := i) (x := gd c.Partitions.xs i) (k := k) (b := b) (j := (gd c.Partitions.xs i).Ports.xs.length)
    rw [endsUp_succ, List.length_append]; omega
theorem cnt_range (xs : List TPort) (p : TPort → Bool) : ∀ (j : Nat), j ≤ xs.length → ((List.range j).filter (fun q => p (gd xs q))).length = (xs.take j).countP p
  | 0, _ => by simp
  | j + 1, h => by
    rw [List.range_succ, List.filter_append, List.length_append, cnt_range xs p j (by omega), take_snoc (by omega), List.countP_append]
    cases hp : p (gd xs j) <;> simp [hp]
theorem endsUp_cnt {c : TConfig} {k : Int} {b : Bool} : ∀ (i : Nat), i ≤ c.Partitions.xs.length → (endsUp c k b i).length = sumN (fun x => endsN x k b) c.Partitions.xs i
  | 0, _ => by simp [endsUp, sumN]
  | i + 1, h => by
    rw [endsUp_succ, List.length_append, endsUp_cnt i (by omega), sumN_succ (by omega)]
    congr 1
    unfold partEnds endsN
    rw [List.length_map, cnt_range _ _ _ (Nat.le_refl _), List.take_length]
theorem endsOf_cnt (c : TConfig) (k : Nat) (b : Bool) : (endsOf c k b).length = nEnds c k b := endsUp_cnt _ (Nat.le_refl _)
abbrev q1df_0 (n2 : Nat) (y11 : TPartition) : Ch := bk n2 (TPartition.arr y11) 41
abbrev q1df_1 (z : Nat) (c : TConfig) : Ch := bk z (TConfig.arr c) 26
abbrev q1df_2 (z : Nat) (aD2 : Option Addr) (c : TConfig) (ch : Int) (i : Nat) (y11 : TPartition) (j : Nat) (cD2 : Nat) : Ch := rowL z 101 2 Tend.cells (.slice aD2 ((endsUp c ch false i ++ partEnds i y11 ch false j).length) cD2) (endsUp c ch false i ++ partEnds i y11 ch false j)
abbrev q1df_3 (z : Nat) (aS2 : Option Addr) (c : TConfig) (ch : Int) (i : Nat) (y11 : TPartition) (j : Nat) (cS2 : Nat) : Ch := rowL z 101 2 Tend.cells (.slice aS2 ((endsUp c ch true i ++ partEnds i y11 ch true j).length) cS2) (endsUp c ch true i ++ partEnds i y11 ch true j)
abbrev q1df_4 (z : Nat) (aD : Option Addr) (c : TConfig) (ch : Int) (i : Nat) (cD : Nat) : Ch := rowL z 101 2 Tend.cells (.slice aD ((endsUp c ch false i).length) cD) (endsUp c ch false i)
abbrev q1df_5 (z : Nat) (aS : Option Addr) (c : TConfig) (ch : Int) (i : Nat) (cS : Nat) : Ch := rowL z 101 2 Tend.cells (.slice aS ((endsUp c ch true i).length) cS) (endsUp c ch true i)
abbrev q1df_6 (aD2 : Option Addr) (c : TConfig) (ch : Int) (i : Nat) (y11 : TPartition) (j : Nat) (cD2 : Nat) : Nat × Value := (5, .slice aD2 ((endsUp c ch false i ++ partEnds i y11 ch false j).length) cD2)
abbrev q1df_7 (aS2 : Option Addr) (c : TConfig) (ch : Int) (i : Nat) (y11 : TPartition) (j : Nat) (cS2 : Nat) : Nat × Value := (4, .slice aS2 ((endsUp c ch true i ++ partEnds i y11 ch true j).length) cS2)
abbrev q1df_8 (b4 : Nat) (o5 : Nat) (c : TConfig) : Nat × Value := (11, .slice (some ⟨b4, o5, none⟩) c.Partitions.xs.length c.Partitions.cap)
abbrev q1df_9 (b15 : Nat) (o16 : Nat) (y11 : TPartition) : Nat × Value := (19, .slice (some ⟨b15, o16, none⟩) y11.Ports.xs.length y11.Ports.cap)
abbrev q1df_10 (c : TConfig) : Nat × Value := (11, .slice c.Partitions.a c.Partitions.xs.length c.Partitions.cap)
abbrev q1df_11 (y11 : TPartition) : Nat × Value := (19, .slice y11.Ports.a y11.Ports.xs.length y11.Ports.cap)
abbrev q1df_12 (c : TConfig) : Nat × Value := (12, i6 ((c.Partitions.xs.length : Nat) : Int))
abbrev q1df_13 (y11 : TPartition) : Nat × Value := (20, i6 ((y11.Ports.xs.length : Nat) : Int))
abbrev q1df_14 (aD : Option Addr) (c : TConfig) (ch : Int) (i : Nat) (cD : Nat) : Nat × Value := (5, .slice aD ((endsUp c ch false i).length) cD)
abbrev q1df_15 (j : Nat) : Nat × Value := (21, i6 ((j + 1 : Nat) : Int))
theorem ends_calls (w : World) (c : TConfig) (ch : Int) (hc : TConfig.ok Any w c) (hl : c.Partitions.xs.length ≤ 8) (hp : ∀ i, i < c.Partitions.xs.length → (gd c.Partitions.xs i).Ports.xs.length ≤ 8) : Calls Tryd.prog 58 #[.agg (TConfig.arr c), .int .i64 ch] w fun e w' => ∃ a1 c1 a2 c2, e = .returned (.tuple #[.slice a1 (endsOf c ch true).length c1, .slice a2 (endsOf c ch false).length c2]) ∧ SlAt Tend.cells 2 (New w.heap.size) w' ⟨a1, c1, endsOf c ch true⟩ ∧ SlAt Tend.cells 2 (New w.heap.size) w' ⟨a2, c2, endsOf c ch false⟩ ∧ Keeps (fun _ => False) w w' := by
 obtain ⟨z, hz⟩ : ∃ z, z = w.heap.size := ⟨_, rfl⟩
 refine calls_G (args := [.agg (TConfig.arr c), i6 ch]) 50 ⟨w, z, [(old0 w)]⟩ Tryd.func58 rfl (by kernel_rfl) (by kernel_rfl) (sat_0 hz) ?_
 refine g_keep [0, 1] [(0, .agg (TConfig.arr c)), (1, i6 ch)] ?_
 refine q_c 10 0 [] [[o0, o0, o0], [o0, (a1 1), o0, o0]] [Qb z] [(1, i6 ch), (4, .slice none 0 0), (5, .slice none 0 0), (q1df_10 c), (q1df_12 c), (13, i6 0)] ⟨w, z + 1, [(old0 w), (q1df_1 z c)]⟩ rfl ⟨rfl, trivial⟩ ?_
 refine g_rowL z 101 2 Tend.cells ?_
 refine g_rowL z 101 2 Tend.cells ?_
 refine g_loop (fun m a w' => ∃ (n2 : Nat) (i : Nat) (aS : Option Addr) (cS : Nat) (aD : Option Addr) (cD : Nat), m = c.Partitions.xs.length - i ∧ z + 1 ≤ n2 ∧ (i ≤ c.Partitions.xs.length) ∧ St 50 [(1, i6 ch), (4, .slice aS ((endsUp c ch true i).length) cS), (q1df_14 aD c ch i cD), (q1df_10 c), (q1df_12 c), (13, i6 (i : Int))] [] ⟨w, n2, [(old0 w), (q1df_1 z c), (q1df_5 z aS c ch i cS), (q1df_4 z aD c ch i cD)]⟩ a w') (c.Partitions.xs.length - 0) ?_ ?_
 · intro a w' hs; exact ⟨(z + 1), 0, none, 0, none, 0, rfl, Nat.le_refl _, Nat.zero_le _, hs⟩
 · rintro m a w' ⟨n2, i, aS, cS, aD, cD, rfl, hn1, hki, hs⟩
   refine (?_ : G Tryd.prog 50 [(1, i6 ch), (4, .slice aS ((endsUp c ch true i).length) cS), (q1df_14 aD c ch i cD), (q1df_10 c), (q1df_12 c), (13, i6 (i : Int))] [] ⟨w, n2, [(old0 w), (q1df_1 z c), (q1df_5 z aS c ch i cS), (q1df_4 z aD c ch i cD)]⟩ _ _ _) a w' hs
   clear hs a w'
   have hq3 := endsUp_len (k := ch) (b := true) hp i (by omega)
   have hq4 := endsUp_len (k := ch) (b := false) hp i (by omega)
   refine g_seq ?_
   by_cases h3 : ((i : Int) : Int) < ((c.Partitions.xs.length : Nat) : Int)
   · refine q_cS 10 0 [1] [[oT]] [BT (((i : Int) : Int) < ((c.Partitions.xs.length : Nat) : Int))] [(1, i6 ch), (4, .slice aS ((endsUp c ch true i).length) cS), (q1df_14 aD c ch i cD), (q1df_10 c), (q1df_12 c), (13, i6 (i : Int)), (14, .bool true)] rfl ⟨bt (by omega), trivial⟩ ?_
     obtain ⟨b4, o5, ha6, hF8, hc7⟩ := (hc.Partitions).1.all (show 0 < c.Partitions.xs.length by omega)
     replace ha6 : c.Partitions.a = some ⟨b4, o5, none⟩ := ha6
     refine g_eq [(1, i6 ch), (4, .slice aS ((endsUp c ch true i).length) cS), (q1df_14 aD c ch i cD), (q1df_8 b4 o5 c), (q1df_12 c), (13, i6 (i : Int)), (14, .bool true)] (by (try dsimp only [q1df_0, q1df_1, q1df_2, q1df_3, q1df_4, q1df_5, q1df_6, q1df_7, q1df_8, q1df_9, q1df_10, q1df_11, q1df_12, q1df_13, q1df_14, q1df_15]); simp only [ha6]) ?_
     have hc9 := hc7 i (show i < c.Partitions.xs.length by omega)
     have he10 := (hc.Partitions).2 i (show i < c.Partitions.xs.length by omega)
     obtain ⟨y11, hy11⟩ : ∃ y_, y_ = gd c.Partitions.xs i := ⟨_, rfl⟩
     rw [← hy11] at he10 hc9
     have h8y11 := hp i (by omega); rw [← hy11] at h8y11
     refine q_c 8 0 [] [[o0, (oi i), (ol 0 (TPartition.arr y11)), o0, o0, (an 8 4)], [o0, (a1 4), o0, o0]] [((i : Int) : Int) = ((i : Nat) : Int), i < c.Partitions.xs.length, (none : Option Nat) = none, OldR w b4 (o5 + i * 8) (TPartition.arr y11), Qb n2, Qb n2, Qb n2, Qb n2, Qb n2, Qb n2, Qb n2, Qb n2, Qb n2] [(1, i6 ch), (4, .slice aS ((endsUp c ch true i).length) cS), (q1df_14 aD c ch i cD), (6, i6 (i : Int)), (q1df_8 b4 o5 c), (q1df_12 c), (13, i6 (i : Int)), (q1df_11 y11), (q1df_13 y11), (21, i6 0)] ⟨w, n2 + 1, [(old0 w), (q1df_1 z c), (q1df_5 z aS c ch i cS), (q1df_4 z aD c ch i cD), (q1df_0 n2 y11)]⟩ rfl ⟨rfl, (by omega), rfl, old_row hc9, rfl, rfl, rfl, rfl, rfl, rfl, rfl, rfl, rfl, trivial⟩ ?_
     refine g_loop (fun m a w' => ∃ (n13 : Nat) (j : Nat) (aS2 : Option Addr) (cS2 : Nat) (aD2 : Option Addr) (cD2 : Nat), m = y11.Ports.xs.length - j ∧ n2 + 1 ≤ n13 ∧ (j ≤ y11.Ports.xs.length) ∧ St 50 [(1, i6 ch), (q1df_7 aS2 c ch i y11 j cS2), (q1df_6 aD2 c ch i y11 j cD2), (6, i6 (i : Int)), (q1df_8 b4 o5 c), (q1df_12 c), (13, i6 (i : Int)), (q1df_11 y11), (q1df_13 y11), (21, i6 (j : Int))] [] ⟨w, n13, [(old0 w), (q1df_1 z c), (q1df_3 z aS2 c ch i y11 j cS2), (q1df_2 z aD2 c ch i y11 j cD2), (q1df_0 n2 y11)]⟩ a w') (y11.Ports.xs.length - 0) ?_ ?_
     · intro a w' hs; exact ⟨(n2 + 1), 0, aS, cS, aD, cD, rfl, Nat.le_refl _, Nat.zero_le _, by (try dsimp only [q1df_0, q1df_1, q1df_2, q1df_3, q1df_4, q1df_5, q1df_6, q1df_7, q1df_8, q1df_9, q1df_10, q1df_11, q1df_12, q1df_13, q1df_14, q1df_15] at hs ⊢); rw [show partEnds i y11 ch true 0 = [] from rfl, show partEnds i y11 ch false 0 = [] from rfl, List.append_nil, List.append_nil]; exact hs⟩
     · rintro m a w' ⟨n13, j, aS2, cS2, aD2, cD2, rfl, hn12, hkj, hs⟩
       refine (?_ : G Tryd.prog 50 [(1, i6 ch), (q1df_7 aS2 c ch i y11 j cS2), (q1df_6 aD2 c ch i y11 j cD2), (6, i6 (i : Int)), (q1df_8 b4 o5 c), (q1df_12 c), (13, i6 (i : Int)), (q1df_11 y11), (q1df_13 y11), (21, i6 (j : Int))] [] ⟨w, n13, [(old0 w), (q1df_1 z c), (q1df_3 z aS2 c ch i y11 j cS2), (q1df_2 z aD2 c ch i y11 j cD2), (q1df_0 n2 y11)]⟩ _ _ _) a w' hs
       clear hs a w'
       have hq1 : (partEnds i y11 ch true j).length ≤ j := partEnds_len
       have hq2 : (partEnds i y11 ch false j).length ≤ j := partEnds_len
       refine g_seq ?_
       by_cases h14 : ((j : Int) : Int) < ((y11.Ports.xs.length : Nat) : Int)
       · refine q_cS 10 0 [1] [[oT]] [BT (((j : Int) : Int) < ((y11.Ports.xs.length : Nat) : Int))] [(1, i6 ch), (q1df_7 aS2 c ch i y11 j cS2), (q1df_6 aD2 c ch i y11 j cD2), (6, i6 (i : Int)), (q1df_8 b4 o5 c), (q1df_12 c), (13, i6 (i : Int)), (q1df_11 y11), (q1df_13 y11), (21, i6 (j : Int)), (22, .bool true)] rfl ⟨bt (by omega), trivial⟩ ?_
         obtain ⟨b15, o16, ha17, hF19, hc18⟩ := (he10.Ports).1.all (show 0 < y11.Ports.xs.length by omega)
         replace ha17 : y11.Ports.a = some ⟨b15, o16, none⟩ := ha17
         refine g_eq [(1, i6 ch), (q1df_7 aS2 c ch i y11 j cS2), (q1df_6 aD2 c ch i y11 j cD2), (6, i6 (i : Int)), (q1df_8 b4 o5 c), (q1df_12 c), (13, i6 (i : Int)), (q1df_9 b15 o16 y11), (q1df_13 y11), (21, i6 (j : Int)), (22, .bool true)] (by (try dsimp only [q1df_0, q1df_1, q1df_2, q1df_3, q1df_4, q1df_5, q1df_6, q1df_7, q1df_8, q1df_9, q1df_10, q1df_11, q1df_12, q1df_13, q1df_14, q1df_15]); simp only [ha17]) ?_
         have hc20 := hc18 j (show j < y11.Ports.xs.length by omega)
         have he21 := (he10.Ports).2 j (show j < y11.Ports.xs.length by omega)
         obtain ⟨y22, hy22⟩ : ∃ y_, y_ = gd y11.Ports.xs j := ⟨_, rfl⟩
         rw [← hy22] at he21 hc20
         refine q_c 5 0 [] [[o0, (oi j), (ol 0 (TPort.arr y22)), o0, o0, (an 2 5)]] [((j : Int) : Int) = ((j : Nat) : Int), j < y11.Ports.xs.length, (none : Option Nat) = none, OldR w b15 (o16 + j * 2) (TPort.arr y22), Qb n13, Qb n13] [(1, i6 ch), (q1df_7 aS2 c ch i y11 j cS2), (q1df_6 aD2 c ch i y11 j cD2), (6, i6 (i : Int)), (q1df_8 b4 o5 c), (q1df_12 c), (13, i6 (i : Int)), (q1df_9 b15 o16 y11), (q1df_13 y11), (21, i6 (j : Int)), (9, pt n13), (8, i6 (j : Int))] ⟨w, n13 + 1, [(old0 w), (q1df_1 z c), (q1df_3 z aS2 c ch i y11 j cS2), (q1df_2 z aD2 c ch i y11 j cD2), (q1df_0 n2 y11), (bk n13 (TPort.arr y22) 57)]⟩ rfl ⟨rfl, (by omega), rfl, old_row hc20, rfl, rfl, trivial⟩ ?_
         by_cases h23 : (y22.Channel : Int) = ch
         · refine q_cS 8 0 [0] [[o0, (a1 5), o0, oF, o0], [o0, (a1 5), o0]] [Qb n13, NF y22.Channel ch, Qb n13] [(1, i6 ch), (q1df_7 aS2 c ch i y11 j cS2), (q1df_6 aD2 c ch i y11 j cD2), (6, i6 (i : Int)), (q1df_8 b4 o5 c), (q1df_12 c), (13, i6 (i : Int)), (q1df_9 b15 o16 y11), (q1df_13 y11), (21, i6 (j : Int)), (8, i6 (j : Int)), (37, .bool y22.Source)] rfl ⟨rfl, nf (by omega), rfl, trivial⟩ ?_
           by_cases h24 : y22.Source = true
           · refine q_c 2 5 [3] [[o0, o0, o0, o0, o0]] [Value.bool y22.Source = Value.bool true] [(1, i6 ch), (q1df_6 aD2 c ch i y11 j cD2), (6, i6 (i : Int)), (q1df_8 b4 o5 c), (q1df_12 c), (13, i6 (i : Int)), (q1df_9 b15 o16 y11), (q1df_13 y11), (21, i6 (j : Int)), (40, .slice aS2 ((endsUp c ch true i ++ partEnds i y11 ch true j).length) cS2), (44, .slice (some ⟨n13 + 1, 0, none⟩) 1 1)] ⟨w, n13 + 2, [(old0 w), (q1df_1 z c), (q1df_3 z aS2 c ch i y11 j cS2), (q1df_2 z aD2 c ch i y11 j cD2), (q1df_0 n2 y11), (bk n13 (TPort.arr y22) 57), (bk (n13 + 1) #[i6 (i : Int), i6 (j : Int)] 101)]⟩ rfl ⟨(congrArg Value.bool h24), trivial⟩ ?_
             refine l_push z 2 6 (endsUp c ch true i ++ partEnds i y11 ch true j) [(⟨(i : Int), (j : Int)⟩ : Tend)] Tend.cells 101 2 16 (.slice aS2 ((endsUp c ch true i ++ partEnds i y11 ch true j).length) cS2) (n13 + 1) 1 1 #[i6 (i : Int), i6 (j : Int)] 101 (0, 0) true (some 45) (by simp only [List.length_cons, List.length_nil, List.length_append]; omega) (show z ≤ n13 + 2 by omega) (fun ax25 cp26 n27 (hn28 : n13 + 2 ≤ n27) => ?_)
             refine q_rS 6 0 [] [[o0], [(ov (i6 ((j + 1 : Nat) : Int))), o0]] [Wr (((j : Int) : Int) + 1) (((j + 1 : Nat) : Int))] [(1, i6 ch), (q1df_6 aD2 c ch i y11 j cD2), (6, i6 (i : Int)), (q1df_8 b4 o5 c), (q1df_12 c), (13, i6 (i : Int)), (q1df_9 b15 o16 y11), (q1df_13 y11), (q1df_15 j), (4, .slice ax25 ((endsUp c ch true i ++ partEnds i y11 ch true j ++ [(⟨(i : Int), (j : Int)⟩ : Tend)]).length) cp26)] rfl ⟨wrI, trivial⟩ ?_
             refine e_pick [0, 1, 2, 3, 4] [(old0 w), (q1df_1 z c), (rowL z 101 2 Tend.cells (.slice ax25 ((endsUp c ch true i ++ partEnds i y11 ch true j ++ [(⟨(i : Int), (j : Int)⟩ : Tend)]).length) cp26) (endsUp c ch true i ++ partEnds i y11 ch true j ++ [(⟨(i : Int), (j : Int)⟩ : Tend)])), (q1df_2 z aD2 c ch i y11 j cD2), (q1df_0 n2 y11)] rfl rfl ?_
             have hTtrue := partEnds_yes (p := i) (x := y11) (k := ch) (b := true) (j := j) (by rw [← hy22]; exact src_t (by omega) (by revert h24; cases y22.Source <;> simp))
             have hTfalse := partEnds_no (p := i) (x := y11) (k := ch) (b := false) (j := j) (by rw [← hy22]; exact src_f2 (by revert h24; cases y22.Source <;> simp))
             refine e_eqk [1, 4, 5, 6, 11, 12, 13, 19, 20, 21] [(1, i6 ch), (4, .slice ax25 ((endsUp c ch true i ++ partEnds i y11 ch true j ++ [(⟨(i : Int), (j : Int)⟩ : Tend)]).length) cp26), (q1df_6 aD2 c ch i y11 j cD2), (6, i6 (i : Int)), (q1df_8 b4 o5 c), (q1df_12 c), (13, i6 (i : Int)), (q1df_11 y11), (q1df_13 y11), (q1df_15 j)] (by (try dsimp only [q1df_0, q1df_1, q1df_2, q1df_3, q1df_4, q1df_5, q1df_6, q1df_7, q1df_8, q1df_9, q1df_10, q1df_11, q1df_12, q1df_13, q1df_14, q1df_15]); simp only [ha17]; rfl) ?_
             refine e_inv (fun a w' hs => ⟨y11.Ports.xs.length - (j + 1), by omega, n27, (j + 1), ax25, cp26, aD2, cD2, rfl, by omega, by omega, by (try dsimp only [q1df_0, q1df_1, q1df_2, q1df_3, q1df_4, q1df_5, q1df_6, q1df_7, q1df_8, q1df_9, q1df_10, q1df_11, q1df_12, q1df_13, q1df_14, q1df_15] at hs ⊢); rw [hTtrue, ← List.append_assoc, hTfalse]; exact hs⟩)
           · refine q_c 2 5 [2] [[o0, o0, o0, o0, o0]] [Value.bool y22.Source = Value.bool false] [(1, i6 ch), (q1df_7 aS2 c ch i y11 j cS2), (6, i6 (i : Int)), (q1df_8 b4 o5 c), (q1df_12 c), (13, i6 (i : Int)), (q1df_9 b15 o16 y11), (q1df_13 y11), (21, i6 (j : Int)), (26, .slice aD2 ((endsUp c ch false i ++ partEnds i y11 ch false j).length) cD2), (30, .slice (some ⟨n13 + 1, 0, none⟩) 1 1)] ⟨w, n13 + 2, [(old0 w), (q1df_1 z c), (q1df_3 z aS2 c ch i y11 j cS2), (q1df_2 z aD2 c ch i y11 j cD2), (q1df_0 n2 y11), (bk n13 (TPort.arr y22) 57), (bk (n13 + 1) #[i6 (i : Int), i6 (j : Int)] 101)]⟩ rfl ⟨(congrArg Value.bool (Bool.eq_false_iff.2 h24)), trivial⟩ ?_
             refine l_push z 3 6 (endsUp c ch false i ++ partEnds i y11 ch false j) [(⟨(i : Int), (j : Int)⟩ : Tend)] Tend.cells 101 2 16 (.slice aD2 ((endsUp c ch false i ++ partEnds i y11 ch false j).length) cD2) (n13 + 1) 1 1 #[i6 (i : Int), i6 (j : Int)] 101 (0, 0) true (some 31) (by simp only [List.length_cons, List.length_nil, List.length_append]; omega) (show z ≤ n13 + 2 by omega) (fun ax29 cp30 n31 (hn32 : n13 + 2 ≤ n31) => ?_)
             refine q_rS 6 0 [] [[o0], [(ov (i6 ((j + 1 : Nat) : Int))), o0]] [Wr (((j : Int) : Int) + 1) (((j + 1 : Nat) : Int))] [(1, i6 ch), (q1df_7 aS2 c ch i y11 j cS2), (6, i6 (i : Int)), (q1df_8 b4 o5 c), (q1df_12 c), (13, i6 (i : Int)), (q1df_9 b15 o16 y11), (q1df_13 y11), (q1df_15 j), (5, .slice ax29 ((endsUp c ch false i ++ partEnds i y11 ch false j ++ [(⟨(i : Int), (j : Int)⟩ : Tend)]).length) cp30)] rfl ⟨wrI, trivial⟩ ?_
             refine e_pick [0, 1, 2, 3, 4] [(old0 w), (q1df_1 z c), (q1df_3 z aS2 c ch i y11 j cS2), (rowL z 101 2 Tend.cells (.slice ax29 ((endsUp c ch false i ++ partEnds i y11 ch false j ++ [(⟨(i : Int), (j : Int)⟩ : Tend)]).length) cp30) (endsUp c ch false i ++ partEnds i y11 ch false j ++ [(⟨(i : Int), (j : Int)⟩ : Tend)])), (q1df_0 n2 y11)] rfl rfl ?_
             have hTtrue := partEnds_no (p := i) (x := y11) (k := ch) (b := true) (j := j) (by rw [← hy22]; exact src_f2 (by revert h24; cases y22.Source <;> simp))
             have hTfalse := partEnds_yes (p := i) (x := y11) (k := ch) (b := false) (j := j) (by rw [← hy22]; exact src_t (by omega) (by revert h24; cases y22.Source <;> simp))
             refine e_eqk [1, 4, 5, 6, 11, 12, 13, 19, 20, 21] [(1, i6 ch), (q1df_7 aS2 c ch i y11 j cS2), (5, .slice ax29 ((endsUp c ch false i ++ partEnds i y11 ch false j ++ [(⟨(i : Int), (j : Int)⟩ : Tend)]).length) cp30), (6, i6 (i : Int)), (q1df_8 b4 o5 c), (q1df_12 c), (13, i6 (i : Int)), (q1df_11 y11), (q1df_13 y11), (q1df_15 j)] (by (try dsimp only [q1df_0, q1df_1, q1df_2, q1df_3, q1df_4, q1df_5, q1df_6, q1df_7, q1df_8, q1df_9, q1df_10, q1df_11, q1df_12, q1df_13, q1df_14, q1df_15]); simp only [ha17]; rfl) ?_
             refine e_inv (fun a w' hs => ⟨y11.Ports.xs.length - (j + 1), by omega, n31, (j + 1), aS2, cS2, ax29, cp30, rfl, by omega, by omega, by (try dsimp only [q1df_0, q1df_1, q1df_2, q1df_3, q1df_4, q1df_5, q1df_6, q1df_7, q1df_8, q1df_9, q1df_10, q1df_11, q1df_12, q1df_13, q1df_14, q1df_15] at hs ⊢); rw [hTtrue, hTfalse, ← List.append_assoc]; exact hs⟩)
         · refine q_cS 10 0 [1] [[o0, (a1 5), o0, oT, o0], [(ov (i6 ((j + 1 : Nat) : Int))), o0]] [Qb n13, NT y22.Channel ch, Wr (((j : Int) : Int) + 1) (((j + 1 : Nat) : Int))] [(1, i6 ch), (q1df_7 aS2 c ch i y11 j cS2), (q1df_6 aD2 c ch i y11 j cD2), (6, i6 (i : Int)), (q1df_8 b4 o5 c), (q1df_12 c), (13, i6 (i : Int)), (q1df_9 b15 o16 y11), (q1df_13 y11), (q1df_15 j)] rfl ⟨rfl, nt (by omega), wrI, trivial⟩ ?_
           refine e_pick [0, 1, 2, 3, 4] [(old0 w), (q1df_1 z c), (q1df_3 z aS2 c ch i y11 j cS2), (q1df_2 z aD2 c ch i y11 j cD2), (q1df_0 n2 y11)] rfl rfl ?_
           have hTtrue := partEnds_no (p := i) (x := y11) (k := ch) (b := true) (j := j) (by rw [← hy22]; exact src_f1 (by omega))
           have hTfalse := partEnds_no (p := i) (x := y11) (k := ch) (b := false) (j := j) (by rw [← hy22]; exact src_f1 (by omega))
           refine e_eqk [1, 4, 5, 6, 11, 12, 13, 19, 20, 21] [(1, i6 ch), (q1df_7 aS2 c ch i y11 j cS2), (q1df_6 aD2 c ch i y11 j cD2), (6, i6 (i : Int)), (q1df_8 b4 o5 c), (q1df_12 c), (13, i6 (i : Int)), (q1df_11 y11), (q1df_13 y11), (q1df_15 j)] (by (try dsimp only [q1df_0, q1df_1, q1df_2, q1df_3, q1df_4, q1df_5, q1df_6, q1df_7, q1df_8, q1df_9, q1df_10, q1df_11, q1df_12, q1df_13, q1df_14, q1df_15]); simp only [ha17]; rfl) ?_
           refine e_inv (fun a w' hs => ⟨y11.Ports.xs.length - (j + 1), by omega, (n13 + 1), (j + 1), aS2, cS2, aD2, cD2, rfl, by omega, by omega, by (try dsimp only [q1df_0, q1df_1, q1df_2, q1df_3, q1df_4, q1df_5, q1df_6, q1df_7, q1df_8, q1df_9, q1df_10, q1df_11, q1df_12, q1df_13, q1df_14, q1df_15] at hs ⊢); rw [hTtrue, hTfalse]; exact hs⟩)
       · refine q_cS 13 0 [0] [[oF], [(ov (i6 ((i + 1 : Nat) : Int))), o0]] [BF (((j : Int) : Int) < ((y11.Ports.xs.length : Nat) : Int)), Wr (((i : Int) : Int) + 1) (((i + 1 : Nat) : Int))] [(1, i6 ch), (q1df_7 aS2 c ch i y11 j cS2), (q1df_6 aD2 c ch i y11 j cD2), (q1df_8 b4 o5 c), (q1df_12 c), (13, i6 ((i + 1 : Nat) : Int))] rfl ⟨bf (by omega), wrI, trivial⟩ ?_
         refine e_pick [0, 1, 2, 3] [(old0 w), (q1df_1 z c), (q1df_3 z aS2 c ch i y11 j cS2), (q1df_2 z aD2 c ch i y11 j cD2)] rfl rfl ?_
         refine e_eqk [1, 4, 5, 11, 12, 13] [(1, i6 ch), (q1df_7 aS2 c ch i y11 j cS2), (q1df_6 aD2 c ch i y11 j cD2), (q1df_10 c), (q1df_12 c), (13, i6 ((i + 1 : Nat) : Int))] (by (try dsimp only [q1df_0, q1df_1, q1df_2, q1df_3, q1df_4, q1df_5, q1df_6, q1df_7, q1df_8, q1df_9, q1df_10, q1df_11, q1df_12, q1df_13, q1df_14, q1df_15]); simp only [ha6]; rfl) ?_
         refine e_inv (fun a w' hs => ⟨c.Partitions.xs.length - (i + 1), by omega, n13, (i + 1), aS2, cS2, aD2, cD2, rfl, by omega, by omega, by (try dsimp only [q1df_0, q1df_1, q1df_2, q1df_3, q1df_4, q1df_5, q1df_6, q1df_7, q1df_8, q1df_9, q1df_10, q1df_11, q1df_12, q1df_13, q1df_14, q1df_15] at hs ⊢); rw [endsUp_succ, endsUp_succ, ← hy11, show y11.Ports.xs.length = j by omega]; exact hs⟩)
   · refine q_cS 15 0 [0] [[oF], [o0, o0, o0, o0]] [BF (((i : Int) : Int) < ((c.Partitions.xs.length : Nat) : Int))] [(4, .slice aS ((endsUp c ch true i).length) cS), (q1df_14 aD c ch i cD)] rfl ⟨bf (by omega), trivial⟩ ?_
     refine e_ret [] [] (.tuple #[.slice aS ((endsUp c ch true i).length) cS, .slice aD ((endsUp c ch false i).length) cD]) trivial ?_
     intro w33 hw33
     have e0 : i = c.Partitions.xs.length := by omega
     subst e0
     refine ⟨_, _, _, _, rfl, hz ▸ row_sl (fun _ => rfl) (hw33.at (i := 2) rfl) (by unfold endsOf; omega), hz ▸ row_sl (fun _ => rfl) (hw33.at (i := 3) rfl) (by unfold endsOf; omega), back0 hw33⟩

end Go.Proofs.YtnjhekfgmbpmlaaDoor.Ly
