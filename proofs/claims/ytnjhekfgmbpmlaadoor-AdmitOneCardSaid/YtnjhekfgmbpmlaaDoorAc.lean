/- admit: split, ends. No conditions. -/
import Derived.Test.YtnjhekfgmbpmlaaDoorAb
namespace Go.Proofs.YtnjhekfgmbpmlaaDoor.Ad
open Go Go.Proofs.YtnjhekfgmbpmlaaDoor.Eng Go.Proofs.YtnjhekfgmbpmlaaDoor.Mem Go.Proofs.YtnjhekfgmbpmlaaDoor.Ly
set_option linter.unusedSimpArgs false
set_option linter.unusedVariables false
set_option maxRecDepth 100000

abbrev prtC (c : TConfig) (p k : Nat) : TPort := gd (gd c.Partitions.xs p).Ports.xs k
def isSrc (h : Int) (q : TPort) : Bool := decide (q.Channel = h) && q.Source
def isDst (h : Int) (q : TPort) : Bool := decide (q.Channel = h) && !q.Source
def upP (f : TPort → Bool) (xs : List TPartition) (n : Nat) : Nat := (List.range n).foldl (fun s p => s + (gd xs p).Ports.xs.countP f) 0
def upQ (f : TPort → Bool) (ys : List TPort) (n : Nat) : Nat := (ys.take n).countP f
theorem upP_succ (f : TPort → Bool) (xs : List TPartition) (n : Nat) : upP f xs (n + 1) = upP f xs n + (gd xs n).Ports.xs.countP f := by
  unfold upP; rw [List.range_succ, List.foldl_append]; rfl
theorem upQ_succ (f : TPort → Bool) (ys : List TPort) {n : Nat} (h : n < ys.length) : upQ f ys (n + 1) = upQ f ys n + if f (gd ys n) = true then 1 else 0 := by
  unfold upQ
  rw [List.take_add_one, List.getElem?_eq_getElem h, List.countP_append, gd_eq h]
  simp [List.countP_cons]
theorem upQ_all (f : TPort → Bool) (ys : List TPort) {n : Nat} (h : n = ys.length) : upQ f ys n = ys.countP f := by unfold upQ; rw [h, List.take_length]
theorem upQ_le (f : TPort → Bool) (ys : List TPort) (n : Nat) : upQ f ys n ≤ n := by
  unfold upQ; exact Nat.le_trans List.countP_le_length (by rw [List.length_take]; exact Nat.min_le_left _ _)
theorem upP_le {f : TPort → Bool} {xs : List TPartition} {m : Nat} : ∀ {n : Nat}, (∀ p, p < n → (gd xs p).Ports.xs.length ≤ m) → upP f xs n ≤ n * m
  | 0, _ => by simp [upP]
  | n + 1, h => by
    have ih := upP_le (f := f) (n := n) (fun p hp => h p (by omega))
    have h1 := h n (by omega)
    have h2 : (gd xs n).Ports.xs.countP f ≤ (gd xs n).Ports.xs.length := List.countP_le_length
    rw [upP_succ, Nat.succ_mul]; omega
def srcC (c : TConfig) (h : Int) : Nat := upP (isSrc h) c.Partitions.xs c.Partitions.xs.length
def dstC (c : TConfig) (h : Int) : Nat := upP (isDst h) c.Partitions.xs c.Partitions.xs.length
abbrev qca6_0 (z : Nat) (c : TConfig) : Ch := bk z (TConfig.arr c) 26
abbrev qca6_1 (b4 : Nat) (o5 : Nat) (k0 : Nat) (c : TConfig) : Nat × Value := (14, .slice (some ⟨b4, o5, none⟩) (k0 - 0) (c.Cores.cap - 0))
abbrev qca6_2 (b15 : Nat) (o16 : Nat) (y11 : Sl TWindow) : Nat × Value := (20, .slice (some ⟨b15, o16, none⟩) y11.xs.length y11.cap)
abbrev qca6_3 (c : TConfig) (k0 : Nat) : Nat × Value := (14, .slice c.Cores.a (k0 - 0) (c.Cores.cap - 0))
abbrev qca6_4 (y11 : Sl TWindow) : Nat × Value := (21, i6 ((y11.xs.length : Nat) : Int))
abbrev qca6_5 (y11 : Sl TWindow) : Nat × Value := (20, .slice y11.a y11.xs.length y11.cap)
abbrev qca6_6 (k0 : Nat) : Nat × Value := (15, i6 ((k0 - 0 : Nat) : Int))
theorem split_calls (w : World) (c : TConfig) (hc : TConfig.ok Any w c) (k0 : Nat) (hk0 : k0 < c.Cores.xs.length) (p : Int) : Calls Tryd.prog 72 #[.agg (TConfig.arr c), .int .i64 (k0 : Int), .int .i64 p] w fun e w' => e = .returned (.bool (splitP c k0 p)) ∧ Keeps (fun _ => False) w w' := by
 obtain ⟨z, hz⟩ : ∃ z, z = w.heap.size := ⟨_, rfl⟩
 refine calls_G (args := [.agg (TConfig.arr c), i6 (k0 : Int), i6 p]) 36 ⟨w, z, [(old0 w)]⟩ Tryd.func72 rfl (by kernel_rfl) (by kernel_rfl) (sat_0 hz) ?_
 have hpl := hc.Cores.1.len; have hpc := hc.Cores.1.le
 refine g_keep [0, 1, 2] [(0, .agg (TConfig.arr c)), (1, i6 (k0 : Int)), (2, i6 p)] ?_
 refine q_c 10 0 [] [[o0, o0], [o0, (a1 1), o0, ⟨.slc 0 k0 false, none⟩, o0, o0]] [Qb z, (0 : Int) = ((0 : Nat) : Int), ((k0 : Int) : Int) = ((k0 : Nat) : Int), 0 ≤ k0, k0 ≤ c.Cores.cap, c.Cores.cap = 0 ∨ (0 : Nat) = 0] [(2, i6 p), (qca6_3 c k0), (qca6_6 k0), (16, i6 0)] ⟨w, z + 1, [(old0 w), (qca6_0 z c)]⟩ rfl ⟨rfl, rfl, rfl, (by omega), (by omega), .inr rfl, trivial⟩ ?_
 refine g_loop (fun m a w' => ∃ (n2 : Nat) (k : Nat), m = k0 - k ∧ z + 1 ≤ n2 ∧ (k ≤ k0) ∧ (∀ i, i < k → splitAt_ c p i = false) ∧ St 36 [(2, i6 p), (qca6_3 c k0), (qca6_6 k0), (16, i6 (k : Int))] [] ⟨w, n2, [(old0 w), (qca6_0 z c)]⟩ a w') (k0 - 0) ?_ ?_
 · intro a w' hs; exact ⟨(z + 1), 0, rfl, Nat.le_refl _, Nat.zero_le _, fun i hi => absurd hi (Nat.not_lt_zero i), hs⟩
 · rintro m a w' ⟨n2, k, rfl, hn1, hkk, hf, hs⟩
   refine (?_ : G Tryd.prog 36 [(2, i6 p), (qca6_3 c k0), (qca6_6 k0), (16, i6 (k : Int))] [] ⟨w, n2, [(old0 w), (qca6_0 z c)]⟩ _ _ _) a w' hs
   clear hs a w'
   refine g_seq ?_
   by_cases h3 : ((k : Int) : Int) < ((k0 - 0 : Nat) : Int)
   · refine q_cS 10 0 [1] [[oT]] [BT (((k : Int) : Int) < ((k0 - 0 : Nat) : Int))] [(2, i6 p), (qca6_3 c k0), (qca6_6 k0), (16, i6 (k : Int)), (17, .bool true)] rfl ⟨bt (by omega), trivial⟩ ?_
     obtain ⟨b4, o5, ha6, hF8, hc7⟩ := (hc.Cores).1.all (show 0 < c.Cores.xs.length by omega)
     replace ha6 : c.Cores.a = some ⟨b4, o5, none⟩ := ha6
     refine g_eq [(2, i6 p), (qca6_1 b4 o5 k0 c), (qca6_6 k0), (16, i6 (k : Int)), (17, .bool true)] (by (try dsimp only [qca6_0, qca6_1, qca6_2, qca6_3, qca6_4, qca6_5, qca6_6]); simp only [ha6]) ?_
     have hc9 := hc7 k (show k < c.Cores.xs.length by omega)
     have he10 := (hc.Cores).2 k (show k < c.Cores.xs.length by omega)
     obtain ⟨y11, hy11⟩ : ∃ y_, y_ = gd c.Cores.xs k := ⟨_, rfl⟩
     rw [← hy11] at he10 hc9
     refine q_cS 8 0 [] [[(oi k), (oa [.via 0 (.slice y11.a y11.xs.length y11.cap)]), o0], [o0, o0, o0]] [((k : Int) : Int) = ((k : Nat) : Int), k < k0 - 0, (none : Option Nat) = none, Old w b4 (o5 + k) (.slice y11.a y11.xs.length y11.cap)] [(2, i6 p), (qca6_1 b4 o5 k0 c), (qca6_6 k0), (16, i6 (k : Int)), (qca6_5 y11), (qca6_4 y11), (22, i6 0)] rfl ⟨rfl, (by omega), rfl, old_cell' (hc9 0 _ rfl), trivial⟩ ?_
     refine g_loop (fun m a w' => ∃ (n13 : Nat) (j : Nat), m = y11.xs.length - j ∧ n2 ≤ n13 ∧ (j ≤ y11.xs.length) ∧ (∀ i, i < j → (decide (0 ≤ p) && decide ((gd (corC c k).xs i).Partition = p)) = false) ∧ St 36 [(2, i6 p), (qca6_1 b4 o5 k0 c), (qca6_6 k0), (16, i6 (k : Int)), (qca6_5 y11), (qca6_4 y11), (22, i6 (j : Int))] [] ⟨w, n13, [(old0 w), (qca6_0 z c)]⟩ a w') (y11.xs.length - 0) ?_ ?_
     · intro a w' hs; exact ⟨n2, 0, rfl, Nat.le_refl _, Nat.zero_le _, fun i hi => absurd hi (Nat.not_lt_zero i), hs⟩
     · rintro m a w' ⟨n13, j, rfl, hn12, hkj, hg, hs⟩
       refine (?_ : G Tryd.prog 36 [(2, i6 p), (qca6_1 b4 o5 k0 c), (qca6_6 k0), (16, i6 (k : Int)), (qca6_5 y11), (qca6_4 y11), (22, i6 (j : Int))] [] ⟨w, n13, [(old0 w), (qca6_0 z c)]⟩ _ _ _) a w' hs
       clear hs a w'
       have hyl := he10.1.len
       refine g_seq ?_
       by_cases h14 : ((j : Int) : Int) < ((y11.xs.length : Nat) : Int)
       · refine q_cS 10 0 [1] [[oT]] [BT (((j : Int) : Int) < ((y11.xs.length : Nat) : Int))] [(2, i6 p), (qca6_1 b4 o5 k0 c), (qca6_6 k0), (16, i6 (k : Int)), (qca6_5 y11), (qca6_4 y11), (22, i6 (j : Int)), (23, .bool true)] rfl ⟨bt (by omega), trivial⟩ ?_
         obtain ⟨b15, o16, ha17, hF19, hc18⟩ := (he10).1.all (show 0 < y11.xs.length by omega)
         replace ha17 : y11.a = some ⟨b15, o16, none⟩ := ha17
         refine g_eq [(2, i6 p), (qca6_1 b4 o5 k0 c), (qca6_6 k0), (16, i6 (k : Int)), (qca6_2 b15 o16 y11), (qca6_4 y11), (22, i6 (j : Int)), (23, .bool true)] (by (try dsimp only [qca6_0, qca6_1, qca6_2, qca6_3, qca6_4, qca6_5, qca6_6]); simp only [ha17]) ?_
         have hc20 := hc18 j (show j < y11.xs.length by omega)
         have he21 := (he10).2 j (show j < y11.xs.length by omega)
         obtain ⟨y22, hy22⟩ : ∃ y_, y_ = gd y11.xs j := ⟨_, rfl⟩
         rw [← hy22] at he21 hc20
         refine q_c 4 0 [] [[(oi j), (ol 0 (TWindow.arr y22)), o0, (an 3 2)]] [((j : Int) : Int) = ((j : Nat) : Int), j < y11.xs.length, (none : Option Nat) = none, OldR w b15 (o16 + j * 3) (TWindow.arr y22), Qb n13, Qb n13, Qb n13] [(2, i6 p), (qca6_1 b4 o5 k0 c), (qca6_6 k0), (16, i6 (k : Int)), (qca6_2 b15 o16 y11), (qca6_4 y11), (22, i6 (j : Int)), (10, pt n13)] ⟨w, n13 + 1, [(old0 w), (qca6_0 z c), (bk n13 (TWindow.arr y22) 44)]⟩ rfl ⟨rfl, (by omega), rfl, old_row hc20, rfl, rfl, rfl, trivial⟩ ?_
         by_cases h23 : (p : Int) < 0
         · refine q_cS 9 0 [0] [[o0, oF, o0, o0], [(ov (i6 ((j + 1 : Nat) : Int))), o0]] [BF ((p : Int) ≥ 0), Wr (((j : Int) : Int) + 1) (((j + 1 : Nat) : Int))] [(2, i6 p), (qca6_1 b4 o5 k0 c), (qca6_6 k0), (16, i6 (k : Int)), (qca6_2 b15 o16 y11), (qca6_4 y11), (22, i6 ((j + 1 : Nat) : Int))] rfl ⟨bf (by omega), wrI, trivial⟩ ?_
           refine e_pick [0, 1] [(old0 w), (qca6_0 z c)] rfl rfl ?_
           refine e_eqk [2, 14, 15, 16, 20, 21, 22] [(2, i6 p), (qca6_1 b4 o5 k0 c), (qca6_6 k0), (16, i6 (k : Int)), (qca6_5 y11), (qca6_4 y11), (22, i6 ((j + 1 : Nat) : Int))] (by (try dsimp only [qca6_0, qca6_1, qca6_2, qca6_3, qca6_4, qca6_5, qca6_6]); simp only [ha17]; rfl) ?_
           refine e_inv (fun a w' hs => ⟨y11.xs.length - (j + 1), by omega, (n13 + 1), (j + 1), rfl, by omega, by omega, upto_ hg (by have e : gd (corC c k).xs j = y22 := (by rw [hy22, hy11]); simp only [e]; simp; omega), hs⟩)
         · by_cases h24 : (y22.Partition : Int) = p
           · refine q_cS 9 0 [1] [[o0, oT, o0, o0, (a1 2), o0, oT, o0], [o0]] [BT ((p : Int) ≥ 0), Qb n13, ET y22.Partition p] [(6, .bool true)] rfl ⟨bt (by omega), rfl, et (by omega), trivial⟩ ?_
             refine e_ret [] [] (.bool true) trivial ?_
             intro w25 hw25
             refine ⟨congrArg (fun b => Ending.returned (Value.bool b)) (?_ : true = splitP c k0 p), back0 hw25⟩
             refine Eq.symm (range_any (k := k) (by omega) (range_any (k := j) (by dsimp only [corC]; rw [← hy11]; omega) ?_))
             have e : gd (corC c k).xs j = y22 := (by rw [hy22, hy11]); simp only [e]; simp; omega
           · refine q_cS 9 0 [0] [[o0, oT, o0, o0, (a1 2), o0, oF, o0], [(ov (i6 ((j + 1 : Nat) : Int))), o0]] [BT ((p : Int) ≥ 0), Qb n13, EF y22.Partition p, Wr (((j : Int) : Int) + 1) (((j + 1 : Nat) : Int))] [(2, i6 p), (qca6_1 b4 o5 k0 c), (qca6_6 k0), (16, i6 (k : Int)), (qca6_2 b15 o16 y11), (qca6_4 y11), (22, i6 ((j + 1 : Nat) : Int))] rfl ⟨bt (by omega), rfl, ef (by omega), wrI, trivial⟩ ?_
             refine e_pick [0, 1] [(old0 w), (qca6_0 z c)] rfl rfl ?_
             refine e_eqk [2, 14, 15, 16, 20, 21, 22] [(2, i6 p), (qca6_1 b4 o5 k0 c), (qca6_6 k0), (16, i6 (k : Int)), (qca6_5 y11), (qca6_4 y11), (22, i6 ((j + 1 : Nat) : Int))] (by (try dsimp only [qca6_0, qca6_1, qca6_2, qca6_3, qca6_4, qca6_5, qca6_6]); simp only [ha17]; rfl) ?_
             refine e_inv (fun a w' hs => ⟨y11.xs.length - (j + 1), by omega, (n13 + 1), (j + 1), rfl, by omega, by omega, upto_ hg (by have e : gd (corC c k).xs j = y22 := (by rw [hy22, hy11]); simp only [e]; simp; omega), hs⟩)
       · refine q_cS 13 0 [0] [[oF], [(ov (i6 ((k + 1 : Nat) : Int))), o0]] [BF (((j : Int) : Int) < ((y11.xs.length : Nat) : Int)), Wr (((k : Int) : Int) + 1) (((k + 1 : Nat) : Int))] [(2, i6 p), (qca6_1 b4 o5 k0 c), (qca6_6 k0), (16, i6 ((k + 1 : Nat) : Int))] rfl ⟨bf (by omega), wrI, trivial⟩ ?_
         refine e_eqk [2, 14, 15, 16] [(2, i6 p), (qca6_3 c k0), (qca6_6 k0), (16, i6 ((k + 1 : Nat) : Int))] (by (try dsimp only [qca6_0, qca6_1, qca6_2, qca6_3, qca6_4, qca6_5, qca6_6]); simp only [ha6]; rfl) ?_
         refine e_inv (fun a w' hs => ⟨k0 - (k + 1), by omega, n13, (k + 1), rfl, by omega, by omega, upto_ hf (range_none (fun i hi => hg i (by dsimp only [corC] at hi; rw [← hy11] at hi; omega))), hs⟩)
   · refine q_cS 15 0 [0] [[oF], [o0]] [BF (((k : Int) : Int) < ((k0 - 0 : Nat) : Int))] [(6, .bool false)] rfl ⟨bf (by omega), trivial⟩ ?_
     refine e_ret [] [] (.bool false) trivial ?_
     intro w26 hw26
     refine ⟨congrArg (fun b => Ending.returned (Value.bool b)) (?_ : false = splitP c k0 p), back0 hw26⟩
     exact (range_none (fun i hi => hf i (by omega))).symm
abbrev q1df_0 (n2 : Nat) (y11 : TPartition) : Ch := bk n2 (TPartition.arr y11) 41
abbrev q1df_1 (z : Nat) (c : TConfig) : Ch := bk z (TConfig.arr c) 26
abbrev q1df_2 (h : Int) (c : TConfig) (i : Nat) (y11 : TPartition) (j : Nat) : Nat × Value := (4, i6 ((upP (isSrc h) c.Partitions.xs i + upQ (isSrc h) y11.Ports.xs j : Nat) : Int))
abbrev q1df_3 (h : Int) (c : TConfig) (i : Nat) (y11 : TPartition) (j : Nat) : Nat × Value := (5, i6 ((upP (isDst h) c.Partitions.xs i + upQ (isDst h) y11.Ports.xs j : Nat) : Int))
abbrev q1df_4 (b4 : Nat) (o5 : Nat) (c : TConfig) : Nat × Value := (11, .slice (some ⟨b4, o5, none⟩) c.Partitions.xs.length c.Partitions.cap)
abbrev q1df_5 (b15 : Nat) (o16 : Nat) (y11 : TPartition) : Nat × Value := (18, .slice (some ⟨b15, o16, none⟩) y11.Ports.xs.length y11.Ports.cap)
abbrev q1df_6 (c : TConfig) : Nat × Value := (11, .slice c.Partitions.a c.Partitions.xs.length c.Partitions.cap)
abbrev q1df_7 (h : Int) (c : TConfig) (i : Nat) : Nat × Value := (4, i6 ((upP (isSrc h) c.Partitions.xs i : Nat) : Int))
abbrev q1df_8 (h : Int) (c : TConfig) (i : Nat) : Nat × Value := (5, i6 ((upP (isDst h) c.Partitions.xs i : Nat) : Int))
abbrev q1df_9 (y11 : TPartition) : Nat × Value := (18, .slice y11.Ports.a y11.Ports.xs.length y11.Ports.cap)
abbrev q1df_10 (c : TConfig) : Nat × Value := (12, i6 ((c.Partitions.xs.length : Nat) : Int))
abbrev q1df_11 (y11 : TPartition) : Nat × Value := (19, i6 ((y11.Ports.xs.length : Nat) : Int))
abbrev q1df_12 (j : Nat) : Nat × Value := (20, i6 ((j + 1 : Nat) : Int))
theorem ends_calls (w : World) (c : TConfig) (hc : TConfig.ok Any w c) (h : Int) (hm : c.Partitions.xs.length ≤ 1024) (hq : ∀ p, p < c.Partitions.xs.length → (gd c.Partitions.xs p).Ports.xs.length ≤ 1024) : Calls Tryd.prog 71 #[.agg (TConfig.arr c), .int .i64 h] w fun e w' => e = .returned (.tuple #[.int .i64 (srcC c h : Nat), .int .i64 (dstC c h : Nat)]) ∧ Keeps (fun _ => False) w w' := by
 obtain ⟨z, hz⟩ : ∃ z, z = w.heap.size := ⟨_, rfl⟩
 refine calls_G (args := [.agg (TConfig.arr c), i6 h]) 40 ⟨w, z, [(old0 w)]⟩ Tryd.func71 rfl (by kernel_rfl) (by kernel_rfl) (sat_0 hz) ?_
 have hpl := hc.Partitions.1.len
 refine g_keep [0, 1] [(0, .agg (TConfig.arr c)), (1, i6 h)] ?_
 refine q_c 10 0 [] [[o0, o0, o0], [o0, (a1 1), o0, o0]] [Qb z] [(1, i6 h), (4, i6 0), (5, i6 0), (q1df_6 c), (q1df_10 c), (13, i6 0)] ⟨w, z + 1, [(old0 w), (q1df_1 z c)]⟩ rfl ⟨rfl, trivial⟩ ?_
 refine g_loop (fun m a w' => ∃ (n2 : Nat) (i : Nat), m = c.Partitions.xs.length - i ∧ z + 1 ≤ n2 ∧ (i ≤ c.Partitions.xs.length) ∧ St 40 [(1, i6 h), (q1df_7 h c i), (q1df_8 h c i), (q1df_6 c), (q1df_10 c), (13, i6 (i : Int))] [] ⟨w, n2, [(old0 w), (q1df_1 z c)]⟩ a w') (c.Partitions.xs.length - 0) ?_ ?_
 · intro a w' hs; exact ⟨(z + 1), 0, rfl, Nat.le_refl _, Nat.zero_le _, hs⟩
 · rintro m a w' ⟨n2, i, rfl, hn1, hki, hs⟩
   refine (?_ : G Tryd.prog 40 [(1, i6 h), (q1df_7 h c i), (q1df_8 h c i), (q1df_6 c), (q1df_10 c), (13, i6 (i : Int))] [] ⟨w, n2, [(old0 w), (q1df_1 z c)]⟩ _ _ _) a w' hs
   clear hs a w'
   have bb4 := upP_le (f := isSrc h) (n := i) (m := 1024) (fun p hp => hq p (by omega))
   have bb5 := upP_le (f := isDst h) (n := i) (m := 1024) (fun p hp => hq p (by omega))
   refine g_seq ?_
   by_cases h3 : ((i : Int) : Int) < ((c.Partitions.xs.length : Nat) : Int)
   · refine q_cS 10 0 [1] [[oT]] [BT (((i : Int) : Int) < ((c.Partitions.xs.length : Nat) : Int))] [(1, i6 h), (q1df_7 h c i), (q1df_8 h c i), (q1df_6 c), (q1df_10 c), (13, i6 (i : Int)), (14, .bool true)] rfl ⟨bt (by omega), trivial⟩ ?_
     obtain ⟨b4, o5, ha6, hF8, hc7⟩ := (hc.Partitions).1.all (show 0 < c.Partitions.xs.length by omega)
     replace ha6 : c.Partitions.a = some ⟨b4, o5, none⟩ := ha6
     refine g_eq [(1, i6 h), (q1df_7 h c i), (q1df_8 h c i), (q1df_4 b4 o5 c), (q1df_10 c), (13, i6 (i : Int)), (14, .bool true)] (by (try dsimp only [q1df_0, q1df_1, q1df_2, q1df_3, q1df_4, q1df_5, q1df_6, q1df_7, q1df_8, q1df_9, q1df_10, q1df_11, q1df_12]); simp only [ha6]) ?_
     have hc9 := hc7 i (show i < c.Partitions.xs.length by omega)
     have he10 := (hc.Partitions).2 i (show i < c.Partitions.xs.length by omega)
     obtain ⟨y11, hy11⟩ : ∃ y_, y_ = gd c.Partitions.xs i := ⟨_, rfl⟩
     rw [← hy11] at he10 hc9
     refine q_c 8 0 [] [[(oi i), (ol 0 (TPartition.arr y11)), o0, (an 8 2)], [o0, (a1 2), o0, o0]] [((i : Int) : Int) = ((i : Nat) : Int), i < c.Partitions.xs.length, (none : Option Nat) = none, OldR w b4 (o5 + i * 8) (TPartition.arr y11), Qb n2, Qb n2, Qb n2, Qb n2, Qb n2, Qb n2, Qb n2, Qb n2, Qb n2] [(1, i6 h), (q1df_7 h c i), (q1df_8 h c i), (q1df_4 b4 o5 c), (q1df_10 c), (13, i6 (i : Int)), (q1df_9 y11), (q1df_11 y11), (20, i6 0)] ⟨w, n2 + 1, [(old0 w), (q1df_1 z c), (q1df_0 n2 y11)]⟩ rfl ⟨rfl, (by omega), rfl, old_row hc9, rfl, rfl, rfl, rfl, rfl, rfl, rfl, rfl, rfl, trivial⟩ ?_
     refine g_loop (fun m a w' => ∃ (n13 : Nat) (j : Nat), m = y11.Ports.xs.length - j ∧ n2 + 1 ≤ n13 ∧ (j ≤ y11.Ports.xs.length) ∧ St 40 [(1, i6 h), (q1df_2 h c i y11 j), (q1df_3 h c i y11 j), (q1df_4 b4 o5 c), (q1df_10 c), (13, i6 (i : Int)), (q1df_9 y11), (q1df_11 y11), (20, i6 (j : Int))] [] ⟨w, n13, [(old0 w), (q1df_1 z c), (q1df_0 n2 y11)]⟩ a w') (y11.Ports.xs.length - 0) ?_ ?_
     · intro a w' hs; exact ⟨(n2 + 1), 0, rfl, Nat.le_refl _, Nat.zero_le _, hs⟩
     · rintro m a w' ⟨n13, j, rfl, hn12, hkj, hs⟩
       refine (?_ : G Tryd.prog 40 [(1, i6 h), (q1df_2 h c i y11 j), (q1df_3 h c i y11 j), (q1df_4 b4 o5 c), (q1df_10 c), (13, i6 (i : Int)), (q1df_9 y11), (q1df_11 y11), (20, i6 (j : Int))] [] ⟨w, n13, [(old0 w), (q1df_1 z c), (q1df_0 n2 y11)]⟩ _ _ _) a w' hs
       clear hs a w'
       have c4 := upQ_le (isSrc h) y11.Ports.xs j
       have c5 := upQ_le (isDst h) y11.Ports.xs j
       have hyl := hq i (by omega); rw [← hy11] at hyl
       refine g_seq ?_
       by_cases h14 : ((j : Int) : Int) < ((y11.Ports.xs.length : Nat) : Int)
       · refine q_cS 10 0 [1] [[oT]] [BT (((j : Int) : Int) < ((y11.Ports.xs.length : Nat) : Int))] [(1, i6 h), (q1df_2 h c i y11 j), (q1df_3 h c i y11 j), (q1df_4 b4 o5 c), (q1df_10 c), (13, i6 (i : Int)), (q1df_9 y11), (q1df_11 y11), (20, i6 (j : Int)), (21, .bool true)] rfl ⟨bt (by omega), trivial⟩ ?_
         obtain ⟨b15, o16, ha17, hF19, hc18⟩ := (he10.Ports).1.all (show 0 < y11.Ports.xs.length by omega)
         replace ha17 : y11.Ports.a = some ⟨b15, o16, none⟩ := ha17
         refine g_eq [(1, i6 h), (q1df_2 h c i y11 j), (q1df_3 h c i y11 j), (q1df_4 b4 o5 c), (q1df_10 c), (13, i6 (i : Int)), (q1df_5 b15 o16 y11), (q1df_11 y11), (20, i6 (j : Int)), (21, .bool true)] (by (try dsimp only [q1df_0, q1df_1, q1df_2, q1df_3, q1df_4, q1df_5, q1df_6, q1df_7, q1df_8, q1df_9, q1df_10, q1df_11, q1df_12]); simp only [ha17]) ?_
         have hc20 := hc18 j (show j < y11.Ports.xs.length by omega)
         have he21 := (he10.Ports).2 j (show j < y11.Ports.xs.length by omega)
         obtain ⟨y22, hy22⟩ : ∃ y_, y_ = gd y11.Ports.xs j := ⟨_, rfl⟩
         rw [← hy22] at he21 hc20
         refine q_c 5 0 [] [[(oi j), (ol 0 (TPort.arr y22)), o0, (an 2 3)]] [((j : Int) : Int) = ((j : Nat) : Int), j < y11.Ports.xs.length, (none : Option Nat) = none, OldR w b15 (o16 + j * 2) (TPort.arr y22), Qb n13, Qb n13] [(1, i6 h), (q1df_2 h c i y11 j), (q1df_3 h c i y11 j), (q1df_4 b4 o5 c), (q1df_10 c), (13, i6 (i : Int)), (q1df_5 b15 o16 y11), (q1df_11 y11), (20, i6 (j : Int)), (9, pt n13)] ⟨w, n13 + 1, [(old0 w), (q1df_1 z c), (q1df_0 n2 y11), (bk n13 (TPort.arr y22) 57)]⟩ rfl ⟨rfl, (by omega), rfl, old_row hc20, rfl, rfl, trivial⟩ ?_
         by_cases h23 : (y22.Channel : Int) = h
         · refine q_cS 8 0 [0] [[o0, (a1 3), o0, oF, o0], [o0, (a1 3), o0]] [Qb n13, NF y22.Channel h, Qb n13] [(1, i6 h), (q1df_2 h c i y11 j), (q1df_3 h c i y11 j), (q1df_4 b4 o5 c), (q1df_10 c), (13, i6 (i : Int)), (q1df_5 b15 o16 y11), (q1df_11 y11), (20, i6 (j : Int)), (31, .bool y22.Source)] rfl ⟨rfl, nf (by omega), rfl, trivial⟩ ?_
           by_cases h24 : y22.Source = true
           · refine q_cS 8 0 [3] [[o0, (ov (i6 (((upP (isSrc h) c.Partitions.xs i + upQ (isSrc h) y11.Ports.xs j) + 1 : Nat) : Int))), o0], [(ov (i6 ((j + 1 : Nat) : Int))), o0]] [Value.bool y22.Source = Value.bool true, Wr ((((upP (isSrc h) c.Partitions.xs i + upQ (isSrc h) y11.Ports.xs j : Nat) : Int) : Int) + 1) ((((upP (isSrc h) c.Partitions.xs i + upQ (isSrc h) y11.Ports.xs j) + 1 : Nat) : Int)), Wr (((j : Int) : Int) + 1) (((j + 1 : Nat) : Int))] [(1, i6 h), (4, i6 (((upP (isSrc h) c.Partitions.xs i + upQ (isSrc h) y11.Ports.xs j) + 1 : Nat) : Int)), (q1df_3 h c i y11 j), (q1df_4 b4 o5 c), (q1df_10 c), (13, i6 (i : Int)), (q1df_5 b15 o16 y11), (q1df_11 y11), (q1df_12 j)] rfl ⟨(congrArg Value.bool h24), wrI, wrI, trivial⟩ ?_
             refine e_pick [0, 1, 2] [(old0 w), (q1df_1 z c), (q1df_0 n2 y11)] rfl rfl ?_
             have e4 := upQ_succ (isSrc h) y11.Ports.xs (n := j) (by omega); rw [← hy22] at e4
             have e5 := upQ_succ (isDst h) y11.Ports.xs (n := j) (by omega); rw [← hy22] at e5
             simp [isSrc, h23, h24] at e4
             simp [isDst, h23, h24] at e5
             refine e_eqk [1, 4, 5, 11, 12, 13, 18, 19, 20] [(1, i6 h), (4, i6 (((upP (isSrc h) c.Partitions.xs i + upQ (isSrc h) y11.Ports.xs j) + 1 : Nat) : Int)), (q1df_3 h c i y11 j), (q1df_4 b4 o5 c), (q1df_10 c), (13, i6 (i : Int)), (q1df_9 y11), (q1df_11 y11), (q1df_12 j)] (by (try dsimp only [q1df_0, q1df_1, q1df_2, q1df_3, q1df_4, q1df_5, q1df_6, q1df_7, q1df_8, q1df_9, q1df_10, q1df_11, q1df_12]); simp only [ha17]; rfl) ?_
             refine e_inv (fun a w' hs => ⟨y11.Ports.xs.length - (j + 1), by omega, (n13 + 1), (j + 1), rfl, by omega, by omega, (by (try dsimp only [q1df_0, q1df_1, q1df_2, q1df_3, q1df_4, q1df_5, q1df_6, q1df_7, q1df_8, q1df_9, q1df_10, q1df_11, q1df_12] at hs ⊢); rw [e4, e5]; exact hs)⟩)
           · refine q_cS 8 0 [2] [[o0, (ov (i6 (((upP (isDst h) c.Partitions.xs i + upQ (isDst h) y11.Ports.xs j) + 1 : Nat) : Int))), o0], [(ov (i6 ((j + 1 : Nat) : Int))), o0]] [Value.bool y22.Source = Value.bool false, Wr ((((upP (isDst h) c.Partitions.xs i + upQ (isDst h) y11.Ports.xs j : Nat) : Int) : Int) + 1) ((((upP (isDst h) c.Partitions.xs i + upQ (isDst h) y11.Ports.xs j) + 1 : Nat) : Int)), Wr (((j : Int) : Int) + 1) (((j + 1 : Nat) : Int))] [(1, i6 h), (q1df_2 h c i y11 j), (5, i6 (((upP (isDst h) c.Partitions.xs i + upQ (isDst h) y11.Ports.xs j) + 1 : Nat) : Int)), (q1df_4 b4 o5 c), (q1df_10 c), (13, i6 (i : Int)), (q1df_5 b15 o16 y11), (q1df_11 y11), (q1df_12 j)] rfl ⟨(congrArg Value.bool (Bool.eq_false_iff.2 h24)), wrI, wrI, trivial⟩ ?_
             refine e_pick [0, 1, 2] [(old0 w), (q1df_1 z c), (q1df_0 n2 y11)] rfl rfl ?_
             have e4 := upQ_succ (isSrc h) y11.Ports.xs (n := j) (by omega); rw [← hy22] at e4
             have e5 := upQ_succ (isDst h) y11.Ports.xs (n := j) (by omega); rw [← hy22] at e5
             simp [isSrc, h23, h24] at e4
             simp [isDst, h23, h24] at e5
             refine e_eqk [1, 4, 5, 11, 12, 13, 18, 19, 20] [(1, i6 h), (q1df_2 h c i y11 j), (5, i6 (((upP (isDst h) c.Partitions.xs i + upQ (isDst h) y11.Ports.xs j) + 1 : Nat) : Int)), (q1df_4 b4 o5 c), (q1df_10 c), (13, i6 (i : Int)), (q1df_9 y11), (q1df_11 y11), (q1df_12 j)] (by (try dsimp only [q1df_0, q1df_1, q1df_2, q1df_3, q1df_4, q1df_5, q1df_6, q1df_7, q1df_8, q1df_9, q1df_10, q1df_11, q1df_12]); simp only [ha17]; rfl) ?_
             refine e_inv (fun a w' hs => ⟨y11.Ports.xs.length - (j + 1), by omega, (n13 + 1), (j + 1), rfl, by omega, by omega, (by (try dsimp only [q1df_0, q1df_1, q1df_2, q1df_3, q1df_4, q1df_5, q1df_6, q1df_7, q1df_8, q1df_9, q1df_10, q1df_11, q1df_12] at hs ⊢); rw [e4, e5]; exact hs)⟩)
         · refine q_cS 10 0 [1] [[o0, (a1 3), o0, oT, o0], [(ov (i6 ((j + 1 : Nat) : Int))), o0]] [Qb n13, NT y22.Channel h, Wr (((j : Int) : Int) + 1) (((j + 1 : Nat) : Int))] [(1, i6 h), (q1df_2 h c i y11 j), (q1df_3 h c i y11 j), (q1df_4 b4 o5 c), (q1df_10 c), (13, i6 (i : Int)), (q1df_5 b15 o16 y11), (q1df_11 y11), (q1df_12 j)] rfl ⟨rfl, nt (by omega), wrI, trivial⟩ ?_
           refine e_pick [0, 1, 2] [(old0 w), (q1df_1 z c), (q1df_0 n2 y11)] rfl rfl ?_
           have e4 := upQ_succ (isSrc h) y11.Ports.xs (n := j) (by omega); rw [← hy22] at e4
           have e5 := upQ_succ (isDst h) y11.Ports.xs (n := j) (by omega); rw [← hy22] at e5
           simp [isSrc, h23] at e4
           simp [isDst, h23] at e5
           refine e_eqk [1, 4, 5, 11, 12, 13, 18, 19, 20] [(1, i6 h), (q1df_2 h c i y11 j), (q1df_3 h c i y11 j), (q1df_4 b4 o5 c), (q1df_10 c), (13, i6 (i : Int)), (q1df_9 y11), (q1df_11 y11), (q1df_12 j)] (by (try dsimp only [q1df_0, q1df_1, q1df_2, q1df_3, q1df_4, q1df_5, q1df_6, q1df_7, q1df_8, q1df_9, q1df_10, q1df_11, q1df_12]); simp only [ha17]; rfl) ?_
           refine e_inv (fun a w' hs => ⟨y11.Ports.xs.length - (j + 1), by omega, (n13 + 1), (j + 1), rfl, by omega, by omega, (by (try dsimp only [q1df_0, q1df_1, q1df_2, q1df_3, q1df_4, q1df_5, q1df_6, q1df_7, q1df_8, q1df_9, q1df_10, q1df_11, q1df_12] at hs ⊢); rw [e4, e5]; exact hs)⟩)
       · refine q_cS 13 0 [0] [[oF], [(ov (i6 ((i + 1 : Nat) : Int))), o0]] [BF (((j : Int) : Int) < ((y11.Ports.xs.length : Nat) : Int)), Wr (((i : Int) : Int) + 1) (((i + 1 : Nat) : Int))] [(1, i6 h), (q1df_2 h c i y11 j), (q1df_3 h c i y11 j), (q1df_4 b4 o5 c), (q1df_10 c), (13, i6 ((i + 1 : Nat) : Int))] rfl ⟨bf (by omega), wrI, trivial⟩ ?_
         refine e_pick [0, 1] [(old0 w), (q1df_1 z c)] rfl rfl ?_
         have e4 := upP_succ (isSrc h) c.Partitions.xs i; rw [← hy11] at e4
         have e5 := upP_succ (isDst h) c.Partitions.xs i; rw [← hy11] at e5
         refine e_eqk [1, 4, 5, 11, 12, 13] [(1, i6 h), (q1df_2 h c i y11 j), (q1df_3 h c i y11 j), (q1df_6 c), (q1df_10 c), (13, i6 ((i + 1 : Nat) : Int))] (by (try dsimp only [q1df_0, q1df_1, q1df_2, q1df_3, q1df_4, q1df_5, q1df_6, q1df_7, q1df_8, q1df_9, q1df_10, q1df_11, q1df_12]); simp only [ha6]; rfl) ?_
         refine e_inv (fun a w' hs => ⟨c.Partitions.xs.length - (i + 1), by omega, n13, (i + 1), rfl, by omega, by omega, (by (try dsimp only [q1df_0, q1df_1, q1df_2, q1df_3, q1df_4, q1df_5, q1df_6, q1df_7, q1df_8, q1df_9, q1df_10, q1df_11, q1df_12] at hs ⊢); rw [upQ_all (isSrc h) y11.Ports.xs (n := j) (by omega), upQ_all (isDst h) y11.Ports.xs (n := j) (by omega), ← e4, ← e5] at hs; exact hs)⟩)
   · refine q_cS 15 0 [0] [[oF], [o0, o0, o0, o0]] [BF (((i : Int) : Int) < ((c.Partitions.xs.length : Nat) : Int))] [(q1df_7 h c i), (q1df_8 h c i)] rfl ⟨bf (by omega), trivial⟩ ?_
     refine e_ret [] [] (.tuple #[i6 ((upP (isSrc h) c.Partitions.xs i : Nat) : Int), i6 ((upP (isDst h) c.Partitions.xs i : Nat) : Int)]) trivial ?_
     intro w25 hw25
     exact ⟨by rw [show i = c.Partitions.xs.length from by omega]; rfl, back0 hw25⟩

end Go.Proofs.YtnjhekfgmbpmlaaDoor.Ad
