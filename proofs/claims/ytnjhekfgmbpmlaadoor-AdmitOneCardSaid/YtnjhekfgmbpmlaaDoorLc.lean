/- layout: the document's mayPartition and ends. No conditions. -/
import Derived.Test.YtnjhekfgmbpmlaaDoorLb
namespace Go.Proofs.YtnjhekfgmbpmlaaDoor.Ly
open Go Go.Proofs.YtnjhekfgmbpmlaaDoor.Eng Go.Proofs.YtnjhekfgmbpmlaaDoor.Mem
set_option linter.unusedSimpArgs false
set_option linter.unusedVariables false
set_option maxRecDepth 100000

theorem take_snoc {α : Type} [Inhabited α] {xs : List α} {k : Nat} (h : k < xs.length) : xs.take (k + 1) = xs.take k ++ [gd xs k] := by
  rw [List.take_succ_eq_append_getElem h, gd_eq h]
def srcIs (k : Int) (b : Bool) (q : TPort) : Bool := decide (q.Channel = k) && (q.Source == b)
def endsN (x : TPartition) (k : Int) (b : Bool) : Nat := x.Ports.xs.countP (srcIs k b)
theorem src_t {q : TPort} {k : Int} {b : Bool} (h1 : q.Channel = k) (h2 : q.Source = b) : srcIs k b q = true := by simp [srcIs, h1, h2]
theorem src_f1 {q : TPort} {k : Int} {b : Bool} (h1 : ¬ q.Channel = k) : srcIs k b q = false := by simp [srcIs, h1]
theorem src_f2 {q : TPort} {k : Int} {b : Bool} (h2 : ¬ q.Source = b) : srcIs k b q = false := by simp [srcIs, h2]
theorem cnt_yes {xs : List TPort} {p : TPort → Bool} {j : Nat} (h : j < xs.length) (hp : p (gd xs j) = true) : (xs.take (j + 1)).countP p = (xs.take j).countP p + 1 := by
  rw [take_snoc h, List.countP_append]; simp only [List.countP_singleton, hp, if_true]
theorem cnt_no {xs : List TPort} {p : TPort → Bool} {j : Nat} (h : j < xs.length) (hp : p (gd xs j) = false) : (xs.take (j + 1)).countP p = (xs.take j).countP p := by
  rw [take_snoc h, List.countP_append]; simp [List.countP_singleton, hp]
theorem cnt_le {xs : List TPort} {p : TPort → Bool} {j : Nat} : (xs.take j).countP p ≤ j := Nat.le_trans List.countP_le_length (by rw [List.length_take]; omega)
def sumN {α : Type} (f : α → Nat) (xs : List α) (i : Nat) : Nat := ((xs.take i).map f).sum
theorem sumN_succ {α : Type} [Inhabited α] {f : α → Nat} {xs : List α} {i : Nat} (h : i < xs.length) : sumN f xs (i + 1) = sumN f xs i + f (gd xs i) := by
  unfold sumN; rw [take_snoc h]; simp
theorem sumN_le {α : Type} [Inhabited α] {f : α → Nat} {xs : List α} {B : Nat} (hf : ∀ i, i < xs.length → f (gd xs i) ≤ B) : ∀ (i : Nat), i ≤ xs.length → sumN f xs i ≤ B * i
  | 0, _ => by simp [sumN]
  | i + 1, h => by
    have := sumN_le hf i (by omega)
    have h2 := hf i (by omega)
    rw [sumN_succ (by omega), Nat.mul_succ]; omega
def nEnds (c : TConfig) (k : Nat) (b : Bool) : Nat := sumN (fun x => endsN x k b) c.Partitions.xs c.Partitions.xs.length
def chanOk (c : TConfig) (k : Nat) : Bool := decide (portOf (gd c.Channels.xs k) ≠ 0) && !(decide ((gd c.Channels.xs k).Kind = 1) && decide ((gd c.Channels.xs k).Depth ≠ 0)) && decide (nEnds c k true = 1) && decide (1 ≤ nEnds c k false ∧ nEnds c k false ≤ 4)
def confOk (c : TConfig) : Bool := decide (0 ≤ c.Kernel ∧ c.Kernel < 1024) && decide (c.Partitions.xs.length ≤ 8) && decide (c.Channels.xs.length ≤ 16) && c.Partitions.xs.all (partOk c.Channels.xs.length) && (List.range c.Channels.xs.length).all (chanOk c)
theorem conf_no1 {c : TConfig} (h : ¬ (0 ≤ c.Kernel ∧ c.Kernel < 1024) ∨ 8 < c.Partitions.xs.length ∨ 16 < c.Channels.xs.length) : confOk c = false := by
  unfold confOk
  rcases h with h | h | h
  · rw [decide_eq_false h]; rfl
  · rw [decide_eq_false (show ¬ c.Partitions.xs.length ≤ 8 by omega)]; simp
  · rw [decide_eq_false (show ¬ c.Channels.xs.length ≤ 16 by omega)]; simp
theorem conf_no2 {c : TConfig} {k : Nat} (hk : k < c.Partitions.xs.length) (h : partOk c.Channels.xs.length (gd c.Partitions.xs k) = false) : confOk c = false := by
  unfold confOk
  rw [all_no hk h]; simp
theorem conf_no3 {c : TConfig} {k : Nat} (hk : k < c.Channels.xs.length) (h : chanOk c k = false) : confOk c = false := by
  unfold confOk
  have : (List.range c.Channels.xs.length).all (chanOk c) = false := by
    rw [List.all_eq_false]; exact ⟨k, List.mem_range.2 hk, by simp [h]⟩
  rw [this]; simp
theorem conf_yes {c : TConfig} (h1 : 0 ≤ c.Kernel ∧ c.Kernel < 1024) (h2 : c.Partitions.xs.length ≤ 8) (h3 : c.Channels.xs.length ≤ 16) (h4 : ∀ i, i < c.Partitions.xs.length → partOk c.Channels.xs.length (gd c.Partitions.xs i) = true) (h5 : ∀ i, i < c.Channels.xs.length → chanOk c i = true) : confOk c = true := by
  unfold confOk
  rw [decide_eq_true h1, decide_eq_true h2, decide_eq_true h3, all_yes h4]
  simp only [Bool.and_true, Bool.true_and, List.all_eq_true, List.mem_range]
  exact h5
theorem part_ports {n : Nat} {x : TPartition} (h : partOk n x = true) : x.Ports.xs.length ≤ 8 := by
  unfold partOk at h; simp only [Bool.and_eq_true, decide_eq_true_eq] at h; exact h.1.1.2
theorem part_regs {n : Nat} {x : TPartition} (h : partOk n x = true) : x.Regions.xs.length ≤ 8 ∧ x.Regions.xs.all regOk = true := by
  unfold partOk at h; simp only [Bool.and_eq_true, decide_eq_true_eq] at h; exact ⟨h.1.1.1, h.1.2⟩
theorem endsN_le {n : Nat} {x : TPartition} (h : partOk n x = true) (k : Int) (b : Bool) : endsN x k b ≤ 8 := Nat.le_trans List.countP_le_length (part_ports h)
theorem chan_no {c : TConfig} {k : Nat} (h : portOf (gd c.Channels.xs k) = 0 ∨ ((gd c.Channels.xs k).Kind = 1 ∧ (gd c.Channels.xs k).Depth ≠ 0) ∨ nEnds c k true ≠ 1 ∨ nEnds c k false < 1 ∨ 4 < nEnds c k false) : chanOk c k = false := by
  unfold chanOk
  rcases h with h | ⟨h, h'⟩ | h | h | h
  · simp [h]
  · simp [h, h']
  · simp [h]
  · rw [decide_eq_false (show ¬ (1 ≤ nEnds c k false ∧ nEnds c k false ≤ 4) by omega)]; simp
  · rw [decide_eq_false (show ¬ (1 ≤ nEnds c k false ∧ nEnds c k false ≤ 4) by omega)]; simp
theorem chan_yes {c : TConfig} {k : Nat} (h1 : ¬ portOf (gd c.Channels.xs k) = 0) (h2 : ¬ ((gd c.Channels.xs k).Kind = 1 ∧ ¬ (gd c.Channels.xs k).Depth = 0)) (h3 : nEnds c k true = 1) (h4 : 1 ≤ nEnds c k false ∧ nEnds c k false ≤ 4) : chanOk c k = true := by
  unfold chanOk
  rw [decide_eq_true h3, decide_eq_true h4]
  simp [h1]
  by_cases e : (gd c.Channels.xs k).Kind = 1
  · exact .inr (Classical.not_not.1 (fun e2 => h2 ⟨e, e2⟩))
  · exact .inl e
abbrev qzb8_0 (z : Nat) (x : TPartition) : Ch := bk z (TPartition.arr x) 41
abbrev qzb8_1 (x : TPartition) : Nat × Value := (20, i6 ((x.Regions.xs.length : Nat) : Int))
abbrev qzb8_2 (x : TPartition) : Nat × Value := (53, i6 ((x.Ports.xs.length : Nat) : Int))
theorem rpart_calls (w : World) (x : TPartition) (n : Nat) (hx : TPartition.ok Any w x) : Calls Tryd.prog 80 #[.agg (TPartition.arr x), .int .i64 (n : Int)] w fun e w' => e = .returned (.bool (partOk n x)) ∧ Keeps (fun _ => False) w w' := by
 obtain ⟨z, hz⟩ : ∃ z, z = w.heap.size := ⟨_, rfl⟩
 refine calls_G (args := [.agg (TPartition.arr x), i6 (n : Int)]) 75 ⟨w, z, [(old0 w)]⟩ Tryd.func80 rfl (by kernel_rfl) (by kernel_rfl) (sat_0 hz) ?_
 refine g_keep [0, 1] [(0, .agg (TPartition.arr x)), (1, i6 (n : Int))] ?_
 refine q_c 6 0 [] [[o0, o0]] [] [(1, i6 (n : Int)), (2, pt z)] ⟨w, z + 1, [(old0 w), (qzb8_0 z x)]⟩ rfl trivial ?_
 by_cases h1 : (8 : Int) < ((x.Regions.xs.length : Nat) : Int)
 · refine q_cS 9 0 [1] [[o0, (a1 1), o0, oT, o0, o0], [o0]] [Qb z, BT ((((x.Regions.xs.length : Nat) : Int) : Int) > 8)] [(4, .bool false)] rfl ⟨rfl, bt (by omega), trivial⟩ ?_
   refine e_ret [] [] (.bool false) trivial ?_
   intro w2 hw2
   refine ⟨congrArg (fun b => Ending.returned (Value.bool b)) (Eq.symm (?_ : partOk n x = false)), back0 hw2⟩
   unfold partOk
   first
     | (have e1 : decide (x.Regions.xs.length ≤ 8) = false := decide_eq_false (by omega)); simp [e1]
     | (have e1 : decide (x.Ports.xs.length ≤ 8) = false := decide_eq_false (by omega)); simp [e1]
 · by_cases h3 : (8 : Int) < ((x.Ports.xs.length : Nat) : Int)
   · refine q_cS 9 0 [1] [[o0, (a1 1), o0, oF, o0, o0, (a1 1), o0, oT, o0], [o0]] [Qb z, BF ((((x.Regions.xs.length : Nat) : Int) : Int) > 8), Qb z, BT ((((x.Ports.xs.length : Nat) : Int) : Int) > 8)] [(4, .bool false)] rfl ⟨rfl, bf (by omega), rfl, bt (by omega), trivial⟩ ?_
     refine e_ret [] [] (.bool false) trivial ?_
     intro w4 hw4
     refine ⟨congrArg (fun b => Ending.returned (Value.bool b)) (Eq.symm (?_ : partOk n x = false)), back0 hw4⟩
     unfold partOk
     first
       | (have e1 : decide (x.Regions.xs.length ≤ 8) = false := decide_eq_false (by omega)); simp [e1]
       | (have e1 : decide (x.Ports.xs.length ≤ 8) = false := decide_eq_false (by omega)); simp [e1]
   · refine q_cS 12 0 [0] [[o0, (a1 1), o0, oF, o0, o0, (a1 1), o0, oF, o0], [o0, (a1 1), o0, o0]] [Qb z, BF ((((x.Regions.xs.length : Nat) : Int) : Int) > 8), Qb z, BF ((((x.Ports.xs.length : Nat) : Int) : Int) > 8), Qb z] [(1, i6 (n : Int)), (2, pt z), (qzb8_1 x), (21, i6 0)] rfl ⟨rfl, bf (by omega), rfl, bf (by omega), rfl, trivial⟩ ?_
     refine g_loop (fun m a w' => ∃ (n6 : Nat) (k : Nat), m = x.Regions.xs.length - k ∧ z + 1 ≤ n6 ∧ (k ≤ x.Regions.xs.length) ∧ (∀ i, i < k → regOk (gd x.Regions.xs i) = true) ∧ St 75 [(1, i6 (n : Int)), (2, pt z), (qzb8_1 x), (21, i6 (k : Int))] [] ⟨w, n6, [(old0 w), (qzb8_0 z x)]⟩ a w') (x.Regions.xs.length - 0) ?_ ?_
     · intro a w' hs; exact ⟨(z + 1), 0, rfl, Nat.le_refl _, Nat.zero_le _, fun i hi => absurd hi (Nat.not_lt_zero i), hs⟩
     · rintro m a w' ⟨n6, k, rfl, hn5, hkk, hr, hs⟩
       refine (?_ : G Tryd.prog 75 [(1, i6 (n : Int)), (2, pt z), (qzb8_1 x), (21, i6 (k : Int))] [] ⟨w, n6, [(old0 w), (qzb8_0 z x)]⟩ _ _ _) a w' hs
       clear hs a w'
       refine g_seq ?_
       by_cases h7 : ((k : Int) : Int) < ((x.Regions.xs.length : Nat) : Int)
       · refine q_cS 14 0 [1] [[oT], [o0, o0]] [BT (((k : Int) : Int) < ((x.Regions.xs.length : Nat) : Int))] [(1, i6 (n : Int)), (2, pt z), (qzb8_1 x), (21, i6 (k : Int)), (5, i6 (k : Int))] rfl ⟨bt (by omega), trivial⟩ ?_
         obtain ⟨b8, o9, ha10, hF12, hc11⟩ := (hx.Regions).1.all (show 0 < x.Regions.xs.length by omega)
         replace ha10 : x.Regions.a = some ⟨b8, o9, none⟩ := ha10
         have hc13 := hc11 k (show k < x.Regions.xs.length by omega)
         have he14 := (hx.Regions).2 k (show k < x.Regions.xs.length by omega)
         obtain ⟨y15, hy15⟩ : ∃ y_, y_ = gd x.Regions.xs k := ⟨_, rfl⟩
         rw [← hy15] at he14 hc13
         refine q_c 4 0 [] [[o0, ⟨.auto [.at 1], some (.slice (some ⟨b8, o9, none⟩) x.Regions.xs.length x.Regions.cap)⟩, o0, (oi k), (ol 0 (TRegion.arr y15)), o0, (an 4 2)]] [Qb z, Value.slice x.Regions.a x.Regions.xs.length x.Regions.cap = Value.slice (some ⟨b8, o9, none⟩) x.Regions.xs.length x.Regions.cap, ((k : Int) : Int) = ((k : Nat) : Int), k < x.Regions.xs.length, (none : Option Nat) = none, OldR w b8 (o9 + k * 4) (TRegion.arr y15), Qb n6, Qb n6, Qb n6, Qb n6] [(1, i6 (n : Int)), (2, pt z), (qzb8_1 x), (21, i6 (k : Int)), (6, pt n6)] ⟨w, n6 + 1, [(old0 w), (qzb8_0 z x), (bk n6 (TRegion.arr y15) 49)]⟩ rfl ⟨rfl, congrArg (fun a => Value.slice a _ _) ha10, rfl, (by omega), rfl, old_row hc13, rfl, rfl, rfl, rfl, trivial⟩ ?_
         by_cases h16 : (y15.Page : Int) < 0
         · refine q_cS 9 0 [1] [[o0, (a1 2), oT, o0, o0, o0, o0, o0, o0], [o0]] [Qb n6, BT ((y15.Page : Int) < 0)] [(4, .bool false)] rfl ⟨rfl, bt (by omega), trivial⟩ ?_
           refine e_ret [] [] (.bool false) trivial ?_
           intro w17 hw17
           refine ⟨congrArg (fun b => Ending.returned (Value.bool b)) (Eq.symm (?_ : partOk n x = false)), back0 hw17⟩
           unfold partOk
           have e1 : x.Regions.xs.all regOk = false := all_no (k := k) (by omega) (by rw [← hy15]; exact decide_eq_false (by omega))
           simp [e1]
         · by_cases h18 : (256 : Int) < y15.Page
           · refine q_cS 9 0 [1] [[o0, (a1 2), oF, o0, o0, (a1 2), oT, o0, o0, o0, o0, o0], [o0]] [Qb n6, BF ((y15.Page : Int) < 0), Qb n6, BT ((y15.Page : Int) > 256)] [(4, .bool false)] rfl ⟨rfl, bf (by omega), rfl, bt (by omega), trivial⟩ ?_
             refine e_ret [] [] (.bool false) trivial ?_
             intro w19 hw19
             refine ⟨congrArg (fun b => Ending.returned (Value.bool b)) (Eq.symm (?_ : partOk n x = false)), back0 hw19⟩
             unfold partOk
             have e1 : x.Regions.xs.all regOk = false := all_no (k := k) (by omega) (by rw [← hy15]; exact decide_eq_false (by omega))
             simp [e1]
           · by_cases h20 : (y15.Pages : Int) < 1
             · refine q_cS 9 0 [1] [[o0, (a1 2), oF, o0, o0, (a1 2), oF, o0, o0, o0, (a1 2), oT, o0, o0, o0], [o0]] [Qb n6, BF ((y15.Page : Int) < 0), Qb n6, BF ((y15.Page : Int) > 256), Qb n6, BT ((y15.Pages : Int) < 1)] [(4, .bool false)] rfl ⟨rfl, bf (by omega), rfl, bf (by omega), rfl, bt (by omega), trivial⟩ ?_
               refine e_ret [] [] (.bool false) trivial ?_
               intro w21 hw21
               refine ⟨congrArg (fun b => Ending.returned (Value.bool b)) (Eq.symm (?_ : partOk n x = false)), back0 hw21⟩
               unfold partOk
               have e1 : x.Regions.xs.all regOk = false := all_no (k := k) (by omega) (by rw [← hy15]; exact decide_eq_false (by omega))
               simp [e1]
             · by_cases h22 : (256 - y15.Page : Int) < y15.Pages
               · refine q_cS 9 0 [1] [[o0, (a1 2), oF, o0, o0, (a1 2), oF, o0, o0, o0, (a1 2), oF, o0, o0, o0, (a1 2), o0, (a1 2), (ov (i6 (256 - y15.Page))), oT, o0], [o0]] [Qb n6, BF ((y15.Page : Int) < 0), Qb n6, BF ((y15.Page : Int) > 256), Qb n6, BF ((y15.Pages : Int) < 1), Qb n6, Qb n6, Wr ((256 : Int) - y15.Page) (256 - y15.Page), BT ((y15.Pages : Int) > (256 - y15.Page))] [(4, .bool false)] rfl ⟨rfl, bf (by omega), rfl, bf (by omega), rfl, bf (by omega), rfl, rfl, wrI, bt (by omega), trivial⟩ ?_
                 refine e_ret [] [] (.bool false) trivial ?_
                 intro w23 hw23
                 refine ⟨congrArg (fun b => Ending.returned (Value.bool b)) (Eq.symm (?_ : partOk n x = false)), back0 hw23⟩
                 unfold partOk
                 have e1 : x.Regions.xs.all regOk = false := all_no (k := k) (by omega) (by rw [← hy15]; exact decide_eq_false (by omega))
                 simp [e1]
               · refine q_cS 9 0 [0] [[o0, (a1 2), oF, o0, o0, (a1 2), oF, o0, o0, o0, (a1 2), oF, o0, o0, o0, (a1 2), o0, (a1 2), (ov (i6 (256 - y15.Page))), oF, o0], [(ov (i6 ((k + 1 : Nat) : Int))), o0]] [Qb n6, BF ((y15.Page : Int) < 0), Qb n6, BF ((y15.Page : Int) > 256), Qb n6, BF ((y15.Pages : Int) < 1), Qb n6, Qb n6, Wr ((256 : Int) - y15.Page) (256 - y15.Page), BF ((y15.Pages : Int) > (256 - y15.Page)), Wr (((k : Int) : Int) + 1) (((k + 1 : Nat) : Int))] [(1, i6 (n : Int)), (2, pt z), (qzb8_1 x), (21, i6 ((k + 1 : Nat) : Int))] rfl ⟨rfl, bf (by omega), rfl, bf (by omega), rfl, bf (by omega), rfl, rfl, wrI, bf (by omega), wrI, trivial⟩ ?_
                 refine e_pick [0, 1] [(old0 w), (qzb8_0 z x)] rfl rfl ?_
                 refine e_keep [1, 2, 20, 21] [(1, i6 (n : Int)), (2, pt z), (qzb8_1 x), (21, i6 ((k + 1 : Nat) : Int))] ?_
                 refine e_inv (fun a w' hs => ⟨x.Regions.xs.length - (k + 1), by omega, (n6 + 1), (k + 1), rfl, by omega, by omega, upto hr (by rw [← hy15]; exact decide_eq_true (by omega)), hs⟩)
       · refine q_cS 16 0 [0] [[oF], [o0, (a1 1), o0, o0]] [BF (((k : Int) : Int) < ((x.Regions.xs.length : Nat) : Int)), Qb z] [(1, i6 (n : Int)), (2, pt z), (qzb8_2 x), (54, i6 0)] rfl ⟨bf (by omega), rfl, trivial⟩ ?_
         refine g_loop (fun m a w' => ∃ (n25 : Nat) (j : Nat), m = x.Ports.xs.length - j ∧ n6 ≤ n25 ∧ (j ≤ x.Ports.xs.length) ∧ (∀ i, i < j → portOk n (gd x.Ports.xs i) = true) ∧ St 75 [(1, i6 (n : Int)), (2, pt z), (qzb8_2 x), (54, i6 (j : Int))] [] ⟨w, n25, [(old0 w), (qzb8_0 z x)]⟩ a w') (x.Ports.xs.length - 0) ?_ ?_
         · intro a w' hs; exact ⟨n6, 0, rfl, Nat.le_refl _, Nat.zero_le _, fun i hi => absurd hi (Nat.not_lt_zero i), hs⟩
         · rintro m a w' ⟨n25, j, rfl, hn24, hkj, hp, hs⟩
           refine (?_ : G Tryd.prog 75 [(1, i6 (n : Int)), (2, pt z), (qzb8_2 x), (54, i6 (j : Int))] [] ⟨w, n25, [(old0 w), (qzb8_0 z x)]⟩ _ _ _) a w' hs
           clear hs a w'
           refine g_seq ?_
           by_cases h26 : ((j : Int) : Int) < ((x.Ports.xs.length : Nat) : Int)
           · refine q_cS 14 0 [1] [[oT], [o0, o0]] [BT (((j : Int) : Int) < ((x.Ports.xs.length : Nat) : Int))] [(1, i6 (n : Int)), (2, pt z), (qzb8_2 x), (54, i6 (j : Int)), (7, i6 (j : Int))] rfl ⟨bt (by omega), trivial⟩ ?_
             obtain ⟨b27, o28, ha29, hF31, hc30⟩ := (hx.Ports).1.all (show 0 < x.Ports.xs.length by omega)
             replace ha29 : x.Ports.a = some ⟨b27, o28, none⟩ := ha29
             have hc32 := hc30 j (show j < x.Ports.xs.length by omega)
             have he33 := (hx.Ports).2 j (show j < x.Ports.xs.length by omega)
             obtain ⟨y34, hy34⟩ : ∃ y_, y_ = gd x.Ports.xs j := ⟨_, rfl⟩
             rw [← hy34] at he33 hc32
             by_cases h35 : (y34.Channel : Int) < 0
             · refine q_cS 9 0 [1] [[o0, ⟨.auto [.at 1], some (.slice (some ⟨b27, o28, none⟩) x.Ports.xs.length x.Ports.cap)⟩, o0, (oi j), o0, (oa [.via 0 (i6 y34.Channel)]), oT, o0, o0], [o0]] [Qb z, Value.slice x.Ports.a x.Ports.xs.length x.Ports.cap = Value.slice (some ⟨b27, o28, none⟩) x.Ports.xs.length x.Ports.cap, ((j : Int) : Int) = ((j : Nat) : Int), j < x.Ports.xs.length, (none : Option Nat) = none, Old w b27 (o28 + j * 2) (i6 y34.Channel), BT ((y34.Channel : Int) < 0)] [(4, .bool false)] rfl ⟨rfl, congrArg (fun a => Value.slice a _ _) ha29, rfl, (by omega), rfl, old_cell' (hc32 0 _ rfl), bt (by omega), trivial⟩ ?_
               refine e_ret [] [] (.bool false) trivial ?_
               intro w36 hw36
               refine ⟨congrArg (fun b => Ending.returned (Value.bool b)) (Eq.symm (?_ : partOk n x = false)), back0 hw36⟩
               unfold partOk
               have e1 : x.Ports.xs.all (portOk n) = false := all_no (k := j) (by omega) (by rw [← hy34]; exact decide_eq_false (by omega))
               simp [e1]
             · by_cases h37 : (y34.Channel : Int) < (n : Int)
               · refine q_cS 9 0 [0] [[o0, ⟨.auto [.at 1], some (.slice (some ⟨b27, o28, none⟩) x.Ports.xs.length x.Ports.cap)⟩, o0, (oi j), o0, (oa [.via 0 (i6 y34.Channel)]), oF, o0, o0, ⟨.auto [.at 1], some (.slice (some ⟨b27, o28, none⟩) x.Ports.xs.length x.Ports.cap)⟩, o0, (oi j), o0, (oa [.via 0 (i6 y34.Channel)]), o0, oF, o0], [(ov (i6 ((j + 1 : Nat) : Int))), o0]] [Qb z, Value.slice x.Ports.a x.Ports.xs.length x.Ports.cap = Value.slice (some ⟨b27, o28, none⟩) x.Ports.xs.length x.Ports.cap, ((j : Int) : Int) = ((j : Nat) : Int), j < x.Ports.xs.length, (none : Option Nat) = none, Old w b27 (o28 + j * 2) (i6 y34.Channel), BF ((y34.Channel : Int) < 0), Qb z, Value.slice x.Ports.a x.Ports.xs.length x.Ports.cap = Value.slice (some ⟨b27, o28, none⟩) x.Ports.xs.length x.Ports.cap, ((j : Int) : Int) = ((j : Nat) : Int), j < x.Ports.xs.length, (none : Option Nat) = none, Old w b27 (o28 + j * 2) (i6 y34.Channel), BF ((y34.Channel : Int) ≥ (n : Int)), Wr (((j : Int) : Int) + 1) (((j + 1 : Nat) : Int))] [(1, i6 (n : Int)), (2, pt z), (qzb8_2 x), (54, i6 ((j + 1 : Nat) : Int))] rfl ⟨rfl, congrArg (fun a => Value.slice a _ _) ha29, rfl, (by omega), rfl, old_cell' (hc32 0 _ rfl), bf (by omega), rfl, congrArg (fun a => Value.slice a _ _) ha29, rfl, (by omega), rfl, old_cell' (hc32 0 _ rfl), bf (by omega), wrI, trivial⟩ ?_
                 refine e_inv (fun a w' hs => ⟨x.Ports.xs.length - (j + 1), by omega, n25, (j + 1), rfl, by omega, by omega, upto hp (by rw [← hy34]; exact decide_eq_true (by omega)), hs⟩)
               · refine q_cS 9 0 [1] [[o0, ⟨.auto [.at 1], some (.slice (some ⟨b27, o28, none⟩) x.Ports.xs.length x.Ports.cap)⟩, o0, (oi j), o0, (oa [.via 0 (i6 y34.Channel)]), oF, o0, o0, ⟨.auto [.at 1], some (.slice (some ⟨b27, o28, none⟩) x.Ports.xs.length x.Ports.cap)⟩, o0, (oi j), o0, (oa [.via 0 (i6 y34.Channel)]), o0, oT, o0], [o0]] [Qb z, Value.slice x.Ports.a x.Ports.xs.length x.Ports.cap = Value.slice (some ⟨b27, o28, none⟩) x.Ports.xs.length x.Ports.cap, ((j : Int) : Int) = ((j : Nat) : Int), j < x.Ports.xs.length, (none : Option Nat) = none, Old w b27 (o28 + j * 2) (i6 y34.Channel), BF ((y34.Channel : Int) < 0), Qb z, Value.slice x.Ports.a x.Ports.xs.length x.Ports.cap = Value.slice (some ⟨b27, o28, none⟩) x.Ports.xs.length x.Ports.cap, ((j : Int) : Int) = ((j : Nat) : Int), j < x.Ports.xs.length, (none : Option Nat) = none, Old w b27 (o28 + j * 2) (i6 y34.Channel), BT ((y34.Channel : Int) ≥ (n : Int))] [(4, .bool false)] rfl ⟨rfl, congrArg (fun a => Value.slice a _ _) ha29, rfl, (by omega), rfl, old_cell' (hc32 0 _ rfl), bf (by omega), rfl, congrArg (fun a => Value.slice a _ _) ha29, rfl, (by omega), rfl, old_cell' (hc32 0 _ rfl), bt (by omega), trivial⟩ ?_
                 refine e_ret [] [] (.bool false) trivial ?_
                 intro w38 hw38
                 refine ⟨congrArg (fun b => Ending.returned (Value.bool b)) (Eq.symm (?_ : partOk n x = false)), back0 hw38⟩
                 unfold partOk
                 have e1 : x.Ports.xs.all (portOk n) = false := all_no (k := j) (by omega) (by rw [← hy34]; exact decide_eq_false (by omega))
                 simp [e1]
           · refine q_cS 15 0 [0] [[oF], [o0]] [BF (((j : Int) : Int) < ((x.Ports.xs.length : Nat) : Int))] [(4, .bool true)] rfl ⟨bf (by omega), trivial⟩ ?_
             refine e_ret [] [] (.bool true) trivial ?_
             intro w39 hw39
             refine ⟨congrArg (fun b => Ending.returned (Value.bool b)) (Eq.symm (?_ : partOk n x = true)), back0 hw39⟩
             have e1 : x.Regions.xs.all regOk = true := all_yes (fun i hi => hr i (by omega))
             have e2 : x.Ports.xs.all (portOk n) = true := all_yes (fun i hi => hp i (by omega))
             simp only [partOk, e1, e2, Bool.and_true, Bool.and_eq_true, decide_eq_true_eq]
             omega
abbrev qf8b_0 (x : TPartition) (j : Nat) (ch : Int) (b : Bool) : Nat × Value := (7, i6 ((((x.Ports.xs.take j).countP (srcIs ch b)) + 1 : Nat) : Int))
abbrev qf8b_1 (x : TPartition) (j : Nat) (ch : Int) (b : Bool) : Nat × Value := (7, i6 (((x.Ports.xs.take j).countP (srcIs ch b) : Nat) : Int))
abbrev qf8b_2 (x : TPartition) : Nat × Value := (11, i6 ((x.Ports.xs.length : Nat) : Int))
abbrev qf8b_3 (j : Nat) : Nat × Value := (12, i6 ((j + 1 : Nat) : Int))
theorem rends_calls (w : World) (x : TPartition) (ch : Int) (b : Bool) (hx : TPartition.ok Any w x) : Calls Tryd.prog 82 #[.agg (TPartition.arr x), .int .i64 ch, .bool b] w fun e w' => e = .returned (.int .i64 (endsN x ch b : Nat)) ∧ Keeps (fun _ => False) w w' := by
 obtain ⟨z, hz⟩ : ∃ z, z = w.heap.size := ⟨_, rfl⟩
 refine calls_G (args := [.agg (TPartition.arr x), i6 ch, .bool b]) 37 ⟨w, z, [(old0 w)]⟩ Tryd.func82 rfl (by kernel_rfl) (by kernel_rfl) (sat_0 hz) ?_
 have hlP := hx.Ports.1.len
 refine g_keep [0, 1, 2] [(0, .agg (TPartition.arr x)), (1, i6 ch), (2, .bool b)] ?_
 refine q_c 14 0 [] [[o0, o0], [o0], [o0, (a1 1), o0, o0]] [Qb z] [(1, i6 ch), (2, .bool b), (3, pt z), (7, i6 0), (qf8b_2 x), (12, i6 0)] ⟨w, z + 1, [(old0 w), (bk z (TPartition.arr x) 41)]⟩ rfl ⟨rfl, trivial⟩ ?_
 refine g_loop (fun m a w' => ∃ (n2 : Nat) (j : Nat), m = x.Ports.xs.length - j ∧ z + 1 ≤ n2 ∧ (j ≤ x.Ports.xs.length) ∧ St 37 [(1, i6 ch), (2, .bool b), (3, pt z), (qf8b_1 x j ch b), (qf8b_2 x), (12, i6 (j : Int))] [] ⟨w, n2, [(old0 w), (bk z (TPartition.arr x) 41)]⟩ a w') (x.Ports.xs.length - 0) ?_ ?_
 · intro a w' hs; exact ⟨(z + 1), 0, rfl, Nat.le_refl _, Nat.zero_le _, hs⟩
 · rintro m a w' ⟨n2, j, rfl, hn1, hkj, hs⟩
   refine (?_ : G Tryd.prog 37 [(1, i6 ch), (2, .bool b), (3, pt z), (qf8b_1 x j ch b), (qf8b_2 x), (12, i6 (j : Int))] [] ⟨w, n2, [(old0 w), (bk z (TPartition.arr x) 41)]⟩ _ _ _) a w' hs
   clear hs a w'
   have hcl : (x.Ports.xs.take j).countP (srcIs ch b) ≤ j := cnt_le
   refine g_seq ?_
   by_cases h3 : ((j : Int) : Int) < ((x.Ports.xs.length : Nat) : Int)
   · refine q_cS 14 0 [1] [[oT], [o0, o0]] [BT (((j : Int) : Int) < ((x.Ports.xs.length : Nat) : Int))] [(1, i6 ch), (2, .bool b), (3, pt z), (qf8b_1 x j ch b), (qf8b_2 x), (12, i6 (j : Int)), (8, i6 (j : Int))] rfl ⟨bt (by omega), trivial⟩ ?_
     obtain ⟨b4, o5, ha6, hF8, hc7⟩ := (hx.Ports).1.all (show 0 < x.Ports.xs.length by omega)
     replace ha6 : x.Ports.a = some ⟨b4, o5, none⟩ := ha6
     have hc9 := hc7 j (show j < x.Ports.xs.length by omega)
     have he10 := (hx.Ports).2 j (show j < x.Ports.xs.length by omega)
     obtain ⟨y11, hy11⟩ : ∃ y_, y_ = gd x.Ports.xs j := ⟨_, rfl⟩
     rw [← hy11] at he10 hc9
     by_cases h12 : (y11.Channel : Int) = ch
     · by_cases h13 : y11.Source = true
       · by_cases h14 : b = true
         · refine q_cS 10 0 [1] [[o0, ⟨.auto [.at 1], some (.slice (some ⟨b4, o5, none⟩) x.Ports.xs.length x.Ports.cap)⟩, o0, (oi j), o0, (oa [.via 0 (i6 y11.Channel)]), o0, oT, o0, o0, ⟨.auto [.at 1], some (.slice (some ⟨b4, o5, none⟩) x.Ports.xs.length x.Ports.cap)⟩, o0, (oi j), o0, (oa [.via 0 (.bool y11.Source)]), (ov (.bool true)), (ov (.bool true)), o0], [o0, (ov (i6 ((((x.Ports.xs.take j).countP (srcIs ch b)) + 1 : Nat) : Int))), o0], [(ov (i6 ((j + 1 : Nat) : Int))), o0]] [Qb z, Value.slice x.Ports.a x.Ports.xs.length x.Ports.cap = Value.slice (some ⟨b4, o5, none⟩) x.Ports.xs.length x.Ports.cap, ((j : Int) : Int) = ((j : Nat) : Int), j < x.Ports.xs.length, (none : Option Nat) = none, Old w b4 (o5 + j * 2) (i6 y11.Channel), ET y11.Channel ch, Qb z, Value.slice x.Ports.a x.Ports.xs.length x.Ports.cap = Value.slice (some ⟨b4, o5, none⟩) x.Ports.xs.length x.Ports.cap, ((j : Int) : Int) = ((j : Nat) : Int), j < x.Ports.xs.length, (none : Option Nat) = none, Old w b4 (o5 + j * 2 + 1) (.bool y11.Source), Value.bool b = Value.bool true, Value.bool ((y11.Source == true)) = Value.bool true, Wr (((((x.Ports.xs.take j).countP (srcIs ch b) : Nat) : Int) : Int) + 1) (((((x.Ports.xs.take j).countP (srcIs ch b)) + 1 : Nat) : Int)), Wr (((j : Int) : Int) + 1) (((j + 1 : Nat) : Int))] [(1, i6 ch), (2, .bool b), (3, pt z), (qf8b_0 x j ch b), (qf8b_2 x), (qf8b_3 j)] rfl ⟨rfl, congrArg (fun a => Value.slice a _ _) ha6, rfl, (by omega), rfl, old_cell' (hc9 0 _ rfl), et (by omega), rfl, congrArg (fun a => Value.slice a _ _) ha6, rfl, (by omega), rfl, old_cell' (hc9 1 _ rfl), (congrArg Value.bool h14), by simp [h13], wrI, wrI, trivial⟩ ?_
           have hT := cnt_yes (p := srcIs ch b) (show j < x.Ports.xs.length by omega) (by rw [← hy11]; exact src_t (by omega) (by revert h13 h14; cases y11.Source <;> cases b <;> simp))
           refine e_keep [1, 2, 3, 7, 11, 12] [(1, i6 ch), (2, .bool b), (3, pt z), (qf8b_0 x j ch b), (qf8b_2 x), (qf8b_3 j)] ?_
           refine e_inv (fun a w' hs => ⟨x.Ports.xs.length - (j + 1), by omega, n2, (j + 1), rfl, by omega, by omega, by (try dsimp only [qf8b_0, qf8b_1, qf8b_2, qf8b_3] at hs ⊢); rw [hT]; exact hs⟩)
         · refine q_cS 9 0 [0] [[o0, ⟨.auto [.at 1], some (.slice (some ⟨b4, o5, none⟩) x.Ports.xs.length x.Ports.cap)⟩, o0, (oi j), o0, (oa [.via 0 (i6 y11.Channel)]), o0, oT, o0, o0, ⟨.auto [.at 1], some (.slice (some ⟨b4, o5, none⟩) x.Ports.xs.length x.Ports.cap)⟩, o0, (oi j), o0, (oa [.via 0 (.bool y11.Source)]), (ov (.bool false)), (ov (.bool false)), o0], [(ov (i6 ((j + 1 : Nat) : Int))), o0]] [Qb z, Value.slice x.Ports.a x.Ports.xs.length x.Ports.cap = Value.slice (some ⟨b4, o5, none⟩) x.Ports.xs.length x.Ports.cap, ((j : Int) : Int) = ((j : Nat) : Int), j < x.Ports.xs.length, (none : Option Nat) = none, Old w b4 (o5 + j * 2) (i6 y11.Channel), ET y11.Channel ch, Qb z, Value.slice x.Ports.a x.Ports.xs.length x.Ports.cap = Value.slice (some ⟨b4, o5, none⟩) x.Ports.xs.length x.Ports.cap, ((j : Int) : Int) = ((j : Nat) : Int), j < x.Ports.xs.length, (none : Option Nat) = none, Old w b4 (o5 + j * 2 + 1) (.bool y11.Source), Value.bool b = Value.bool false, Value.bool ((y11.Source == false)) = Value.bool false, Wr (((j : Int) : Int) + 1) (((j + 1 : Nat) : Int))] [(1, i6 ch), (2, .bool b), (3, pt z), (qf8b_1 x j ch b), (qf8b_2 x), (qf8b_3 j)] rfl ⟨rfl, congrArg (fun a => Value.slice a _ _) ha6, rfl, (by omega), rfl, old_cell' (hc9 0 _ rfl), et (by omega), rfl, congrArg (fun a => Value.slice a _ _) ha6, rfl, (by omega), rfl, old_cell' (hc9 1 _ rfl), (congrArg Value.bool (Bool.eq_false_iff.2 h14)), by simp [h13], wrI, trivial⟩ ?_
           have hT := cnt_no (p := srcIs ch b) (show j < x.Ports.xs.length by omega) (by rw [← hy11]; exact src_f2 (by revert h13 h14; cases y11.Source <;> cases b <;> simp))
           refine e_keep [1, 2, 3, 7, 11, 12] [(1, i6 ch), (2, .bool b), (3, pt z), (qf8b_1 x j ch b), (qf8b_2 x), (qf8b_3 j)] ?_
           refine e_inv (fun a w' hs => ⟨x.Ports.xs.length - (j + 1), by omega, n2, (j + 1), rfl, by omega, by omega, by (try dsimp only [qf8b_0, qf8b_1, qf8b_2, qf8b_3] at hs ⊢); rw [hT]; exact hs⟩)
       · by_cases h15 : b = true
         · refine q_cS 9 0 [0] [[o0, ⟨.auto [.at 1], some (.slice (some ⟨b4, o5, none⟩) x.Ports.xs.length x.Ports.cap)⟩, o0, (oi j), o0, (oa [.via 0 (i6 y11.Channel)]), o0, oT, o0, o0, ⟨.auto [.at 1], some (.slice (some ⟨b4, o5, none⟩) x.Ports.xs.length x.Ports.cap)⟩, o0, (oi j), o0, (oa [.via 0 (.bool y11.Source)]), (ov (.bool true)), (ov (.bool false)), o0], [(ov (i6 ((j + 1 : Nat) : Int))), o0]] [Qb z, Value.slice x.Ports.a x.Ports.xs.length x.Ports.cap = Value.slice (some ⟨b4, o5, none⟩) x.Ports.xs.length x.Ports.cap, ((j : Int) : Int) = ((j : Nat) : Int), j < x.Ports.xs.length, (none : Option Nat) = none, Old w b4 (o5 + j * 2) (i6 y11.Channel), ET y11.Channel ch, Qb z, Value.slice x.Ports.a x.Ports.xs.length x.Ports.cap = Value.slice (some ⟨b4, o5, none⟩) x.Ports.xs.length x.Ports.cap, ((j : Int) : Int) = ((j : Nat) : Int), j < x.Ports.xs.length, (none : Option Nat) = none, Old w b4 (o5 + j * 2 + 1) (.bool y11.Source), Value.bool b = Value.bool true, Value.bool ((y11.Source == true)) = Value.bool false, Wr (((j : Int) : Int) + 1) (((j + 1 : Nat) : Int))] [(1, i6 ch), (2, .bool b), (3, pt z), (qf8b_1 x j ch b), (qf8b_2 x), (qf8b_3 j)] rfl ⟨rfl, congrArg (fun a => Value.slice a _ _) ha6, rfl, (by omega), rfl, old_cell' (hc9 0 _ rfl), et (by omega), rfl, congrArg (fun a => Value.slice a _ _) ha6, rfl, (by omega), rfl, old_cell' (hc9 1 _ rfl), (congrArg Value.bool h15), by simp [h13], wrI, trivial⟩ ?_
           have hT := cnt_no (p := srcIs ch b) (show j < x.Ports.xs.length by omega) (by rw [← hy11]; exact src_f2 (by revert h13 h15; cases y11.Source <;> cases b <;> simp))
           refine e_keep [1, 2, 3, 7, 11, 12] [(1, i6 ch), (2, .bool b), (3, pt z), (qf8b_1 x j ch b), (qf8b_2 x), (qf8b_3 j)] ?_
           refine e_inv (fun a w' hs => ⟨x.Ports.xs.length - (j + 1), by omega, n2, (j + 1), rfl, by omega, by omega, by (try dsimp only [qf8b_0, qf8b_1, qf8b_2, qf8b_3] at hs ⊢); rw [hT]; exact hs⟩)
         · refine q_cS 10 0 [1] [[o0, ⟨.auto [.at 1], some (.slice (some ⟨b4, o5, none⟩) x.Ports.xs.length x.Ports.cap)⟩, o0, (oi j), o0, (oa [.via 0 (i6 y11.Channel)]), o0, oT, o0, o0, ⟨.auto [.at 1], some (.slice (some ⟨b4, o5, none⟩) x.Ports.xs.length x.Ports.cap)⟩, o0, (oi j), o0, (oa [.via 0 (.bool y11.Source)]), (ov (.bool false)), (ov (.bool true)), o0], [o0, (ov (i6 ((((x.Ports.xs.take j).countP (srcIs ch b)) + 1 : Nat) : Int))), o0], [(ov (i6 ((j + 1 : Nat) : Int))), o0]] [Qb z, Value.slice x.Ports.a x.Ports.xs.length x.Ports.cap = Value.slice (some ⟨b4, o5, none⟩) x.Ports.xs.length x.Ports.cap, ((j : Int) : Int) = ((j : Nat) : Int), j < x.Ports.xs.length, (none : Option Nat) = none, Old w b4 (o5 + j * 2) (i6 y11.Channel), ET y11.Channel ch, Qb z, Value.slice x.Ports.a x.Ports.xs.length x.Ports.cap = Value.slice (some ⟨b4, o5, none⟩) x.Ports.xs.length x.Ports.cap, ((j : Int) : Int) = ((j : Nat) : Int), j < x.Ports.xs.length, (none : Option Nat) = none, Old w b4 (o5 + j * 2 + 1) (.bool y11.Source), Value.bool b = Value.bool false, Value.bool ((y11.Source == false)) = Value.bool true, Wr (((((x.Ports.xs.take j).countP (srcIs ch b) : Nat) : Int) : Int) + 1) (((((x.Ports.xs.take j).countP (srcIs ch b)) + 1 : Nat) : Int)), Wr (((j : Int) : Int) + 1) (((j + 1 : Nat) : Int))] [(1, i6 ch), (2, .bool b), (3, pt z), (qf8b_0 x j ch b), (qf8b_2 x), (qf8b_3 j)] rfl ⟨rfl, congrArg (fun a => Value.slice a _ _) ha6, rfl, (by omega), rfl, old_cell' (hc9 0 _ rfl), et (by omega), rfl, congrArg (fun a => Value.slice a _ _) ha6, rfl, (by omega), rfl, old_cell' (hc9 1 _ rfl), (congrArg Value.bool (Bool.eq_false_iff.2 h15)), by simp [h13], wrI, wrI, trivial⟩ ?_
           have hT := cnt_yes (p := srcIs ch b) (show j < x.Ports.xs.length by omega) (by rw [← hy11]; exact src_t (by omega) (by revert h13 h15; cases y11.Source <;> cases b <;> simp))
           refine e_keep [1, 2, 3, 7, 11, 12] [(1, i6 ch), (2, .bool b), (3, pt z), (qf8b_0 x j ch b), (qf8b_2 x), (qf8b_3 j)] ?_
           refine e_inv (fun a w' hs => ⟨x.Ports.xs.length - (j + 1), by omega, n2, (j + 1), rfl, by omega, by omega, by (try dsimp only [qf8b_0, qf8b_1, qf8b_2, qf8b_3] at hs ⊢); rw [hT]; exact hs⟩)
     · refine q_cS 9 0 [0] [[o0, ⟨.auto [.at 1], some (.slice (some ⟨b4, o5, none⟩) x.Ports.xs.length x.Ports.cap)⟩, o0, (oi j), o0, (oa [.via 0 (i6 y11.Channel)]), o0, oF, o0, o0], [(ov (i6 ((j + 1 : Nat) : Int))), o0]] [Qb z, Value.slice x.Ports.a x.Ports.xs.length x.Ports.cap = Value.slice (some ⟨b4, o5, none⟩) x.Ports.xs.length x.Ports.cap, ((j : Int) : Int) = ((j : Nat) : Int), j < x.Ports.xs.length, (none : Option Nat) = none, Old w b4 (o5 + j * 2) (i6 y11.Channel), EF y11.Channel ch, Wr (((j : Int) : Int) + 1) (((j + 1 : Nat) : Int))] [(1, i6 ch), (2, .bool b), (3, pt z), (qf8b_1 x j ch b), (qf8b_2 x), (qf8b_3 j)] rfl ⟨rfl, congrArg (fun a => Value.slice a _ _) ha6, rfl, (by omega), rfl, old_cell' (hc9 0 _ rfl), ef (by omega), wrI, trivial⟩ ?_
       have hT := cnt_no (p := srcIs ch b) (show j < x.Ports.xs.length by omega) (by rw [← hy11]; exact src_f1 (by omega))
       refine e_keep [1, 2, 3, 7, 11, 12] [(1, i6 ch), (2, .bool b), (3, pt z), (qf8b_1 x j ch b), (qf8b_2 x), (qf8b_3 j)] ?_
       refine e_inv (fun a w' hs => ⟨x.Ports.xs.length - (j + 1), by omega, n2, (j + 1), rfl, by omega, by omega, by (try dsimp only [qf8b_0, qf8b_1, qf8b_2, qf8b_3] at hs ⊢); rw [hT]; exact hs⟩)
   · refine q_cS 15 0 [0] [[oF], [o0, o0]] [BF (((j : Int) : Int) < ((x.Ports.xs.length : Nat) : Int))] [(6, i6 (((x.Ports.xs.take j).countP (srcIs ch b) : Nat) : Int))] rfl ⟨bf (by omega), trivial⟩ ?_
     refine e_ret [] [] (i6 (((x.Ports.xs.take j).countP (srcIs ch b) : Nat) : Int)) trivial ?_
     intro w16 hw16
     refine ⟨congrArg (fun n => Ending.returned (i6 n)) (?_ : ((((x.Ports.xs.take j).countP (srcIs ch b) : Nat) : Int) : Int) = (endsN x ch b : Int)), back0 hw16⟩
     rw [show j = x.Ports.xs.length by omega, List.take_length]; rfl

end Go.Proofs.YtnjhekfgmbpmlaaDoor.Ly
