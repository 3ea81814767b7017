/- admit: region. No conditions. -/
import Derived.Test.YtnjhekfgmbpmlaaDoorAc
namespace Go.Proofs.YtnjhekfgmbpmlaaDoor.Ad
open Go Go.Proofs.YtnjhekfgmbpmlaaDoor.Eng Go.Proofs.YtnjhekfgmbpmlaaDoor.Mem Go.Proofs.YtnjhekfgmbpmlaaDoor.Ly
set_option linter.unusedSimpArgs false
set_option linter.unusedVariables false
set_option maxRecDepth 100000

def Bd (g : TRegion) : Prop := (0 ≤ g.Page ∧ g.Page ≤ 255) ∧ (1 ≤ g.Pages ∧ g.Pages ≤ 256) ∧ (0 ≤ g.Frame ∧ g.Frame ≤ 1024)
def regB (c : TConfig) (g : TRegion) : Bool := win g.Page 0 255 && win g.Pages 1 (256 - g.Page) && decide (0 ≤ g.Frame) && decide (g.Pages ≤ c.Frames - g.Frame) && win g.Rights 1 7
def pagB (c : TConfig) (p k i : Nat) : Bool := meet (regC c p k).Page (regC c p k).Pages (regC c p i).Page (regC c p i).Pages
def frmB (c : TConfig) (p k q n : Nat) : Bool := (decide (q < p) || decide (n < k)) && meet (regC c p k).Frame (regC c p k).Pages (regC c q n).Frame (regC c q n).Pages
def frmQ (c : TConfig) (p k q : Nat) : Bool := (List.range (parC c q).Regions.xs.length).any (frmB c p k q)
def regQ (c : TConfig) (p k : Nat) : Tfound := if regB c (regC c p k) = false then ⟨409, ⟨p, k⟩⟩ else if (List.range k).any (pagB c p k) = true then ⟨410, ⟨p, k⟩⟩ else if (List.range (p + 1)).any (frmQ c p k) = true then ⟨411, ⟨p, k⟩⟩ else fineF
theorem regQ_a {c : TConfig} {p k : Nat} (h : regB c (regC c p k) = false) : regQ c p k = ⟨409, ⟨p, k⟩⟩ := by unfold regQ; rw [if_pos h]
theorem regQ_b {c : TConfig} {p k : Nat} (h : regB c (regC c p k) = true) (h2 : (List.range k).any (pagB c p k) = true) : regQ c p k = ⟨410, ⟨p, k⟩⟩ := by unfold regQ; rw [if_neg (by simp [h]), if_pos h2]
theorem regQ_c {c : TConfig} {p k : Nat} (h : regB c (regC c p k) = true) (h2 : (List.range k).any (pagB c p k) = false) (h3 : (List.range (p + 1)).any (frmQ c p k) = true) : regQ c p k = ⟨411, ⟨p, k⟩⟩ := by unfold regQ; rw [if_neg (by simp [h]), if_neg (by simp [h2]), if_pos h3]
theorem regQ_d {c : TConfig} {p k : Nat} (h : regB c (regC c p k) = true) (h2 : (List.range k).any (pagB c p k) = false) (h3 : (List.range (p + 1)).any (frmQ c p k) = false) : regQ c p k = fineF := by unfold regQ; rw [if_neg (by simp [h]), if_neg (by simp [h2]), if_neg (by simp [h3])]
theorem regB_bd {c : TConfig} {g : TRegion} (hF : c.Frames ≤ 1024) (h : regB c g = true) : Bd g := by
  unfold regB win at h; simp at h; unfold Bd; omega
theorem regQ_fine {c : TConfig} {p k : Nat} (h : regQ c p k = fineF) : regB c (regC c p k) = true := by
  by_cases hb : regB c (regC c p k) = false
  · rw [regQ_a hb] at h; exact absurd (congrArg Tfound.e h) (by decide : ¬ (409 : Int) = 0)
  · simpa using hb
abbrev q9ef_0 (z : Nat) (p : Nat) (k : Nat) : Ch := bk (z + 1) #[i6 409, i6 (p : Int), i6 (k : Int)] 73
abbrev q9ef_1 (z : Nat) : Ch := bk (z + 1) #[i6 0, i6 0, i6 0] 73
abbrev q9ef_2 (z : Nat) (y16 : TRegion) : Ch := bk (z + 2) (TRegion.arr y16) 49
abbrev q9ef_3 (n51 : Nat) (y55 : TPartition) : Ch := bk n51 (TPartition.arr y55) 41
abbrev q9ef_4 (z : Nat) (c : TConfig) : Ch := bk z (TConfig.arr c) 26
abbrev q9ef_5 (b59 : Nat) (o60 : Nat) (y55 : TPartition) : Nat × Value := (100, .slice (some ⟨b59, o60, none⟩) y55.Regions.xs.length y55.Regions.cap)
abbrev q9ef_6 (b1 : Nat) (o2 : Nat) (p : Nat) (c : TConfig) : Nat × Value := (92, .slice (some ⟨b1, o2, none⟩) (p + 1 - 0) (c.Partitions.cap - 0))
abbrev q9ef_7 (y55 : TPartition) : Nat × Value := (100, .slice y55.Regions.a y55.Regions.xs.length y55.Regions.cap)
abbrev q9ef_8 (b9 : Nat) (o10 : Nat) (k : Nat) (y8 : TPartition) : Nat × Value := (68, .slice (some ⟨b9, o10, none⟩) (k - 0) (y8.Regions.cap - 0))
abbrev q9ef_9 (y55 : TPartition) : Nat × Value := (101, i6 ((y55.Regions.xs.length : Nat) : Int))
abbrev q9ef_10 (p : Nat) : Nat × Value := (93, i6 ((p + 1 - 0 : Nat) : Int))
abbrev q9ef_11 (n : Nat) : Nat × Value := (102, i6 ((n + 1 : Nat) : Int))
abbrev q9ef_12 (z : Nat) : Nat × Value := (6, pt (z + 1))
abbrev q9ef_13 (z : Nat) : Nat × Value := (7, pt (z + 2))
abbrev q9ef_14 (k : Nat) : Nat × Value := (69, i6 ((k - 0 : Nat) : Int))
abbrev q9ef_15 (w : World) (z : Nat) (c : TConfig) (y16 : TRegion) (n51 : Nat) (y55 : TPartition) : List Ch := [(old0 w), (q9ef_4 z c), (q9ef_1 z), (q9ef_2 z y16), (q9ef_3 n51 y55)]
theorem region_calls (w : World) (hL : LaidAt w) (c : TConfig) (hc : TConfig.ok Any w c) (p k : Nat) (hp : p < c.Partitions.xs.length) (hk : k < (gd c.Partitions.xs p).Regions.xs.length) (hFr : 1 ≤ c.Frames ∧ c.Frames ≤ 1024) (hb : ∀ q n, q ≤ p → n < (gd c.Partitions.xs q).Regions.xs.length → (q < p ∨ n < k) → Bd (regC c q n)) : Calls Tryd.prog 68 #[.agg (TConfig.arr c), .int .i64 (p : Int), .int .i64 (k : Int)] w fun e w' => e = .returned (.agg (Tfound.arr (regQ c p k))) ∧ Keeps (fun _ => False) w w' := by
 obtain ⟨z, hz⟩ : ∃ z, z = w.heap.size := ⟨_, rfl⟩
 refine calls_G (args := [.agg (TConfig.arr c), i6 (p : Int), i6 (k : Int)]) 133 ⟨w, z, [(old0 w)]⟩ Tryd.func68 rfl (by kernel_rfl) (by kernel_rfl) (sat_0 hz) ?_
 have hpl := hc.Partitions.1.len; have hpc := hc.Partitions.1.le; have hrl := (hc.Partitions.2 p hp).Regions.1.len; have hrc := (hc.Partitions.2 p hp).Regions.1.le
 refine g_keep [0, 1, 2] [(0, .agg (TConfig.arr c)), (1, i6 (p : Int)), (2, i6 (k : Int))] ?_
 refine q_c 5 0 [] [[o0, o0]] [] [(1, i6 (p : Int)), (2, i6 (k : Int)), (3, pt z), (q9ef_12 z)] ⟨w, z + 2, [(old0 w), (q9ef_4 z c), (q9ef_1 z)]⟩ rfl trivial ?_
 obtain ⟨b1, o2, ha3, hF5, hc4⟩ := (hc.Partitions).1.all (show 0 < c.Partitions.xs.length by omega)
 replace ha3 : c.Partitions.a = some ⟨b1, o2, none⟩ := ha3
 have hc6 := hc4 p (show p < c.Partitions.xs.length by omega)
 have he7 := (hc.Partitions).2 p (show p < c.Partitions.xs.length by omega)
 obtain ⟨y8, hy8⟩ : ∃ y_, y_ = gd c.Partitions.xs p := ⟨_, rfl⟩
 rw [← hy8] at he7 hc6
 (try rw [← hy8] at hk hrl hrc)
 obtain ⟨b9, o10, ha11, hF13, hc12⟩ := (he7.Regions).1.all (show 0 < y8.Regions.xs.length by omega)
 replace ha11 : y8.Regions.a = some ⟨b9, o10, none⟩ := ha11
 have hc14 := hc12 k (show k < y8.Regions.xs.length by omega)
 have he15 := (he7.Regions).2 k (show k < y8.Regions.xs.length by omega)
 obtain ⟨y16, hy16⟩ : ∃ y_, y_ = gd y8.Regions.xs k := ⟨_, rfl⟩
 rw [← hy16] at he15 hc14
 have hfy16 : (-9223372036854775808 : Int) ≤ y16.Frame ∧ y16.Frame ≤ 9223372036854775807 := he15.Frame
 refine q_c 6 2 [] [[o0, ⟨.auto [.at 1], some (.slice (some ⟨b1, o2, none⟩) c.Partitions.xs.length c.Partitions.cap)⟩, o0, (oi p), o0, ⟨.auto [.via 0 (.slice y8.Regions.a y8.Regions.xs.length y8.Regions.cap)], some (.slice (some ⟨b9, o10, none⟩) y8.Regions.xs.length y8.Regions.cap)⟩, o0, (oi k), (ol 0 (TRegion.arr y16)), o0, (an 4 3)], [o0, (a1 3)]] [Qb z, Value.slice c.Partitions.a c.Partitions.xs.length c.Partitions.cap = Value.slice (some ⟨b1, o2, none⟩) c.Partitions.xs.length c.Partitions.cap, ((p : Int) : Int) = ((p : Nat) : Int), p < c.Partitions.xs.length, (none : Option Nat) = none, Old w b1 (o2 + p * 8 + 6) (.slice y8.Regions.a y8.Regions.xs.length y8.Regions.cap), Value.slice y8.Regions.a y8.Regions.xs.length y8.Regions.cap = Value.slice (some ⟨b9, o10, none⟩) y8.Regions.xs.length y8.Regions.cap, ((k : Int) : Int) = ((k : Nat) : Int), k < y8.Regions.xs.length, (none : Option Nat) = none, OldR w b9 (o10 + k * 4) (TRegion.arr y16), Qb (z + 2), Qb (z + 2), Qb (z + 2), Qb (z + 2), Qb (z + 2)] [(1, i6 (p : Int)), (2, i6 (k : Int)), (3, pt z), (q9ef_12 z), (q9ef_13 z), (24, i6 y16.Page)] ⟨w, z + 3, [(old0 w), (q9ef_4 z c), (q9ef_1 z), (q9ef_2 z y16)]⟩ rfl ⟨rfl, congrArg (fun a => Value.slice a _ _) ha3, rfl, (by omega), rfl, old_cell' (hc6 6 _ rfl), congrArg (fun a => Value.slice a _ _) ha11, rfl, (by omega), rfl, old_row hc14, rfl, rfl, rfl, rfl, rfl, trivial⟩ ?_
 refine l_call [] [] 42 #[i6 y16.Page, i6 0, i6 255] (some 25) trivial ?_
 intro w17 hw17
 refine (within_calls w17 y16.Page 0 255).mono ?_
 rintro e w18 ⟨rfl, hkw18⟩
 have hnw18 : z + 3 ≤ w18.heap.size := size_of hw17 hkw18
 refine ⟨_, _, rfl, hw17.keeps hkw18, ?_⟩
 refine l_keep [1, 2, 3, 6, 7, 25] [(1, i6 (p : Int)), (2, i6 (k : Int)), (3, pt z), (q9ef_12 z), (q9ef_13 z), (25, .bool (win y16.Page 0 255))] ?_
 by_cases h19 : (win y16.Page 0 255) = true
 · have hd20 := win_yes h19
   refine q_rS 0 7 [] [[(ov (.bool false)), o0, o0, (a1 3), o0, (a1 3), (ov (i6 (256 - y16.Page)))]] [Value.bool (!(win y16.Page 0 255)) = Value.bool false, Qb (z + 2), Qb (z + 2), Wr ((256 : Int) - y16.Page) (256 - y16.Page)] [(1, i6 (p : Int)), (2, i6 (k : Int)), (3, pt z), (q9ef_12 z), (q9ef_13 z), (27, .bool false), (29, i6 y16.Pages), (32, i6 (256 - y16.Page))] rfl ⟨by simp [h19], rfl, rfl, wrI, trivial⟩ ?_
   refine l_call [] [] 42 #[i6 y16.Pages, i6 1, i6 (256 - y16.Page)] (some 33) trivial ?_
   intro w21 hw21
   refine (within_calls w21 y16.Pages 1 (256 - y16.Page)).mono ?_
   rintro e w22 ⟨rfl, hkw22⟩
   have hnw22 : w18.heap.size ≤ w22.heap.size := size_of hw21 hkw22
   refine ⟨_, _, rfl, hw21.keeps hkw22, ?_⟩
   refine l_keep [1, 2, 3, 6, 7, 27, 33] [(1, i6 (p : Int)), (2, i6 (k : Int)), (3, pt z), (q9ef_12 z), (q9ef_13 z), (27, .bool false), (33, .bool (win y16.Pages 1 (256 - y16.Page)))] ?_
   by_cases h23 : (win y16.Pages 1 (256 - y16.Page)) = true
   · have hd24 := win_yes h23
     by_cases h25 : (y16.Frame : Int) < 0
     · refine q_rS 5 2 [1] [[(ov (.bool false)), o0, o0, o0, (a1 3), oT, o0, o0, o0, o0, o0], [o0, o0]] [Value.bool (!(win y16.Pages 1 (256 - y16.Page))) = Value.bool false, Qb (z + 2), BT ((y16.Frame : Int) < 0)] [(q9ef_12 z), (57, i6 (p : Int)), (58, i6 (k : Int))] rfl ⟨by simp [h23], rfl, bt (by omega), trivial⟩ ?_
       refine l_call [] [] 70 #[i6 (p : Int), i6 (k : Int)] (some 59) trivial ?_
       intro w26 hw26
       refine (both_calls w26 (p : Int) (k : Int)).mono ?_
       rintro e w27 ⟨rfl, hkw27⟩
       have hnw27 : w22.heap.size ≤ w27.heap.size := size_of hw26 hkw27
       refine ⟨_, _, rfl, hw26.keeps hkw27, ?_⟩
       refine q_r 3 0 [] [[o0, (an 3 2)]] [Qb (z + 1), Qb (z + 1), Qb (z + 1)] [(q9ef_12 z)] ⟨w, w27.heap.size, [(old0 w), (q9ef_4 z c), (q9ef_0 z p k), (q9ef_2 z y16)]⟩ rfl ⟨rfl, rfl, rfl, trivial⟩ ?_
       refine e_ret [.at 2, .at 2, .at 2] [Qb (z + 1), Qb (z + 1), Qb (z + 1)] (.agg #[i6 409, i6 (p : Int), i6 (k : Int)]) ⟨rfl, rfl, rfl, trivial⟩ ?_
       intro w28 hw28
       refine ⟨congrArg Ending.returned (?_ : Value.agg #[i6 409, i6 (p : Int), i6 (k : Int)] = .agg (Tfound.arr (regQ c p k))), back0 hw28⟩
       have hq : regQ c p k = _ := regQ_a (by have ek : regC c p k = y16 := (by dsimp only [regC]; rw [← hy8, ← hy16]); rw [ek]; unfold regB win; simp; omega)
       exact (congrArg (fun t => Value.agg (Tfound.arr t)) hq).symm
     · by_cases h29 : (c.Frames - y16.Frame : Int) < y16.Pages
       · refine q_rS 5 2 [1] [[(ov (.bool false)), o0, o0, o0, (a1 3), oF, o0, o0, o0, (a1 3), o0, (a1 1), o0, (a1 3), (ov (i6 (c.Frames - y16.Frame))), oT, o0, o0, o0], [o0, o0]] [Value.bool (!(win y16.Pages 1 (256 - y16.Page))) = Value.bool false, Qb (z + 2), BF ((y16.Frame : Int) < 0), Qb (z + 2), Qb z, Qb (z + 2), Wr ((c.Frames : Int) - y16.Frame) (c.Frames - y16.Frame), BT ((y16.Pages : Int) > (c.Frames - y16.Frame))] [(q9ef_12 z), (57, i6 (p : Int)), (58, i6 (k : Int))] rfl ⟨by simp [h23], rfl, bf (by omega), rfl, rfl, rfl, wrI, bt (by omega), trivial⟩ ?_
         refine l_call [] [] 70 #[i6 (p : Int), i6 (k : Int)] (some 59) trivial ?_
         intro w30 hw30
         refine (both_calls w30 (p : Int) (k : Int)).mono ?_
         rintro e w31 ⟨rfl, hkw31⟩
         have hnw31 : w22.heap.size ≤ w31.heap.size := size_of hw30 hkw31
         refine ⟨_, _, rfl, hw30.keeps hkw31, ?_⟩
         refine q_r 3 0 [] [[o0, (an 3 2)]] [Qb (z + 1), Qb (z + 1), Qb (z + 1)] [(q9ef_12 z)] ⟨w, w31.heap.size, [(old0 w), (q9ef_4 z c), (q9ef_0 z p k), (q9ef_2 z y16)]⟩ rfl ⟨rfl, rfl, rfl, trivial⟩ ?_
         refine e_ret [.at 2, .at 2, .at 2] [Qb (z + 1), Qb (z + 1), Qb (z + 1)] (.agg #[i6 409, i6 (p : Int), i6 (k : Int)]) ⟨rfl, rfl, rfl, trivial⟩ ?_
         intro w32 hw32
         refine ⟨congrArg Ending.returned (?_ : Value.agg #[i6 409, i6 (p : Int), i6 (k : Int)] = .agg (Tfound.arr (regQ c p k))), back0 hw32⟩
         have hq : regQ c p k = _ := regQ_a (by have ek : regC c p k = y16 := (by dsimp only [regC]; rw [← hy8, ← hy16]); rw [ek]; unfold regB win; simp; omega)
         exact (congrArg (fun t => Value.agg (Tfound.arr t)) hq).symm
       · refine q_rS 0 20 [] [[(ov (.bool false)), o0, o0, o0, (a1 3), oF, o0, o0, o0, (a1 3), o0, (a1 1), o0, (a1 3), (ov (i6 (c.Frames - y16.Frame))), oF, o0, o0, o0, (a1 3)]] [Value.bool (!(win y16.Pages 1 (256 - y16.Page))) = Value.bool false, Qb (z + 2), BF ((y16.Frame : Int) < 0), Qb (z + 2), Qb z, Qb (z + 2), Wr ((c.Frames : Int) - y16.Frame) (c.Frames - y16.Frame), BF ((y16.Pages : Int) > (c.Frames - y16.Frame)), Qb (z + 2)] [(1, i6 (p : Int)), (2, i6 (k : Int)), (3, pt z), (q9ef_12 z), (q9ef_13 z), (51, .bool false), (53, i6 y16.Rights)] rfl ⟨by simp [h23], rfl, bf (by omega), rfl, rfl, rfl, wrI, bf (by omega), rfl, trivial⟩ ?_
         refine l_call [] [] 42 #[i6 y16.Rights, i6 1, i6 7] (some 54) trivial ?_
         intro w33 hw33
         refine (within_calls w33 y16.Rights 1 7).mono ?_
         rintro e w34 ⟨rfl, hkw34⟩
         have hnw34 : w22.heap.size ≤ w34.heap.size := size_of hw33 hkw34
         refine ⟨_, _, rfl, hw33.keeps hkw34, ?_⟩
         refine l_keep [1, 2, 3, 6, 7, 51, 54] [(1, i6 (p : Int)), (2, i6 (k : Int)), (3, pt z), (q9ef_12 z), (q9ef_13 z), (51, .bool false), (54, .bool (win y16.Rights 1 7))] ?_
         by_cases h35 : (win y16.Rights 1 7) = true
         · have hd36 := win_yes h35
           refine q_rS 11 0 [0] [[(ov (.bool false)), o0], [o0, ⟨.auto [.at 1], some (.slice (some ⟨b1, o2, none⟩) c.Partitions.xs.length c.Partitions.cap)⟩, o0, (oi p), o0, ⟨.auto [.via 0 (.slice y8.Regions.a y8.Regions.xs.length y8.Regions.cap)], some (.slice (some ⟨b9, o10, none⟩) y8.Regions.xs.length y8.Regions.cap)⟩, o0, ⟨.slc 0 k false, none⟩, o0, o0]] [Value.bool (!(win y16.Rights 1 7)) = Value.bool false, Qb z, Value.slice c.Partitions.a c.Partitions.xs.length c.Partitions.cap = Value.slice (some ⟨b1, o2, none⟩) c.Partitions.xs.length c.Partitions.cap, ((p : Int) : Int) = ((p : Nat) : Int), p < c.Partitions.xs.length, (none : Option Nat) = none, Old w b1 (o2 + p * 8 + 6) (.slice y8.Regions.a y8.Regions.xs.length y8.Regions.cap), Value.slice y8.Regions.a y8.Regions.xs.length y8.Regions.cap = Value.slice (some ⟨b9, o10, none⟩) y8.Regions.xs.length y8.Regions.cap, (0 : Int) = ((0 : Nat) : Int), ((k : Int) : Int) = ((k : Nat) : Int), 0 ≤ k, k ≤ y8.Regions.cap, y8.Regions.cap = 0 ∨ (0 : Nat) = 0] [(1, i6 (p : Int)), (2, i6 (k : Int)), (3, pt z), (q9ef_12 z), (q9ef_13 z), (q9ef_8 b9 o10 k y8), (q9ef_14 k), (70, i6 0)] rfl ⟨by simp [h35], rfl, congrArg (fun a => Value.slice a _ _) ha3, rfl, (by omega), rfl, old_cell' (hc6 6 _ rfl), congrArg (fun a => Value.slice a _ _) ha11, rfl, rfl, (by omega), (by omega), .inr rfl, trivial⟩ ?_
           refine g_loop (fun m a w' => ∃ (n38 : Nat) (i : Nat), m = k - i ∧ w34.heap.size ≤ n38 ∧ (i ≤ k) ∧ (∀ a, a < i → pagB c p k a = false) ∧ St 133 [(1, i6 (p : Int)), (2, i6 (k : Int)), (3, pt z), (q9ef_12 z), (q9ef_13 z), (q9ef_8 b9 o10 k y8), (q9ef_14 k), (70, i6 (i : Int))] [] ⟨w, n38, [(old0 w), (q9ef_4 z c), (q9ef_1 z), (q9ef_2 z y16)]⟩ a w') (k - 0) ?_ ?_
           · intro a w' hs; exact ⟨w34.heap.size, 0, rfl, Nat.le_refl _, Nat.zero_le _, fun i hi => absurd hi (Nat.not_lt_zero i), hs⟩
           · rintro m a w' ⟨n38, i, rfl, hn37, hki, hf, hs⟩
             refine (?_ : G Tryd.prog 133 [(1, i6 (p : Int)), (2, i6 (k : Int)), (3, pt z), (q9ef_12 z), (q9ef_13 z), (q9ef_8 b9 o10 k y8), (q9ef_14 k), (70, i6 (i : Int))] [] ⟨w, n38, [(old0 w), (q9ef_4 z c), (q9ef_1 z), (q9ef_2 z y16)]⟩ _ _ _) a w' hs
             clear hs a w'
             have hbb : regB c (regC c p k) = true := (by have ek : regC c p k = y16 := (by dsimp only [regC]; rw [← hy8, ← hy16]); rw [ek]; unfold regB win; simp; omega)
             refine g_seq ?_
             by_cases h39 : ((i : Int) : Int) < ((k - 0 : Nat) : Int)
             · refine q_cS 10 0 [1] [[oT]] [BT (((i : Int) : Int) < ((k - 0 : Nat) : Int))] [(1, i6 (p : Int)), (2, i6 (k : Int)), (3, pt z), (q9ef_12 z), (q9ef_13 z), (q9ef_8 b9 o10 k y8), (q9ef_14 k), (70, i6 (i : Int)), (71, .bool true)] rfl ⟨bt (by omega), trivial⟩ ?_
               have hc40 := hc12 i (show i < y8.Regions.xs.length by omega)
               have he41 := (he7.Regions).2 i (show i < y8.Regions.xs.length by omega)
               obtain ⟨y42, hy42⟩ : ∃ y_, y_ = gd y8.Regions.xs i := ⟨_, rfl⟩
               rw [← hy42] at he41 hc40
               have hfy42 : (-9223372036854775808 : Int) ≤ y42.Frame ∧ y42.Frame ≤ 9223372036854775807 := he41.Frame
               refine q_c 5 8 [] [[(oi i), (ol 0 (TRegion.arr y42)), o0, (an 4 4)], [o0, (a1 3), o0, (a1 3), o0, (a1 4), o0, (a1 4)]] [((i : Int) : Int) = ((i : Nat) : Int), i < k - 0, (none : Option Nat) = none, OldR w b9 (o10 + i * 4) (TRegion.arr y42), Qb n38, Qb n38, Qb n38, Qb n38, Qb (z + 2), Qb (z + 2), Qb n38, Qb n38] [(1, i6 (p : Int)), (2, i6 (k : Int)), (3, pt z), (q9ef_12 z), (q9ef_13 z), (q9ef_8 b9 o10 k y8), (q9ef_14 k), (70, i6 (i : Int)), (75, i6 y16.Page), (77, i6 y16.Pages), (79, i6 y42.Page), (81, i6 y42.Pages)] ⟨w, n38 + 1, [(old0 w), (q9ef_4 z c), (q9ef_1 z), (q9ef_2 z y16), (bk n38 (TRegion.arr y42) 49)]⟩ rfl ⟨rfl, (by omega), rfl, old_row hc40, rfl, rfl, rfl, rfl, rfl, rfl, rfl, rfl, trivial⟩ ?_
               refine l_call [] [] 73 #[i6 y16.Page, i6 y16.Pages, i6 y42.Page, i6 y42.Pages] (some 82) trivial ?_
               intro w43 hw43
               have hm45 := hb p i (by omega) (by rw [← hy8]; omega) (by omega); dsimp only [regC] at hm45; rw [← hy8, ← hy42] at hm45; unfold Bd at hm45
               refine (meet_calls w43 y16.Page y16.Pages y42.Page y42.Pages (by omega) (by omega) (by omega) (by omega)).mono ?_
               rintro e w44 ⟨rfl, hkw44⟩
               have hnw44 : n38 + 1 ≤ w44.heap.size := size_of hw43 hkw44
               refine ⟨_, _, rfl, hw43.keeps hkw44, ?_⟩
               refine l_keep [1, 2, 3, 6, 7, 68, 69, 70, 82] [(1, i6 (p : Int)), (2, i6 (k : Int)), (3, pt z), (q9ef_12 z), (q9ef_13 z), (q9ef_8 b9 o10 k y8), (q9ef_14 k), (70, i6 (i : Int)), (82, .bool (meet y16.Page y16.Pages y42.Page y42.Pages))] ?_
               refine l_nil (by kernel_rfl) ?_
               refine e_seq ?_
               by_cases h46 : (meet y16.Page y16.Pages y42.Page y42.Pages) = true
               · refine q_cS 3 2 [3] [[o0, o0]] [Value.bool (meet y16.Page y16.Pages y42.Page y42.Pages) = Value.bool true] [(q9ef_12 z), (83, i6 (p : Int)), (84, i6 (k : Int))] rfl ⟨(congrArg Value.bool h46), trivial⟩ ?_
                 refine l_call [] [] 70 #[i6 (p : Int), i6 (k : Int)] (some 85) trivial ?_
                 intro w47 hw47
                 refine (both_calls w47 (p : Int) (k : Int)).mono ?_
                 rintro e w48 ⟨rfl, hkw48⟩
                 have hnw48 : w44.heap.size ≤ w48.heap.size := size_of hw47 hkw48
                 refine ⟨_, _, rfl, hw47.keeps hkw48, ?_⟩
                 refine q_r 3 0 [] [[o0, (an 3 2)]] [Qb (z + 1), Qb (z + 1), Qb (z + 1)] [(q9ef_12 z)] ⟨w, w48.heap.size, [(old0 w), (q9ef_4 z c), (bk (z + 1) #[i6 410, i6 (p : Int), i6 (k : Int)] 73), (q9ef_2 z y16), (bk n38 (TRegion.arr y42) 49)]⟩ rfl ⟨rfl, rfl, rfl, trivial⟩ ?_
                 refine e_ret [.at 2, .at 2, .at 2] [Qb (z + 1), Qb (z + 1), Qb (z + 1)] (.agg #[i6 410, i6 (p : Int), i6 (k : Int)]) ⟨rfl, rfl, rfl, trivial⟩ ?_
                 intro w49 hw49
                 refine ⟨congrArg Ending.returned (?_ : Value.agg #[i6 410, i6 (p : Int), i6 (k : Int)] = .agg (Tfound.arr (regQ c p k))), back0 hw49⟩
                 have hq : regQ c p k = _ := regQ_b hbb (range_any (k := i) (by omega) (by have ek : regC c p k = y16 := (by dsimp only [regC]; rw [← hy8, ← hy16]); have ei : regC c p i = y42 := (by dsimp only [regC]; rw [← hy8, ← hy42]); unfold pagB; rw [ek, ei]; exact h46))
                 exact (congrArg (fun t => Value.agg (Tfound.arr t)) hq).symm
               · refine q_cS 6 0 [2] [[(ov (i6 ((i + 1 : Nat) : Int))), o0]] [Value.bool (meet y16.Page y16.Pages y42.Page y42.Pages) = Value.bool false, Wr (((i : Int) : Int) + 1) (((i + 1 : Nat) : Int))] [(1, i6 (p : Int)), (2, i6 (k : Int)), (3, pt z), (q9ef_12 z), (q9ef_13 z), (q9ef_8 b9 o10 k y8), (q9ef_14 k), (70, i6 ((i + 1 : Nat) : Int))] rfl ⟨(congrArg Value.bool (Bool.eq_false_iff.2 h46)), wrI, trivial⟩ ?_
                 refine e_pick [0, 1, 2, 3] [(old0 w), (q9ef_4 z c), (q9ef_1 z), (q9ef_2 z y16)] rfl rfl ?_
                 refine e_keep [1, 2, 3, 6, 7, 68, 69, 70] [(1, i6 (p : Int)), (2, i6 (k : Int)), (3, pt z), (q9ef_12 z), (q9ef_13 z), (q9ef_8 b9 o10 k y8), (q9ef_14 k), (70, i6 ((i + 1 : Nat) : Int))] ?_
                 refine e_inv (fun a w' hs => ⟨k - (i + 1), by omega, w44.heap.size, (i + 1), rfl, by omega, by omega, upto_ hf (by have ek : regC c p k = y16 := (by dsimp only [regC]; rw [← hy8, ← hy16]); have ei : regC c p i = y42 := (by dsimp only [regC]; rw [← hy8, ← hy42]); unfold pagB; rw [ek, ei]; simpa using h46), hs⟩)
             · refine q_cS 16 0 [0] [[oF], [o0, ⟨.auto [.at 1], some (.slice (some ⟨b1, o2, none⟩) c.Partitions.xs.length c.Partitions.cap)⟩, o0, (ov (i6 ((p + 1 : Nat) : Int))), ⟨.slc 0 (p + 1) false, none⟩, o0, o0]] [BF (((i : Int) : Int) < ((k - 0 : Nat) : Int)), Qb z, Value.slice c.Partitions.a c.Partitions.xs.length c.Partitions.cap = Value.slice (some ⟨b1, o2, none⟩) c.Partitions.xs.length c.Partitions.cap, Wr (((p : Int) : Int) + 1) (((p + 1 : Nat) : Int)), (0 : Int) = ((0 : Nat) : Int), (((p + 1 : Nat) : Int) : Int) = ((p + 1 : Nat) : Int), 0 ≤ p + 1, p + 1 ≤ c.Partitions.cap, c.Partitions.cap = 0 ∨ (0 : Nat) = 0] [(1, i6 (p : Int)), (2, i6 (k : Int)), (q9ef_12 z), (q9ef_13 z), (q9ef_6 b1 o2 p c), (q9ef_10 p), (94, i6 0)] rfl ⟨bf (by omega), rfl, congrArg (fun a => Value.slice a _ _) ha3, wrI, rfl, rfl, (by omega), (by omega), .inr rfl, trivial⟩ ?_
               refine g_loop (fun m a w' => ∃ (n51 : Nat) (q : Nat), m = p + 1 - q ∧ n38 ≤ n51 ∧ (q ≤ p + 1) ∧ (∀ a, a < q → frmQ c p k a = false) ∧ St 133 [(1, i6 (p : Int)), (2, i6 (k : Int)), (q9ef_12 z), (q9ef_13 z), (q9ef_6 b1 o2 p c), (q9ef_10 p), (94, i6 (q : Int))] [] ⟨w, n51, [(old0 w), (q9ef_4 z c), (q9ef_1 z), (q9ef_2 z y16)]⟩ a w') (p + 1 - 0) ?_ ?_
               · intro a w' hs; exact ⟨n38, 0, rfl, Nat.le_refl _, Nat.zero_le _, fun i hi => absurd hi (Nat.not_lt_zero i), hs⟩
               · rintro m a w' ⟨n51, q, rfl, hn50, hkq, hg, hs⟩
                 refine (?_ : G Tryd.prog 133 [(1, i6 (p : Int)), (2, i6 (k : Int)), (q9ef_12 z), (q9ef_13 z), (q9ef_6 b1 o2 p c), (q9ef_10 p), (94, i6 (q : Int))] [] ⟨w, n51, [(old0 w), (q9ef_4 z c), (q9ef_1 z), (q9ef_2 z y16)]⟩ _ _ _) a w' hs
                 clear hs a w'
                 have hf0 : (List.range k).any (pagB c p k) = false := range_none (fun a ha => hf a (by omega))
                 refine g_seq ?_
                 by_cases h52 : ((q : Int) : Int) < ((p + 1 - 0 : Nat) : Int)
                 · refine q_cS 10 0 [1] [[oT]] [BT (((q : Int) : Int) < ((p + 1 - 0 : Nat) : Int))] [(1, i6 (p : Int)), (2, i6 (k : Int)), (q9ef_12 z), (q9ef_13 z), (q9ef_6 b1 o2 p c), (q9ef_10 p), (94, i6 (q : Int)), (95, .bool true)] rfl ⟨bt (by omega), trivial⟩ ?_
                   have hc53 := hc4 q (show q < c.Partitions.xs.length by omega)
                   have he54 := (hc.Partitions).2 q (show q < c.Partitions.xs.length by omega)
                   obtain ⟨y55, hy55⟩ : ∃ y_, y_ = gd c.Partitions.xs q := ⟨_, rfl⟩
                   rw [← hy55] at he54 hc53
                   (try rw [← hy55] at hk hrl hrc)
                   refine q_c 8 0 [] [[o0, (oi q), (ol 0 (TPartition.arr y55)), o0, o0, (an 8 4)], [o0, (a1 4), o0, o0]] [((q : Int) : Int) = ((q : Nat) : Int), q < p + 1 - 0, (none : Option Nat) = none, OldR w b1 (o2 + q * 8) (TPartition.arr y55), Qb n51, Qb n51, Qb n51, Qb n51, Qb n51, Qb n51, Qb n51, Qb n51, Qb n51] [(1, i6 (p : Int)), (2, i6 (k : Int)), (q9ef_12 z), (q9ef_13 z), (10, i6 (q : Int)), (q9ef_6 b1 o2 p c), (q9ef_10 p), (94, i6 (q : Int)), (q9ef_7 y55), (q9ef_9 y55), (102, i6 0)] ⟨w, n51 + 1, (q9ef_15 w z c y16 n51 y55)⟩ rfl ⟨rfl, (by omega), rfl, old_row hc53, rfl, rfl, rfl, rfl, rfl, rfl, rfl, rfl, rfl, trivial⟩ ?_
                   refine g_loop (fun m a w' => ∃ (n57 : Nat) (n : Nat), m = y55.Regions.xs.length - n ∧ n51 + 1 ≤ n57 ∧ (n ≤ y55.Regions.xs.length) ∧ (∀ a, a < n → frmB c p k q a = false) ∧ St 133 [(1, i6 (p : Int)), (2, i6 (k : Int)), (q9ef_12 z), (q9ef_13 z), (10, i6 (q : Int)), (q9ef_6 b1 o2 p c), (q9ef_10 p), (94, i6 (q : Int)), (q9ef_7 y55), (q9ef_9 y55), (102, i6 (n : Int))] [] ⟨w, n57, (q9ef_15 w z c y16 n51 y55)⟩ a w') (y55.Regions.xs.length - 0) ?_ ?_
                   · intro a w' hs; exact ⟨(n51 + 1), 0, rfl, Nat.le_refl _, Nat.zero_le _, fun i hi => absurd hi (Nat.not_lt_zero i), hs⟩
                   · rintro m a w' ⟨n57, n, rfl, hn56, hkn, hh, hs⟩
                     refine (?_ : G Tryd.prog 133 [(1, i6 (p : Int)), (2, i6 (k : Int)), (q9ef_12 z), (q9ef_13 z), (10, i6 (q : Int)), (q9ef_6 b1 o2 p c), (q9ef_10 p), (94, i6 (q : Int)), (q9ef_7 y55), (q9ef_9 y55), (102, i6 (n : Int))] [] ⟨w, n57, (q9ef_15 w z c y16 n51 y55)⟩ _ _ _) a w' hs
                     clear hs a w'
                     have hyl := he54.Regions.1.len
                     refine g_seq ?_
                     by_cases h58 : ((n : Int) : Int) < ((y55.Regions.xs.length : Nat) : Int)
                     · refine q_cS 10 0 [1] [[oT]] [BT (((n : Int) : Int) < ((y55.Regions.xs.length : Nat) : Int))] [(1, i6 (p : Int)), (2, i6 (k : Int)), (q9ef_12 z), (q9ef_13 z), (10, i6 (q : Int)), (q9ef_6 b1 o2 p c), (q9ef_10 p), (94, i6 (q : Int)), (q9ef_7 y55), (q9ef_9 y55), (102, i6 (n : Int)), (103, .bool true)] rfl ⟨bt (by omega), trivial⟩ ?_
                       obtain ⟨b59, o60, ha61, hF63, hc62⟩ := (he54.Regions).1.all (show 0 < y55.Regions.xs.length by omega)
                       replace ha61 : y55.Regions.a = some ⟨b59, o60, none⟩ := ha61
                       refine g_eq [(1, i6 (p : Int)), (2, i6 (k : Int)), (q9ef_12 z), (q9ef_13 z), (10, i6 (q : Int)), (q9ef_6 b1 o2 p c), (q9ef_10 p), (94, i6 (q : Int)), (q9ef_5 b59 o60 y55), (q9ef_9 y55), (102, i6 (n : Int)), (103, .bool true)] (by (try dsimp only [q9ef_0, q9ef_1, q9ef_2, q9ef_3, q9ef_4, q9ef_5, q9ef_6, q9ef_7, q9ef_8, q9ef_9, q9ef_10, q9ef_11, q9ef_12, q9ef_13, q9ef_14, q9ef_15]); simp only [ha61]) ?_
                       have hc64 := hc62 n (show n < y55.Regions.xs.length by omega)
                       have he65 := (he54.Regions).2 n (show n < y55.Regions.xs.length by omega)
                       obtain ⟨y66, hy66⟩ : ∃ y_, y_ = gd y55.Regions.xs n := ⟨_, rfl⟩
                       rw [← hy66] at he65 hc64
                       have hfy66 : (-9223372036854775808 : Int) ≤ y66.Frame ∧ y66.Frame ≤ 9223372036854775807 := he65.Frame
                       refine q_c 4 0 [] [[o0, (oi n), (ol 0 (TRegion.arr y66)), o0, o0, (an 4 5)]] [((n : Int) : Int) = ((n : Nat) : Int), n < y55.Regions.xs.length, (none : Option Nat) = none, OldR w b59 (o60 + n * 4) (TRegion.arr y66), Qb n57, Qb n57, Qb n57, Qb n57] [(1, i6 (p : Int)), (2, i6 (k : Int)), (q9ef_12 z), (q9ef_13 z), (10, i6 (q : Int)), (q9ef_6 b1 o2 p c), (q9ef_10 p), (94, i6 (q : Int)), (q9ef_5 b59 o60 y55), (q9ef_9 y55), (102, i6 (n : Int)), (13, pt n57), (12, i6 (n : Int))] ⟨w, n57 + 1, [(old0 w), (q9ef_4 z c), (q9ef_1 z), (q9ef_2 z y16), (q9ef_3 n51 y55), (bk n57 (TRegion.arr y66) 49)]⟩ rfl ⟨rfl, (by omega), rfl, old_row hc64, rfl, rfl, rfl, rfl, trivial⟩ ?_
                       by_cases h67 : ((q : Int) : Int) < (p : Int)
                       · refine q_cS 1 17 [] [[o0, o0, oT, o0, o0, o0, o0, (a1 3), o0, (a1 3), o0, (a1 5), o0, (a1 5)]] [BT (((q : Int) : Int) < (p : Int)), Qb (z + 2), Qb (z + 2), Qb n57, Qb n57] [(1, i6 (p : Int)), (2, i6 (k : Int)), (q9ef_12 z), (q9ef_13 z), (10, i6 (q : Int)), (q9ef_6 b1 o2 p c), (q9ef_10 p), (94, i6 (q : Int)), (q9ef_5 b59 o60 y55), (q9ef_9 y55), (102, i6 (n : Int)), (115, .bool true), (117, i6 y16.Frame), (119, i6 y16.Pages), (121, i6 y66.Frame), (123, i6 y66.Pages)] rfl ⟨bt (by omega), rfl, rfl, rfl, rfl, trivial⟩ ?_
                         refine l_call [] [] 73 #[i6 y16.Frame, i6 y16.Pages, i6 y66.Frame, i6 y66.Pages] (some 124) trivial ?_
                         intro w68 hw68
                         have hm70 := hb q n (by omega) (by rw [← hy55]; omega) (by omega); dsimp only [regC] at hm70; rw [← hy55, ← hy66] at hm70; unfold Bd at hm70
                         refine (meet_calls w68 y16.Frame y16.Pages y66.Frame y66.Pages (by omega) (by omega) (by omega) (by omega)).mono ?_
                         rintro e w69 ⟨rfl, hkw69⟩
                         have hnw69 : n57 + 1 ≤ w69.heap.size := size_of hw68 hkw69
                         refine ⟨_, _, rfl, hw68.keeps hkw69, ?_⟩
                         refine q_rS 2 0 [] [[o0]] [] [(1, i6 (p : Int)), (2, i6 (k : Int)), (q9ef_12 z), (q9ef_13 z), (10, i6 (q : Int)), (q9ef_6 b1 o2 p c), (q9ef_10 p), (94, i6 (q : Int)), (q9ef_5 b59 o60 y55), (q9ef_9 y55), (102, i6 (n : Int)), (125, .bool (meet y16.Frame y16.Pages y66.Frame y66.Pages))] rfl trivial ?_
                         by_cases h71 : (meet y16.Frame y16.Pages y66.Frame y66.Pages) = true
                         · refine q_cS 3 2 [3] [[o0, o0]] [Value.bool (meet y16.Frame y16.Pages y66.Frame y66.Pages) = Value.bool true] [(q9ef_12 z), (126, i6 (p : Int)), (127, i6 (k : Int))] rfl ⟨(congrArg Value.bool h71), trivial⟩ ?_
                           refine l_call [] [] 70 #[i6 (p : Int), i6 (k : Int)] (some 128) trivial ?_
                           intro w72 hw72
                           refine (both_calls w72 (p : Int) (k : Int)).mono ?_
                           rintro e w73 ⟨rfl, hkw73⟩
                           have hnw73 : w69.heap.size ≤ w73.heap.size := size_of hw72 hkw73
                           refine ⟨_, _, rfl, hw72.keeps hkw73, ?_⟩
                           refine q_r 3 0 [] [[o0, (an 3 2)]] [Qb (z + 1), Qb (z + 1), Qb (z + 1)] [(q9ef_12 z)] ⟨w, w73.heap.size, [(old0 w), (q9ef_4 z c), (bk (z + 1) #[i6 411, i6 (p : Int), i6 (k : Int)] 73), (q9ef_2 z y16), (q9ef_3 n51 y55), (bk n57 (TRegion.arr y66) 49)]⟩ rfl ⟨rfl, rfl, rfl, trivial⟩ ?_
                           refine e_ret [.at 2, .at 2, .at 2] [Qb (z + 1), Qb (z + 1), Qb (z + 1)] (.agg #[i6 411, i6 (p : Int), i6 (k : Int)]) ⟨rfl, rfl, rfl, trivial⟩ ?_
                           intro w74 hw74
                           refine ⟨congrArg Ending.returned (?_ : Value.agg #[i6 411, i6 (p : Int), i6 (k : Int)] = .agg (Tfound.arr (regQ c p k))), back0 hw74⟩
                           have hq : regQ c p k = _ := regQ_c hbb hf0 (range_any (k := q) (by omega) (range_any (k := n) (by dsimp only [parC]; rw [← hy55]; omega) (by have ek : regC c p k = y16 := (by dsimp only [regC]; rw [← hy8, ← hy16]); have en : regC c q n = y66 := (by dsimp only [regC]; rw [← hy55, ← hy66]); unfold frmB; rw [ek, en, h71]; simp; omega)))
                           exact (congrArg (fun t => Value.agg (Tfound.arr t)) hq).symm
                         · refine q_cS 6 0 [2] [[(ov (i6 ((n + 1 : Nat) : Int))), o0]] [Value.bool (meet y16.Frame y16.Pages y66.Frame y66.Pages) = Value.bool false, Wr (((n : Int) : Int) + 1) (((n + 1 : Nat) : Int))] [(1, i6 (p : Int)), (2, i6 (k : Int)), (q9ef_12 z), (q9ef_13 z), (10, i6 (q : Int)), (q9ef_6 b1 o2 p c), (q9ef_10 p), (94, i6 (q : Int)), (q9ef_5 b59 o60 y55), (q9ef_9 y55), (q9ef_11 n)] rfl ⟨(congrArg Value.bool (Bool.eq_false_iff.2 h71)), wrI, trivial⟩ ?_
                           refine e_pick [0, 1, 2, 3, 4] (q9ef_15 w z c y16 n51 y55) rfl rfl ?_
                           refine e_eqk [1, 2, 6, 7, 10, 92, 93, 94, 100, 101, 102] [(1, i6 (p : Int)), (2, i6 (k : Int)), (q9ef_12 z), (q9ef_13 z), (10, i6 (q : Int)), (q9ef_6 b1 o2 p c), (q9ef_10 p), (94, i6 (q : Int)), (q9ef_7 y55), (q9ef_9 y55), (q9ef_11 n)] (by (try dsimp only [q9ef_0, q9ef_1, q9ef_2, q9ef_3, q9ef_4, q9ef_5, q9ef_6, q9ef_7, q9ef_8, q9ef_9, q9ef_10, q9ef_11, q9ef_12, q9ef_13, q9ef_14, q9ef_15]); simp only [ha61]; rfl) ?_
                           refine e_inv (fun a w' hs => ⟨y55.Regions.xs.length - (n + 1), by omega, w69.heap.size, (n + 1), rfl, by omega, by omega, upto_ hh (by have ek : regC c p k = y16 := (by dsimp only [regC]; rw [← hy8, ← hy16]); have en : regC c q n = y66 := (by dsimp only [regC]; rw [← hy55, ← hy66]); unfold frmB; rw [ek, en]; simp [h71] <;> omega), hs⟩)
                       · by_cases h75 : ((n : Int) : Int) < (k : Int)
                         · refine q_cS 1 17 [] [[o0, o0, oF, o0, o0, o0, oT, o0, o0, o0, (a1 3), o0, (a1 3), o0, (a1 5), o0, (a1 5)]] [BF (((q : Int) : Int) < (p : Int)), BT (((n : Int) : Int) < (k : Int)), Qb (z + 2), Qb (z + 2), Qb n57, Qb n57] [(1, i6 (p : Int)), (2, i6 (k : Int)), (q9ef_12 z), (q9ef_13 z), (10, i6 (q : Int)), (q9ef_6 b1 o2 p c), (q9ef_10 p), (94, i6 (q : Int)), (q9ef_5 b59 o60 y55), (q9ef_9 y55), (102, i6 (n : Int)), (115, .bool true), (117, i6 y16.Frame), (119, i6 y16.Pages), (121, i6 y66.Frame), (123, i6 y66.Pages)] rfl ⟨bf (by omega), bt (by omega), rfl, rfl, rfl, rfl, trivial⟩ ?_
                           refine l_call [] [] 73 #[i6 y16.Frame, i6 y16.Pages, i6 y66.Frame, i6 y66.Pages] (some 124) trivial ?_
                           intro w76 hw76
                           have hm78 := hb q n (by omega) (by rw [← hy55]; omega) (by omega); dsimp only [regC] at hm78; rw [← hy55, ← hy66] at hm78; unfold Bd at hm78
                           refine (meet_calls w76 y16.Frame y16.Pages y66.Frame y66.Pages (by omega) (by omega) (by omega) (by omega)).mono ?_
                           rintro e w77 ⟨rfl, hkw77⟩
                           have hnw77 : n57 + 1 ≤ w77.heap.size := size_of hw76 hkw77
                           refine ⟨_, _, rfl, hw76.keeps hkw77, ?_⟩
                           refine q_rS 2 0 [] [[o0]] [] [(1, i6 (p : Int)), (2, i6 (k : Int)), (q9ef_12 z), (q9ef_13 z), (10, i6 (q : Int)), (q9ef_6 b1 o2 p c), (q9ef_10 p), (94, i6 (q : Int)), (q9ef_5 b59 o60 y55), (q9ef_9 y55), (102, i6 (n : Int)), (125, .bool (meet y16.Frame y16.Pages y66.Frame y66.Pages))] rfl trivial ?_
                           by_cases h79 : (meet y16.Frame y16.Pages y66.Frame y66.Pages) = true
                           · refine q_cS 3 2 [3] [[o0, o0]] [Value.bool (meet y16.Frame y16.Pages y66.Frame y66.Pages) = Value.bool true] [(q9ef_12 z), (126, i6 (p : Int)), (127, i6 (k : Int))] rfl ⟨(congrArg Value.bool h79), trivial⟩ ?_
                             refine l_call [] [] 70 #[i6 (p : Int), i6 (k : Int)] (some 128) trivial ?_
                             intro w80 hw80
                             refine (both_calls w80 (p : Int) (k : Int)).mono ?_
                             rintro e w81 ⟨rfl, hkw81⟩
                             have hnw81 : w77.heap.size ≤ w81.heap.size := size_of hw80 hkw81
                             refine ⟨_, _, rfl, hw80.keeps hkw81, ?_⟩
                             refine q_r 3 0 [] [[o0, (an 3 2)]] [Qb (z + 1), Qb (z + 1), Qb (z + 1)] [(q9ef_12 z)] ⟨w, w81.heap.size, [(old0 w), (q9ef_4 z c), (bk (z + 1) #[i6 411, i6 (p : Int), i6 (k : Int)] 73), (q9ef_2 z y16), (q9ef_3 n51 y55), (bk n57 (TRegion.arr y66) 49)]⟩ rfl ⟨rfl, rfl, rfl, trivial⟩ ?_
                             refine e_ret [.at 2, .at 2, .at 2] [Qb (z + 1), Qb (z + 1), Qb (z + 1)] (.agg #[i6 411, i6 (p : Int), i6 (k : Int)]) ⟨rfl, rfl, rfl, trivial⟩ ?_
                             intro w82 hw82
                             refine ⟨congrArg Ending.returned (?_ : Value.agg #[i6 411, i6 (p : Int), i6 (k : Int)] = .agg (Tfound.arr (regQ c p k))), back0 hw82⟩
                             have hq : regQ c p k = _ := regQ_c hbb hf0 (range_any (k := q) (by omega) (range_any (k := n) (by dsimp only [parC]; rw [← hy55]; omega) (by have ek : regC c p k = y16 := (by dsimp only [regC]; rw [← hy8, ← hy16]); have en : regC c q n = y66 := (by dsimp only [regC]; rw [← hy55, ← hy66]); unfold frmB; rw [ek, en, h79]; simp; omega)))
                             exact (congrArg (fun t => Value.agg (Tfound.arr t)) hq).symm
                           · refine q_cS 6 0 [2] [[(ov (i6 ((n + 1 : Nat) : Int))), o0]] [Value.bool (meet y16.Frame y16.Pages y66.Frame y66.Pages) = Value.bool false, Wr (((n : Int) : Int) + 1) (((n + 1 : Nat) : Int))] [(1, i6 (p : Int)), (2, i6 (k : Int)), (q9ef_12 z), (q9ef_13 z), (10, i6 (q : Int)), (q9ef_6 b1 o2 p c), (q9ef_10 p), (94, i6 (q : Int)), (q9ef_5 b59 o60 y55), (q9ef_9 y55), (q9ef_11 n)] rfl ⟨(congrArg Value.bool (Bool.eq_false_iff.2 h79)), wrI, trivial⟩ ?_
                             refine e_pick [0, 1, 2, 3, 4] (q9ef_15 w z c y16 n51 y55) rfl rfl ?_
                             refine e_eqk [1, 2, 6, 7, 10, 92, 93, 94, 100, 101, 102] [(1, i6 (p : Int)), (2, i6 (k : Int)), (q9ef_12 z), (q9ef_13 z), (10, i6 (q : Int)), (q9ef_6 b1 o2 p c), (q9ef_10 p), (94, i6 (q : Int)), (q9ef_7 y55), (q9ef_9 y55), (q9ef_11 n)] (by (try dsimp only [q9ef_0, q9ef_1, q9ef_2, q9ef_3, q9ef_4, q9ef_5, q9ef_6, q9ef_7, q9ef_8, q9ef_9, q9ef_10, q9ef_11, q9ef_12, q9ef_13, q9ef_14, q9ef_15]); simp only [ha61]; rfl) ?_
                             refine e_inv (fun a w' hs => ⟨y55.Regions.xs.length - (n + 1), by omega, w77.heap.size, (n + 1), rfl, by omega, by omega, upto_ hh (by have ek : regC c p k = y16 := (by dsimp only [regC]; rw [← hy8, ← hy16]); have en : regC c q n = y66 := (by dsimp only [regC]; rw [← hy55, ← hy66]); unfold frmB; rw [ek, en]; simp [h79] <;> omega), hs⟩)
                         · refine q_cS 9 0 [0] [[o0, o0, oF, o0, o0, o0, oF, o0, o0, o0], [(ov (i6 ((n + 1 : Nat) : Int))), o0]] [BF (((q : Int) : Int) < (p : Int)), BF (((n : Int) : Int) < (k : Int)), Wr (((n : Int) : Int) + 1) (((n + 1 : Nat) : Int))] [(1, i6 (p : Int)), (2, i6 (k : Int)), (q9ef_12 z), (q9ef_13 z), (10, i6 (q : Int)), (q9ef_6 b1 o2 p c), (q9ef_10 p), (94, i6 (q : Int)), (q9ef_5 b59 o60 y55), (q9ef_9 y55), (q9ef_11 n)] rfl ⟨bf (by omega), bf (by omega), wrI, trivial⟩ ?_
                           refine e_pick [0, 1, 2, 3, 4] (q9ef_15 w z c y16 n51 y55) rfl rfl ?_
                           refine e_eqk [1, 2, 6, 7, 10, 92, 93, 94, 100, 101, 102] [(1, i6 (p : Int)), (2, i6 (k : Int)), (q9ef_12 z), (q9ef_13 z), (10, i6 (q : Int)), (q9ef_6 b1 o2 p c), (q9ef_10 p), (94, i6 (q : Int)), (q9ef_7 y55), (q9ef_9 y55), (q9ef_11 n)] (by (try dsimp only [q9ef_0, q9ef_1, q9ef_2, q9ef_3, q9ef_4, q9ef_5, q9ef_6, q9ef_7, q9ef_8, q9ef_9, q9ef_10, q9ef_11, q9ef_12, q9ef_13, q9ef_14, q9ef_15]); simp only [ha61]; rfl) ?_
                           refine e_inv (fun a w' hs => ⟨y55.Regions.xs.length - (n + 1), by omega, (n57 + 1), (n + 1), rfl, by omega, by omega, upto_ hh (by have ek : regC c p k = y16 := (by dsimp only [regC]; rw [← hy8, ← hy16]); have en : regC c q n = y66 := (by dsimp only [regC]; rw [← hy55, ← hy66]); unfold frmB; rw [ek, en]; simp <;> omega), hs⟩)
                     · refine q_cS 13 0 [0] [[oF], [(ov (i6 ((q + 1 : Nat) : Int))), o0]] [BF (((n : Int) : Int) < ((y55.Regions.xs.length : Nat) : Int)), Wr (((q : Int) : Int) + 1) (((q + 1 : Nat) : Int))] [(1, i6 (p : Int)), (2, i6 (k : Int)), (q9ef_12 z), (q9ef_13 z), (q9ef_6 b1 o2 p c), (q9ef_10 p), (94, i6 ((q + 1 : Nat) : Int))] rfl ⟨bf (by omega), wrI, trivial⟩ ?_
                       refine e_pick [0, 1, 2, 3] [(old0 w), (q9ef_4 z c), (q9ef_1 z), (q9ef_2 z y16)] rfl rfl ?_
                       refine e_keep [1, 2, 6, 7, 92, 93, 94] [(1, i6 (p : Int)), (2, i6 (k : Int)), (q9ef_12 z), (q9ef_13 z), (q9ef_6 b1 o2 p c), (q9ef_10 p), (94, i6 ((q + 1 : Nat) : Int))] ?_
                       refine e_inv (fun a w' hs => ⟨p + 1 - (q + 1), by omega, n57, (q + 1), rfl, by omega, by omega, upto_ hg (range_none (fun i hi => hh i (by dsimp only [parC] at hi; rw [← hy55] at hi; omega))), hs⟩)
                 · refine q_cS 15 0 [0] [[oF], [(oa [.via 0 (i6 0), .via 0 (i6 0), .via 0 (i6 0)]), (an 3 2)]] [BF (((q : Int) : Int) < ((p + 1 - 0 : Nat) : Int)), Old w 0 0 (i6 0), Old w 0 1 (i6 0), Old w 0 2 (i6 0), Qb (z + 1), Qb (z + 1), Qb (z + 1)] [(q9ef_12 z)] rfl ⟨bf (by omega), old_cell' (hL.2 0 _ rfl), old_cell' (hL.2 1 _ rfl), old_cell' (hL.2 2 _ rfl), rfl, rfl, rfl, trivial⟩ ?_
                   refine e_ret [.at 2, .at 2, .at 2] [Qb (z + 1), Qb (z + 1), Qb (z + 1)] (.agg #[i6 0, i6 0, i6 0]) ⟨rfl, rfl, rfl, trivial⟩ ?_
                   intro w83 hw83
                   refine ⟨congrArg Ending.returned (?_ : Value.agg #[i6 0, i6 0, i6 0] = .agg (Tfound.arr (regQ c p k))), back0 hw83⟩
                   have hq : regQ c p k = _ := regQ_d hbb hf0 (range_none (fun i hi => hg i (by omega)))
                   exact (congrArg (fun t => Value.agg (Tfound.arr t)) hq).symm
         · have hd84 := win_no h35
           refine q_rS 5 2 [1] [[(ov (.bool true)), o0], [o0, o0]] [Value.bool (!(win y16.Rights 1 7)) = Value.bool true] [(q9ef_12 z), (57, i6 (p : Int)), (58, i6 (k : Int))] rfl ⟨by simp [h35], trivial⟩ ?_
           refine l_call [] [] 70 #[i6 (p : Int), i6 (k : Int)] (some 59) trivial ?_
           intro w85 hw85
           refine (both_calls w85 (p : Int) (k : Int)).mono ?_
           rintro e w86 ⟨rfl, hkw86⟩
           have hnw86 : w34.heap.size ≤ w86.heap.size := size_of hw85 hkw86
           refine ⟨_, _, rfl, hw85.keeps hkw86, ?_⟩
           refine q_r 3 0 [] [[o0, (an 3 2)]] [Qb (z + 1), Qb (z + 1), Qb (z + 1)] [(q9ef_12 z)] ⟨w, w86.heap.size, [(old0 w), (q9ef_4 z c), (q9ef_0 z p k), (q9ef_2 z y16)]⟩ rfl ⟨rfl, rfl, rfl, trivial⟩ ?_
           refine e_ret [.at 2, .at 2, .at 2] [Qb (z + 1), Qb (z + 1), Qb (z + 1)] (.agg #[i6 409, i6 (p : Int), i6 (k : Int)]) ⟨rfl, rfl, rfl, trivial⟩ ?_
           intro w87 hw87
           refine ⟨congrArg Ending.returned (?_ : Value.agg #[i6 409, i6 (p : Int), i6 (k : Int)] = .agg (Tfound.arr (regQ c p k))), back0 hw87⟩
           have hq : regQ c p k = _ := regQ_a (by have ek : regC c p k = y16 := (by dsimp only [regC]; rw [← hy8, ← hy16]); rw [ek]; unfold regB win; simp; omega)
           exact (congrArg (fun t => Value.agg (Tfound.arr t)) hq).symm
   · have hd88 := win_no h23
     refine q_rS 5 2 [1] [[(ov (.bool true)), o0, o0, o0, o0, o0, o0, o0], [o0, o0]] [Value.bool (!(win y16.Pages 1 (256 - y16.Page))) = Value.bool true] [(q9ef_12 z), (57, i6 (p : Int)), (58, i6 (k : Int))] rfl ⟨by simp [h23], trivial⟩ ?_
     refine l_call [] [] 70 #[i6 (p : Int), i6 (k : Int)] (some 59) trivial ?_
     intro w89 hw89
     refine (both_calls w89 (p : Int) (k : Int)).mono ?_
     rintro e w90 ⟨rfl, hkw90⟩
     have hnw90 : w22.heap.size ≤ w90.heap.size := size_of hw89 hkw90
     refine ⟨_, _, rfl, hw89.keeps hkw90, ?_⟩
     refine q_r 3 0 [] [[o0, (an 3 2)]] [Qb (z + 1), Qb (z + 1), Qb (z + 1)] [(q9ef_12 z)] ⟨w, w90.heap.size, [(old0 w), (q9ef_4 z c), (q9ef_0 z p k), (q9ef_2 z y16)]⟩ rfl ⟨rfl, rfl, rfl, trivial⟩ ?_
     refine e_ret [.at 2, .at 2, .at 2] [Qb (z + 1), Qb (z + 1), Qb (z + 1)] (.agg #[i6 409, i6 (p : Int), i6 (k : Int)]) ⟨rfl, rfl, rfl, trivial⟩ ?_
     intro w91 hw91
     refine ⟨congrArg Ending.returned (?_ : Value.agg #[i6 409, i6 (p : Int), i6 (k : Int)] = .agg (Tfound.arr (regQ c p k))), back0 hw91⟩
     have hq : regQ c p k = _ := regQ_a (by have ek : regC c p k = y16 := (by dsimp only [regC]; rw [← hy8, ← hy16]); rw [ek]; unfold regB win; simp; omega)
     exact (congrArg (fun t => Value.agg (Tfound.arr t)) hq).symm
 · have hd92 := win_no h19
   refine q_rS 5 2 [1] [[(ov (.bool true)), o0, o0, o0, o0, o0, o0, o0, o0], [o0, o0]] [Value.bool (!(win y16.Page 0 255)) = Value.bool true] [(q9ef_12 z), (57, i6 (p : Int)), (58, i6 (k : Int))] rfl ⟨by simp [h19], trivial⟩ ?_
   refine l_call [] [] 70 #[i6 (p : Int), i6 (k : Int)] (some 59) trivial ?_
   intro w93 hw93
   refine (both_calls w93 (p : Int) (k : Int)).mono ?_
   rintro e w94 ⟨rfl, hkw94⟩
   have hnw94 : w18.heap.size ≤ w94.heap.size := size_of hw93 hkw94
   refine ⟨_, _, rfl, hw93.keeps hkw94, ?_⟩
   refine q_r 3 0 [] [[o0, (an 3 2)]] [Qb (z + 1), Qb (z + 1), Qb (z + 1)] [(q9ef_12 z)] ⟨w, w94.heap.size, [(old0 w), (q9ef_4 z c), (q9ef_0 z p k), (q9ef_2 z y16)]⟩ rfl ⟨rfl, rfl, rfl, trivial⟩ ?_
   refine e_ret [.at 2, .at 2, .at 2] [Qb (z + 1), Qb (z + 1), Qb (z + 1)] (.agg #[i6 409, i6 (p : Int), i6 (k : Int)]) ⟨rfl, rfl, rfl, trivial⟩ ?_
   intro w95 hw95
   refine ⟨congrArg Ending.returned (?_ : Value.agg #[i6 409, i6 (p : Int), i6 (k : Int)] = .agg (Tfound.arr (regQ c p k))), back0 hw95⟩
   have hq : regQ c p k = _ := regQ_a (by have ek : regC c p k = y16 := (by dsimp only [regC]; rw [← hy8, ← hy16]); rw [ek]; unfold regB win; simp; omega)
   exact (congrArg (fun t => Value.agg (Tfound.arr t)) hq).symm

end Go.Proofs.YtnjhekfgmbpmlaaDoor.Ad
