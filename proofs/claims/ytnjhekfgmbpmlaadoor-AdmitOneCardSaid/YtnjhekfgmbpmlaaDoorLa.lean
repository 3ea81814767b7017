/- layout: partition. No conditions. -/
import Derived.Test.YtnjhekfgmbpmlaaDoorTy
namespace Go.Proofs.YtnjhekfgmbpmlaaDoor.Ly
open Go Go.Proofs.YtnjhekfgmbpmlaaDoor.Eng Go.Proofs.YtnjhekfgmbpmlaaDoor.Mem
set_option linter.unusedSimpArgs false
set_option linter.unusedVariables false
set_option maxRecDepth 100000

def regOk (g : TRegion) : Bool := decide (0 ≤ g.Page ∧ g.Page ≤ 256 ∧ 1 ≤ g.Pages ∧ g.Pages ≤ 256 - g.Page)
def portOk (n : Nat) (q : TPort) : Bool := decide (0 ≤ q.Channel ∧ q.Channel < n)
def partOk (n : Nat) (x : TPartition) : Bool := decide (x.Regions.xs.length ≤ 8) && decide (x.Ports.xs.length ≤ 8) && x.Regions.xs.all regOk && x.Ports.xs.all (portOk n)
theorem all_no {α : Type} [Inhabited α] {p : α → Bool} {xs : List α} {k : Nat} (hk : k < xs.length) (h : p (gd xs k) = false) : xs.all p = false := by
  rw [List.all_eq_false]
  refine ⟨xs[k], List.getElem_mem hk, ?_⟩
  rw [gd_eq hk] at h
  simpa using h
theorem all_yes {α : Type} [Inhabited α] {p : α → Bool} {xs : List α} (h : ∀ i, i < xs.length → p (gd xs i) = true) : xs.all p = true := by
  rw [List.all_eq_true]
  intro y hy
  obtain ⟨i, hi, rfl⟩ := List.getElem_of_mem hy
  have := h i hi
  rwa [gd_eq hi] at this
theorem upto {p : Nat → Prop} {k : Nat} (h : ∀ i, i < k → p i) (hk : p k) : ∀ i, i < k + 1 → p i := fun i hi => by
  by_cases e : i = k
  · subst e; exact hk
  · exact h i (by omega)
abbrev q90v_0 (z : Nat) (x : TPartition) : Ch := bk (z + 1) (TPartition.arr x) 41
abbrev q90v_1 (z : Nat) (c : TConfig) : Ch := bk z (TConfig.arr c) 26
abbrev q90v_2 (b8 : Nat) (o9 : Nat) (x : TPartition) : Nat × Value := (20, .slice (some ⟨b8, o9, none⟩) x.Regions.xs.length x.Regions.cap)
abbrev q90v_3 (x : TPartition) : Nat × Value := (20, .slice x.Regions.a x.Regions.xs.length x.Regions.cap)
abbrev q90v_4 (x : TPartition) : Nat × Value := (49, .slice x.Ports.a x.Ports.xs.length x.Ports.cap)
abbrev q90v_5 (x : TPartition) : Nat × Value := (21, i6 ((x.Regions.xs.length : Nat) : Int))
abbrev q90v_6 (x : TPartition) : Nat × Value := (50, i6 ((x.Ports.xs.length : Nat) : Int))
abbrev q90v_7 (z : Nat) : Nat × Value := (3, pt (z + 1))
theorem partition_calls (w : World) (c : TConfig) (x : TPartition) (hc : TConfig.ok Any w c) (hx : TPartition.ok Any w x) : Calls Tryd.prog 74 #[.agg (TConfig.arr c), .agg (TPartition.arr x)] w fun e w' => e = .returned (.bool (partOk c.Channels.xs.length x)) ∧ Keeps (fun _ => False) w w' := by
 obtain ⟨z, hz⟩ : ∃ z, z = w.heap.size := ⟨_, rfl⟩
 refine calls_G (args := [.agg (TConfig.arr c), .agg (TPartition.arr x)]) 67 ⟨w, z, [(old0 w)]⟩ Tryd.func74 rfl (by kernel_rfl) (by kernel_rfl) (sat_0 hz) ?_
 refine g_keep [0, 1] [(0, .agg (TConfig.arr c)), (1, .agg (TPartition.arr x))] ?_
 refine q_c 6 0 [] [[o0, o0, o0]] [] [(2, pt z), (q90v_7 z)] ⟨w, z + 2, [(old0 w), (q90v_1 z c), (q90v_0 z x)]⟩ rfl trivial ?_
 by_cases h1 : (8 : Int) < ((x.Regions.xs.length : Nat) : Int)
 · refine q_cS 9 0 [1] [[o0, (a1 2), o0, oT, o0, o0], [o0]] [Qb (z + 1), BT ((((x.Regions.xs.length : Nat) : Int) : Int) > 8)] [(4, .bool false)] rfl ⟨rfl, bt (by omega), trivial⟩ ?_
   refine e_ret [] [] (.bool false) trivial ?_
   intro w2 hw2
   refine ⟨congrArg (fun b => Ending.returned (Value.bool b)) (Eq.symm (?_ : partOk c.Channels.xs.length x = false)), back0 hw2⟩
   unfold partOk
   first
     | (have e1 : decide (x.Regions.xs.length ≤ 8) = false := decide_eq_false (by omega)); simp [e1]
     | (have e1 : decide (x.Ports.xs.length ≤ 8) = false := decide_eq_false (by omega)); simp [e1]
 · by_cases h3 : (8 : Int) < ((x.Ports.xs.length : Nat) : Int)
   · refine q_cS 9 0 [1] [[o0, (a1 2), o0, oF, o0, o0, (a1 2), o0, oT, o0], [o0]] [Qb (z + 1), BF ((((x.Regions.xs.length : Nat) : Int) : Int) > 8), Qb (z + 1), BT ((((x.Ports.xs.length : Nat) : Int) : Int) > 8)] [(4, .bool false)] rfl ⟨rfl, bf (by omega), rfl, bt (by omega), trivial⟩ ?_
     refine e_ret [] [] (.bool false) trivial ?_
     intro w4 hw4
     refine ⟨congrArg (fun b => Ending.returned (Value.bool b)) (Eq.symm (?_ : partOk c.Channels.xs.length x = false)), back0 hw4⟩
     unfold partOk
     first
       | (have e1 : decide (x.Regions.xs.length ≤ 8) = false := decide_eq_false (by omega)); simp [e1]
       | (have e1 : decide (x.Ports.xs.length ≤ 8) = false := decide_eq_false (by omega)); simp [e1]
   · refine q_cS 12 0 [0] [[o0, (a1 2), o0, oF, o0, o0, (a1 2), o0, oF, o0], [o0, (a1 2), o0, o0]] [Qb (z + 1), BF ((((x.Regions.xs.length : Nat) : Int) : Int) > 8), Qb (z + 1), BF ((((x.Ports.xs.length : Nat) : Int) : Int) > 8), Qb (z + 1)] [(2, pt z), (q90v_7 z), (q90v_3 x), (q90v_5 x), (22, i6 0)] rfl ⟨rfl, bf (by omega), rfl, bf (by omega), rfl, trivial⟩ ?_
     refine g_loop (fun m a w' => ∃ (n6 : Nat) (k : Nat), m = x.Regions.xs.length - k ∧ z + 2 ≤ n6 ∧ (k ≤ x.Regions.xs.length) ∧ (∀ i, i < k → regOk (gd x.Regions.xs i) = true) ∧ St 67 [(2, pt z), (q90v_7 z), (q90v_3 x), (q90v_5 x), (22, i6 (k : Int))] [] ⟨w, n6, [(old0 w), (q90v_1 z c), (q90v_0 z x)]⟩ a w') (x.Regions.xs.length - 0) ?_ ?_
     · intro a w' hs; exact ⟨(z + 2), 0, rfl, Nat.le_refl _, Nat.zero_le _, fun i hi => absurd hi (Nat.not_lt_zero i), hs⟩
     · rintro m a w' ⟨n6, k, rfl, hn5, hkk, hr, hs⟩
       refine (?_ : G Tryd.prog 67 [(2, pt z), (q90v_7 z), (q90v_3 x), (q90v_5 x), (22, i6 (k : Int))] [] ⟨w, n6, [(old0 w), (q90v_1 z c), (q90v_0 z x)]⟩ _ _ _) a w' hs
       clear hs a w'
       refine g_seq ?_
       by_cases h7 : ((k : Int) : Int) < ((x.Regions.xs.length : Nat) : Int)
       · refine q_cS 10 0 [1] [[oT]] [BT (((k : Int) : Int) < ((x.Regions.xs.length : Nat) : Int))] [(2, pt z), (q90v_7 z), (q90v_3 x), (q90v_5 x), (22, i6 (k : Int)), (23, .bool true)] rfl ⟨bt (by omega), trivial⟩ ?_
         obtain ⟨b8, o9, ha10, hF12, hc11⟩ := (hx.Regions).1.all (show 0 < x.Regions.xs.length by omega)
         replace ha10 : x.Regions.a = some ⟨b8, o9, none⟩ := ha10
         refine g_eq [(2, pt z), (q90v_7 z), (q90v_2 b8 o9 x), (q90v_5 x), (22, i6 (k : Int)), (23, .bool true)] (by (try dsimp only [q90v_0, q90v_1, q90v_2, q90v_3, q90v_4, q90v_5, q90v_6, q90v_7]); simp only [ha10]) ?_
         have hc13 := hc11 k (show k < x.Regions.xs.length by omega)
         have he14 := (hx.Regions).2 k (show k < x.Regions.xs.length by omega)
         obtain ⟨y15, hy15⟩ : ∃ y_, y_ = gd x.Regions.xs k := ⟨_, rfl⟩
         rw [← hy15] at he14 hc13
         refine q_c 4 0 [] [[(oi k), (ol 0 (TRegion.arr y15)), o0, (an 4 3)]] [((k : Int) : Int) = ((k : Nat) : Int), k < x.Regions.xs.length, (none : Option Nat) = none, OldR w b8 (o9 + k * 4) (TRegion.arr y15), Qb n6, Qb n6, Qb n6, Qb n6] [(2, pt z), (q90v_7 z), (q90v_2 b8 o9 x), (q90v_5 x), (22, i6 (k : Int)), (6, pt n6)] ⟨w, n6 + 1, [(old0 w), (q90v_1 z c), (q90v_0 z x), (bk n6 (TRegion.arr y15) 49)]⟩ rfl ⟨rfl, (by omega), rfl, old_row hc13, rfl, rfl, rfl, rfl, trivial⟩ ?_
         by_cases h16 : (y15.Page : Int) < 0
         · refine q_cS 9 0 [1] [[o0, (a1 3), oT, o0, o0, o0, o0, o0, o0], [o0]] [Qb n6, BT ((y15.Page : Int) < 0)] [(4, .bool false)] rfl ⟨rfl, bt (by omega), trivial⟩ ?_
           refine e_ret [] [] (.bool false) trivial ?_
           intro w17 hw17
           refine ⟨congrArg (fun b => Ending.returned (Value.bool b)) (Eq.symm (?_ : partOk c.Channels.xs.length x = false)), back0 hw17⟩
           unfold partOk
           have e1 : x.Regions.xs.all regOk = false := all_no (k := k) (by omega) (by rw [← hy15]; exact decide_eq_false (by omega))
           simp [e1]
         · by_cases h18 : (256 : Int) < y15.Page
           · refine q_cS 9 0 [1] [[o0, (a1 3), oF, o0, o0, (a1 3), oT, o0, o0, o0, o0, o0], [o0]] [Qb n6, BF ((y15.Page : Int) < 0), Qb n6, BT ((y15.Page : Int) > 256)] [(4, .bool false)] rfl ⟨rfl, bf (by omega), rfl, bt (by omega), trivial⟩ ?_
             refine e_ret [] [] (.bool false) trivial ?_
             intro w19 hw19
             refine ⟨congrArg (fun b => Ending.returned (Value.bool b)) (Eq.symm (?_ : partOk c.Channels.xs.length x = false)), back0 hw19⟩
             unfold partOk
             have e1 : x.Regions.xs.all regOk = false := all_no (k := k) (by omega) (by rw [← hy15]; exact decide_eq_false (by omega))
             simp [e1]
           · by_cases h20 : (y15.Pages : Int) < 1
             · refine q_cS 9 0 [1] [[o0, (a1 3), oF, o0, o0, (a1 3), oF, o0, o0, o0, (a1 3), oT, o0, o0, o0], [o0]] [Qb n6, BF ((y15.Page : Int) < 0), Qb n6, BF ((y15.Page : Int) > 256), Qb n6, BT ((y15.Pages : Int) < 1)] [(4, .bool false)] rfl ⟨rfl, bf (by omega), rfl, bf (by omega), rfl, bt (by omega), trivial⟩ ?_
               refine e_ret [] [] (.bool false) trivial ?_
               intro w21 hw21
               refine ⟨congrArg (fun b => Ending.returned (Value.bool b)) (Eq.symm (?_ : partOk c.Channels.xs.length x = false)), back0 hw21⟩
               unfold partOk
               have e1 : x.Regions.xs.all regOk = false := all_no (k := k) (by omega) (by rw [← hy15]; exact decide_eq_false (by omega))
               simp [e1]
             · by_cases h22 : (256 - y15.Page : Int) < y15.Pages
               · refine q_cS 9 0 [1] [[o0, (a1 3), oF, o0, o0, (a1 3), oF, o0, o0, o0, (a1 3), oF, o0, o0, o0, (a1 3), o0, (a1 3), (ov (i6 (256 - y15.Page))), oT, o0], [o0]] [Qb n6, BF ((y15.Page : Int) < 0), Qb n6, BF ((y15.Page : Int) > 256), Qb n6, BF ((y15.Pages : Int) < 1), Qb n6, Qb n6, Wr ((256 : Int) - y15.Page) (256 - y15.Page), BT ((y15.Pages : Int) > (256 - y15.Page))] [(4, .bool false)] rfl ⟨rfl, bf (by omega), rfl, bf (by omega), rfl, bf (by omega), rfl, rfl, wrI, bt (by omega), trivial⟩ ?_
                 refine e_ret [] [] (.bool false) trivial ?_
                 intro w23 hw23
                 refine ⟨congrArg (fun b => Ending.returned (Value.bool b)) (Eq.symm (?_ : partOk c.Channels.xs.length x = false)), back0 hw23⟩
                 unfold partOk
                 have e1 : x.Regions.xs.all regOk = false := all_no (k := k) (by omega) (by rw [← hy15]; exact decide_eq_false (by omega))
                 simp [e1]
               · refine q_cS 9 0 [0] [[o0, (a1 3), oF, o0, o0, (a1 3), oF, o0, o0, o0, (a1 3), oF, o0, o0, o0, (a1 3), o0, (a1 3), (ov (i6 (256 - y15.Page))), oF, o0], [(ov (i6 ((k + 1 : Nat) : Int))), o0]] [Qb n6, BF ((y15.Page : Int) < 0), Qb n6, BF ((y15.Page : Int) > 256), Qb n6, BF ((y15.Pages : Int) < 1), Qb n6, Qb n6, Wr ((256 : Int) - y15.Page) (256 - y15.Page), BF ((y15.Pages : Int) > (256 - y15.Page)), Wr (((k : Int) : Int) + 1) (((k + 1 : Nat) : Int))] [(2, pt z), (q90v_7 z), (q90v_2 b8 o9 x), (q90v_5 x), (22, i6 ((k + 1 : Nat) : Int))] rfl ⟨rfl, bf (by omega), rfl, bf (by omega), rfl, bf (by omega), rfl, rfl, wrI, bf (by omega), wrI, trivial⟩ ?_
                 refine e_pick [0, 1, 2] [(old0 w), (q90v_1 z c), (q90v_0 z x)] rfl rfl ?_
                 refine e_eqk [2, 3, 20, 21, 22] [(2, pt z), (q90v_7 z), (q90v_3 x), (q90v_5 x), (22, i6 ((k + 1 : Nat) : Int))] (by (try dsimp only [q90v_0, q90v_1, q90v_2, q90v_3, q90v_4, q90v_5, q90v_6, q90v_7]); simp only [ha10]; rfl) ?_
                 refine e_inv (fun a w' hs => ⟨x.Regions.xs.length - (k + 1), by omega, (n6 + 1), (k + 1), rfl, by omega, by omega, upto hr (by rw [← hy15]; exact decide_eq_true (by omega)), hs⟩)
       · refine q_cS 16 0 [0] [[oF], [o0, (a1 2), o0, o0]] [BF (((k : Int) : Int) < ((x.Regions.xs.length : Nat) : Int)), Qb (z + 1)] [(2, pt z), (q90v_4 x), (q90v_6 x), (51, i6 0)] rfl ⟨bf (by omega), rfl, trivial⟩ ?_
         refine g_loop (fun m a w' => ∃ (n25 : Nat) (j : Nat), m = x.Ports.xs.length - j ∧ n6 ≤ n25 ∧ (j ≤ x.Ports.xs.length) ∧ (∀ i, i < j → portOk c.Channels.xs.length (gd x.Ports.xs i) = true) ∧ St 67 [(2, pt z), (q90v_4 x), (q90v_6 x), (51, i6 (j : Int))] [] ⟨w, n25, [(old0 w), (q90v_1 z c), (q90v_0 z x)]⟩ a w') (x.Ports.xs.length - 0) ?_ ?_
         · intro a w' hs; exact ⟨n6, 0, rfl, Nat.le_refl _, Nat.zero_le _, fun i hi => absurd hi (Nat.not_lt_zero i), hs⟩
         · rintro m a w' ⟨n25, j, rfl, hn24, hkj, hp, hs⟩
           refine (?_ : G Tryd.prog 67 [(2, pt z), (q90v_4 x), (q90v_6 x), (51, i6 (j : Int))] [] ⟨w, n25, [(old0 w), (q90v_1 z c), (q90v_0 z x)]⟩ _ _ _) a w' hs
           clear hs a w'
           refine g_seq ?_
           by_cases h26 : ((j : Int) : Int) < ((x.Ports.xs.length : Nat) : Int)
           · refine q_cS 10 0 [1] [[oT]] [BT (((j : Int) : Int) < ((x.Ports.xs.length : Nat) : Int))] [(2, pt z), (q90v_4 x), (q90v_6 x), (51, i6 (j : Int)), (52, .bool true)] rfl ⟨bt (by omega), trivial⟩ ?_
             obtain ⟨b27, o28, ha29, hF31, hc30⟩ := (hx.Ports).1.all (show 0 < x.Ports.xs.length by omega)
             replace ha29 : x.Ports.a = some ⟨b27, o28, none⟩ := ha29
             refine g_eq [(2, pt z), (49, .slice (some ⟨b27, o28, none⟩) x.Ports.xs.length x.Ports.cap), (q90v_6 x), (51, i6 (j : Int)), (52, .bool true)] (by (try dsimp only [q90v_0, q90v_1, q90v_2, q90v_3, q90v_4, q90v_5, q90v_6, q90v_7]); simp only [ha29]) ?_
             have hc32 := hc30 j (show j < x.Ports.xs.length by omega)
             have he33 := (hx.Ports).2 j (show j < x.Ports.xs.length by omega)
             obtain ⟨y34, hy34⟩ : ∃ y_, y_ = gd x.Ports.xs j := ⟨_, rfl⟩
             rw [← hy34] at he33 hc32
             refine q_c 4 0 [] [[(oi j), (ol 0 (TPort.arr y34)), o0, (an 2 3)]] [((j : Int) : Int) = ((j : Nat) : Int), j < x.Ports.xs.length, (none : Option Nat) = none, OldR w b27 (o28 + j * 2) (TPort.arr y34), Qb n25, Qb n25] [(2, pt z), (49, .slice (some ⟨b27, o28, none⟩) x.Ports.xs.length x.Ports.cap), (q90v_6 x), (51, i6 (j : Int)), (8, pt n25)] ⟨w, n25 + 1, [(old0 w), (q90v_1 z c), (q90v_0 z x), (bk n25 (TPort.arr y34) 57)]⟩ rfl ⟨rfl, (by omega), rfl, old_row hc32, rfl, rfl, trivial⟩ ?_
             by_cases h35 : (y34.Channel : Int) < 0
             · refine q_cS 9 0 [1] [[o0, (a1 3), oT, o0, o0], [o0]] [Qb n25, BT ((y34.Channel : Int) < 0)] [(4, .bool false)] rfl ⟨rfl, bt (by omega), trivial⟩ ?_
               refine e_ret [] [] (.bool false) trivial ?_
               intro w36 hw36
               refine ⟨congrArg (fun b => Ending.returned (Value.bool b)) (Eq.symm (?_ : partOk c.Channels.xs.length x = false)), back0 hw36⟩
               unfold partOk
               have e1 : x.Ports.xs.all (portOk c.Channels.xs.length) = false := all_no (k := j) (by omega) (by rw [← hy34]; exact decide_eq_false (by omega))
               simp [e1]
             · by_cases h37 : (y34.Channel : Int) < ((c.Channels.xs.length : Nat) : Int)
               · refine q_cS 9 0 [0] [[o0, (a1 3), oF, o0, o0, (a1 3), o0, (a1 1), o0, oF, o0], [(ov (i6 ((j + 1 : Nat) : Int))), o0]] [Qb n25, BF ((y34.Channel : Int) < 0), Qb n25, Qb z, BF ((y34.Channel : Int) ≥ ((c.Channels.xs.length : Nat) : Int)), Wr (((j : Int) : Int) + 1) (((j + 1 : Nat) : Int))] [(2, pt z), (49, .slice (some ⟨b27, o28, none⟩) x.Ports.xs.length x.Ports.cap), (q90v_6 x), (51, i6 ((j + 1 : Nat) : Int))] rfl ⟨rfl, bf (by omega), rfl, rfl, bf (by omega), wrI, trivial⟩ ?_
                 refine e_pick [0, 1, 2] [(old0 w), (q90v_1 z c), (q90v_0 z x)] rfl rfl ?_
                 refine e_eqk [2, 49, 50, 51] [(2, pt z), (q90v_4 x), (q90v_6 x), (51, i6 ((j + 1 : Nat) : Int))] (by (try dsimp only [q90v_0, q90v_1, q90v_2, q90v_3, q90v_4, q90v_5, q90v_6, q90v_7]); simp only [ha29]; rfl) ?_
                 refine e_inv (fun a w' hs => ⟨x.Ports.xs.length - (j + 1), by omega, (n25 + 1), (j + 1), rfl, by omega, by omega, upto hp (by rw [← hy34]; exact decide_eq_true (by omega)), hs⟩)
               · refine q_cS 9 0 [1] [[o0, (a1 3), oF, o0, o0, (a1 3), o0, (a1 1), o0, oT, o0], [o0]] [Qb n25, BF ((y34.Channel : Int) < 0), Qb n25, Qb z, BT ((y34.Channel : Int) ≥ ((c.Channels.xs.length : Nat) : Int))] [(4, .bool false)] rfl ⟨rfl, bf (by omega), rfl, rfl, bt (by omega), trivial⟩ ?_
                 refine e_ret [] [] (.bool false) trivial ?_
                 intro w38 hw38
                 refine ⟨congrArg (fun b => Ending.returned (Value.bool b)) (Eq.symm (?_ : partOk c.Channels.xs.length x = false)), back0 hw38⟩
                 unfold partOk
                 have e1 : x.Ports.xs.all (portOk c.Channels.xs.length) = false := all_no (k := j) (by omega) (by rw [← hy34]; exact decide_eq_false (by omega))
                 simp [e1]
           · refine q_cS 15 0 [0] [[oF], [o0]] [BF (((j : Int) : Int) < ((x.Ports.xs.length : Nat) : Int))] [(4, .bool true)] rfl ⟨bf (by omega), trivial⟩ ?_
             refine e_ret [] [] (.bool true) trivial ?_
             intro w39 hw39
             refine ⟨congrArg (fun b => Ending.returned (Value.bool b)) (Eq.symm (?_ : partOk c.Channels.xs.length x = true)), back0 hw39⟩
             have e1 : x.Regions.xs.all regOk = true := all_yes (fun i hi => hr i (by omega))
             have e2 : x.Ports.xs.all (portOk c.Channels.xs.length) = true := all_yes (fun i hi => hp i (by omega))
             simp only [partOk, e1, e2, Bool.and_true, Bool.and_eq_true, decide_eq_true_eq]
             omega

end Go.Proofs.YtnjhekfgmbpmlaaDoor.Ly
