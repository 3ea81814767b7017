/- layout: partition. No conditions. -/
import Derived.Test.YtpoeaajkgblkmaaTy
namespace Go.Proofs.Ytpoeaajkgblkmaa.Ly
open Go Go.Proofs.Ytpoeaajkgblkmaa.Eng Go.Proofs.Ytpoeaajkgblkmaa.Mem
set_option linter.unusedSimpArgs false
set_option linter.unusedVariables false
set_option maxRecDepth 100000

def regOk (g : TRegion) : Bool := decide (0 ≤ g.Page ∧ g.Page ≤ 256 ∧ 1 ≤ g.Pages ∧ g.Pages ≤ 256 - g.Page)
def portOk (n : Nat) (q : TPort) : Bool := decide (0 ≤ q.Channel ∧ q.Channel < n)
def partOk (n : Nat) (x : TPartition) : Bool := decide (x.Regions.xs.length ≤ 8) && decide (x.Ports.xs.length ≤ 8) && x.Regions.xs.all regOk && x.Ports.xs.all (portOk n)
theorem all_no {α : Type} [Inhabited α] {p : α → Bool} {xs : List α} {k : Nat} (hk : k < xs.length) (h : p (gd xs k) = false) : xs.all p = false := by
  rw [List.all_eq_false]
  refine ⟨xs[k], List.getElem_mem hk, ?_⟩
  rw [gd_eq hk] at h
  simpa using h
theorem all_yes {α : Type} [Inhabited α] {p : α → Bool} {xs : List α} (h : ∀ i, i < xs.length → p (gd xs i) = true) : xs.all p = true := by
  rw [List.all_eq_true]
  intro y hy
  obtain ⟨i, hi, rfl⟩ := List.getElem_of_mem hy
  have := h i hi
  rwa [gd_eq hi] at this
theorem upto {p : Nat → Prop} {k : Nat} (h : ∀ i, i < k → p i) (hk : p k) : ∀ i, i < k + 1 → p i := fun i hi => by
  by_cases e : i = k
  · subst e; exact hk
  · exact h i (by omega)
abbrev q90v_0 (z : Nat) (x : TPartition) : Ch := .blk (z + 1) (.cells (TPartition.arr x) 76 (0, 0)) true
abbrev q90v_1 (n6 : Nat) (y15 : TRegion) : Ch := .blk n6 (.cells (TRegion.arr y15) 78 (0, 0)) true
abbrev q90v_2 (n25 : Nat) (y34 : TPort) : Ch := .blk n25 (.cells (TPort.arr y34) 107 (0, 0)) true
abbrev q90v_3 (z : Nat) (c : TConfig) : Ch := .blk z (.cells (TConfig.arr c) 30 (0, 0)) true
theorem partition_calls (w : World) (c : TConfig) (x : TPartition) (hc : TConfig.ok Any w c) (hx : TPartition.ok Any w x) : Calls Try.prog 48 #[.agg (TConfig.arr c), .agg (TPartition.arr x)] w fun e w' => e = .returned (.bool (partOk c.Channels.xs.length x)) ∧ Keeps (fun _ => False) w w' := by
 obtain ⟨z, hz⟩ : ∃ z, z = w.heap.size := ⟨_, rfl⟩
 refine calls_G (args := [.agg (TConfig.arr c), .agg (TPartition.arr x)]) 67 ⟨w, z, [(old0 w)]⟩ Try.func48 rfl (by kernel_rfl) (by kernel_rfl) (sat_0 hz) ?_
 refine g_keep [0, 1] [(0, .agg (TConfig.arr c)), (1, .agg (TPartition.arr x))] ?_
 refine g_seq <| g_region <| l_all 3 [o0, o0, o0] [2, 3] [] [(2, .pointer (some ⟨z, 0, none⟩)), (3, .pointer (some ⟨z + 1, 0, none⟩))] ⟨w, z + 2, [(old0 w), (q90v_3 z c), (q90v_0 z x)]⟩ trivial ?_
 refine e_seq <| g_seq <| g_seq ?_
 by_cases h1 : (8 : Int) < ((x.Regions.xs.length : Nat) : Int)
 · refine g_region <| l_all 10 [o0, (oa [.at 2]), o0, oT, o0, o0] [2, 3, 18] [Qb (z + 1), BT ((((x.Regions.xs.length : Nat) : Int) : Int) > 8)] [(2, .pointer (some ⟨z, 0, none⟩)), (3, .pointer (some ⟨z + 1, 0, none⟩)), (18, .bool true)] ⟨w, z + 2, [(old0 w), (q90v_3 z c), (q90v_0 z x)]⟩ ⟨rfl, bt (by omega), trivial⟩ ?_
   refine e_seq <| g_true <| g_seq <| g_region <| l_all 1 [o0] [4] [] [(4, .bool false)] ⟨w, z + 2, [(old0 w), (q90v_3 z c), (q90v_0 z x)]⟩ trivial ?_
   refine e_seq <| g_ret <| e_ret [] [] (.bool false) trivial ?_
   intro w2 hw2
   refine ⟨congrArg (fun b => Ending.returned (Value.bool b)) (Eq.symm (?_ : partOk c.Channels.xs.length x = false)), hw2.back rfl (show w.heap.size ≤ z + 2 by omega) (List.mem_cons_self ..)⟩
   unfold partOk
   first
     | (have e1 : decide (x.Regions.xs.length ≤ 8) = false := decide_eq_false (by omega)); simp [e1]
     | (have e1 : decide (x.Ports.xs.length ≤ 8) = false := decide_eq_false (by omega)); simp [e1]
 · by_cases h3 : (8 : Int) < ((x.Ports.xs.length : Nat) : Int)
   · refine g_region <| l_all 10 [o0, (oa [.at 2]), o0, oF, o0, o0, (oa [.at 2]), o0, oT, o0] [2, 3, 18] [Qb (z + 1), BF ((((x.Regions.xs.length : Nat) : Int) : Int) > 8), Qb (z + 1), BT ((((x.Ports.xs.length : Nat) : Int) : Int) > 8)] [(2, .pointer (some ⟨z, 0, none⟩)), (3, .pointer (some ⟨z + 1, 0, none⟩)), (18, .bool true)] ⟨w, z + 2, [(old0 w), (q90v_3 z c), (q90v_0 z x)]⟩ ⟨rfl, bf (by omega), rfl, bt (by omega), trivial⟩ ?_
     refine e_seq <| g_true <| g_seq <| g_region <| l_all 1 [o0] [4] [] [(4, .bool false)] ⟨w, z + 2, [(old0 w), (q90v_3 z c), (q90v_0 z x)]⟩ trivial ?_
     refine e_seq <| g_ret <| e_ret [] [] (.bool false) trivial ?_
     intro w4 hw4
     refine ⟨congrArg (fun b => Ending.returned (Value.bool b)) (Eq.symm (?_ : partOk c.Channels.xs.length x = false)), hw4.back rfl (show w.heap.size ≤ z + 2 by omega) (List.mem_cons_self ..)⟩
     unfold partOk
     first
       | (have e1 : decide (x.Regions.xs.length ≤ 8) = false := decide_eq_false (by omega)); simp [e1]
       | (have e1 : decide (x.Ports.xs.length ≤ 8) = false := decide_eq_false (by omega)); simp [e1]
   · refine g_region <| l_all 10 [o0, (oa [.at 2]), o0, oF, o0, o0, (oa [.at 2]), o0, oF, o0] [2, 3, 18] [Qb (z + 1), BF ((((x.Regions.xs.length : Nat) : Int) : Int) > 8), Qb (z + 1), BF ((((x.Ports.xs.length : Nat) : Int) : Int) > 8)] [(2, .pointer (some ⟨z, 0, none⟩)), (3, .pointer (some ⟨z + 1, 0, none⟩)), (18, .bool false)] ⟨w, z + 2, [(old0 w), (q90v_3 z c), (q90v_0 z x)]⟩ ⟨rfl, bf (by omega), rfl, bf (by omega), trivial⟩ ?_
     refine e_seq <| g_false <| g_skip <| e_seq <| g_seq <| g_seq <| g_region <| l_all 4 [o0, (oa [.at 2]), o0, o0] [2, 3, 20, 21, 22] [Qb (z + 1)] [(2, .pointer (some ⟨z, 0, none⟩)), (3, .pointer (some ⟨z + 1, 0, none⟩)), (20, .slice x.Regions.a x.Regions.xs.length x.Regions.cap), (21, .int .i64 ((x.Regions.xs.length : Nat) : Int)), (22, .int .i64 0)] ⟨w, z + 2, [(old0 w), (q90v_3 z c), (q90v_0 z x)]⟩ ⟨rfl, trivial⟩ ?_
     refine e_seq <| g_block <| g_loop (fun m a w' => ∃ (n6 : Nat) (k : Nat), m = x.Regions.xs.length - k ∧ z + 2 ≤ n6 ∧ (k ≤ x.Regions.xs.length) ∧ (∀ i, i < k → regOk (gd x.Regions.xs i) = true) ∧ St 67 [(2, .pointer (some ⟨z, 0, none⟩)), (3, .pointer (some ⟨z + 1, 0, none⟩)), (20, .slice x.Regions.a x.Regions.xs.length x.Regions.cap), (21, .int .i64 ((x.Regions.xs.length : Nat) : Int)), (22, .int .i64 (k : Int))] [] ⟨w, n6, [(old0 w), (q90v_3 z c), (q90v_0 z x)]⟩ a w') (x.Regions.xs.length - 0) ?_ ?_
     · intro a w' hs; exact ⟨(z + 2), 0, rfl, Nat.le_refl _, Nat.zero_le _, fun i hi => absurd hi (Nat.not_lt_zero i), hs⟩
     · rintro m a w' ⟨n6, k, rfl, hn5, hkk, hr, hs⟩
       refine (?_ : G Try.prog 67 [(2, .pointer (some ⟨z, 0, none⟩)), (3, .pointer (some ⟨z + 1, 0, none⟩)), (20, .slice x.Regions.a x.Regions.xs.length x.Regions.cap), (21, .int .i64 ((x.Regions.xs.length : Nat) : Int)), (22, .int .i64 (k : Int))] [] ⟨w, n6, [(old0 w), (q90v_3 z c), (q90v_0 z x)]⟩ _ _ _) a w' hs
       clear hs a w'
       refine g_seq ?_
       by_cases h7 : ((k : Int) : Int) < ((x.Regions.xs.length : Nat) : Int)
       · refine g_region <| l_all 1 [oT] [2, 3, 20, 21, 22, 23] [BT (((k : Int) : Int) < ((x.Regions.xs.length : Nat) : Int))] [(2, .pointer (some ⟨z, 0, none⟩)), (3, .pointer (some ⟨z + 1, 0, none⟩)), (20, .slice x.Regions.a x.Regions.xs.length x.Regions.cap), (21, .int .i64 ((x.Regions.xs.length : Nat) : Int)), (22, .int .i64 (k : Int)), (23, .bool true)] ⟨w, n6, [(old0 w), (q90v_3 z c), (q90v_0 z x)]⟩ ⟨bt (by omega), trivial⟩ ?_
         refine e_seq <| g_seq <| g_true <| g_skip <| e_seq <| g_seq <| g_block <| g_seq ?_
         obtain ⟨b8, o9, ha10, hF12, hc11⟩ := (hx.Regions).1.all (show 0 < x.Regions.xs.length by omega)
         replace ha10 : x.Regions.a = some ⟨b8, o9, none⟩ := ha10
         refine g_eq [(2, .pointer (some ⟨z, 0, none⟩)), (3, .pointer (some ⟨z + 1, 0, none⟩)), (20, .slice (some ⟨b8, o9, none⟩) x.Regions.xs.length x.Regions.cap), (21, .int .i64 ((x.Regions.xs.length : Nat) : Int)), (22, .int .i64 (k : Int)), (23, .bool true)] (by simp only [ha10]) ?_
         have hc13 := hc11 k (show k < x.Regions.xs.length by omega)
         have he14 := (hx.Regions).2 k (show k < x.Regions.xs.length by omega)
         obtain ⟨y15, hy15⟩ : ∃ y_, y_ = gd x.Regions.xs k := ⟨_, rfl⟩
         rw [← hy15] at he14 hc13
         refine g_region <| l_all 4 [(oi k), (ol 0 (TRegion.arr y15)), o0, (oa [.at 3, .at 3, .at 3, .at 3])] [2, 3, 20, 21, 22, 6] [((k : Int) : Int) = ((k : Nat) : Int), k < x.Regions.xs.length, (none : Option Nat) = none, OldR w b8 (o9 + k * 4) (TRegion.arr y15), Qb n6, Qb n6, Qb n6, Qb n6] [(2, .pointer (some ⟨z, 0, none⟩)), (3, .pointer (some ⟨z + 1, 0, none⟩)), (20, .slice (some ⟨b8, o9, none⟩) x.Regions.xs.length x.Regions.cap), (21, .int .i64 ((x.Regions.xs.length : Nat) : Int)), (22, .int .i64 (k : Int)), (6, .pointer (some ⟨n6, 0, none⟩))] ⟨w, n6 + 1, [(old0 w), (q90v_3 z c), (q90v_0 z x), (q90v_1 n6 y15)]⟩ ⟨rfl, (by omega), rfl, old_row hc13, rfl, rfl, rfl, rfl, trivial⟩ ?_
         refine e_seq <| g_seq ?_
         by_cases h16 : (y15.Page : Int) < 0
         · refine g_region <| l_all 21 [o0, (oa [.at 3]), oT, o0, o0, o0, o0, o0, o0] [2, 3, 20, 21, 22, 46] [Qb n6, BT ((y15.Page : Int) < 0)] [(2, .pointer (some ⟨z, 0, none⟩)), (3, .pointer (some ⟨z + 1, 0, none⟩)), (20, .slice (some ⟨b8, o9, none⟩) x.Regions.xs.length x.Regions.cap), (21, .int .i64 ((x.Regions.xs.length : Nat) : Int)), (22, .int .i64 (k : Int)), (46, .bool true)] ⟨w, n6 + 1, [(old0 w), (q90v_3 z c), (q90v_0 z x), (q90v_1 n6 y15)]⟩ ⟨rfl, bt (by omega), trivial⟩ ?_
           refine e_seq <| g_true <| g_seq <| g_region <| l_all 1 [o0] [4] [] [(4, .bool false)] ⟨w, n6 + 1, [(old0 w), (q90v_3 z c), (q90v_0 z x), (q90v_1 n6 y15)]⟩ trivial ?_
           refine e_seq <| g_ret <| e_ret [] [] (.bool false) trivial ?_
           intro w17 hw17
           refine ⟨congrArg (fun b => Ending.returned (Value.bool b)) (Eq.symm (?_ : partOk c.Channels.xs.length x = false)), hw17.back rfl (show w.heap.size ≤ n6 + 1 by omega) (List.mem_cons_self ..)⟩
           unfold partOk
           have e1 : x.Regions.xs.all regOk = false := all_no (k := k) (by omega) (by rw [← hy15]; exact decide_eq_false (by omega))
           simp [e1]
         · by_cases h18 : (256 : Int) < y15.Page
           · refine g_region <| l_all 21 [o0, (oa [.at 3]), oF, o0, o0, (oa [.at 3]), oT, o0, o0, o0, o0, o0] [2, 3, 20, 21, 22, 46] [Qb n6, BF ((y15.Page : Int) < 0), Qb n6, BT ((y15.Page : Int) > 256)] [(2, .pointer (some ⟨z, 0, none⟩)), (3, .pointer (some ⟨z + 1, 0, none⟩)), (20, .slice (some ⟨b8, o9, none⟩) x.Regions.xs.length x.Regions.cap), (21, .int .i64 ((x.Regions.xs.length : Nat) : Int)), (22, .int .i64 (k : Int)), (46, .bool true)] ⟨w, n6 + 1, [(old0 w), (q90v_3 z c), (q90v_0 z x), (q90v_1 n6 y15)]⟩ ⟨rfl, bf (by omega), rfl, bt (by omega), trivial⟩ ?_
             refine e_seq <| g_true <| g_seq <| g_region <| l_all 1 [o0] [4] [] [(4, .bool false)] ⟨w, n6 + 1, [(old0 w), (q90v_3 z c), (q90v_0 z x), (q90v_1 n6 y15)]⟩ trivial ?_
             refine e_seq <| g_ret <| e_ret [] [] (.bool false) trivial ?_
             intro w19 hw19
             refine ⟨congrArg (fun b => Ending.returned (Value.bool b)) (Eq.symm (?_ : partOk c.Channels.xs.length x = false)), hw19.back rfl (show w.heap.size ≤ n6 + 1 by omega) (List.mem_cons_self ..)⟩
             unfold partOk
             have e1 : x.Regions.xs.all regOk = false := all_no (k := k) (by omega) (by rw [← hy15]; exact decide_eq_false (by omega))
             simp [e1]
           · by_cases h20 : (y15.Pages : Int) < 1
             · refine g_region <| l_all 21 [o0, (oa [.at 3]), oF, o0, o0, (oa [.at 3]), oF, o0, o0, o0, (oa [.at 3]), oT, o0, o0, o0] [2, 3, 20, 21, 22, 46] [Qb n6, BF ((y15.Page : Int) < 0), Qb n6, BF ((y15.Page : Int) > 256), Qb n6, BT ((y15.Pages : Int) < 1)] [(2, .pointer (some ⟨z, 0, none⟩)), (3, .pointer (some ⟨z + 1, 0, none⟩)), (20, .slice (some ⟨b8, o9, none⟩) x.Regions.xs.length x.Regions.cap), (21, .int .i64 ((x.Regions.xs.length : Nat) : Int)), (22, .int .i64 (k : Int)), (46, .bool true)] ⟨w, n6 + 1, [(old0 w), (q90v_3 z c), (q90v_0 z x), (q90v_1 n6 y15)]⟩ ⟨rfl, bf (by omega), rfl, bf (by omega), rfl, bt (by omega), trivial⟩ ?_
               refine e_seq <| g_true <| g_seq <| g_region <| l_all 1 [o0] [4] [] [(4, .bool false)] ⟨w, n6 + 1, [(old0 w), (q90v_3 z c), (q90v_0 z x), (q90v_1 n6 y15)]⟩ trivial ?_
               refine e_seq <| g_ret <| e_ret [] [] (.bool false) trivial ?_
               intro w21 hw21
               refine ⟨congrArg (fun b => Ending.returned (Value.bool b)) (Eq.symm (?_ : partOk c.Channels.xs.length x = false)), hw21.back rfl (show w.heap.size ≤ n6 + 1 by omega) (List.mem_cons_self ..)⟩
               unfold partOk
               have e1 : x.Regions.xs.all regOk = false := all_no (k := k) (by omega) (by rw [← hy15]; exact decide_eq_false (by omega))
               simp [e1]
             · by_cases h22 : (256 - y15.Page : Int) < y15.Pages
               · refine g_region <| l_all 21 [o0, (oa [.at 3]), oF, o0, o0, (oa [.at 3]), oF, o0, o0, o0, (oa [.at 3]), oF, o0, o0, o0, (oa [.at 3]), o0, (oa [.at 3]), (ov (.int .i64 (256 - y15.Page))), oT, o0] [2, 3, 20, 21, 22, 46] [Qb n6, BF ((y15.Page : Int) < 0), Qb n6, BF ((y15.Page : Int) > 256), Qb n6, BF ((y15.Pages : Int) < 1), Qb n6, Qb n6, Value.int .i64 (IntKind.i64.wrap ((256 : Int) - y15.Page)) = Value.int .i64 (256 - y15.Page), BT ((y15.Pages : Int) > (256 - y15.Page))] [(2, .pointer (some ⟨z, 0, none⟩)), (3, .pointer (some ⟨z + 1, 0, none⟩)), (20, .slice (some ⟨b8, o9, none⟩) x.Regions.xs.length x.Regions.cap), (21, .int .i64 ((x.Regions.xs.length : Nat) : Int)), (22, .int .i64 (k : Int)), (46, .bool true)] ⟨w, n6 + 1, [(old0 w), (q90v_3 z c), (q90v_0 z x), (q90v_1 n6 y15)]⟩ ⟨rfl, bf (by omega), rfl, bf (by omega), rfl, bf (by omega), rfl, rfl, congrArg (Value.int .i64) (wr_i64 (by omega) (by omega) (by omega)), bt (by omega), trivial⟩ ?_
                 refine e_seq <| g_true <| g_seq <| g_region <| l_all 1 [o0] [4] [] [(4, .bool false)] ⟨w, n6 + 1, [(old0 w), (q90v_3 z c), (q90v_0 z x), (q90v_1 n6 y15)]⟩ trivial ?_
                 refine e_seq <| g_ret <| e_ret [] [] (.bool false) trivial ?_
                 intro w23 hw23
                 refine ⟨congrArg (fun b => Ending.returned (Value.bool b)) (Eq.symm (?_ : partOk c.Channels.xs.length x = false)), hw23.back rfl (show w.heap.size ≤ n6 + 1 by omega) (List.mem_cons_self ..)⟩
                 unfold partOk
                 have e1 : x.Regions.xs.all regOk = false := all_no (k := k) (by omega) (by rw [← hy15]; exact decide_eq_false (by omega))
                 simp [e1]
               · refine g_region <| l_all 21 [o0, (oa [.at 3]), oF, o0, o0, (oa [.at 3]), oF, o0, o0, o0, (oa [.at 3]), oF, o0, o0, o0, (oa [.at 3]), o0, (oa [.at 3]), (ov (.int .i64 (256 - y15.Page))), oF, o0] [2, 3, 20, 21, 22, 46] [Qb n6, BF ((y15.Page : Int) < 0), Qb n6, BF ((y15.Page : Int) > 256), Qb n6, BF ((y15.Pages : Int) < 1), Qb n6, Qb n6, Value.int .i64 (IntKind.i64.wrap ((256 : Int) - y15.Page)) = Value.int .i64 (256 - y15.Page), BF ((y15.Pages : Int) > (256 - y15.Page))] [(2, .pointer (some ⟨z, 0, none⟩)), (3, .pointer (some ⟨z + 1, 0, none⟩)), (20, .slice (some ⟨b8, o9, none⟩) x.Regions.xs.length x.Regions.cap), (21, .int .i64 ((x.Regions.xs.length : Nat) : Int)), (22, .int .i64 (k : Int)), (46, .bool false)] ⟨w, n6 + 1, [(old0 w), (q90v_3 z c), (q90v_0 z x), (q90v_1 n6 y15)]⟩ ⟨rfl, bf (by omega), rfl, bf (by omega), rfl, bf (by omega), rfl, rfl, congrArg (Value.int .i64) (wr_i64 (by omega) (by omega) (by omega)), bf (by omega), trivial⟩ ?_
                 refine e_seq <| g_false <| g_skip <| e_blk <| e_seq <| g_region <| l_all 2 [(ov (.int .i64 ((k + 1 : Nat) : Int))), o0] [2, 3, 20, 21, 22] [Value.int .i64 (IntKind.i64.wrap (((k : Int) : Int) + 1)) = Value.int .i64 (((k + 1 : Nat) : Int))] [(2, .pointer (some ⟨z, 0, none⟩)), (3, .pointer (some ⟨z + 1, 0, none⟩)), (20, .slice (some ⟨b8, o9, none⟩) x.Regions.xs.length x.Regions.cap), (21, .int .i64 ((x.Regions.xs.length : Nat) : Int)), (22, .int .i64 ((k + 1 : Nat) : Int))] ⟨w, n6 + 1, [(old0 w), (q90v_3 z c), (q90v_0 z x), (q90v_1 n6 y15)]⟩ ⟨congrArg (Value.int .i64) (wr_i64 (by omega) (by omega) (by omega)), trivial⟩ ?_
                 refine e_pick [0, 1, 2] [(old0 w), (q90v_3 z c), (q90v_0 z x)] rfl rfl ?_
                 refine e_eqk [2, 3, 20, 21, 22] [(2, .pointer (some ⟨z, 0, none⟩)), (3, .pointer (some ⟨z + 1, 0, none⟩)), (20, .slice x.Regions.a x.Regions.xs.length x.Regions.cap), (21, .int .i64 ((x.Regions.xs.length : Nat) : Int)), (22, .int .i64 ((k + 1 : Nat) : Int))] (by simp only [ha10]; rfl) ?_
                 refine e_inv (fun a w' hs => ⟨x.Regions.xs.length - (k + 1), by omega, (n6 + 1), (k + 1), rfl, by omega, by omega, upto hr (by rw [← hy15]; exact decide_eq_true (by omega)), hs⟩)
       · refine g_region <| l_all 1 [oF] [2, 3, 20, 21, 22, 23] [BF (((k : Int) : Int) < ((x.Regions.xs.length : Nat) : Int))] [(2, .pointer (some ⟨z, 0, none⟩)), (3, .pointer (some ⟨z + 1, 0, none⟩)), (20, .slice x.Regions.a x.Regions.xs.length x.Regions.cap), (21, .int .i64 ((x.Regions.xs.length : Nat) : Int)), (22, .int .i64 (k : Int)), (23, .bool false)] ⟨w, n6, [(old0 w), (q90v_3 z c), (q90v_0 z x)]⟩ ⟨bf (by omega), trivial⟩ ?_
         refine e_seq <| g_seq <| g_false <| g_exit <| e_out <| e_outI <| e_hit <| e_seq <| g_seq <| g_seq <| g_region <| l_all 4 [o0, (oa [.at 2]), o0, o0] [2, 49, 50, 51] [Qb (z + 1)] [(2, .pointer (some ⟨z, 0, none⟩)), (49, .slice x.Ports.a x.Ports.xs.length x.Ports.cap), (50, .int .i64 ((x.Ports.xs.length : Nat) : Int)), (51, .int .i64 0)] ⟨w, n6, [(old0 w), (q90v_3 z c), (q90v_0 z x)]⟩ ⟨rfl, trivial⟩ ?_
         refine e_seq <| g_block <| g_loop (fun m a w' => ∃ (n25 : Nat) (j : Nat), m = x.Ports.xs.length - j ∧ n6 ≤ n25 ∧ (j ≤ x.Ports.xs.length) ∧ (∀ i, i < j → portOk c.Channels.xs.length (gd x.Ports.xs i) = true) ∧ St 67 [(2, .pointer (some ⟨z, 0, none⟩)), (49, .slice x.Ports.a x.Ports.xs.length x.Ports.cap), (50, .int .i64 ((x.Ports.xs.length : Nat) : Int)), (51, .int .i64 (j : Int))] [] ⟨w, n25, [(old0 w), (q90v_3 z c), (q90v_0 z x)]⟩ a w') (x.Ports.xs.length - 0) ?_ ?_
         · intro a w' hs; exact ⟨n6, 0, rfl, Nat.le_refl _, Nat.zero_le _, fun i hi => absurd hi (Nat.not_lt_zero i), hs⟩
         · rintro m a w' ⟨n25, j, rfl, hn24, hkj, hp, hs⟩
           refine (?_ : G Try.prog 67 [(2, .pointer (some ⟨z, 0, none⟩)), (49, .slice x.Ports.a x.Ports.xs.length x.Ports.cap), (50, .int .i64 ((x.Ports.xs.length : Nat) : Int)), (51, .int .i64 (j : Int))] [] ⟨w, n25, [(old0 w), (q90v_3 z c), (q90v_0 z x)]⟩ _ _ _) a w' hs
           clear hs a w'
           refine g_seq ?_
           by_cases h26 : ((j : Int) : Int) < ((x.Ports.xs.length : Nat) : Int)
           · refine g_region <| l_all 1 [oT] [2, 49, 50, 51, 52] [BT (((j : Int) : Int) < ((x.Ports.xs.length : Nat) : Int))] [(2, .pointer (some ⟨z, 0, none⟩)), (49, .slice x.Ports.a x.Ports.xs.length x.Ports.cap), (50, .int .i64 ((x.Ports.xs.length : Nat) : Int)), (51, .int .i64 (j : Int)), (52, .bool true)] ⟨w, n25, [(old0 w), (q90v_3 z c), (q90v_0 z x)]⟩ ⟨bt (by omega), trivial⟩ ?_
             refine e_seq <| g_seq <| g_true <| g_skip <| e_seq <| g_seq <| g_block <| g_seq ?_
             obtain ⟨b27, o28, ha29, hF31, hc30⟩ := (hx.Ports).1.all (show 0 < x.Ports.xs.length by omega)
             replace ha29 : x.Ports.a = some ⟨b27, o28, none⟩ := ha29
             refine g_eq [(2, .pointer (some ⟨z, 0, none⟩)), (49, .slice (some ⟨b27, o28, none⟩) x.Ports.xs.length x.Ports.cap), (50, .int .i64 ((x.Ports.xs.length : Nat) : Int)), (51, .int .i64 (j : Int)), (52, .bool true)] (by simp only [ha29]) ?_
             have hc32 := hc30 j (show j < x.Ports.xs.length by omega)
             have he33 := (hx.Ports).2 j (show j < x.Ports.xs.length by omega)
             obtain ⟨y34, hy34⟩ : ∃ y_, y_ = gd x.Ports.xs j := ⟨_, rfl⟩
             rw [← hy34] at he33 hc32
             refine g_region <| l_all 4 [(oi j), (ol 0 (TPort.arr y34)), o0, (oa [.at 3, .at 3])] [2, 49, 50, 51, 8] [((j : Int) : Int) = ((j : Nat) : Int), j < x.Ports.xs.length, (none : Option Nat) = none, OldR w b27 (o28 + j * 2) (TPort.arr y34), Qb n25, Qb n25] [(2, .pointer (some ⟨z, 0, none⟩)), (49, .slice (some ⟨b27, o28, none⟩) x.Ports.xs.length x.Ports.cap), (50, .int .i64 ((x.Ports.xs.length : Nat) : Int)), (51, .int .i64 (j : Int)), (8, .pointer (some ⟨n25, 0, none⟩))] ⟨w, n25 + 1, [(old0 w), (q90v_3 z c), (q90v_0 z x), (q90v_2 n25 y34)]⟩ ⟨rfl, (by omega), rfl, old_row hc32, rfl, rfl, trivial⟩ ?_
             refine e_seq <| g_seq ?_
             by_cases h35 : (y34.Channel : Int) < 0
             · refine g_region <| l_all 11 [o0, (oa [.at 3]), oT, o0, o0] [2, 49, 50, 51, 65] [Qb n25, BT ((y34.Channel : Int) < 0)] [(2, .pointer (some ⟨z, 0, none⟩)), (49, .slice (some ⟨b27, o28, none⟩) x.Ports.xs.length x.Ports.cap), (50, .int .i64 ((x.Ports.xs.length : Nat) : Int)), (51, .int .i64 (j : Int)), (65, .bool true)] ⟨w, n25 + 1, [(old0 w), (q90v_3 z c), (q90v_0 z x), (q90v_2 n25 y34)]⟩ ⟨rfl, bt (by omega), trivial⟩ ?_
               refine e_seq <| g_true <| g_seq <| g_region <| l_all 1 [o0] [4] [] [(4, .bool false)] ⟨w, n25 + 1, [(old0 w), (q90v_3 z c), (q90v_0 z x), (q90v_2 n25 y34)]⟩ trivial ?_
               refine e_seq <| g_ret <| e_ret [] [] (.bool false) trivial ?_
               intro w36 hw36
               refine ⟨congrArg (fun b => Ending.returned (Value.bool b)) (Eq.symm (?_ : partOk c.Channels.xs.length x = false)), hw36.back rfl (show w.heap.size ≤ n25 + 1 by omega) (List.mem_cons_self ..)⟩
               unfold partOk
               have e1 : x.Ports.xs.all (portOk c.Channels.xs.length) = false := all_no (k := j) (by omega) (by rw [← hy34]; exact decide_eq_false (by omega))
               simp [e1]
             · by_cases h37 : (y34.Channel : Int) < ((c.Channels.xs.length : Nat) : Int)
               · refine g_region <| l_all 11 [o0, (oa [.at 3]), oF, o0, o0, (oa [.at 3]), o0, (oa [.at 1]), o0, oF, o0] [2, 49, 50, 51, 65] [Qb n25, BF ((y34.Channel : Int) < 0), Qb n25, Qb z, BF ((y34.Channel : Int) ≥ ((c.Channels.xs.length : Nat) : Int))] [(2, .pointer (some ⟨z, 0, none⟩)), (49, .slice (some ⟨b27, o28, none⟩) x.Ports.xs.length x.Ports.cap), (50, .int .i64 ((x.Ports.xs.length : Nat) : Int)), (51, .int .i64 (j : Int)), (65, .bool false)] ⟨w, n25 + 1, [(old0 w), (q90v_3 z c), (q90v_0 z x), (q90v_2 n25 y34)]⟩ ⟨rfl, bf (by omega), rfl, rfl, bf (by omega), trivial⟩ ?_
                 refine e_seq <| g_false <| g_skip <| e_blk <| e_seq <| g_region <| l_all 2 [(ov (.int .i64 ((j + 1 : Nat) : Int))), o0] [2, 49, 50, 51] [Value.int .i64 (IntKind.i64.wrap (((j : Int) : Int) + 1)) = Value.int .i64 (((j + 1 : Nat) : Int))] [(2, .pointer (some ⟨z, 0, none⟩)), (49, .slice (some ⟨b27, o28, none⟩) x.Ports.xs.length x.Ports.cap), (50, .int .i64 ((x.Ports.xs.length : Nat) : Int)), (51, .int .i64 ((j + 1 : Nat) : Int))] ⟨w, n25 + 1, [(old0 w), (q90v_3 z c), (q90v_0 z x), (q90v_2 n25 y34)]⟩ ⟨congrArg (Value.int .i64) (wr_i64 (by omega) (by omega) (by omega)), trivial⟩ ?_
                 refine e_pick [0, 1, 2] [(old0 w), (q90v_3 z c), (q90v_0 z x)] rfl rfl ?_
                 refine e_eqk [2, 49, 50, 51] [(2, .pointer (some ⟨z, 0, none⟩)), (49, .slice x.Ports.a x.Ports.xs.length x.Ports.cap), (50, .int .i64 ((x.Ports.xs.length : Nat) : Int)), (51, .int .i64 ((j + 1 : Nat) : Int))] (by simp only [ha29]; rfl) ?_
                 refine e_inv (fun a w' hs => ⟨x.Ports.xs.length - (j + 1), by omega, (n25 + 1), (j + 1), rfl, by omega, by omega, upto hp (by rw [← hy34]; exact decide_eq_true (by omega)), hs⟩)
               · refine g_region <| l_all 11 [o0, (oa [.at 3]), oF, o0, o0, (oa [.at 3]), o0, (oa [.at 1]), o0, oT, o0] [2, 49, 50, 51, 65] [Qb n25, BF ((y34.Channel : Int) < 0), Qb n25, Qb z, BT ((y34.Channel : Int) ≥ ((c.Channels.xs.length : Nat) : Int))] [(2, .pointer (some ⟨z, 0, none⟩)), (49, .slice (some ⟨b27, o28, none⟩) x.Ports.xs.length x.Ports.cap), (50, .int .i64 ((x.Ports.xs.length : Nat) : Int)), (51, .int .i64 (j : Int)), (65, .bool true)] ⟨w, n25 + 1, [(old0 w), (q90v_3 z c), (q90v_0 z x), (q90v_2 n25 y34)]⟩ ⟨rfl, bf (by omega), rfl, rfl, bt (by omega), trivial⟩ ?_
                 refine e_seq <| g_true <| g_seq <| g_region <| l_all 1 [o0] [4] [] [(4, .bool false)] ⟨w, n25 + 1, [(old0 w), (q90v_3 z c), (q90v_0 z x), (q90v_2 n25 y34)]⟩ trivial ?_
                 refine e_seq <| g_ret <| e_ret [] [] (.bool false) trivial ?_
                 intro w38 hw38
                 refine ⟨congrArg (fun b => Ending.returned (Value.bool b)) (Eq.symm (?_ : partOk c.Channels.xs.length x = false)), hw38.back rfl (show w.heap.size ≤ n25 + 1 by omega) (List.mem_cons_self ..)⟩
                 unfold partOk
                 have e1 : x.Ports.xs.all (portOk c.Channels.xs.length) = false := all_no (k := j) (by omega) (by rw [← hy34]; exact decide_eq_false (by omega))
                 simp [e1]
           · refine g_region <| l_all 1 [oF] [2, 49, 50, 51, 52] [BF (((j : Int) : Int) < ((x.Ports.xs.length : Nat) : Int))] [(2, .pointer (some ⟨z, 0, none⟩)), (49, .slice x.Ports.a x.Ports.xs.length x.Ports.cap), (50, .int .i64 ((x.Ports.xs.length : Nat) : Int)), (51, .int .i64 (j : Int)), (52, .bool false)] ⟨w, n25, [(old0 w), (q90v_3 z c), (q90v_0 z x)]⟩ ⟨bf (by omega), trivial⟩ ?_
             refine e_seq <| g_seq <| g_false <| g_exit <| e_out <| e_outI <| e_hit <| e_seq <| g_seq <| g_region <| l_all 1 [o0] [4] [] [(4, .bool true)] ⟨w, n25, [(old0 w), (q90v_3 z c), (q90v_0 z x)]⟩ trivial ?_
             refine e_seq <| g_ret <| e_ret [] [] (.bool true) trivial ?_
             intro w39 hw39
             refine ⟨congrArg (fun b => Ending.returned (Value.bool b)) (Eq.symm (?_ : partOk c.Channels.xs.length x = true)), hw39.back rfl (show w.heap.size ≤ n25 by omega) (List.mem_cons_self ..)⟩
             have e1 : x.Regions.xs.all regOk = true := all_yes (fun i hi => hr i (by omega))
             have e2 : x.Ports.xs.all (portOk c.Channels.xs.length) = true := all_yes (fun i hi => hp i (by omega))
             simp only [partOk, e1, e2, Bool.and_true, Bool.and_eq_true, decide_eq_true_eq]
             omega

end Go.Proofs.Ytpoeaajkgblkmaa.Ly
