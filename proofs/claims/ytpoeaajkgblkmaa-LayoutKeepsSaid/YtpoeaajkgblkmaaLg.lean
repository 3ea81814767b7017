/- layout: tables. No conditions. -/
import Derived.Test.YtpoeaajkgblkmaaLf
namespace Go.Proofs.Ytpoeaajkgblkmaa.Ly
open Go Go.Proofs.Ytpoeaajkgblkmaa.Eng Go.Proofs.Ytpoeaajkgblkmaa.Mem
set_option linter.unusedSimpArgs false
set_option linter.unusedVariables false
set_option maxRecDepth 100000

def tabsOf (g : TRegion) (n : Nat) : List Nat := (List.range n).map (fun (k : Nat) => ((g.Page + (k : Int)) / 16).toNat)
def tabsUp (x : TPartition) (i : Nat) : List Nat := (List.range i).flatMap (fun r => tabsOf (gd x.Regions.xs r) (gd x.Regions.xs r).Pages.toNat)
def markA (l : List Nat) : Array Value := ((List.range 16).map (fun t => Value.bool (l.contains t))).toArray
theorem mark_size (l : List Nat) : (markA l).size = 16 := by simp [markA]
theorem mark_at (l : List Nat) {t : Nat} (h : t < 16) : (markA l)[t]? = some (Value.bool (l.contains t)) := by simp [markA, h]
theorem mark_push (l : List Nat) (t : Nat) : markA (l ++ [t]) = (markA l).setIfInBounds t (.bool true) := by
  apply Array.ext_getElem?
  intro i
  rw [Array.getElem?_setIfInBounds, mark_size]
  by_cases hi : i < 16
  · rw [mark_at _ hi, mark_at _ hi]
    by_cases e : t = i
    · subst e; simp [hi]
    · rw [if_neg e]
      simp [Ne.symm e]
  · have h1 : ∀ l, (markA l)[i]? = none := fun l => Array.getElem?_eq_none (by rw [mark_size]; omega)
    rw [h1, h1]
    by_cases e : t = i
    · subst e; simp [hi]
    · simp [e]
theorem tabsOf_succ {g : TRegion} {k : Nat} : tabsOf g (k + 1) = tabsOf g k ++ [((g.Page + (k : Int)) / 16).toNat] := by
  unfold tabsOf; rw [List.range_succ, List.map_append]; rfl
theorem tabsUp_succ {x : TPartition} {i : Nat} : tabsUp x (i + 1) = tabsUp x i ++ tabsOf (gd x.Regions.xs i) (gd x.Regions.xs i).Pages.toNat := by
  unfold tabsUp; rw [List.range_succ, List.flatMap_append]; simp
def tabsN (x : TPartition) : Nat := (List.range 16).countP (fun t => (tabsUp x x.Regions.xs.length).contains t)
theorem cntr_succ {p : Nat → Bool} {j : Nat} : (List.range (j + 1)).countP p = (List.range j).countP p + if p j then 1 else 0 := by
  rw [List.range_succ, List.countP_append]; simp [List.countP_singleton]
theorem tabsN_le (x : TPartition) : tabsN x ≤ 16 := Nat.le_trans List.countP_le_length (by simp)
theorem blk_row {b : Nat} {c : Array Value} {t : TypeId} {r : Bool} : RowOf (.blk b (.cells c t (0, 0)) r) b 0 c := fun w hw i v hv => by
  have hw' : w.heap[b]? = some (.cells c t (0, 0)) := hw
  simp only [World.cell?, hw', Nat.zero_add]; simpa using hv
abbrev qth4_0 (z : Nat) : Ch := .blk (z + 1) (.cells #[.bool false, .bool false, .bool false, .bool false, .bool false, .bool false, .bool false, .bool false, .bool false, .bool false, .bool false, .bool false, .bool false, .bool false, .bool false, .bool false] 112 (0, 0)) true
abbrev qth4_1 (z : Nat) (x : TPartition) : Ch := .blk z (.cells (TPartition.arr x) 76 (0, 0)) true
abbrev qth4_2 (n2 : Nat) (y11 : TRegion) : Ch := .blk n2 (.cells (TRegion.arr y11) 78 (0, 0)) true
abbrev qth4_3 (w : World) (z : Nat) (x : TPartition) (i : Nat) (y11 : TRegion) (k : Nat) (n2 : Nat) : List Ch := [(old0 w), (qth4_1 z x), (Ch.blk (z + 1) (.cells ((markA (tabsUp x i ++ tabsOf y11 k)).setIfInBounds (0 + ((y11.Page + (k : Int)) / 16).toNat) (.bool true)) 112 (0, 0)) true), (qth4_2 n2 y11)]
abbrev qth4_4 (w : World) (z : Nat) (x : TPartition) (i : Nat) (y11 : TRegion) (k : Nat) (n2 : Nat) : List Ch := [(old0 w), (qth4_1 z x), (Ch.blk (z + 1) (.cells (markA (tabsUp x i ++ tabsOf y11 k)) 112 (0, 0)) true), (qth4_2 n2 y11)]
abbrev qth4_5 (w : World) (z : Nat) (x : TPartition) : List Ch := [(old0 w), (qth4_1 z x), (Ch.blk (z + 1) (.cells (markA (tabsUp x x.Regions.xs.length)) 112 (0, 0)) true)]
abbrev qth4_6 (w : World) (z : Nat) (x : TPartition) (i : Nat) : List Ch := [(old0 w), (qth4_1 z x), (Ch.blk (z + 1) (.cells (markA (tabsUp x i)) 112 (0, 0)) true)]
theorem tables_calls (w : World) (x : TPartition) (hx : TPartition.ok Any w x) (hr : ∀ i, i < x.Regions.xs.length → regOk (gd x.Regions.xs i) = true) : Calls Try.prog 39 #[.agg (TPartition.arr x)] w fun e w' => e = .returned (.int .i64 (tabsN x : Nat)) ∧ Keeps (fun _ => False) w w' := by
 obtain ⟨z, hz⟩ : ∃ z, z = w.heap.size := ⟨_, rfl⟩
 refine calls_G (args := [.agg (TPartition.arr x)]) 39 ⟨w, z, [(old0 w)]⟩ Try.func39 rfl (by kernel_rfl) (by kernel_rfl) (sat_0 hz) ?_
 have hlR := hx.Regions.1.len
 refine g_keep [0] [(0, .agg (TPartition.arr x))] ?_
 refine g_seq <| g_region <| l_all 2 [o0, o0] [1] [] [(1, .pointer (some ⟨z, 0, none⟩))] ⟨w, z + 1, [(old0 w), (qth4_1 z x)]⟩ trivial ?_
 refine e_seq <| g_seq <| g_region <| l_all 1 [o0] [1, 3] [] [(1, .pointer (some ⟨z, 0, none⟩)), (3, .pointer (some ⟨z + 1, 0, none⟩))] ⟨w, z + 2, [(old0 w), (qth4_1 z x), (qth4_0 z)]⟩ trivial ?_
 refine e_seq <| g_seq <| g_seq <| g_region <| l_all 4 [o0, (oa [.at 1]), o0, o0] [3, 11, 12, 13] [Qb z] [(3, .pointer (some ⟨z + 1, 0, none⟩)), (11, .slice x.Regions.a x.Regions.xs.length x.Regions.cap), (12, .int .i64 ((x.Regions.xs.length : Nat) : Int)), (13, .int .i64 0)] ⟨w, z + 2, [(old0 w), (qth4_1 z x), (qth4_0 z)]⟩ ⟨rfl, trivial⟩ ?_
 refine e_seq <| g_block <| g_loop (fun m a w' => ∃ (n2 : Nat) (i : Nat), m = x.Regions.xs.length - i ∧ z + 2 ≤ n2 ∧ (i ≤ x.Regions.xs.length) ∧ St 39 [(3, .pointer (some ⟨z + 1, 0, none⟩)), (11, .slice x.Regions.a x.Regions.xs.length x.Regions.cap), (12, .int .i64 ((x.Regions.xs.length : Nat) : Int)), (13, .int .i64 (i : Int))] [] ⟨w, n2, (qth4_6 w z x i)⟩ a w') (x.Regions.xs.length - 0) ?_ ?_
 · intro a w' hs; exact ⟨(z + 2), 0, rfl, Nat.le_refl _, Nat.zero_le _, hs⟩
 · rintro m a w' ⟨n2, i, rfl, hn1, hki, hs⟩
   refine (?_ : G Try.prog 39 [(3, .pointer (some ⟨z + 1, 0, none⟩)), (11, .slice x.Regions.a x.Regions.xs.length x.Regions.cap), (12, .int .i64 ((x.Regions.xs.length : Nat) : Int)), (13, .int .i64 (i : Int))] [] ⟨w, n2, (qth4_6 w z x i)⟩ _ _ _) a w' hs
   clear hs a w'
   refine g_seq ?_
   by_cases h3 : ((i : Int) : Int) < ((x.Regions.xs.length : Nat) : Int)
   · refine g_region <| l_all 1 [oT] [3, 11, 12, 13, 14] [BT (((i : Int) : Int) < ((x.Regions.xs.length : Nat) : Int))] [(3, .pointer (some ⟨z + 1, 0, none⟩)), (11, .slice x.Regions.a x.Regions.xs.length x.Regions.cap), (12, .int .i64 ((x.Regions.xs.length : Nat) : Int)), (13, .int .i64 (i : Int)), (14, .bool true)] ⟨w, n2, (qth4_6 w z x i)⟩ ⟨bt (by omega), trivial⟩ ?_
     refine e_seq <| g_seq <| g_true <| g_skip <| e_seq <| g_seq <| g_block <| g_seq ?_
     obtain ⟨b4, o5, ha6, hF8, hc7⟩ := (hx.Regions).1.all (show 0 < x.Regions.xs.length by omega)
     replace ha6 : x.Regions.a = some ⟨b4, o5, none⟩ := ha6
     refine g_eq [(3, .pointer (some ⟨z + 1, 0, none⟩)), (11, .slice (some ⟨b4, o5, none⟩) x.Regions.xs.length x.Regions.cap), (12, .int .i64 ((x.Regions.xs.length : Nat) : Int)), (13, .int .i64 (i : Int)), (14, .bool true)] (by simp only [ha6]) ?_
     have hc9 := hc7 i (show i < x.Regions.xs.length by omega)
     have he10 := (hx.Regions).2 i (show i < x.Regions.xs.length by omega)
     obtain ⟨y11, hy11⟩ : ∃ y_, y_ = gd x.Regions.xs i := ⟨_, rfl⟩
     rw [← hy11] at he10 hc9
     have hrg := hr i (by omega); rw [← hy11] at hrg; unfold regOk at hrg; rw [decide_eq_true_eq] at hrg
     refine g_region <| l_all 4 [(oi i), (ol 0 (TRegion.arr y11)), o0, (oa [.at 3, .at 3, .at 3, .at 3])] [3, 11, 12, 13, 5] [((i : Int) : Int) = ((i : Nat) : Int), i < x.Regions.xs.length, (none : Option Nat) = none, OldR w b4 (o5 + i * 4) (TRegion.arr y11), Qb n2, Qb n2, Qb n2, Qb n2] [(3, .pointer (some ⟨z + 1, 0, none⟩)), (11, .slice (some ⟨b4, o5, none⟩) x.Regions.xs.length x.Regions.cap), (12, .int .i64 ((x.Regions.xs.length : Nat) : Int)), (13, .int .i64 (i : Int)), (5, .pointer (some ⟨n2, 0, none⟩))] ⟨w, n2 + 1, [(old0 w), (qth4_1 z x), (Ch.blk (z + 1) (.cells (markA (tabsUp x i)) 112 (0, 0)) true), (qth4_2 n2 y11)]⟩ ⟨rfl, (by omega), rfl, old_row hc9, rfl, rfl, rfl, rfl, trivial⟩ ?_
     refine e_seq <| g_seq <| g_region <| l_all 3 [o0, (oa [.at 3]), o0] [3, 11, 12, 13, 5, 18, 19] [Qb n2] [(3, .pointer (some ⟨z + 1, 0, none⟩)), (11, .slice (some ⟨b4, o5, none⟩) x.Regions.xs.length x.Regions.cap), (12, .int .i64 ((x.Regions.xs.length : Nat) : Int)), (13, .int .i64 (i : Int)), (5, .pointer (some ⟨n2, 0, none⟩)), (18, .int .i64 y11.Pages), (19, .int .i64 0)] ⟨w, n2 + 1, [(old0 w), (qth4_1 z x), (Ch.blk (z + 1) (.cells (markA (tabsUp x i)) 112 (0, 0)) true), (qth4_2 n2 y11)]⟩ ⟨rfl, trivial⟩ ?_
     refine e_seq <| g_block <| g_keep [3, 5, 11, 12, 13, 18, 19] [(3, .pointer (some ⟨z + 1, 0, none⟩)), (5, .pointer (some ⟨n2, 0, none⟩)), (11, .slice (some ⟨b4, o5, none⟩) x.Regions.xs.length x.Regions.cap), (12, .int .i64 ((x.Regions.xs.length : Nat) : Int)), (13, .int .i64 (i : Int)), (18, .int .i64 y11.Pages), (19, .int .i64 0)] ?_
     refine g_loop (fun m a w' => ∃ (n13 : Nat) (k : Nat), m = y11.Pages.toNat - k ∧ n2 + 1 ≤ n13 ∧ (k ≤ y11.Pages.toNat) ∧ St 39 [(3, .pointer (some ⟨z + 1, 0, none⟩)), (5, .pointer (some ⟨n2, 0, none⟩)), (11, .slice (some ⟨b4, o5, none⟩) x.Regions.xs.length x.Regions.cap), (12, .int .i64 ((x.Regions.xs.length : Nat) : Int)), (13, .int .i64 (i : Int)), (18, .int .i64 y11.Pages), (19, .int .i64 (k : Int))] [] ⟨w, n13, (qth4_4 w z x i y11 k n2)⟩ a w') (y11.Pages.toNat - 0) ?_ ?_
     · intro a w' hs; exact ⟨(n2 + 1), 0, rfl, Nat.le_refl _, Nat.zero_le _, by (try dsimp only [qth4_0, qth4_1, qth4_2, qth4_3, qth4_4, qth4_5, qth4_6] at hs ⊢); rw [show tabsOf y11 0 = [] from rfl, List.append_nil]; exact hs⟩
     · rintro m a w' ⟨n13, k, rfl, hn12, hkk, hs⟩
       refine (?_ : G Try.prog 39 [(3, .pointer (some ⟨z + 1, 0, none⟩)), (5, .pointer (some ⟨n2, 0, none⟩)), (11, .slice (some ⟨b4, o5, none⟩) x.Regions.xs.length x.Regions.cap), (12, .int .i64 ((x.Regions.xs.length : Nat) : Int)), (13, .int .i64 (i : Int)), (18, .int .i64 y11.Pages), (19, .int .i64 (k : Int))] [] ⟨w, n13, (qth4_4 w z x i y11 k n2)⟩ _ _ _) a w' hs
       clear hs a w'
       refine g_seq ?_
       by_cases h14 : ((k : Int) : Int) < y11.Pages
       · refine g_region <| l_all 1 [oT] [3, 5, 11, 12, 13, 18, 19, 20] [BT (((k : Int) : Int) < y11.Pages)] [(3, .pointer (some ⟨z + 1, 0, none⟩)), (5, .pointer (some ⟨n2, 0, none⟩)), (11, .slice (some ⟨b4, o5, none⟩) x.Regions.xs.length x.Regions.cap), (12, .int .i64 ((x.Regions.xs.length : Nat) : Int)), (13, .int .i64 (i : Int)), (18, .int .i64 y11.Pages), (19, .int .i64 (k : Int)), (20, .bool true)] ⟨w, n13, (qth4_4 w z x i y11 k n2)⟩ ⟨bt (by omega), trivial⟩ ?_
         refine e_seq <| g_seq <| g_true <| g_skip <| e_seq <| g_seq <| g_block <| g_seq <| g_region <| l_all 2 [o0, o0] [3, 5, 11, 12, 13, 18, 19, 6] [] [(3, .pointer (some ⟨z + 1, 0, none⟩)), (5, .pointer (some ⟨n2, 0, none⟩)), (11, .slice (some ⟨b4, o5, none⟩) x.Regions.xs.length x.Regions.cap), (12, .int .i64 ((x.Regions.xs.length : Nat) : Int)), (13, .int .i64 (i : Int)), (18, .int .i64 y11.Pages), (19, .int .i64 (k : Int)), (6, .int .i64 (k : Int))] ⟨w, n13, (qth4_4 w z x i y11 k n2)⟩ trivial ?_
         refine e_seq <| g_region <| l_all 7 [o0, (oa [.at 3]), o0, (ov (.int .i64 (y11.Page + (k : Int)))), (ov (.int .i64 ((y11.Page + (k : Int)) / 16))), (oi (((y11.Page + (k : Int)) / 16).toNat)), (oa [.atv 2 undef])] [3, 5, 11, 12, 13, 18, 19] [Qb n2, Value.int .i64 (IntKind.i64.wrap ((y11.Page : Int) + (k : Int))) = Value.int .i64 (y11.Page + (k : Int)), Value.int .i64 (IntKind.i64.wrap (Int.tdiv (y11.Page + (k : Int)) 16)) = Value.int .i64 ((y11.Page + (k : Int)) / 16), ((y11.Page + (k : Int)) / 16 : Int) = ((((y11.Page + (k : Int)) / 16).toNat : Nat) : Int), ((y11.Page + (k : Int)) / 16).toNat < 16, (none : Option Nat) = none, (none : Option Nat) = none, Qb (z + 1), 0 + ((y11.Page + (k : Int)) / 16).toNat < (markA (tabsUp x i ++ tabsOf y11 k)).size] [(3, .pointer (some ⟨z + 1, 0, none⟩)), (5, .pointer (some ⟨n2, 0, none⟩)), (11, .slice (some ⟨b4, o5, none⟩) x.Regions.xs.length x.Regions.cap), (12, .int .i64 ((x.Regions.xs.length : Nat) : Int)), (13, .int .i64 (i : Int)), (18, .int .i64 y11.Pages), (19, .int .i64 (k : Int))] ⟨w, n13, (qth4_3 w z x i y11 k n2)⟩ ⟨rfl, congrArg (Value.int .i64) (wr_i64 (by omega) (by omega) (by omega)), congrArg (Value.int .i64) (wr_div (by omega) (by omega) (by omega)), (by omega), (by omega), rfl, rfl, rfl, (by rw [mark_size]; omega), trivial⟩ ?_
         refine e_blk <| e_seq <| g_region <| l_all 2 [(ov (.int .i64 ((k + 1 : Nat) : Int))), o0] [3, 5, 11, 12, 13, 18, 19] [Value.int .i64 (IntKind.i64.wrap (((k : Int) : Int) + 1)) = Value.int .i64 (((k + 1 : Nat) : Int))] [(3, .pointer (some ⟨z + 1, 0, none⟩)), (5, .pointer (some ⟨n2, 0, none⟩)), (11, .slice (some ⟨b4, o5, none⟩) x.Regions.xs.length x.Regions.cap), (12, .int .i64 ((x.Regions.xs.length : Nat) : Int)), (13, .int .i64 (i : Int)), (18, .int .i64 y11.Pages), (19, .int .i64 ((k + 1 : Nat) : Int))] ⟨w, n13, (qth4_3 w z x i y11 k n2)⟩ ⟨congrArg (Value.int .i64) (wr_i64 (by omega) (by omega) (by omega)), trivial⟩ ?_
         refine e_keep [3, 5, 11, 12, 13, 18, 19] [(3, .pointer (some ⟨z + 1, 0, none⟩)), (5, .pointer (some ⟨n2, 0, none⟩)), (11, .slice (some ⟨b4, o5, none⟩) x.Regions.xs.length x.Regions.cap), (12, .int .i64 ((x.Regions.xs.length : Nat) : Int)), (13, .int .i64 (i : Int)), (18, .int .i64 y11.Pages), (19, .int .i64 ((k + 1 : Nat) : Int))] ?_
         refine e_inv (fun a w' hs => ⟨y11.Pages.toNat - (k + 1), by omega, n13, (k + 1), rfl, by omega, by omega, by (try dsimp only [qth4_0, qth4_1, qth4_2, qth4_3, qth4_4, qth4_5, qth4_6] at hs ⊢); rw [tabsOf_succ, ← List.append_assoc, mark_push]; simpa only [Nat.zero_add] using hs⟩)
       · refine g_region <| l_all 1 [oF] [3, 5, 11, 12, 13, 18, 19, 20] [BF (((k : Int) : Int) < y11.Pages)] [(3, .pointer (some ⟨z + 1, 0, none⟩)), (5, .pointer (some ⟨n2, 0, none⟩)), (11, .slice (some ⟨b4, o5, none⟩) x.Regions.xs.length x.Regions.cap), (12, .int .i64 ((x.Regions.xs.length : Nat) : Int)), (13, .int .i64 (i : Int)), (18, .int .i64 y11.Pages), (19, .int .i64 (k : Int)), (20, .bool false)] ⟨w, n13, (qth4_4 w z x i y11 k n2)⟩ ⟨bf (by omega), trivial⟩ ?_
         refine e_seq <| g_seq <| g_false <| g_exit <| e_out <| e_outI <| e_hit <| e_blk <| e_seq <| g_region <| l_all 2 [(ov (.int .i64 ((i + 1 : Nat) : Int))), o0] [3, 11, 12, 13] [Value.int .i64 (IntKind.i64.wrap (((i : Int) : Int) + 1)) = Value.int .i64 (((i + 1 : Nat) : Int))] [(3, .pointer (some ⟨z + 1, 0, none⟩)), (11, .slice (some ⟨b4, o5, none⟩) x.Regions.xs.length x.Regions.cap), (12, .int .i64 ((x.Regions.xs.length : Nat) : Int)), (13, .int .i64 ((i + 1 : Nat) : Int))] ⟨w, n13, (qth4_4 w z x i y11 k n2)⟩ ⟨congrArg (Value.int .i64) (wr_i64 (by omega) (by omega) (by omega)), trivial⟩ ?_
         refine e_pick [0, 1, 2] [(old0 w), (qth4_1 z x), (Ch.blk (z + 1) (.cells (markA (tabsUp x i ++ tabsOf y11 k)) 112 (0, 0)) true)] rfl rfl ?_
         refine e_eqk [3, 11, 12, 13] [(3, .pointer (some ⟨z + 1, 0, none⟩)), (11, .slice x.Regions.a x.Regions.xs.length x.Regions.cap), (12, .int .i64 ((x.Regions.xs.length : Nat) : Int)), (13, .int .i64 ((i + 1 : Nat) : Int))] (by simp only [ha6]; rfl) ?_
         refine e_inv (fun a w' hs => ⟨x.Regions.xs.length - (i + 1), by omega, n13, (i + 1), rfl, by omega, by omega, by (try dsimp only [qth4_0, qth4_1, qth4_2, qth4_3, qth4_4, qth4_5, qth4_6] at hs ⊢); rw [tabsUp_succ, ← hy11, show y11.Pages.toNat = k by omega]; exact hs⟩)
   · refine g_region <| l_all 1 [oF] [3, 11, 12, 13, 14] [BF (((i : Int) : Int) < ((x.Regions.xs.length : Nat) : Int))] [(3, .pointer (some ⟨z + 1, 0, none⟩)), (11, .slice x.Regions.a x.Regions.xs.length x.Regions.cap), (12, .int .i64 ((x.Regions.xs.length : Nat) : Int)), (13, .int .i64 (i : Int)), (14, .bool false)] ⟨w, n2, (qth4_6 w z x i)⟩ ⟨bf (by omega), trivial⟩ ?_
     refine e_seq <| g_seq <| g_false <| g_exit <| e_out <| e_outI <| e_hit <| e_seq <| g_seq <| g_region <| l_all 1 [o0] [3, 7] [] [(3, .pointer (some ⟨z + 1, 0, none⟩)), (7, .int .i64 0)] ⟨w, n2, (qth4_6 w z x i)⟩ trivial ?_
     refine e_seq <| g_seq <| g_seq <| g_region <| l_all 2 [⟨.row 2 (markA (tabsUp x i)), none⟩, o0] [7, 30, 31] [RowOf (Ch.blk (z + 1) (.cells (markA (tabsUp x i)) 112 (0, 0)) true) (z + 1) 0 (markA (tabsUp x i))] [(7, .int .i64 0), (30, .agg (markA (tabsUp x i))), (31, .int .i64 0)] ⟨w, n2, (qth4_6 w z x i)⟩ ⟨blk_row, trivial⟩ ?_
     refine e_seq <| g_block ?_
     have e0 : i = x.Regions.xs.length := by omega
     subst e0
     refine g_loop (fun m a w' => ∃ (n16 : Nat) (j : Nat), m = 16 - j ∧ n2 ≤ n16 ∧ (j ≤ 16) ∧ St 39 [(7, .int .i64 (((List.range j).countP (fun t => (tabsUp x x.Regions.xs.length).contains t) : Nat) : Int)), (30, .agg (markA (tabsUp x x.Regions.xs.length))), (31, .int .i64 (j : Int))] [] ⟨w, n16, (qth4_5 w z x)⟩ a w') (16 - 0) ?_ ?_
     · intro a w' hs; exact ⟨n2, 0, rfl, Nat.le_refl _, Nat.zero_le _, hs⟩
     · rintro m a w' ⟨n16, j, rfl, hn15, hkj, hs⟩
       refine (?_ : G Try.prog 39 [(7, .int .i64 (((List.range j).countP (fun t => (tabsUp x x.Regions.xs.length).contains t) : Nat) : Int)), (30, .agg (markA (tabsUp x x.Regions.xs.length))), (31, .int .i64 (j : Int))] [] ⟨w, n16, (qth4_5 w z x)⟩ _ _ _) a w' hs
       clear hs a w'
       have hcl : (List.range j).countP (fun t => (tabsUp x x.Regions.xs.length).contains t) ≤ j := Nat.le_trans List.countP_le_length (by simp)
       refine g_seq ?_
       by_cases h17 : ((j : Int) : Int) < 16
       · refine g_region <| l_all 1 [oT] [7, 30, 31, 32] [BT (((j : Int) : Int) < 16)] [(7, .int .i64 (((List.range j).countP (fun t => (tabsUp x x.Regions.xs.length).contains t) : Nat) : Int)), (30, .agg (markA (tabsUp x x.Regions.xs.length))), (31, .int .i64 (j : Int)), (32, .bool true)] ⟨w, n16, (qth4_5 w z x)⟩ ⟨bt (by omega), trivial⟩ ?_
         refine e_seq <| g_seq <| g_true <| g_skip <| e_seq <| g_seq <| g_block <| g_seq <| g_region <| l_all 2 [⟨.aidx j (.bool ((tabsUp x x.Regions.xs.length).contains j)), none⟩, o0] [7, 30, 31, 9] [((j : Int) : Int) = ((j : Nat) : Int), j < 16, (markA (tabsUp x x.Regions.xs.length))[offs 1 j]? = some (.bool ((tabsUp x x.Regions.xs.length).contains j))] [(7, .int .i64 (((List.range j).countP (fun t => (tabsUp x x.Regions.xs.length).contains t) : Nat) : Int)), (30, .agg (markA (tabsUp x x.Regions.xs.length))), (31, .int .i64 (j : Int)), (9, .bool ((tabsUp x x.Regions.xs.length).contains j))] ⟨w, n16, (qth4_5 w z x)⟩ ⟨rfl, (by omega), (mark_at (t := j) _ (by omega)), trivial⟩ ?_
         refine e_seq <| g_seq <| g_region <| l_all 1 [o0] [7, 30, 31, 34] [] [(7, .int .i64 (((List.range j).countP (fun t => (tabsUp x x.Regions.xs.length).contains t) : Nat) : Int)), (30, .agg (markA (tabsUp x x.Regions.xs.length))), (31, .int .i64 (j : Int)), (34, .bool ((tabsUp x x.Regions.xs.length).contains j))] ⟨w, n16, (qth4_5 w z x)⟩ trivial ?_
         refine e_seq ?_
         by_cases h18 : ((tabsUp x x.Regions.xs.length).contains j) = true
         · refine g_true ?_ (congrArg Value.bool h18)
           refine g_region <| l_all 3 [o0, (ov (.int .i64 ((((List.range j).countP (fun t => (tabsUp x x.Regions.xs.length).contains t)) + 1 : Nat) : Int))), o0] [7, 30, 31] [Value.int .i64 (IntKind.i64.wrap (((((List.range j).countP (fun t => (tabsUp x x.Regions.xs.length).contains t) : Nat) : Int) : Int) + 1)) = Value.int .i64 (((((List.range j).countP (fun t => (tabsUp x x.Regions.xs.length).contains t)) + 1 : Nat) : Int))] [(7, .int .i64 ((((List.range j).countP (fun t => (tabsUp x x.Regions.xs.length).contains t)) + 1 : Nat) : Int)), (30, .agg (markA (tabsUp x x.Regions.xs.length))), (31, .int .i64 (j : Int))] ⟨w, n16, (qth4_5 w z x)⟩ ⟨congrArg (Value.int .i64) (wr_i64 (by omega) (by omega) (by omega)), trivial⟩ ?_
           refine e_blk <| e_seq <| g_region <| l_all 2 [(ov (.int .i64 ((j + 1 : Nat) : Int))), o0] [7, 30, 31] [Value.int .i64 (IntKind.i64.wrap (((j : Int) : Int) + 1)) = Value.int .i64 (((j + 1 : Nat) : Int))] [(7, .int .i64 ((((List.range j).countP (fun t => (tabsUp x x.Regions.xs.length).contains t)) + 1 : Nat) : Int)), (30, .agg (markA (tabsUp x x.Regions.xs.length))), (31, .int .i64 ((j + 1 : Nat) : Int))] ⟨w, n16, (qth4_5 w z x)⟩ ⟨congrArg (Value.int .i64) (wr_i64 (by omega) (by omega) (by omega)), trivial⟩ ?_
           have hT := cntr_succ (p := fun t => (tabsUp x x.Regions.xs.length).contains t) (j := j)
           simp only [h18, if_true, if_false, Nat.add_zero] at hT
           refine e_keep [7, 30, 31] [(7, .int .i64 ((((List.range j).countP (fun t => (tabsUp x x.Regions.xs.length).contains t)) + 1 : Nat) : Int)), (30, .agg (markA (tabsUp x x.Regions.xs.length))), (31, .int .i64 ((j + 1 : Nat) : Int))] ?_
           refine e_inv (fun a w' hs => ⟨16 - (j + 1), by omega, n16, (j + 1), rfl, by omega, by omega, by (try dsimp only [qth4_0, qth4_1, qth4_2, qth4_3, qth4_4, qth4_5, qth4_6] at hs ⊢); rw [hT]; exact hs⟩)
         · refine g_false ?_ (congrArg Value.bool (Bool.eq_false_iff.2 h18))
           refine g_skip <| e_blk <| e_seq <| g_region <| l_all 2 [(ov (.int .i64 ((j + 1 : Nat) : Int))), o0] [7, 30, 31] [Value.int .i64 (IntKind.i64.wrap (((j : Int) : Int) + 1)) = Value.int .i64 (((j + 1 : Nat) : Int))] [(7, .int .i64 (((List.range j).countP (fun t => (tabsUp x x.Regions.xs.length).contains t) : Nat) : Int)), (30, .agg (markA (tabsUp x x.Regions.xs.length))), (31, .int .i64 ((j + 1 : Nat) : Int))] ⟨w, n16, (qth4_5 w z x)⟩ ⟨congrArg (Value.int .i64) (wr_i64 (by omega) (by omega) (by omega)), trivial⟩ ?_
           have hT := cntr_succ (p := fun t => (tabsUp x x.Regions.xs.length).contains t) (j := j)
           simp only [(Bool.eq_false_iff.2 h18), Bool.false_eq_true, if_true, if_false, Nat.add_zero] at hT
           refine e_keep [7, 30, 31] [(7, .int .i64 (((List.range j).countP (fun t => (tabsUp x x.Regions.xs.length).contains t) : Nat) : Int)), (30, .agg (markA (tabsUp x x.Regions.xs.length))), (31, .int .i64 ((j + 1 : Nat) : Int))] ?_
           refine e_inv (fun a w' hs => ⟨16 - (j + 1), by omega, n16, (j + 1), rfl, by omega, by omega, by (try dsimp only [qth4_0, qth4_1, qth4_2, qth4_3, qth4_4, qth4_5, qth4_6] at hs ⊢); rw [hT]; exact hs⟩)
       · refine g_region <| l_all 1 [oF] [7, 30, 31, 32] [BF (((j : Int) : Int) < 16)] [(7, .int .i64 (((List.range j).countP (fun t => (tabsUp x x.Regions.xs.length).contains t) : Nat) : Int)), (30, .agg (markA (tabsUp x x.Regions.xs.length))), (31, .int .i64 (j : Int)), (32, .bool false)] ⟨w, n16, (qth4_5 w z x)⟩ ⟨bf (by omega), trivial⟩ ?_
         refine e_seq <| g_seq <| g_false <| g_exit <| e_out <| e_outI <| e_hit <| e_seq <| g_seq <| g_region <| l_all 2 [o0, o0] [2] [] [(2, .int .i64 (((List.range j).countP (fun t => (tabsUp x x.Regions.xs.length).contains t) : Nat) : Int))] ⟨w, n16, (qth4_5 w z x)⟩ trivial ?_
         refine e_seq <| g_ret <| e_ret [] [] (.int .i64 (((List.range j).countP (fun t => (tabsUp x x.Regions.xs.length).contains t) : Nat) : Int)) trivial ?_
         intro w19 hw19
         refine ⟨congrArg (fun n => Ending.returned (Value.int .i64 n)) (?_ : ((((List.range j).countP (fun t => (tabsUp x x.Regions.xs.length).contains t) : Nat) : Int) : Int) = (tabsN x : Int)), hw19.back rfl (show w.heap.size ≤ n16 by omega) (List.mem_cons_self ..)⟩
         rw [show j = 16 by omega]; rfl

end Go.Proofs.Ytpoeaajkgblkmaa.Ly
