/- layout: tables. No conditions. -/
import Derived.Test.YtnjhekfgmbpmlaaDoorLf
namespace Go.Proofs.YtnjhekfgmbpmlaaDoor.Ly
open Go Go.Proofs.YtnjhekfgmbpmlaaDoor.Eng Go.Proofs.YtnjhekfgmbpmlaaDoor.Mem
set_option linter.unusedSimpArgs false
set_option linter.unusedVariables false
set_option maxRecDepth 100000

def tabsOf (g : TRegion) (n : Nat) : List Nat := (List.range n).map (fun (k : Nat) => ((g.Page + (k : Int)) / 16).toNat)
def tabsUp (x : TPartition) (i : Nat) : List Nat := (List.range i).flatMap (fun r => tabsOf (gd x.Regions.xs r) (gd x.Regions.xs r).Pages.toNat)
def markA (l : List Nat) : Array Value := ((List.range 16).map (fun t => Value.bool (l.contains t))).toArray
theorem mark_size (l : List Nat) : (markA l).size = 16 := by simp [markA]
theorem mark_at (l : List Nat) {t : Nat} (h : t < 16) : (markA l)[t]? = some (Value.bool (l.contains t)) := by simp [markA, h]
theorem mark_push (l : List Nat) (t : Nat) : markA (l ++ [t]) = (markA l).setIfInBounds t (.bool true) := by
  apply Array.ext_getElem?
  intro i
  rw [Array.getElem?_setIfInBounds, mark_size]
  by_cases hi : i < 16
  · rw [mark_at _ hi, mark_at _ hi]
    by_cases e : t = i
    · subst e; simp [hi]
    · rw [if_neg e]
      simp [Ne.symm e]
  · have h1 : ∀ l, (markA l)[i]? = none := fun l => Array.getElem?_eq_none (by rw [mark_size]; omega)
    rw [h1, h1]
    by_cases e : t = i
    · subst e; simp [hi]
    · simp [e]
theorem tabsOf_succ {g : TRegion} {k : Nat} : tabsOf g (k + 1) = tabsOf g k ++ [((g.Page + (k : Int)) / 16).toNat] := by
  unfold tabsOf; rw [List.range_succ, List.map_append]; rfl
theorem tabsUp_succ {x : TPartition} {i : Nat} : tabsUp x (i + 1) = tabsUp x i ++ tabsOf (gd x.Regions.xs i) (gd x.Regions.xs i).Pages.toNat := by
  unfold tabsUp; rw [List.range_succ, List.flatMap_append]; simp
def tabsN (x : TPartition) : Nat := (List.range 16).countP (fun t => (tabsUp x x.Regions.xs.length).contains t)
theorem cntr_succ {p : Nat → Bool} {j : Nat} : (List.range (j + 1)).countP p = (List.range j).countP p + if p j then 1 else 0 := by
  rw [List.range_succ, List.countP_append]; simp [List.countP_singleton]
theorem tabsN_le (x : TPartition) : tabsN x ≤ 16 := Nat.le_trans List.countP_le_length (by simp)
theorem blk_row {b : Nat} {c : Array Value} {t : TypeId} {r : Bool} : RowOf (.blk b (.cells c t (0, 0)) r) b 0 c := fun w hw i v hv => by
  have hw' : w.heap[b]? = some (.cells c t (0, 0)) := hw
  simp only [World.cell?, hw', Nat.zero_add]; simpa using hv
abbrev qth4_0 (z : Nat) (x : TPartition) : Ch := bk z (TPartition.arr x) 41
abbrev qth4_1 (n2 : Nat) (y11 : TRegion) : Ch := bk n2 (TRegion.arr y11) 49
abbrev qth4_2 (j : Nat) (x : TPartition) : Nat × Value := (7, i6 ((((List.range j).countP (fun t => (tabsUp x x.Regions.xs.length).contains t)) + 1 : Nat) : Int))
abbrev qth4_3 (j : Nat) (x : TPartition) : Nat × Value := (7, i6 (((List.range j).countP (fun t => (tabsUp x x.Regions.xs.length).contains t) : Nat) : Int))
abbrev qth4_4 (b4 : Nat) (o5 : Nat) (x : TPartition) : Nat × Value := (11, .slice (some ⟨b4, o5, none⟩) x.Regions.xs.length x.Regions.cap)
abbrev qth4_5 (x : TPartition) : Nat × Value := (11, .slice x.Regions.a x.Regions.xs.length x.Regions.cap)
abbrev qth4_6 (x : TPartition) : Nat × Value := (12, i6 ((x.Regions.xs.length : Nat) : Int))
abbrev qth4_7 (x : TPartition) : Nat × Value := (30, .agg (markA (tabsUp x x.Regions.xs.length)))
abbrev qth4_8 (z : Nat) : Nat × Value := (3, pt (z + 1))
abbrev qth4_9 (w : World) (z : Nat) (x : TPartition) : List Ch := [(old0 w), (qth4_0 z x), (bk (z + 1) (markA (tabsUp x x.Regions.xs.length)) 114)]
theorem tables_calls (w : World) (x : TPartition) (hx : TPartition.ok Any w x) (hr : ∀ i, i < x.Regions.xs.length → regOk (gd x.Regions.xs i) = true) : Calls Tryd.prog 61 #[.agg (TPartition.arr x)] w fun e w' => e = .returned (.int .i64 (tabsN x : Nat)) ∧ Keeps (fun _ => False) w w' := by
 obtain ⟨z, hz⟩ : ∃ z, z = w.heap.size := ⟨_, rfl⟩
 refine calls_G (args := [.agg (TPartition.arr x)]) 39 ⟨w, z, [(old0 w)]⟩ Tryd.func61 rfl (by kernel_rfl) (by kernel_rfl) (sat_0 hz) ?_
 have hlR := hx.Regions.1.len
 refine g_keep [0] [(0, .agg (TPartition.arr x))] ?_
 refine q_c 14 0 [] [[o0, o0], [o0], [o0, (a1 1), o0, o0]] [Qb z] [(qth4_8 z), (qth4_5 x), (qth4_6 x), (13, i6 0)] ⟨w, z + 2, [(old0 w), (qth4_0 z x), (bk (z + 1) #[.bool false, .bool false, .bool false, .bool false, .bool false, .bool false, .bool false, .bool false, .bool false, .bool false, .bool false, .bool false, .bool false, .bool false, .bool false, .bool false] 114)]⟩ rfl ⟨rfl, trivial⟩ ?_
 refine g_loop (fun m a w' => ∃ (n2 : Nat) (i : Nat), m = x.Regions.xs.length - i ∧ z + 2 ≤ n2 ∧ (i ≤ x.Regions.xs.length) ∧ St 39 [(qth4_8 z), (qth4_5 x), (qth4_6 x), (13, i6 (i : Int))] [] ⟨w, n2, [(old0 w), (qth4_0 z x), (bk (z + 1) (markA (tabsUp x i)) 114)]⟩ a w') (x.Regions.xs.length - 0) ?_ ?_
 · intro a w' hs; exact ⟨(z + 2), 0, rfl, Nat.le_refl _, Nat.zero_le _, hs⟩
 · rintro m a w' ⟨n2, i, rfl, hn1, hki, hs⟩
   refine (?_ : G Tryd.prog 39 [(qth4_8 z), (qth4_5 x), (qth4_6 x), (13, i6 (i : Int))] [] ⟨w, n2, [(old0 w), (qth4_0 z x), (bk (z + 1) (markA (tabsUp x i)) 114)]⟩ _ _ _) a w' hs
   clear hs a w'
   refine g_seq ?_
   by_cases h3 : ((i : Int) : Int) < ((x.Regions.xs.length : Nat) : Int)
   · refine q_cS 10 0 [1] [[oT]] [BT (((i : Int) : Int) < ((x.Regions.xs.length : Nat) : Int))] [(qth4_8 z), (qth4_5 x), (qth4_6 x), (13, i6 (i : Int)), (14, .bool true)] rfl ⟨bt (by omega), trivial⟩ ?_
     obtain ⟨b4, o5, ha6, hF8, hc7⟩ := (hx.Regions).1.all (show 0 < x.Regions.xs.length by omega)
     replace ha6 : x.Regions.a = some ⟨b4, o5, none⟩ := ha6
     refine g_eq [(qth4_8 z), (qth4_4 b4 o5 x), (qth4_6 x), (13, i6 (i : Int)), (14, .bool true)] (by (try dsimp only [qth4_0, qth4_1, qth4_2, qth4_3, qth4_4, qth4_5, qth4_6, qth4_7, qth4_8, qth4_9]); simp only [ha6]) ?_
     have hc9 := hc7 i (show i < x.Regions.xs.length by omega)
     have he10 := (hx.Regions).2 i (show i < x.Regions.xs.length by omega)
     obtain ⟨y11, hy11⟩ : ∃ y_, y_ = gd x.Regions.xs i := ⟨_, rfl⟩
     rw [← hy11] at he10 hc9
     have hrg := hr i (by omega); rw [← hy11] at hrg; unfold regOk at hrg; rw [decide_eq_true_eq] at hrg
     refine q_c 8 0 [] [[(oi i), (ol 0 (TRegion.arr y11)), o0, (an 4 3)], [o0, (a1 3), o0]] [((i : Int) : Int) = ((i : Nat) : Int), i < x.Regions.xs.length, (none : Option Nat) = none, OldR w b4 (o5 + i * 4) (TRegion.arr y11), Qb n2, Qb n2, Qb n2, Qb n2, Qb n2] [(qth4_8 z), (5, pt n2), (qth4_4 b4 o5 x), (qth4_6 x), (13, i6 (i : Int)), (18, i6 y11.Pages), (19, i6 0)] ⟨w, n2 + 1, [(old0 w), (qth4_0 z x), (bk (z + 1) (markA (tabsUp x i)) 114), (qth4_1 n2 y11)]⟩ rfl ⟨rfl, (by omega), rfl, old_row hc9, rfl, rfl, rfl, rfl, rfl, trivial⟩ ?_
     refine g_loop (fun m a w' => ∃ (n13 : Nat) (k : Nat), m = y11.Pages.toNat - k ∧ n2 + 1 ≤ n13 ∧ (k ≤ y11.Pages.toNat) ∧ St 39 [(qth4_8 z), (5, pt n2), (qth4_4 b4 o5 x), (qth4_6 x), (13, i6 (i : Int)), (18, i6 y11.Pages), (19, i6 (k : Int))] [] ⟨w, n13, [(old0 w), (qth4_0 z x), (bk (z + 1) (markA (tabsUp x i ++ tabsOf y11 k)) 114), (qth4_1 n2 y11)]⟩ a w') (y11.Pages.toNat - 0) ?_ ?_
     · intro a w' hs; exact ⟨(n2 + 1), 0, rfl, Nat.le_refl _, Nat.zero_le _, by (try dsimp only [qth4_0, qth4_1, qth4_2, qth4_3, qth4_4, qth4_5, qth4_6, qth4_7, qth4_8, qth4_9] at hs ⊢); rw [show tabsOf y11 0 = [] from rfl, List.append_nil]; exact hs⟩
     · rintro m a w' ⟨n13, k, rfl, hn12, hkk, hs⟩
       refine (?_ : G Tryd.prog 39 [(qth4_8 z), (5, pt n2), (qth4_4 b4 o5 x), (qth4_6 x), (13, i6 (i : Int)), (18, i6 y11.Pages), (19, i6 (k : Int))] [] ⟨w, n13, [(old0 w), (qth4_0 z x), (bk (z + 1) (markA (tabsUp x i ++ tabsOf y11 k)) 114), (qth4_1 n2 y11)]⟩ _ _ _) a w' hs
       clear hs a w'
       refine g_seq ?_
       by_cases h14 : ((k : Int) : Int) < y11.Pages
       · refine q_c 19 0 [1] [[oT], [o0, o0], [o0, (a1 3), o0, (ov (i6 (y11.Page + (k : Int)))), (ov (i6 ((y11.Page + (k : Int)) / 16))), (oi (((y11.Page + (k : Int)) / 16).toNat)), (oa [.atv 2 undef])], [(ov (i6 ((k + 1 : Nat) : Int))), o0]] [BT (((k : Int) : Int) < y11.Pages), Qb n2, Wr ((y11.Page : Int) + (k : Int)) (y11.Page + (k : Int)), Wr (Int.tdiv (y11.Page + (k : Int)) 16) ((y11.Page + (k : Int)) / 16), ((y11.Page + (k : Int)) / 16 : Int) = ((((y11.Page + (k : Int)) / 16).toNat : Nat) : Int), ((y11.Page + (k : Int)) / 16).toNat < 16, (none : Option Nat) = none, (none : Option Nat) = none, Qb (z + 1), 0 + (((y11.Page + (k : Int)) / 16).toNat) < (markA (tabsUp x i ++ tabsOf y11 k)).size, Wr (((k : Int) : Int) + 1) (((k + 1 : Nat) : Int))] [(qth4_8 z), (5, pt n2), (qth4_4 b4 o5 x), (qth4_6 x), (13, i6 (i : Int)), (18, i6 y11.Pages), (19, i6 ((k + 1 : Nat) : Int))] ⟨w, n13, [(old0 w), (qth4_0 z x), (Ch.blk (z + 1) (.cells ((markA (tabsUp x i ++ tabsOf y11 k)).setIfInBounds (0 + (((y11.Page + (k : Int)) / 16).toNat)) (.bool true)) 114 (0, 0)) true), (qth4_1 n2 y11)]⟩ rfl ⟨bt (by omega), rfl, wrI, congrArg (Value.int .i64) (wr_div (by omega) (by omega) (by omega)), (by omega), (by omega), rfl, rfl, rfl, (by rw [mark_size]; omega), wrI, trivial⟩ ?_
         refine e_inv (fun a w' hs => ⟨y11.Pages.toNat - (k + 1), by omega, n13, (k + 1), rfl, by omega, by omega, by (try dsimp only [qth4_0, qth4_1, qth4_2, qth4_3, qth4_4, qth4_5, qth4_6, qth4_7, qth4_8, qth4_9] at hs ⊢); rw [tabsOf_succ, ← List.append_assoc, mark_push]; simpa only [Nat.zero_add] using hs⟩)
       · refine q_cS 13 0 [0] [[oF], [(ov (i6 ((i + 1 : Nat) : Int))), o0]] [BF (((k : Int) : Int) < y11.Pages), Wr (((i : Int) : Int) + 1) (((i + 1 : Nat) : Int))] [(qth4_8 z), (qth4_4 b4 o5 x), (qth4_6 x), (13, i6 ((i + 1 : Nat) : Int))] rfl ⟨bf (by omega), wrI, trivial⟩ ?_
         refine e_pick [0, 1, 2] [(old0 w), (qth4_0 z x), (bk (z + 1) (markA (tabsUp x i ++ tabsOf y11 k)) 114)] rfl rfl ?_
         refine e_eqk [3, 11, 12, 13] [(qth4_8 z), (qth4_5 x), (qth4_6 x), (13, i6 ((i + 1 : Nat) : Int))] (by (try dsimp only [qth4_0, qth4_1, qth4_2, qth4_3, qth4_4, qth4_5, qth4_6, qth4_7, qth4_8, qth4_9]); simp only [ha6]; rfl) ?_
         refine e_inv (fun a w' hs => ⟨x.Regions.xs.length - (i + 1), by omega, n13, (i + 1), rfl, by omega, by omega, by (try dsimp only [qth4_0, qth4_1, qth4_2, qth4_3, qth4_4, qth4_5, qth4_6, qth4_7, qth4_8, qth4_9] at hs ⊢); rw [tabsUp_succ, ← hy11, show y11.Pages.toNat = k by omega]; exact hs⟩)
   · refine q_cS 20 0 [0] [[oF], [o0], [⟨.row 2 (markA (tabsUp x i)), none⟩, o0]] [BF (((i : Int) : Int) < ((x.Regions.xs.length : Nat) : Int)), RowOf (bk (z + 1) (markA (tabsUp x i)) 114) (z + 1) 0 (markA (tabsUp x i))] [(7, i6 0), (30, .agg (markA (tabsUp x i))), (31, i6 0)] rfl ⟨bf (by omega), blk_row, trivial⟩ ?_
     have e0 : i = x.Regions.xs.length := by omega
     subst e0
     refine g_loop (fun m a w' => ∃ (n16 : Nat) (j : Nat), m = 16 - j ∧ n2 ≤ n16 ∧ (j ≤ 16) ∧ St 39 [(qth4_3 j x), (qth4_7 x), (31, i6 (j : Int))] [] ⟨w, n16, (qth4_9 w z x)⟩ a w') (16 - 0) ?_ ?_
     · intro a w' hs; exact ⟨n2, 0, rfl, Nat.le_refl _, Nat.zero_le _, hs⟩
     · rintro m a w' ⟨n16, j, rfl, hn15, hkj, hs⟩
       refine (?_ : G Tryd.prog 39 [(qth4_3 j x), (qth4_7 x), (31, i6 (j : Int))] [] ⟨w, n16, (qth4_9 w z x)⟩ _ _ _) a w' hs
       clear hs a w'
       have hcl : (List.range j).countP (fun t => (tabsUp x x.Regions.xs.length).contains t) ≤ j := Nat.le_trans List.countP_le_length (by simp)
       refine g_seq ?_
       by_cases h17 : ((j : Int) : Int) < 16
       · refine q_cS 17 0 [1] [[oT], [⟨.aidx j (.bool ((tabsUp x x.Regions.xs.length).contains j)), none⟩, o0], [o0]] [BT (((j : Int) : Int) < 16), ((j : Int) : Int) = ((j : Nat) : Int), j < 16, ((markA (tabsUp x x.Regions.xs.length)) : Array Value)[offs 1 j]? = some (.bool ((tabsUp x x.Regions.xs.length).contains j))] [(qth4_3 j x), (qth4_7 x), (31, i6 (j : Int)), (34, .bool ((tabsUp x x.Regions.xs.length).contains j))] rfl ⟨bt (by omega), rfl, (by omega), (mark_at (t := j) _ (by omega)), trivial⟩ ?_
         by_cases h18 : ((tabsUp x x.Regions.xs.length).contains j) = true
         · refine q_cS 7 0 [3] [[o0, (ov (i6 ((((List.range j).countP (fun t => (tabsUp x x.Regions.xs.length).contains t)) + 1 : Nat) : Int))), o0], [(ov (i6 ((j + 1 : Nat) : Int))), o0]] [Value.bool ((tabsUp x x.Regions.xs.length).contains j) = Value.bool true, Wr (((((List.range j).countP (fun t => (tabsUp x x.Regions.xs.length).contains t) : Nat) : Int) : Int) + 1) (((((List.range j).countP (fun t => (tabsUp x x.Regions.xs.length).contains t)) + 1 : Nat) : Int)), Wr (((j : Int) : Int) + 1) (((j + 1 : Nat) : Int))] [(qth4_2 j x), (qth4_7 x), (31, i6 ((j + 1 : Nat) : Int))] rfl ⟨(congrArg Value.bool h18), wrI, wrI, trivial⟩ ?_
           have hT := cntr_succ (p := fun t => (tabsUp x x.Regions.xs.length).contains t) (j := j)
           simp only [h18, if_true, if_false, Nat.add_zero] at hT
           refine e_keep [7, 30, 31] [(qth4_2 j x), (qth4_7 x), (31, i6 ((j + 1 : Nat) : Int))] ?_
           refine e_inv (fun a w' hs => ⟨16 - (j + 1), by omega, n16, (j + 1), rfl, by omega, by omega, by (try dsimp only [qth4_0, qth4_1, qth4_2, qth4_3, qth4_4, qth4_5, qth4_6, qth4_7, qth4_8, qth4_9] at hs ⊢); rw [hT]; exact hs⟩)
         · refine q_cS 6 0 [2] [[(ov (i6 ((j + 1 : Nat) : Int))), o0]] [Value.bool ((tabsUp x x.Regions.xs.length).contains j) = Value.bool false, Wr (((j : Int) : Int) + 1) (((j + 1 : Nat) : Int))] [(qth4_3 j x), (qth4_7 x), (31, i6 ((j + 1 : Nat) : Int))] rfl ⟨(congrArg Value.bool (Bool.eq_false_iff.2 h18)), wrI, trivial⟩ ?_
           have hT := cntr_succ (p := fun t => (tabsUp x x.Regions.xs.length).contains t) (j := j)
           simp only [(Bool.eq_false_iff.2 h18), Bool.false_eq_true, if_true, if_false, Nat.add_zero] at hT
           refine e_keep [7, 30, 31] [(qth4_3 j x), (qth4_7 x), (31, i6 ((j + 1 : Nat) : Int))] ?_
           refine e_inv (fun a w' hs => ⟨16 - (j + 1), by omega, n16, (j + 1), rfl, by omega, by omega, by (try dsimp only [qth4_0, qth4_1, qth4_2, qth4_3, qth4_4, qth4_5, qth4_6, qth4_7, qth4_8, qth4_9] at hs ⊢); rw [hT]; exact hs⟩)
       · refine q_cS 15 0 [0] [[oF], [o0, o0]] [BF (((j : Int) : Int) < 16)] [(2, i6 (((List.range j).countP (fun t => (tabsUp x x.Regions.xs.length).contains t) : Nat) : Int))] rfl ⟨bf (by omega), trivial⟩ ?_
         refine e_ret [] [] (i6 (((List.range j).countP (fun t => (tabsUp x x.Regions.xs.length).contains t) : Nat) : Int)) trivial ?_
         intro w19 hw19
         refine ⟨congrArg (fun n => Ending.returned (i6 n)) (?_ : ((((List.range j).countP (fun t => (tabsUp x x.Regions.xs.length).contains t) : Nat) : Int) : Int) = (tabsN x : Int)), back0 hw19⟩
         rw [show j = 16 by omega]; rfl

end Go.Proofs.YtnjhekfgmbpmlaaDoor.Ly
