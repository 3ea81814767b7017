/- layout: the document's touches and source. No conditions. -/
import Derived.Test.YtpoeaajkgblkmaaLi
namespace Go.Proofs.Ytpoeaajkgblkmaa.Ly
open Go Go.Proofs.Ytpoeaajkgblkmaa.Eng Go.Proofs.Ytpoeaajkgblkmaa.Mem
set_option linter.unusedSimpArgs false
set_option linter.unusedVariables false
set_option maxRecDepth 100000

def touchR (t : Nat) (g : TRegion) : Bool := decide (g.Page / 16 ≤ (t : Int) ∧ (t : Int) ≤ (g.Page + g.Pages - 1) / 16)
def touchB (x : TPartition) (t : Nat) : Bool := x.Regions.xs.any (touchR t)
theorem any_yes {α : Type} [Inhabited α] {p : α → Bool} {xs : List α} {k : Nat} (hk : k < xs.length) (h : p (gd xs k) = true) : xs.any p = true := by
  rw [List.any_eq_true]; rw [gd_eq hk] at h; exact ⟨xs[k], List.getElem_mem hk, h⟩
theorem any_no {α : Type} [Inhabited α] {p : α → Bool} {xs : List α} (h : ∀ i, i < xs.length → p (gd xs i) = false) : xs.any p = false := by
  rw [List.any_eq_false]
  intro y hy
  obtain ⟨i, hi, rfl⟩ := List.getElem_of_mem hy
  have := h i hi
  rw [gd_eq hi] at this
  simp [this]
theorem touch_tab {x : TPartition} (hr : ∀ i, i < x.Regions.xs.length → regOk (gd x.Regions.xs i) = true) (t : Nat) : touchB x t = (tabsUp x x.Regions.xs.length).contains t := by
  rw [Bool.eq_iff_iff]
  unfold touchB tabsUp tabsOf
  simp only [List.any_eq_true, List.contains_iff_mem, List.mem_flatMap, List.mem_range, List.mem_map, touchR, decide_eq_true_eq]
  constructor
  · rintro ⟨g, hg, h1, h2⟩
    obtain ⟨i, hi, rfl⟩ := List.getElem_of_mem hg
    have h3 := hr i hi
    unfold regOk at h3
    rw [decide_eq_true_eq] at h3
    rw [gd_eq hi] at h3
    refine ⟨i, hi, ?_⟩
    rw [gd_eq hi]
    by_cases hp : x.Regions.xs[i].Page ≤ 16 * (t : Int)
    · exact ⟨(16 * (t : Int) - x.Regions.xs[i].Page).toNat, by omega, by omega⟩
    · exact ⟨0, by omega, by omega⟩
  · rintro ⟨i, hi, k, hk, h⟩
    have h3 := hr i hi
    unfold regOk at h3
    rw [decide_eq_true_eq] at h3
    refine ⟨gd x.Regions.xs i, by rw [gd_eq hi]; exact List.getElem_mem hi, by omega, by omega⟩
theorem endsUp_pre {c : TConfig} {k : Int} {b : Bool} (i : Nat) : ∀ (n : Nat), i ≤ n → ∃ r, endsUp c k b n = endsUp c k b i ++ r
  | 0, h => ⟨[], by rw [Nat.le_zero.1 h]; simp⟩
  | n + 1, h => by
    by_cases e : i = n + 1
    · exact ⟨[], by rw [e]; simp⟩
    · obtain ⟨r, hr⟩ := endsUp_pre (c := c) (k := k) (b := b) i n (by omega)
      exact ⟨_, by rw [endsUp_succ, hr, List.append_assoc]⟩
theorem partEnds_pre {p : Nat} {x : TPartition} {k : Int} {b : Bool} (j : Nat) : ∀ (n : Nat), j ≤ n → ∃ r, partEnds p x k b n = partEnds p x k b j ++ r
  | 0, h => ⟨[], by rw [Nat.le_zero.1 h]; simp⟩
  | n + 1, h => by
    by_cases e : j = n + 1
    · exact ⟨[], by rw [e]; simp⟩
    · obtain ⟨r, hr⟩ := partEnds_pre (p := p) (x := x) (k := k) (b := b) j n (by omega)
      cases hs : srcIs k b (gd x.Ports.xs n)
      · exact ⟨r, by rw [partEnds_no hs, hr]⟩
      · exact ⟨_, by rw [partEnds_yes hs, hr, List.append_assoc]⟩
theorem first_end {c : TConfig} {k : Int} {b : Bool} {i j : Nat} (hi : i < c.Partitions.xs.length) (hj : j < (gd c.Partitions.xs i).Ports.xs.length) (h1 : endsUp c k b i = []) (h2 : partEnds i (gd c.Partitions.xs i) k b j = []) (h3 : srcIs k b (gd (gd c.Partitions.xs i).Ports.xs j) = true) : gd (endsOf c k b) 0 = ⟨(i : Int), (j : Int)⟩ := by
  obtain ⟨r1, e1⟩ := endsUp_pre (c := c) (k := k) (b := b) (i + 1) c.Partitions.xs.length (by omega)
  obtain ⟨r2, e2⟩ := partEnds_pre (p := i) (x := gd c.Partitions.xs i) (k := k) (b := b) (j + 1) (gd c.Partitions.xs i).Ports.xs.length (by omega)
  unfold endsOf
  rw [e1, endsUp_succ, h1, e2, partEnds_yes h3, h2]
  simp [gd]
theorem no_end {c : TConfig} {k : Int} {b : Bool} (h : endsOf c k b = []) : gd (endsOf c k b) 0 = ⟨0, 0⟩ := by rw [h]; rfl
abbrev qimm_0 (z : Nat) (x : TPartition) : Ch := .blk z (.cells (TPartition.arr x) 76 (0, 0)) true
theorem touches_calls (w : World) (x : TPartition) (t : Nat) (ht : t < 16) (hx : TPartition.ok Any w x) (hr : ∀ i, i < x.Regions.xs.length → regOk (gd x.Regions.xs i) = true) : Calls Try.prog 52 #[.agg (TPartition.arr x), .int .i64 (t : Int)] w fun e w' => e = .returned (.bool (touchB x t)) ∧ Keeps (fun _ => False) w w' := by
 obtain ⟨z, hz⟩ : ∃ z, z = w.heap.size := ⟨_, rfl⟩
 refine calls_G (args := [.agg (TPartition.arr x), .int .i64 (t : Int)]) 40 ⟨w, z, [(old0 w)]⟩ Try.func52 rfl (by kernel_rfl) (by kernel_rfl) (sat_0 hz) ?_
 have hlR := hx.Regions.1.len
 refine g_keep [0, 1] [(0, .agg (TPartition.arr x)), (1, .int .i64 (t : Int))] ?_
 refine g_seq <| g_region <| l_all 2 [o0, o0] [1, 2] [] [(1, .int .i64 (t : Int)), (2, .pointer (some ⟨z, 0, none⟩))] ⟨w, z + 1, [(old0 w), (qimm_0 z x)]⟩ trivial ?_
 refine e_seq <| g_seq <| g_seq <| g_region <| l_all 4 [o0, (oa [.at 1]), o0, o0] [1, 2, 10, 11] [Qb z] [(1, .int .i64 (t : Int)), (2, .pointer (some ⟨z, 0, none⟩)), (10, .int .i64 ((x.Regions.xs.length : Nat) : Int)), (11, .int .i64 0)] ⟨w, z + 1, [(old0 w), (qimm_0 z x)]⟩ ⟨rfl, trivial⟩ ?_
 refine e_seq <| g_block <| g_loop (fun m a w' => ∃ (n2 : Nat) (i : Nat), m = x.Regions.xs.length - i ∧ z + 1 ≤ n2 ∧ (i ≤ x.Regions.xs.length) ∧ (∀ q, q < i → touchR t (gd x.Regions.xs q) = false) ∧ St 40 [(1, .int .i64 (t : Int)), (2, .pointer (some ⟨z, 0, none⟩)), (10, .int .i64 ((x.Regions.xs.length : Nat) : Int)), (11, .int .i64 (i : Int))] [] ⟨w, n2, [(old0 w), (qimm_0 z x)]⟩ a w') (x.Regions.xs.length - 0) ?_ ?_
 · intro a w' hs; exact ⟨(z + 1), 0, rfl, Nat.le_refl _, Nat.zero_le _, fun q hq => absurd hq (Nat.not_lt_zero q), hs⟩
 · rintro m a w' ⟨n2, i, rfl, hn1, hki, hq0, hs⟩
   refine (?_ : G Try.prog 40 [(1, .int .i64 (t : Int)), (2, .pointer (some ⟨z, 0, none⟩)), (10, .int .i64 ((x.Regions.xs.length : Nat) : Int)), (11, .int .i64 (i : Int))] [] ⟨w, n2, [(old0 w), (qimm_0 z x)]⟩ _ _ _) a w' hs
   clear hs a w'
   refine g_seq ?_
   by_cases h3 : ((i : Int) : Int) < ((x.Regions.xs.length : Nat) : Int)
   · refine g_region <| l_all 1 [oT] [1, 2, 10, 11, 12] [BT (((i : Int) : Int) < ((x.Regions.xs.length : Nat) : Int))] [(1, .int .i64 (t : Int)), (2, .pointer (some ⟨z, 0, none⟩)), (10, .int .i64 ((x.Regions.xs.length : Nat) : Int)), (11, .int .i64 (i : Int)), (12, .bool true)] ⟨w, n2, [(old0 w), (qimm_0 z x)]⟩ ⟨bt (by omega), trivial⟩ ?_
     refine e_seq <| g_seq <| g_true <| g_skip <| e_seq <| g_seq <| g_block <| g_seq <| g_region <| l_all 2 [o0, o0] [1, 2, 10, 11, 5] [] [(1, .int .i64 (t : Int)), (2, .pointer (some ⟨z, 0, none⟩)), (10, .int .i64 ((x.Regions.xs.length : Nat) : Int)), (11, .int .i64 (i : Int)), (5, .int .i64 (i : Int))] ⟨w, n2, [(old0 w), (qimm_0 z x)]⟩ trivial ?_
     refine e_seq <| g_seq ?_
     obtain ⟨b4, o5, ha6, hF8, hc7⟩ := (hx.Regions).1.all (show 0 < x.Regions.xs.length by omega)
     replace ha6 : x.Regions.a = some ⟨b4, o5, none⟩ := ha6
     have hc9 := hc7 i (show i < x.Regions.xs.length by omega)
     have he10 := (hx.Regions).2 i (show i < x.Regions.xs.length by omega)
     obtain ⟨y11, hy11⟩ : ∃ y_, y_ = gd x.Regions.xs i := ⟨_, rfl⟩
     rw [← hy11] at he10 hc9
     have hrg := hr i (by omega); rw [← hy11] at hrg; unfold regOk at hrg; rw [decide_eq_true_eq] at hrg
     refine g_region <| l_all 7 [o0, ⟨.auto [.at 1], some (.slice (some ⟨b4, o5, none⟩) x.Regions.xs.length x.Regions.cap)⟩, o0, (oi i), o0, (oa [.via 0 (.int .i64 y11.Page)]), o0] [1, 2, 10, 11, 5, 6] [Qb z, Value.slice x.Regions.a x.Regions.xs.length x.Regions.cap = Value.slice (some ⟨b4, o5, none⟩) x.Regions.xs.length x.Regions.cap, ((i : Int) : Int) = ((i : Nat) : Int), i < x.Regions.xs.length, (none : Option Nat) = none, Old w b4 (o5 + i * 4) (.int .i64 y11.Page)] [(1, .int .i64 (t : Int)), (2, .pointer (some ⟨z, 0, none⟩)), (10, .int .i64 ((x.Regions.xs.length : Nat) : Int)), (11, .int .i64 (i : Int)), (5, .int .i64 (i : Int)), (6, .int .i64 y11.Page)] ⟨w, n2, [(old0 w), (qimm_0 z x)]⟩ ⟨rfl, congrArg (fun a => Value.slice a _ _) ha6, rfl, (by omega), rfl, old_cell' (hc9 0 _ rfl), trivial⟩ ?_
     refine e_seq <| g_seq <| g_region <| l_all 10 [o0, o0, ⟨.auto [.at 1], some (.slice (some ⟨b4, o5, none⟩) x.Regions.xs.length x.Regions.cap)⟩, o0, (oi i), o0, (oa [.via 0 (.int .i64 y11.Pages)]), (ov (.int .i64 (y11.Page + y11.Pages))), (ov (.int .i64 ((y11.Page + y11.Pages) - 1))), o0] [1, 2, 10, 11, 6, 7] [Qb z, Value.slice x.Regions.a x.Regions.xs.length x.Regions.cap = Value.slice (some ⟨b4, o5, none⟩) x.Regions.xs.length x.Regions.cap, ((i : Int) : Int) = ((i : Nat) : Int), i < x.Regions.xs.length, (none : Option Nat) = none, Old w b4 (o5 + i * 4 + 1) (.int .i64 y11.Pages), Value.int .i64 (IntKind.i64.wrap ((y11.Page : Int) + y11.Pages)) = Value.int .i64 (y11.Page + y11.Pages), Value.int .i64 (IntKind.i64.wrap ((y11.Page + y11.Pages : Int) - 1)) = Value.int .i64 ((y11.Page + y11.Pages) - 1)] [(1, .int .i64 (t : Int)), (2, .pointer (some ⟨z, 0, none⟩)), (10, .int .i64 ((x.Regions.xs.length : Nat) : Int)), (11, .int .i64 (i : Int)), (6, .int .i64 y11.Page), (7, .int .i64 ((y11.Page + y11.Pages) - 1))] ⟨w, n2, [(old0 w), (qimm_0 z x)]⟩ ⟨rfl, congrArg (fun a => Value.slice a _ _) ha6, rfl, (by omega), rfl, old_cell' (hc9 1 _ rfl), congrArg (Value.int .i64) (wr_i64 (by omega) (by omega) (by omega)), congrArg (Value.int .i64) (wr_i64 (by omega) (by omega) (by omega)), trivial⟩ ?_
     refine e_seq <| g_seq ?_
     by_cases h12 : ((t : Int) : Int) < y11.Page / 16
     · refine g_region <| l_all 10 [o0, (ov (.int .i64 (y11.Page / 16))), o0, oF, o0, o0] [1, 2, 10, 11, 38] [Value.int .i64 (IntKind.i64.wrap (Int.tdiv (y11.Page) 16)) = Value.int .i64 (y11.Page / 16), BF ((y11.Page / 16 : Int) ≤ (t : Int))] [(1, .int .i64 (t : Int)), (2, .pointer (some ⟨z, 0, none⟩)), (10, .int .i64 ((x.Regions.xs.length : Nat) : Int)), (11, .int .i64 (i : Int)), (38, .bool false)] ⟨w, n2, [(old0 w), (qimm_0 z x)]⟩ ⟨congrArg (Value.int .i64) (wr_div (by omega) (by omega) (by omega)), bf (by omega), trivial⟩ ?_
       refine e_seq <| g_false <| g_skip <| e_blk <| e_seq <| g_region <| l_all 2 [(ov (.int .i64 ((i + 1 : Nat) : Int))), o0] [1, 2, 10, 11] [Value.int .i64 (IntKind.i64.wrap (((i : Int) : Int) + 1)) = Value.int .i64 (((i + 1 : Nat) : Int))] [(1, .int .i64 (t : Int)), (2, .pointer (some ⟨z, 0, none⟩)), (10, .int .i64 ((x.Regions.xs.length : Nat) : Int)), (11, .int .i64 ((i + 1 : Nat) : Int))] ⟨w, n2, [(old0 w), (qimm_0 z x)]⟩ ⟨congrArg (Value.int .i64) (wr_i64 (by omega) (by omega) (by omega)), trivial⟩ ?_
       refine e_keep [1, 2, 10, 11] [(1, .int .i64 (t : Int)), (2, .pointer (some ⟨z, 0, none⟩)), (10, .int .i64 ((x.Regions.xs.length : Nat) : Int)), (11, .int .i64 ((i + 1 : Nat) : Int))] ?_
       refine e_inv (fun a w' hs => ⟨x.Regions.xs.length - (i + 1), by omega, n2, (i + 1), rfl, by omega, by omega, upto hq0 (by rw [← hy11]; exact decide_eq_false (by omega)), hs⟩)
     · by_cases h13 : (((y11.Page + y11.Pages) - 1) / 16 : Int) < (t : Int)
       · refine g_region <| l_all 10 [o0, (ov (.int .i64 (y11.Page / 16))), o0, oT, o0, o0, o0, (ov (.int .i64 (((y11.Page + y11.Pages) - 1) / 16))), oF, o0] [1, 2, 10, 11, 38] [Value.int .i64 (IntKind.i64.wrap (Int.tdiv (y11.Page) 16)) = Value.int .i64 (y11.Page / 16), BT ((y11.Page / 16 : Int) ≤ (t : Int)), Value.int .i64 (IntKind.i64.wrap (Int.tdiv ((y11.Page + y11.Pages) - 1) 16)) = Value.int .i64 (((y11.Page + y11.Pages) - 1) / 16), BF (((t : Int) : Int) ≤ (((y11.Page + y11.Pages) - 1) / 16))] [(1, .int .i64 (t : Int)), (2, .pointer (some ⟨z, 0, none⟩)), (10, .int .i64 ((x.Regions.xs.length : Nat) : Int)), (11, .int .i64 (i : Int)), (38, .bool false)] ⟨w, n2, [(old0 w), (qimm_0 z x)]⟩ ⟨congrArg (Value.int .i64) (wr_div (by omega) (by omega) (by omega)), bt (by omega), congrArg (Value.int .i64) (wr_div (by omega) (by omega) (by omega)), bf (by omega), trivial⟩ ?_
         refine e_seq <| g_false <| g_skip <| e_blk <| e_seq <| g_region <| l_all 2 [(ov (.int .i64 ((i + 1 : Nat) : Int))), o0] [1, 2, 10, 11] [Value.int .i64 (IntKind.i64.wrap (((i : Int) : Int) + 1)) = Value.int .i64 (((i + 1 : Nat) : Int))] [(1, .int .i64 (t : Int)), (2, .pointer (some ⟨z, 0, none⟩)), (10, .int .i64 ((x.Regions.xs.length : Nat) : Int)), (11, .int .i64 ((i + 1 : Nat) : Int))] ⟨w, n2, [(old0 w), (qimm_0 z x)]⟩ ⟨congrArg (Value.int .i64) (wr_i64 (by omega) (by omega) (by omega)), trivial⟩ ?_
         refine e_keep [1, 2, 10, 11] [(1, .int .i64 (t : Int)), (2, .pointer (some ⟨z, 0, none⟩)), (10, .int .i64 ((x.Regions.xs.length : Nat) : Int)), (11, .int .i64 ((i + 1 : Nat) : Int))] ?_
         refine e_inv (fun a w' hs => ⟨x.Regions.xs.length - (i + 1), by omega, n2, (i + 1), rfl, by omega, by omega, upto hq0 (by rw [← hy11]; exact decide_eq_false (by omega)), hs⟩)
       · refine g_region <| l_all 10 [o0, (ov (.int .i64 (y11.Page / 16))), o0, oT, o0, o0, o0, (ov (.int .i64 (((y11.Page + y11.Pages) - 1) / 16))), oT, o0] [1, 2, 10, 11, 38] [Value.int .i64 (IntKind.i64.wrap (Int.tdiv (y11.Page) 16)) = Value.int .i64 (y11.Page / 16), BT ((y11.Page / 16 : Int) ≤ (t : Int)), Value.int .i64 (IntKind.i64.wrap (Int.tdiv ((y11.Page + y11.Pages) - 1) 16)) = Value.int .i64 (((y11.Page + y11.Pages) - 1) / 16), BT (((t : Int) : Int) ≤ (((y11.Page + y11.Pages) - 1) / 16))] [(1, .int .i64 (t : Int)), (2, .pointer (some ⟨z, 0, none⟩)), (10, .int .i64 ((x.Regions.xs.length : Nat) : Int)), (11, .int .i64 (i : Int)), (38, .bool true)] ⟨w, n2, [(old0 w), (qimm_0 z x)]⟩ ⟨congrArg (Value.int .i64) (wr_div (by omega) (by omega) (by omega)), bt (by omega), congrArg (Value.int .i64) (wr_div (by omega) (by omega) (by omega)), bt (by omega), trivial⟩ ?_
         refine e_seq <| g_true <| g_seq <| g_region <| l_all 1 [o0] [4] [] [(4, .bool true)] ⟨w, n2, [(old0 w), (qimm_0 z x)]⟩ trivial ?_
         refine e_seq <| g_ret <| e_ret [] [] (.bool true) trivial ?_
         intro w14 hw14
         refine ⟨congrArg (fun b => Ending.returned (Value.bool b)) (Eq.symm (?_ : touchB x t = true)), hw14.back rfl (show w.heap.size ≤ n2 by omega) (List.mem_cons_self ..)⟩
         exact any_yes (k := i) (by omega) (by rw [← hy11]; exact decide_eq_true ⟨by omega, by omega⟩)
   · refine g_region <| l_all 1 [oF] [1, 2, 10, 11, 12] [BF (((i : Int) : Int) < ((x.Regions.xs.length : Nat) : Int))] [(1, .int .i64 (t : Int)), (2, .pointer (some ⟨z, 0, none⟩)), (10, .int .i64 ((x.Regions.xs.length : Nat) : Int)), (11, .int .i64 (i : Int)), (12, .bool false)] ⟨w, n2, [(old0 w), (qimm_0 z x)]⟩ ⟨bf (by omega), trivial⟩ ?_
     refine e_seq <| g_seq <| g_false <| g_exit <| e_out <| e_outI <| e_hit <| e_seq <| g_seq <| g_region <| l_all 1 [o0] [4] [] [(4, .bool false)] ⟨w, n2, [(old0 w), (qimm_0 z x)]⟩ trivial ?_
     refine e_seq <| g_ret <| e_ret [] [] (.bool false) trivial ?_
     intro w15 hw15
     refine ⟨congrArg (fun b => Ending.returned (Value.bool b)) (Eq.symm (?_ : touchB x t = false)), hw15.back rfl (show w.heap.size ≤ n2 by omega) (List.mem_cons_self ..)⟩
     exact any_no (fun q hq => hq0 q (by omega))
abbrev qqk0_0 (z : Nat) (c : TConfig) : Ch := .blk z (.cells (TConfig.arr c) 30 (0, 0)) true
theorem source_calls (w : World) (c : TConfig) (ch : Int) (hc : TConfig.ok Any w c) : Calls Try.prog 41 #[.agg (TConfig.arr c), .int .i64 ch] w fun e w' => e = .returned (.tuple #[.int .i64 (gd (endsOf c ch true) 0).partition, .int .i64 (gd (endsOf c ch true) 0).port]) ∧ Keeps (fun _ => False) w w' := by
 obtain ⟨z, hz⟩ : ∃ z, z = w.heap.size := ⟨_, rfl⟩
 refine calls_G (args := [.agg (TConfig.arr c), .int .i64 ch]) 52 ⟨w, z, [(old0 w)]⟩ Try.func41 rfl (by kernel_rfl) (by kernel_rfl) (sat_0 hz) ?_
 have hlP := hc.Partitions.1.len
 refine g_keep [0, 1] [(0, .agg (TConfig.arr c)), (1, .int .i64 ch)] ?_
 refine g_seq <| g_region <| l_all 3 [o0, o0, o0] [1, 2] [] [(1, .int .i64 ch), (2, .pointer (some ⟨z, 0, none⟩))] ⟨w, z + 1, [(old0 w), (qqk0_0 z c)]⟩ trivial ?_
 refine e_seq <| g_seq <| g_seq <| g_region <| l_all 4 [o0, (oa [.at 1]), o0, o0] [1, 2, 10, 11] [Qb z] [(1, .int .i64 ch), (2, .pointer (some ⟨z, 0, none⟩)), (10, .int .i64 ((c.Partitions.xs.length : Nat) : Int)), (11, .int .i64 0)] ⟨w, z + 1, [(old0 w), (qqk0_0 z c)]⟩ ⟨rfl, trivial⟩ ?_
 refine e_seq <| g_block <| g_loop (fun m a w' => ∃ (n2 : Nat) (i : Nat), m = c.Partitions.xs.length - i ∧ z + 1 ≤ n2 ∧ (i ≤ c.Partitions.xs.length) ∧ (endsUp c ch true i = []) ∧ St 52 [(1, .int .i64 ch), (2, .pointer (some ⟨z, 0, none⟩)), (10, .int .i64 ((c.Partitions.xs.length : Nat) : Int)), (11, .int .i64 (i : Int))] [] ⟨w, n2, [(old0 w), (qqk0_0 z c)]⟩ a w') (c.Partitions.xs.length - 0) ?_ ?_
 · intro a w' hs; exact ⟨(z + 1), 0, rfl, Nat.le_refl _, Nat.zero_le _, rfl, hs⟩
 · rintro m a w' ⟨n2, i, rfl, hn1, hki, heu, hs⟩
   refine (?_ : G Try.prog 52 [(1, .int .i64 ch), (2, .pointer (some ⟨z, 0, none⟩)), (10, .int .i64 ((c.Partitions.xs.length : Nat) : Int)), (11, .int .i64 (i : Int))] [] ⟨w, n2, [(old0 w), (qqk0_0 z c)]⟩ _ _ _) a w' hs
   clear hs a w'
   refine g_seq ?_
   by_cases h3 : ((i : Int) : Int) < ((c.Partitions.xs.length : Nat) : Int)
   · refine g_region <| l_all 1 [oT] [1, 2, 10, 11, 12] [BT (((i : Int) : Int) < ((c.Partitions.xs.length : Nat) : Int))] [(1, .int .i64 ch), (2, .pointer (some ⟨z, 0, none⟩)), (10, .int .i64 ((c.Partitions.xs.length : Nat) : Int)), (11, .int .i64 (i : Int)), (12, .bool true)] ⟨w, n2, [(old0 w), (qqk0_0 z c)]⟩ ⟨bt (by omega), trivial⟩ ?_
     refine e_seq <| g_seq <| g_true <| g_skip <| e_seq <| g_seq <| g_block <| g_seq <| g_region <| l_all 2 [o0, o0] [1, 2, 10, 11, 6] [] [(1, .int .i64 ch), (2, .pointer (some ⟨z, 0, none⟩)), (10, .int .i64 ((c.Partitions.xs.length : Nat) : Int)), (11, .int .i64 (i : Int)), (6, .int .i64 (i : Int))] ⟨w, n2, [(old0 w), (qqk0_0 z c)]⟩ trivial ?_
     refine e_seq <| g_seq ?_
     obtain ⟨b4, o5, ha6, hF8, hc7⟩ := (hc.Partitions).1.all (show 0 < c.Partitions.xs.length by omega)
     replace ha6 : c.Partitions.a = some ⟨b4, o5, none⟩ := ha6
     have hc9 := hc7 i (show i < c.Partitions.xs.length by omega)
     have he10 := (hc.Partitions).2 i (show i < c.Partitions.xs.length by omega)
     obtain ⟨y11, hy11⟩ : ∃ y_, y_ = gd c.Partitions.xs i := ⟨_, rfl⟩
     rw [← hy11] at he10 hc9
     refine g_region <| l_all 8 [o0, ⟨.auto [.at 1], some (.slice (some ⟨b4, o5, none⟩) c.Partitions.xs.length c.Partitions.cap)⟩, o0, (oi i), o0, (oa [.via 0 (.slice y11.Ports.a y11.Ports.xs.length y11.Ports.cap)]), o0, o0] [1, 2, 10, 11, 6, 20, 21] [Qb z, Value.slice c.Partitions.a c.Partitions.xs.length c.Partitions.cap = Value.slice (some ⟨b4, o5, none⟩) c.Partitions.xs.length c.Partitions.cap, ((i : Int) : Int) = ((i : Nat) : Int), i < c.Partitions.xs.length, (none : Option Nat) = none, Old w b4 (o5 + i * 8 + 7) (.slice y11.Ports.a y11.Ports.xs.length y11.Ports.cap)] [(1, .int .i64 ch), (2, .pointer (some ⟨z, 0, none⟩)), (10, .int .i64 ((c.Partitions.xs.length : Nat) : Int)), (11, .int .i64 (i : Int)), (6, .int .i64 (i : Int)), (20, .int .i64 ((y11.Ports.xs.length : Nat) : Int)), (21, .int .i64 0)] ⟨w, n2, [(old0 w), (qqk0_0 z c)]⟩ ⟨rfl, congrArg (fun a => Value.slice a _ _) ha6, rfl, (by omega), rfl, old_cell' (hc9 7 _ rfl), trivial⟩ ?_
     refine e_seq <| g_block <| g_keep [1, 2, 6, 10, 11, 20, 21] [(1, .int .i64 ch), (2, .pointer (some ⟨z, 0, none⟩)), (6, .int .i64 (i : Int)), (10, .int .i64 ((c.Partitions.xs.length : Nat) : Int)), (11, .int .i64 (i : Int)), (20, .int .i64 ((y11.Ports.xs.length : Nat) : Int)), (21, .int .i64 0)] ?_
     refine g_loop (fun m a w' => ∃ (n13 : Nat) (j : Nat), m = y11.Ports.xs.length - j ∧ n2 ≤ n13 ∧ (j ≤ y11.Ports.xs.length) ∧ (partEnds i y11 ch true j = []) ∧ St 52 [(1, .int .i64 ch), (2, .pointer (some ⟨z, 0, none⟩)), (6, .int .i64 (i : Int)), (10, .int .i64 ((c.Partitions.xs.length : Nat) : Int)), (11, .int .i64 (i : Int)), (20, .int .i64 ((y11.Ports.xs.length : Nat) : Int)), (21, .int .i64 (j : Int))] [] ⟨w, n13, [(old0 w), (qqk0_0 z c)]⟩ a w') (y11.Ports.xs.length - 0) ?_ ?_
     · intro a w' hs; exact ⟨n2, 0, rfl, Nat.le_refl _, Nat.zero_le _, rfl, hs⟩
     · rintro m a w' ⟨n13, j, rfl, hn12, hkj, hpe, hs⟩
       refine (?_ : G Try.prog 52 [(1, .int .i64 ch), (2, .pointer (some ⟨z, 0, none⟩)), (6, .int .i64 (i : Int)), (10, .int .i64 ((c.Partitions.xs.length : Nat) : Int)), (11, .int .i64 (i : Int)), (20, .int .i64 ((y11.Ports.xs.length : Nat) : Int)), (21, .int .i64 (j : Int))] [] ⟨w, n13, [(old0 w), (qqk0_0 z c)]⟩ _ _ _) a w' hs
       clear hs a w'
       have hlp := he10.Ports.1.len
       refine g_seq ?_
       by_cases h14 : ((j : Int) : Int) < ((y11.Ports.xs.length : Nat) : Int)
       · refine g_region <| l_all 1 [oT] [1, 2, 6, 10, 11, 20, 21, 22] [BT (((j : Int) : Int) < ((y11.Ports.xs.length : Nat) : Int))] [(1, .int .i64 ch), (2, .pointer (some ⟨z, 0, none⟩)), (6, .int .i64 (i : Int)), (10, .int .i64 ((c.Partitions.xs.length : Nat) : Int)), (11, .int .i64 (i : Int)), (20, .int .i64 ((y11.Ports.xs.length : Nat) : Int)), (21, .int .i64 (j : Int)), (22, .bool true)] ⟨w, n13, [(old0 w), (qqk0_0 z c)]⟩ ⟨bt (by omega), trivial⟩ ?_
         refine e_seq <| g_seq <| g_true <| g_skip <| e_seq <| g_seq <| g_block <| g_seq <| g_region <| l_all 2 [o0, o0] [1, 2, 6, 10, 11, 20, 21, 7] [] [(1, .int .i64 ch), (2, .pointer (some ⟨z, 0, none⟩)), (6, .int .i64 (i : Int)), (10, .int .i64 ((c.Partitions.xs.length : Nat) : Int)), (11, .int .i64 (i : Int)), (20, .int .i64 ((y11.Ports.xs.length : Nat) : Int)), (21, .int .i64 (j : Int)), (7, .int .i64 (j : Int))] ⟨w, n13, [(old0 w), (qqk0_0 z c)]⟩ trivial ?_
         refine e_seq <| g_seq ?_
         obtain ⟨b15, o16, ha17, hF19, hc18⟩ := (he10.Ports).1.all (show 0 < y11.Ports.xs.length by omega)
         replace ha17 : y11.Ports.a = some ⟨b15, o16, none⟩ := ha17
         have hc20 := hc18 j (show j < y11.Ports.xs.length by omega)
         have he21 := (he10.Ports).2 j (show j < y11.Ports.xs.length by omega)
         obtain ⟨y22, hy22⟩ : ∃ y_, y_ = gd y11.Ports.xs j := ⟨_, rfl⟩
         rw [← hy22] at he21 hc20
         by_cases h23 : (y22.Channel : Int) = ch
         · refine g_region <| l_all 24 [o0, ⟨.auto [.at 1], some (.slice (some ⟨b4, o5, none⟩) c.Partitions.xs.length c.Partitions.cap)⟩, o0, (oi i), o0, ⟨.auto [.via 0 (.slice y11.Ports.a y11.Ports.xs.length y11.Ports.cap)], some (.slice (some ⟨b15, o16, none⟩) y11.Ports.xs.length y11.Ports.cap)⟩, o0, (oi j), o0, (oa [.via 0 (.int .i64 y22.Channel)]), o0, oT, o0, o0, ⟨.auto [.at 1], some (.slice (some ⟨b4, o5, none⟩) c.Partitions.xs.length c.Partitions.cap)⟩, o0, (oi i), o0, ⟨.auto [.via 0 (.slice y11.Ports.a y11.Ports.xs.length y11.Ports.cap)], some (.slice (some ⟨b15, o16, none⟩) y11.Ports.xs.length y11.Ports.cap)⟩, o0, (oi j), o0, (oa [.via 0 (.bool y22.Source)]), o0] [1, 2, 6, 10, 11, 20, 21, 7, 47] [Qb z, Value.slice c.Partitions.a c.Partitions.xs.length c.Partitions.cap = Value.slice (some ⟨b4, o5, none⟩) c.Partitions.xs.length c.Partitions.cap, ((i : Int) : Int) = ((i : Nat) : Int), i < c.Partitions.xs.length, (none : Option Nat) = none, Old w b4 (o5 + i * 8 + 7) (.slice y11.Ports.a y11.Ports.xs.length y11.Ports.cap), Value.slice y11.Ports.a y11.Ports.xs.length y11.Ports.cap = Value.slice (some ⟨b15, o16, none⟩) y11.Ports.xs.length y11.Ports.cap, ((j : Int) : Int) = ((j : Nat) : Int), j < y11.Ports.xs.length, (none : Option Nat) = none, Old w b15 (o16 + j * 2) (.int .i64 y22.Channel), ET y22.Channel ch, Qb z, Value.slice c.Partitions.a c.Partitions.xs.length c.Partitions.cap = Value.slice (some ⟨b4, o5, none⟩) c.Partitions.xs.length c.Partitions.cap, ((i : Int) : Int) = ((i : Nat) : Int), i < c.Partitions.xs.length, (none : Option Nat) = none, Old w b4 (o5 + i * 8 + 7) (.slice y11.Ports.a y11.Ports.xs.length y11.Ports.cap), Value.slice y11.Ports.a y11.Ports.xs.length y11.Ports.cap = Value.slice (some ⟨b15, o16, none⟩) y11.Ports.xs.length y11.Ports.cap, ((j : Int) : Int) = ((j : Nat) : Int), j < y11.Ports.xs.length, (none : Option Nat) = none, Old w b15 (o16 + j * 2 + 1) (.bool y22.Source)] [(1, .int .i64 ch), (2, .pointer (some ⟨z, 0, none⟩)), (6, .int .i64 (i : Int)), (10, .int .i64 ((c.Partitions.xs.length : Nat) : Int)), (11, .int .i64 (i : Int)), (20, .int .i64 ((y11.Ports.xs.length : Nat) : Int)), (21, .int .i64 (j : Int)), (7, .int .i64 (j : Int)), (47, .bool y22.Source)] ⟨w, n13, [(old0 w), (qqk0_0 z c)]⟩ ⟨rfl, congrArg (fun a => Value.slice a _ _) ha6, rfl, (by omega), rfl, old_cell' (hc9 7 _ rfl), congrArg (fun a => Value.slice a _ _) ha17, rfl, (by omega), rfl, old_cell' (hc20 0 _ rfl), et (by omega), rfl, congrArg (fun a => Value.slice a _ _) ha6, rfl, (by omega), rfl, old_cell' (hc9 7 _ rfl), congrArg (fun a => Value.slice a _ _) ha17, rfl, (by omega), rfl, old_cell' (hc20 1 _ rfl), trivial⟩ ?_
           refine e_seq ?_
           by_cases h24 : y22.Source = true
           · refine g_true ?_ (congrArg Value.bool h24)
             refine g_seq <| g_region <| l_all 4 [o0, o0, o0, o0] [4, 5] [] [(4, .int .i64 (i : Int)), (5, .int .i64 (j : Int))] ⟨w, n13, [(old0 w), (qqk0_0 z c)]⟩ trivial ?_
             refine e_seq <| g_ret <| e_ret [] [] (.tuple #[.int .i64 (i : Int), .int .i64 (j : Int)]) trivial ?_
             intro w25 hw25
             have hg := first_end (i := i) (j := j) (by omega) (by rw [← hy11]; omega) heu (by rw [← hy11]; exact hpe) (by rw [← hy11, ← hy22]; exact src_t (by omega) (by revert h24; cases y22.Source <;> simp))
             refine ⟨?_, hw25.back rfl (show w.heap.size ≤ n13 by omega) (List.mem_cons_self ..)⟩
             rw [hg]
           · refine g_false ?_ (congrArg Value.bool (Bool.eq_false_iff.2 h24))
             refine g_skip <| e_blk <| e_seq <| g_region <| l_all 2 [(ov (.int .i64 ((j + 1 : Nat) : Int))), o0] [1, 2, 6, 10, 11, 20, 21] [Value.int .i64 (IntKind.i64.wrap (((j : Int) : Int) + 1)) = Value.int .i64 (((j + 1 : Nat) : Int))] [(1, .int .i64 ch), (2, .pointer (some ⟨z, 0, none⟩)), (6, .int .i64 (i : Int)), (10, .int .i64 ((c.Partitions.xs.length : Nat) : Int)), (11, .int .i64 (i : Int)), (20, .int .i64 ((y11.Ports.xs.length : Nat) : Int)), (21, .int .i64 ((j + 1 : Nat) : Int))] ⟨w, n13, [(old0 w), (qqk0_0 z c)]⟩ ⟨congrArg (Value.int .i64) (wr_i64 (by omega) (by omega) (by omega)), trivial⟩ ?_
             refine e_keep [1, 2, 6, 10, 11, 20, 21] [(1, .int .i64 ch), (2, .pointer (some ⟨z, 0, none⟩)), (6, .int .i64 (i : Int)), (10, .int .i64 ((c.Partitions.xs.length : Nat) : Int)), (11, .int .i64 (i : Int)), (20, .int .i64 ((y11.Ports.xs.length : Nat) : Int)), (21, .int .i64 ((j + 1 : Nat) : Int))] ?_
             refine e_inv (fun a w' hs => ⟨y11.Ports.xs.length - (j + 1), by omega, n13, (j + 1), rfl, by omega, by omega, by rw [partEnds_no (by rw [← hy22]; exact src_f2 (by revert h24; cases y22.Source <;> simp))]; exact hpe, hs⟩)
         · refine g_region <| l_all 24 [o0, ⟨.auto [.at 1], some (.slice (some ⟨b4, o5, none⟩) c.Partitions.xs.length c.Partitions.cap)⟩, o0, (oi i), o0, ⟨.auto [.via 0 (.slice y11.Ports.a y11.Ports.xs.length y11.Ports.cap)], some (.slice (some ⟨b15, o16, none⟩) y11.Ports.xs.length y11.Ports.cap)⟩, o0, (oi j), o0, (oa [.via 0 (.int .i64 y22.Channel)]), o0, oF, o0, o0] [1, 2, 6, 10, 11, 20, 21, 7, 47] [Qb z, Value.slice c.Partitions.a c.Partitions.xs.length c.Partitions.cap = Value.slice (some ⟨b4, o5, none⟩) c.Partitions.xs.length c.Partitions.cap, ((i : Int) : Int) = ((i : Nat) : Int), i < c.Partitions.xs.length, (none : Option Nat) = none, Old w b4 (o5 + i * 8 + 7) (.slice y11.Ports.a y11.Ports.xs.length y11.Ports.cap), Value.slice y11.Ports.a y11.Ports.xs.length y11.Ports.cap = Value.slice (some ⟨b15, o16, none⟩) y11.Ports.xs.length y11.Ports.cap, ((j : Int) : Int) = ((j : Nat) : Int), j < y11.Ports.xs.length, (none : Option Nat) = none, Old w b15 (o16 + j * 2) (.int .i64 y22.Channel), EF y22.Channel ch] [(1, .int .i64 ch), (2, .pointer (some ⟨z, 0, none⟩)), (6, .int .i64 (i : Int)), (10, .int .i64 ((c.Partitions.xs.length : Nat) : Int)), (11, .int .i64 (i : Int)), (20, .int .i64 ((y11.Ports.xs.length : Nat) : Int)), (21, .int .i64 (j : Int)), (7, .int .i64 (j : Int)), (47, .bool false)] ⟨w, n13, [(old0 w), (qqk0_0 z c)]⟩ ⟨rfl, congrArg (fun a => Value.slice a _ _) ha6, rfl, (by omega), rfl, old_cell' (hc9 7 _ rfl), congrArg (fun a => Value.slice a _ _) ha17, rfl, (by omega), rfl, old_cell' (hc20 0 _ rfl), ef (by omega), trivial⟩ ?_
           refine e_seq <| g_false <| g_skip <| e_blk <| e_seq <| g_region <| l_all 2 [(ov (.int .i64 ((j + 1 : Nat) : Int))), o0] [1, 2, 6, 10, 11, 20, 21] [Value.int .i64 (IntKind.i64.wrap (((j : Int) : Int) + 1)) = Value.int .i64 (((j + 1 : Nat) : Int))] [(1, .int .i64 ch), (2, .pointer (some ⟨z, 0, none⟩)), (6, .int .i64 (i : Int)), (10, .int .i64 ((c.Partitions.xs.length : Nat) : Int)), (11, .int .i64 (i : Int)), (20, .int .i64 ((y11.Ports.xs.length : Nat) : Int)), (21, .int .i64 ((j + 1 : Nat) : Int))] ⟨w, n13, [(old0 w), (qqk0_0 z c)]⟩ ⟨congrArg (Value.int .i64) (wr_i64 (by omega) (by omega) (by omega)), trivial⟩ ?_
           refine e_keep [1, 2, 6, 10, 11, 20, 21] [(1, .int .i64 ch), (2, .pointer (some ⟨z, 0, none⟩)), (6, .int .i64 (i : Int)), (10, .int .i64 ((c.Partitions.xs.length : Nat) : Int)), (11, .int .i64 (i : Int)), (20, .int .i64 ((y11.Ports.xs.length : Nat) : Int)), (21, .int .i64 ((j + 1 : Nat) : Int))] ?_
           refine e_inv (fun a w' hs => ⟨y11.Ports.xs.length - (j + 1), by omega, n13, (j + 1), rfl, by omega, by omega, by rw [partEnds_no (by rw [← hy22]; exact src_f1 (by omega))]; exact hpe, hs⟩)
       · refine g_region <| l_all 1 [oF] [1, 2, 6, 10, 11, 20, 21, 22] [BF (((j : Int) : Int) < ((y11.Ports.xs.length : Nat) : Int))] [(1, .int .i64 ch), (2, .pointer (some ⟨z, 0, none⟩)), (6, .int .i64 (i : Int)), (10, .int .i64 ((c.Partitions.xs.length : Nat) : Int)), (11, .int .i64 (i : Int)), (20, .int .i64 ((y11.Ports.xs.length : Nat) : Int)), (21, .int .i64 (j : Int)), (22, .bool false)] ⟨w, n13, [(old0 w), (qqk0_0 z c)]⟩ ⟨bf (by omega), trivial⟩ ?_
         refine e_seq <| g_seq <| g_false <| g_exit <| e_out <| e_outI <| e_hit <| e_blk <| e_seq <| g_region <| l_all 2 [(ov (.int .i64 ((i + 1 : Nat) : Int))), o0] [1, 2, 10, 11] [Value.int .i64 (IntKind.i64.wrap (((i : Int) : Int) + 1)) = Value.int .i64 (((i + 1 : Nat) : Int))] [(1, .int .i64 ch), (2, .pointer (some ⟨z, 0, none⟩)), (10, .int .i64 ((c.Partitions.xs.length : Nat) : Int)), (11, .int .i64 ((i + 1 : Nat) : Int))] ⟨w, n13, [(old0 w), (qqk0_0 z c)]⟩ ⟨congrArg (Value.int .i64) (wr_i64 (by omega) (by omega) (by omega)), trivial⟩ ?_
         refine e_keep [1, 2, 10, 11] [(1, .int .i64 ch), (2, .pointer (some ⟨z, 0, none⟩)), (10, .int .i64 ((c.Partitions.xs.length : Nat) : Int)), (11, .int .i64 ((i + 1 : Nat) : Int))] ?_
         refine e_inv (fun a w' hs => ⟨c.Partitions.xs.length - (i + 1), by omega, n13, (i + 1), rfl, by omega, by omega, by rw [endsUp_succ, heu, ← hy11, show y11.Ports.xs.length = j by omega]; exact hpe, hs⟩)
   · refine g_region <| l_all 1 [oF] [1, 2, 10, 11, 12] [BF (((i : Int) : Int) < ((c.Partitions.xs.length : Nat) : Int))] [(1, .int .i64 ch), (2, .pointer (some ⟨z, 0, none⟩)), (10, .int .i64 ((c.Partitions.xs.length : Nat) : Int)), (11, .int .i64 (i : Int)), (12, .bool false)] ⟨w, n2, [(old0 w), (qqk0_0 z c)]⟩ ⟨bf (by omega), trivial⟩ ?_
     refine e_seq <| g_seq <| g_false <| g_exit <| e_out <| e_outI <| e_hit <| e_seq <| g_seq <| g_region <| l_all 2 [o0, o0] [4, 5] [] [(4, .int .i64 0), (5, .int .i64 0)] ⟨w, n2, [(old0 w), (qqk0_0 z c)]⟩ trivial ?_
     refine e_seq <| g_ret <| e_ret [] [] (.tuple #[.int .i64 0, .int .i64 0]) trivial ?_
     intro w26 hw26
     have e0 : i = c.Partitions.xs.length := by omega
     subst e0
     have hg := no_end heu
     refine ⟨?_, hw26.back rfl (show w.heap.size ≤ n2 by omega) (List.mem_cons_self ..)⟩
     rw [hg]

end Go.Proofs.Ytpoeaajkgblkmaa.Ly
