/- layout: Same, Need, LayoutIs. No conditions. -/
import Derived.Test.YtpoeaajkgblkmaaLp
namespace Go.Proofs.Ytpoeaajkgblkmaa.Ly
open Go Go.Proofs.Ytpoeaajkgblkmaa.Eng Go.Proofs.Ytpoeaajkgblkmaa.Mem
set_option linter.unusedSimpArgs false
set_option linter.unusedVariables false
set_option maxRecDepth 100000

structure SameP (p q : TPartitionPlace) : Prop where
  nums : p.Lock = q.Lock ∧ p.Save = q.Save ∧ p.State = q.State ∧ p.Root = q.Root
  tl : p.Tables.xs.length = q.Tables.xs.length
  tabs : ∀ k, k < p.Tables.xs.length → gd p.Tables.xs k = gd q.Tables.xs k
structure SameC (p q : TChannelPlace) : Prop where
  nums : p.Lock = q.Lock ∧ p.Stage = q.Stage ∧ p.Partition = q.Partition ∧ p.Port = q.Port
  dl : p.Dests.xs.length = q.Dests.xs.length
  ds : ∀ k, k < p.Dests.xs.length → (gd p.Dests.xs k).Partition = (gd q.Dests.xs k).Partition ∧ (gd p.Dests.xs k).Port = (gd q.Dests.xs k).Port ∧ (gd p.Dests.xs k).At = (gd q.Dests.xs k).At
structure SameL (a b : TLayout) : Prop where
  nums : a.Barrier = b.Barrier ∧ a.End = b.End
  pl : a.Partitions.xs.length = b.Partitions.xs.length
  cl : a.Channels.xs.length = b.Channels.xs.length
  ps : ∀ i, i < a.Partitions.xs.length → SameP (gd a.Partitions.xs i) (gd b.Partitions.xs i)
  cs : ∀ i, i < a.Channels.xs.length → SameC (gd a.Channels.xs i) (gd b.Channels.xs i)
theorem same_of {c : TConfig} {a b : TLayout} (ha : IsLay c a) (hb : IsLay c b) : SameL a b := by
  refine ⟨⟨by rw [ha.bar, hb.bar], by rw [ha.fin, hb.fin]⟩, by rw [ha.pl, hb.pl], by rw [ha.cl, hb.cl], ?_, ?_⟩
  · intro i hi
    rw [ha.pl] at hi
    obtain ⟨x, cx, e1⟩ := ha.ps i hi
    obtain ⟨y, cy, e2⟩ := hb.ps i hi
    rw [e1, e2]
    exact ⟨⟨rfl, rfl, rfl, rfl⟩, rfl, fun _ _ => rfl⟩
  · intro k hk
    rw [ha.cl] at hk
    obtain ⟨x, cx, e1⟩ := ha.cs k hk
    obtain ⟨y, cy, e2⟩ := hb.cs k hk
    rw [e1, e2]
    exact ⟨⟨rfl, rfl, rfl, rfl⟩, rfl, fun _ _ => ⟨rfl, rfl, rfl⟩⟩
abbrev noLay : TLayout := ⟨0, ⟨none, 0, []⟩, ⟨none, 0, []⟩, 0⟩
theorem same_no : SameL noLay noLay := ⟨⟨rfl, rfl⟩, rfl, rfl, fun i hi => absurd hi (Nat.not_lt_zero i), fun i hi => absurd hi (Nat.not_lt_zero i)⟩
theorem noLay_ok {F : Nat → Prop} {W : World} : TLayout.ok F W noLay := ⟨ink (Int.le_refl _) (by decide), slok_nil, slok_nil, ink (Int.le_refl _) (by decide)⟩
def needOf (c : TConfig) : Int := if confOk c = true then tAt c c.Partitions.xs.length - c.Kernel else 0
def errOf (c : TConfig) : Int := if confOk c = true then 0 else 150
abbrev qtn6_0 (n2 : Nat) (y19 : TPartitionPlace) : Ch := .blk (n2 + 1) (.cells (TPartitionPlace.arr y19) 42 (0, 0)) true
abbrev qtn6_1 (n40 : Nat) (y57 : TChannelPlace) : Ch := .blk (n40 + 1) (.cells (TChannelPlace.arr y57) 45 (0, 0)) true
abbrev qtn6_2 (n2 : Nat) (y11 : TPartitionPlace) : Ch := .blk n2 (.cells (TPartitionPlace.arr y11) 42 (0, 0)) true
abbrev qtn6_3 (n40 : Nat) (y49 : TChannelPlace) : Ch := .blk n40 (.cells (TChannelPlace.arr y49) 45 (0, 0)) true
abbrev qtn6_4 (z : Nat) (lb : TLayout) : Ch := .blk (z + 1) (.cells (TLayout.arr lb) 34 (0, 0)) true
abbrev qtn6_5 (z : Nat) (la : TLayout) : Ch := .blk z (.cells (TLayout.arr la) 34 (0, 0)) true
abbrev qtn6_6 (w : World) (z : Nat) (la : TLayout) (lb : TLayout) (n40 : Nat) (y49 : TChannelPlace) (y57 : TChannelPlace) : List Ch := [(old0 w), (qtn6_5 z la), (qtn6_4 z lb), (qtn6_3 n40 y49), (qtn6_1 n40 y57)]
abbrev qtn6_7 (w : World) (z : Nat) (la : TLayout) (lb : TLayout) (n2 : Nat) (y11 : TPartitionPlace) (y19 : TPartitionPlace) : List Ch := [(old0 w), (qtn6_5 z la), (qtn6_4 z lb), (qtn6_2 n2 y11), (qtn6_0 n2 y19)]
theorem same_calls (w : World) (la lb : TLayout) (ha : TLayout.ok Any w la) (hb : TLayout.ok Any w lb) (hM : SameL la lb) : Calls Try.prog 18 #[.agg (TLayout.arr la), .agg (TLayout.arr lb)] w fun e w' => e = .returned (.bool true) ∧ Keeps (fun _ => False) w w' := by
 obtain ⟨z, hz⟩ : ∃ z, z = w.heap.size := ⟨_, rfl⟩
 refine calls_G (args := [.agg (TLayout.arr la), .agg (TLayout.arr lb)]) 183 ⟨w, z, [(old0 w)]⟩ Try.func18 rfl (by kernel_rfl) (by kernel_rfl) (sat_0 hz) ?_
 have hn0 := hM.nums; have hpl := hM.pl; have hcl := hM.cl; have hl1 := ha.Partitions.1.len; have hl2 := ha.Channels.1.len
 refine g_keep [0, 1] [(0, .agg (TLayout.arr la)), (1, .agg (TLayout.arr lb))] ?_
 refine g_seq <| g_region <| l_all 3 [o0, o0, o0] [2, 3] [] [(2, .pointer (some ⟨z, 0, none⟩)), (3, .pointer (some ⟨z + 1, 0, none⟩))] ⟨w, z + 2, [(old0 w), (qtn6_5 z la), (qtn6_4 z lb)]⟩ trivial ?_
 refine e_seq <| g_seq <| g_seq <| g_region <| l_all 30 [o0, (oa [.at 1]), o0, (oa [.at 2]), oF, o0, o0, (oa [.at 1]), o0, (oa [.at 2]), oF, o0, o0, o0, (oa [.at 1]), o0, o0, (oa [.at 2]), o0, oF, o0, o0, o0, (oa [.at 1]), o0, o0, (oa [.at 2]), o0, oF, o0] [2, 3, 42] [Qb z, Qb (z + 1), NF la.Barrier lb.Barrier, Qb z, Qb (z + 1), NF la.End lb.End, Qb z, Qb (z + 1), NF ((la.Partitions.xs.length : Nat) : Int) ((lb.Partitions.xs.length : Nat) : Int), Qb z, Qb (z + 1), NF ((la.Channels.xs.length : Nat) : Int) ((lb.Channels.xs.length : Nat) : Int)] [(2, .pointer (some ⟨z, 0, none⟩)), (3, .pointer (some ⟨z + 1, 0, none⟩)), (42, .bool false)] ⟨w, z + 2, [(old0 w), (qtn6_5 z la), (qtn6_4 z lb)]⟩ ⟨rfl, rfl, nf (by omega), rfl, rfl, nf (by omega), rfl, rfl, nf (by omega), rfl, rfl, nf (by omega), trivial⟩ ?_
 refine e_seq <| g_false <| g_skip <| e_seq <| g_seq <| g_seq <| g_region <| l_all 4 [o0, (oa [.at 1]), o0, o0] [2, 3, 45, 46] [Qb z] [(2, .pointer (some ⟨z, 0, none⟩)), (3, .pointer (some ⟨z + 1, 0, none⟩)), (45, .int .i64 ((la.Partitions.xs.length : Nat) : Int)), (46, .int .i64 0)] ⟨w, z + 2, [(old0 w), (qtn6_5 z la), (qtn6_4 z lb)]⟩ ⟨rfl, trivial⟩ ?_
 refine e_seq <| g_block <| g_loop (fun m a w' => ∃ (n2 : Nat) (i : Nat), m = la.Partitions.xs.length - i ∧ z + 2 ≤ n2 ∧ (i ≤ la.Partitions.xs.length) ∧ St 183 [(2, .pointer (some ⟨z, 0, none⟩)), (3, .pointer (some ⟨z + 1, 0, none⟩)), (45, .int .i64 ((la.Partitions.xs.length : Nat) : Int)), (46, .int .i64 (i : Int))] [] ⟨w, n2, [(old0 w), (qtn6_5 z la), (qtn6_4 z lb)]⟩ a w') (la.Partitions.xs.length - 0) ?_ ?_
 · intro a w' hs; exact ⟨(z + 2), 0, rfl, Nat.le_refl _, Nat.zero_le _, hs⟩
 · rintro m a w' ⟨n2, i, rfl, hn1, hki, hs⟩
   refine (?_ : G Try.prog 183 [(2, .pointer (some ⟨z, 0, none⟩)), (3, .pointer (some ⟨z + 1, 0, none⟩)), (45, .int .i64 ((la.Partitions.xs.length : Nat) : Int)), (46, .int .i64 (i : Int))] [] ⟨w, n2, [(old0 w), (qtn6_5 z la), (qtn6_4 z lb)]⟩ _ _ _) a w' hs
   clear hs a w'
   refine g_seq ?_
   by_cases h3 : ((i : Int) : Int) < ((la.Partitions.xs.length : Nat) : Int)
   · refine g_region <| l_all 1 [oT] [2, 3, 45, 46, 47] [BT (((i : Int) : Int) < ((la.Partitions.xs.length : Nat) : Int))] [(2, .pointer (some ⟨z, 0, none⟩)), (3, .pointer (some ⟨z + 1, 0, none⟩)), (45, .int .i64 ((la.Partitions.xs.length : Nat) : Int)), (46, .int .i64 (i : Int)), (47, .bool true)] ⟨w, n2, [(old0 w), (qtn6_5 z la), (qtn6_4 z lb)]⟩ ⟨bt (by omega), trivial⟩ ?_
     refine e_seq <| g_seq <| g_true <| g_skip <| e_seq <| g_seq <| g_block <| g_seq <| g_region <| l_all 2 [o0, o0] [2, 3, 45, 46, 5] [] [(2, .pointer (some ⟨z, 0, none⟩)), (3, .pointer (some ⟨z + 1, 0, none⟩)), (45, .int .i64 ((la.Partitions.xs.length : Nat) : Int)), (46, .int .i64 (i : Int)), (5, .int .i64 (i : Int))] ⟨w, n2, [(old0 w), (qtn6_5 z la), (qtn6_4 z lb)]⟩ trivial ?_
     refine e_seq <| g_seq ?_
     obtain ⟨b4, o5, ha6, hF8, hc7⟩ := (ha.Partitions).1.all (show 0 < la.Partitions.xs.length by omega)
     replace ha6 : la.Partitions.a = some ⟨b4, o5, none⟩ := ha6
     have hc9 := hc7 i (show i < la.Partitions.xs.length by omega)
     have he10 := (ha.Partitions).2 i (show i < la.Partitions.xs.length by omega)
     obtain ⟨y11, hy11⟩ : ∃ y_, y_ = gd la.Partitions.xs i := ⟨_, rfl⟩
     rw [← hy11] at he10 hc9
     have htln := he10.Tables.1.len
     refine g_region <| l_all 7 [o0, ⟨.auto [.at 1], some (.slice (some ⟨b4, o5, none⟩) la.Partitions.xs.length la.Partitions.cap)⟩, o0, (oi i), (ol 0 (TPartitionPlace.arr y11)), o0, (oa [.at 3, .at 3, .at 3, .at 3, .at 3])] [2, 3, 45, 46, 5, 6] [Qb z, Value.slice la.Partitions.a la.Partitions.xs.length la.Partitions.cap = Value.slice (some ⟨b4, o5, none⟩) la.Partitions.xs.length la.Partitions.cap, ((i : Int) : Int) = ((i : Nat) : Int), i < la.Partitions.xs.length, (none : Option Nat) = none, OldR w b4 (o5 + i * 5) (TPartitionPlace.arr y11), Qb n2, Qb n2, Qb n2, Qb n2, Qb n2] [(2, .pointer (some ⟨z, 0, none⟩)), (3, .pointer (some ⟨z + 1, 0, none⟩)), (45, .int .i64 ((la.Partitions.xs.length : Nat) : Int)), (46, .int .i64 (i : Int)), (5, .int .i64 (i : Int)), (6, .pointer (some ⟨n2, 0, none⟩))] ⟨w, n2 + 1, [(old0 w), (qtn6_5 z la), (qtn6_4 z lb), (qtn6_2 n2 y11)]⟩ ⟨rfl, congrArg (fun a => Value.slice a _ _) ha6, rfl, (by omega), rfl, old_row hc9, rfl, rfl, rfl, rfl, rfl, trivial⟩ ?_
     refine e_seq <| g_seq ?_
     obtain ⟨b12, o13, ha14, hF16, hc15⟩ := (hb.Partitions).1.all (show 0 < lb.Partitions.xs.length by omega)
     replace ha14 : lb.Partitions.a = some ⟨b12, o13, none⟩ := ha14
     have hc17 := hc15 i (show i < lb.Partitions.xs.length by omega)
     have he18 := (hb.Partitions).2 i (show i < lb.Partitions.xs.length by omega)
     obtain ⟨y19, hy19⟩ : ∃ y_, y_ = gd lb.Partitions.xs i := ⟨_, rfl⟩
     rw [← hy19] at he18 hc17
     have hmp := hM.ps i (by omega); rw [← hy11, ← hy19] at hmp; have hn1 := hmp.nums; have hn2 := hmp.tl
     refine g_region <| l_all 7 [o0, ⟨.auto [.at 2], some (.slice (some ⟨b12, o13, none⟩) lb.Partitions.xs.length lb.Partitions.cap)⟩, o0, (oi i), (ol 0 (TPartitionPlace.arr y19)), o0, (oa [.at 4, .at 4, .at 4, .at 4, .at 4])] [2, 3, 45, 46, 6, 7] [Qb (z + 1), Value.slice lb.Partitions.a lb.Partitions.xs.length lb.Partitions.cap = Value.slice (some ⟨b12, o13, none⟩) lb.Partitions.xs.length lb.Partitions.cap, ((i : Int) : Int) = ((i : Nat) : Int), i < lb.Partitions.xs.length, (none : Option Nat) = none, OldR w b12 (o13 + i * 5) (TPartitionPlace.arr y19), Qb (n2 + 1), Qb (n2 + 1), Qb (n2 + 1), Qb (n2 + 1), Qb (n2 + 1)] [(2, .pointer (some ⟨z, 0, none⟩)), (3, .pointer (some ⟨z + 1, 0, none⟩)), (45, .int .i64 ((la.Partitions.xs.length : Nat) : Int)), (46, .int .i64 (i : Int)), (6, .pointer (some ⟨n2, 0, none⟩)), (7, .pointer (some ⟨n2 + 1, 0, none⟩))] ⟨w, n2 + 2, (qtn6_7 w z la lb n2 y11 y19)⟩ ⟨rfl, congrArg (fun a => Value.slice a _ _) ha14, rfl, (by omega), rfl, old_row hc17, rfl, rfl, rfl, rfl, rfl, trivial⟩ ?_
     refine e_seq <| g_seq <| g_seq <| g_region <| l_all 35 [o0, (oa [.at 3]), o0, (oa [.at 4]), oF, o0, o0, (oa [.at 3]), o0, (oa [.at 4]), oF, o0, o0, o0, (oa [.at 3]), o0, (oa [.at 4]), oF, o0, o0, o0, (oa [.at 3]), o0, (oa [.at 4]), oF, o0, o0, o0, (oa [.at 3]), o0, o0, (oa [.at 4]), o0, oF, o0] [2, 3, 45, 46, 6, 7, 93] [Qb n2, Qb (n2 + 1), NF y11.Lock y19.Lock, Qb n2, Qb (n2 + 1), NF y11.Save y19.Save, Qb n2, Qb (n2 + 1), NF y11.State y19.State, Qb n2, Qb (n2 + 1), NF y11.Root y19.Root, Qb n2, Qb (n2 + 1), NF ((y11.Tables.xs.length : Nat) : Int) ((y19.Tables.xs.length : Nat) : Int)] [(2, .pointer (some ⟨z, 0, none⟩)), (3, .pointer (some ⟨z + 1, 0, none⟩)), (45, .int .i64 ((la.Partitions.xs.length : Nat) : Int)), (46, .int .i64 (i : Int)), (6, .pointer (some ⟨n2, 0, none⟩)), (7, .pointer (some ⟨n2 + 1, 0, none⟩)), (93, .bool false)] ⟨w, n2 + 2, (qtn6_7 w z la lb n2 y11 y19)⟩ ⟨rfl, rfl, nf (by omega), rfl, rfl, nf (by omega), rfl, rfl, nf (by omega), rfl, rfl, nf (by omega), rfl, rfl, nf (by omega), trivial⟩ ?_
     refine e_seq <| g_false <| g_skip <| e_seq <| g_seq <| g_region <| l_all 4 [o0, (oa [.at 3]), o0, o0] [2, 3, 45, 46, 6, 7, 96, 97] [Qb n2] [(2, .pointer (some ⟨z, 0, none⟩)), (3, .pointer (some ⟨z + 1, 0, none⟩)), (45, .int .i64 ((la.Partitions.xs.length : Nat) : Int)), (46, .int .i64 (i : Int)), (6, .pointer (some ⟨n2, 0, none⟩)), (7, .pointer (some ⟨n2 + 1, 0, none⟩)), (96, .int .i64 ((y11.Tables.xs.length : Nat) : Int)), (97, .int .i64 0)] ⟨w, n2 + 2, (qtn6_7 w z la lb n2 y11 y19)⟩ ⟨rfl, trivial⟩ ?_
     refine e_seq <| g_block <| g_keep [2, 3, 6, 7, 45, 46, 96, 97] [(2, .pointer (some ⟨z, 0, none⟩)), (3, .pointer (some ⟨z + 1, 0, none⟩)), (6, .pointer (some ⟨n2, 0, none⟩)), (7, .pointer (some ⟨n2 + 1, 0, none⟩)), (45, .int .i64 ((la.Partitions.xs.length : Nat) : Int)), (46, .int .i64 (i : Int)), (96, .int .i64 ((y11.Tables.xs.length : Nat) : Int)), (97, .int .i64 0)] ?_
     refine g_loop (fun m a w' => ∃ (n21 : Nat) (k : Nat), m = y11.Tables.xs.length - k ∧ n2 + 2 ≤ n21 ∧ (k ≤ y11.Tables.xs.length) ∧ St 183 [(2, .pointer (some ⟨z, 0, none⟩)), (3, .pointer (some ⟨z + 1, 0, none⟩)), (6, .pointer (some ⟨n2, 0, none⟩)), (7, .pointer (some ⟨n2 + 1, 0, none⟩)), (45, .int .i64 ((la.Partitions.xs.length : Nat) : Int)), (46, .int .i64 (i : Int)), (96, .int .i64 ((y11.Tables.xs.length : Nat) : Int)), (97, .int .i64 (k : Int))] [] ⟨w, n21, (qtn6_7 w z la lb n2 y11 y19)⟩ a w') (y11.Tables.xs.length - 0) ?_ ?_
     · intro a w' hs; exact ⟨(n2 + 2), 0, rfl, Nat.le_refl _, Nat.zero_le _, hs⟩
     · rintro m a w' ⟨n21, k, rfl, hn20, hkk, hs⟩
       refine (?_ : G Try.prog 183 [(2, .pointer (some ⟨z, 0, none⟩)), (3, .pointer (some ⟨z + 1, 0, none⟩)), (6, .pointer (some ⟨n2, 0, none⟩)), (7, .pointer (some ⟨n2 + 1, 0, none⟩)), (45, .int .i64 ((la.Partitions.xs.length : Nat) : Int)), (46, .int .i64 (i : Int)), (96, .int .i64 ((y11.Tables.xs.length : Nat) : Int)), (97, .int .i64 (k : Int))] [] ⟨w, n21, (qtn6_7 w z la lb n2 y11 y19)⟩ _ _ _) a w' hs
       clear hs a w'
       refine g_seq ?_
       by_cases h22 : ((k : Int) : Int) < ((y11.Tables.xs.length : Nat) : Int)
       · refine g_region <| l_all 1 [oT] [2, 3, 6, 7, 45, 46, 96, 97, 98] [BT (((k : Int) : Int) < ((y11.Tables.xs.length : Nat) : Int))] [(2, .pointer (some ⟨z, 0, none⟩)), (3, .pointer (some ⟨z + 1, 0, none⟩)), (6, .pointer (some ⟨n2, 0, none⟩)), (7, .pointer (some ⟨n2 + 1, 0, none⟩)), (45, .int .i64 ((la.Partitions.xs.length : Nat) : Int)), (46, .int .i64 (i : Int)), (96, .int .i64 ((y11.Tables.xs.length : Nat) : Int)), (97, .int .i64 (k : Int)), (98, .bool true)] ⟨w, n21, (qtn6_7 w z la lb n2 y11 y19)⟩ ⟨bt (by omega), trivial⟩ ?_
         refine e_seq <| g_seq <| g_true <| g_skip <| e_seq <| g_seq <| g_block <| g_seq <| g_region <| l_all 2 [o0, o0] [2, 3, 6, 7, 45, 46, 96, 97, 8] [] [(2, .pointer (some ⟨z, 0, none⟩)), (3, .pointer (some ⟨z + 1, 0, none⟩)), (6, .pointer (some ⟨n2, 0, none⟩)), (7, .pointer (some ⟨n2 + 1, 0, none⟩)), (45, .int .i64 ((la.Partitions.xs.length : Nat) : Int)), (46, .int .i64 (i : Int)), (96, .int .i64 ((y11.Tables.xs.length : Nat) : Int)), (97, .int .i64 (k : Int)), (8, .int .i64 (k : Int))] ⟨w, n21, (qtn6_7 w z la lb n2 y11 y19)⟩ trivial ?_
         refine e_seq <| g_seq ?_
         obtain ⟨b23, o24, ha25, hF27, hc26⟩ := (he10.Tables).1.all (show 0 < y11.Tables.xs.length by omega)
         replace ha25 : y11.Tables.a = some ⟨b23, o24, none⟩ := ha25
         have hc28 := hc26 k (show k < y11.Tables.xs.length by omega)
         have he29 := (he10.Tables).2 k (show k < y11.Tables.xs.length by omega)
         obtain ⟨y30, hy30⟩ : ∃ y_, y_ = gd y11.Tables.xs k := ⟨_, rfl⟩
         rw [← hy30] at he29 hc28
         obtain ⟨b31, o32, ha33, hF35, hc34⟩ := (he18.Tables).1.all (show 0 < y19.Tables.xs.length by omega)
         replace ha33 : y19.Tables.a = some ⟨b31, o32, none⟩ := ha33
         have hc36 := hc34 k (show k < y19.Tables.xs.length by omega)
         have he37 := (he18.Tables).2 k (show k < y19.Tables.xs.length by omega)
         obtain ⟨y38, hy38⟩ : ∃ y_, y_ = gd y19.Tables.xs k := ⟨_, rfl⟩
         rw [← hy38] at he37 hc36
         have hmt := hmp.tabs k (by omega); rw [← hy30, ← hy38] at hmt
         refine g_draw 11 [0, 1, 2, 3, 4] (qtn6_7 w z la lb n2 y11 y19) rfl rfl ?_
         refine w_take [(0, o0), (1, ⟨.auto [.at 3], some (.slice (some ⟨b23, o24, none⟩) y11.Tables.xs.length y11.Tables.cap)⟩), (2, o0), (3, (oi k)), (4, (oa [.via 0 (.int .i64 y30)])), (5, o0), (6, ⟨.auto [.at 4], some (.slice (some ⟨b31, o32, none⟩) y19.Tables.xs.length y19.Tables.cap)⟩), (7, o0), (8, (oi k)), (9, (oa [.via 0 (.int .i64 y38)])), (10, oF)] [2, 3, 6, 7, 45, 46, 96, 97, 110] [Qb n2, Value.slice y11.Tables.a y11.Tables.xs.length y11.Tables.cap = Value.slice (some ⟨b23, o24, none⟩) y11.Tables.xs.length y11.Tables.cap, ((k : Int) : Int) = ((k : Nat) : Int), k < y11.Tables.xs.length, (none : Option Nat) = none, Old w b23 (o24 + k) (.int .i64 y30), Qb (n2 + 1), Value.slice y19.Tables.a y19.Tables.xs.length y19.Tables.cap = Value.slice (some ⟨b31, o32, none⟩) y19.Tables.xs.length y19.Tables.cap, ((k : Int) : Int) = ((k : Nat) : Int), k < y19.Tables.xs.length, (none : Option Nat) = none, Old w b31 (o32 + k) (.int .i64 y38), NF y30 y38] [true, true, true, true, true, true, true, true, true, true, true] [(2, .pointer (some ⟨z, 0, none⟩)), (3, .pointer (some ⟨z + 1, 0, none⟩)), (6, .pointer (some ⟨n2, 0, none⟩)), (7, .pointer (some ⟨n2 + 1, 0, none⟩)), (45, .int .i64 ((la.Partitions.xs.length : Nat) : Int)), (46, .int .i64 (i : Int)), (96, .int .i64 ((y11.Tables.xs.length : Nat) : Int)), (97, .int .i64 (k : Int)), (110, .bool false)] rfl (by as_aux_lemma => kernel_rfl) (by as_aux_lemma => kernel_rfl) ⟨rfl, congrArg (fun a => Value.slice a _ _) ha25, rfl, (by omega), rfl, old_cell' (hc28 0 _ rfl), rfl, congrArg (fun a => Value.slice a _ _) ha33, rfl, (by omega), rfl, old_cell' (hc36 0 _ rfl), nf (by omega), trivial⟩ ?_
         refine w_done (by as_aux_lemma => kernel_rfl) ?_
         refine e_keep [2, 3, 6, 7, 45, 46, 96, 97, 110] [(2, .pointer (some ⟨z, 0, none⟩)), (3, .pointer (some ⟨z + 1, 0, none⟩)), (6, .pointer (some ⟨n2, 0, none⟩)), (7, .pointer (some ⟨n2 + 1, 0, none⟩)), (45, .int .i64 ((la.Partitions.xs.length : Nat) : Int)), (46, .int .i64 (i : Int)), (96, .int .i64 ((y11.Tables.xs.length : Nat) : Int)), (97, .int .i64 (k : Int)), (110, .bool false)] ?_
         refine e_seq <| g_false <| g_skip <| e_blk <| e_seq <| g_region <| l_all 2 [(ov (.int .i64 ((k + 1 : Nat) : Int))), o0] [2, 3, 6, 7, 45, 46, 96, 97] [Value.int .i64 (IntKind.i64.wrap (((k : Int) : Int) + 1)) = Value.int .i64 (((k + 1 : Nat) : Int))] [(2, .pointer (some ⟨z, 0, none⟩)), (3, .pointer (some ⟨z + 1, 0, none⟩)), (6, .pointer (some ⟨n2, 0, none⟩)), (7, .pointer (some ⟨n2 + 1, 0, none⟩)), (45, .int .i64 ((la.Partitions.xs.length : Nat) : Int)), (46, .int .i64 (i : Int)), (96, .int .i64 ((y11.Tables.xs.length : Nat) : Int)), (97, .int .i64 ((k + 1 : Nat) : Int))] ⟨w, n21, (qtn6_7 w z la lb n2 y11 y19)⟩ ⟨congrArg (Value.int .i64) (wr_i64 (by omega) (by omega) (by omega)), trivial⟩ ?_
         refine e_keep [2, 3, 6, 7, 45, 46, 96, 97] [(2, .pointer (some ⟨z, 0, none⟩)), (3, .pointer (some ⟨z + 1, 0, none⟩)), (6, .pointer (some ⟨n2, 0, none⟩)), (7, .pointer (some ⟨n2 + 1, 0, none⟩)), (45, .int .i64 ((la.Partitions.xs.length : Nat) : Int)), (46, .int .i64 (i : Int)), (96, .int .i64 ((y11.Tables.xs.length : Nat) : Int)), (97, .int .i64 ((k + 1 : Nat) : Int))] ?_
         refine e_inv (fun a w' hs => ⟨y11.Tables.xs.length - (k + 1), by omega, n21, (k + 1), rfl, by omega, by omega, hs⟩)
       · refine g_region <| l_all 1 [oF] [2, 3, 6, 7, 45, 46, 96, 97, 98] [BF (((k : Int) : Int) < ((y11.Tables.xs.length : Nat) : Int))] [(2, .pointer (some ⟨z, 0, none⟩)), (3, .pointer (some ⟨z + 1, 0, none⟩)), (6, .pointer (some ⟨n2, 0, none⟩)), (7, .pointer (some ⟨n2 + 1, 0, none⟩)), (45, .int .i64 ((la.Partitions.xs.length : Nat) : Int)), (46, .int .i64 (i : Int)), (96, .int .i64 ((y11.Tables.xs.length : Nat) : Int)), (97, .int .i64 (k : Int)), (98, .bool false)] ⟨w, n21, (qtn6_7 w z la lb n2 y11 y19)⟩ ⟨bf (by omega), trivial⟩ ?_
         refine e_seq <| g_seq <| g_false <| g_exit <| e_out <| e_outI <| e_hit <| e_blk <| e_seq <| g_region <| l_all 2 [(ov (.int .i64 ((i + 1 : Nat) : Int))), o0] [2, 3, 45, 46] [Value.int .i64 (IntKind.i64.wrap (((i : Int) : Int) + 1)) = Value.int .i64 (((i + 1 : Nat) : Int))] [(2, .pointer (some ⟨z, 0, none⟩)), (3, .pointer (some ⟨z + 1, 0, none⟩)), (45, .int .i64 ((la.Partitions.xs.length : Nat) : Int)), (46, .int .i64 ((i + 1 : Nat) : Int))] ⟨w, n21, (qtn6_7 w z la lb n2 y11 y19)⟩ ⟨congrArg (Value.int .i64) (wr_i64 (by omega) (by omega) (by omega)), trivial⟩ ?_
         refine e_pick [0, 1, 2] [(old0 w), (qtn6_5 z la), (qtn6_4 z lb)] rfl rfl ?_
         refine e_keep [2, 3, 45, 46] [(2, .pointer (some ⟨z, 0, none⟩)), (3, .pointer (some ⟨z + 1, 0, none⟩)), (45, .int .i64 ((la.Partitions.xs.length : Nat) : Int)), (46, .int .i64 ((i + 1 : Nat) : Int))] ?_
         refine e_inv (fun a w' hs => ⟨la.Partitions.xs.length - (i + 1), by omega, n21, (i + 1), rfl, by omega, by omega, hs⟩)
   · refine g_region <| l_all 1 [oF] [2, 3, 45, 46, 47] [BF (((i : Int) : Int) < ((la.Partitions.xs.length : Nat) : Int))] [(2, .pointer (some ⟨z, 0, none⟩)), (3, .pointer (some ⟨z + 1, 0, none⟩)), (45, .int .i64 ((la.Partitions.xs.length : Nat) : Int)), (46, .int .i64 (i : Int)), (47, .bool false)] ⟨w, n2, [(old0 w), (qtn6_5 z la), (qtn6_4 z lb)]⟩ ⟨bf (by omega), trivial⟩ ?_
     refine e_seq <| g_seq <| g_false <| g_exit <| e_out <| e_outI <| e_hit <| e_seq <| g_seq <| g_seq <| g_region <| l_all 4 [o0, (oa [.at 1]), o0, o0] [2, 3, 115, 116] [Qb z] [(2, .pointer (some ⟨z, 0, none⟩)), (3, .pointer (some ⟨z + 1, 0, none⟩)), (115, .int .i64 ((la.Channels.xs.length : Nat) : Int)), (116, .int .i64 0)] ⟨w, n2, [(old0 w), (qtn6_5 z la), (qtn6_4 z lb)]⟩ ⟨rfl, trivial⟩ ?_
     refine e_seq <| g_block <| g_loop (fun m a w' => ∃ (n40 : Nat) (j : Nat), m = la.Channels.xs.length - j ∧ n2 ≤ n40 ∧ (j ≤ la.Channels.xs.length) ∧ St 183 [(2, .pointer (some ⟨z, 0, none⟩)), (3, .pointer (some ⟨z + 1, 0, none⟩)), (115, .int .i64 ((la.Channels.xs.length : Nat) : Int)), (116, .int .i64 (j : Int))] [] ⟨w, n40, [(old0 w), (qtn6_5 z la), (qtn6_4 z lb)]⟩ a w') (la.Channels.xs.length - 0) ?_ ?_
     · intro a w' hs; exact ⟨n2, 0, rfl, Nat.le_refl _, Nat.zero_le _, hs⟩
     · rintro m a w' ⟨n40, j, rfl, hn39, hkj, hs⟩
       refine (?_ : G Try.prog 183 [(2, .pointer (some ⟨z, 0, none⟩)), (3, .pointer (some ⟨z + 1, 0, none⟩)), (115, .int .i64 ((la.Channels.xs.length : Nat) : Int)), (116, .int .i64 (j : Int))] [] ⟨w, n40, [(old0 w), (qtn6_5 z la), (qtn6_4 z lb)]⟩ _ _ _) a w' hs
       clear hs a w'
       refine g_seq ?_
       by_cases h41 : ((j : Int) : Int) < ((la.Channels.xs.length : Nat) : Int)
       · refine g_region <| l_all 1 [oT] [2, 3, 115, 116, 117] [BT (((j : Int) : Int) < ((la.Channels.xs.length : Nat) : Int))] [(2, .pointer (some ⟨z, 0, none⟩)), (3, .pointer (some ⟨z + 1, 0, none⟩)), (115, .int .i64 ((la.Channels.xs.length : Nat) : Int)), (116, .int .i64 (j : Int)), (117, .bool true)] ⟨w, n40, [(old0 w), (qtn6_5 z la), (qtn6_4 z lb)]⟩ ⟨bt (by omega), trivial⟩ ?_
         refine e_seq <| g_seq <| g_true <| g_skip <| e_seq <| g_seq <| g_block <| g_seq <| g_region <| l_all 2 [o0, o0] [2, 3, 115, 116, 9] [] [(2, .pointer (some ⟨z, 0, none⟩)), (3, .pointer (some ⟨z + 1, 0, none⟩)), (115, .int .i64 ((la.Channels.xs.length : Nat) : Int)), (116, .int .i64 (j : Int)), (9, .int .i64 (j : Int))] ⟨w, n40, [(old0 w), (qtn6_5 z la), (qtn6_4 z lb)]⟩ trivial ?_
         refine e_seq <| g_seq ?_
         obtain ⟨b42, o43, ha44, hF46, hc45⟩ := (ha.Channels).1.all (show 0 < la.Channels.xs.length by omega)
         replace ha44 : la.Channels.a = some ⟨b42, o43, none⟩ := ha44
         have hc47 := hc45 j (show j < la.Channels.xs.length by omega)
         have he48 := (ha.Channels).2 j (show j < la.Channels.xs.length by omega)
         obtain ⟨y49, hy49⟩ : ∃ y_, y_ = gd la.Channels.xs j := ⟨_, rfl⟩
         rw [← hy49] at he48 hc47
         have hdln := he48.Dests.1.len
         refine g_region <| l_all 7 [o0, ⟨.auto [.at 1], some (.slice (some ⟨b42, o43, none⟩) la.Channels.xs.length la.Channels.cap)⟩, o0, (oi j), (ol 0 (TChannelPlace.arr y49)), o0, (oa [.at 3, .at 3, .at 3, .at 3, .at 3])] [2, 3, 115, 116, 9, 10] [Qb z, Value.slice la.Channels.a la.Channels.xs.length la.Channels.cap = Value.slice (some ⟨b42, o43, none⟩) la.Channels.xs.length la.Channels.cap, ((j : Int) : Int) = ((j : Nat) : Int), j < la.Channels.xs.length, (none : Option Nat) = none, OldR w b42 (o43 + j * 5) (TChannelPlace.arr y49), Qb n40, Qb n40, Qb n40, Qb n40, Qb n40] [(2, .pointer (some ⟨z, 0, none⟩)), (3, .pointer (some ⟨z + 1, 0, none⟩)), (115, .int .i64 ((la.Channels.xs.length : Nat) : Int)), (116, .int .i64 (j : Int)), (9, .int .i64 (j : Int)), (10, .pointer (some ⟨n40, 0, none⟩))] ⟨w, n40 + 1, [(old0 w), (qtn6_5 z la), (qtn6_4 z lb), (qtn6_3 n40 y49)]⟩ ⟨rfl, congrArg (fun a => Value.slice a _ _) ha44, rfl, (by omega), rfl, old_row hc47, rfl, rfl, rfl, rfl, rfl, trivial⟩ ?_
         refine e_seq <| g_seq ?_
         obtain ⟨b50, o51, ha52, hF54, hc53⟩ := (hb.Channels).1.all (show 0 < lb.Channels.xs.length by omega)
         replace ha52 : lb.Channels.a = some ⟨b50, o51, none⟩ := ha52
         have hc55 := hc53 j (show j < lb.Channels.xs.length by omega)
         have he56 := (hb.Channels).2 j (show j < lb.Channels.xs.length by omega)
         obtain ⟨y57, hy57⟩ : ∃ y_, y_ = gd lb.Channels.xs j := ⟨_, rfl⟩
         rw [← hy57] at he56 hc55
         have hmc := hM.cs j (by omega); rw [← hy49, ← hy57] at hmc; have hn1 := hmc.nums; have hn2 := hmc.dl
         refine g_region <| l_all 7 [o0, ⟨.auto [.at 2], some (.slice (some ⟨b50, o51, none⟩) lb.Channels.xs.length lb.Channels.cap)⟩, o0, (oi j), (ol 0 (TChannelPlace.arr y57)), o0, (oa [.at 4, .at 4, .at 4, .at 4, .at 4])] [2, 3, 115, 116, 10, 11] [Qb (z + 1), Value.slice lb.Channels.a lb.Channels.xs.length lb.Channels.cap = Value.slice (some ⟨b50, o51, none⟩) lb.Channels.xs.length lb.Channels.cap, ((j : Int) : Int) = ((j : Nat) : Int), j < lb.Channels.xs.length, (none : Option Nat) = none, OldR w b50 (o51 + j * 5) (TChannelPlace.arr y57), Qb (n40 + 1), Qb (n40 + 1), Qb (n40 + 1), Qb (n40 + 1), Qb (n40 + 1)] [(2, .pointer (some ⟨z, 0, none⟩)), (3, .pointer (some ⟨z + 1, 0, none⟩)), (115, .int .i64 ((la.Channels.xs.length : Nat) : Int)), (116, .int .i64 (j : Int)), (10, .pointer (some ⟨n40, 0, none⟩)), (11, .pointer (some ⟨n40 + 1, 0, none⟩))] ⟨w, n40 + 2, (qtn6_6 w z la lb n40 y49 y57)⟩ ⟨rfl, congrArg (fun a => Value.slice a _ _) ha52, rfl, (by omega), rfl, old_row hc55, rfl, rfl, rfl, rfl, rfl, trivial⟩ ?_
         refine e_seq <| g_seq <| g_seq <| g_region <| l_all 35 [o0, (oa [.at 3]), o0, (oa [.at 4]), oF, o0, o0, (oa [.at 3]), o0, (oa [.at 4]), oF, o0, o0, o0, (oa [.at 3]), o0, (oa [.at 4]), oF, o0, o0, o0, (oa [.at 3]), o0, (oa [.at 4]), oF, o0, o0, o0, (oa [.at 3]), o0, o0, (oa [.at 4]), o0, oF, o0] [2, 3, 115, 116, 10, 11, 163] [Qb n40, Qb (n40 + 1), NF y49.Lock y57.Lock, Qb n40, Qb (n40 + 1), NF y49.Stage y57.Stage, Qb n40, Qb (n40 + 1), NF y49.Partition y57.Partition, Qb n40, Qb (n40 + 1), NF y49.Port y57.Port, Qb n40, Qb (n40 + 1), NF ((y49.Dests.xs.length : Nat) : Int) ((y57.Dests.xs.length : Nat) : Int)] [(2, .pointer (some ⟨z, 0, none⟩)), (3, .pointer (some ⟨z + 1, 0, none⟩)), (115, .int .i64 ((la.Channels.xs.length : Nat) : Int)), (116, .int .i64 (j : Int)), (10, .pointer (some ⟨n40, 0, none⟩)), (11, .pointer (some ⟨n40 + 1, 0, none⟩)), (163, .bool false)] ⟨w, n40 + 2, (qtn6_6 w z la lb n40 y49 y57)⟩ ⟨rfl, rfl, nf (by omega), rfl, rfl, nf (by omega), rfl, rfl, nf (by omega), rfl, rfl, nf (by omega), rfl, rfl, nf (by omega), trivial⟩ ?_
         refine e_seq <| g_false <| g_skip <| e_seq <| g_seq <| g_region <| l_all 4 [o0, (oa [.at 3]), o0, o0] [2, 3, 115, 116, 10, 11, 166, 167] [Qb n40] [(2, .pointer (some ⟨z, 0, none⟩)), (3, .pointer (some ⟨z + 1, 0, none⟩)), (115, .int .i64 ((la.Channels.xs.length : Nat) : Int)), (116, .int .i64 (j : Int)), (10, .pointer (some ⟨n40, 0, none⟩)), (11, .pointer (some ⟨n40 + 1, 0, none⟩)), (166, .int .i64 ((y49.Dests.xs.length : Nat) : Int)), (167, .int .i64 0)] ⟨w, n40 + 2, (qtn6_6 w z la lb n40 y49 y57)⟩ ⟨rfl, trivial⟩ ?_
         refine e_seq <| g_block <| g_keep [2, 3, 10, 11, 115, 116, 166, 167] [(2, .pointer (some ⟨z, 0, none⟩)), (3, .pointer (some ⟨z + 1, 0, none⟩)), (10, .pointer (some ⟨n40, 0, none⟩)), (11, .pointer (some ⟨n40 + 1, 0, none⟩)), (115, .int .i64 ((la.Channels.xs.length : Nat) : Int)), (116, .int .i64 (j : Int)), (166, .int .i64 ((y49.Dests.xs.length : Nat) : Int)), (167, .int .i64 0)] ?_
         refine g_loop (fun m a w' => ∃ (n59 : Nat) (k : Nat), m = y49.Dests.xs.length - k ∧ n40 + 2 ≤ n59 ∧ (k ≤ y49.Dests.xs.length) ∧ St 183 [(2, .pointer (some ⟨z, 0, none⟩)), (3, .pointer (some ⟨z + 1, 0, none⟩)), (10, .pointer (some ⟨n40, 0, none⟩)), (11, .pointer (some ⟨n40 + 1, 0, none⟩)), (115, .int .i64 ((la.Channels.xs.length : Nat) : Int)), (116, .int .i64 (j : Int)), (166, .int .i64 ((y49.Dests.xs.length : Nat) : Int)), (167, .int .i64 (k : Int))] [] ⟨w, n59, (qtn6_6 w z la lb n40 y49 y57)⟩ a w') (y49.Dests.xs.length - 0) ?_ ?_
         · intro a w' hs; exact ⟨(n40 + 2), 0, rfl, Nat.le_refl _, Nat.zero_le _, hs⟩
         · rintro m a w' ⟨n59, k, rfl, hn58, hkk, hs⟩
           refine (?_ : G Try.prog 183 [(2, .pointer (some ⟨z, 0, none⟩)), (3, .pointer (some ⟨z + 1, 0, none⟩)), (10, .pointer (some ⟨n40, 0, none⟩)), (11, .pointer (some ⟨n40 + 1, 0, none⟩)), (115, .int .i64 ((la.Channels.xs.length : Nat) : Int)), (116, .int .i64 (j : Int)), (166, .int .i64 ((y49.Dests.xs.length : Nat) : Int)), (167, .int .i64 (k : Int))] [] ⟨w, n59, (qtn6_6 w z la lb n40 y49 y57)⟩ _ _ _) a w' hs
           clear hs a w'
           refine g_seq ?_
           by_cases h60 : ((k : Int) : Int) < ((y49.Dests.xs.length : Nat) : Int)
           · refine g_region <| l_all 1 [oT] [2, 3, 10, 11, 115, 116, 166, 167, 168] [BT (((k : Int) : Int) < ((y49.Dests.xs.length : Nat) : Int))] [(2, .pointer (some ⟨z, 0, none⟩)), (3, .pointer (some ⟨z + 1, 0, none⟩)), (10, .pointer (some ⟨n40, 0, none⟩)), (11, .pointer (some ⟨n40 + 1, 0, none⟩)), (115, .int .i64 ((la.Channels.xs.length : Nat) : Int)), (116, .int .i64 (j : Int)), (166, .int .i64 ((y49.Dests.xs.length : Nat) : Int)), (167, .int .i64 (k : Int)), (168, .bool true)] ⟨w, n59, (qtn6_6 w z la lb n40 y49 y57)⟩ ⟨bt (by omega), trivial⟩ ?_
             refine e_seq <| g_seq <| g_true <| g_skip <| e_seq <| g_seq <| g_block <| g_seq <| g_region <| l_all 2 [o0, o0] [2, 3, 10, 11, 115, 116, 166, 167, 12] [] [(2, .pointer (some ⟨z, 0, none⟩)), (3, .pointer (some ⟨z + 1, 0, none⟩)), (10, .pointer (some ⟨n40, 0, none⟩)), (11, .pointer (some ⟨n40 + 1, 0, none⟩)), (115, .int .i64 ((la.Channels.xs.length : Nat) : Int)), (116, .int .i64 (j : Int)), (166, .int .i64 ((y49.Dests.xs.length : Nat) : Int)), (167, .int .i64 (k : Int)), (12, .int .i64 (k : Int))] ⟨w, n59, (qtn6_6 w z la lb n40 y49 y57)⟩ trivial ?_
             refine e_seq <| g_seq ?_
             obtain ⟨b61, o62, ha63, hF65, hc64⟩ := (he48.Dests).1.all (show 0 < y49.Dests.xs.length by omega)
             replace ha63 : y49.Dests.a = some ⟨b61, o62, none⟩ := ha63
             have hc66 := hc64 k (show k < y49.Dests.xs.length by omega)
             have he67 := (he48.Dests).2 k (show k < y49.Dests.xs.length by omega)
             obtain ⟨y68, hy68⟩ : ∃ y_, y_ = gd y49.Dests.xs k := ⟨_, rfl⟩
             rw [← hy68] at he67 hc66
             obtain ⟨b69, o70, ha71, hF73, hc72⟩ := (he56.Dests).1.all (show 0 < y57.Dests.xs.length by omega)
             replace ha71 : y57.Dests.a = some ⟨b69, o70, none⟩ := ha71
             have hc74 := hc72 k (show k < y57.Dests.xs.length by omega)
             have he75 := (he56.Dests).2 k (show k < y57.Dests.xs.length by omega)
             obtain ⟨y76, hy76⟩ : ∃ y_, y_ = gd y57.Dests.xs k := ⟨_, rfl⟩
             rw [← hy76] at he75 hc74
             have hmd := hmc.ds k (by omega); rw [← hy68, ← hy76] at hmd
             refine g_draw 11 [0, 1, 2, 3, 4] (qtn6_6 w z la lb n40 y49 y57) rfl rfl ?_
             refine w_take [(0, o0), (1, ⟨.auto [.at 3], some (.slice (some ⟨b61, o62, none⟩) y49.Dests.xs.length y49.Dests.cap)⟩), (2, o0), (3, (oi k)), (4, (ol 0 (TDestPlace.arr y68))), (5, o0), (6, ⟨.auto [.at 4], some (.slice (some ⟨b69, o70, none⟩) y57.Dests.xs.length y57.Dests.cap)⟩), (7, o0), (8, (oi k)), (9, (ol 0 (TDestPlace.arr y76))), (10, ⟨.seq true, none⟩)] [2, 3, 10, 11, 115, 116, 166, 167, 180] [Qb n40, Value.slice y49.Dests.a y49.Dests.xs.length y49.Dests.cap = Value.slice (some ⟨b61, o62, none⟩) y49.Dests.xs.length y49.Dests.cap, ((k : Int) : Int) = ((k : Nat) : Int), k < y49.Dests.xs.length, (none : Option Nat) = none, OldR w b61 (o62 + k * 3) (TDestPlace.arr y68), Qb (n40 + 1), Value.slice y57.Dests.a y57.Dests.xs.length y57.Dests.cap = Value.slice (some ⟨b69, o70, none⟩) y57.Dests.xs.length y57.Dests.cap, ((k : Int) : Int) = ((k : Nat) : Int), k < y57.Dests.xs.length, (none : Option Nat) = none, OldR w b69 (o70 + k * 3) (TDestPlace.arr y76), ((y68.Partition : Int) == (y76.Partition : Int) && ((y68.Port : Int) == (y76.Port : Int) && ((y68.At : Int) == (y76.At : Int) && true))) = true] [true, true, true, true, true, true, true, true, true, true, true] [(2, .pointer (some ⟨z, 0, none⟩)), (3, .pointer (some ⟨z + 1, 0, none⟩)), (10, .pointer (some ⟨n40, 0, none⟩)), (11, .pointer (some ⟨n40 + 1, 0, none⟩)), (115, .int .i64 ((la.Channels.xs.length : Nat) : Int)), (116, .int .i64 (j : Int)), (166, .int .i64 ((y49.Dests.xs.length : Nat) : Int)), (167, .int .i64 (k : Int)), (180, .bool false)] rfl (by as_aux_lemma => kernel_rfl) (by as_aux_lemma => kernel_rfl) ⟨rfl, congrArg (fun a => Value.slice a _ _) ha63, rfl, (by omega), rfl, old_row hc66, rfl, congrArg (fun a => Value.slice a _ _) ha71, rfl, (by omega), rfl, old_row hc74, (by simp only [Bool.and_true, Bool.and_eq_true, beq_iff_eq]; omega), trivial⟩ ?_
             refine w_done (by as_aux_lemma => kernel_rfl) ?_
             refine e_keep [2, 3, 10, 11, 115, 116, 166, 167, 180] [(2, .pointer (some ⟨z, 0, none⟩)), (3, .pointer (some ⟨z + 1, 0, none⟩)), (10, .pointer (some ⟨n40, 0, none⟩)), (11, .pointer (some ⟨n40 + 1, 0, none⟩)), (115, .int .i64 ((la.Channels.xs.length : Nat) : Int)), (116, .int .i64 (j : Int)), (166, .int .i64 ((y49.Dests.xs.length : Nat) : Int)), (167, .int .i64 (k : Int)), (180, .bool false)] ?_
             refine e_seq <| g_false <| g_skip <| e_blk <| e_seq <| g_region <| l_all 2 [(ov (.int .i64 ((k + 1 : Nat) : Int))), o0] [2, 3, 10, 11, 115, 116, 166, 167] [Value.int .i64 (IntKind.i64.wrap (((k : Int) : Int) + 1)) = Value.int .i64 (((k + 1 : Nat) : Int))] [(2, .pointer (some ⟨z, 0, none⟩)), (3, .pointer (some ⟨z + 1, 0, none⟩)), (10, .pointer (some ⟨n40, 0, none⟩)), (11, .pointer (some ⟨n40 + 1, 0, none⟩)), (115, .int .i64 ((la.Channels.xs.length : Nat) : Int)), (116, .int .i64 (j : Int)), (166, .int .i64 ((y49.Dests.xs.length : Nat) : Int)), (167, .int .i64 ((k + 1 : Nat) : Int))] ⟨w, n59, (qtn6_6 w z la lb n40 y49 y57)⟩ ⟨congrArg (Value.int .i64) (wr_i64 (by omega) (by omega) (by omega)), trivial⟩ ?_
             refine e_keep [2, 3, 10, 11, 115, 116, 166, 167] [(2, .pointer (some ⟨z, 0, none⟩)), (3, .pointer (some ⟨z + 1, 0, none⟩)), (10, .pointer (some ⟨n40, 0, none⟩)), (11, .pointer (some ⟨n40 + 1, 0, none⟩)), (115, .int .i64 ((la.Channels.xs.length : Nat) : Int)), (116, .int .i64 (j : Int)), (166, .int .i64 ((y49.Dests.xs.length : Nat) : Int)), (167, .int .i64 ((k + 1 : Nat) : Int))] ?_
             refine e_inv (fun a w' hs => ⟨y49.Dests.xs.length - (k + 1), by omega, n59, (k + 1), rfl, by omega, by omega, hs⟩)
           · refine g_region <| l_all 1 [oF] [2, 3, 10, 11, 115, 116, 166, 167, 168] [BF (((k : Int) : Int) < ((y49.Dests.xs.length : Nat) : Int))] [(2, .pointer (some ⟨z, 0, none⟩)), (3, .pointer (some ⟨z + 1, 0, none⟩)), (10, .pointer (some ⟨n40, 0, none⟩)), (11, .pointer (some ⟨n40 + 1, 0, none⟩)), (115, .int .i64 ((la.Channels.xs.length : Nat) : Int)), (116, .int .i64 (j : Int)), (166, .int .i64 ((y49.Dests.xs.length : Nat) : Int)), (167, .int .i64 (k : Int)), (168, .bool false)] ⟨w, n59, (qtn6_6 w z la lb n40 y49 y57)⟩ ⟨bf (by omega), trivial⟩ ?_
             refine e_seq <| g_seq <| g_false <| g_exit <| e_out <| e_outI <| e_hit <| e_blk <| e_seq <| g_region <| l_all 2 [(ov (.int .i64 ((j + 1 : Nat) : Int))), o0] [2, 3, 115, 116] [Value.int .i64 (IntKind.i64.wrap (((j : Int) : Int) + 1)) = Value.int .i64 (((j + 1 : Nat) : Int))] [(2, .pointer (some ⟨z, 0, none⟩)), (3, .pointer (some ⟨z + 1, 0, none⟩)), (115, .int .i64 ((la.Channels.xs.length : Nat) : Int)), (116, .int .i64 ((j + 1 : Nat) : Int))] ⟨w, n59, (qtn6_6 w z la lb n40 y49 y57)⟩ ⟨congrArg (Value.int .i64) (wr_i64 (by omega) (by omega) (by omega)), trivial⟩ ?_
             refine e_pick [0, 1, 2] [(old0 w), (qtn6_5 z la), (qtn6_4 z lb)] rfl rfl ?_
             refine e_keep [2, 3, 115, 116] [(2, .pointer (some ⟨z, 0, none⟩)), (3, .pointer (some ⟨z + 1, 0, none⟩)), (115, .int .i64 ((la.Channels.xs.length : Nat) : Int)), (116, .int .i64 ((j + 1 : Nat) : Int))] ?_
             refine e_inv (fun a w' hs => ⟨la.Channels.xs.length - (j + 1), by omega, n59, (j + 1), rfl, by omega, by omega, hs⟩)
       · refine g_region <| l_all 1 [oF] [2, 3, 115, 116, 117] [BF (((j : Int) : Int) < ((la.Channels.xs.length : Nat) : Int))] [(2, .pointer (some ⟨z, 0, none⟩)), (3, .pointer (some ⟨z + 1, 0, none⟩)), (115, .int .i64 ((la.Channels.xs.length : Nat) : Int)), (116, .int .i64 (j : Int)), (117, .bool false)] ⟨w, n40, [(old0 w), (qtn6_5 z la), (qtn6_4 z lb)]⟩ ⟨bf (by omega), trivial⟩ ?_
         refine e_seq <| g_seq <| g_false <| g_exit <| e_out <| e_outI <| e_hit <| e_seq <| g_seq <| g_region <| l_all 1 [o0] [4] [] [(4, .bool true)] ⟨w, n40, [(old0 w), (qtn6_5 z la), (qtn6_4 z lb)]⟩ trivial ?_
         refine e_seq <| g_ret <| e_ret [] [] (.bool true) trivial ?_
         intro w77 hw77
         exact ⟨rfl, hw77.back rfl (show w.heap.size ≤ n40 by omega) (List.mem_cons_self ..)⟩
abbrev qn9j_0 (w5 : World) : Ch := .blk w5.heap.size (.cells #[.int .i64 0, .slice none 0 0, .slice none 0 0, .int .i64 0] 34 (0, 0)) true
abbrev qn9j_1 (z : Nat) (c : TConfig) : Ch := .blk z (.cells (TConfig.arr c) 30 (0, 0)) true
abbrev qn9j_2 (w : World) (z : Nat) (c : TConfig) (w3 : World) (lw3 : TLayout) : List Ch := [(old0 w), (qn9j_1 z c), (mid (z + 1) w3), (.blk w3.heap.size (.cells (TLayout.arr lw3) 34 (0, 0)) true)]
theorem need_calls (w : World) (c : TConfig) (hc : TConfig.ok Any w c) : Calls Try.prog 21 #[.agg (TConfig.arr c)] w fun e w' => e = .returned (.tuple #[.int .i64 (needOf c), .int .i64 (errOf c)]) ∧ Keeps (fun _ => False) w w' := by
 obtain ⟨z, hz⟩ : ∃ z, z = w.heap.size := ⟨_, rfl⟩
 refine calls_G (args := [.agg (TConfig.arr c)]) 19 ⟨w, z, [(old0 w)]⟩ Try.func21 rfl (by kernel_rfl) (by kernel_rfl) (sat_0 hz) ?_
 refine g_keep [0] [(0, .agg (TConfig.arr c))] ?_
 refine g_seq <| g_region <| l_all 3 [o0, o0, o0] [1] [] [(1, .pointer (some ⟨z, 0, none⟩))] ⟨w, z + 1, [(old0 w), (qn9j_1 z c)]⟩ trivial ?_
 refine e_seq <| g_seq <| g_region <| l_run 1 [(oa [.at 1, .at 1, .at 1, .at 1, .at 1, .at 1, .at 1])] [1, 7] [Qb z, Qb z, Qb z, Qb z, Qb z, Qb z, Qb z] [(1, .pointer (some ⟨z, 0, none⟩)), (7, .agg (TConfig.arr c))] ⟨w, z + 1, [(old0 w), (qn9j_1 z c)]⟩ ⟨rfl, rfl, rfl, rfl, rfl, rfl, rfl, trivial⟩ ?_
 refine l_call [] [] 15 #[.agg (TConfig.arr c)] (some 8) trivial ?_
 intro w1 hw1
 by_cases hok2 : confOk c = true
 · refine (of_yes w1 c (hc.ext (hw1.ext rfl) (fun _ h => h)) hok2).mono ?_
   rintro e w3 ⟨lw3, rfl, hIw3, hLw3, hOw3, hkw3⟩
   have hfw3 := fine_of hok2; have hknw3 := hfw3.kn; have hEw3 := hIw3.fin; have hEbw3 := tAt_bd hfw3 _ (Nat.le_refl _); have hpnw3 := hfw3.pn
   rw [hw1.size] at hLw3 hOw3
   have hnw3 : z + 1 ≤ w3.heap.size := by have := hkw3.size; rw [hw1.size] at this; exact this
   refine ⟨_, _, rfl, hw1.keepsM hkw3, ?_⟩
   refine l_keep [1, 8] [(1, .pointer (some ⟨z, 0, none⟩)), (8, .tuple #[.agg (TLayout.arr lw3), .int .i64 0])] ?_
   refine l_all 6 [o0, o0, o0, o0, (oa [.at 3, .at 3, .at 3, .at 3]), o0] [1, 4, 5] [Qb w3.heap.size, Qb w3.heap.size, Qb w3.heap.size, Qb w3.heap.size] [(1, .pointer (some ⟨z, 0, none⟩)), (4, .pointer (some ⟨w3.heap.size, 0, none⟩)), (5, .int .i64 0)] ⟨w, w3.heap.size + 1, (qn9j_2 w z c w3 lw3)⟩ ⟨rfl, rfl, rfl, rfl, trivial⟩ ?_
   refine e_seq <| g_seq <| g_seq <| g_region <| l_all 2 [o0, o0] [1, 4, 5, 12] [] [(1, .pointer (some ⟨z, 0, none⟩)), (4, .pointer (some ⟨w3.heap.size, 0, none⟩)), (5, .int .i64 0), (12, .bool false)] ⟨w, w3.heap.size + 1, (qn9j_2 w z c w3 lw3)⟩ trivial ?_
   refine e_seq <| g_false <| g_skip <| e_seq <| g_seq <| g_region <| l_all 7 [o0, (oa [.at 3]), o0, (oa [.at 1]), (ov (.int .i64 (lw3.End - c.Kernel))), o0, o0] [2, 3] [Qb w3.heap.size, Qb z, Value.int .i64 (IntKind.i64.wrap ((lw3.End : Int) - c.Kernel)) = Value.int .i64 (lw3.End - c.Kernel)] [(2, .int .i64 (lw3.End - c.Kernel)), (3, .int .i64 0)] ⟨w, w3.heap.size + 1, (qn9j_2 w z c w3 lw3)⟩ ⟨rfl, rfl, congrArg (Value.int .i64) (wr_i64 (by omega) (by omega) (by omega)), trivial⟩ ?_
   refine e_seq <| g_ret <| e_ret [] [] (.tuple #[.int .i64 (lw3.End - c.Kernel), .int .i64 0]) trivial ?_
   intro w4 hw4
   refine ⟨?_, hw4.back rfl (show w.heap.size ≤ w3.heap.size + 1 by omega) (List.mem_cons_self ..)⟩
   unfold needOf errOf; rw [if_pos hok2, if_pos hok2]; rw [← hEw3]
 · refine (of_no w1 c (hc.ext (hw1.ext rfl) (fun _ h => h)) (Bool.eq_false_iff.2 hok2)).mono ?_
   rintro e w5 ⟨rfl, hkw5⟩
   have hnw5 : z + 1 ≤ w5.heap.size := by have := hkw5.size; rw [hw1.size] at this; exact this
   refine ⟨_, _, rfl, hw1.keeps hkw5, ?_⟩
   refine l_keep [1, 8] [(1, .pointer (some ⟨z, 0, none⟩)), (8, .tuple #[.agg #[.int .i64 0, .slice none 0 0, .slice none 0 0, .int .i64 0], .int .i64 150])] ?_
   refine l_all 6 [o0, o0, o0, o0, (oa [.at 2, .at 2, .at 2, .at 2]), o0] [1, 4, 5] [Qb w5.heap.size, Qb w5.heap.size, Qb w5.heap.size, Qb w5.heap.size] [(1, .pointer (some ⟨z, 0, none⟩)), (4, .pointer (some ⟨w5.heap.size, 0, none⟩)), (5, .int .i64 150)] ⟨w, w5.heap.size + 1, [(old0 w), (qn9j_1 z c), (qn9j_0 w5)]⟩ ⟨rfl, rfl, rfl, rfl, trivial⟩ ?_
   refine e_seq <| g_seq <| g_seq <| g_region <| l_all 2 [o0, o0] [1, 4, 5, 12] [] [(1, .pointer (some ⟨z, 0, none⟩)), (4, .pointer (some ⟨w5.heap.size, 0, none⟩)), (5, .int .i64 150), (12, .bool true)] ⟨w, w5.heap.size + 1, [(old0 w), (qn9j_1 z c), (qn9j_0 w5)]⟩ trivial ?_
   refine e_seq <| g_true <| g_seq <| g_region <| l_all 3 [o0, o0, o0] [2, 3] [] [(2, .int .i64 0), (3, .int .i64 150)] ⟨w, w5.heap.size + 1, [(old0 w), (qn9j_1 z c), (qn9j_0 w5)]⟩ trivial ?_
   refine e_seq <| g_ret <| e_ret [] [] (.tuple #[.int .i64 0, .int .i64 150]) trivial ?_
   intro w6 hw6
   refine ⟨?_, hw6.back rfl (show w.heap.size ≤ w5.heap.size + 1 by omega) (List.mem_cons_self ..)⟩
   unfold needOf errOf; rw [if_neg hok2, if_neg hok2]
abbrev qu5r_0 (w5 : World) : Ch := .blk w5.heap.size (.cells #[.int .i64 0, .slice none 0 0, .slice none 0 0, .int .i64 0] 34 (0, 0)) true
abbrev qu5r_1 (z : Nat) (c : TConfig) : Ch := .blk z (.cells (TConfig.arr c) 30 (0, 0)) true
abbrev qu5r_2 (w : World) (z : Nat) (c : TConfig) (w3 : World) (lw3 : TLayout) : List Ch := [(old0 w), (qu5r_1 z c), (mid (z + 1) w3), (.blk w3.heap.size (.cells (TLayout.arr lw3) 34 (0, 0)) true)]
theorem rneed_calls (w : World) (c : TConfig) (hc : TConfig.ok Any w c) : Calls Try.prog 22 #[.agg (TConfig.arr c)] w fun e w' => e = .returned (.tuple #[.int .i64 (needOf c), .int .i64 (errOf c)]) ∧ Keeps (fun _ => False) w w' := by
 obtain ⟨z, hz⟩ : ∃ z, z = w.heap.size := ⟨_, rfl⟩
 refine calls_G (args := [.agg (TConfig.arr c)]) 19 ⟨w, z, [(old0 w)]⟩ Try.func22 rfl (by kernel_rfl) (by kernel_rfl) (sat_0 hz) ?_
 refine g_keep [0] [(0, .agg (TConfig.arr c))] ?_
 refine g_seq <| g_region <| l_all 3 [o0, o0, o0] [1] [] [(1, .pointer (some ⟨z, 0, none⟩))] ⟨w, z + 1, [(old0 w), (qu5r_1 z c)]⟩ trivial ?_
 refine e_seq <| g_seq <| g_region <| l_run 1 [(oa [.at 1, .at 1, .at 1, .at 1, .at 1, .at 1, .at 1])] [1, 7] [Qb z, Qb z, Qb z, Qb z, Qb z, Qb z, Qb z] [(1, .pointer (some ⟨z, 0, none⟩)), (7, .agg (TConfig.arr c))] ⟨w, z + 1, [(old0 w), (qu5r_1 z c)]⟩ ⟨rfl, rfl, rfl, rfl, rfl, rfl, rfl, trivial⟩ ?_
 refine l_call [] [] 17 #[.agg (TConfig.arr c)] (some 8) trivial ?_
 intro w1 hw1
 by_cases hok2 : confOk c = true
 · refine (rof_yes w1 c (hc.ext (hw1.ext rfl) (fun _ h => h)) hok2).mono ?_
   rintro e w3 ⟨lw3, rfl, hIw3, hLw3, hOw3, hkw3⟩
   have hfw3 := fine_of hok2; have hknw3 := hfw3.kn; have hEw3 := hIw3.fin; have hEbw3 := tAt_bd hfw3 _ (Nat.le_refl _); have hpnw3 := hfw3.pn
   rw [hw1.size] at hLw3 hOw3
   have hnw3 : z + 1 ≤ w3.heap.size := by have := hkw3.size; rw [hw1.size] at this; exact this
   refine ⟨_, _, rfl, hw1.keepsM hkw3, ?_⟩
   refine l_keep [1, 8] [(1, .pointer (some ⟨z, 0, none⟩)), (8, .tuple #[.agg (TLayout.arr lw3), .int .i64 0])] ?_
   refine l_all 6 [o0, o0, o0, o0, (oa [.at 3, .at 3, .at 3, .at 3]), o0] [1, 4, 5] [Qb w3.heap.size, Qb w3.heap.size, Qb w3.heap.size, Qb w3.heap.size] [(1, .pointer (some ⟨z, 0, none⟩)), (4, .pointer (some ⟨w3.heap.size, 0, none⟩)), (5, .int .i64 0)] ⟨w, w3.heap.size + 1, (qu5r_2 w z c w3 lw3)⟩ ⟨rfl, rfl, rfl, rfl, trivial⟩ ?_
   refine e_seq <| g_seq <| g_seq <| g_region <| l_all 2 [o0, o0] [1, 4, 5, 12] [] [(1, .pointer (some ⟨z, 0, none⟩)), (4, .pointer (some ⟨w3.heap.size, 0, none⟩)), (5, .int .i64 0), (12, .bool false)] ⟨w, w3.heap.size + 1, (qu5r_2 w z c w3 lw3)⟩ trivial ?_
   refine e_seq <| g_false <| g_skip <| e_seq <| g_seq <| g_region <| l_all 7 [o0, (oa [.at 3]), o0, (oa [.at 1]), (ov (.int .i64 (lw3.End - c.Kernel))), o0, o0] [2, 3] [Qb w3.heap.size, Qb z, Value.int .i64 (IntKind.i64.wrap ((lw3.End : Int) - c.Kernel)) = Value.int .i64 (lw3.End - c.Kernel)] [(2, .int .i64 (lw3.End - c.Kernel)), (3, .int .i64 0)] ⟨w, w3.heap.size + 1, (qu5r_2 w z c w3 lw3)⟩ ⟨rfl, rfl, congrArg (Value.int .i64) (wr_i64 (by omega) (by omega) (by omega)), trivial⟩ ?_
   refine e_seq <| g_ret <| e_ret [] [] (.tuple #[.int .i64 (lw3.End - c.Kernel), .int .i64 0]) trivial ?_
   intro w4 hw4
   refine ⟨?_, hw4.back rfl (show w.heap.size ≤ w3.heap.size + 1 by omega) (List.mem_cons_self ..)⟩
   unfold needOf errOf; rw [if_pos hok2, if_pos hok2]; rw [← hEw3]
 · refine (rof_no w1 c (hc.ext (hw1.ext rfl) (fun _ h => h)) (Bool.eq_false_iff.2 hok2)).mono ?_
   rintro e w5 ⟨rfl, hkw5⟩
   have hnw5 : z + 1 ≤ w5.heap.size := by have := hkw5.size; rw [hw1.size] at this; exact this
   refine ⟨_, _, rfl, hw1.keeps hkw5, ?_⟩
   refine l_keep [1, 8] [(1, .pointer (some ⟨z, 0, none⟩)), (8, .tuple #[.agg #[.int .i64 0, .slice none 0 0, .slice none 0 0, .int .i64 0], .int .i64 150])] ?_
   refine l_all 6 [o0, o0, o0, o0, (oa [.at 2, .at 2, .at 2, .at 2]), o0] [1, 4, 5] [Qb w5.heap.size, Qb w5.heap.size, Qb w5.heap.size, Qb w5.heap.size] [(1, .pointer (some ⟨z, 0, none⟩)), (4, .pointer (some ⟨w5.heap.size, 0, none⟩)), (5, .int .i64 150)] ⟨w, w5.heap.size + 1, [(old0 w), (qu5r_1 z c), (qu5r_0 w5)]⟩ ⟨rfl, rfl, rfl, rfl, trivial⟩ ?_
   refine e_seq <| g_seq <| g_seq <| g_region <| l_all 2 [o0, o0] [1, 4, 5, 12] [] [(1, .pointer (some ⟨z, 0, none⟩)), (4, .pointer (some ⟨w5.heap.size, 0, none⟩)), (5, .int .i64 150), (12, .bool true)] ⟨w, w5.heap.size + 1, [(old0 w), (qu5r_1 z c), (qu5r_0 w5)]⟩ trivial ?_
   refine e_seq <| g_true <| g_seq <| g_region <| l_all 3 [o0, o0, o0] [2, 3] [] [(2, .int .i64 0), (3, .int .i64 150)] ⟨w, w5.heap.size + 1, [(old0 w), (qu5r_1 z c), (qu5r_0 w5)]⟩ trivial ?_
   refine e_seq <| g_ret <| e_ret [] [] (.tuple #[.int .i64 0, .int .i64 150]) trivial ?_
   intro w6 hw6
   refine ⟨?_, hw6.back rfl (show w.heap.size ≤ w5.heap.size + 1 by omega) (List.mem_cons_self ..)⟩
   unfold needOf errOf; rw [if_neg hok2, if_neg hok2]
abbrev qla7_0 (w13 : World) : Ch := .blk w13.heap.size (.cells #[.int .i64 0, .slice none 0 0, .slice none 0 0, .int .i64 0] 34 (0, 0)) true
abbrev qla7_1 (w15 : World) : Ch := .blk w15.heap.size (.cells #[.int .i64 0, .slice none 0 0, .slice none 0 0, .int .i64 0] 34 (0, 0)) true
abbrev qla7_2 (w3 : World) (lw3 : TLayout) : Ch := .blk w3.heap.size (.cells (TLayout.arr lw3) 34 (0, 0)) true
abbrev qla7_3 (w5 : World) (lw5 : TLayout) : Ch := .blk w5.heap.size (.cells (TLayout.arr lw5) 34 (0, 0)) true
abbrev qla7_4 (z : Nat) (c : TConfig) : Ch := .blk z (.cells (TConfig.arr c) 30 (0, 0)) true
abbrev qla7_5 (w : World) (z : Nat) (c : TConfig) (w3 : World) (lw3 : TLayout) (w5 : World) (lw5 : TLayout) : List Ch := [(old0 w), (qla7_4 z c), (mid (z + 1) w3), (qla7_2 w3 lw3), (mid (w3.heap.size + 1) w5), (qla7_3 w5 lw5)]
theorem is_calls (w : World) (c : TConfig) (hc : TConfig.ok Any w c) : Calls Try.prog 7 #[.agg (TConfig.arr c)] w fun e w' => e = .returned (.bool true) ∧ Keeps (fun _ => False) w w' := by
 obtain ⟨z, hz⟩ : ∃ z, z = w.heap.size := ⟨_, rfl⟩
 refine calls_G (args := [.agg (TConfig.arr c)]) 49 ⟨w, z, [(old0 w)]⟩ Try.func7 rfl (by kernel_rfl) (by kernel_rfl) (sat_0 hz) ?_
 refine g_keep [0] [(0, .agg (TConfig.arr c))] ?_
 refine g_seq <| g_region <| l_all 2 [o0, o0] [1] [] [(1, .pointer (some ⟨z, 0, none⟩))] ⟨w, z + 1, [(old0 w), (qla7_4 z c)]⟩ trivial ?_
 refine e_seq <| g_seq <| g_region <| l_run 1 [(oa [.at 1, .at 1, .at 1, .at 1, .at 1, .at 1, .at 1])] [1, 12] [Qb z, Qb z, Qb z, Qb z, Qb z, Qb z, Qb z] [(1, .pointer (some ⟨z, 0, none⟩)), (12, .agg (TConfig.arr c))] ⟨w, z + 1, [(old0 w), (qla7_4 z c)]⟩ ⟨rfl, rfl, rfl, rfl, rfl, rfl, rfl, trivial⟩ ?_
 refine l_call [] [] 15 #[.agg (TConfig.arr c)] (some 13) trivial ?_
 intro w1 hw1
 by_cases hok2 : confOk c = true
 · refine (of_yes w1 c (hc.ext (hw1.ext rfl) (fun _ h => h)) hok2).mono ?_
   rintro e w3 ⟨lw3, rfl, hIw3, hLw3, hOw3, hkw3⟩
   have hfw3 := fine_of hok2; have hknw3 := hfw3.kn; have hEw3 := hIw3.fin; have hEbw3 := tAt_bd hfw3 _ (Nat.le_refl _); have hpnw3 := hfw3.pn
   rw [hw1.size] at hLw3 hOw3
   have hnw3 : z + 1 ≤ w3.heap.size := by have := hkw3.size; rw [hw1.size] at this; exact this
   refine ⟨_, _, rfl, hw1.keepsM hkw3, ?_⟩
   refine l_keep [1, 13] [(1, .pointer (some ⟨z, 0, none⟩)), (13, .tuple #[.agg (TLayout.arr lw3), .int .i64 0])] ?_
   refine l_all 6 [o0, o0, o0, o0, (oa [.at 3, .at 3, .at 3, .at 3]), o0] [1, 3, 4] [Qb w3.heap.size, Qb w3.heap.size, Qb w3.heap.size, Qb w3.heap.size] [(1, .pointer (some ⟨z, 0, none⟩)), (3, .pointer (some ⟨w3.heap.size, 0, none⟩)), (4, .int .i64 0)] ⟨w, w3.heap.size + 1, [(old0 w), (qla7_4 z c), (mid (z + 1) w3), (qla7_2 w3 lw3)]⟩ ⟨rfl, rfl, rfl, rfl, trivial⟩ ?_
   refine e_seq <| g_seq <| g_region <| l_run 1 [(oa [.at 1, .at 1, .at 1, .at 1, .at 1, .at 1, .at 1])] [1, 3, 4, 17] [Qb z, Qb z, Qb z, Qb z, Qb z, Qb z, Qb z] [(1, .pointer (some ⟨z, 0, none⟩)), (3, .pointer (some ⟨w3.heap.size, 0, none⟩)), (4, .int .i64 0), (17, .agg (TConfig.arr c))] ⟨w, w3.heap.size + 1, [(old0 w), (qla7_4 z c), (mid (z + 1) w3), (qla7_2 w3 lw3)]⟩ ⟨rfl, rfl, rfl, rfl, rfl, rfl, rfl, trivial⟩ ?_
   refine l_call [] [] 17 #[.agg (TConfig.arr c)] (some 18) trivial ?_
   intro w4 hw4
   refine (rof_yes w4 c (hc.ext (hw4.ext rfl) (fun _ h => h)) hok2).mono ?_
   rintro e w5 ⟨lw5, rfl, hIw5, hLw5, hOw5, hkw5⟩
   have hfw5 := fine_of hok2; have hknw5 := hfw5.kn; have hEw5 := hIw5.fin; have hEbw5 := tAt_bd hfw5 _ (Nat.le_refl _); have hpnw5 := hfw5.pn
   rw [hw4.size] at hLw5 hOw5
   have hnw5 : w3.heap.size + 1 ≤ w5.heap.size := by have := hkw5.size; rw [hw4.size] at this; exact this
   refine ⟨_, _, rfl, hw4.keepsM hkw5, ?_⟩
   refine l_keep [1, 3, 4, 18] [(1, .pointer (some ⟨z, 0, none⟩)), (3, .pointer (some ⟨w3.heap.size, 0, none⟩)), (4, .int .i64 0), (18, .tuple #[.agg (TLayout.arr lw5), .int .i64 0])] ?_
   refine l_all 6 [o0, o0, o0, o0, (oa [.at 5, .at 5, .at 5, .at 5]), o0] [1, 3, 4, 5, 6] [Qb w5.heap.size, Qb w5.heap.size, Qb w5.heap.size, Qb w5.heap.size] [(1, .pointer (some ⟨z, 0, none⟩)), (3, .pointer (some ⟨w3.heap.size, 0, none⟩)), (4, .int .i64 0), (5, .pointer (some ⟨w5.heap.size, 0, none⟩)), (6, .int .i64 0)] ⟨w, w5.heap.size + 1, (qla7_5 w z c w3 lw3 w5 lw5)⟩ ⟨rfl, rfl, rfl, rfl, trivial⟩ ?_
   refine e_seq <| g_seq <| g_region <| l_run 1 [(oa [.at 1, .at 1, .at 1, .at 1, .at 1, .at 1, .at 1])] [1, 3, 4, 5, 6, 22] [Qb z, Qb z, Qb z, Qb z, Qb z, Qb z, Qb z] [(1, .pointer (some ⟨z, 0, none⟩)), (3, .pointer (some ⟨w3.heap.size, 0, none⟩)), (4, .int .i64 0), (5, .pointer (some ⟨w5.heap.size, 0, none⟩)), (6, .int .i64 0), (22, .agg (TConfig.arr c))] ⟨w, w5.heap.size + 1, (qla7_5 w z c w3 lw3 w5 lw5)⟩ ⟨rfl, rfl, rfl, rfl, rfl, rfl, rfl, trivial⟩ ?_
   refine l_call [] [] 21 #[.agg (TConfig.arr c)] (some 23) trivial ?_
   intro w6 hw6
   refine (need_calls w6 c (hc.ext (hw6.ext rfl) (fun _ h => h))).mono ?_
   rintro e w7 ⟨rfl, hkw7⟩
   have hnw7 : w5.heap.size + 1 ≤ w7.heap.size := by have := hkw7.size; rw [hw6.size] at this; exact this
   refine ⟨_, _, rfl, hw6.keeps hkw7, ?_⟩
   refine l_keep [1, 3, 4, 5, 6, 23] [(1, .pointer (some ⟨z, 0, none⟩)), (3, .pointer (some ⟨w3.heap.size, 0, none⟩)), (4, .int .i64 0), (5, .pointer (some ⟨w5.heap.size, 0, none⟩)), (6, .int .i64 0), (23, .tuple #[.int .i64 (needOf c), .int .i64 (errOf c)])] ?_
   refine l_all 5 [o0, o0, o0, o0, o0] [1, 3, 4, 5, 6, 7, 8] [] [(1, .pointer (some ⟨z, 0, none⟩)), (3, .pointer (some ⟨w3.heap.size, 0, none⟩)), (4, .int .i64 0), (5, .pointer (some ⟨w5.heap.size, 0, none⟩)), (6, .int .i64 0), (7, .int .i64 (needOf c)), (8, .int .i64 (errOf c))] ⟨w, w7.heap.size, (qla7_5 w z c w3 lw3 w5 lw5)⟩ trivial ?_
   refine e_seq <| g_seq <| g_region <| l_run 1 [(oa [.at 1, .at 1, .at 1, .at 1, .at 1, .at 1, .at 1])] [3, 4, 5, 6, 7, 8, 27] [Qb z, Qb z, Qb z, Qb z, Qb z, Qb z, Qb z] [(3, .pointer (some ⟨w3.heap.size, 0, none⟩)), (4, .int .i64 0), (5, .pointer (some ⟨w5.heap.size, 0, none⟩)), (6, .int .i64 0), (7, .int .i64 (needOf c)), (8, .int .i64 (errOf c)), (27, .agg (TConfig.arr c))] ⟨w, w7.heap.size, (qla7_5 w z c w3 lw3 w5 lw5)⟩ ⟨rfl, rfl, rfl, rfl, rfl, rfl, rfl, trivial⟩ ?_
   refine l_call [] [] 22 #[.agg (TConfig.arr c)] (some 28) trivial ?_
   intro w8 hw8
   refine (rneed_calls w8 c (hc.ext (hw8.ext rfl) (fun _ h => h))).mono ?_
   rintro e w9 ⟨rfl, hkw9⟩
   have hnw9 : w7.heap.size ≤ w9.heap.size := by have := hkw9.size; rw [hw8.size] at this; exact this
   refine ⟨_, _, rfl, hw8.keeps hkw9, ?_⟩
   refine l_keep [3, 4, 5, 6, 7, 8, 28] [(3, .pointer (some ⟨w3.heap.size, 0, none⟩)), (4, .int .i64 0), (5, .pointer (some ⟨w5.heap.size, 0, none⟩)), (6, .int .i64 0), (7, .int .i64 (needOf c)), (8, .int .i64 (errOf c)), (28, .tuple #[.int .i64 (needOf c), .int .i64 (errOf c)])] ?_
   refine l_all 5 [o0, o0, o0, o0, o0] [3, 4, 5, 6, 7, 8, 9, 10] [] [(3, .pointer (some ⟨w3.heap.size, 0, none⟩)), (4, .int .i64 0), (5, .pointer (some ⟨w5.heap.size, 0, none⟩)), (6, .int .i64 0), (7, .int .i64 (needOf c)), (8, .int .i64 (errOf c)), (9, .int .i64 (needOf c)), (10, .int .i64 (errOf c))] ⟨w, w9.heap.size, (qla7_5 w z c w3 lw3 w5 lw5)⟩ trivial ?_
   refine e_seq <| g_seq <| g_region <| l_run 6 [o0, o0, o0, o0, (oa [.at 3, .at 3, .at 3, .at 3]), (oa [.at 5, .at 5, .at 5, .at 5])] [7, 8, 9, 10, 34, 35, 36] [Qb w3.heap.size, Qb w3.heap.size, Qb w3.heap.size, Qb w3.heap.size, Qb w5.heap.size, Qb w5.heap.size, Qb w5.heap.size, Qb w5.heap.size] [(7, .int .i64 (needOf c)), (8, .int .i64 (errOf c)), (9, .int .i64 (needOf c)), (10, .int .i64 (errOf c)), (34, .bool true), (35, .agg (TLayout.arr lw3)), (36, .agg (TLayout.arr lw5))] ⟨w, w9.heap.size, (qla7_5 w z c w3 lw3 w5 lw5)⟩ ⟨rfl, rfl, rfl, rfl, rfl, rfl, rfl, rfl, trivial⟩ ?_
   refine l_call [] [] 18 #[.agg (TLayout.arr lw3), .agg (TLayout.arr lw5)] (some 37) trivial ?_
   intro w10 hw10
   refine (same_calls w10 lw3 lw5 (hLw3.ext (hw10.extM 2) (fun _ _ => trivial)) (hLw5.ext (hw10.extM 4) (fun _ _ => trivial)) (same_of hIw3 hIw5)).mono ?_
   rintro e w11 ⟨rfl, hkw11⟩
   have hnw11 : w9.heap.size ≤ w11.heap.size := by have := hkw11.size; rw [hw10.size] at this; exact this
   refine ⟨_, _, rfl, hw10.keeps hkw11, ?_⟩
   refine l_keep [7, 8, 9, 10, 34, 37] [(7, .int .i64 (needOf c)), (8, .int .i64 (errOf c)), (9, .int .i64 (needOf c)), (10, .int .i64 (errOf c)), (34, .bool true), (37, .bool true)] ?_
   refine l_all 12 [o0, o0, o0, o0, oT, o0, o0, o0, o0, oT, o0, o0] [2] [ET (errOf c) (errOf c), ET (needOf c) (needOf c)] [(2, .bool true)] ⟨w, w11.heap.size, (qla7_5 w z c w3 lw3 w5 lw5)⟩ ⟨et (by omega), et (by omega), trivial⟩ ?_
   refine e_seq <| g_ret <| e_ret [] [] (.bool true) trivial ?_
   intro w12 hw12
   exact ⟨rfl, hw12.back rfl (show w.heap.size ≤ w11.heap.size by omega) (List.mem_cons_self ..)⟩
 · refine (of_no w1 c (hc.ext (hw1.ext rfl) (fun _ h => h)) (Bool.eq_false_iff.2 hok2)).mono ?_
   rintro e w13 ⟨rfl, hkw13⟩
   have hnw13 : z + 1 ≤ w13.heap.size := by have := hkw13.size; rw [hw1.size] at this; exact this
   refine ⟨_, _, rfl, hw1.keeps hkw13, ?_⟩
   refine l_keep [1, 13] [(1, .pointer (some ⟨z, 0, none⟩)), (13, .tuple #[.agg #[.int .i64 0, .slice none 0 0, .slice none 0 0, .int .i64 0], .int .i64 150])] ?_
   refine l_all 6 [o0, o0, o0, o0, (oa [.at 2, .at 2, .at 2, .at 2]), o0] [1, 3, 4] [Qb w13.heap.size, Qb w13.heap.size, Qb w13.heap.size, Qb w13.heap.size] [(1, .pointer (some ⟨z, 0, none⟩)), (3, .pointer (some ⟨w13.heap.size, 0, none⟩)), (4, .int .i64 150)] ⟨w, w13.heap.size + 1, [(old0 w), (qla7_4 z c), (qla7_0 w13)]⟩ ⟨rfl, rfl, rfl, rfl, trivial⟩ ?_
   refine e_seq <| g_seq <| g_region <| l_run 1 [(oa [.at 1, .at 1, .at 1, .at 1, .at 1, .at 1, .at 1])] [1, 3, 4, 17] [Qb z, Qb z, Qb z, Qb z, Qb z, Qb z, Qb z] [(1, .pointer (some ⟨z, 0, none⟩)), (3, .pointer (some ⟨w13.heap.size, 0, none⟩)), (4, .int .i64 150), (17, .agg (TConfig.arr c))] ⟨w, w13.heap.size + 1, [(old0 w), (qla7_4 z c), (qla7_0 w13)]⟩ ⟨rfl, rfl, rfl, rfl, rfl, rfl, rfl, trivial⟩ ?_
   refine l_call [] [] 17 #[.agg (TConfig.arr c)] (some 18) trivial ?_
   intro w14 hw14
   refine (rof_no w14 c (hc.ext (hw14.ext rfl) (fun _ h => h)) (Bool.eq_false_iff.2 hok2)).mono ?_
   rintro e w15 ⟨rfl, hkw15⟩
   have hnw15 : w13.heap.size + 1 ≤ w15.heap.size := by have := hkw15.size; rw [hw14.size] at this; exact this
   refine ⟨_, _, rfl, hw14.keeps hkw15, ?_⟩
   refine l_keep [1, 3, 4, 18] [(1, .pointer (some ⟨z, 0, none⟩)), (3, .pointer (some ⟨w13.heap.size, 0, none⟩)), (4, .int .i64 150), (18, .tuple #[.agg #[.int .i64 0, .slice none 0 0, .slice none 0 0, .int .i64 0], .int .i64 150])] ?_
   refine l_all 6 [o0, o0, o0, o0, (oa [.at 3, .at 3, .at 3, .at 3]), o0] [1, 3, 4, 5, 6] [Qb w15.heap.size, Qb w15.heap.size, Qb w15.heap.size, Qb w15.heap.size] [(1, .pointer (some ⟨z, 0, none⟩)), (3, .pointer (some ⟨w13.heap.size, 0, none⟩)), (4, .int .i64 150), (5, .pointer (some ⟨w15.heap.size, 0, none⟩)), (6, .int .i64 150)] ⟨w, w15.heap.size + 1, [(old0 w), (qla7_4 z c), (qla7_0 w13), (qla7_1 w15)]⟩ ⟨rfl, rfl, rfl, rfl, trivial⟩ ?_
   refine e_seq <| g_seq <| g_region <| l_run 1 [(oa [.at 1, .at 1, .at 1, .at 1, .at 1, .at 1, .at 1])] [1, 3, 4, 5, 6, 22] [Qb z, Qb z, Qb z, Qb z, Qb z, Qb z, Qb z] [(1, .pointer (some ⟨z, 0, none⟩)), (3, .pointer (some ⟨w13.heap.size, 0, none⟩)), (4, .int .i64 150), (5, .pointer (some ⟨w15.heap.size, 0, none⟩)), (6, .int .i64 150), (22, .agg (TConfig.arr c))] ⟨w, w15.heap.size + 1, [(old0 w), (qla7_4 z c), (qla7_0 w13), (qla7_1 w15)]⟩ ⟨rfl, rfl, rfl, rfl, rfl, rfl, rfl, trivial⟩ ?_
   refine l_call [] [] 21 #[.agg (TConfig.arr c)] (some 23) trivial ?_
   intro w16 hw16
   refine (need_calls w16 c (hc.ext (hw16.ext rfl) (fun _ h => h))).mono ?_
   rintro e w17 ⟨rfl, hkw17⟩
   have hnw17 : w15.heap.size + 1 ≤ w17.heap.size := by have := hkw17.size; rw [hw16.size] at this; exact this
   refine ⟨_, _, rfl, hw16.keeps hkw17, ?_⟩
   refine l_keep [1, 3, 4, 5, 6, 23] [(1, .pointer (some ⟨z, 0, none⟩)), (3, .pointer (some ⟨w13.heap.size, 0, none⟩)), (4, .int .i64 150), (5, .pointer (some ⟨w15.heap.size, 0, none⟩)), (6, .int .i64 150), (23, .tuple #[.int .i64 (needOf c), .int .i64 (errOf c)])] ?_
   refine l_all 5 [o0, o0, o0, o0, o0] [1, 3, 4, 5, 6, 7, 8] [] [(1, .pointer (some ⟨z, 0, none⟩)), (3, .pointer (some ⟨w13.heap.size, 0, none⟩)), (4, .int .i64 150), (5, .pointer (some ⟨w15.heap.size, 0, none⟩)), (6, .int .i64 150), (7, .int .i64 (needOf c)), (8, .int .i64 (errOf c))] ⟨w, w17.heap.size, [(old0 w), (qla7_4 z c), (qla7_0 w13), (qla7_1 w15)]⟩ trivial ?_
   refine e_seq <| g_seq <| g_region <| l_run 1 [(oa [.at 1, .at 1, .at 1, .at 1, .at 1, .at 1, .at 1])] [3, 4, 5, 6, 7, 8, 27] [Qb z, Qb z, Qb z, Qb z, Qb z, Qb z, Qb z] [(3, .pointer (some ⟨w13.heap.size, 0, none⟩)), (4, .int .i64 150), (5, .pointer (some ⟨w15.heap.size, 0, none⟩)), (6, .int .i64 150), (7, .int .i64 (needOf c)), (8, .int .i64 (errOf c)), (27, .agg (TConfig.arr c))] ⟨w, w17.heap.size, [(old0 w), (qla7_4 z c), (qla7_0 w13), (qla7_1 w15)]⟩ ⟨rfl, rfl, rfl, rfl, rfl, rfl, rfl, trivial⟩ ?_
   refine l_call [] [] 22 #[.agg (TConfig.arr c)] (some 28) trivial ?_
   intro w18 hw18
   refine (rneed_calls w18 c (hc.ext (hw18.ext rfl) (fun _ h => h))).mono ?_
   rintro e w19 ⟨rfl, hkw19⟩
   have hnw19 : w17.heap.size ≤ w19.heap.size := by have := hkw19.size; rw [hw18.size] at this; exact this
   refine ⟨_, _, rfl, hw18.keeps hkw19, ?_⟩
   refine l_keep [3, 4, 5, 6, 7, 8, 28] [(3, .pointer (some ⟨w13.heap.size, 0, none⟩)), (4, .int .i64 150), (5, .pointer (some ⟨w15.heap.size, 0, none⟩)), (6, .int .i64 150), (7, .int .i64 (needOf c)), (8, .int .i64 (errOf c)), (28, .tuple #[.int .i64 (needOf c), .int .i64 (errOf c)])] ?_
   refine l_all 5 [o0, o0, o0, o0, o0] [3, 4, 5, 6, 7, 8, 9, 10] [] [(3, .pointer (some ⟨w13.heap.size, 0, none⟩)), (4, .int .i64 150), (5, .pointer (some ⟨w15.heap.size, 0, none⟩)), (6, .int .i64 150), (7, .int .i64 (needOf c)), (8, .int .i64 (errOf c)), (9, .int .i64 (needOf c)), (10, .int .i64 (errOf c))] ⟨w, w19.heap.size, [(old0 w), (qla7_4 z c), (qla7_0 w13), (qla7_1 w15)]⟩ trivial ?_
   refine e_seq <| g_seq <| g_region <| l_run 6 [o0, o0, o0, o0, (oa [.at 2, .at 2, .at 2, .at 2]), (oa [.at 3, .at 3, .at 3, .at 3])] [7, 8, 9, 10, 34, 35, 36] [Qb w13.heap.size, Qb w13.heap.size, Qb w13.heap.size, Qb w13.heap.size, Qb w15.heap.size, Qb w15.heap.size, Qb w15.heap.size, Qb w15.heap.size] [(7, .int .i64 (needOf c)), (8, .int .i64 (errOf c)), (9, .int .i64 (needOf c)), (10, .int .i64 (errOf c)), (34, .bool true), (35, .agg #[.int .i64 0, .slice none 0 0, .slice none 0 0, .int .i64 0]), (36, .agg #[.int .i64 0, .slice none 0 0, .slice none 0 0, .int .i64 0])] ⟨w, w19.heap.size, [(old0 w), (qla7_4 z c), (qla7_0 w13), (qla7_1 w15)]⟩ ⟨rfl, rfl, rfl, rfl, rfl, rfl, rfl, rfl, trivial⟩ ?_
   refine l_call [] [] 18 #[.agg #[.int .i64 0, .slice none 0 0, .slice none 0 0, .int .i64 0], .agg #[.int .i64 0, .slice none 0 0, .slice none 0 0, .int .i64 0]] (some 37) trivial ?_
   intro w20 hw20
   refine (same_calls w20 noLay noLay noLay_ok noLay_ok same_no).mono ?_
   rintro e w21 ⟨rfl, hkw21⟩
   have hnw21 : w19.heap.size ≤ w21.heap.size := by have := hkw21.size; rw [hw20.size] at this; exact this
   refine ⟨_, _, rfl, hw20.keeps hkw21, ?_⟩
   refine l_keep [7, 8, 9, 10, 34, 37] [(7, .int .i64 (needOf c)), (8, .int .i64 (errOf c)), (9, .int .i64 (needOf c)), (10, .int .i64 (errOf c)), (34, .bool true), (37, .bool true)] ?_
   refine l_all 12 [o0, o0, o0, o0, oT, o0, o0, o0, o0, oT, o0, o0] [2] [ET (errOf c) (errOf c), ET (needOf c) (needOf c)] [(2, .bool true)] ⟨w, w21.heap.size, [(old0 w), (qla7_4 z c), (qla7_0 w13), (qla7_1 w15)]⟩ ⟨et (by omega), et (by omega), trivial⟩ ?_
   refine e_seq <| g_ret <| e_ret [] [] (.bool true) trivial ?_
   intro w22 hw22
   exact ⟨rfl, hw22.back rfl (show w.heap.size ≤ w21.heap.size by omega) (List.mem_cons_self ..)⟩

end Go.Proofs.Ytpoeaajkgblkmaa.Ly
