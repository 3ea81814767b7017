/- layout: moved. No conditions. -/
import Derived.Test.YtpoeaajkgblkmaaLi
namespace Go.Proofs.Ytpoeaajkgblkmaa.Ly
open Go Go.Proofs.Ytpoeaajkgblkmaa.Eng Go.Proofs.Ytpoeaajkgblkmaa.Mem
set_option linter.unusedSimpArgs false
set_option linter.unusedVariables false
set_option maxRecDepth 100000

structure MovedP (p q : TPartitionPlace) : Prop where
  nums : p.Lock + 16 = q.Lock ∧ p.Save + 16 = q.Save ∧ p.State + 16 = q.State ∧ p.Root + 1 = q.Root ∧ 0 ≤ p.Lock ∧ p.Lock ≤ 1000000 ∧ 0 ≤ p.Save ∧ p.Save ≤ 1000000 ∧ 0 ≤ p.State ∧ p.State ≤ 1000000 ∧ 0 ≤ p.Root ∧ p.Root ≤ 1000000
  tl : p.Tables.xs.length = q.Tables.xs.length
  tabs : ∀ k, k < p.Tables.xs.length → gd p.Tables.xs k + 1 = gd q.Tables.xs k ∧ 0 ≤ gd p.Tables.xs k ∧ gd p.Tables.xs k ≤ 1000000
structure MovedC (p q : TChannelPlace) : Prop where
  nums : p.Lock + 16 = q.Lock ∧ p.Stage + 16 = q.Stage ∧ p.Partition = q.Partition ∧ p.Port = q.Port ∧ 0 ≤ p.Lock ∧ p.Lock ≤ 1000000 ∧ 0 ≤ p.Stage ∧ p.Stage ≤ 1000000
  dl : p.Dests.xs.length = q.Dests.xs.length
  ds : ∀ k, k < p.Dests.xs.length → (gd p.Dests.xs k).Partition = (gd q.Dests.xs k).Partition ∧ (gd p.Dests.xs k).Port = (gd q.Dests.xs k).Port ∧ (gd p.Dests.xs k).At + 16 = (gd q.Dests.xs k).At ∧ 0 ≤ (gd p.Dests.xs k).At ∧ (gd p.Dests.xs k).At ≤ 1000000
structure MovedL (a b : TLayout) : Prop where
  nums : a.Barrier + 16 = b.Barrier ∧ a.End + 1 = b.End ∧ 0 ≤ a.Barrier ∧ a.Barrier ≤ 1000000 ∧ 0 ≤ a.End ∧ a.End ≤ 1000000
  pl : a.Partitions.xs.length = b.Partitions.xs.length
  cl : a.Channels.xs.length = b.Channels.xs.length
  ps : ∀ i, i < a.Partitions.xs.length → MovedP (gd a.Partitions.xs i) (gd b.Partitions.xs i)
  cs : ∀ i, i < a.Channels.xs.length → MovedC (gd a.Channels.xs i) (gd b.Channels.xs i)
theorem pAt_up {c d : TConfig} (hk : d.Kernel = c.Kernel + 1) (i : Nat) : pAt d i = pAt c i + 16 := by unfold pAt; rw [hk]; omega
theorem endsUp_eq {c d : TConfig} (hp : d.Partitions = c.Partitions) (k : Int) (b : Bool) : endsOf d k b = endsOf c k b := by unfold endsOf endsUp; rw [hp]
theorem nDest_eq {c d : TConfig} (hp : d.Partitions = c.Partitions) (k : Nat) : nDest d k = nDest c k := by unfold nDest; rw [endsUp_eq hp]
theorem cAt_up {c d : TConfig} (hk : d.Kernel = c.Kernel + 1) (hp : d.Partitions = c.Partitions) (hc : d.Channels = c.Channels) : ∀ (k : Nat), cAt d k = cAt c k + 16
  | 0 => by simp only [cAt]; rw [pAt_up hk, hp]
  | k + 1 => by simp only [cAt, cLen]; rw [cAt_up hk hp hc k, nDest_eq hp, hc]; omega
theorem frame_up {c d : TConfig} (hk : d.Kernel = c.Kernel + 1) (hp : d.Partitions = c.Partitions) (hc : d.Channels = c.Channels) : frame0 d = frame0 c + 1 := by
  unfold frame0; rw [cAt_up hk hp hc, hc]; omega
theorem tAt_up {c d : TConfig} (hk : d.Kernel = c.Kernel + 1) (hp : d.Partitions = c.Partitions) (hc : d.Channels = c.Channels) : ∀ (i : Nat), tAt d i = tAt c i + 1
  | 0 => frame_up hk hp hc
  | i + 1 => by rw [tAt_succ, tAt_succ, tAt_up hk hp hc i, hp]; omega
theorem moved_of {c d : TConfig} {a b : TLayout} (hf : Fine c) (hk : d.Kernel = c.Kernel + 1) (hp : d.Partitions = c.Partitions) (hc : d.Channels = c.Channels) (ha : IsLay c a) (hb : IsLay d b) : MovedL a b := by
  have hkn := hf.kn; have hpn := hf.pn; have hcn := hf.cn
  refine ⟨?_, by rw [ha.pl, hb.pl, hp], by rw [ha.cl, hb.cl, hc], ?_, ?_⟩
  · have h1 := tAt_bd hf _ (Nat.le_refl _)
    rw [ha.bar, hb.bar, ha.fin, hb.fin, tAt_up hk hp hc, hp, hk]; omega
  · intro i hi
    rw [ha.pl] at hi
    obtain ⟨x, cx, e1⟩ := ha.ps i hi
    obtain ⟨y, cy, e2⟩ := hb.ps i (by rw [hp]; exact hi)
    have ht := tAt_bd hf i (by omega)
    have hn := tabsN_le (gd c.Partitions.xs i)
    have hq : pAt c i = c.Kernel * 16 + 2 + 24 * (i : Int) := rfl
    rw [e1, e2]
    refine ⟨?_, ?_, ?_⟩
    · simp only [placeDone, pAt_up hk, tAt_up hk hp hc, true_and]; omega
    · simp only [placeDone, tabsAt_len, hp]
    · intro k hk'
      simp only [placeDone, tabsAt_len] at hk'
      have g1 : gd (placeDone c i ⟨x, cx, tabsAt c i (tabsN (gd c.Partitions.xs i))⟩).Tables.xs k = tAt c i + 1 + (k : Int) := gd_map hk'
      have g2 : gd (placeDone d i ⟨y, cy, tabsAt d i (tabsN (gd d.Partitions.xs i))⟩).Tables.xs k = tAt d i + 1 + (k : Int) := gd_map (by rw [hp]; exact hk')
      rw [g1, g2, tAt_up hk hp hc]; omega
  · intro k hk'
    rw [ha.cl] at hk'
    obtain ⟨x, cx, e1⟩ := ha.cs k hk'
    obtain ⟨y, cy, e2⟩ := hb.cs k (by rw [hc]; exact hk')
    have hcb := cAt_bd hf k (by omega)
    have hd := hf.dests hk'
    have hp0 : pAt c c.Partitions.xs.length = c.Kernel * 16 + 2 + 24 * (c.Partitions.xs.length : Int) := rfl
    rw [e1, e2]
    refine ⟨?_, ?_, ?_⟩
    · simp only [chanAt, cAt_up hk hp hc, endsUp_eq hp, true_and]; omega
    · simp only [chanAt, destsUp_len, nDest_eq hp]
    · intro q hq
      simp only [chanAt, destsUp_len] at hq
      have g1 : gd (chanAt c k ⟨x, cx, destsUp c k (nDest c k)⟩).Dests.xs q = destAt c k q := gd_map hq
      have g2 : gd (chanAt d k ⟨y, cy, destsUp d k (nDest d k)⟩).Dests.xs q = destAt d k q := gd_map (by rw [nDest_eq hp]; exact hq)
      have hdb := dAt_bd hf hk' (show q ≤ 4 by omega)
      have e3 : dAt d k q = dAt c k q + 16 := by unfold dAt; rw [cAt_up hk hp hc, hc]; omega
      rw [g1, g2]
      simp only [destAt, endsUp_eq hp, e3, true_and]; omega
abbrev moved_calls_m0 (n59 : Nat) (y68 : TDestPlace) : Ch := .blk n59 (.cells #[.int .i64 y68.Partition, .int .i64 y68.Port, .int .i64 (y68.At + 16)] 47 (0, 0)) true
abbrev moved_calls_m1 (n2 : Nat) (y19 : TPartitionPlace) : Ch := .blk (n2 + 1) (.cells (TPartitionPlace.arr y19) 42 (0, 0)) true
abbrev moved_calls_m2 (n40 : Nat) (y57 : TChannelPlace) : Ch := .blk (n40 + 1) (.cells (TChannelPlace.arr y57) 45 (0, 0)) true
abbrev moved_calls_m3 (n2 : Nat) (y11 : TPartitionPlace) : Ch := .blk n2 (.cells (TPartitionPlace.arr y11) 42 (0, 0)) true
abbrev moved_calls_m4 (n40 : Nat) (y49 : TChannelPlace) : Ch := .blk n40 (.cells (TChannelPlace.arr y49) 45 (0, 0)) true
abbrev moved_calls_m5 (z : Nat) (lb : TLayout) : Ch := .blk (z + 1) (.cells (TLayout.arr lb) 34 (0, 0)) true
abbrev moved_calls_m6 (z : Nat) (la : TLayout) : Ch := .blk z (.cells (TLayout.arr la) 34 (0, 0)) true
theorem moved_calls (w : World) (la lb : TLayout) (ha : TLayout.ok Any w la) (hb : TLayout.ok Any w lb) (hM : MovedL la lb) : Calls Try.prog 16 #[.agg (TLayout.arr la), .agg (TLayout.arr lb)] w fun e w' => e = .returned (.bool true) ∧ Keeps (fun _ => False) w w' := by
 obtain ⟨z, hz⟩ : ∃ z, z = w.heap.size := ⟨_, rfl⟩
 refine calls_G (args := [.agg (TLayout.arr la), .agg (TLayout.arr lb)]) 198 ⟨w, z, [(old0 w)]⟩ Try.func16 rfl (by kernel_rfl) (by kernel_rfl) (sat_0 hz) ?_
 have hn0 := hM.nums; have hpl := hM.pl; have hcl := hM.cl; have hl1 := ha.Partitions.1.len; have hl2 := ha.Channels.1.len
 refine g_keep [0, 1] [(0, .agg (TLayout.arr la)), (1, .agg (TLayout.arr lb))] ?_
 refine g_seq <| g_region <| l_all 3 [o0, o0, o0] [2, 3] [] [(2, .pointer (some ⟨z, 0, none⟩)), (3, .pointer (some ⟨z + 1, 0, none⟩))] ⟨w, z + 2, [(old0 w), (moved_calls_m6 z la), (moved_calls_m5 z lb)]⟩ trivial ?_
 refine e_seq <| g_seq <| g_seq <| g_region <| l_all 32 [o0, (oa [.at 1]), (ov (.int .i64 (la.Barrier + 16))), o0, (oa [.at 2]), oF, o0, o0, (oa [.at 1]), (ov (.int .i64 (la.End + 1))), o0, (oa [.at 2]), oF, o0, o0, o0, (oa [.at 1]), o0, o0, (oa [.at 2]), o0, oF, o0, o0, o0, (oa [.at 1]), o0, o0, (oa [.at 2]), o0, oF, o0] [2, 3, 45] [Qb z, Value.int .i64 (IntKind.i64.wrap ((la.Barrier : Int) + 16)) = Value.int .i64 (la.Barrier + 16), Qb (z + 1), NF (la.Barrier + 16) lb.Barrier, Qb z, Value.int .i64 (IntKind.i64.wrap ((la.End : Int) + 1)) = Value.int .i64 (la.End + 1), Qb (z + 1), NF (la.End + 1) lb.End, Qb z, Qb (z + 1), NF ((la.Partitions.xs.length : Nat) : Int) ((lb.Partitions.xs.length : Nat) : Int), Qb z, Qb (z + 1), NF ((la.Channels.xs.length : Nat) : Int) ((lb.Channels.xs.length : Nat) : Int)] [(2, .pointer (some ⟨z, 0, none⟩)), (3, .pointer (some ⟨z + 1, 0, none⟩)), (45, .bool false)] ⟨w, z + 2, [(old0 w), (moved_calls_m6 z la), (moved_calls_m5 z lb)]⟩ ⟨rfl, congrArg (Value.int .i64) (wr_i64 (by omega) (by omega) (by omega)), rfl, nf (by omega), rfl, congrArg (Value.int .i64) (wr_i64 (by omega) (by omega) (by omega)), rfl, nf (by omega), rfl, rfl, nf (by omega), rfl, rfl, nf (by omega), trivial⟩ ?_
 refine e_seq <| g_false <| g_skip <| e_seq <| g_seq <| g_seq <| g_region <| l_all 4 [o0, (oa [.at 1]), o0, o0] [2, 3, 48, 49] [Qb z] [(2, .pointer (some ⟨z, 0, none⟩)), (3, .pointer (some ⟨z + 1, 0, none⟩)), (48, .int .i64 ((la.Partitions.xs.length : Nat) : Int)), (49, .int .i64 0)] ⟨w, z + 2, [(old0 w), (moved_calls_m6 z la), (moved_calls_m5 z lb)]⟩ ⟨rfl, trivial⟩ ?_
 refine e_seq <| g_block <| g_loop (fun m a w' => ∃ (n2 : Nat) (i : Nat), m = la.Partitions.xs.length - i ∧ z + 2 ≤ n2 ∧ (i ≤ la.Partitions.xs.length) ∧ St 198 [(2, .pointer (some ⟨z, 0, none⟩)), (3, .pointer (some ⟨z + 1, 0, none⟩)), (48, .int .i64 ((la.Partitions.xs.length : Nat) : Int)), (49, .int .i64 (i : Int))] [] ⟨w, n2, [(old0 w), (moved_calls_m6 z la), (moved_calls_m5 z lb)]⟩ a w') (la.Partitions.xs.length - 0) ?_ ?_
 · intro a w' hs; exact ⟨(z + 2), 0, rfl, Nat.le_refl _, Nat.zero_le _, hs⟩
 · rintro m a w' ⟨n2, i, rfl, hn1, hki, hs⟩
   refine (?_ : G Try.prog 198 [(2, .pointer (some ⟨z, 0, none⟩)), (3, .pointer (some ⟨z + 1, 0, none⟩)), (48, .int .i64 ((la.Partitions.xs.length : Nat) : Int)), (49, .int .i64 (i : Int))] [] ⟨w, n2, [(old0 w), (moved_calls_m6 z la), (moved_calls_m5 z lb)]⟩ _ _ _) a w' hs
   clear hs a w'
   refine g_seq ?_
   by_cases h3 : ((i : Int) : Int) < ((la.Partitions.xs.length : Nat) : Int)
   · refine g_region <| l_all 1 [oT] [2, 3, 48, 49, 50] [BT (((i : Int) : Int) < ((la.Partitions.xs.length : Nat) : Int))] [(2, .pointer (some ⟨z, 0, none⟩)), (3, .pointer (some ⟨z + 1, 0, none⟩)), (48, .int .i64 ((la.Partitions.xs.length : Nat) : Int)), (49, .int .i64 (i : Int)), (50, .bool true)] ⟨w, n2, [(old0 w), (moved_calls_m6 z la), (moved_calls_m5 z lb)]⟩ ⟨bt (by omega), trivial⟩ ?_
     refine e_seq <| g_seq <| g_true <| g_skip <| e_seq <| g_seq <| g_block <| g_seq <| g_region <| l_all 2 [o0, o0] [2, 3, 48, 49, 5] [] [(2, .pointer (some ⟨z, 0, none⟩)), (3, .pointer (some ⟨z + 1, 0, none⟩)), (48, .int .i64 ((la.Partitions.xs.length : Nat) : Int)), (49, .int .i64 (i : Int)), (5, .int .i64 (i : Int))] ⟨w, n2, [(old0 w), (moved_calls_m6 z la), (moved_calls_m5 z lb)]⟩ trivial ?_
     refine e_seq <| g_seq ?_
     obtain ⟨b4, o5, ha6, hF8, hc7⟩ := (ha.Partitions).1.all (show 0 < la.Partitions.xs.length by omega)
     replace ha6 : la.Partitions.a = some ⟨b4, o5, none⟩ := ha6
     have hc9 := hc7 i (show i < la.Partitions.xs.length by omega)
     have he10 := (ha.Partitions).2 i (show i < la.Partitions.xs.length by omega)
     obtain ⟨y11, hy11⟩ : ∃ y, y = gd la.Partitions.xs i := ⟨_, rfl⟩
     rw [← hy11] at he10 hc9
     have htln := he10.Tables.1.len
     refine g_region <| l_all 7 [o0, ⟨.auto [.at 1], some (.slice (some ⟨b4, o5, none⟩) la.Partitions.xs.length la.Partitions.cap)⟩, o0, (oi i), (ol 0 (TPartitionPlace.arr y11)), o0, (oa [.at 3, .at 3, .at 3, .at 3, .at 3])] [2, 3, 48, 49, 5, 6] [Qb z, Value.slice la.Partitions.a la.Partitions.xs.length la.Partitions.cap = Value.slice (some ⟨b4, o5, none⟩) la.Partitions.xs.length la.Partitions.cap, ((i : Int) : Int) = ((i : Nat) : Int), i < la.Partitions.xs.length, (none : Option Nat) = none, OldR w b4 (o5 + i * 5) (TPartitionPlace.arr y11), Qb n2, Qb n2, Qb n2, Qb n2, Qb n2] [(2, .pointer (some ⟨z, 0, none⟩)), (3, .pointer (some ⟨z + 1, 0, none⟩)), (48, .int .i64 ((la.Partitions.xs.length : Nat) : Int)), (49, .int .i64 (i : Int)), (5, .int .i64 (i : Int)), (6, .pointer (some ⟨n2, 0, none⟩))] ⟨w, n2 + 1, [(old0 w), (moved_calls_m6 z la), (moved_calls_m5 z lb), (moved_calls_m3 n2 y11)]⟩ ⟨rfl, congrArg (fun a => Value.slice a _ _) ha6, rfl, (by omega), rfl, old_row hc9, rfl, rfl, rfl, rfl, rfl, trivial⟩ ?_
     refine e_seq <| g_seq ?_
     obtain ⟨b12, o13, ha14, hF16, hc15⟩ := (hb.Partitions).1.all (show 0 < lb.Partitions.xs.length by omega)
     replace ha14 : lb.Partitions.a = some ⟨b12, o13, none⟩ := ha14
     have hc17 := hc15 i (show i < lb.Partitions.xs.length by omega)
     have he18 := (hb.Partitions).2 i (show i < lb.Partitions.xs.length by omega)
     obtain ⟨y19, hy19⟩ : ∃ y, y = gd lb.Partitions.xs i := ⟨_, rfl⟩
     rw [← hy19] at he18 hc17
     have hmp := hM.ps i (by omega); rw [← hy11, ← hy19] at hmp; have hn1 := hmp.nums; have hn2 := hmp.tl
     refine g_region <| l_all 7 [o0, ⟨.auto [.at 2], some (.slice (some ⟨b12, o13, none⟩) lb.Partitions.xs.length lb.Partitions.cap)⟩, o0, (oi i), (ol 0 (TPartitionPlace.arr y19)), o0, (oa [.at 4, .at 4, .at 4, .at 4, .at 4])] [2, 3, 48, 49, 6, 7] [Qb (z + 1), Value.slice lb.Partitions.a lb.Partitions.xs.length lb.Partitions.cap = Value.slice (some ⟨b12, o13, none⟩) lb.Partitions.xs.length lb.Partitions.cap, ((i : Int) : Int) = ((i : Nat) : Int), i < lb.Partitions.xs.length, (none : Option Nat) = none, OldR w b12 (o13 + i * 5) (TPartitionPlace.arr y19), Qb (n2 + 1), Qb (n2 + 1), Qb (n2 + 1), Qb (n2 + 1), Qb (n2 + 1)] [(2, .pointer (some ⟨z, 0, none⟩)), (3, .pointer (some ⟨z + 1, 0, none⟩)), (48, .int .i64 ((la.Partitions.xs.length : Nat) : Int)), (49, .int .i64 (i : Int)), (6, .pointer (some ⟨n2, 0, none⟩)), (7, .pointer (some ⟨n2 + 1, 0, none⟩))] ⟨w, n2 + 2, [(old0 w), (moved_calls_m6 z la), (moved_calls_m5 z lb), (moved_calls_m3 n2 y11), (moved_calls_m1 n2 y19)]⟩ ⟨rfl, congrArg (fun a => Value.slice a _ _) ha14, rfl, (by omega), rfl, old_row hc17, rfl, rfl, rfl, rfl, rfl, trivial⟩ ?_
     refine e_seq <| g_seq <| g_seq <| g_region <| l_all 39 [o0, (oa [.at 3]), (ov (.int .i64 (y11.Lock + 16))), o0, (oa [.at 4]), oF, o0, o0, (oa [.at 3]), (ov (.int .i64 (y11.Save + 16))), o0, (oa [.at 4]), oF, o0, o0, o0, (oa [.at 3]), (ov (.int .i64 (y11.State + 16))), o0, (oa [.at 4]), oF, o0, o0, o0, (oa [.at 3]), (ov (.int .i64 (y11.Root + 1))), o0, (oa [.at 4]), oF, o0, o0, o0, (oa [.at 3]), o0, o0, (oa [.at 4]), o0, oF, o0] [2, 3, 48, 49, 6, 7, 100] [Qb n2, Value.int .i64 (IntKind.i64.wrap ((y11.Lock : Int) + 16)) = Value.int .i64 (y11.Lock + 16), Qb (n2 + 1), NF (y11.Lock + 16) y19.Lock, Qb n2, Value.int .i64 (IntKind.i64.wrap ((y11.Save : Int) + 16)) = Value.int .i64 (y11.Save + 16), Qb (n2 + 1), NF (y11.Save + 16) y19.Save, Qb n2, Value.int .i64 (IntKind.i64.wrap ((y11.State : Int) + 16)) = Value.int .i64 (y11.State + 16), Qb (n2 + 1), NF (y11.State + 16) y19.State, Qb n2, Value.int .i64 (IntKind.i64.wrap ((y11.Root : Int) + 1)) = Value.int .i64 (y11.Root + 1), Qb (n2 + 1), NF (y11.Root + 1) y19.Root, Qb n2, Qb (n2 + 1), NF ((y11.Tables.xs.length : Nat) : Int) ((y19.Tables.xs.length : Nat) : Int)] [(2, .pointer (some ⟨z, 0, none⟩)), (3, .pointer (some ⟨z + 1, 0, none⟩)), (48, .int .i64 ((la.Partitions.xs.length : Nat) : Int)), (49, .int .i64 (i : Int)), (6, .pointer (some ⟨n2, 0, none⟩)), (7, .pointer (some ⟨n2 + 1, 0, none⟩)), (100, .bool false)] ⟨w, n2 + 2, [(old0 w), (moved_calls_m6 z la), (moved_calls_m5 z lb), (moved_calls_m3 n2 y11), (moved_calls_m1 n2 y19)]⟩ ⟨rfl, congrArg (Value.int .i64) (wr_i64 (by omega) (by omega) (by omega)), rfl, nf (by omega), rfl, congrArg (Value.int .i64) (wr_i64 (by omega) (by omega) (by omega)), rfl, nf (by omega), rfl, congrArg (Value.int .i64) (wr_i64 (by omega) (by omega) (by omega)), rfl, nf (by omega), rfl, congrArg (Value.int .i64) (wr_i64 (by omega) (by omega) (by omega)), rfl, nf (by omega), rfl, rfl, nf (by omega), trivial⟩ ?_
     refine e_seq <| g_false <| g_skip <| e_seq <| g_seq <| g_region <| l_all 4 [o0, (oa [.at 3]), o0, o0] [2, 3, 48, 49, 6, 7, 103, 104] [Qb n2] [(2, .pointer (some ⟨z, 0, none⟩)), (3, .pointer (some ⟨z + 1, 0, none⟩)), (48, .int .i64 ((la.Partitions.xs.length : Nat) : Int)), (49, .int .i64 (i : Int)), (6, .pointer (some ⟨n2, 0, none⟩)), (7, .pointer (some ⟨n2 + 1, 0, none⟩)), (103, .int .i64 ((y11.Tables.xs.length : Nat) : Int)), (104, .int .i64 0)] ⟨w, n2 + 2, [(old0 w), (moved_calls_m6 z la), (moved_calls_m5 z lb), (moved_calls_m3 n2 y11), (moved_calls_m1 n2 y19)]⟩ ⟨rfl, trivial⟩ ?_
     refine e_seq <| g_block <| g_keep [2, 3, 6, 7, 48, 49, 103, 104] [(2, .pointer (some ⟨z, 0, none⟩)), (3, .pointer (some ⟨z + 1, 0, none⟩)), (6, .pointer (some ⟨n2, 0, none⟩)), (7, .pointer (some ⟨n2 + 1, 0, none⟩)), (48, .int .i64 ((la.Partitions.xs.length : Nat) : Int)), (49, .int .i64 (i : Int)), (103, .int .i64 ((y11.Tables.xs.length : Nat) : Int)), (104, .int .i64 0)] ?_
     refine g_loop (fun m a w' => ∃ (n21 : Nat) (k : Nat), m = y11.Tables.xs.length - k ∧ n2 + 2 ≤ n21 ∧ (k ≤ y11.Tables.xs.length) ∧ St 198 [(2, .pointer (some ⟨z, 0, none⟩)), (3, .pointer (some ⟨z + 1, 0, none⟩)), (6, .pointer (some ⟨n2, 0, none⟩)), (7, .pointer (some ⟨n2 + 1, 0, none⟩)), (48, .int .i64 ((la.Partitions.xs.length : Nat) : Int)), (49, .int .i64 (i : Int)), (103, .int .i64 ((y11.Tables.xs.length : Nat) : Int)), (104, .int .i64 (k : Int))] [] ⟨w, n21, [(old0 w), (moved_calls_m6 z la), (moved_calls_m5 z lb), (moved_calls_m3 n2 y11), (moved_calls_m1 n2 y19)]⟩ a w') (y11.Tables.xs.length - 0) ?_ ?_
     · intro a w' hs; exact ⟨(n2 + 2), 0, rfl, Nat.le_refl _, Nat.zero_le _, hs⟩
     · rintro m a w' ⟨n21, k, rfl, hn20, hkk, hs⟩
       refine (?_ : G Try.prog 198 [(2, .pointer (some ⟨z, 0, none⟩)), (3, .pointer (some ⟨z + 1, 0, none⟩)), (6, .pointer (some ⟨n2, 0, none⟩)), (7, .pointer (some ⟨n2 + 1, 0, none⟩)), (48, .int .i64 ((la.Partitions.xs.length : Nat) : Int)), (49, .int .i64 (i : Int)), (103, .int .i64 ((y11.Tables.xs.length : Nat) : Int)), (104, .int .i64 (k : Int))] [] ⟨w, n21, [(old0 w), (moved_calls_m6 z la), (moved_calls_m5 z lb), (moved_calls_m3 n2 y11), (moved_calls_m1 n2 y19)]⟩ _ _ _) a w' hs
       clear hs a w'
       refine g_seq ?_
       by_cases h22 : ((k : Int) : Int) < ((y11.Tables.xs.length : Nat) : Int)
       · refine g_region <| l_all 1 [oT] [2, 3, 6, 7, 48, 49, 103, 104, 105] [BT (((k : Int) : Int) < ((y11.Tables.xs.length : Nat) : Int))] [(2, .pointer (some ⟨z, 0, none⟩)), (3, .pointer (some ⟨z + 1, 0, none⟩)), (6, .pointer (some ⟨n2, 0, none⟩)), (7, .pointer (some ⟨n2 + 1, 0, none⟩)), (48, .int .i64 ((la.Partitions.xs.length : Nat) : Int)), (49, .int .i64 (i : Int)), (103, .int .i64 ((y11.Tables.xs.length : Nat) : Int)), (104, .int .i64 (k : Int)), (105, .bool true)] ⟨w, n21, [(old0 w), (moved_calls_m6 z la), (moved_calls_m5 z lb), (moved_calls_m3 n2 y11), (moved_calls_m1 n2 y19)]⟩ ⟨bt (by omega), trivial⟩ ?_
         refine e_seq <| g_seq <| g_true <| g_skip <| e_seq <| g_seq <| g_block <| g_seq <| g_region <| l_all 2 [o0, o0] [2, 3, 6, 7, 48, 49, 103, 104, 8] [] [(2, .pointer (some ⟨z, 0, none⟩)), (3, .pointer (some ⟨z + 1, 0, none⟩)), (6, .pointer (some ⟨n2, 0, none⟩)), (7, .pointer (some ⟨n2 + 1, 0, none⟩)), (48, .int .i64 ((la.Partitions.xs.length : Nat) : Int)), (49, .int .i64 (i : Int)), (103, .int .i64 ((y11.Tables.xs.length : Nat) : Int)), (104, .int .i64 (k : Int)), (8, .int .i64 (k : Int))] ⟨w, n21, [(old0 w), (moved_calls_m6 z la), (moved_calls_m5 z lb), (moved_calls_m3 n2 y11), (moved_calls_m1 n2 y19)]⟩ trivial ?_
         refine e_seq <| g_seq ?_
         obtain ⟨b23, o24, ha25, hF27, hc26⟩ := (he10.Tables).1.all (show 0 < y11.Tables.xs.length by omega)
         replace ha25 : y11.Tables.a = some ⟨b23, o24, none⟩ := ha25
         have hc28 := hc26 k (show k < y11.Tables.xs.length by omega)
         have he29 := (he10.Tables).2 k (show k < y11.Tables.xs.length by omega)
         obtain ⟨y30, hy30⟩ : ∃ y, y = gd y11.Tables.xs k := ⟨_, rfl⟩
         rw [← hy30] at he29 hc28
         obtain ⟨b31, o32, ha33, hF35, hc34⟩ := (he18.Tables).1.all (show 0 < y19.Tables.xs.length by omega)
         replace ha33 : y19.Tables.a = some ⟨b31, o32, none⟩ := ha33
         have hc36 := hc34 k (show k < y19.Tables.xs.length by omega)
         have he37 := (he18.Tables).2 k (show k < y19.Tables.xs.length by omega)
         obtain ⟨y38, hy38⟩ : ∃ y, y = gd y19.Tables.xs k := ⟨_, rfl⟩
         rw [← hy38] at he37 hc36
         have hmt := hmp.tabs k (by omega); rw [← hy30, ← hy38] at hmt
         refine g_draw 12 [0, 1, 2, 3, 4] [(old0 w), (moved_calls_m6 z la), (moved_calls_m5 z lb), (moved_calls_m3 n2 y11), (moved_calls_m1 n2 y19)] rfl rfl ?_
         refine w_take [(0, o0), (1, ⟨.auto [.at 3], some (.slice (some ⟨b23, o24, none⟩) y11.Tables.xs.length y11.Tables.cap)⟩), (2, o0), (3, (oi k)), (4, (oa [.via 0 (.int .i64 y30)])), (5, (ov (.int .i64 (y30 + 1)))), (6, o0), (7, ⟨.auto [.at 4], some (.slice (some ⟨b31, o32, none⟩) y19.Tables.xs.length y19.Tables.cap)⟩), (8, o0), (9, (oi k)), (10, (oa [.via 0 (.int .i64 y38)])), (11, oF)] [2, 3, 6, 7, 48, 49, 103, 104, 118] [Qb n2, Value.slice y11.Tables.a y11.Tables.xs.length y11.Tables.cap = Value.slice (some ⟨b23, o24, none⟩) y11.Tables.xs.length y11.Tables.cap, ((k : Int) : Int) = ((k : Nat) : Int), k < y11.Tables.xs.length, (none : Option Nat) = none, Old w b23 (o24 + k) (.int .i64 y30), Value.int .i64 (IntKind.i64.wrap ((y30 : Int) + 1)) = Value.int .i64 (y30 + 1), Qb (n2 + 1), Value.slice y19.Tables.a y19.Tables.xs.length y19.Tables.cap = Value.slice (some ⟨b31, o32, none⟩) y19.Tables.xs.length y19.Tables.cap, ((k : Int) : Int) = ((k : Nat) : Int), k < y19.Tables.xs.length, (none : Option Nat) = none, Old w b31 (o32 + k) (.int .i64 y38), NF (y30 + 1) y38] [true, true, true, true, true, true, true, true, true, true, true, true] [(2, .pointer (some ⟨z, 0, none⟩)), (3, .pointer (some ⟨z + 1, 0, none⟩)), (6, .pointer (some ⟨n2, 0, none⟩)), (7, .pointer (some ⟨n2 + 1, 0, none⟩)), (48, .int .i64 ((la.Partitions.xs.length : Nat) : Int)), (49, .int .i64 (i : Int)), (103, .int .i64 ((y11.Tables.xs.length : Nat) : Int)), (104, .int .i64 (k : Int)), (118, .bool false)] rfl (by as_aux_lemma => kernel_rfl) (by as_aux_lemma => kernel_rfl) ⟨rfl, congrArg (fun a => Value.slice a _ _) ha25, rfl, (by omega), rfl, old_cell' (hc28 0 _ rfl), congrArg (Value.int .i64) (wr_i64 (by omega) (by omega) (by omega)), rfl, congrArg (fun a => Value.slice a _ _) ha33, rfl, (by omega), rfl, old_cell' (hc36 0 _ rfl), nf (by omega), trivial⟩ ?_
         refine w_done (by as_aux_lemma => kernel_rfl) ?_
         refine e_keep [2, 3, 6, 7, 48, 49, 103, 104, 118] [(2, .pointer (some ⟨z, 0, none⟩)), (3, .pointer (some ⟨z + 1, 0, none⟩)), (6, .pointer (some ⟨n2, 0, none⟩)), (7, .pointer (some ⟨n2 + 1, 0, none⟩)), (48, .int .i64 ((la.Partitions.xs.length : Nat) : Int)), (49, .int .i64 (i : Int)), (103, .int .i64 ((y11.Tables.xs.length : Nat) : Int)), (104, .int .i64 (k : Int)), (118, .bool false)] ?_
         refine e_seq <| g_false <| g_skip <| e_blk <| e_seq <| g_region <| l_all 2 [(ov (.int .i64 ((k + 1 : Nat) : Int))), o0] [2, 3, 6, 7, 48, 49, 103, 104] [Value.int .i64 (IntKind.i64.wrap (((k : Int) : Int) + 1)) = Value.int .i64 (((k + 1 : Nat) : Int))] [(2, .pointer (some ⟨z, 0, none⟩)), (3, .pointer (some ⟨z + 1, 0, none⟩)), (6, .pointer (some ⟨n2, 0, none⟩)), (7, .pointer (some ⟨n2 + 1, 0, none⟩)), (48, .int .i64 ((la.Partitions.xs.length : Nat) : Int)), (49, .int .i64 (i : Int)), (103, .int .i64 ((y11.Tables.xs.length : Nat) : Int)), (104, .int .i64 ((k + 1 : Nat) : Int))] ⟨w, n21, [(old0 w), (moved_calls_m6 z la), (moved_calls_m5 z lb), (moved_calls_m3 n2 y11), (moved_calls_m1 n2 y19)]⟩ ⟨congrArg (Value.int .i64) (wr_i64 (by omega) (by omega) (by omega)), trivial⟩ ?_
         refine e_keep [2, 3, 6, 7, 48, 49, 103, 104] [(2, .pointer (some ⟨z, 0, none⟩)), (3, .pointer (some ⟨z + 1, 0, none⟩)), (6, .pointer (some ⟨n2, 0, none⟩)), (7, .pointer (some ⟨n2 + 1, 0, none⟩)), (48, .int .i64 ((la.Partitions.xs.length : Nat) : Int)), (49, .int .i64 (i : Int)), (103, .int .i64 ((y11.Tables.xs.length : Nat) : Int)), (104, .int .i64 ((k + 1 : Nat) : Int))] ?_
         refine e_inv (fun a w' hs => ⟨y11.Tables.xs.length - (k + 1), by omega, n21, (k + 1), rfl, by omega, by omega, hs⟩)
       · refine g_region <| l_all 1 [oF] [2, 3, 6, 7, 48, 49, 103, 104, 105] [BF (((k : Int) : Int) < ((y11.Tables.xs.length : Nat) : Int))] [(2, .pointer (some ⟨z, 0, none⟩)), (3, .pointer (some ⟨z + 1, 0, none⟩)), (6, .pointer (some ⟨n2, 0, none⟩)), (7, .pointer (some ⟨n2 + 1, 0, none⟩)), (48, .int .i64 ((la.Partitions.xs.length : Nat) : Int)), (49, .int .i64 (i : Int)), (103, .int .i64 ((y11.Tables.xs.length : Nat) : Int)), (104, .int .i64 (k : Int)), (105, .bool false)] ⟨w, n21, [(old0 w), (moved_calls_m6 z la), (moved_calls_m5 z lb), (moved_calls_m3 n2 y11), (moved_calls_m1 n2 y19)]⟩ ⟨bf (by omega), trivial⟩ ?_
         refine e_seq <| g_seq <| g_false <| g_exit <| e_out <| e_outI <| e_hit <| e_blk <| e_seq <| g_region <| l_all 2 [(ov (.int .i64 ((i + 1 : Nat) : Int))), o0] [2, 3, 48, 49] [Value.int .i64 (IntKind.i64.wrap (((i : Int) : Int) + 1)) = Value.int .i64 (((i + 1 : Nat) : Int))] [(2, .pointer (some ⟨z, 0, none⟩)), (3, .pointer (some ⟨z + 1, 0, none⟩)), (48, .int .i64 ((la.Partitions.xs.length : Nat) : Int)), (49, .int .i64 ((i + 1 : Nat) : Int))] ⟨w, n21, [(old0 w), (moved_calls_m6 z la), (moved_calls_m5 z lb), (moved_calls_m3 n2 y11), (moved_calls_m1 n2 y19)]⟩ ⟨congrArg (Value.int .i64) (wr_i64 (by omega) (by omega) (by omega)), trivial⟩ ?_
         refine e_pick [0, 1, 2] [(old0 w), (moved_calls_m6 z la), (moved_calls_m5 z lb)] rfl rfl ?_
         refine e_keep [2, 3, 48, 49] [(2, .pointer (some ⟨z, 0, none⟩)), (3, .pointer (some ⟨z + 1, 0, none⟩)), (48, .int .i64 ((la.Partitions.xs.length : Nat) : Int)), (49, .int .i64 ((i + 1 : Nat) : Int))] ?_
         refine e_inv (fun a w' hs => ⟨la.Partitions.xs.length - (i + 1), by omega, n21, (i + 1), rfl, by omega, by omega, hs⟩)
   · refine g_region <| l_all 1 [oF] [2, 3, 48, 49, 50] [BF (((i : Int) : Int) < ((la.Partitions.xs.length : Nat) : Int))] [(2, .pointer (some ⟨z, 0, none⟩)), (3, .pointer (some ⟨z + 1, 0, none⟩)), (48, .int .i64 ((la.Partitions.xs.length : Nat) : Int)), (49, .int .i64 (i : Int)), (50, .bool false)] ⟨w, n2, [(old0 w), (moved_calls_m6 z la), (moved_calls_m5 z lb)]⟩ ⟨bf (by omega), trivial⟩ ?_
     refine e_seq <| g_seq <| g_false <| g_exit <| e_out <| e_outI <| e_hit <| e_seq <| g_seq <| g_seq <| g_region <| l_all 4 [o0, (oa [.at 1]), o0, o0] [2, 3, 123, 124] [Qb z] [(2, .pointer (some ⟨z, 0, none⟩)), (3, .pointer (some ⟨z + 1, 0, none⟩)), (123, .int .i64 ((la.Channels.xs.length : Nat) : Int)), (124, .int .i64 0)] ⟨w, n2, [(old0 w), (moved_calls_m6 z la), (moved_calls_m5 z lb)]⟩ ⟨rfl, trivial⟩ ?_
     refine e_seq <| g_block <| g_loop (fun m a w' => ∃ (n40 : Nat) (j : Nat), m = la.Channels.xs.length - j ∧ n2 ≤ n40 ∧ (j ≤ la.Channels.xs.length) ∧ St 198 [(2, .pointer (some ⟨z, 0, none⟩)), (3, .pointer (some ⟨z + 1, 0, none⟩)), (123, .int .i64 ((la.Channels.xs.length : Nat) : Int)), (124, .int .i64 (j : Int))] [] ⟨w, n40, [(old0 w), (moved_calls_m6 z la), (moved_calls_m5 z lb)]⟩ a w') (la.Channels.xs.length - 0) ?_ ?_
     · intro a w' hs; exact ⟨n2, 0, rfl, Nat.le_refl _, Nat.zero_le _, hs⟩
     · rintro m a w' ⟨n40, j, rfl, hn39, hkj, hs⟩
       refine (?_ : G Try.prog 198 [(2, .pointer (some ⟨z, 0, none⟩)), (3, .pointer (some ⟨z + 1, 0, none⟩)), (123, .int .i64 ((la.Channels.xs.length : Nat) : Int)), (124, .int .i64 (j : Int))] [] ⟨w, n40, [(old0 w), (moved_calls_m6 z la), (moved_calls_m5 z lb)]⟩ _ _ _) a w' hs
       clear hs a w'
       refine g_seq ?_
       by_cases h41 : ((j : Int) : Int) < ((la.Channels.xs.length : Nat) : Int)
       · refine g_region <| l_all 1 [oT] [2, 3, 123, 124, 125] [BT (((j : Int) : Int) < ((la.Channels.xs.length : Nat) : Int))] [(2, .pointer (some ⟨z, 0, none⟩)), (3, .pointer (some ⟨z + 1, 0, none⟩)), (123, .int .i64 ((la.Channels.xs.length : Nat) : Int)), (124, .int .i64 (j : Int)), (125, .bool true)] ⟨w, n40, [(old0 w), (moved_calls_m6 z la), (moved_calls_m5 z lb)]⟩ ⟨bt (by omega), trivial⟩ ?_
         refine e_seq <| g_seq <| g_true <| g_skip <| e_seq <| g_seq <| g_block <| g_seq <| g_region <| l_all 2 [o0, o0] [2, 3, 123, 124, 9] [] [(2, .pointer (some ⟨z, 0, none⟩)), (3, .pointer (some ⟨z + 1, 0, none⟩)), (123, .int .i64 ((la.Channels.xs.length : Nat) : Int)), (124, .int .i64 (j : Int)), (9, .int .i64 (j : Int))] ⟨w, n40, [(old0 w), (moved_calls_m6 z la), (moved_calls_m5 z lb)]⟩ trivial ?_
         refine e_seq <| g_seq ?_
         obtain ⟨b42, o43, ha44, hF46, hc45⟩ := (ha.Channels).1.all (show 0 < la.Channels.xs.length by omega)
         replace ha44 : la.Channels.a = some ⟨b42, o43, none⟩ := ha44
         have hc47 := hc45 j (show j < la.Channels.xs.length by omega)
         have he48 := (ha.Channels).2 j (show j < la.Channels.xs.length by omega)
         obtain ⟨y49, hy49⟩ : ∃ y, y = gd la.Channels.xs j := ⟨_, rfl⟩
         rw [← hy49] at he48 hc47
         have hdln := he48.Dests.1.len
         refine g_region <| l_all 7 [o0, ⟨.auto [.at 1], some (.slice (some ⟨b42, o43, none⟩) la.Channels.xs.length la.Channels.cap)⟩, o0, (oi j), (ol 0 (TChannelPlace.arr y49)), o0, (oa [.at 3, .at 3, .at 3, .at 3, .at 3])] [2, 3, 123, 124, 9, 10] [Qb z, Value.slice la.Channels.a la.Channels.xs.length la.Channels.cap = Value.slice (some ⟨b42, o43, none⟩) la.Channels.xs.length la.Channels.cap, ((j : Int) : Int) = ((j : Nat) : Int), j < la.Channels.xs.length, (none : Option Nat) = none, OldR w b42 (o43 + j * 5) (TChannelPlace.arr y49), Qb n40, Qb n40, Qb n40, Qb n40, Qb n40] [(2, .pointer (some ⟨z, 0, none⟩)), (3, .pointer (some ⟨z + 1, 0, none⟩)), (123, .int .i64 ((la.Channels.xs.length : Nat) : Int)), (124, .int .i64 (j : Int)), (9, .int .i64 (j : Int)), (10, .pointer (some ⟨n40, 0, none⟩))] ⟨w, n40 + 1, [(old0 w), (moved_calls_m6 z la), (moved_calls_m5 z lb), (moved_calls_m4 n40 y49)]⟩ ⟨rfl, congrArg (fun a => Value.slice a _ _) ha44, rfl, (by omega), rfl, old_row hc47, rfl, rfl, rfl, rfl, rfl, trivial⟩ ?_
         refine e_seq <| g_seq ?_
         obtain ⟨b50, o51, ha52, hF54, hc53⟩ := (hb.Channels).1.all (show 0 < lb.Channels.xs.length by omega)
         replace ha52 : lb.Channels.a = some ⟨b50, o51, none⟩ := ha52
         have hc55 := hc53 j (show j < lb.Channels.xs.length by omega)
         have he56 := (hb.Channels).2 j (show j < lb.Channels.xs.length by omega)
         obtain ⟨y57, hy57⟩ : ∃ y, y = gd lb.Channels.xs j := ⟨_, rfl⟩
         rw [← hy57] at he56 hc55
         have hmc := hM.cs j (by omega); rw [← hy49, ← hy57] at hmc; have hn1 := hmc.nums; have hn2 := hmc.dl
         refine g_region <| l_all 7 [o0, ⟨.auto [.at 2], some (.slice (some ⟨b50, o51, none⟩) lb.Channels.xs.length lb.Channels.cap)⟩, o0, (oi j), (ol 0 (TChannelPlace.arr y57)), o0, (oa [.at 4, .at 4, .at 4, .at 4, .at 4])] [2, 3, 123, 124, 10, 11] [Qb (z + 1), Value.slice lb.Channels.a lb.Channels.xs.length lb.Channels.cap = Value.slice (some ⟨b50, o51, none⟩) lb.Channels.xs.length lb.Channels.cap, ((j : Int) : Int) = ((j : Nat) : Int), j < lb.Channels.xs.length, (none : Option Nat) = none, OldR w b50 (o51 + j * 5) (TChannelPlace.arr y57), Qb (n40 + 1), Qb (n40 + 1), Qb (n40 + 1), Qb (n40 + 1), Qb (n40 + 1)] [(2, .pointer (some ⟨z, 0, none⟩)), (3, .pointer (some ⟨z + 1, 0, none⟩)), (123, .int .i64 ((la.Channels.xs.length : Nat) : Int)), (124, .int .i64 (j : Int)), (10, .pointer (some ⟨n40, 0, none⟩)), (11, .pointer (some ⟨n40 + 1, 0, none⟩))] ⟨w, n40 + 2, [(old0 w), (moved_calls_m6 z la), (moved_calls_m5 z lb), (moved_calls_m4 n40 y49), (moved_calls_m2 n40 y57)]⟩ ⟨rfl, congrArg (fun a => Value.slice a _ _) ha52, rfl, (by omega), rfl, old_row hc55, rfl, rfl, rfl, rfl, rfl, trivial⟩ ?_
         refine e_seq <| g_seq <| g_seq <| g_region <| l_all 37 [o0, (oa [.at 3]), (ov (.int .i64 (y49.Lock + 16))), o0, (oa [.at 4]), oF, o0, o0, (oa [.at 3]), (ov (.int .i64 (y49.Stage + 16))), o0, (oa [.at 4]), oF, o0, o0, o0, (oa [.at 3]), o0, (oa [.at 4]), oF, o0, o0, o0, (oa [.at 3]), o0, (oa [.at 4]), oF, o0, o0, o0, (oa [.at 3]), o0, o0, (oa [.at 4]), o0, oF, o0] [2, 3, 123, 124, 10, 11, 173] [Qb n40, Value.int .i64 (IntKind.i64.wrap ((y49.Lock : Int) + 16)) = Value.int .i64 (y49.Lock + 16), Qb (n40 + 1), NF (y49.Lock + 16) y57.Lock, Qb n40, Value.int .i64 (IntKind.i64.wrap ((y49.Stage : Int) + 16)) = Value.int .i64 (y49.Stage + 16), Qb (n40 + 1), NF (y49.Stage + 16) y57.Stage, Qb n40, Qb (n40 + 1), NF y49.Partition y57.Partition, Qb n40, Qb (n40 + 1), NF y49.Port y57.Port, Qb n40, Qb (n40 + 1), NF ((y49.Dests.xs.length : Nat) : Int) ((y57.Dests.xs.length : Nat) : Int)] [(2, .pointer (some ⟨z, 0, none⟩)), (3, .pointer (some ⟨z + 1, 0, none⟩)), (123, .int .i64 ((la.Channels.xs.length : Nat) : Int)), (124, .int .i64 (j : Int)), (10, .pointer (some ⟨n40, 0, none⟩)), (11, .pointer (some ⟨n40 + 1, 0, none⟩)), (173, .bool false)] ⟨w, n40 + 2, [(old0 w), (moved_calls_m6 z la), (moved_calls_m5 z lb), (moved_calls_m4 n40 y49), (moved_calls_m2 n40 y57)]⟩ ⟨rfl, congrArg (Value.int .i64) (wr_i64 (by omega) (by omega) (by omega)), rfl, nf (by omega), rfl, congrArg (Value.int .i64) (wr_i64 (by omega) (by omega) (by omega)), rfl, nf (by omega), rfl, rfl, nf (by omega), rfl, rfl, nf (by omega), rfl, rfl, nf (by omega), trivial⟩ ?_
         refine e_seq <| g_false <| g_skip <| e_seq <| g_seq <| g_region <| l_all 4 [o0, (oa [.at 3]), o0, o0] [2, 3, 123, 124, 10, 11, 176, 177] [Qb n40] [(2, .pointer (some ⟨z, 0, none⟩)), (3, .pointer (some ⟨z + 1, 0, none⟩)), (123, .int .i64 ((la.Channels.xs.length : Nat) : Int)), (124, .int .i64 (j : Int)), (10, .pointer (some ⟨n40, 0, none⟩)), (11, .pointer (some ⟨n40 + 1, 0, none⟩)), (176, .int .i64 ((y49.Dests.xs.length : Nat) : Int)), (177, .int .i64 0)] ⟨w, n40 + 2, [(old0 w), (moved_calls_m6 z la), (moved_calls_m5 z lb), (moved_calls_m4 n40 y49), (moved_calls_m2 n40 y57)]⟩ ⟨rfl, trivial⟩ ?_
         refine e_seq <| g_block <| g_keep [2, 3, 10, 11, 123, 124, 176, 177] [(2, .pointer (some ⟨z, 0, none⟩)), (3, .pointer (some ⟨z + 1, 0, none⟩)), (10, .pointer (some ⟨n40, 0, none⟩)), (11, .pointer (some ⟨n40 + 1, 0, none⟩)), (123, .int .i64 ((la.Channels.xs.length : Nat) : Int)), (124, .int .i64 (j : Int)), (176, .int .i64 ((y49.Dests.xs.length : Nat) : Int)), (177, .int .i64 0)] ?_
         refine g_loop (fun m a w' => ∃ (n59 : Nat) (k : Nat), m = y49.Dests.xs.length - k ∧ n40 + 2 ≤ n59 ∧ (k ≤ y49.Dests.xs.length) ∧ St 198 [(2, .pointer (some ⟨z, 0, none⟩)), (3, .pointer (some ⟨z + 1, 0, none⟩)), (10, .pointer (some ⟨n40, 0, none⟩)), (11, .pointer (some ⟨n40 + 1, 0, none⟩)), (123, .int .i64 ((la.Channels.xs.length : Nat) : Int)), (124, .int .i64 (j : Int)), (176, .int .i64 ((y49.Dests.xs.length : Nat) : Int)), (177, .int .i64 (k : Int))] [] ⟨w, n59, [(old0 w), (moved_calls_m6 z la), (moved_calls_m5 z lb), (moved_calls_m4 n40 y49), (moved_calls_m2 n40 y57)]⟩ a w') (y49.Dests.xs.length - 0) ?_ ?_
         · intro a w' hs; exact ⟨(n40 + 2), 0, rfl, Nat.le_refl _, Nat.zero_le _, hs⟩
         · rintro m a w' ⟨n59, k, rfl, hn58, hkk, hs⟩
           refine (?_ : G Try.prog 198 [(2, .pointer (some ⟨z, 0, none⟩)), (3, .pointer (some ⟨z + 1, 0, none⟩)), (10, .pointer (some ⟨n40, 0, none⟩)), (11, .pointer (some ⟨n40 + 1, 0, none⟩)), (123, .int .i64 ((la.Channels.xs.length : Nat) : Int)), (124, .int .i64 (j : Int)), (176, .int .i64 ((y49.Dests.xs.length : Nat) : Int)), (177, .int .i64 (k : Int))] [] ⟨w, n59, [(old0 w), (moved_calls_m6 z la), (moved_calls_m5 z lb), (moved_calls_m4 n40 y49), (moved_calls_m2 n40 y57)]⟩ _ _ _) a w' hs
           clear hs a w'
           refine g_seq ?_
           by_cases h60 : ((k : Int) : Int) < ((y49.Dests.xs.length : Nat) : Int)
           · refine g_region <| l_all 1 [oT] [2, 3, 10, 11, 123, 124, 176, 177, 178] [BT (((k : Int) : Int) < ((y49.Dests.xs.length : Nat) : Int))] [(2, .pointer (some ⟨z, 0, none⟩)), (3, .pointer (some ⟨z + 1, 0, none⟩)), (10, .pointer (some ⟨n40, 0, none⟩)), (11, .pointer (some ⟨n40 + 1, 0, none⟩)), (123, .int .i64 ((la.Channels.xs.length : Nat) : Int)), (124, .int .i64 (j : Int)), (176, .int .i64 ((y49.Dests.xs.length : Nat) : Int)), (177, .int .i64 (k : Int)), (178, .bool true)] ⟨w, n59, [(old0 w), (moved_calls_m6 z la), (moved_calls_m5 z lb), (moved_calls_m4 n40 y49), (moved_calls_m2 n40 y57)]⟩ ⟨bt (by omega), trivial⟩ ?_
             refine e_seq <| g_seq <| g_true <| g_skip <| e_seq <| g_seq <| g_block <| g_seq <| g_region <| l_all 2 [o0, o0] [2, 3, 10, 11, 123, 124, 176, 177, 12] [] [(2, .pointer (some ⟨z, 0, none⟩)), (3, .pointer (some ⟨z + 1, 0, none⟩)), (10, .pointer (some ⟨n40, 0, none⟩)), (11, .pointer (some ⟨n40 + 1, 0, none⟩)), (123, .int .i64 ((la.Channels.xs.length : Nat) : Int)), (124, .int .i64 (j : Int)), (176, .int .i64 ((y49.Dests.xs.length : Nat) : Int)), (177, .int .i64 (k : Int)), (12, .int .i64 (k : Int))] ⟨w, n59, [(old0 w), (moved_calls_m6 z la), (moved_calls_m5 z lb), (moved_calls_m4 n40 y49), (moved_calls_m2 n40 y57)]⟩ trivial ?_
             refine e_seq <| g_seq ?_
             obtain ⟨b61, o62, ha63, hF65, hc64⟩ := (he48.Dests).1.all (show 0 < y49.Dests.xs.length by omega)
             replace ha63 : y49.Dests.a = some ⟨b61, o62, none⟩ := ha63
             have hc66 := hc64 k (show k < y49.Dests.xs.length by omega)
             have he67 := (he48.Dests).2 k (show k < y49.Dests.xs.length by omega)
             obtain ⟨y68, hy68⟩ : ∃ y, y = gd y49.Dests.xs k := ⟨_, rfl⟩
             rw [← hy68] at he67 hc66
             have hmd0 := hmc.ds k (by omega); rw [← hy68] at hmd0
             refine g_region <| l_all 7 [o0, ⟨.auto [.at 3], some (.slice (some ⟨b61, o62, none⟩) y49.Dests.xs.length y49.Dests.cap)⟩, o0, (oi k), (ol 0 (TDestPlace.arr y68)), o0, (oa [.at 5, .at 5, .at 5])] [2, 3, 10, 11, 123, 124, 176, 177, 12, 13] [Qb n40, Value.slice y49.Dests.a y49.Dests.xs.length y49.Dests.cap = Value.slice (some ⟨b61, o62, none⟩) y49.Dests.xs.length y49.Dests.cap, ((k : Int) : Int) = ((k : Nat) : Int), k < y49.Dests.xs.length, (none : Option Nat) = none, OldR w b61 (o62 + k * 3) (TDestPlace.arr y68), Qb n59, Qb n59, Qb n59] [(2, .pointer (some ⟨z, 0, none⟩)), (3, .pointer (some ⟨z + 1, 0, none⟩)), (10, .pointer (some ⟨n40, 0, none⟩)), (11, .pointer (some ⟨n40 + 1, 0, none⟩)), (123, .int .i64 ((la.Channels.xs.length : Nat) : Int)), (124, .int .i64 (j : Int)), (176, .int .i64 ((y49.Dests.xs.length : Nat) : Int)), (177, .int .i64 (k : Int)), (12, .int .i64 (k : Int)), (13, .pointer (some ⟨n59, 0, none⟩))] ⟨w, n59 + 1, [(old0 w), (moved_calls_m6 z la), (moved_calls_m5 z lb), (moved_calls_m4 n40 y49), (moved_calls_m2 n40 y57), (.blk n59 (.cells (TDestPlace.arr y68) 47 (0, 0)) true)]⟩ ⟨rfl, congrArg (fun a => Value.slice a _ _) ha63, rfl, (by omega), rfl, old_row hc66, rfl, rfl, rfl, trivial⟩ ?_
             refine e_seq <| g_seq <| g_region <| l_all 5 [o0, (oa [.at 5]), (ov (.int .i64 (y68.At + 16))), o0, (oa [.at 5])] [2, 3, 10, 11, 123, 124, 176, 177, 12, 13] [Qb n59, Value.int .i64 (IntKind.i64.wrap ((y68.At : Int) + 16)) = Value.int .i64 (y68.At + 16), Qb n59] [(2, .pointer (some ⟨z, 0, none⟩)), (3, .pointer (some ⟨z + 1, 0, none⟩)), (10, .pointer (some ⟨n40, 0, none⟩)), (11, .pointer (some ⟨n40 + 1, 0, none⟩)), (123, .int .i64 ((la.Channels.xs.length : Nat) : Int)), (124, .int .i64 (j : Int)), (176, .int .i64 ((y49.Dests.xs.length : Nat) : Int)), (177, .int .i64 (k : Int)), (12, .int .i64 (k : Int)), (13, .pointer (some ⟨n59, 0, none⟩))] ⟨w, n59 + 1, [(old0 w), (moved_calls_m6 z la), (moved_calls_m5 z lb), (moved_calls_m4 n40 y49), (moved_calls_m2 n40 y57), (moved_calls_m0 n59 y68)]⟩ ⟨rfl, congrArg (Value.int .i64) (wr_i64 (by omega) (by omega) (by omega)), rfl, trivial⟩ ?_
             refine e_seq <| g_seq ?_
             obtain ⟨b69, o70, ha71, hF73, hc72⟩ := (he56.Dests).1.all (show 0 < y57.Dests.xs.length by omega)
             replace ha71 : y57.Dests.a = some ⟨b69, o70, none⟩ := ha71
             have hc74 := hc72 k (show k < y57.Dests.xs.length by omega)
             have he75 := (he56.Dests).2 k (show k < y57.Dests.xs.length by omega)
             obtain ⟨y76, hy76⟩ : ∃ y, y = gd y57.Dests.xs k := ⟨_, rfl⟩
             rw [← hy76] at he75 hc74
             have hmd := hmc.ds k (by omega); rw [← hy68, ← hy76] at hmd
             refine g_draw 7 [0, 1, 2, 3, 4, 5] [(old0 w), (moved_calls_m6 z la), (moved_calls_m5 z lb), (moved_calls_m4 n40 y49), (moved_calls_m2 n40 y57), (moved_calls_m0 n59 y68)] rfl rfl ?_
             refine w_take [(0, (oa [.at 5, .at 5, .at 5])), (1, o0), (2, ⟨.auto [.at 4], some (.slice (some ⟨b69, o70, none⟩) y57.Dests.xs.length y57.Dests.cap)⟩), (3, o0), (4, (oi k)), (5, (ol 0 (TDestPlace.arr y76))), (6, ⟨.seq true, none⟩)] [2, 3, 10, 11, 123, 124, 176, 177, 195] [Qb n59, Qb n59, Qb n59, Qb (n40 + 1), Value.slice y57.Dests.a y57.Dests.xs.length y57.Dests.cap = Value.slice (some ⟨b69, o70, none⟩) y57.Dests.xs.length y57.Dests.cap, ((k : Int) : Int) = ((k : Nat) : Int), k < y57.Dests.xs.length, (none : Option Nat) = none, OldR w b69 (o70 + k * 3) (TDestPlace.arr y76), ((y68.Partition : Int) == (y76.Partition : Int) && ((y68.Port : Int) == (y76.Port : Int) && ((y68.At + 16 : Int) == (y76.At : Int) && true))) = true] [true, true, true, true, true, true, true] [(2, .pointer (some ⟨z, 0, none⟩)), (3, .pointer (some ⟨z + 1, 0, none⟩)), (10, .pointer (some ⟨n40, 0, none⟩)), (11, .pointer (some ⟨n40 + 1, 0, none⟩)), (123, .int .i64 ((la.Channels.xs.length : Nat) : Int)), (124, .int .i64 (j : Int)), (176, .int .i64 ((y49.Dests.xs.length : Nat) : Int)), (177, .int .i64 (k : Int)), (195, .bool false)] rfl (by as_aux_lemma => kernel_rfl) (by as_aux_lemma => kernel_rfl) ⟨rfl, rfl, rfl, rfl, congrArg (fun a => Value.slice a _ _) ha71, rfl, (by omega), rfl, old_row hc74, (by simp only [Bool.and_true, Bool.and_eq_true, beq_iff_eq]; omega), trivial⟩ ?_
             refine w_done (by as_aux_lemma => kernel_rfl) ?_
             refine e_keep [2, 3, 10, 11, 123, 124, 176, 177, 195] [(2, .pointer (some ⟨z, 0, none⟩)), (3, .pointer (some ⟨z + 1, 0, none⟩)), (10, .pointer (some ⟨n40, 0, none⟩)), (11, .pointer (some ⟨n40 + 1, 0, none⟩)), (123, .int .i64 ((la.Channels.xs.length : Nat) : Int)), (124, .int .i64 (j : Int)), (176, .int .i64 ((y49.Dests.xs.length : Nat) : Int)), (177, .int .i64 (k : Int)), (195, .bool false)] ?_
             refine e_seq <| g_false <| g_skip <| e_blk <| e_seq <| g_region <| l_all 2 [(ov (.int .i64 ((k + 1 : Nat) : Int))), o0] [2, 3, 10, 11, 123, 124, 176, 177] [Value.int .i64 (IntKind.i64.wrap (((k : Int) : Int) + 1)) = Value.int .i64 (((k + 1 : Nat) : Int))] [(2, .pointer (some ⟨z, 0, none⟩)), (3, .pointer (some ⟨z + 1, 0, none⟩)), (10, .pointer (some ⟨n40, 0, none⟩)), (11, .pointer (some ⟨n40 + 1, 0, none⟩)), (123, .int .i64 ((la.Channels.xs.length : Nat) : Int)), (124, .int .i64 (j : Int)), (176, .int .i64 ((y49.Dests.xs.length : Nat) : Int)), (177, .int .i64 ((k + 1 : Nat) : Int))] ⟨w, n59 + 1, [(old0 w), (moved_calls_m6 z la), (moved_calls_m5 z lb), (moved_calls_m4 n40 y49), (moved_calls_m2 n40 y57), (moved_calls_m0 n59 y68)]⟩ ⟨congrArg (Value.int .i64) (wr_i64 (by omega) (by omega) (by omega)), trivial⟩ ?_
             refine e_pick [0, 1, 2, 3, 4] [(old0 w), (moved_calls_m6 z la), (moved_calls_m5 z lb), (moved_calls_m4 n40 y49), (moved_calls_m2 n40 y57)] rfl rfl ?_
             refine e_keep [2, 3, 10, 11, 123, 124, 176, 177] [(2, .pointer (some ⟨z, 0, none⟩)), (3, .pointer (some ⟨z + 1, 0, none⟩)), (10, .pointer (some ⟨n40, 0, none⟩)), (11, .pointer (some ⟨n40 + 1, 0, none⟩)), (123, .int .i64 ((la.Channels.xs.length : Nat) : Int)), (124, .int .i64 (j : Int)), (176, .int .i64 ((y49.Dests.xs.length : Nat) : Int)), (177, .int .i64 ((k + 1 : Nat) : Int))] ?_
             refine e_inv (fun a w' hs => ⟨y49.Dests.xs.length - (k + 1), by omega, (n59 + 1), (k + 1), rfl, by omega, by omega, hs⟩)
           · refine g_region <| l_all 1 [oF] [2, 3, 10, 11, 123, 124, 176, 177, 178] [BF (((k : Int) : Int) < ((y49.Dests.xs.length : Nat) : Int))] [(2, .pointer (some ⟨z, 0, none⟩)), (3, .pointer (some ⟨z + 1, 0, none⟩)), (10, .pointer (some ⟨n40, 0, none⟩)), (11, .pointer (some ⟨n40 + 1, 0, none⟩)), (123, .int .i64 ((la.Channels.xs.length : Nat) : Int)), (124, .int .i64 (j : Int)), (176, .int .i64 ((y49.Dests.xs.length : Nat) : Int)), (177, .int .i64 (k : Int)), (178, .bool false)] ⟨w, n59, [(old0 w), (moved_calls_m6 z la), (moved_calls_m5 z lb), (moved_calls_m4 n40 y49), (moved_calls_m2 n40 y57)]⟩ ⟨bf (by omega), trivial⟩ ?_
             refine e_seq <| g_seq <| g_false <| g_exit <| e_out <| e_outI <| e_hit <| e_blk <| e_seq <| g_region <| l_all 2 [(ov (.int .i64 ((j + 1 : Nat) : Int))), o0] [2, 3, 123, 124] [Value.int .i64 (IntKind.i64.wrap (((j : Int) : Int) + 1)) = Value.int .i64 (((j + 1 : Nat) : Int))] [(2, .pointer (some ⟨z, 0, none⟩)), (3, .pointer (some ⟨z + 1, 0, none⟩)), (123, .int .i64 ((la.Channels.xs.length : Nat) : Int)), (124, .int .i64 ((j + 1 : Nat) : Int))] ⟨w, n59, [(old0 w), (moved_calls_m6 z la), (moved_calls_m5 z lb), (moved_calls_m4 n40 y49), (moved_calls_m2 n40 y57)]⟩ ⟨congrArg (Value.int .i64) (wr_i64 (by omega) (by omega) (by omega)), trivial⟩ ?_
             refine e_pick [0, 1, 2] [(old0 w), (moved_calls_m6 z la), (moved_calls_m5 z lb)] rfl rfl ?_
             refine e_keep [2, 3, 123, 124] [(2, .pointer (some ⟨z, 0, none⟩)), (3, .pointer (some ⟨z + 1, 0, none⟩)), (123, .int .i64 ((la.Channels.xs.length : Nat) : Int)), (124, .int .i64 ((j + 1 : Nat) : Int))] ?_
             refine e_inv (fun a w' hs => ⟨la.Channels.xs.length - (j + 1), by omega, n59, (j + 1), rfl, by omega, by omega, hs⟩)
       · refine g_region <| l_all 1 [oF] [2, 3, 123, 124, 125] [BF (((j : Int) : Int) < ((la.Channels.xs.length : Nat) : Int))] [(2, .pointer (some ⟨z, 0, none⟩)), (3, .pointer (some ⟨z + 1, 0, none⟩)), (123, .int .i64 ((la.Channels.xs.length : Nat) : Int)), (124, .int .i64 (j : Int)), (125, .bool false)] ⟨w, n40, [(old0 w), (moved_calls_m6 z la), (moved_calls_m5 z lb)]⟩ ⟨bf (by omega), trivial⟩ ?_
         refine e_seq <| g_seq <| g_false <| g_exit <| e_out <| e_outI <| e_hit <| e_seq <| g_seq <| g_region <| l_all 1 [o0] [4] [] [(4, .bool true)] ⟨w, n40, [(old0 w), (moved_calls_m6 z la), (moved_calls_m5 z lb)]⟩ trivial ?_
         refine e_seq <| g_ret <| e_ret [] [] (.bool true) trivial ?_
         intro w77 hw77
         exact ⟨rfl, hw77.back rfl (show w.heap.size ≤ n40 by omega) (List.mem_cons_self ..)⟩

end Go.Proofs.Ytpoeaajkgblkmaa.Ly
