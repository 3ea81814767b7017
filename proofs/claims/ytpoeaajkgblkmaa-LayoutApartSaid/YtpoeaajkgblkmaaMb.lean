/- layout: owned, ownedPartition, ownedChannel. No conditions. -/
import Derived.Test.YtpoeaajkgblkmaaMa
namespace Go.Proofs.Ytpoeaajkgblkmaa.Ly
open Go Go.Proofs.Ytpoeaajkgblkmaa.Eng Go.Proofs.Ytpoeaajkgblkmaa.Mem
set_option linter.unusedSimpArgs false
set_option linter.unusedVariables false
set_option maxRecDepth 100000

theorem owner_in (w : World) (c : TConfig) (a sz : Int) (want : TOwner) (x : Int) (hc : TConfig.ok Any w c) (hfit : fitsB c = true) (hy : (⟨a, sz, want⟩ : TPiece) ∈ piecesOf c) (h1 : a ≤ x) (h2 : x < a + sz) (hx : InK .i64 x) : Calls Try.prog 23 #[.agg (TConfig.arr c), .int .i64 x] w fun e w' => e = .returned (.tuple #[.agg (TOwner.arr want), .int .i64 0]) ∧ Keeps (fun _ => False) w w' := by
  have h := own_piece hfit hy h1 h2
  have := owner_calls w c x hx hc
  rwa [h.1, h.2] at this
theorem owner_at (w : World) (c : TConfig) (x : Int) (hc : TConfig.ok Any w c) (hfit : fitsB c = true) (h1 : 16 * c.Kernel ≤ x) (h2 : x < 16 * tAt c c.Partitions.xs.length) (hx : InK .i64 x) : Calls Try.prog 23 #[.agg (TConfig.arr c), .int .i64 x] w fun e w' => e = .returned (.tuple #[.agg (TOwner.arr (ownR c x)), .int .i64 0]) ∧ Keeps (fun _ => False) w w' := by
  have := owner_calls w c x hx hc
  rwa [(own_in hfit h1 h2).2] at this
theorem mem_bar {c : TConfig} {a : Int} (h : a = 16 * c.Kernel) : (⟨a, 2, ⟨2, 0, 0⟩⟩ : TPiece) ∈ piecesOf c := by
  subst h; unfold piecesOf pcP; simp
theorem mem_part {c : TConfig} {i : Nat} (hi : i < c.Partitions.xs.length) {y : TPiece} (h : y ∈ pcPart c i) : y ∈ piecesOf c := by
  unfold piecesOf pcP
  simp only [List.mem_append, List.mem_flatMap, List.mem_range]
  exact .inl (.inl (.inr ⟨i, hi, h⟩))
theorem mem_chan {c : TConfig} {k : Nat} (hk : k < c.Channels.xs.length) {y : TPiece} (h : y ∈ pcChan c k) : y ∈ piecesOf c := by
  unfold piecesOf pcC
  simp only [List.mem_append, List.mem_flatMap, List.mem_range]
  exact .inl (.inr ⟨k, hk, h⟩)
theorem mem_3 {c : TConfig} {i : Nat} (hi : i < c.Partitions.xs.length) {a : Int} (h : a = pAt c i) : (⟨a, 2, ⟨3, (i : Int), 0⟩⟩ : TPiece) ∈ piecesOf c := mem_part hi (by subst h; simp [pcPart])
theorem mem_4 {c : TConfig} {i : Nat} (hi : i < c.Partitions.xs.length) {a : Int} (h : a = pAt c i + 2) : (⟨a, 17, ⟨4, (i : Int), 0⟩⟩ : TPiece) ∈ piecesOf c := mem_part hi (by subst h; simp [pcPart])
theorem mem_5 {c : TConfig} {i : Nat} (hi : i < c.Partitions.xs.length) {a : Int} (h : a = pAt c i + 2 + 17) : (⟨a, 5, ⟨5, (i : Int), 0⟩⟩ : TPiece) ∈ piecesOf c := mem_part hi (by subst h; simp [pcPart])
theorem mem_9 {c : TConfig} {i : Nat} (hi : i < c.Partitions.xs.length) (u : Nat) {a : Int} (h : a = 16 * (tAt c i + (u : Int))) (hu : u < 1 + tabsN (gd c.Partitions.xs i)) : (⟨a, 16, ⟨9, (i : Int), 0⟩⟩ : TPiece) ∈ piecesOf c := by
  subst h
  unfold piecesOf pcT pcTabs
  simp only [List.mem_append, List.mem_flatMap, List.mem_range, List.mem_map]
  exact .inr ⟨i, hi, u, hu, rfl⟩
theorem mem_6 {c : TConfig} {k : Nat} (hk : k < c.Channels.xs.length) {a : Int} (h : a = cAt c k) : (⟨a, 2, ⟨6, (k : Int), 0⟩⟩ : TPiece) ∈ piecesOf c := mem_chan hk (by subst h; simp [pcChan])
theorem mem_7 {c : TConfig} {k : Nat} (hk : k < c.Channels.xs.length) {a : Int} {h : TChannel} (e : a = cAt c k + 2) (eh : h = gd c.Channels.xs k) : (⟨a, stageOf h, ⟨7, (k : Int), 0⟩⟩ : TPiece) ∈ piecesOf c := mem_chan hk (by subst e; subst eh; simp [pcChan])
theorem mem_8 {c : TConfig} {k j : Nat} (hk : k < c.Channels.xs.length) (hj : j < nDest c k) {d : TDestPlace} {h : TChannel} (e : d = destAt c k j) (eh : h = gd c.Channels.xs k) : (⟨d.At, portOf h, ⟨8, d.Partition, d.Port⟩⟩ : TPiece) ∈ piecesOf c := mem_chan hk (by
  rw [← dest_is e eh]
  unfold pcChan pcDests
  simp only [List.mem_append, List.mem_map, List.mem_range]
  exact .inr ⟨j, hj, rfl⟩)
def PlaceP (c : TConfig) (i : Nat) (y : TPartitionPlace) : Prop := y.Lock = pAt c i ∧ y.Save = pAt c i + 2 ∧ y.State = pAt c i + 2 + 17 ∧ y.Root = tAt c i ∧ y.Tables.xs.length = tabsN (gd c.Partitions.xs i) ∧ ∀ k, k < tabsN (gd c.Partitions.xs i) → gd y.Tables.xs k = tAt c i + 1 + (k : Int)
def PlaceC (c : TConfig) (k : Nat) (y : TChannelPlace) : Prop := y.Lock = cAt c k ∧ y.Stage = cAt c k + 2 ∧ y.Dests.xs.length = nDest c k ∧ ∀ j, j < nDest c k → gd y.Dests.xs j = destAt c k j
abbrev qf4s_0 (z : Nat) (want : TOwner) : Ch := .blk (z + 1) (.cells (TOwner.arr want) 54 (0, 0)) true
abbrev qf4s_1 (z : Nat) (c : TConfig) : Ch := .blk z (.cells (TConfig.arr c) 30 (0, 0)) true
abbrev qf4s_2 (w : World) (z : Nat) (c : TConfig) (want : TOwner) (w5 : World) : List Ch := [(old0 w), (qf4s_1 z c), (qf4s_0 z want), (.blk w5.heap.size (.cells (TOwner.arr want) 54 (0, 0)) true)]
theorem owned_calls (w : World) (c : TConfig) (at_ sz : Int) (want : TOwner) (hc : TConfig.ok Any w c) (hfit : fitsB c = true) (hm : (⟨at_, sz, want⟩ : TPiece) ∈ piecesOf c) : Calls Try.prog 27 #[.agg (TConfig.arr c), .int .i64 at_, .int .i64 sz, .agg (TOwner.arr want)] w fun e w' => e = .returned (.bool true) ∧ Keeps (fun _ => False) w w' := by
 obtain ⟨z, hz⟩ : ∃ z, z = w.heap.size := ⟨_, rfl⟩
 refine calls_G (args := [.agg (TConfig.arr c), .int .i64 at_, .int .i64 sz, .agg (TOwner.arr want)]) 32 ⟨w, z, [(old0 w)]⟩ Try.func27 rfl (by kernel_rfl) (by kernel_rfl) (sat_0 hz) ?_
 have hpc := pc_mem (fine_of (fits_is hfit).1) _ hm; unfold PcOk at hpc; simp only at hpc
 refine g_keep [0, 1, 2, 3] [(0, .agg (TConfig.arr c)), (1, .int .i64 at_), (2, .int .i64 sz), (3, .agg (TOwner.arr want))] ?_
 refine g_seq <| g_region <| l_all 3 [o0, o0, o0] [1, 2, 4, 7] [] [(1, .int .i64 at_), (2, .int .i64 sz), (4, .pointer (some ⟨z, 0, none⟩)), (7, .pointer (some ⟨z + 1, 0, none⟩))] ⟨w, z + 2, [(old0 w), (qf4s_1 z c), (qf4s_0 z want)]⟩ trivial ?_
 refine e_seq <| g_seq <| g_seq <| g_region <| l_all 2 [o0, o0] [1, 4, 7, 12, 13] [] [(1, .int .i64 at_), (4, .pointer (some ⟨z, 0, none⟩)), (7, .pointer (some ⟨z + 1, 0, none⟩)), (12, .int .i64 sz), (13, .int .i64 0)] ⟨w, z + 2, [(old0 w), (qf4s_1 z c), (qf4s_0 z want)]⟩ trivial ?_
 refine e_seq <| g_block <| g_loop (fun m a w' => ∃ (n2 : Nat) (k : Nat), m = sz.toNat - k ∧ z + 2 ≤ n2 ∧ (k ≤ sz.toNat) ∧ St 32 [(1, .int .i64 at_), (4, .pointer (some ⟨z, 0, none⟩)), (7, .pointer (some ⟨z + 1, 0, none⟩)), (12, .int .i64 sz), (13, .int .i64 (k : Int))] [] ⟨w, n2, [(old0 w), (qf4s_1 z c), (qf4s_0 z want)]⟩ a w') (sz.toNat - 0) ?_ ?_
 · intro a w' hs; exact ⟨(z + 2), 0, rfl, Nat.le_refl _, Nat.zero_le _, hs⟩
 · rintro m a w' ⟨n2, k, rfl, hn1, hkk, hs⟩
   refine (?_ : G Try.prog 32 [(1, .int .i64 at_), (4, .pointer (some ⟨z, 0, none⟩)), (7, .pointer (some ⟨z + 1, 0, none⟩)), (12, .int .i64 sz), (13, .int .i64 (k : Int))] [] ⟨w, n2, [(old0 w), (qf4s_1 z c), (qf4s_0 z want)]⟩ _ _ _) a w' hs
   clear hs a w'
   refine g_seq ?_
   by_cases h3 : ((k : Int) : Int) < sz
   · refine g_region <| l_all 1 [oT] [1, 4, 7, 12, 13, 14] [BT (((k : Int) : Int) < sz)] [(1, .int .i64 at_), (4, .pointer (some ⟨z, 0, none⟩)), (7, .pointer (some ⟨z + 1, 0, none⟩)), (12, .int .i64 sz), (13, .int .i64 (k : Int)), (14, .bool true)] ⟨w, n2, [(old0 w), (qf4s_1 z c), (qf4s_0 z want)]⟩ ⟨bt (by omega), trivial⟩ ?_
     refine e_seq <| g_seq <| g_true <| g_skip <| e_seq <| g_seq <| g_block <| g_seq <| g_region <| l_all 2 [o0, o0] [1, 4, 7, 12, 13, 9] [] [(1, .int .i64 at_), (4, .pointer (some ⟨z, 0, none⟩)), (7, .pointer (some ⟨z + 1, 0, none⟩)), (12, .int .i64 sz), (13, .int .i64 (k : Int)), (9, .int .i64 (k : Int))] ⟨w, n2, [(old0 w), (qf4s_1 z c), (qf4s_0 z want)]⟩ trivial ?_
     refine e_seq <| g_seq <| g_region <| l_run 4 [(oa [.at 1, .at 1, .at 1, .at 1, .at 1, .at 1, .at 1]), o0, o0, (ov (.int .i64 (at_ + (k : Int))))] [1, 4, 7, 12, 13, 17, 20] [Qb z, Qb z, Qb z, Qb z, Qb z, Qb z, Qb z, Value.int .i64 (IntKind.i64.wrap ((at_ : Int) + (k : Int))) = Value.int .i64 (at_ + (k : Int))] [(1, .int .i64 at_), (4, .pointer (some ⟨z, 0, none⟩)), (7, .pointer (some ⟨z + 1, 0, none⟩)), (12, .int .i64 sz), (13, .int .i64 (k : Int)), (17, .agg (TConfig.arr c)), (20, .int .i64 (at_ + (k : Int)))] ⟨w, n2, [(old0 w), (qf4s_1 z c), (qf4s_0 z want)]⟩ ⟨rfl, rfl, rfl, rfl, rfl, rfl, rfl, congrArg (Value.int .i64) (wr_i64 (by omega) (by omega) (by omega)), trivial⟩ ?_
     refine l_call [] [] 23 #[.agg (TConfig.arr c), .int .i64 (at_ + (k : Int))] (some 21) trivial ?_
     intro w4 hw4
     refine (owner_in w4 c at_ sz want (at_ + (k : Int)) (hc.ext (hw4.ext rfl) (fun _ h => h)) hfit hm (by omega) (by omega) ⟨by omega, by omega⟩).mono ?_
     rintro e w5 ⟨rfl, hkw5⟩
     have hnw5 : n2 ≤ w5.heap.size := by have := hkw5.size; rw [hw4.size] at this; exact this
     refine ⟨_, _, rfl, hw4.keeps hkw5, ?_⟩
     refine l_keep [1, 4, 7, 12, 13, 21] [(1, .int .i64 at_), (4, .pointer (some ⟨z, 0, none⟩)), (7, .pointer (some ⟨z + 1, 0, none⟩)), (12, .int .i64 sz), (13, .int .i64 (k : Int)), (21, .tuple #[.agg (TOwner.arr want), .int .i64 0])] ?_
     refine l_all 6 [o0, o0, o0, o0, (oa [.at 3, .at 3, .at 3]), o0] [1, 4, 7, 12, 13, 10, 11] [Qb w5.heap.size, Qb w5.heap.size, Qb w5.heap.size] [(1, .int .i64 at_), (4, .pointer (some ⟨z, 0, none⟩)), (7, .pointer (some ⟨z + 1, 0, none⟩)), (12, .int .i64 sz), (13, .int .i64 (k : Int)), (10, .pointer (some ⟨w5.heap.size, 0, none⟩)), (11, .int .i64 0)] ⟨w, w5.heap.size + 1, (qf4s_2 w z c want w5)⟩ ⟨rfl, rfl, rfl, trivial⟩ ?_
     refine e_seq <| g_seq <| g_region <| l_all 7 [o0, o0, o0, (oa [.at 3, .at 3, .at 3]), (oa [.at 2, .at 2, .at 2]), ⟨.seq true, none⟩, o0] [1, 4, 7, 12, 13, 30] [Qb w5.heap.size, Qb w5.heap.size, Qb w5.heap.size, Qb (z + 1), Qb (z + 1), Qb (z + 1), ((want.Kind : Int) == (want.Kind : Int) && ((want.Index : Int) == (want.Index : Int) && ((want.Port : Int) == (want.Port : Int) && true))) = true] [(1, .int .i64 at_), (4, .pointer (some ⟨z, 0, none⟩)), (7, .pointer (some ⟨z + 1, 0, none⟩)), (12, .int .i64 sz), (13, .int .i64 (k : Int)), (30, .bool false)] ⟨w, w5.heap.size + 1, (qf4s_2 w z c want w5)⟩ ⟨rfl, rfl, rfl, rfl, rfl, rfl, (by simp), trivial⟩ ?_
     refine e_seq <| g_false <| g_skip <| e_blk <| e_seq <| g_region <| l_all 2 [(ov (.int .i64 ((k + 1 : Nat) : Int))), o0] [1, 4, 7, 12, 13] [Value.int .i64 (IntKind.i64.wrap (((k : Int) : Int) + 1)) = Value.int .i64 (((k + 1 : Nat) : Int))] [(1, .int .i64 at_), (4, .pointer (some ⟨z, 0, none⟩)), (7, .pointer (some ⟨z + 1, 0, none⟩)), (12, .int .i64 sz), (13, .int .i64 ((k + 1 : Nat) : Int))] ⟨w, w5.heap.size + 1, (qf4s_2 w z c want w5)⟩ ⟨congrArg (Value.int .i64) (wr_i64 (by omega) (by omega) (by omega)), trivial⟩ ?_
     refine e_pick [0, 1, 2] [(old0 w), (qf4s_1 z c), (qf4s_0 z want)] rfl rfl ?_
     refine e_keep [1, 4, 7, 12, 13] [(1, .int .i64 at_), (4, .pointer (some ⟨z, 0, none⟩)), (7, .pointer (some ⟨z + 1, 0, none⟩)), (12, .int .i64 sz), (13, .int .i64 ((k + 1 : Nat) : Int))] ?_
     refine e_inv (fun a w' hs => ⟨sz.toNat - (k + 1), by omega, (w5.heap.size + 1), (k + 1), rfl, by omega, by omega, hs⟩)
   · refine g_region <| l_all 1 [oF] [1, 4, 7, 12, 13, 14] [BF (((k : Int) : Int) < sz)] [(1, .int .i64 at_), (4, .pointer (some ⟨z, 0, none⟩)), (7, .pointer (some ⟨z + 1, 0, none⟩)), (12, .int .i64 sz), (13, .int .i64 (k : Int)), (14, .bool false)] ⟨w, n2, [(old0 w), (qf4s_1 z c), (qf4s_0 z want)]⟩ ⟨bf (by omega), trivial⟩ ?_
     refine e_seq <| g_seq <| g_false <| g_exit <| e_out <| e_outI <| e_hit <| e_seq <| g_seq <| g_region <| l_all 1 [o0] [8] [] [(8, .bool true)] ⟨w, n2, [(old0 w), (qf4s_1 z c), (qf4s_0 z want)]⟩ trivial ?_
     refine e_seq <| g_ret <| e_ret [] [] (.bool true) trivial ?_
     intro w6 hw6
     exact ⟨rfl, hw6.back rfl (show w.heap.size ≤ n2 by omega) (List.mem_cons_self ..)⟩
abbrev qfd4_0 (z : Nat) (y : TPartitionPlace) : Ch := .blk (z + 1) (.cells (TPartitionPlace.arr y) 42 (0, 0)) true
abbrev qfd4_1 (z : Nat) (c : TConfig) : Ch := .blk z (.cells (TConfig.arr c) 30 (0, 0)) true
theorem ownedP_calls (w : World) (c : TConfig) (y : TPartitionPlace) (i : Nat) (hc : TConfig.ok Any w c) (hy : TPartitionPlace.ok Any w y) (hi : i < c.Partitions.xs.length) (hfit : fitsB c = true) (hP : PlaceP c i y) : Calls Try.prog 28 #[.agg (TConfig.arr c), .agg (TPartitionPlace.arr y), .int .i64 (i : Int)] w fun e w' => e = .returned (.bool true) ∧ Keeps (fun _ => False) w w' := by
 obtain ⟨z, hz⟩ : ∃ z, z = w.heap.size := ⟨_, rfl⟩
 refine calls_G (args := [.agg (TConfig.arr c), .agg (TPartitionPlace.arr y), .int .i64 (i : Int)]) 59 ⟨w, z, [(old0 w)]⟩ Try.func28 rfl (by kernel_rfl) (by kernel_rfl) (sat_0 hz) ?_
 have hf := fine_of (fits_is hfit).1; have htb := tAt_bd hf i (by omega); have hnl := tabsN_le (gd c.Partitions.xs i); have hpn := hf.pn; obtain ⟨hP0, hP1, hP2, hP4, hP6, hP5⟩ := hP
 refine g_keep [0, 1, 2] [(0, .agg (TConfig.arr c)), (1, .agg (TPartitionPlace.arr y)), (2, .int .i64 (i : Int))] ?_
 refine g_seq <| g_region <| l_all 3 [o0, o0, o0] [2, 3, 4] [] [(2, .int .i64 (i : Int)), (3, .pointer (some ⟨z, 0, none⟩)), (4, .pointer (some ⟨z + 1, 0, none⟩))] ⟨w, z + 2, [(old0 w), (qfd4_1 z c), (qfd4_0 z y)]⟩ trivial ?_
 refine e_seq <| g_seq <| g_seq <| g_region <| l_run 5 [(oa [.at 1, .at 1, .at 1, .at 1, .at 1, .at 1, .at 1]), o0, (oa [.at 2]), o0, o0] [2, 3, 4, 8, 10, 12] [Qb z, Qb z, Qb z, Qb z, Qb z, Qb z, Qb z, Qb (z + 1)] [(2, .int .i64 (i : Int)), (3, .pointer (some ⟨z, 0, none⟩)), (4, .pointer (some ⟨z + 1, 0, none⟩)), (8, .agg (TConfig.arr c)), (10, .int .i64 y.Lock), (12, .agg #[.int .i64 3, .int .i64 (i : Int), .int .i64 0])] ⟨w, z + 2, [(old0 w), (qfd4_1 z c), (qfd4_0 z y)]⟩ ⟨rfl, rfl, rfl, rfl, rfl, rfl, rfl, rfl, trivial⟩ ?_
 refine l_call [] [] 27 #[.agg (TConfig.arr c), .int .i64 y.Lock, .int .i64 2, .agg #[.int .i64 3, .int .i64 (i : Int), .int .i64 0]] (some 13) trivial ?_
 intro w1 hw1
 refine (owned_calls w1 c y.Lock 2 (⟨3, (i : Int), 0⟩ : TOwner) (hc.ext (hw1.ext rfl) (fun _ h => h)) hfit (mem_3 hi (by omega))).mono ?_
 rintro e w2 ⟨rfl, hkw2⟩
 have hnw2 : z + 2 ≤ w2.heap.size := by have := hkw2.size; rw [hw1.size] at this; exact this
 refine ⟨_, _, rfl, hw1.keeps hkw2, ?_⟩
 refine l_keep [2, 3, 4, 13] [(2, .int .i64 (i : Int)), (3, .pointer (some ⟨z, 0, none⟩)), (4, .pointer (some ⟨z + 1, 0, none⟩)), (13, .bool true)] ?_
 refine l_run 7 [o0, o0, (oa [.at 1, .at 1, .at 1, .at 1, .at 1, .at 1, .at 1]), o0, (oa [.at 2]), o0, o0] [2, 3, 4, 15, 16, 18, 20] [Qb z, Qb z, Qb z, Qb z, Qb z, Qb z, Qb z, Qb (z + 1)] [(2, .int .i64 (i : Int)), (3, .pointer (some ⟨z, 0, none⟩)), (4, .pointer (some ⟨z + 1, 0, none⟩)), (15, .bool false), (16, .agg (TConfig.arr c)), (18, .int .i64 y.Save), (20, .agg #[.int .i64 4, .int .i64 (i : Int), .int .i64 0])] ⟨w, w2.heap.size, [(old0 w), (qfd4_1 z c), (qfd4_0 z y)]⟩ ⟨rfl, rfl, rfl, rfl, rfl, rfl, rfl, rfl, trivial⟩ ?_
 refine l_call [] [] 27 #[.agg (TConfig.arr c), .int .i64 y.Save, .int .i64 17, .agg #[.int .i64 4, .int .i64 (i : Int), .int .i64 0]] (some 21) trivial ?_
 intro w3 hw3
 refine (owned_calls w3 c y.Save 17 (⟨4, (i : Int), 0⟩ : TOwner) (hc.ext (hw3.ext rfl) (fun _ h => h)) hfit (mem_4 hi (by omega))).mono ?_
 rintro e w4 ⟨rfl, hkw4⟩
 have hnw4 : w2.heap.size ≤ w4.heap.size := by have := hkw4.size; rw [hw3.size] at this; exact this
 refine ⟨_, _, rfl, hw3.keeps hkw4, ?_⟩
 refine l_keep [2, 3, 4, 15, 21] [(2, .int .i64 (i : Int)), (3, .pointer (some ⟨z, 0, none⟩)), (4, .pointer (some ⟨z + 1, 0, none⟩)), (15, .bool false), (21, .bool true)] ?_
 refine l_all 2 [o0, o0] [2, 3, 4, 23] [] [(2, .int .i64 (i : Int)), (3, .pointer (some ⟨z, 0, none⟩)), (4, .pointer (some ⟨z + 1, 0, none⟩)), (23, .bool false)] ⟨w, w4.heap.size, [(old0 w), (qfd4_1 z c), (qfd4_0 z y)]⟩ trivial ?_
 refine e_seq <| g_false <| g_skip <| e_seq <| g_seq <| g_seq <| g_region <| l_run 5 [(oa [.at 1, .at 1, .at 1, .at 1, .at 1, .at 1, .at 1]), o0, (oa [.at 2]), o0, o0] [2, 3, 4, 24, 26, 28] [Qb z, Qb z, Qb z, Qb z, Qb z, Qb z, Qb z, Qb (z + 1)] [(2, .int .i64 (i : Int)), (3, .pointer (some ⟨z, 0, none⟩)), (4, .pointer (some ⟨z + 1, 0, none⟩)), (24, .agg (TConfig.arr c)), (26, .int .i64 y.State), (28, .agg #[.int .i64 5, .int .i64 (i : Int), .int .i64 0])] ⟨w, w4.heap.size, [(old0 w), (qfd4_1 z c), (qfd4_0 z y)]⟩ ⟨rfl, rfl, rfl, rfl, rfl, rfl, rfl, rfl, trivial⟩ ?_
 refine l_call [] [] 27 #[.agg (TConfig.arr c), .int .i64 y.State, .int .i64 5, .agg #[.int .i64 5, .int .i64 (i : Int), .int .i64 0]] (some 29) trivial ?_
 intro w5 hw5
 refine (owned_calls w5 c y.State 5 (⟨5, (i : Int), 0⟩ : TOwner) (hc.ext (hw5.ext rfl) (fun _ h => h)) hfit (mem_5 hi (by omega))).mono ?_
 rintro e w6 ⟨rfl, hkw6⟩
 have hnw6 : w4.heap.size ≤ w6.heap.size := by have := hkw6.size; rw [hw5.size] at this; exact this
 refine ⟨_, _, rfl, hw5.keeps hkw6, ?_⟩
 refine l_keep [2, 3, 4, 29] [(2, .int .i64 (i : Int)), (3, .pointer (some ⟨z, 0, none⟩)), (4, .pointer (some ⟨z + 1, 0, none⟩)), (29, .bool true)] ?_
 refine l_run 8 [o0, o0, (oa [.at 1, .at 1, .at 1, .at 1, .at 1, .at 1, .at 1]), o0, (oa [.at 2]), (ov (.int .i64 (16 * y.Root))), o0, o0] [2, 3, 4, 31, 32, 35, 37] [Qb z, Qb z, Qb z, Qb z, Qb z, Qb z, Qb z, Qb (z + 1), Value.int .i64 (IntKind.i64.wrap ((16 : Int) * y.Root)) = Value.int .i64 (16 * y.Root)] [(2, .int .i64 (i : Int)), (3, .pointer (some ⟨z, 0, none⟩)), (4, .pointer (some ⟨z + 1, 0, none⟩)), (31, .bool false), (32, .agg (TConfig.arr c)), (35, .int .i64 (16 * y.Root)), (37, .agg #[.int .i64 9, .int .i64 (i : Int), .int .i64 0])] ⟨w, w6.heap.size, [(old0 w), (qfd4_1 z c), (qfd4_0 z y)]⟩ ⟨rfl, rfl, rfl, rfl, rfl, rfl, rfl, rfl, congrArg (Value.int .i64) (wr_i64 (by omega) (by omega) (by omega)), trivial⟩ ?_
 refine l_call [] [] 27 #[.agg (TConfig.arr c), .int .i64 (16 * y.Root), .int .i64 16, .agg #[.int .i64 9, .int .i64 (i : Int), .int .i64 0]] (some 38) trivial ?_
 intro w7 hw7
 refine (owned_calls w7 c (16 * y.Root) 16 (⟨9, (i : Int), 0⟩ : TOwner) (hc.ext (hw7.ext rfl) (fun _ h => h)) hfit (mem_9 hi 0 (by omega) (by omega))).mono ?_
 rintro e w8 ⟨rfl, hkw8⟩
 have hnw8 : w6.heap.size ≤ w8.heap.size := by have := hkw8.size; rw [hw7.size] at this; exact this
 refine ⟨_, _, rfl, hw7.keeps hkw8, ?_⟩
 refine l_keep [2, 3, 4, 31, 38] [(2, .int .i64 (i : Int)), (3, .pointer (some ⟨z, 0, none⟩)), (4, .pointer (some ⟨z + 1, 0, none⟩)), (31, .bool false), (38, .bool true)] ?_
 refine l_all 2 [o0, o0] [2, 3, 4, 40] [] [(2, .int .i64 (i : Int)), (3, .pointer (some ⟨z, 0, none⟩)), (4, .pointer (some ⟨z + 1, 0, none⟩)), (40, .bool false)] ⟨w, w8.heap.size, [(old0 w), (qfd4_1 z c), (qfd4_0 z y)]⟩ trivial ?_
 refine e_seq <| g_false <| g_skip <| e_seq <| g_seq <| g_seq <| g_region <| l_all 4 [o0, (oa [.at 2]), o0, o0] [2, 3, 4, 43, 44] [Qb (z + 1)] [(2, .int .i64 (i : Int)), (3, .pointer (some ⟨z, 0, none⟩)), (4, .pointer (some ⟨z + 1, 0, none⟩)), (43, .int .i64 ((y.Tables.xs.length : Nat) : Int)), (44, .int .i64 0)] ⟨w, w8.heap.size, [(old0 w), (qfd4_1 z c), (qfd4_0 z y)]⟩ ⟨rfl, trivial⟩ ?_
 refine e_seq <| g_block <| g_loop (fun m a w' => ∃ (n10 : Nat) (t : Nat), m = y.Tables.xs.length - t ∧ w8.heap.size ≤ n10 ∧ (t ≤ y.Tables.xs.length) ∧ St 59 [(2, .int .i64 (i : Int)), (3, .pointer (some ⟨z, 0, none⟩)), (4, .pointer (some ⟨z + 1, 0, none⟩)), (43, .int .i64 ((y.Tables.xs.length : Nat) : Int)), (44, .int .i64 (t : Int))] [] ⟨w, n10, [(old0 w), (qfd4_1 z c), (qfd4_0 z y)]⟩ a w') (y.Tables.xs.length - 0) ?_ ?_
 · intro a w' hs; exact ⟨w8.heap.size, 0, rfl, Nat.le_refl _, Nat.zero_le _, hs⟩
 · rintro m a w' ⟨n10, t, rfl, hn9, hkt, hs⟩
   refine (?_ : G Try.prog 59 [(2, .int .i64 (i : Int)), (3, .pointer (some ⟨z, 0, none⟩)), (4, .pointer (some ⟨z + 1, 0, none⟩)), (43, .int .i64 ((y.Tables.xs.length : Nat) : Int)), (44, .int .i64 (t : Int))] [] ⟨w, n10, [(old0 w), (qfd4_1 z c), (qfd4_0 z y)]⟩ _ _ _) a w' hs
   clear hs a w'
   refine g_seq ?_
   by_cases h11 : ((t : Int) : Int) < ((y.Tables.xs.length : Nat) : Int)
   · refine g_region <| l_all 1 [oT] [2, 3, 4, 43, 44, 45] [BT (((t : Int) : Int) < ((y.Tables.xs.length : Nat) : Int))] [(2, .int .i64 (i : Int)), (3, .pointer (some ⟨z, 0, none⟩)), (4, .pointer (some ⟨z + 1, 0, none⟩)), (43, .int .i64 ((y.Tables.xs.length : Nat) : Int)), (44, .int .i64 (t : Int)), (45, .bool true)] ⟨w, n10, [(old0 w), (qfd4_1 z c), (qfd4_0 z y)]⟩ ⟨bt (by omega), trivial⟩ ?_
     refine e_seq <| g_seq <| g_true <| g_skip <| e_seq <| g_seq <| g_block <| g_seq <| g_region <| l_all 2 [o0, o0] [2, 3, 4, 43, 44, 7] [] [(2, .int .i64 (i : Int)), (3, .pointer (some ⟨z, 0, none⟩)), (4, .pointer (some ⟨z + 1, 0, none⟩)), (43, .int .i64 ((y.Tables.xs.length : Nat) : Int)), (44, .int .i64 (t : Int)), (7, .int .i64 (t : Int))] ⟨w, n10, [(old0 w), (qfd4_1 z c), (qfd4_0 z y)]⟩ trivial ?_
     refine e_seq <| g_seq ?_
     obtain ⟨b12, o13, ha14, hF16, hc15⟩ := (hy.Tables).1.all (show 0 < y.Tables.xs.length by omega)
     replace ha14 : y.Tables.a = some ⟨b12, o13, none⟩ := ha14
     have hc17 := hc15 t (show t < y.Tables.xs.length by omega)
     have he18 := (hy.Tables).2 t (show t < y.Tables.xs.length by omega)
     obtain ⟨y19, hy19⟩ : ∃ y_, y_ = gd y.Tables.xs t := ⟨_, rfl⟩
     rw [← hy19] at he18 hc17
     have hTy19 := hP5 t (by omega); rw [← hy19] at hTy19
     refine g_draw 11 [0, 1, 2] [(old0 w), (qfd4_1 z c), (qfd4_0 z y)] rfl rfl ?_
     refine w_take [(0, (oa [.at 1, .at 1, .at 1, .at 1, .at 1, .at 1, .at 1])), (1, o0), (2, ⟨.auto [.at 2], some (.slice (some ⟨b12, o13, none⟩) y.Tables.xs.length y.Tables.cap)⟩), (3, o0), (4, (oi t)), (5, (oa [.via 0 (.int .i64 y19)])), (6, (ov (.int .i64 (16 * y19)))), (7, o0), (8, o0)] [2, 3, 4, 43, 44, 47, 53, 55] [Qb z, Qb z, Qb z, Qb z, Qb z, Qb z, Qb z, Qb (z + 1), Value.slice y.Tables.a y.Tables.xs.length y.Tables.cap = Value.slice (some ⟨b12, o13, none⟩) y.Tables.xs.length y.Tables.cap, ((t : Int) : Int) = ((t : Nat) : Int), t < y.Tables.xs.length, (none : Option Nat) = none, Old w b12 (o13 + t) (.int .i64 y19), Value.int .i64 (IntKind.i64.wrap ((16 : Int) * y19)) = Value.int .i64 (16 * y19)] [true, true, true, true, true, true, true, true, true, false, false] [(2, .int .i64 (i : Int)), (3, .pointer (some ⟨z, 0, none⟩)), (4, .pointer (some ⟨z + 1, 0, none⟩)), (43, .int .i64 ((y.Tables.xs.length : Nat) : Int)), (44, .int .i64 (t : Int)), (47, .agg (TConfig.arr c)), (53, .int .i64 (16 * y19)), (55, .agg #[.int .i64 9, .int .i64 (i : Int), .int .i64 0])] rfl (by as_aux_lemma => kernel_rfl) (by as_aux_lemma => kernel_rfl) ⟨rfl, rfl, rfl, rfl, rfl, rfl, rfl, rfl, congrArg (fun a => Value.slice a _ _) ha14, rfl, (by omega), rfl, old_cell' (hc17 0 _ rfl), congrArg (Value.int .i64) (wr_i64 (by omega) (by omega) (by omega)), trivial⟩ ?_
     refine w_one 9 (by as_aux_lemma => kernel_rfl) rfl ?_
     refine wo_call [] [] 27 #[.agg (TConfig.arr c), .int .i64 (16 * y19), .int .i64 16, .agg #[.int .i64 9, .int .i64 (i : Int), .int .i64 0]] (some 56) (by as_aux_lemma => kernel_rfl) rfl rfl trivial ?_
     intro w20 hw20
     refine (owned_calls w20 c (16 * y19) 16 (⟨9, (i : Int), 0⟩ : TOwner) (hc.ext (hw20.ext rfl) (fun _ h => h)) hfit (mem_9 hi (1 + t) (by omega) (by omega))).mono ?_
     rintro e w21 ⟨rfl, hkw21⟩
     have hnw21 : n10 ≤ w21.heap.size := by have := hkw21.size; rw [hw20.size] at this; exact this
     have hs22 := hw20.keeps hkw21
     refine ⟨_, _, rfl, hs22, .inr (fun c hc => hs22.all c (by first | exact hc | exact picks_mem (is := [0, 1, 2]) rfl c hc)), ?_⟩
     refine w_keep [2, 3, 4, 43, 44, 56] [(2, .int .i64 (i : Int)), (3, .pointer (some ⟨z, 0, none⟩)), (4, .pointer (some ⟨z + 1, 0, none⟩)), (43, .int .i64 ((y.Tables.xs.length : Nat) : Int)), (44, .int .i64 (t : Int)), (56, .bool true)] ?_
     refine w_take [(10, o0)] [2, 3, 4, 43, 44, 57] [] [true, true, true, true, true, true, true, true, true, true, true] [(2, .int .i64 (i : Int)), (3, .pointer (some ⟨z, 0, none⟩)), (4, .pointer (some ⟨z + 1, 0, none⟩)), (43, .int .i64 ((y.Tables.xs.length : Nat) : Int)), (44, .int .i64 (t : Int)), (57, .bool false)] rfl (by as_aux_lemma => kernel_rfl) (by as_aux_lemma => kernel_rfl) trivial ?_
     refine w_done (by as_aux_lemma => kernel_rfl) ?_
     refine e_keep [2, 3, 4, 43, 44, 57] [(2, .int .i64 (i : Int)), (3, .pointer (some ⟨z, 0, none⟩)), (4, .pointer (some ⟨z + 1, 0, none⟩)), (43, .int .i64 ((y.Tables.xs.length : Nat) : Int)), (44, .int .i64 (t : Int)), (57, .bool false)] ?_
     refine e_seq <| g_false <| g_skip <| e_blk <| e_seq <| g_region <| l_all 2 [(ov (.int .i64 ((t + 1 : Nat) : Int))), o0] [2, 3, 4, 43, 44] [Value.int .i64 (IntKind.i64.wrap (((t : Int) : Int) + 1)) = Value.int .i64 (((t + 1 : Nat) : Int))] [(2, .int .i64 (i : Int)), (3, .pointer (some ⟨z, 0, none⟩)), (4, .pointer (some ⟨z + 1, 0, none⟩)), (43, .int .i64 ((y.Tables.xs.length : Nat) : Int)), (44, .int .i64 ((t + 1 : Nat) : Int))] ⟨w, w21.heap.size, [(old0 w), (qfd4_1 z c), (qfd4_0 z y)]⟩ ⟨congrArg (Value.int .i64) (wr_i64 (by omega) (by omega) (by omega)), trivial⟩ ?_
     refine e_keep [2, 3, 4, 43, 44] [(2, .int .i64 (i : Int)), (3, .pointer (some ⟨z, 0, none⟩)), (4, .pointer (some ⟨z + 1, 0, none⟩)), (43, .int .i64 ((y.Tables.xs.length : Nat) : Int)), (44, .int .i64 ((t + 1 : Nat) : Int))] ?_
     refine e_inv (fun a w' hs => ⟨y.Tables.xs.length - (t + 1), by omega, w21.heap.size, (t + 1), rfl, by omega, by omega, hs⟩)
   · refine g_region <| l_all 1 [oF] [2, 3, 4, 43, 44, 45] [BF (((t : Int) : Int) < ((y.Tables.xs.length : Nat) : Int))] [(2, .int .i64 (i : Int)), (3, .pointer (some ⟨z, 0, none⟩)), (4, .pointer (some ⟨z + 1, 0, none⟩)), (43, .int .i64 ((y.Tables.xs.length : Nat) : Int)), (44, .int .i64 (t : Int)), (45, .bool false)] ⟨w, n10, [(old0 w), (qfd4_1 z c), (qfd4_0 z y)]⟩ ⟨bf (by omega), trivial⟩ ?_
     refine e_seq <| g_seq <| g_false <| g_exit <| e_out <| e_outI <| e_hit <| e_seq <| g_seq <| g_region <| l_all 1 [o0] [6] [] [(6, .bool true)] ⟨w, n10, [(old0 w), (qfd4_1 z c), (qfd4_0 z y)]⟩ trivial ?_
     refine e_seq <| g_ret <| e_ret [] [] (.bool true) trivial ?_
     intro w23 hw23
     exact ⟨rfl, hw23.back rfl (show w.heap.size ≤ n10 by omega) (List.mem_cons_self ..)⟩
abbrev qk0r_0 (z : Nat) (y : TChannelPlace) : Ch := .blk (z + 1) (.cells (TChannelPlace.arr y) 45 (0, 0)) true
abbrev qk0r_1 (n18 : Nat) (y27 : TDestPlace) : Ch := .blk n18 (.cells (TDestPlace.arr y27) 47 (0, 0)) true
abbrev qk0r_2 (z : Nat) (c : TConfig) : Ch := .blk z (.cells (TConfig.arr c) 30 (0, 0)) true
theorem ownedC_calls (w : World) (c : TConfig) (y : TChannelPlace) (k : Nat) (hc : TConfig.ok Any w c) (hy : TChannelPlace.ok Any w y) (hi : k < c.Channels.xs.length) (hfit : fitsB c = true) (hP : PlaceC c k y) : Calls Try.prog 29 #[.agg (TConfig.arr c), .agg (TChannelPlace.arr y), .int .i64 (k : Int)] w fun e w' => e = .returned (.bool true) ∧ Keeps (fun _ => False) w w' := by
 obtain ⟨z, hz⟩ : ∃ z, z = w.heap.size := ⟨_, rfl⟩
 refine calls_G (args := [.agg (TConfig.arr c), .agg (TChannelPlace.arr y), .int .i64 (k : Int)]) 63 ⟨w, z, [(old0 w)]⟩ Try.func29 rfl (by kernel_rfl) (by kernel_rfl) (sat_0 hz) ?_
 have hf := fine_of (fits_is hfit).1; have hdd := hf.dests hi; obtain ⟨hP0, hP1, hP2, hP3⟩ := hP
 refine g_keep [0, 1, 2] [(0, .agg (TConfig.arr c)), (1, .agg (TChannelPlace.arr y)), (2, .int .i64 (k : Int))] ?_
 refine g_seq <| g_region <| l_all 3 [o0, o0, o0] [2, 3, 4] [] [(2, .int .i64 (k : Int)), (3, .pointer (some ⟨z, 0, none⟩)), (4, .pointer (some ⟨z + 1, 0, none⟩))] ⟨w, z + 2, [(old0 w), (qk0r_2 z c), (qk0r_0 z y)]⟩ trivial ?_
 refine e_seq <| g_seq ?_
 obtain ⟨b1, o2, ha3, hF5, hc4⟩ := (hc.Channels).1.all (show 0 < c.Channels.xs.length by omega)
 replace ha3 : c.Channels.a = some ⟨b1, o2, none⟩ := ha3
 have hc6 := hc4 k (show k < c.Channels.xs.length by omega)
 have he7 := (hc.Channels).2 k (show k < c.Channels.xs.length by omega)
 obtain ⟨y8, hy8⟩ : ∃ y_, y_ = gd c.Channels.xs k := ⟨_, rfl⟩
 rw [← hy8] at he7 hc6
 have hsby8 := stage_bd y8; have hpby8 := port_bd y8
 refine g_region <| l_run 5 [o0, ⟨.auto [.at 1], some (.slice (some ⟨b1, o2, none⟩) c.Channels.xs.length c.Channels.cap)⟩, o0, (oi k), (ol 0 (TChannel.arr y8))] [2, 3, 4, 15] [Qb z, Value.slice c.Channels.a c.Channels.xs.length c.Channels.cap = Value.slice (some ⟨b1, o2, none⟩) c.Channels.xs.length c.Channels.cap, ((k : Int) : Int) = ((k : Nat) : Int), k < c.Channels.xs.length, (none : Option Nat) = none, OldR w b1 (o2 + k * 3) (TChannel.arr y8)] [(2, .int .i64 (k : Int)), (3, .pointer (some ⟨z, 0, none⟩)), (4, .pointer (some ⟨z + 1, 0, none⟩)), (15, .agg (TChannel.arr y8))] ⟨w, z + 2, [(old0 w), (qk0r_2 z c), (qk0r_0 z y)]⟩ ⟨rfl, congrArg (fun a => Value.slice a _ _) ha3, rfl, (by omega), rfl, old_row hc6, trivial⟩ ?_
 refine l_call [] [] 11 #[.agg (TChannel.arr y8)] (some 16) trivial ?_
 intro w9 hw9
 refine (stage_calls w9 y8 (he7.ext (hw9.ext rfl) (fun _ h => h))).mono ?_
 rintro e w10 ⟨rfl, hkw10⟩
 have hnw10 : z + 2 ≤ w10.heap.size := by have := hkw10.size; rw [hw9.size] at this; exact this
 refine ⟨_, _, rfl, hw9.keeps hkw10, ?_⟩
 refine l_keep [2, 3, 4, 16] [(2, .int .i64 (k : Int)), (3, .pointer (some ⟨z, 0, none⟩)), (4, .pointer (some ⟨z + 1, 0, none⟩)), (16, .int .i64 (stageOf y8))] ?_
 refine l_all 1 [o0] [2, 3, 4, 7] [] [(2, .int .i64 (k : Int)), (3, .pointer (some ⟨z, 0, none⟩)), (4, .pointer (some ⟨z + 1, 0, none⟩)), (7, .int .i64 (stageOf y8))] ⟨w, w10.heap.size, [(old0 w), (qk0r_2 z c), (qk0r_0 z y)]⟩ trivial ?_
 refine e_seq <| g_seq <| g_region <| l_run 5 [o0, ⟨.auto [.at 1], some (.slice (some ⟨b1, o2, none⟩) c.Channels.xs.length c.Channels.cap)⟩, o0, (oi k), (ol 0 (TChannel.arr y8))] [2, 3, 4, 7, 21] [Qb z, Value.slice c.Channels.a c.Channels.xs.length c.Channels.cap = Value.slice (some ⟨b1, o2, none⟩) c.Channels.xs.length c.Channels.cap, ((k : Int) : Int) = ((k : Nat) : Int), k < c.Channels.xs.length, (none : Option Nat) = none, OldR w b1 (o2 + k * 3) (TChannel.arr y8)] [(2, .int .i64 (k : Int)), (3, .pointer (some ⟨z, 0, none⟩)), (4, .pointer (some ⟨z + 1, 0, none⟩)), (7, .int .i64 (stageOf y8)), (21, .agg (TChannel.arr y8))] ⟨w, w10.heap.size, [(old0 w), (qk0r_2 z c), (qk0r_0 z y)]⟩ ⟨rfl, congrArg (fun a => Value.slice a _ _) ha3, rfl, (by omega), rfl, old_row hc6, trivial⟩ ?_
 refine l_call [] [] 12 #[.agg (TChannel.arr y8)] (some 22) trivial ?_
 intro w11 hw11
 refine (port_calls w11 y8 (he7.ext (hw11.ext rfl) (fun _ h => h))).mono ?_
 rintro e w12 ⟨rfl, hkw12⟩
 have hnw12 : w10.heap.size ≤ w12.heap.size := by have := hkw12.size; rw [hw11.size] at this; exact this
 refine ⟨_, _, rfl, hw11.keeps hkw12, ?_⟩
 refine l_keep [2, 3, 4, 7, 22] [(2, .int .i64 (k : Int)), (3, .pointer (some ⟨z, 0, none⟩)), (4, .pointer (some ⟨z + 1, 0, none⟩)), (7, .int .i64 (stageOf y8)), (22, .int .i64 (portOf y8))] ?_
 refine l_all 1 [o0] [2, 3, 4, 7, 8] [] [(2, .int .i64 (k : Int)), (3, .pointer (some ⟨z, 0, none⟩)), (4, .pointer (some ⟨z + 1, 0, none⟩)), (7, .int .i64 (stageOf y8)), (8, .int .i64 (portOf y8))] ⟨w, w12.heap.size, [(old0 w), (qk0r_2 z c), (qk0r_0 z y)]⟩ trivial ?_
 refine e_seq <| g_seq <| g_seq <| g_region <| l_run 5 [(oa [.at 1, .at 1, .at 1, .at 1, .at 1, .at 1, .at 1]), o0, (oa [.at 2]), o0, o0] [2, 3, 4, 7, 8, 23, 25, 27] [Qb z, Qb z, Qb z, Qb z, Qb z, Qb z, Qb z, Qb (z + 1)] [(2, .int .i64 (k : Int)), (3, .pointer (some ⟨z, 0, none⟩)), (4, .pointer (some ⟨z + 1, 0, none⟩)), (7, .int .i64 (stageOf y8)), (8, .int .i64 (portOf y8)), (23, .agg (TConfig.arr c)), (25, .int .i64 y.Lock), (27, .agg #[.int .i64 6, .int .i64 (k : Int), .int .i64 0])] ⟨w, w12.heap.size, [(old0 w), (qk0r_2 z c), (qk0r_0 z y)]⟩ ⟨rfl, rfl, rfl, rfl, rfl, rfl, rfl, rfl, trivial⟩ ?_
 refine l_call [] [] 27 #[.agg (TConfig.arr c), .int .i64 y.Lock, .int .i64 2, .agg #[.int .i64 6, .int .i64 (k : Int), .int .i64 0]] (some 28) trivial ?_
 intro w13 hw13
 refine (owned_calls w13 c y.Lock 2 (⟨6, (k : Int), 0⟩ : TOwner) (hc.ext (hw13.ext rfl) (fun _ h => h)) hfit (mem_6 hi (by omega))).mono ?_
 rintro e w14 ⟨rfl, hkw14⟩
 have hnw14 : w12.heap.size ≤ w14.heap.size := by have := hkw14.size; rw [hw13.size] at this; exact this
 refine ⟨_, _, rfl, hw13.keeps hkw14, ?_⟩
 refine l_keep [2, 3, 4, 7, 8, 28] [(2, .int .i64 (k : Int)), (3, .pointer (some ⟨z, 0, none⟩)), (4, .pointer (some ⟨z + 1, 0, none⟩)), (7, .int .i64 (stageOf y8)), (8, .int .i64 (portOf y8)), (28, .bool true)] ?_
 refine l_run 8 [o0, o0, (oa [.at 1, .at 1, .at 1, .at 1, .at 1, .at 1, .at 1]), o0, (oa [.at 2]), o0, o0, o0] [3, 4, 8, 30, 31, 33, 34, 36] [Qb z, Qb z, Qb z, Qb z, Qb z, Qb z, Qb z, Qb (z + 1)] [(3, .pointer (some ⟨z, 0, none⟩)), (4, .pointer (some ⟨z + 1, 0, none⟩)), (8, .int .i64 (portOf y8)), (30, .bool false), (31, .agg (TConfig.arr c)), (33, .int .i64 y.Stage), (34, .int .i64 (stageOf y8)), (36, .agg #[.int .i64 7, .int .i64 (k : Int), .int .i64 0])] ⟨w, w14.heap.size, [(old0 w), (qk0r_2 z c), (qk0r_0 z y)]⟩ ⟨rfl, rfl, rfl, rfl, rfl, rfl, rfl, rfl, trivial⟩ ?_
 refine l_call [] [] 27 #[.agg (TConfig.arr c), .int .i64 y.Stage, .int .i64 (stageOf y8), .agg #[.int .i64 7, .int .i64 (k : Int), .int .i64 0]] (some 37) trivial ?_
 intro w15 hw15
 refine (owned_calls w15 c y.Stage (stageOf y8) (⟨7, (k : Int), 0⟩ : TOwner) (hc.ext (hw15.ext rfl) (fun _ h => h)) hfit (mem_7 hi (by omega) hy8)).mono ?_
 rintro e w16 ⟨rfl, hkw16⟩
 have hnw16 : w14.heap.size ≤ w16.heap.size := by have := hkw16.size; rw [hw15.size] at this; exact this
 refine ⟨_, _, rfl, hw15.keeps hkw16, ?_⟩
 refine l_keep [3, 4, 8, 30, 37] [(3, .pointer (some ⟨z, 0, none⟩)), (4, .pointer (some ⟨z + 1, 0, none⟩)), (8, .int .i64 (portOf y8)), (30, .bool false), (37, .bool true)] ?_
 refine l_all 2 [o0, o0] [3, 4, 8, 39] [] [(3, .pointer (some ⟨z, 0, none⟩)), (4, .pointer (some ⟨z + 1, 0, none⟩)), (8, .int .i64 (portOf y8)), (39, .bool false)] ⟨w, w16.heap.size, [(old0 w), (qk0r_2 z c), (qk0r_0 z y)]⟩ trivial ?_
 refine e_seq <| g_false <| g_skip <| e_seq <| g_seq <| g_seq <| g_region <| l_all 4 [o0, (oa [.at 2]), o0, o0] [3, 4, 8, 42, 43] [Qb (z + 1)] [(3, .pointer (some ⟨z, 0, none⟩)), (4, .pointer (some ⟨z + 1, 0, none⟩)), (8, .int .i64 (portOf y8)), (42, .int .i64 ((y.Dests.xs.length : Nat) : Int)), (43, .int .i64 0)] ⟨w, w16.heap.size, [(old0 w), (qk0r_2 z c), (qk0r_0 z y)]⟩ ⟨rfl, trivial⟩ ?_
 refine e_seq <| g_block <| g_loop (fun m a w' => ∃ (n18 : Nat) (t : Nat), m = y.Dests.xs.length - t ∧ w16.heap.size ≤ n18 ∧ (t ≤ y.Dests.xs.length) ∧ St 63 [(3, .pointer (some ⟨z, 0, none⟩)), (4, .pointer (some ⟨z + 1, 0, none⟩)), (8, .int .i64 (portOf y8)), (42, .int .i64 ((y.Dests.xs.length : Nat) : Int)), (43, .int .i64 (t : Int))] [] ⟨w, n18, [(old0 w), (qk0r_2 z c), (qk0r_0 z y)]⟩ a w') (y.Dests.xs.length - 0) ?_ ?_
 · intro a w' hs; exact ⟨w16.heap.size, 0, rfl, Nat.le_refl _, Nat.zero_le _, hs⟩
 · rintro m a w' ⟨n18, t, rfl, hn17, hkt, hs⟩
   refine (?_ : G Try.prog 63 [(3, .pointer (some ⟨z, 0, none⟩)), (4, .pointer (some ⟨z + 1, 0, none⟩)), (8, .int .i64 (portOf y8)), (42, .int .i64 ((y.Dests.xs.length : Nat) : Int)), (43, .int .i64 (t : Int))] [] ⟨w, n18, [(old0 w), (qk0r_2 z c), (qk0r_0 z y)]⟩ _ _ _) a w' hs
   clear hs a w'
   refine g_seq ?_
   by_cases h19 : ((t : Int) : Int) < ((y.Dests.xs.length : Nat) : Int)
   · refine g_region <| l_all 1 [oT] [3, 4, 8, 42, 43, 44] [BT (((t : Int) : Int) < ((y.Dests.xs.length : Nat) : Int))] [(3, .pointer (some ⟨z, 0, none⟩)), (4, .pointer (some ⟨z + 1, 0, none⟩)), (8, .int .i64 (portOf y8)), (42, .int .i64 ((y.Dests.xs.length : Nat) : Int)), (43, .int .i64 (t : Int)), (44, .bool true)] ⟨w, n18, [(old0 w), (qk0r_2 z c), (qk0r_0 z y)]⟩ ⟨bt (by omega), trivial⟩ ?_
     refine e_seq <| g_seq <| g_true <| g_skip <| e_seq <| g_seq <| g_block <| g_seq <| g_region <| l_all 2 [o0, o0] [3, 4, 8, 42, 43, 9] [] [(3, .pointer (some ⟨z, 0, none⟩)), (4, .pointer (some ⟨z + 1, 0, none⟩)), (8, .int .i64 (portOf y8)), (42, .int .i64 ((y.Dests.xs.length : Nat) : Int)), (43, .int .i64 (t : Int)), (9, .int .i64 (t : Int))] ⟨w, n18, [(old0 w), (qk0r_2 z c), (qk0r_0 z y)]⟩ trivial ?_
     refine e_seq <| g_seq ?_
     obtain ⟨b20, o21, ha22, hF24, hc23⟩ := (hy.Dests).1.all (show 0 < y.Dests.xs.length by omega)
     replace ha22 : y.Dests.a = some ⟨b20, o21, none⟩ := ha22
     have hc25 := hc23 t (show t < y.Dests.xs.length by omega)
     have he26 := (hy.Dests).2 t (show t < y.Dests.xs.length by omega)
     obtain ⟨y27, hy27⟩ : ∃ y_, y_ = gd y.Dests.xs t := ⟨_, rfl⟩
     rw [← hy27] at he26 hc25
     have hDy27 := hP3 t (by omega); rw [← hy27] at hDy27
     refine g_region <| l_all 7 [o0, ⟨.auto [.at 2], some (.slice (some ⟨b20, o21, none⟩) y.Dests.xs.length y.Dests.cap)⟩, o0, (oi t), (ol 0 (TDestPlace.arr y27)), o0, (oa [.at 3, .at 3, .at 3])] [3, 4, 8, 42, 43, 10] [Qb (z + 1), Value.slice y.Dests.a y.Dests.xs.length y.Dests.cap = Value.slice (some ⟨b20, o21, none⟩) y.Dests.xs.length y.Dests.cap, ((t : Int) : Int) = ((t : Nat) : Int), t < y.Dests.xs.length, (none : Option Nat) = none, OldR w b20 (o21 + t * 3) (TDestPlace.arr y27), Qb n18, Qb n18, Qb n18] [(3, .pointer (some ⟨z, 0, none⟩)), (4, .pointer (some ⟨z + 1, 0, none⟩)), (8, .int .i64 (portOf y8)), (42, .int .i64 ((y.Dests.xs.length : Nat) : Int)), (43, .int .i64 (t : Int)), (10, .pointer (some ⟨n18, 0, none⟩))] ⟨w, n18 + 1, [(old0 w), (qk0r_2 z c), (qk0r_0 z y), (qk0r_1 n18 y27)]⟩ ⟨rfl, congrArg (fun a => Value.slice a _ _) ha22, rfl, (by omega), rfl, old_row hc25, rfl, rfl, rfl, trivial⟩ ?_
     refine e_seq <| g_seq <| g_region <| l_run 9 [(oa [.at 1, .at 1, .at 1, .at 1, .at 1, .at 1, .at 1]), o0, (oa [.at 3]), o0, o0, (oa [.at 3]), o0, (oa [.at 3]), o0] [3, 4, 8, 42, 43, 51, 53, 54, 59] [Qb z, Qb z, Qb z, Qb z, Qb z, Qb z, Qb z, Qb n18, Qb n18, Qb n18] [(3, .pointer (some ⟨z, 0, none⟩)), (4, .pointer (some ⟨z + 1, 0, none⟩)), (8, .int .i64 (portOf y8)), (42, .int .i64 ((y.Dests.xs.length : Nat) : Int)), (43, .int .i64 (t : Int)), (51, .agg (TConfig.arr c)), (53, .int .i64 y27.At), (54, .int .i64 (portOf y8)), (59, .agg #[.int .i64 8, .int .i64 y27.Partition, .int .i64 y27.Port])] ⟨w, n18 + 1, [(old0 w), (qk0r_2 z c), (qk0r_0 z y), (qk0r_1 n18 y27)]⟩ ⟨rfl, rfl, rfl, rfl, rfl, rfl, rfl, rfl, rfl, rfl, trivial⟩ ?_
     refine l_call [] [] 27 #[.agg (TConfig.arr c), .int .i64 y27.At, .int .i64 (portOf y8), .agg #[.int .i64 8, .int .i64 y27.Partition, .int .i64 y27.Port]] (some 60) trivial ?_
     intro w28 hw28
     refine (owned_calls w28 c y27.At (portOf y8) (⟨8, y27.Partition, y27.Port⟩ : TOwner) (hc.ext (hw28.ext rfl) (fun _ h => h)) hfit (mem_8 hi (j := t) (by omega) hDy27 hy8)).mono ?_
     rintro e w29 ⟨rfl, hkw29⟩
     have hnw29 : n18 + 1 ≤ w29.heap.size := by have := hkw29.size; rw [hw28.size] at this; exact this
     refine ⟨_, _, rfl, hw28.keeps hkw29, ?_⟩
     refine l_keep [3, 4, 8, 42, 43, 60] [(3, .pointer (some ⟨z, 0, none⟩)), (4, .pointer (some ⟨z + 1, 0, none⟩)), (8, .int .i64 (portOf y8)), (42, .int .i64 ((y.Dests.xs.length : Nat) : Int)), (43, .int .i64 (t : Int)), (60, .bool true)] ?_
     refine l_all 1 [o0] [3, 4, 8, 42, 43, 61] [] [(3, .pointer (some ⟨z, 0, none⟩)), (4, .pointer (some ⟨z + 1, 0, none⟩)), (8, .int .i64 (portOf y8)), (42, .int .i64 ((y.Dests.xs.length : Nat) : Int)), (43, .int .i64 (t : Int)), (61, .bool false)] ⟨w, w29.heap.size, [(old0 w), (qk0r_2 z c), (qk0r_0 z y), (qk0r_1 n18 y27)]⟩ trivial ?_
     refine e_seq <| g_false <| g_skip <| e_blk <| e_seq <| g_region <| l_all 2 [(ov (.int .i64 ((t + 1 : Nat) : Int))), o0] [3, 4, 8, 42, 43] [Value.int .i64 (IntKind.i64.wrap (((t : Int) : Int) + 1)) = Value.int .i64 (((t + 1 : Nat) : Int))] [(3, .pointer (some ⟨z, 0, none⟩)), (4, .pointer (some ⟨z + 1, 0, none⟩)), (8, .int .i64 (portOf y8)), (42, .int .i64 ((y.Dests.xs.length : Nat) : Int)), (43, .int .i64 ((t + 1 : Nat) : Int))] ⟨w, w29.heap.size, [(old0 w), (qk0r_2 z c), (qk0r_0 z y), (qk0r_1 n18 y27)]⟩ ⟨congrArg (Value.int .i64) (wr_i64 (by omega) (by omega) (by omega)), trivial⟩ ?_
     refine e_pick [0, 1, 2] [(old0 w), (qk0r_2 z c), (qk0r_0 z y)] rfl rfl ?_
     refine e_keep [3, 4, 8, 42, 43] [(3, .pointer (some ⟨z, 0, none⟩)), (4, .pointer (some ⟨z + 1, 0, none⟩)), (8, .int .i64 (portOf y8)), (42, .int .i64 ((y.Dests.xs.length : Nat) : Int)), (43, .int .i64 ((t + 1 : Nat) : Int))] ?_
     refine e_inv (fun a w' hs => ⟨y.Dests.xs.length - (t + 1), by omega, w29.heap.size, (t + 1), rfl, by omega, by omega, hs⟩)
   · refine g_region <| l_all 1 [oF] [3, 4, 8, 42, 43, 44] [BF (((t : Int) : Int) < ((y.Dests.xs.length : Nat) : Int))] [(3, .pointer (some ⟨z, 0, none⟩)), (4, .pointer (some ⟨z + 1, 0, none⟩)), (8, .int .i64 (portOf y8)), (42, .int .i64 ((y.Dests.xs.length : Nat) : Int)), (43, .int .i64 (t : Int)), (44, .bool false)] ⟨w, n18, [(old0 w), (qk0r_2 z c), (qk0r_0 z y)]⟩ ⟨bf (by omega), trivial⟩ ?_
     refine e_seq <| g_seq <| g_false <| g_exit <| e_out <| e_outI <| e_hit <| e_seq <| g_seq <| g_region <| l_all 1 [o0] [6] [] [(6, .bool true)] ⟨w, n18, [(old0 w), (qk0r_2 z c), (qk0r_0 z y)]⟩ trivial ?_
     refine e_seq <| g_ret <| e_ret [] [] (.bool true) trivial ?_
     intro w30 hw30
     exact ⟨rfl, hw30.back rfl (show w.heap.size ≤ n18 by omega) (List.mem_cons_self ..)⟩

end Go.Proofs.Ytpoeaajkgblkmaa.Ly
