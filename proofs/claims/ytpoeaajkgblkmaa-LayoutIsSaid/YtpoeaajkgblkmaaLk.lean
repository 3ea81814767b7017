/- LayoutMoves: walked. No conditions. -/
import Derived.Test.YtpoeaajkgblkmaaLj
namespace Go.Proofs.Ytpoeaajkgblkmaa.Ly
open Go Go.Proofs.Ytpoeaajkgblkmaa.Eng Go.Proofs.Ytpoeaajkgblkmaa.Mem
set_option linter.unusedSimpArgs false
set_option linter.unusedVariables false
set_option maxRecDepth 100000

theorem kk_is {k K : Int} (h : K = IntKind.i64.wrap (k + 1)) (hk : InK .i64 k) : (-9223372036854775808 ≤ k ∧ k < 9223372036854775807 ∧ K = k + 1) ∨ (k = 9223372036854775807 ∧ K = -9223372036854775808) := by
  have h1 : -9223372036854775808 ≤ k := hk.1
  have h2 : k ≤ 9223372036854775807 := by have := hk.2; omega
  by_cases e : k = 9223372036854775807
  · subst e; right; exact ⟨rfl, by rw [h]; rfl⟩
  · left; exact ⟨h1, by omega, by rw [h]; exact wr_i64 rfl (by omega) (by omega)⟩
theorem conf_step {c d : TConfig} (hp : d.Partitions = c.Partitions) (hc : d.Channels = c.Channels) (hk : 0 ≤ d.Kernel ∧ d.Kernel < 1024) (h : confOk c = true) : confOk d = true := by
  have hf := fine_of h
  refine conf_yes hk (by rw [hp]; exact hf.pn) (by rw [hc]; exact hf.cn) (by rw [hp, hc]; exact hf.parts) ?_
  rw [hc]
  intro i hi
  have := hf.chans i hi
  unfold chanOk nEnds at this ⊢
  rw [hp, hc]; exact this
theorem slok_nil {α : Type} [Inhabited α] {cells : α → List Value} {sz : Nat} {ok : (Nat → Prop) → World → α → Prop} {F : Nat → Prop} {W : World} : SlOk cells sz ok F W ⟨none, 0, []⟩ :=
  ⟨⟨Nat.zero_le _, Nat.le_refl _, fun h => absurd rfl h⟩, fun i hi => absurd hi (Nat.not_lt_zero i)⟩
abbrev moves_calls_m0 (w24 : World) (c : TConfig) (kk : Int) : Ch := .blk (w24.heap.size + 1) (.cells #[.int .i64 c.Frames, .int .i64 c.Major, .int .i64 kk, .int .i64 c.Room, .slice c.Cores.a c.Cores.xs.length c.Cores.cap, .slice c.Partitions.a c.Partitions.xs.length c.Partitions.cap, .slice c.Channels.a c.Channels.xs.length c.Channels.cap] 30 (0, 0)) true
abbrev moves_calls_m1 (w3 : World) (c : TConfig) (kk : Int) : Ch := .blk (w3.heap.size + 1) (.cells #[.int .i64 c.Frames, .int .i64 c.Major, .int .i64 kk, .int .i64 c.Room, .slice c.Cores.a c.Cores.xs.length c.Cores.cap, .slice c.Partitions.a c.Partitions.xs.length c.Partitions.cap, .slice c.Channels.a c.Channels.xs.length c.Channels.cap] 30 (0, 0)) true
abbrev moves_calls_m2 (w24 : World) (frames : Int) (c : TConfig) (kk : Int) : Ch := .blk (w24.heap.size + 1) (.cells #[.int .i64 frames, .int .i64 c.Major, .int .i64 kk, .int .i64 c.Room, .slice c.Cores.a c.Cores.xs.length c.Cores.cap, .slice c.Partitions.a c.Partitions.xs.length c.Partitions.cap, .slice c.Channels.a c.Channels.xs.length c.Channels.cap] 30 (0, 0)) true
abbrev moves_calls_m3 (w3 : World) (frames : Int) (c : TConfig) (kk : Int) : Ch := .blk (w3.heap.size + 1) (.cells #[.int .i64 frames, .int .i64 c.Major, .int .i64 kk, .int .i64 c.Room, .slice c.Cores.a c.Cores.xs.length c.Cores.cap, .slice c.Partitions.a c.Partitions.xs.length c.Partitions.cap, .slice c.Channels.a c.Channels.xs.length c.Channels.cap] 30 (0, 0)) true
abbrev moves_calls_m4 (w24 : World) (frames : Int) (room : Int) (kk : Int) (c : TConfig) : Ch := .blk (w24.heap.size + 1) (.cells #[.int .i64 frames, .int .i64 room, .int .i64 kk, .int .i64 c.Room, .slice c.Cores.a c.Cores.xs.length c.Cores.cap, .slice c.Partitions.a c.Partitions.xs.length c.Partitions.cap, .slice c.Channels.a c.Channels.xs.length c.Channels.cap] 30 (0, 0)) true
abbrev moves_calls_m5 (w3 : World) (frames : Int) (room : Int) (kk : Int) (c : TConfig) : Ch := .blk (w3.heap.size + 1) (.cells #[.int .i64 frames, .int .i64 room, .int .i64 kk, .int .i64 c.Room, .slice c.Cores.a c.Cores.xs.length c.Cores.cap, .slice c.Partitions.a c.Partitions.xs.length c.Partitions.cap, .slice c.Channels.a c.Channels.xs.length c.Channels.cap] 30 (0, 0)) true
abbrev moves_calls_m6 (w24 : World) (frames : Int) (room : Int) (kk : Int) (c : TConfig) : Ch := .blk (w24.heap.size + 1) (.cells #[.int .i64 frames, .int .i64 room, .int .i64 kk, .int .i64 room, .slice c.Cores.a c.Cores.xs.length c.Cores.cap, .slice c.Partitions.a c.Partitions.xs.length c.Partitions.cap, .slice c.Channels.a c.Channels.xs.length c.Channels.cap] 30 (0, 0)) true
abbrev moves_calls_m7 (w3 : World) (frames : Int) (room : Int) (kk : Int) (c : TConfig) : Ch := .blk (w3.heap.size + 1) (.cells #[.int .i64 frames, .int .i64 room, .int .i64 kk, .int .i64 room, .slice c.Cores.a c.Cores.xs.length c.Cores.cap, .slice c.Partitions.a c.Partitions.xs.length c.Partitions.cap, .slice c.Channels.a c.Channels.xs.length c.Channels.cap] 30 (0, 0)) true
abbrev moves_calls_m8 (w24 : World) (frames : Int) (room : Int) (kk : Int) (c : TConfig) : Ch := .blk (w24.heap.size + 1) (.cells #[.int .i64 frames, .int .i64 room, .int .i64 kk, .int .i64 room, .slice none 0 0, .slice c.Partitions.a c.Partitions.xs.length c.Partitions.cap, .slice c.Channels.a c.Channels.xs.length c.Channels.cap] 30 (0, 0)) true
abbrev moves_calls_m9 (w3 : World) (frames : Int) (room : Int) (kk : Int) (c : TConfig) : Ch := .blk (w3.heap.size + 1) (.cells #[.int .i64 frames, .int .i64 room, .int .i64 kk, .int .i64 room, .slice none 0 0, .slice c.Partitions.a c.Partitions.xs.length c.Partitions.cap, .slice c.Channels.a c.Channels.xs.length c.Channels.cap] 30 (0, 0)) true
abbrev moves_calls_m10 (w16 : World) : Ch := .blk w16.heap.size (.cells #[.int .i64 0, .slice none 0 0, .slice none 0 0, .int .i64 0] 34 (0, 0)) true
abbrev moves_calls_m11 (w24 : World) : Ch := .blk w24.heap.size (.cells #[.int .i64 0, .slice none 0 0, .slice none 0 0, .int .i64 0] 34 (0, 0)) true
abbrev moves_calls_m12 (w35 : World) : Ch := .blk w35.heap.size (.cells #[.int .i64 0, .slice none 0 0, .slice none 0 0, .int .i64 0] 34 (0, 0)) true
abbrev moves_calls_m13 (w27 : World) (lw27 : TLayout) : Ch := .blk w27.heap.size (.cells (TLayout.arr lw27) 34 (0, 0)) true
abbrev moves_calls_m14 (w3 : World) (lw3 : TLayout) : Ch := .blk w3.heap.size (.cells (TLayout.arr lw3) 34 (0, 0)) true
abbrev moves_calls_m15 (w6 : World) (lw6 : TLayout) : Ch := .blk w6.heap.size (.cells (TLayout.arr lw6) 34 (0, 0)) true
abbrev moves_calls_m16 (z : Nat) (c : TConfig) : Ch := .blk z (.cells (TConfig.arr c) 30 (0, 0)) true
theorem moves_calls (w : World) (c : TConfig) (frames room : Int) (hc : TConfig.ok Any w c) (hfr : InK .i64 frames) (hrm : InK .i64 room) : Calls Try.prog 4 #[.agg (TConfig.arr c), .int .i64 frames, .int .i64 room] w fun e w' => e = .returned (.bool true) ∧ Keeps (fun _ => False) w w' := by
 obtain ⟨z, hz⟩ : ∃ z, z = w.heap.size := ⟨_, rfl⟩
 refine calls_G (args := [.agg (TConfig.arr c), .int .i64 frames, .int .i64 room]) 75 ⟨w, z, [(old0 w)]⟩ Try.func4 rfl (by kernel_rfl) (by kernel_rfl) (sat_0 hz) ?_
 obtain ⟨kk, hkk⟩ : ∃ K, K = IntKind.i64.wrap (c.Kernel + 1) := ⟨_, rfl⟩; have hk1 := kk_is hkk hc.Kernel; have hkI : InK .i64 kk := ⟨by omega, by omega⟩
 refine g_keep [0, 1, 2] [(0, .agg (TConfig.arr c)), (1, .int .i64 frames), (2, .int .i64 room)] ?_
 refine g_seq <| g_region <| l_all 2 [o0, o0] [1, 2, 3] [] [(1, .int .i64 frames), (2, .int .i64 room), (3, .pointer (some ⟨z, 0, none⟩))] ⟨w, z + 1, [(old0 w), (moves_calls_m16 z c)]⟩ trivial ?_
 refine e_seq <| g_seq <| g_region <| l_run 1 [(oa [.at 1, .at 1, .at 1, .at 1, .at 1, .at 1, .at 1])] [1, 2, 3, 13] [Qb z, Qb z, Qb z, Qb z, Qb z, Qb z, Qb z] [(1, .int .i64 frames), (2, .int .i64 room), (3, .pointer (some ⟨z, 0, none⟩)), (13, .agg (TConfig.arr c))] ⟨w, z + 1, [(old0 w), (moves_calls_m16 z c)]⟩ ⟨rfl, rfl, rfl, rfl, rfl, rfl, rfl, trivial⟩ ?_
 refine l_call [] [] 15 #[.agg (TConfig.arr c)] (some 14) trivial ?_
 intro w1 hw1
 by_cases hok2 : confOk c = true
 · refine (of_yes w1 c (hc.ext (hw1.ext rfl) (fun _ h => h)) hok2).mono ?_
   rintro e w3 ⟨lw3, rfl, hIw3, hLw3, hOw3, hkw3⟩
   have hfw3 := fine_of hok2; have hknw3 : 0 ≤ c.Kernel ∧ c.Kernel < 1024 := hfw3.kn
   rw [hw1.size] at hLw3 hOw3
   have hnw3 : z + 1 ≤ w3.heap.size := by have := hkw3.size; rw [hw1.size] at this; exact this
   refine ⟨_, _, rfl, hw1.keepsM hkw3, ?_⟩
   refine l_keep [1, 2, 3, 14] [(1, .int .i64 frames), (2, .int .i64 room), (3, .pointer (some ⟨z, 0, none⟩)), (14, .tuple #[.agg (TLayout.arr lw3), .int .i64 0])] ?_
   refine l_all 6 [o0, o0, o0, o0, (oa [.at 3, .at 3, .at 3, .at 3]), o0] [1, 2, 3, 7, 8] [Qb w3.heap.size, Qb w3.heap.size, Qb w3.heap.size, Qb w3.heap.size] [(1, .int .i64 frames), (2, .int .i64 room), (3, .pointer (some ⟨z, 0, none⟩)), (7, .pointer (some ⟨w3.heap.size, 0, none⟩)), (8, .int .i64 0)] ⟨w, w3.heap.size + 1, [(old0 w), (moves_calls_m16 z c), (mid (z + 1) w3), (moves_calls_m14 w3 lw3)]⟩ ⟨rfl, rfl, rfl, rfl, trivial⟩ ?_
   refine e_seq <| g_seq <| g_region <| l_all 3 [(oa [.at 1, .at 1, .at 1, .at 1, .at 1, .at 1, .at 1]), o0, (oa [.at 4, .at 4, .at 4, .at 4, .at 4, .at 4, .at 4])] [1, 2, 7, 8, 9] [Qb z, Qb z, Qb z, Qb z, Qb z, Qb z, Qb z, Qb (w3.heap.size + 1), Qb (w3.heap.size + 1), Qb (w3.heap.size + 1), Qb (w3.heap.size + 1), Qb (w3.heap.size + 1), Qb (w3.heap.size + 1), Qb (w3.heap.size + 1)] [(1, .int .i64 frames), (2, .int .i64 room), (7, .pointer (some ⟨w3.heap.size, 0, none⟩)), (8, .int .i64 0), (9, .pointer (some ⟨w3.heap.size + 1, 0, none⟩))] ⟨w, w3.heap.size + 2, [(old0 w), (moves_calls_m16 z c), (mid (z + 1) w3), (moves_calls_m14 w3 lw3), (.blk (w3.heap.size + 1) (.cells (TConfig.arr c) 30 (0, 0)) true)]⟩ ⟨rfl, rfl, rfl, rfl, rfl, rfl, rfl, rfl, rfl, rfl, rfl, rfl, rfl, rfl, trivial⟩ ?_
   refine e_seq <| g_seq <| g_region <| l_all 5 [o0, (oa [.at 4]), (ov (.int .i64 kk)), o0, (oa [.at 4])] [1, 2, 7, 8, 9] [Qb (w3.heap.size + 1), Value.int .i64 (IntKind.i64.wrap ((c.Kernel : Int) + 1)) = Value.int .i64 kk, Qb (w3.heap.size + 1)] [(1, .int .i64 frames), (2, .int .i64 room), (7, .pointer (some ⟨w3.heap.size, 0, none⟩)), (8, .int .i64 0), (9, .pointer (some ⟨w3.heap.size + 1, 0, none⟩))] ⟨w, w3.heap.size + 2, [(old0 w), (moves_calls_m16 z c), (mid (z + 1) w3), (moves_calls_m14 w3 lw3), (moves_calls_m1 w3 c kk)]⟩ ⟨rfl, congrArg (Value.int .i64) hkk.symm, rfl, trivial⟩ ?_
   refine e_seq <| g_seq <| g_region <| l_all 3 [o0, o0, (oa [.at 4])] [2, 7, 8, 9] [Qb (w3.heap.size + 1)] [(2, .int .i64 room), (7, .pointer (some ⟨w3.heap.size, 0, none⟩)), (8, .int .i64 0), (9, .pointer (some ⟨w3.heap.size + 1, 0, none⟩))] ⟨w, w3.heap.size + 2, [(old0 w), (moves_calls_m16 z c), (mid (z + 1) w3), (moves_calls_m14 w3 lw3), (moves_calls_m3 w3 frames c kk)]⟩ ⟨rfl, trivial⟩ ?_
   refine e_seq <| g_seq <| g_region <| l_all 3 [o0, o0, (oa [.at 4])] [2, 7, 8, 9] [Qb (w3.heap.size + 1)] [(2, .int .i64 room), (7, .pointer (some ⟨w3.heap.size, 0, none⟩)), (8, .int .i64 0), (9, .pointer (some ⟨w3.heap.size + 1, 0, none⟩))] ⟨w, w3.heap.size + 2, [(old0 w), (moves_calls_m16 z c), (mid (z + 1) w3), (moves_calls_m14 w3 lw3), (moves_calls_m5 w3 frames room kk c)]⟩ ⟨rfl, trivial⟩ ?_
   refine e_seq <| g_seq <| g_region <| l_all 3 [o0, o0, (oa [.at 4])] [7, 8, 9] [Qb (w3.heap.size + 1)] [(7, .pointer (some ⟨w3.heap.size, 0, none⟩)), (8, .int .i64 0), (9, .pointer (some ⟨w3.heap.size + 1, 0, none⟩))] ⟨w, w3.heap.size + 2, [(old0 w), (moves_calls_m16 z c), (mid (z + 1) w3), (moves_calls_m14 w3 lw3), (moves_calls_m7 w3 frames room kk c)]⟩ ⟨rfl, trivial⟩ ?_
   refine e_seq <| g_seq <| g_region <| l_all 2 [o0, (oa [.at 4])] [7, 8, 9] [Qb (w3.heap.size + 1)] [(7, .pointer (some ⟨w3.heap.size, 0, none⟩)), (8, .int .i64 0), (9, .pointer (some ⟨w3.heap.size + 1, 0, none⟩))] ⟨w, w3.heap.size + 2, [(old0 w), (moves_calls_m16 z c), (mid (z + 1) w3), (moves_calls_m14 w3 lw3), (moves_calls_m9 w3 frames room kk c)]⟩ ⟨rfl, trivial⟩ ?_
   refine e_seq <| g_seq <| g_region <| l_run 1 [(oa [.at 4, .at 4, .at 4, .at 4, .at 4, .at 4, .at 4])] [7, 8, 9, 30] [Qb (w3.heap.size + 1), Qb (w3.heap.size + 1), Qb (w3.heap.size + 1), Qb (w3.heap.size + 1), Qb (w3.heap.size + 1), Qb (w3.heap.size + 1), Qb (w3.heap.size + 1)] [(7, .pointer (some ⟨w3.heap.size, 0, none⟩)), (8, .int .i64 0), (9, .pointer (some ⟨w3.heap.size + 1, 0, none⟩)), (30, .agg #[.int .i64 frames, .int .i64 room, .int .i64 kk, .int .i64 room, .slice none 0 0, .slice c.Partitions.a c.Partitions.xs.length c.Partitions.cap, .slice c.Channels.a c.Channels.xs.length c.Channels.cap])] ⟨w, w3.heap.size + 2, [(old0 w), (moves_calls_m16 z c), (mid (z + 1) w3), (moves_calls_m14 w3 lw3), (moves_calls_m9 w3 frames room kk c)]⟩ ⟨rfl, rfl, rfl, rfl, rfl, rfl, rfl, trivial⟩ ?_
   refine l_call [] [] 15 #[.agg #[.int .i64 frames, .int .i64 room, .int .i64 kk, .int .i64 room, .slice none 0 0, .slice c.Partitions.a c.Partitions.xs.length c.Partitions.cap, .slice c.Channels.a c.Channels.xs.length c.Channels.cap]] (some 31) trivial ?_
   intro w4 hw4
   by_cases hok5 : confOk (⟨frames, room, kk, room, ⟨none, 0, []⟩, c.Partitions, c.Channels⟩ : TConfig) = true
   · refine (of_yes w4 (⟨frames, room, kk, room, ⟨none, 0, []⟩, c.Partitions, c.Channels⟩ : TConfig) (⟨hfr, hrm, hkI, hrm, slok_nil, (hc.ext (hw4.ext rfl) (fun _ h => h)).Partitions, (hc.ext (hw4.ext rfl) (fun _ h => h)).Channels⟩ : TConfig.ok Any w4 (⟨frames, room, kk, room, ⟨none, 0, []⟩, c.Partitions, c.Channels⟩ : TConfig)) hok5).mono ?_
     rintro e w6 ⟨lw6, rfl, hIw6, hLw6, hOw6, hkw6⟩
     have hfw6 := fine_of hok5; have hknw6 : 0 ≤ kk ∧ kk < 1024 := hfw6.kn
     rw [hw4.size] at hLw6 hOw6
     have hnw6 : w3.heap.size + 2 ≤ w6.heap.size := by have := hkw6.size; rw [hw4.size] at this; exact this
     refine ⟨_, _, rfl, hw4.keepsM hkw6, ?_⟩
     refine l_keep [7, 8, 9, 31] [(7, .pointer (some ⟨w3.heap.size, 0, none⟩)), (8, .int .i64 0), (9, .pointer (some ⟨w3.heap.size + 1, 0, none⟩)), (31, .tuple #[.agg (TLayout.arr lw6), .int .i64 0])] ?_
     refine l_all 6 [o0, o0, o0, o0, (oa [.at 6, .at 6, .at 6, .at 6]), o0] [7, 8, 9, 10, 11] [Qb w6.heap.size, Qb w6.heap.size, Qb w6.heap.size, Qb w6.heap.size] [(7, .pointer (some ⟨w3.heap.size, 0, none⟩)), (8, .int .i64 0), (9, .pointer (some ⟨w3.heap.size + 1, 0, none⟩)), (10, .pointer (some ⟨w6.heap.size, 0, none⟩)), (11, .int .i64 0)] ⟨w, w6.heap.size + 1, [(old0 w), (moves_calls_m16 z c), (mid (z + 1) w3), (moves_calls_m14 w3 lw3), (moves_calls_m9 w3 frames room kk c), (mid (w3.heap.size + 2) w6), (moves_calls_m15 w6 lw6)]⟩ ⟨rfl, rfl, rfl, rfl, trivial⟩ ?_
     refine e_seq <| g_seq <| g_seq ?_
     by_cases h7 : (kk : Int) = 1024
     · refine g_region <| l_all 8 [o0, (oa [.at 4]), oT, o0, o0] [7, 8, 9, 10, 11, 41] [Qb (w3.heap.size + 1), ET kk 1024] [(7, .pointer (some ⟨w3.heap.size, 0, none⟩)), (8, .int .i64 0), (9, .pointer (some ⟨w3.heap.size + 1, 0, none⟩)), (10, .pointer (some ⟨w6.heap.size, 0, none⟩)), (11, .int .i64 0), (41, .bool true)] ⟨w, w6.heap.size + 1, [(old0 w), (moves_calls_m16 z c), (mid (z + 1) w3), (moves_calls_m14 w3 lw3), (moves_calls_m9 w3 frames room kk c), (mid (w3.heap.size + 2) w6), (moves_calls_m15 w6 lw6)]⟩ ⟨rfl, et (by omega), trivial⟩ ?_
       refine e_seq <| g_true <| g_seq ?_
       by_cases h8 : (0 : Int) < kk
       · refine g_region <| l_all 14 [o0, (oa [.at 4]), oF, o0, o0, o0, o0, o0, o0, o0] [6] [Qb (w3.heap.size + 1), BF ((kk : Int) ≤ 0)] [(6, .bool false)] ⟨w, w6.heap.size + 1, [(old0 w), (moves_calls_m16 z c), (mid (z + 1) w3), (moves_calls_m14 w3 lw3), (moves_calls_m9 w3 frames room kk c), (mid (w3.heap.size + 2) w6), (moves_calls_m15 w6 lw6)]⟩ ⟨rfl, bf (by omega), trivial⟩ ?_
         refine e_seq <| g_ret <| e_ret [] [] (.bool false) trivial ?_
         intro w9 hw9
         exfalso; first | omega | exact hok5 (conf_step (c := c) (d := (⟨frames, room, kk, room, ⟨none, 0, []⟩, c.Partitions, c.Channels⟩ : TConfig)) rfl rfl ⟨show 0 ≤ kk by omega, show kk < 1024 by omega⟩ hok2) | exact hok2 (conf_step (c := (⟨frames, room, kk, room, ⟨none, 0, []⟩, c.Partitions, c.Channels⟩ : TConfig)) (d := c) rfl rfl ⟨show 0 ≤ c.Kernel by omega, show c.Kernel < 1024 by omega⟩ hok5)
       · refine g_region <| l_all 14 [o0, (oa [.at 4]), oT, o0, o0, o0] [6] [Qb (w3.heap.size + 1), BT ((kk : Int) ≤ 0)] [(6, .bool true)] ⟨w, w6.heap.size + 1, [(old0 w), (moves_calls_m16 z c), (mid (z + 1) w3), (moves_calls_m14 w3 lw3), (moves_calls_m9 w3 frames room kk c), (mid (w3.heap.size + 2) w6), (moves_calls_m15 w6 lw6)]⟩ ⟨rfl, bt (by omega), trivial⟩ ?_
         refine e_seq <| g_ret <| e_ret [] [] (.bool true) trivial ?_
         intro w10 hw10
         exact ⟨rfl, hw10.back rfl (show w.heap.size ≤ w6.heap.size + 1 by omega) (List.mem_cons_self ..)⟩
     · by_cases h11 : (0 : Int) < kk
       · refine g_region <| l_all 8 [o0, (oa [.at 4]), oF, o0, o0, (oa [.at 4]), oF, o0] [7, 8, 9, 10, 11, 41] [Qb (w3.heap.size + 1), EF kk 1024, Qb (w3.heap.size + 1), BF ((kk : Int) ≤ 0)] [(7, .pointer (some ⟨w3.heap.size, 0, none⟩)), (8, .int .i64 0), (9, .pointer (some ⟨w3.heap.size + 1, 0, none⟩)), (10, .pointer (some ⟨w6.heap.size, 0, none⟩)), (11, .int .i64 0), (41, .bool false)] ⟨w, w6.heap.size + 1, [(old0 w), (moves_calls_m16 z c), (mid (z + 1) w3), (moves_calls_m14 w3 lw3), (moves_calls_m9 w3 frames room kk c), (mid (w3.heap.size + 2) w6), (moves_calls_m15 w6 lw6)]⟩ ⟨rfl, ef (by omega), rfl, bf (by omega), trivial⟩ ?_
         refine e_seq <| g_false <| g_skip <| e_seq <| g_seq <| g_region <| l_run 9 [o0, o0, o0, o0, o0, o0, o0, (oa [.at 3, .at 3, .at 3, .at 3]), (oa [.at 6, .at 6, .at 6, .at 6])] [8, 58, 61, 62, 63] [Qb w3.heap.size, Qb w3.heap.size, Qb w3.heap.size, Qb w3.heap.size, Qb w6.heap.size, Qb w6.heap.size, Qb w6.heap.size, Qb w6.heap.size] [(8, .int .i64 0), (58, .bool true), (61, .bool false), (62, .agg (TLayout.arr lw3)), (63, .agg (TLayout.arr lw6))] ⟨w, w6.heap.size + 1, [(old0 w), (moves_calls_m16 z c), (mid (z + 1) w3), (moves_calls_m14 w3 lw3), (moves_calls_m9 w3 frames room kk c), (mid (w3.heap.size + 2) w6), (moves_calls_m15 w6 lw6)]⟩ ⟨rfl, rfl, rfl, rfl, rfl, rfl, rfl, rfl, trivial⟩ ?_
         refine l_call [] [] 16 #[.agg (TLayout.arr lw3), .agg (TLayout.arr lw6)] (some 64) trivial ?_
         intro w12 hw12
         refine (moved_calls w12 lw3 lw6 (hLw3.ext (hw12.extM 2) (fun _ _ => trivial)) (hLw6.ext (hw12.extM 5) (fun _ _ => trivial)) (moved_of (c := c) (d := (⟨frames, room, kk, room, ⟨none, 0, []⟩, c.Partitions, c.Channels⟩ : TConfig)) hfw3 (show kk = c.Kernel + 1 by omega) rfl rfl hIw3 hIw6)).mono ?_
         rintro e w13 ⟨rfl, hkw13⟩
         have hnw13 : w6.heap.size + 1 ≤ w13.heap.size := by have := hkw13.size; rw [hw12.size] at this; exact this
         refine ⟨_, _, rfl, hw12.keeps hkw13, ?_⟩
         refine l_keep [8, 58, 61, 64] [(8, .int .i64 0), (58, .bool true), (61, .bool false), (64, .bool true)] ?_
         refine l_all 11 [o0, o0, o0, o0, o0, o0, o0, o0, o0] [6] [] [(6, .bool true)] ⟨w, w13.heap.size, [(old0 w), (moves_calls_m16 z c), (mid (z + 1) w3), (moves_calls_m14 w3 lw3), (moves_calls_m9 w3 frames room kk c), (mid (w3.heap.size + 2) w6), (moves_calls_m15 w6 lw6)]⟩ trivial ?_
         refine e_seq <| g_ret <| e_ret [] [] (.bool true) trivial ?_
         intro w14 hw14
         exact ⟨rfl, hw14.back rfl (show w.heap.size ≤ w13.heap.size by omega) (List.mem_cons_self ..)⟩
       · refine g_region <| l_all 8 [o0, (oa [.at 4]), oF, o0, o0, (oa [.at 4]), oT, o0] [7, 8, 9, 10, 11, 41] [Qb (w3.heap.size + 1), EF kk 1024, Qb (w3.heap.size + 1), BT ((kk : Int) ≤ 0)] [(7, .pointer (some ⟨w3.heap.size, 0, none⟩)), (8, .int .i64 0), (9, .pointer (some ⟨w3.heap.size + 1, 0, none⟩)), (10, .pointer (some ⟨w6.heap.size, 0, none⟩)), (11, .int .i64 0), (41, .bool true)] ⟨w, w6.heap.size + 1, [(old0 w), (moves_calls_m16 z c), (mid (z + 1) w3), (moves_calls_m14 w3 lw3), (moves_calls_m9 w3 frames room kk c), (mid (w3.heap.size + 2) w6), (moves_calls_m15 w6 lw6)]⟩ ⟨rfl, ef (by omega), rfl, bt (by omega), trivial⟩ ?_
         refine e_seq <| g_true <| g_seq <| g_region <| l_all 14 [o0, (oa [.at 4]), oT, o0, o0, o0] [6] [Qb (w3.heap.size + 1), BT ((kk : Int) ≤ 0)] [(6, .bool true)] ⟨w, w6.heap.size + 1, [(old0 w), (moves_calls_m16 z c), (mid (z + 1) w3), (moves_calls_m14 w3 lw3), (moves_calls_m9 w3 frames room kk c), (mid (w3.heap.size + 2) w6), (moves_calls_m15 w6 lw6)]⟩ ⟨rfl, bt (by omega), trivial⟩ ?_
         refine e_seq <| g_ret <| e_ret [] [] (.bool true) trivial ?_
         intro w15 hw15
         exact ⟨rfl, hw15.back rfl (show w.heap.size ≤ w6.heap.size + 1 by omega) (List.mem_cons_self ..)⟩
   · refine (of_no w4 (⟨frames, room, kk, room, ⟨none, 0, []⟩, c.Partitions, c.Channels⟩ : TConfig) (⟨hfr, hrm, hkI, hrm, slok_nil, (hc.ext (hw4.ext rfl) (fun _ h => h)).Partitions, (hc.ext (hw4.ext rfl) (fun _ h => h)).Channels⟩ : TConfig.ok Any w4 (⟨frames, room, kk, room, ⟨none, 0, []⟩, c.Partitions, c.Channels⟩ : TConfig)) (Bool.eq_false_iff.2 hok5)).mono ?_
     rintro e w16 ⟨rfl, hkw16⟩
     have hnw16 : w3.heap.size + 2 ≤ w16.heap.size := by have := hkw16.size; rw [hw4.size] at this; exact this
     refine ⟨_, _, rfl, hw4.keeps hkw16, ?_⟩
     refine l_keep [7, 8, 9, 31] [(7, .pointer (some ⟨w3.heap.size, 0, none⟩)), (8, .int .i64 0), (9, .pointer (some ⟨w3.heap.size + 1, 0, none⟩)), (31, .tuple #[.agg #[.int .i64 0, .slice none 0 0, .slice none 0 0, .int .i64 0], .int .i64 150])] ?_
     refine l_all 6 [o0, o0, o0, o0, (oa [.at 5, .at 5, .at 5, .at 5]), o0] [7, 8, 9, 10, 11] [Qb w16.heap.size, Qb w16.heap.size, Qb w16.heap.size, Qb w16.heap.size] [(7, .pointer (some ⟨w3.heap.size, 0, none⟩)), (8, .int .i64 0), (9, .pointer (some ⟨w3.heap.size + 1, 0, none⟩)), (10, .pointer (some ⟨w16.heap.size, 0, none⟩)), (11, .int .i64 150)] ⟨w, w16.heap.size + 1, [(old0 w), (moves_calls_m16 z c), (mid (z + 1) w3), (moves_calls_m14 w3 lw3), (moves_calls_m9 w3 frames room kk c), (moves_calls_m10 w16)]⟩ ⟨rfl, rfl, rfl, rfl, trivial⟩ ?_
     refine e_seq <| g_seq <| g_seq ?_
     by_cases h17 : (kk : Int) = 1024
     · refine g_region <| l_all 8 [o0, (oa [.at 4]), oT, o0, o0] [7, 8, 9, 10, 11, 41] [Qb (w3.heap.size + 1), ET kk 1024] [(7, .pointer (some ⟨w3.heap.size, 0, none⟩)), (8, .int .i64 0), (9, .pointer (some ⟨w3.heap.size + 1, 0, none⟩)), (10, .pointer (some ⟨w16.heap.size, 0, none⟩)), (11, .int .i64 150), (41, .bool true)] ⟨w, w16.heap.size + 1, [(old0 w), (moves_calls_m16 z c), (mid (z + 1) w3), (moves_calls_m14 w3 lw3), (moves_calls_m9 w3 frames room kk c), (moves_calls_m10 w16)]⟩ ⟨rfl, et (by omega), trivial⟩ ?_
       refine e_seq <| g_true <| g_seq ?_
       by_cases h18 : (0 : Int) < kk
       · refine g_region <| l_all 14 [o0, (oa [.at 4]), oF, o0, o0, o0, o0, o0, (oa [.at 5]), o0, o0, o0, o0, o0] [6] [Qb (w3.heap.size + 1), BF ((kk : Int) ≤ 0), Qb w16.heap.size] [(6, .bool true)] ⟨w, w16.heap.size + 1, [(old0 w), (moves_calls_m16 z c), (mid (z + 1) w3), (moves_calls_m14 w3 lw3), (moves_calls_m9 w3 frames room kk c), (moves_calls_m10 w16)]⟩ ⟨rfl, bf (by omega), rfl, trivial⟩ ?_
         refine e_seq <| g_ret <| e_ret [] [] (.bool true) trivial ?_
         intro w19 hw19
         exact ⟨rfl, hw19.back rfl (show w.heap.size ≤ w16.heap.size + 1 by omega) (List.mem_cons_self ..)⟩
       · refine g_region <| l_all 14 [o0, (oa [.at 4]), oT, o0, o0, o0] [6] [Qb (w3.heap.size + 1), BT ((kk : Int) ≤ 0)] [(6, .bool true)] ⟨w, w16.heap.size + 1, [(old0 w), (moves_calls_m16 z c), (mid (z + 1) w3), (moves_calls_m14 w3 lw3), (moves_calls_m9 w3 frames room kk c), (moves_calls_m10 w16)]⟩ ⟨rfl, bt (by omega), trivial⟩ ?_
         refine e_seq <| g_ret <| e_ret [] [] (.bool true) trivial ?_
         intro w20 hw20
         exact ⟨rfl, hw20.back rfl (show w.heap.size ≤ w16.heap.size + 1 by omega) (List.mem_cons_self ..)⟩
     · by_cases h21 : (0 : Int) < kk
       · refine g_region <| l_all 8 [o0, (oa [.at 4]), oF, o0, o0, (oa [.at 4]), oF, o0] [7, 8, 9, 10, 11, 41] [Qb (w3.heap.size + 1), EF kk 1024, Qb (w3.heap.size + 1), BF ((kk : Int) ≤ 0)] [(7, .pointer (some ⟨w3.heap.size, 0, none⟩)), (8, .int .i64 0), (9, .pointer (some ⟨w3.heap.size + 1, 0, none⟩)), (10, .pointer (some ⟨w16.heap.size, 0, none⟩)), (11, .int .i64 150), (41, .bool false)] ⟨w, w16.heap.size + 1, [(old0 w), (moves_calls_m16 z c), (mid (z + 1) w3), (moves_calls_m14 w3 lw3), (moves_calls_m9 w3 frames room kk c), (moves_calls_m10 w16)]⟩ ⟨rfl, ef (by omega), rfl, bf (by omega), trivial⟩ ?_
         refine e_seq <| g_false <| g_skip <| e_seq <| g_seq <| g_region <| l_all 21 [o0, o0, o0, o0, o0, o0, o0, o0] [6] [] [(6, .bool false)] ⟨w, w16.heap.size + 1, [(old0 w), (moves_calls_m16 z c), (mid (z + 1) w3), (moves_calls_m14 w3 lw3), (moves_calls_m9 w3 frames room kk c), (moves_calls_m10 w16)]⟩ trivial ?_
         refine e_seq <| g_ret <| e_ret [] [] (.bool false) trivial ?_
         intro w22 hw22
         exfalso; first | omega | exact hok5 (conf_step (c := c) (d := (⟨frames, room, kk, room, ⟨none, 0, []⟩, c.Partitions, c.Channels⟩ : TConfig)) rfl rfl ⟨show 0 ≤ kk by omega, show kk < 1024 by omega⟩ hok2) | exact hok2 (conf_step (c := (⟨frames, room, kk, room, ⟨none, 0, []⟩, c.Partitions, c.Channels⟩ : TConfig)) (d := c) rfl rfl ⟨show 0 ≤ c.Kernel by omega, show c.Kernel < 1024 by omega⟩ hok5)
       · refine g_region <| l_all 8 [o0, (oa [.at 4]), oF, o0, o0, (oa [.at 4]), oT, o0] [7, 8, 9, 10, 11, 41] [Qb (w3.heap.size + 1), EF kk 1024, Qb (w3.heap.size + 1), BT ((kk : Int) ≤ 0)] [(7, .pointer (some ⟨w3.heap.size, 0, none⟩)), (8, .int .i64 0), (9, .pointer (some ⟨w3.heap.size + 1, 0, none⟩)), (10, .pointer (some ⟨w16.heap.size, 0, none⟩)), (11, .int .i64 150), (41, .bool true)] ⟨w, w16.heap.size + 1, [(old0 w), (moves_calls_m16 z c), (mid (z + 1) w3), (moves_calls_m14 w3 lw3), (moves_calls_m9 w3 frames room kk c), (moves_calls_m10 w16)]⟩ ⟨rfl, ef (by omega), rfl, bt (by omega), trivial⟩ ?_
         refine e_seq <| g_true <| g_seq <| g_region <| l_all 14 [o0, (oa [.at 4]), oT, o0, o0, o0] [6] [Qb (w3.heap.size + 1), BT ((kk : Int) ≤ 0)] [(6, .bool true)] ⟨w, w16.heap.size + 1, [(old0 w), (moves_calls_m16 z c), (mid (z + 1) w3), (moves_calls_m14 w3 lw3), (moves_calls_m9 w3 frames room kk c), (moves_calls_m10 w16)]⟩ ⟨rfl, bt (by omega), trivial⟩ ?_
         refine e_seq <| g_ret <| e_ret [] [] (.bool true) trivial ?_
         intro w23 hw23
         exact ⟨rfl, hw23.back rfl (show w.heap.size ≤ w16.heap.size + 1 by omega) (List.mem_cons_self ..)⟩
 · refine (of_no w1 c (hc.ext (hw1.ext rfl) (fun _ h => h)) (Bool.eq_false_iff.2 hok2)).mono ?_
   rintro e w24 ⟨rfl, hkw24⟩
   have hnw24 : z + 1 ≤ w24.heap.size := by have := hkw24.size; rw [hw1.size] at this; exact this
   refine ⟨_, _, rfl, hw1.keeps hkw24, ?_⟩
   refine l_keep [1, 2, 3, 14] [(1, .int .i64 frames), (2, .int .i64 room), (3, .pointer (some ⟨z, 0, none⟩)), (14, .tuple #[.agg #[.int .i64 0, .slice none 0 0, .slice none 0 0, .int .i64 0], .int .i64 150])] ?_
   refine l_all 6 [o0, o0, o0, o0, (oa [.at 2, .at 2, .at 2, .at 2]), o0] [1, 2, 3, 7, 8] [Qb w24.heap.size, Qb w24.heap.size, Qb w24.heap.size, Qb w24.heap.size] [(1, .int .i64 frames), (2, .int .i64 room), (3, .pointer (some ⟨z, 0, none⟩)), (7, .pointer (some ⟨w24.heap.size, 0, none⟩)), (8, .int .i64 150)] ⟨w, w24.heap.size + 1, [(old0 w), (moves_calls_m16 z c), (moves_calls_m11 w24)]⟩ ⟨rfl, rfl, rfl, rfl, trivial⟩ ?_
   refine e_seq <| g_seq <| g_region <| l_all 3 [(oa [.at 1, .at 1, .at 1, .at 1, .at 1, .at 1, .at 1]), o0, (oa [.at 3, .at 3, .at 3, .at 3, .at 3, .at 3, .at 3])] [1, 2, 7, 8, 9] [Qb z, Qb z, Qb z, Qb z, Qb z, Qb z, Qb z, Qb (w24.heap.size + 1), Qb (w24.heap.size + 1), Qb (w24.heap.size + 1), Qb (w24.heap.size + 1), Qb (w24.heap.size + 1), Qb (w24.heap.size + 1), Qb (w24.heap.size + 1)] [(1, .int .i64 frames), (2, .int .i64 room), (7, .pointer (some ⟨w24.heap.size, 0, none⟩)), (8, .int .i64 150), (9, .pointer (some ⟨w24.heap.size + 1, 0, none⟩))] ⟨w, w24.heap.size + 2, [(old0 w), (moves_calls_m16 z c), (moves_calls_m11 w24), (.blk (w24.heap.size + 1) (.cells (TConfig.arr c) 30 (0, 0)) true)]⟩ ⟨rfl, rfl, rfl, rfl, rfl, rfl, rfl, rfl, rfl, rfl, rfl, rfl, rfl, rfl, trivial⟩ ?_
   refine e_seq <| g_seq <| g_region <| l_all 5 [o0, (oa [.at 3]), (ov (.int .i64 kk)), o0, (oa [.at 3])] [1, 2, 7, 8, 9] [Qb (w24.heap.size + 1), Value.int .i64 (IntKind.i64.wrap ((c.Kernel : Int) + 1)) = Value.int .i64 kk, Qb (w24.heap.size + 1)] [(1, .int .i64 frames), (2, .int .i64 room), (7, .pointer (some ⟨w24.heap.size, 0, none⟩)), (8, .int .i64 150), (9, .pointer (some ⟨w24.heap.size + 1, 0, none⟩))] ⟨w, w24.heap.size + 2, [(old0 w), (moves_calls_m16 z c), (moves_calls_m11 w24), (moves_calls_m0 w24 c kk)]⟩ ⟨rfl, congrArg (Value.int .i64) hkk.symm, rfl, trivial⟩ ?_
   refine e_seq <| g_seq <| g_region <| l_all 3 [o0, o0, (oa [.at 3])] [2, 7, 8, 9] [Qb (w24.heap.size + 1)] [(2, .int .i64 room), (7, .pointer (some ⟨w24.heap.size, 0, none⟩)), (8, .int .i64 150), (9, .pointer (some ⟨w24.heap.size + 1, 0, none⟩))] ⟨w, w24.heap.size + 2, [(old0 w), (moves_calls_m16 z c), (moves_calls_m11 w24), (moves_calls_m2 w24 frames c kk)]⟩ ⟨rfl, trivial⟩ ?_
   refine e_seq <| g_seq <| g_region <| l_all 3 [o0, o0, (oa [.at 3])] [2, 7, 8, 9] [Qb (w24.heap.size + 1)] [(2, .int .i64 room), (7, .pointer (some ⟨w24.heap.size, 0, none⟩)), (8, .int .i64 150), (9, .pointer (some ⟨w24.heap.size + 1, 0, none⟩))] ⟨w, w24.heap.size + 2, [(old0 w), (moves_calls_m16 z c), (moves_calls_m11 w24), (moves_calls_m4 w24 frames room kk c)]⟩ ⟨rfl, trivial⟩ ?_
   refine e_seq <| g_seq <| g_region <| l_all 3 [o0, o0, (oa [.at 3])] [7, 8, 9] [Qb (w24.heap.size + 1)] [(7, .pointer (some ⟨w24.heap.size, 0, none⟩)), (8, .int .i64 150), (9, .pointer (some ⟨w24.heap.size + 1, 0, none⟩))] ⟨w, w24.heap.size + 2, [(old0 w), (moves_calls_m16 z c), (moves_calls_m11 w24), (moves_calls_m6 w24 frames room kk c)]⟩ ⟨rfl, trivial⟩ ?_
   refine e_seq <| g_seq <| g_region <| l_all 2 [o0, (oa [.at 3])] [7, 8, 9] [Qb (w24.heap.size + 1)] [(7, .pointer (some ⟨w24.heap.size, 0, none⟩)), (8, .int .i64 150), (9, .pointer (some ⟨w24.heap.size + 1, 0, none⟩))] ⟨w, w24.heap.size + 2, [(old0 w), (moves_calls_m16 z c), (moves_calls_m11 w24), (moves_calls_m8 w24 frames room kk c)]⟩ ⟨rfl, trivial⟩ ?_
   refine e_seq <| g_seq <| g_region <| l_run 1 [(oa [.at 3, .at 3, .at 3, .at 3, .at 3, .at 3, .at 3])] [7, 8, 9, 30] [Qb (w24.heap.size + 1), Qb (w24.heap.size + 1), Qb (w24.heap.size + 1), Qb (w24.heap.size + 1), Qb (w24.heap.size + 1), Qb (w24.heap.size + 1), Qb (w24.heap.size + 1)] [(7, .pointer (some ⟨w24.heap.size, 0, none⟩)), (8, .int .i64 150), (9, .pointer (some ⟨w24.heap.size + 1, 0, none⟩)), (30, .agg #[.int .i64 frames, .int .i64 room, .int .i64 kk, .int .i64 room, .slice none 0 0, .slice c.Partitions.a c.Partitions.xs.length c.Partitions.cap, .slice c.Channels.a c.Channels.xs.length c.Channels.cap])] ⟨w, w24.heap.size + 2, [(old0 w), (moves_calls_m16 z c), (moves_calls_m11 w24), (moves_calls_m8 w24 frames room kk c)]⟩ ⟨rfl, rfl, rfl, rfl, rfl, rfl, rfl, trivial⟩ ?_
   refine l_call [] [] 15 #[.agg #[.int .i64 frames, .int .i64 room, .int .i64 kk, .int .i64 room, .slice none 0 0, .slice c.Partitions.a c.Partitions.xs.length c.Partitions.cap, .slice c.Channels.a c.Channels.xs.length c.Channels.cap]] (some 31) trivial ?_
   intro w25 hw25
   by_cases hok26 : confOk (⟨frames, room, kk, room, ⟨none, 0, []⟩, c.Partitions, c.Channels⟩ : TConfig) = true
   · refine (of_yes w25 (⟨frames, room, kk, room, ⟨none, 0, []⟩, c.Partitions, c.Channels⟩ : TConfig) (⟨hfr, hrm, hkI, hrm, slok_nil, (hc.ext (hw25.ext rfl) (fun _ h => h)).Partitions, (hc.ext (hw25.ext rfl) (fun _ h => h)).Channels⟩ : TConfig.ok Any w25 (⟨frames, room, kk, room, ⟨none, 0, []⟩, c.Partitions, c.Channels⟩ : TConfig)) hok26).mono ?_
     rintro e w27 ⟨lw27, rfl, hIw27, hLw27, hOw27, hkw27⟩
     have hfw27 := fine_of hok26; have hknw27 : 0 ≤ kk ∧ kk < 1024 := hfw27.kn
     rw [hw25.size] at hLw27 hOw27
     have hnw27 : w24.heap.size + 2 ≤ w27.heap.size := by have := hkw27.size; rw [hw25.size] at this; exact this
     refine ⟨_, _, rfl, hw25.keepsM hkw27, ?_⟩
     refine l_keep [7, 8, 9, 31] [(7, .pointer (some ⟨w24.heap.size, 0, none⟩)), (8, .int .i64 150), (9, .pointer (some ⟨w24.heap.size + 1, 0, none⟩)), (31, .tuple #[.agg (TLayout.arr lw27), .int .i64 0])] ?_
     refine l_all 6 [o0, o0, o0, o0, (oa [.at 5, .at 5, .at 5, .at 5]), o0] [7, 8, 9, 10, 11] [Qb w27.heap.size, Qb w27.heap.size, Qb w27.heap.size, Qb w27.heap.size] [(7, .pointer (some ⟨w24.heap.size, 0, none⟩)), (8, .int .i64 150), (9, .pointer (some ⟨w24.heap.size + 1, 0, none⟩)), (10, .pointer (some ⟨w27.heap.size, 0, none⟩)), (11, .int .i64 0)] ⟨w, w27.heap.size + 1, [(old0 w), (moves_calls_m16 z c), (moves_calls_m11 w24), (moves_calls_m8 w24 frames room kk c), (mid (w24.heap.size + 2) w27), (moves_calls_m13 w27 lw27)]⟩ ⟨rfl, rfl, rfl, rfl, trivial⟩ ?_
     refine e_seq <| g_seq <| g_seq ?_
     by_cases h28 : (kk : Int) = 1024
     · refine g_region <| l_all 8 [o0, (oa [.at 3]), oT, o0, o0] [7, 8, 9, 10, 11, 41] [Qb (w24.heap.size + 1), ET kk 1024] [(7, .pointer (some ⟨w24.heap.size, 0, none⟩)), (8, .int .i64 150), (9, .pointer (some ⟨w24.heap.size + 1, 0, none⟩)), (10, .pointer (some ⟨w27.heap.size, 0, none⟩)), (11, .int .i64 0), (41, .bool true)] ⟨w, w27.heap.size + 1, [(old0 w), (moves_calls_m16 z c), (moves_calls_m11 w24), (moves_calls_m8 w24 frames room kk c), (mid (w24.heap.size + 2) w27), (moves_calls_m13 w27 lw27)]⟩ ⟨rfl, et (by omega), trivial⟩ ?_
       refine e_seq <| g_true <| g_seq ?_
       by_cases h29 : (0 : Int) < kk
       · refine g_region <| l_all 14 [o0, (oa [.at 3]), oF, o0, o0, o0, o0, o0, o0, o0] [6] [Qb (w24.heap.size + 1), BF ((kk : Int) ≤ 0)] [(6, .bool false)] ⟨w, w27.heap.size + 1, [(old0 w), (moves_calls_m16 z c), (moves_calls_m11 w24), (moves_calls_m8 w24 frames room kk c), (mid (w24.heap.size + 2) w27), (moves_calls_m13 w27 lw27)]⟩ ⟨rfl, bf (by omega), trivial⟩ ?_
         refine e_seq <| g_ret <| e_ret [] [] (.bool false) trivial ?_
         intro w30 hw30
         exfalso; first | omega | exact hok26 (conf_step (c := c) (d := (⟨frames, room, kk, room, ⟨none, 0, []⟩, c.Partitions, c.Channels⟩ : TConfig)) rfl rfl ⟨show 0 ≤ kk by omega, show kk < 1024 by omega⟩ hok2) | exact hok2 (conf_step (c := (⟨frames, room, kk, room, ⟨none, 0, []⟩, c.Partitions, c.Channels⟩ : TConfig)) (d := c) rfl rfl ⟨show 0 ≤ c.Kernel by omega, show c.Kernel < 1024 by omega⟩ hok26)
       · refine g_region <| l_all 14 [o0, (oa [.at 3]), oT, o0, o0, o0] [6] [Qb (w24.heap.size + 1), BT ((kk : Int) ≤ 0)] [(6, .bool true)] ⟨w, w27.heap.size + 1, [(old0 w), (moves_calls_m16 z c), (moves_calls_m11 w24), (moves_calls_m8 w24 frames room kk c), (mid (w24.heap.size + 2) w27), (moves_calls_m13 w27 lw27)]⟩ ⟨rfl, bt (by omega), trivial⟩ ?_
         refine e_seq <| g_ret <| e_ret [] [] (.bool true) trivial ?_
         intro w31 hw31
         exact ⟨rfl, hw31.back rfl (show w.heap.size ≤ w27.heap.size + 1 by omega) (List.mem_cons_self ..)⟩
     · by_cases h32 : (0 : Int) < kk
       · refine g_region <| l_all 8 [o0, (oa [.at 3]), oF, o0, o0, (oa [.at 3]), oF, o0] [7, 8, 9, 10, 11, 41] [Qb (w24.heap.size + 1), EF kk 1024, Qb (w24.heap.size + 1), BF ((kk : Int) ≤ 0)] [(7, .pointer (some ⟨w24.heap.size, 0, none⟩)), (8, .int .i64 150), (9, .pointer (some ⟨w24.heap.size + 1, 0, none⟩)), (10, .pointer (some ⟨w27.heap.size, 0, none⟩)), (11, .int .i64 0), (41, .bool false)] ⟨w, w27.heap.size + 1, [(old0 w), (moves_calls_m16 z c), (moves_calls_m11 w24), (moves_calls_m8 w24 frames room kk c), (mid (w24.heap.size + 2) w27), (moves_calls_m13 w27 lw27)]⟩ ⟨rfl, ef (by omega), rfl, bf (by omega), trivial⟩ ?_
         refine e_seq <| g_false <| g_skip <| e_seq <| g_seq <| g_region <| l_all 21 [o0, o0, o0, o0, o0, o0, o0, o0] [6] [] [(6, .bool false)] ⟨w, w27.heap.size + 1, [(old0 w), (moves_calls_m16 z c), (moves_calls_m11 w24), (moves_calls_m8 w24 frames room kk c), (mid (w24.heap.size + 2) w27), (moves_calls_m13 w27 lw27)]⟩ trivial ?_
         refine e_seq <| g_ret <| e_ret [] [] (.bool false) trivial ?_
         intro w33 hw33
         exfalso; first | omega | exact hok26 (conf_step (c := c) (d := (⟨frames, room, kk, room, ⟨none, 0, []⟩, c.Partitions, c.Channels⟩ : TConfig)) rfl rfl ⟨show 0 ≤ kk by omega, show kk < 1024 by omega⟩ hok2) | exact hok2 (conf_step (c := (⟨frames, room, kk, room, ⟨none, 0, []⟩, c.Partitions, c.Channels⟩ : TConfig)) (d := c) rfl rfl ⟨show 0 ≤ c.Kernel by omega, show c.Kernel < 1024 by omega⟩ hok26)
       · refine g_region <| l_all 8 [o0, (oa [.at 3]), oF, o0, o0, (oa [.at 3]), oT, o0] [7, 8, 9, 10, 11, 41] [Qb (w24.heap.size + 1), EF kk 1024, Qb (w24.heap.size + 1), BT ((kk : Int) ≤ 0)] [(7, .pointer (some ⟨w24.heap.size, 0, none⟩)), (8, .int .i64 150), (9, .pointer (some ⟨w24.heap.size + 1, 0, none⟩)), (10, .pointer (some ⟨w27.heap.size, 0, none⟩)), (11, .int .i64 0), (41, .bool true)] ⟨w, w27.heap.size + 1, [(old0 w), (moves_calls_m16 z c), (moves_calls_m11 w24), (moves_calls_m8 w24 frames room kk c), (mid (w24.heap.size + 2) w27), (moves_calls_m13 w27 lw27)]⟩ ⟨rfl, ef (by omega), rfl, bt (by omega), trivial⟩ ?_
         refine e_seq <| g_true <| g_seq <| g_region <| l_all 14 [o0, (oa [.at 3]), oT, o0, o0, o0] [6] [Qb (w24.heap.size + 1), BT ((kk : Int) ≤ 0)] [(6, .bool true)] ⟨w, w27.heap.size + 1, [(old0 w), (moves_calls_m16 z c), (moves_calls_m11 w24), (moves_calls_m8 w24 frames room kk c), (mid (w24.heap.size + 2) w27), (moves_calls_m13 w27 lw27)]⟩ ⟨rfl, bt (by omega), trivial⟩ ?_
         refine e_seq <| g_ret <| e_ret [] [] (.bool true) trivial ?_
         intro w34 hw34
         exact ⟨rfl, hw34.back rfl (show w.heap.size ≤ w27.heap.size + 1 by omega) (List.mem_cons_self ..)⟩
   · refine (of_no w25 (⟨frames, room, kk, room, ⟨none, 0, []⟩, c.Partitions, c.Channels⟩ : TConfig) (⟨hfr, hrm, hkI, hrm, slok_nil, (hc.ext (hw25.ext rfl) (fun _ h => h)).Partitions, (hc.ext (hw25.ext rfl) (fun _ h => h)).Channels⟩ : TConfig.ok Any w25 (⟨frames, room, kk, room, ⟨none, 0, []⟩, c.Partitions, c.Channels⟩ : TConfig)) (Bool.eq_false_iff.2 hok26)).mono ?_
     rintro e w35 ⟨rfl, hkw35⟩
     have hnw35 : w24.heap.size + 2 ≤ w35.heap.size := by have := hkw35.size; rw [hw25.size] at this; exact this
     refine ⟨_, _, rfl, hw25.keeps hkw35, ?_⟩
     refine l_keep [7, 8, 9, 31] [(7, .pointer (some ⟨w24.heap.size, 0, none⟩)), (8, .int .i64 150), (9, .pointer (some ⟨w24.heap.size + 1, 0, none⟩)), (31, .tuple #[.agg #[.int .i64 0, .slice none 0 0, .slice none 0 0, .int .i64 0], .int .i64 150])] ?_
     refine l_all 6 [o0, o0, o0, o0, (oa [.at 4, .at 4, .at 4, .at 4]), o0] [7, 8, 9, 10, 11] [Qb w35.heap.size, Qb w35.heap.size, Qb w35.heap.size, Qb w35.heap.size] [(7, .pointer (some ⟨w24.heap.size, 0, none⟩)), (8, .int .i64 150), (9, .pointer (some ⟨w24.heap.size + 1, 0, none⟩)), (10, .pointer (some ⟨w35.heap.size, 0, none⟩)), (11, .int .i64 150)] ⟨w, w35.heap.size + 1, [(old0 w), (moves_calls_m16 z c), (moves_calls_m11 w24), (moves_calls_m8 w24 frames room kk c), (moves_calls_m12 w35)]⟩ ⟨rfl, rfl, rfl, rfl, trivial⟩ ?_
     refine e_seq <| g_seq <| g_seq ?_
     by_cases h36 : (kk : Int) = 1024
     · refine g_region <| l_all 8 [o0, (oa [.at 3]), oT, o0, o0] [7, 8, 9, 10, 11, 41] [Qb (w24.heap.size + 1), ET kk 1024] [(7, .pointer (some ⟨w24.heap.size, 0, none⟩)), (8, .int .i64 150), (9, .pointer (some ⟨w24.heap.size + 1, 0, none⟩)), (10, .pointer (some ⟨w35.heap.size, 0, none⟩)), (11, .int .i64 150), (41, .bool true)] ⟨w, w35.heap.size + 1, [(old0 w), (moves_calls_m16 z c), (moves_calls_m11 w24), (moves_calls_m8 w24 frames room kk c), (moves_calls_m12 w35)]⟩ ⟨rfl, et (by omega), trivial⟩ ?_
       refine e_seq <| g_true <| g_seq ?_
       by_cases h37 : (0 : Int) < kk
       · refine g_region <| l_all 14 [o0, (oa [.at 3]), oF, o0, o0, o0, o0, o0, (oa [.at 4]), o0, o0, o0, o0, o0] [6] [Qb (w24.heap.size + 1), BF ((kk : Int) ≤ 0), Qb w35.heap.size] [(6, .bool true)] ⟨w, w35.heap.size + 1, [(old0 w), (moves_calls_m16 z c), (moves_calls_m11 w24), (moves_calls_m8 w24 frames room kk c), (moves_calls_m12 w35)]⟩ ⟨rfl, bf (by omega), rfl, trivial⟩ ?_
         refine e_seq <| g_ret <| e_ret [] [] (.bool true) trivial ?_
         intro w38 hw38
         exact ⟨rfl, hw38.back rfl (show w.heap.size ≤ w35.heap.size + 1 by omega) (List.mem_cons_self ..)⟩
       · refine g_region <| l_all 14 [o0, (oa [.at 3]), oT, o0, o0, o0] [6] [Qb (w24.heap.size + 1), BT ((kk : Int) ≤ 0)] [(6, .bool true)] ⟨w, w35.heap.size + 1, [(old0 w), (moves_calls_m16 z c), (moves_calls_m11 w24), (moves_calls_m8 w24 frames room kk c), (moves_calls_m12 w35)]⟩ ⟨rfl, bt (by omega), trivial⟩ ?_
         refine e_seq <| g_ret <| e_ret [] [] (.bool true) trivial ?_
         intro w39 hw39
         exact ⟨rfl, hw39.back rfl (show w.heap.size ≤ w35.heap.size + 1 by omega) (List.mem_cons_self ..)⟩
     · by_cases h40 : (0 : Int) < kk
       · refine g_region <| l_all 8 [o0, (oa [.at 3]), oF, o0, o0, (oa [.at 3]), oF, o0] [7, 8, 9, 10, 11, 41] [Qb (w24.heap.size + 1), EF kk 1024, Qb (w24.heap.size + 1), BF ((kk : Int) ≤ 0)] [(7, .pointer (some ⟨w24.heap.size, 0, none⟩)), (8, .int .i64 150), (9, .pointer (some ⟨w24.heap.size + 1, 0, none⟩)), (10, .pointer (some ⟨w35.heap.size, 0, none⟩)), (11, .int .i64 150), (41, .bool false)] ⟨w, w35.heap.size + 1, [(old0 w), (moves_calls_m16 z c), (moves_calls_m11 w24), (moves_calls_m8 w24 frames room kk c), (moves_calls_m12 w35)]⟩ ⟨rfl, ef (by omega), rfl, bf (by omega), trivial⟩ ?_
         refine e_seq <| g_false <| g_skip <| e_seq <| g_seq <| g_region <| l_all 21 [o0, o0, o0, o0, o0, o0, o0, o0, o0, o0, o0, o0, o0, o0, o0, o0, o0, o0] [6] [] [(6, .bool true)] ⟨w, w35.heap.size + 1, [(old0 w), (moves_calls_m16 z c), (moves_calls_m11 w24), (moves_calls_m8 w24 frames room kk c), (moves_calls_m12 w35)]⟩ trivial ?_
         refine e_seq <| g_ret <| e_ret [] [] (.bool true) trivial ?_
         intro w41 hw41
         exact ⟨rfl, hw41.back rfl (show w.heap.size ≤ w35.heap.size + 1 by omega) (List.mem_cons_self ..)⟩
       · refine g_region <| l_all 8 [o0, (oa [.at 3]), oF, o0, o0, (oa [.at 3]), oT, o0] [7, 8, 9, 10, 11, 41] [Qb (w24.heap.size + 1), EF kk 1024, Qb (w24.heap.size + 1), BT ((kk : Int) ≤ 0)] [(7, .pointer (some ⟨w24.heap.size, 0, none⟩)), (8, .int .i64 150), (9, .pointer (some ⟨w24.heap.size + 1, 0, none⟩)), (10, .pointer (some ⟨w35.heap.size, 0, none⟩)), (11, .int .i64 150), (41, .bool true)] ⟨w, w35.heap.size + 1, [(old0 w), (moves_calls_m16 z c), (moves_calls_m11 w24), (moves_calls_m8 w24 frames room kk c), (moves_calls_m12 w35)]⟩ ⟨rfl, ef (by omega), rfl, bt (by omega), trivial⟩ ?_
         refine e_seq <| g_true <| g_seq <| g_region <| l_all 14 [o0, (oa [.at 3]), oT, o0, o0, o0] [6] [Qb (w24.heap.size + 1), BT ((kk : Int) ≤ 0)] [(6, .bool true)] ⟨w, w35.heap.size + 1, [(old0 w), (moves_calls_m16 z c), (moves_calls_m11 w24), (moves_calls_m8 w24 frames room kk c), (moves_calls_m12 w35)]⟩ ⟨rfl, bt (by omega), trivial⟩ ?_
         refine e_seq <| g_ret <| e_ret [] [] (.bool true) trivial ?_
         intro w42 hw42
         exact ⟨rfl, hw42.back rfl (show w.heap.size ≤ w35.heap.size + 1 by omega) (List.mem_cons_self ..)⟩

end Go.Proofs.Ytpoeaajkgblkmaa.Ly
