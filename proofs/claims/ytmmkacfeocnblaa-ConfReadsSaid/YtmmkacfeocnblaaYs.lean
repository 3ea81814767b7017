/- ConfReads. No conditions. -/
import Derived.Test.YtmmkacfeocnblaaYr
namespace Go.Proofs.Ytmmkacfeocnblaa.Ly
open Go Go.Proofs.Ytmmkacfeocnblaa.Eng Go.Proofs.Ytmmkacfeocnblaa.Mem
set_option linter.unusedSimpArgs false
set_option linter.unusedVariables false
set_option maxRecDepth 100000
abbrev qgqb_0 (z : Nat) (x3 : TConfig) : Ch := rowL z 69 8 TPartition.cells (.slice x3.Partitions.a x3.Partitions.xs.length x3.Partitions.cap) x3.Partitions.xs
abbrev qgqb_1 (z : Nat) (x3 : TConfig) : Ch := rowL z 62 1 (fun x : Sl TWindow => [Sl.val x]) (.slice x3.Cores.a x3.Cores.xs.length x3.Cores.cap) x3.Cores.xs
abbrev qgqb_2 (z : Nat) (x3 : TConfig) : Ch := rowL z 74 3 TChannel.cells (.slice x3.Channels.a x3.Channels.xs.length x3.Channels.cap) x3.Channels.xs
theorem reads_ok (w : World) (b : Sl Int) (hb : SlAt u8c 1 Any w b) (hB : Byt b.xs) (p : PConf) (hD : decP b.xs = .ok p) (hok : okPC p) : Calls Try.prog 5 #[.slice b.a b.xs.length b.cap] w fun e w' => e = .returned (.bool true) ∧ Keeps (fun _ => False) w w' := by
 obtain ⟨z, hz⟩ : ∃ z, z = w.heap.size := ⟨_, rfl⟩
 refine calls_G (args := [.slice b.a b.xs.length b.cap]) 34 ⟨w, z, [(old0 w)]⟩ Try.func5 rfl (by kernel_rfl) (by kernel_rfl) (sat_0 hz) ?_
 refine g_keep [0] [(0, .slice b.a b.xs.length b.cap)] ?_
 refine q_cS 6 1 [] [[o0], [o0]] [] [(0, .slice b.a b.xs.length b.cap), (10, .slice b.a b.xs.length b.cap)] rfl trivial ?_
 refine l_call [] [] 14 #[.slice b.a b.xs.length b.cap] (some 11) trivial ?_
 intro w1 hw1
 refine (decode_ok w1 b (sl_mono (hw1.ext rfl) (fun _ h => h) hb) hB p hD).mono ?_
 rintro e w2 ⟨x3, hplx3, rfl, hMw2, hkw2⟩
 obtain ⟨hnw2, hSw2⟩ := made_sat hw1 hkw2 hMw2 z (show z ≤ z by omega); have hnw2' : z ≤ w2.heap.size := hnw2
 refine ⟨_, _, rfl, hSw2, ?_⟩
 refine q_r 4 1 [] [[o0, o0, o0, o0, o0, (an 7 7), o0, o0], [o0]] [Qb w2.heap.size, Qb w2.heap.size, Qb w2.heap.size, Qb w2.heap.size, Qb w2.heap.size, Qb w2.heap.size, Qb w2.heap.size] [(3, pt w2.heap.size), (4, i6 0), (5, i6 0), (16, .slice b.a b.xs.length b.cap)] ⟨w, w2.heap.size + 1, [(old0 w), (qgqb_1 z x3), (famC z 97 3 TWindow.cells x3.Cores.xs), (qgqb_0 z x3), (famC z 99 4 TRegion.cells (x3.Partitions.xs.map TPartition.Regions)), (famC z 101 2 TPort.cells (x3.Partitions.xs.map TPartition.Ports)), (qgqb_2 z x3), (.blk w2.heap.size (.cells (TConfig.arr x3) 26 (0, 0)) true)]⟩ rfl ⟨rfl, rfl, rfl, rfl, rfl, rfl, rfl, trivial⟩ ?_
 refine l_call [] [] 15 #[.slice b.a b.xs.length b.cap] (some 17) trivial ?_
 intro w4 hw4
 refine (rdecode_ok w4 b (sl_mono (hw4.ext rfl) (fun _ h => h) hb) hB p hD).mono ?_
 rintro e w5 ⟨x6, hplx6, rfl, hMw5, hkw5⟩
 obtain ⟨hnw5, hSw5⟩ := made_sat hw4 hkw5 hMw5 z (show z ≤ w2.heap.size + 1 by omega); have hnw5' : w2.heap.size + 1 ≤ w5.heap.size := hnw5
 refine ⟨_, _, rfl, hSw5, ?_⟩
 refine q_r 4 11 [] [[o0, o0, o0, o0, o0, (an 7 14), o0, o0], [o0, o0, o0, o0, o0, o0, o0, o0, o0, (an 7 7), (an 7 14)]] [Qb w5.heap.size, Qb w5.heap.size, Qb w5.heap.size, Qb w5.heap.size, Qb w5.heap.size, Qb w5.heap.size, Qb w5.heap.size, Qb w2.heap.size, Qb w2.heap.size, Qb w2.heap.size, Qb w2.heap.size, Qb w2.heap.size, Qb w2.heap.size, Qb w2.heap.size, Qb w5.heap.size, Qb w5.heap.size, Qb w5.heap.size, Qb w5.heap.size, Qb w5.heap.size, Qb w5.heap.size, Qb w5.heap.size] [(29, .bool true), (30, .agg (TConfig.arr x3)), (31, .agg (TConfig.arr x6))] ⟨w, w5.heap.size + 1, [(old0 w), (qgqb_1 z x3), (famC z 97 3 TWindow.cells x3.Cores.xs), (qgqb_0 z x3), (famC z 99 4 TRegion.cells (x3.Partitions.xs.map TPartition.Regions)), (famC z 101 2 TPort.cells (x3.Partitions.xs.map TPartition.Ports)), (qgqb_2 z x3), (.blk w2.heap.size (.cells (TConfig.arr x3) 26 (0, 0)) true), (rowL z 62 1 (fun x : Sl TWindow => [Sl.val x]) (.slice x6.Cores.a x6.Cores.xs.length x6.Cores.cap) x6.Cores.xs), (famC z 97 3 TWindow.cells x6.Cores.xs), (rowL z 69 8 TPartition.cells (.slice x6.Partitions.a x6.Partitions.xs.length x6.Partitions.cap) x6.Partitions.xs), (famC z 99 4 TRegion.cells (x6.Partitions.xs.map TPartition.Regions)), (famC z 101 2 TPort.cells (x6.Partitions.xs.map TPartition.Ports)), (rowL z 74 3 TChannel.cells (.slice x6.Channels.a x6.Channels.xs.length x6.Channels.cap) x6.Channels.xs), (.blk w5.heap.size (.cells (TConfig.arr x6) 26 (0, 0)) true)]⟩ rfl ⟨rfl, rfl, rfl, rfl, rfl, rfl, rfl, rfl, rfl, rfl, rfl, rfl, rfl, rfl, rfl, rfl, rfl, rfl, rfl, rfl, rfl, trivial⟩ ?_
 refine l_call [] [] 16 #[.agg (TConfig.arr x3), .agg (TConfig.arr x6)] (some 32) trivial ?_
 intro w7 hw7
 refine (same_yes w7 x3 x6 (conf_sat (c := x3) (z := z) hw7 [1, 2, 3, 4, 5, 6] (hplx3 ▸ hok)) (conf_sat (c := x6) (z := z) hw7 [8, 9, 10, 11, 12, 13] (hplx6 ▸ hok)) (hplx3.trans hplx6.symm)).mono ?_
 rintro e w8 ⟨rfl, hkw8⟩
 have hnw8 : w5.heap.size + 1 ≤ w8.heap.size := size_of hw7 hkw8
 refine ⟨_, _, rfl, hw7.keeps hkw8, ?_⟩
 refine q_rS 3 0 [] [[o0, o0]] [] [(2, .bool true)] rfl trivial ?_
 refine e_ret [] [] (.bool true) trivial ?_
 intro w9 hw9
 exact ⟨rfl, back0 hw9⟩
theorem reads_bad (w : World) (b : Sl Int) (hb : SlAt u8c 1 Any w b) (hB : Byt b.xs) (er : Int) (q : Nat) (hD : decP b.xs = .bad er q) : Calls Try.prog 5 #[.slice b.a b.xs.length b.cap] w fun e w' => e = .returned (.bool true) ∧ Keeps (fun _ => False) w w' := by
 obtain ⟨z, hz⟩ : ∃ z, z = w.heap.size := ⟨_, rfl⟩
 refine calls_G (args := [.slice b.a b.xs.length b.cap]) 34 ⟨w, z, [(old0 w)]⟩ Try.func5 rfl (by kernel_rfl) (by kernel_rfl) (sat_0 hz) ?_
 refine g_keep [0] [(0, .slice b.a b.xs.length b.cap)] ?_
 refine q_cS 6 1 [] [[o0], [o0]] [] [(0, .slice b.a b.xs.length b.cap), (10, .slice b.a b.xs.length b.cap)] rfl trivial ?_
 refine l_call [] [] 14 #[.slice b.a b.xs.length b.cap] (some 11) trivial ?_
 intro w1 hw1
 refine (decode_bad w1 b (sl_mono (hw1.ext rfl) (fun _ h => h) hb) hB er q hD).mono ?_
 rintro e w2 ⟨rfl, hkw2⟩
 have hnw2 : z ≤ w2.heap.size := size_of hw1 hkw2
 refine ⟨_, _, rfl, hw1.keeps hkw2, ?_⟩
 refine q_r 4 1 [] [[o0, o0, o0, o0, o0, (an 7 1), o0, o0], [o0]] [Qb w2.heap.size, Qb w2.heap.size, Qb w2.heap.size, Qb w2.heap.size, Qb w2.heap.size, Qb w2.heap.size, Qb w2.heap.size] [(3, pt w2.heap.size), (4, i6 (q : Int)), (5, i6 er), (16, .slice b.a b.xs.length b.cap)] ⟨w, w2.heap.size + 1, [(old0 w), (.blk w2.heap.size (.cells (TConfig.arr cfg0) 26 (0, 0)) true)]⟩ rfl ⟨rfl, rfl, rfl, rfl, rfl, rfl, rfl, trivial⟩ ?_
 refine l_call [] [] 15 #[.slice b.a b.xs.length b.cap] (some 17) trivial ?_
 intro w3 hw3
 refine (rdecode_bad w3 b (sl_mono (hw3.ext rfl) (fun _ h => h) hb) hB er q hD).mono ?_
 rintro e w4 ⟨rfl, hkw4⟩
 have hnw4 : w2.heap.size + 1 ≤ w4.heap.size := size_of hw3 hkw4
 refine ⟨_, _, rfl, hw3.keeps hkw4, ?_⟩
 refine q_r 4 11 [] [[o0, o0, o0, o0, o0, (an 7 2), o0, o0], [o0, o0, oT, o0, o0, o0, oT, o0, o0, (an 7 1), (an 7 2)]] [Qb w4.heap.size, Qb w4.heap.size, Qb w4.heap.size, Qb w4.heap.size, Qb w4.heap.size, Qb w4.heap.size, Qb w4.heap.size, ET er er, ET (q : Int) (q : Int), Qb w2.heap.size, Qb w2.heap.size, Qb w2.heap.size, Qb w2.heap.size, Qb w2.heap.size, Qb w2.heap.size, Qb w2.heap.size, Qb w4.heap.size, Qb w4.heap.size, Qb w4.heap.size, Qb w4.heap.size, Qb w4.heap.size, Qb w4.heap.size, Qb w4.heap.size] [(29, .bool true), (30, .agg (TConfig.arr cfg0)), (31, .agg (TConfig.arr cfg0))] ⟨w, w4.heap.size + 1, [(old0 w), (.blk w2.heap.size (.cells (TConfig.arr cfg0) 26 (0, 0)) true), (.blk w4.heap.size (.cells (TConfig.arr cfg0) 26 (0, 0)) true)]⟩ rfl ⟨rfl, rfl, rfl, rfl, rfl, rfl, rfl, et (by omega), et (by omega), rfl, rfl, rfl, rfl, rfl, rfl, rfl, rfl, rfl, rfl, rfl, rfl, rfl, rfl, trivial⟩ ?_
 refine l_call [] [] 16 #[.agg (TConfig.arr cfg0), .agg (TConfig.arr cfg0)] (some 32) trivial ?_
 intro w5 hw5
 refine (same_yes w5 cfg0 cfg0 (cfg0_ok w5) (cfg0_ok w5) rfl).mono ?_
 rintro e w6 ⟨rfl, hkw6⟩
 have hnw6 : w4.heap.size + 1 ≤ w6.heap.size := size_of hw5 hkw6
 refine ⟨_, _, rfl, hw5.keeps hkw6, ?_⟩
 refine q_rS 3 0 [] [[o0, o0]] [] [(2, .bool true)] rfl trivial ?_
 refine e_ret [] [] (.bool true) trivial ?_
 intro w7 hw7
 exact ⟨rfl, back0 hw7⟩

theorem reads_calls (w : World) (b : Sl Int) (hb : SlAt u8c 1 Any w b) (hB : Byt b.xs) : Calls Try.prog 5 #[.slice b.a b.xs.length b.cap] w fun e w' => e = .returned (.bool true) ∧ Keeps (fun _ => False) w w' := by
  cases hD : decP b.xs with
  | ok p => exact reads_ok w b hb hB p hD ((dec_iff hB).1 hD).2.1
  | bad er q => exact reads_bad w b hb hB er q hD

end Go.Proofs.Ytmmkacfeocnblaa.Ly
