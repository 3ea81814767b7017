/- ConfBack, ConfOne. No conditions. -/
import Derived.Test.YtmmkacfeocnblaaYr
import Derived.Test.YtmmkacfeocnblaaXe
namespace Go.Proofs.Ytmmkacfeocnblaa.Ly
open Go Go.Proofs.Ytmmkacfeocnblaa.Eng Go.Proofs.Ytmmkacfeocnblaa.Mem
set_option linter.unusedSimpArgs false
set_option linter.unusedVariables false
set_option maxRecDepth 100000
theorem back_A (w : World) (c : TConfig) (hc : TConfig.ok Any w c) (hk1 : okCf c = true) (hk2 : (encB c).length ≤ 16384) (hok : okPC (plC c)) (hD : decP (encB c) = .ok (plC c)) : Calls Try.prog 6 #[.agg (TConfig.arr c)] w fun e w' => e = .returned (.bool true) ∧ Keeps (fun _ => False) w w' := by
 obtain ⟨z, hz⟩ : ∃ z, z = w.heap.size := ⟨_, rfl⟩
 refine calls_G (args := [.agg (TConfig.arr c)]) 48 ⟨w, z, [(old0 w)]⟩ Try.func6 rfl (by kernel_rfl) (by kernel_rfl) (sat_0 hz) ?_
 refine g_keep [0] [(0, .agg (TConfig.arr c))] ?_
 refine q_c 6 1 [] [[o0, o0], [(an 7 1)]] [Qb z, Qb z, Qb z, Qb z, Qb z, Qb z, Qb z] [(1, pt z), (9, .agg (TConfig.arr c))] ⟨w, z + 1, [(old0 w), (bk z (TConfig.arr c) 26)]⟩ rfl ⟨rfl, rfl, rfl, rfl, rfl, rfl, rfl, trivial⟩ ?_
 refine l_call [] [] 11 #[.agg (TConfig.arr c)] (some 10) trivial ?_
 intro w1 hw1
 refine (encode_A w1 c (hc.ext (hw1.ext rfl) (fun _ h => h)) hk1 hk2).mono ?_
 rintro e w2 ⟨a3, cp4, rfl, how2, hkw2⟩
 have hnw2 : z + 1 ≤ w2.heap.size := size_of hw1 hkw2
 rw [hw1.size] at how2
 refine ⟨_, _, rfl, hw1.keeps1 hkw2 (rowL (z + 1) 5 1 u8c (.slice a3 ((encB c).length) cp4) (encB c)) how2 (row_stable _ _ _ _ _ _) (fun b hb => how2.lt b hb), ?_⟩
 refine q_rS 12 1 [0] [[o0, o0, o0, o0, o0], [o0, o0], [o0]] [] [(1, pt z), (3, .slice a3 ((encB c).length) cp4), (27, .slice a3 ((encB c).length) cp4)] rfl trivial ?_
 refine l_call [] [] 14 #[.slice a3 ((encB c).length) cp4] (some 28) trivial ?_
 intro w5 hw5
 refine (decode_ok w5 ⟨a3, cp4, (encB c)⟩ (rowU_any hw5 (i := 2) rfl (by omega)) (encB_byt hk1) (plC c) hD).mono ?_
 rintro e w6 ⟨x7, hplx7, rfl, hMw6, hkw6⟩
 obtain ⟨hnw6, hSw6⟩ := made_sat hw5 hkw6 hMw6 z (show z ≤ w2.heap.size by omega); have hnw6' : w2.heap.size ≤ w6.heap.size := hnw6
 refine ⟨_, _, rfl, hSw6, ?_⟩
 refine q_r 4 14 [] [[o0, o0, o0, o0, o0, (an 7 9), o0, o0], [o0, o0, o0, o0, o0, o0, o0, o0, o0, oT, o0, o0, (an 7 1), (an 7 9)]] [Qb w6.heap.size, Qb w6.heap.size, Qb w6.heap.size, Qb w6.heap.size, Qb w6.heap.size, Qb w6.heap.size, Qb w6.heap.size, BT (((((encB c).length : Nat) : Int) : Int) ≤ 16384), Qb z, Qb z, Qb z, Qb z, Qb z, Qb z, Qb z, Qb w6.heap.size, Qb w6.heap.size, Qb w6.heap.size, Qb w6.heap.size, Qb w6.heap.size, Qb w6.heap.size, Qb w6.heap.size] [(43, .bool true), (44, .agg (TConfig.arr c)), (45, .agg (TConfig.arr x7))] ⟨w, w6.heap.size + 1, [(old0 w), (bk z (TConfig.arr c) 26), (rowL (z + 1) 5 1 u8c (.slice a3 ((encB c).length) cp4) (encB c)), (rowL z 62 1 (fun x : Sl TWindow => [Sl.val x]) (.slice x7.Cores.a x7.Cores.xs.length x7.Cores.cap) x7.Cores.xs), (famC z 97 3 TWindow.cells x7.Cores.xs), (rowL z 69 8 TPartition.cells (.slice x7.Partitions.a x7.Partitions.xs.length x7.Partitions.cap) x7.Partitions.xs), (famC z 99 4 TRegion.cells (x7.Partitions.xs.map TPartition.Regions)), (famC z 101 2 TPort.cells (x7.Partitions.xs.map TPartition.Ports)), (rowL z 74 3 TChannel.cells (.slice x7.Channels.a x7.Channels.xs.length x7.Channels.cap) x7.Channels.xs), (.blk w6.heap.size (.cells (TConfig.arr x7) 26 (0, 0)) true)]⟩ rfl ⟨rfl, rfl, rfl, rfl, rfl, rfl, rfl, bt (by omega), rfl, rfl, rfl, rfl, rfl, rfl, rfl, rfl, rfl, rfl, rfl, rfl, rfl, rfl, trivial⟩ ?_
 refine l_call [] [] 16 #[.agg (TConfig.arr c), .agg (TConfig.arr x7)] (some 46) trivial ?_
 intro w8 hw8
 refine (same_yes w8 c x7 (hc.ext (hw8.ext rfl) (fun _ h => h)) (conf_sat (c := x7) (z := z) hw8 [3, 4, 5, 6, 7, 8] (hplx7 ▸ hok)) hplx7.symm).mono ?_
 rintro e w9 ⟨rfl, hkw9⟩
 have hnw9 : w6.heap.size + 1 ≤ w9.heap.size := size_of hw8 hkw9
 refine ⟨_, _, rfl, hw8.keeps hkw9, ?_⟩
 refine q_rS 3 0 [] [[o0, o0]] [] [(2, .bool true)] rfl trivial ?_
 refine e_ret [] [] (.bool true) trivial ?_
 intro w10 hw10
 exact ⟨rfl, back0 hw10⟩
theorem back_B (w : World) (c : TConfig) (hc : TConfig.ok Any w c) (hk1 : okCf c = true) (hk2 : 16384 < (encB c).length) : Calls Try.prog 6 #[.agg (TConfig.arr c)] w fun e w' => e = .returned (.bool true) ∧ Keeps (fun _ => False) w w' := by
 obtain ⟨z, hz⟩ : ∃ z, z = w.heap.size := ⟨_, rfl⟩
 refine calls_G (args := [.agg (TConfig.arr c)]) 48 ⟨w, z, [(old0 w)]⟩ Try.func6 rfl (by kernel_rfl) (by kernel_rfl) (sat_0 hz) ?_
 refine g_keep [0] [(0, .agg (TConfig.arr c))] ?_
 refine q_c 6 1 [] [[o0, o0], [(an 7 1)]] [Qb z, Qb z, Qb z, Qb z, Qb z, Qb z, Qb z] [(1, pt z), (9, .agg (TConfig.arr c))] ⟨w, z + 1, [(old0 w), (bk z (TConfig.arr c) 26)]⟩ rfl ⟨rfl, rfl, rfl, rfl, rfl, rfl, rfl, trivial⟩ ?_
 refine l_call [] [] 11 #[.agg (TConfig.arr c)] (some 10) trivial ?_
 intro w1 hw1
 refine (encode_B w1 c (hc.ext (hw1.ext rfl) (fun _ h => h)) hk1 hk2).mono ?_
 rintro e w2 ⟨rfl, hkw2⟩
 have hnw2 : z + 1 ≤ w2.heap.size := size_of hw1 hkw2
 refine ⟨_, _, rfl, hw1.keeps hkw2, ?_⟩
 refine q_rS 13 0 [1] [[o0, o0, o0, o0, o0], [o0, o0], [o0, o0, o0, o0, o0, o0, o0, o0, o0, o0, o0, o0]] [] [(2, .bool true)] rfl trivial ?_
 refine e_ret [] [] (.bool true) trivial ?_
 intro w3 hw3
 exact ⟨rfl, back0 hw3⟩
theorem back_C (w : World) (c : TConfig) (hc : TConfig.ok Any w c) (hk1 : okCf c = false) : Calls Try.prog 6 #[.agg (TConfig.arr c)] w fun e w' => e = .returned (.bool true) ∧ Keeps (fun _ => False) w w' := by
 obtain ⟨z, hz⟩ : ∃ z, z = w.heap.size := ⟨_, rfl⟩
 refine calls_G (args := [.agg (TConfig.arr c)]) 48 ⟨w, z, [(old0 w)]⟩ Try.func6 rfl (by kernel_rfl) (by kernel_rfl) (sat_0 hz) ?_
 refine g_keep [0] [(0, .agg (TConfig.arr c))] ?_
 refine q_c 6 1 [] [[o0, o0], [(an 7 1)]] [Qb z, Qb z, Qb z, Qb z, Qb z, Qb z, Qb z] [(1, pt z), (9, .agg (TConfig.arr c))] ⟨w, z + 1, [(old0 w), (bk z (TConfig.arr c) 26)]⟩ rfl ⟨rfl, rfl, rfl, rfl, rfl, rfl, rfl, trivial⟩ ?_
 refine l_call [] [] 11 #[.agg (TConfig.arr c)] (some 10) trivial ?_
 intro w1 hw1
 refine (encode_C w1 c (hc.ext (hw1.ext rfl) (fun _ h => h)) hk1).mono ?_
 rintro e w2 ⟨rfl, hkw2⟩
 have hnw2 : z + 1 ≤ w2.heap.size := size_of hw1 hkw2
 refine ⟨_, _, rfl, hw1.keeps hkw2, ?_⟩
 refine q_rS 13 0 [1] [[o0, o0, o0, o0, o0], [o0, o0], [o0, o0, o0, o0, o0, o0, o0, o0, o0, o0]] [] [(2, .bool true)] rfl trivial ?_
 refine e_ret [] [] (.bool true) trivial ?_
 intro w3 hw3
 exact ⟨rfl, back0 hw3⟩

theorem back_calls (w : World) (c : TConfig) (hc : TConfig.ok Any w c) : Calls Try.prog 6 #[.agg (TConfig.arr c)] w fun e w' => e = .returned (.bool true) ∧ Keeps (fun _ => False) w w' := by
  by_cases h1 : okCf c = true
  · by_cases h2 : (encB c).length ≤ 16384
    · have hI := pink_of_ok hc
      have hok := (okCf_iff hI).1 h1
      exact back_A w c hc h1 h2 hok ((dec_iff (encB_byt h1)).2 ⟨h2, hok, encB_is hI hok⟩)
    · exact back_B w c hc h1 (by omega)
  · exact back_C w c hc (Bool.eq_false_iff.2 h1)
theorem one_ok (w : World) (b : Sl Int) (hb : SlAt u8c 1 Any w b) (hB : Byt b.xs) (p : PConf) (hD : decP b.xs = .ok p) (hok : okPC p) (hlen : b.xs.length ≤ 16384) (hEp : b.xs = encPC p) : Calls Try.prog 7 #[.slice b.a b.xs.length b.cap] w fun e w' => e = .returned (.bool true) ∧ Keeps (fun _ => False) w w' := by
 obtain ⟨z, hz⟩ : ∃ z, z = w.heap.size := ⟨_, rfl⟩
 refine calls_G (args := [.slice b.a b.xs.length b.cap]) 38 ⟨w, z, [(old0 w)]⟩ Try.func7 rfl (by kernel_rfl) (by kernel_rfl) (sat_0 hz) ?_
 refine g_keep [0] [(0, .slice b.a b.xs.length b.cap)] ?_
 refine q_cS 6 1 [] [[o0], [o0]] [] [(0, .slice b.a b.xs.length b.cap), (9, .slice b.a b.xs.length b.cap)] rfl trivial ?_
 refine l_call [] [] 14 #[.slice b.a b.xs.length b.cap] (some 10) trivial ?_
 intro w1 hw1
 refine (decode_ok w1 b (sl_mono (hw1.ext rfl) (fun _ h => h) hb) hB p hD).mono ?_
 rintro e w2 ⟨x3, hplx3, rfl, hMw2, hkw2⟩
 obtain ⟨hnw2, hSw2⟩ := made_sat hw1 hkw2 hMw2 z (show z ≤ z by omega); have hnw2' : z ≤ w2.heap.size := hnw2
 refine ⟨_, _, rfl, hSw2, ?_⟩
 refine q_r 12 1 [0] [[o0, o0, o0, o0, o0, (an 7 7), o0, o0], [o0, o0], [(an 7 7)]] [Qb w2.heap.size, Qb w2.heap.size, Qb w2.heap.size, Qb w2.heap.size, Qb w2.heap.size, Qb w2.heap.size, Qb w2.heap.size, Qb w2.heap.size, Qb w2.heap.size, Qb w2.heap.size, Qb w2.heap.size, Qb w2.heap.size, Qb w2.heap.size, Qb w2.heap.size] [(0, .slice b.a b.xs.length b.cap), (27, .agg (TConfig.arr x3))] ⟨w, w2.heap.size + 1, [(old0 w), (rowL z 62 1 (fun x : Sl TWindow => [Sl.val x]) (.slice x3.Cores.a x3.Cores.xs.length x3.Cores.cap) x3.Cores.xs), (famC z 97 3 TWindow.cells x3.Cores.xs), (rowL z 69 8 TPartition.cells (.slice x3.Partitions.a x3.Partitions.xs.length x3.Partitions.cap) x3.Partitions.xs), (famC z 99 4 TRegion.cells (x3.Partitions.xs.map TPartition.Regions)), (famC z 101 2 TPort.cells (x3.Partitions.xs.map TPartition.Ports)), (rowL z 74 3 TChannel.cells (.slice x3.Channels.a x3.Channels.xs.length x3.Channels.cap) x3.Channels.xs), (.blk w2.heap.size (.cells (TConfig.arr x3) 26 (0, 0)) true)]⟩ rfl ⟨rfl, rfl, rfl, rfl, rfl, rfl, rfl, rfl, rfl, rfl, rfl, rfl, rfl, rfl, trivial⟩ ?_
 refine l_call [] [] 11 #[.agg (TConfig.arr x3)] (some 28) trivial ?_
 intro w4 hw4
 have hok2 : okPC (plC x3) := hplx3 ▸ hok; have hI2 := pink_of_plain hok2; have hk1 : okCf x3 = true := (okCf_iff hI2).2 hok2; have hEb : encB x3 = b.xs := by rw [encB_is hI2 hok2, hplx3, ← hEp]
 have hk2 : (encB x3).length ≤ 16384 := by rw [hEb]; exact hlen
 refine (encode_A w4 x3 (conf_sat (c := x3) (z := z) hw4 [1, 2, 3, 4, 5, 6] (hplx3 ▸ hok)) hk1 hk2).mono ?_
 rintro e w5 ⟨a6, cp7, rfl, how5, hkw5⟩
 have hnw5 : w2.heap.size + 1 ≤ w5.heap.size := size_of hw4 hkw5
 rw [hw4.size] at how5
 refine ⟨_, _, rfl, hw4.keeps1 hkw5 (rowL (w2.heap.size + 1) 5 1 u8c (.slice a6 ((encB x3).length) cp7) (encB x3)) how5 (row_stable _ _ _ _ _ _) (fun b hb => how5.lt b hb), ?_⟩
 refine q_rS 4 5 [] [[o0, o0, o0, o0, o0], [o0, o0, o0, o0, o0]] [] [(33, .bool true), (34, .slice a6 ((encB x3).length) cp7), (35, .slice b.a b.xs.length b.cap)] rfl trivial ?_
 refine l_call [] [] 13 #[.slice a6 ((encB x3).length) cp7, .slice b.a b.xs.length b.cap] (some 36) trivial ?_
 intro w8 hw8
 refine (sameb_yes w8 ⟨a6, cp7, (encB x3)⟩ b (rowU_any hw8 (i := 8) rfl (by omega)) (sl_mono (hw8.ext rfl) (fun _ h => h) hb) (encB_byt hk1) hB hEb).mono ?_
 rintro e w9 ⟨rfl, hkw9⟩
 have hnw9 : w5.heap.size ≤ w9.heap.size := size_of hw8 hkw9
 refine ⟨_, _, rfl, hw8.keeps hkw9, ?_⟩
 refine q_rS 3 0 [] [[o0, o0]] [] [(2, .bool true)] rfl trivial ?_
 refine e_ret [] [] (.bool true) trivial ?_
 intro w10 hw10
 exact ⟨rfl, back0 hw10⟩
theorem one_bad2 (w : World) (b : Sl Int) (hb : SlAt u8c 1 Any w b) (hB : Byt b.xs) (q : Nat) (hD : decP b.xs = .bad 2 q) : Calls Try.prog 7 #[.slice b.a b.xs.length b.cap] w fun e w' => e = .returned (.bool true) ∧ Keeps (fun _ => False) w w' := by
 obtain ⟨z, hz⟩ : ∃ z, z = w.heap.size := ⟨_, rfl⟩
 refine calls_G (args := [.slice b.a b.xs.length b.cap]) 38 ⟨w, z, [(old0 w)]⟩ Try.func7 rfl (by kernel_rfl) (by kernel_rfl) (sat_0 hz) ?_
 refine g_keep [0] [(0, .slice b.a b.xs.length b.cap)] ?_
 refine q_cS 6 1 [] [[o0], [o0]] [] [(0, .slice b.a b.xs.length b.cap), (9, .slice b.a b.xs.length b.cap)] rfl trivial ?_
 refine l_call [] [] 14 #[.slice b.a b.xs.length b.cap] (some 10) trivial ?_
 intro w1 hw1
 refine (decode_bad w1 b (sl_mono (hw1.ext rfl) (fun _ h => h) hb) hB 2 q hD).mono ?_
 rintro e w2 ⟨rfl, hkw2⟩
 have hnw2 : z ≤ w2.heap.size := size_of hw1 hkw2
 refine ⟨_, _, rfl, hw1.keeps hkw2, ?_⟩
 refine q_r 13 0 [1] [[o0, o0, o0, o0, o0, (an 7 1), o0, o0], [o0, o0], [o0, o0, o0, o0, o0, o0, o0]] [Qb w2.heap.size, Qb w2.heap.size, Qb w2.heap.size, Qb w2.heap.size, Qb w2.heap.size, Qb w2.heap.size, Qb w2.heap.size] [(2, .bool true)] ⟨w, w2.heap.size + 1, [(old0 w), (.blk w2.heap.size (.cells (TConfig.arr cfg0) 26 (0, 0)) true)]⟩ rfl ⟨rfl, rfl, rfl, rfl, rfl, rfl, rfl, trivial⟩ ?_
 refine e_ret [] [] (.bool true) trivial ?_
 intro w3 hw3
 exact ⟨rfl, back0 hw3⟩
theorem one_bad110 (w : World) (b : Sl Int) (hb : SlAt u8c 1 Any w b) (hB : Byt b.xs) (q : Nat) (hD : decP b.xs = .bad 110 q) : Calls Try.prog 7 #[.slice b.a b.xs.length b.cap] w fun e w' => e = .returned (.bool true) ∧ Keeps (fun _ => False) w w' := by
 obtain ⟨z, hz⟩ : ∃ z, z = w.heap.size := ⟨_, rfl⟩
 refine calls_G (args := [.slice b.a b.xs.length b.cap]) 38 ⟨w, z, [(old0 w)]⟩ Try.func7 rfl (by kernel_rfl) (by kernel_rfl) (sat_0 hz) ?_
 refine g_keep [0] [(0, .slice b.a b.xs.length b.cap)] ?_
 refine q_cS 6 1 [] [[o0], [o0]] [] [(0, .slice b.a b.xs.length b.cap), (9, .slice b.a b.xs.length b.cap)] rfl trivial ?_
 refine l_call [] [] 14 #[.slice b.a b.xs.length b.cap] (some 10) trivial ?_
 intro w1 hw1
 refine (decode_bad w1 b (sl_mono (hw1.ext rfl) (fun _ h => h) hb) hB 110 q hD).mono ?_
 rintro e w2 ⟨rfl, hkw2⟩
 have hnw2 : z ≤ w2.heap.size := size_of hw1 hkw2
 refine ⟨_, _, rfl, hw1.keeps hkw2, ?_⟩
 refine q_r 13 0 [1] [[o0, o0, o0, o0, o0, (an 7 1), o0, o0], [o0, o0], [o0, o0, o0, o0, o0, o0, o0, o0, o0]] [Qb w2.heap.size, Qb w2.heap.size, Qb w2.heap.size, Qb w2.heap.size, Qb w2.heap.size, Qb w2.heap.size, Qb w2.heap.size] [(2, .bool true)] ⟨w, w2.heap.size + 1, [(old0 w), (.blk w2.heap.size (.cells (TConfig.arr cfg0) 26 (0, 0)) true)]⟩ rfl ⟨rfl, rfl, rfl, rfl, rfl, rfl, rfl, trivial⟩ ?_
 refine e_ret [] [] (.bool true) trivial ?_
 intro w3 hw3
 exact ⟨rfl, back0 hw3⟩
theorem one_bad111 (w : World) (b : Sl Int) (hb : SlAt u8c 1 Any w b) (hB : Byt b.xs) (q : Nat) (hD : decP b.xs = .bad 111 q) : Calls Try.prog 7 #[.slice b.a b.xs.length b.cap] w fun e w' => e = .returned (.bool true) ∧ Keeps (fun _ => False) w w' := by
 obtain ⟨z, hz⟩ : ∃ z, z = w.heap.size := ⟨_, rfl⟩
 refine calls_G (args := [.slice b.a b.xs.length b.cap]) 38 ⟨w, z, [(old0 w)]⟩ Try.func7 rfl (by kernel_rfl) (by kernel_rfl) (sat_0 hz) ?_
 refine g_keep [0] [(0, .slice b.a b.xs.length b.cap)] ?_
 refine q_cS 6 1 [] [[o0], [o0]] [] [(0, .slice b.a b.xs.length b.cap), (9, .slice b.a b.xs.length b.cap)] rfl trivial ?_
 refine l_call [] [] 14 #[.slice b.a b.xs.length b.cap] (some 10) trivial ?_
 intro w1 hw1
 refine (decode_bad w1 b (sl_mono (hw1.ext rfl) (fun _ h => h) hb) hB 111 q hD).mono ?_
 rintro e w2 ⟨rfl, hkw2⟩
 have hnw2 : z ≤ w2.heap.size := size_of hw1 hkw2
 refine ⟨_, _, rfl, hw1.keeps hkw2, ?_⟩
 refine q_r 13 0 [1] [[o0, o0, o0, o0, o0, (an 7 1), o0, o0], [o0, o0], [o0, o0, o0, o0, o0, o0, o0, o0, o0, o0, o0]] [Qb w2.heap.size, Qb w2.heap.size, Qb w2.heap.size, Qb w2.heap.size, Qb w2.heap.size, Qb w2.heap.size, Qb w2.heap.size] [(2, .bool true)] ⟨w, w2.heap.size + 1, [(old0 w), (.blk w2.heap.size (.cells (TConfig.arr cfg0) 26 (0, 0)) true)]⟩ rfl ⟨rfl, rfl, rfl, rfl, rfl, rfl, rfl, trivial⟩ ?_
 refine e_ret [] [] (.bool true) trivial ?_
 intro w3 hw3
 exact ⟨rfl, back0 hw3⟩

theorem one_calls (w : World) (b : Sl Int) (hb : SlAt u8c 1 Any w b) (hB : Byt b.xs) : Calls Try.prog 7 #[.slice b.a b.xs.length b.cap] w fun e w' => e = .returned (.bool true) ∧ Keeps (fun _ => False) w w' := by
  cases hD : decP b.xs with
  | ok p =>
    obtain ⟨h1, h2, h3⟩ := (dec_iff hB).1 hD
    exact one_ok w b hb hB p hD h2 h1 h3
  | bad er q =>
    rcases decP_bad hD with ⟨rfl, -⟩ | ⟨-, rfl⟩ | ⟨-, rfl, -⟩
    · exact one_bad2 w b hb hB q hD
    · exact one_bad110 w b hb hB q hD
    · exact one_bad111 w b hb hB q hD

end Go.Proofs.Ytmmkacfeocnblaa.Ly
