/- The document's Encode. No conditions. -/
import Derived.Test.YtmmkacfeocnblaaXc
namespace Go.Proofs.Ytmmkacfeocnblaa.Ly
open Go Go.Proofs.Ytmmkacfeocnblaa.Eng Go.Proofs.Ytmmkacfeocnblaa.Mem
set_option linter.unusedSimpArgs false
set_option linter.unusedVariables false
set_option maxRecDepth 100000

theorem okW_has {x : TWindow} (h : okW x = true) (hI : InK .i64 x.Partition) : (-1 ≤ x.Partition ∧ x.Partition < 4294967295) ∧ (0 ≤ x.Usable ∧ x.Usable ≤ 4294967295) ∧ (0 ≤ x.Slack ∧ x.Slack ≤ 4294967295) ∧ encW x = leB (x.Partition + 1) 4 ++ leB x.Usable 4 ++ leB x.Slack 4 := by
  rw [okW_is hI] at h
  simp only [Bool.and_eq_true, decide_eq_true_eq] at h
  obtain ⟨⟨h1, h2⟩, h3, h4⟩ := h
  refine ⟨⟨h1, h2⟩, okNum_yes h3, okNum_yes h4, ?_⟩
  unfold encW
  rw [wr_i64 (b := x.Partition + 1) rfl (by omega) (by omega)]
theorem lst_at {α : Type} [Inhabited α] {ok : α → Bool} {xs : List α} (h : okLst ok xs = true) : xs.length ≤ 255 ∧ ∀ q, q < xs.length → ok (gd xs q) = true := by
  have h1 := okLst_len h
  unfold okLst at h
  simp only [Bool.and_eq_true, List.all_eq_true] at h
  exact ⟨h1, fun q hq => h.2 _ (by rw [gd_eq hq]; exact List.getElem_mem hq)⟩
theorem okCf_has {c : TConfig} (h : okCf c = true) : ((0 ≤ c.Frames ∧ c.Frames ≤ 4294967295) ∧ (0 ≤ c.Major ∧ c.Major ≤ 4294967295) ∧ (0 ≤ c.Kernel ∧ c.Kernel ≤ 4294967295) ∧ (0 ≤ c.Room ∧ c.Room ≤ 4294967295)) ∧ okLst okWs c.Cores.xs = true ∧ okLst okPt c.Partitions.xs = true ∧ okLst okC c.Channels.xs = true := by
  unfold okCf at h
  simp only [Bool.and_eq_true] at h
  obtain ⟨⟨⟨h1, h2⟩, h3⟩, h4⟩ := h
  have h5 : ∀ n ∈ ns4 c, 0 ≤ n ∧ n ≤ 4294967295 := fun n hn => okNum_yes (List.all_eq_true.1 h1 n hn)
  exact ⟨⟨h5 _ (by simp [ns4]), h5 _ (by simp [ns4]), h5 _ (by simp [ns4]), h5 _ (by simp [ns4])⟩, h2, h3, h4⟩
theorem head_bytes : leB 826493762 4 = [66, 75, 67, 49] := by decide
theorem formB_le {c : TConfig} (h : okCf c = true) : (formB c).length ≤ 3000000 := by
  obtain ⟨-, h1, h2, h3⟩ := okCf_has h
  have g1 := encWs_lst h1
  have g2 := encPt_lst h2
  have g3 := encC_lst h3
  unfold formB ns4
  simp only [List.length_append, leB_len, List.flatMap_cons, List.flatMap_nil, List.length_nil]
  omega
abbrev qhl8_0 (w16 : World) (c : TConfig) : Ch := .blk w16.heap.size (.cells #[.int .u8 ((c.Cores.xs.length : Nat) : Int)] 5 (0, 0)) true
abbrev qhl8_1 (n22 : Nat) (c : TConfig) : Ch := bk n22 #[.int .u8 ((c.Partitions.xs.length : Nat) : Int)] 5
abbrev qhl8_2 (n64 : Nat) (c : TConfig) : Ch := bk n64 #[.int .u8 ((c.Channels.xs.length : Nat) : Int)] 5
abbrev qhl8_3 (n22 : Nat) (y31 : Sl TWindow) : Ch := bk n22 #[.int .u8 ((y31.xs.length : Nat) : Int)] 5
abbrev qhl8_4 (z : Nat) (c : TConfig) : Ch := bk z (TConfig.arr c) 26
abbrev qhl8_5 (z : Nat) (aD : Option Addr) (c : TConfig) (i : Nat) (j : Nat) (k2 : Nat) (cD : Nat) : Ch := rowL z 5 1 u8c (.slice aD (((((((((([66, 75, 67, 49] : List Int) ++ leB c.Frames 4) ++ leB c.Major 4) ++ leB c.Kernel 4) ++ leB c.Room 4) ++ [((c.Cores.xs.length : Nat) : Int)]) ++ (c.Cores.xs.take i).flatMap encWs ++ [((c.Partitions.xs.length : Nat) : Int)]) ++ (c.Partitions.xs.take j).flatMap encPt ++ [((c.Channels.xs.length : Nat) : Int)]) ++ (c.Channels.xs.take k2).flatMap encC).length) cD) ((((((((([66, 75, 67, 49] : List Int) ++ leB c.Frames 4) ++ leB c.Major 4) ++ leB c.Kernel 4) ++ leB c.Room 4) ++ [((c.Cores.xs.length : Nat) : Int)]) ++ (c.Cores.xs.take i).flatMap encWs ++ [((c.Partitions.xs.length : Nat) : Int)]) ++ (c.Partitions.xs.take j).flatMap encPt ++ [((c.Channels.xs.length : Nat) : Int)]) ++ (c.Channels.xs.take k2).flatMap encC)
abbrev qhl8_6 (z : Nat) (aP : Option Addr) (c : TConfig) (i : Nat) (j : Nat) (cP : Nat) : Ch := rowL z 5 1 u8c (.slice aP ((((((((([66, 75, 67, 49] : List Int) ++ leB c.Frames 4) ++ leB c.Major 4) ++ leB c.Kernel 4) ++ leB c.Room 4) ++ [((c.Cores.xs.length : Nat) : Int)]) ++ (c.Cores.xs.take i).flatMap encWs ++ [((c.Partitions.xs.length : Nat) : Int)]) ++ (c.Partitions.xs.take j).flatMap encPt).length) cP) (((((((([66, 75, 67, 49] : List Int) ++ leB c.Frames 4) ++ leB c.Major 4) ++ leB c.Kernel 4) ++ leB c.Room 4) ++ [((c.Cores.xs.length : Nat) : Int)]) ++ (c.Cores.xs.take i).flatMap encWs ++ [((c.Partitions.xs.length : Nat) : Int)]) ++ (c.Partitions.xs.take j).flatMap encPt)
abbrev qhl8_7 (z : Nat) (aW : Option Addr) (c : TConfig) (i : Nat) (y31 : Sl TWindow) (k : Nat) (cW : Nat) : Ch := rowL z 5 1 u8c (.slice aW ((((((((([66, 75, 67, 49] : List Int) ++ leB c.Frames 4) ++ leB c.Major 4) ++ leB c.Kernel 4) ++ leB c.Room 4) ++ [((c.Cores.xs.length : Nat) : Int)]) ++ (c.Cores.xs.take i).flatMap encWs ++ [((y31.xs.length : Nat) : Int)]) ++ (y31.xs.take k).flatMap encW).length) cW) (((((((([66, 75, 67, 49] : List Int) ++ leB c.Frames 4) ++ leB c.Major 4) ++ leB c.Kernel 4) ++ leB c.Room 4) ++ [((c.Cores.xs.length : Nat) : Int)]) ++ (c.Cores.xs.take i).flatMap encWs ++ [((y31.xs.length : Nat) : Int)]) ++ (y31.xs.take k).flatMap encW)
abbrev qhl8_8 (z : Nat) (aC : Option Addr) (c : TConfig) (i : Nat) (cC : Nat) : Ch := rowL z 5 1 u8c (.slice aC (((((((([66, 75, 67, 49] : List Int) ++ leB c.Frames 4) ++ leB c.Major 4) ++ leB c.Kernel 4) ++ leB c.Room 4) ++ [((c.Cores.xs.length : Nat) : Int)]) ++ (c.Cores.xs.take i).flatMap encWs).length) cC) ((((((([66, 75, 67, 49] : List Int) ++ leB c.Frames 4) ++ leB c.Major 4) ++ leB c.Kernel 4) ++ leB c.Room 4) ++ [((c.Cores.xs.length : Nat) : Int)]) ++ (c.Cores.xs.take i).flatMap encWs)
abbrev qhl8_9 (aD : Option Addr) (c : TConfig) (i : Nat) (j : Nat) (k2 : Nat) (cD : Nat) : Nat × Value := (3, .slice aD (((((((((([66, 75, 67, 49] : List Int) ++ leB c.Frames 4) ++ leB c.Major 4) ++ leB c.Kernel 4) ++ leB c.Room 4) ++ [((c.Cores.xs.length : Nat) : Int)]) ++ (c.Cores.xs.take i).flatMap encWs ++ [((c.Partitions.xs.length : Nat) : Int)]) ++ (c.Partitions.xs.take j).flatMap encPt ++ [((c.Channels.xs.length : Nat) : Int)]) ++ (c.Channels.xs.take k2).flatMap encC).length) cD)
abbrev qhl8_10 (aP : Option Addr) (c : TConfig) (i : Nat) (j : Nat) (cP : Nat) : Nat × Value := (3, .slice aP ((((((((([66, 75, 67, 49] : List Int) ++ leB c.Frames 4) ++ leB c.Major 4) ++ leB c.Kernel 4) ++ leB c.Room 4) ++ [((c.Cores.xs.length : Nat) : Int)]) ++ (c.Cores.xs.take i).flatMap encWs ++ [((c.Partitions.xs.length : Nat) : Int)]) ++ (c.Partitions.xs.take j).flatMap encPt).length) cP)
abbrev qhl8_11 (aW : Option Addr) (c : TConfig) (i : Nat) (y31 : Sl TWindow) (k : Nat) (cW : Nat) : Nat × Value := (3, .slice aW ((((((((([66, 75, 67, 49] : List Int) ++ leB c.Frames 4) ++ leB c.Major 4) ++ leB c.Kernel 4) ++ leB c.Room 4) ++ [((c.Cores.xs.length : Nat) : Int)]) ++ (c.Cores.xs.take i).flatMap encWs ++ [((y31.xs.length : Nat) : Int)]) ++ (y31.xs.take k).flatMap encW).length) cW)
abbrev qhl8_12 (aC : Option Addr) (c : TConfig) (i : Nat) (cC : Nat) : Nat × Value := (3, .slice aC (((((((([66, 75, 67, 49] : List Int) ++ leB c.Frames 4) ++ leB c.Major 4) ++ leB c.Kernel 4) ++ leB c.Room 4) ++ [((c.Cores.xs.length : Nat) : Int)]) ++ (c.Cores.xs.take i).flatMap encWs).length) cC)
abbrev qhl8_13 (c : TConfig) : Nat × Value := (103, i6 ((c.Partitions.xs.length : Nat) : Int))
abbrev qhl8_14 (c : TConfig) : Nat × Value := (124, i6 ((c.Channels.xs.length : Nat) : Int))
abbrev qhl8_15 (c : TConfig) : Nat × Value := (35, i6 ((c.Cores.xs.length : Nat) : Int))
abbrev qhl8_16 (y31 : Sl TWindow) : Nat × Value := (54, i6 ((y31.xs.length : Nat) : Int))
set_option maxHeartbeats 1000000 in
theorem form_calls (w : World) (c : TConfig) (hc : TConfig.ok Any w c) (hok : okCf c = true) : Calls Try.prog 38 #[.agg (TConfig.arr c)] w fun e w' => ∃ a2 cap2, e = .returned (.slice a2 (formB c).length cap2) ∧ w'.ownsRow w.heap.size 5 1 (.slice a2 (formB c).length cap2) (formB c).length ((formB c).flatMap u8c) ∧ Keeps (fun _ => False) w w' := by
 obtain ⟨z, hz⟩ : ∃ z, z = w.heap.size := ⟨_, rfl⟩
 refine calls_G (args := [.agg (TConfig.arr c)]) 154 ⟨w, z, [(old0 w)]⟩ Try.func38 rfl (by kernel_rfl) (by kernel_rfl) (sat_0 hz) ?_
 have hcl := hc.lt; obtain ⟨⟨⟨hn1, hn2⟩, ⟨hn3, hn4⟩, ⟨hn5, hn6⟩, hn7, hn8⟩, hk1, hk2, hk3⟩ := okCf_has hok; obtain ⟨hW1, hW2⟩ := lst_at hk1; obtain ⟨hP1, hP2⟩ := lst_at hk2; obtain ⟨hC1, hC2⟩ := lst_at hk3
 refine g_keep [0] [(0, .agg (TConfig.arr c))] ?_
 refine q_c 6 1 [] [[o0, o0], [o0]] [] [(1, pt z), (8, .slice (some ⟨z + 1, 0, none⟩) 4 4)] ⟨w, z + 2, [(old0 w), (qhl8_4 z c), (bk (z + 1) #[.int .u8 66, .int .u8 75, .int .u8 67, .int .u8 49] 5)]⟩ rfl trivial ?_
 refine l_mark 2 (z + 1) 4 4 #[.int .u8 66, .int .u8 75, .int .u8 67, .int .u8 49] 5 (some 9) (?_ : Lg _ _ _ _ ⟨w, z + 2, [(old0 w), (qhl8_4 z c), (Ch.blk (z + 1) (.cells #[.int .u8 66, .int .u8 75, .int .u8 67, .int .u8 49] 5 (4, 5)) true)]⟩ _ _ _ _)
 refine q_rS 3 0 [] [[o0]] [] [(1, pt z), (3, .slice (some ⟨z + 1, 0, none⟩) 4 4)] rfl trivial ?_
 refine g_rowM 2 (z + 1) z 5 1 u8c ([66, 75, 67, 49] : List Int) #[.int .u8 66, .int .u8 75, .int .u8 67, .int .u8 49] (4, 5) (by omega) (?_ : G _ _ _ _ ⟨w, z + 2, [(old0 w), (qhl8_4 z c), (rowM z 5 1 u8c 0 (.slice (some ⟨z + 1, 0, none⟩) 4 4) ([66, 75, 67, 49] : List Int))]⟩ _ _ _)
 refine q_cS 1 3 [] [[o0, o0, (a1 1)]] [Qb z] [(1, pt z), (10, .slice (some ⟨z + 1, 0, none⟩) 4 4), (12, i6 c.Frames)] rfl ⟨rfl, trivial⟩ ?_
 refine l_call [] [] 69 #[.slice (some ⟨z + 1, 0, none⟩) 4 4, i6 c.Frames] (some 13) trivial ?_
 intro w1 hw1
 refine (rnumber0_calls w1 z (some ⟨z + 1, 0, none⟩) 4 ([66, 75, 67, 49] : List Int) c.Frames (by omega) (by first | omega | (simp only [List.length_append, leB_len, strB_len, List.length_cons, List.length_nil]; omega)) (Nat.le_trans (show z ≤ z + 2 by omega) (Nat.le_of_eq hw1.size.symm)) (hw1.at (i := 2) rfl)).mono ?_
 intro e w4 hpw4
 obtain ⟨a2, cp3, rfl, hmw4, hSw4⟩ := rowpostM_sat hw1 (i := 2) rfl hpw4; have hnw4 : z + 2 ≤ w4.heap.size := hmw4
 refine ⟨_, _, rfl, hSw4, ?_⟩
 refine q_rS 4 3 [] [[o0], [o0, o0, (a1 1)]] [Qb z] [(1, pt z), (14, .slice a2 ((([66, 75, 67, 49] : List Int) ++ leB c.Frames 4).length) cp3), (16, i6 c.Major)] rfl ⟨rfl, trivial⟩ ?_
 refine l_call [] [] 69 #[.slice a2 ((([66, 75, 67, 49] : List Int) ++ leB c.Frames 4).length) cp3, i6 c.Major] (some 17) trivial ?_
 intro w5 hw5
 refine (rnumber_calls w5 z a2 cp3 (([66, 75, 67, 49] : List Int) ++ leB c.Frames 4) c.Major (by omega) (by first | omega | (simp only [List.length_append, leB_len, strB_len, List.length_cons, List.length_nil]; omega)) (Nat.le_trans (show z ≤ w4.heap.size by omega) (Nat.le_of_eq hw5.size.symm)) (hw5.at (i := 2) rfl)).mono ?_
 intro e w8 hpw8
 obtain ⟨a6, cp7, rfl, hmw8, hSw8⟩ := rowpost_sat hw5 (i := 2) rfl hpw8; have hnw8 : w4.heap.size ≤ w8.heap.size := hmw8
 refine ⟨_, _, rfl, hSw8, ?_⟩
 refine q_rS 4 3 [] [[o0], [o0, o0, (a1 1)]] [Qb z] [(1, pt z), (18, .slice a6 (((([66, 75, 67, 49] : List Int) ++ leB c.Frames 4) ++ leB c.Major 4).length) cp7), (20, i6 c.Kernel)] rfl ⟨rfl, trivial⟩ ?_
 refine l_call [] [] 69 #[.slice a6 (((([66, 75, 67, 49] : List Int) ++ leB c.Frames 4) ++ leB c.Major 4).length) cp7, i6 c.Kernel] (some 21) trivial ?_
 intro w9 hw9
 refine (rnumber_calls w9 z a6 cp7 ((([66, 75, 67, 49] : List Int) ++ leB c.Frames 4) ++ leB c.Major 4) c.Kernel (by omega) (by first | omega | (simp only [List.length_append, leB_len, strB_len, List.length_cons, List.length_nil]; omega)) (Nat.le_trans (show z ≤ w8.heap.size by omega) (Nat.le_of_eq hw9.size.symm)) (hw9.at (i := 2) rfl)).mono ?_
 intro e w12 hpw12
 obtain ⟨a10, cp11, rfl, hmw12, hSw12⟩ := rowpost_sat hw9 (i := 2) rfl hpw12; have hnw12 : w8.heap.size ≤ w12.heap.size := hmw12
 refine ⟨_, _, rfl, hSw12, ?_⟩
 refine q_rS 4 3 [] [[o0], [o0, o0, (a1 1)]] [Qb z] [(1, pt z), (22, .slice a10 ((((([66, 75, 67, 49] : List Int) ++ leB c.Frames 4) ++ leB c.Major 4) ++ leB c.Kernel 4).length) cp11), (24, i6 c.Room)] rfl ⟨rfl, trivial⟩ ?_
 refine l_call [] [] 69 #[.slice a10 ((((([66, 75, 67, 49] : List Int) ++ leB c.Frames 4) ++ leB c.Major 4) ++ leB c.Kernel 4).length) cp11, i6 c.Room] (some 25) trivial ?_
 intro w13 hw13
 refine (rnumber_calls w13 z a10 cp11 (((([66, 75, 67, 49] : List Int) ++ leB c.Frames 4) ++ leB c.Major 4) ++ leB c.Kernel 4) c.Room (by omega) (by first | omega | (simp only [List.length_append, leB_len, strB_len, List.length_cons, List.length_nil]; omega)) (Nat.le_trans (show z ≤ w12.heap.size by omega) (Nat.le_of_eq hw13.size.symm)) (hw13.at (i := 2) rfl)).mono ?_
 intro e w16 hpw16
 obtain ⟨a14, cp15, rfl, hmw16, hSw16⟩ := rowpost_sat hw13 (i := 2) rfl hpw16; have hnw16 : w12.heap.size ≤ w16.heap.size := hmw16
 refine ⟨_, _, rfl, hSw16, ?_⟩
 refine q_r 4 6 [] [[o0], [o0, o0, (a1 1), o0, (ov (.int .u8 ((c.Cores.xs.length : Nat) : Int))), o0]] [Qb z, Value.int .u8 (IntKind.u8.wrap (((c.Cores.xs.length : Nat) : Int))) = Value.int .u8 (((c.Cores.xs.length : Nat) : Int))] [(1, pt z), (26, .slice a14 (((((([66, 75, 67, 49] : List Int) ++ leB c.Frames 4) ++ leB c.Major 4) ++ leB c.Kernel 4) ++ leB c.Room 4).length) cp15), (31, .slice (some ⟨w16.heap.size, 0, none⟩) 1 1)] ⟨w, w16.heap.size + 1, [(old0 w), (qhl8_4 z c), (rowL z 5 1 u8c (.slice a14 (((((([66, 75, 67, 49] : List Int) ++ leB c.Frames 4) ++ leB c.Major 4) ++ leB c.Kernel 4) ++ leB c.Room 4).length) cp15) ((((([66, 75, 67, 49] : List Int) ++ leB c.Frames 4) ++ leB c.Major 4) ++ leB c.Kernel 4) ++ leB c.Room 4)), (qhl8_0 w16 c)]⟩ rfl ⟨rfl, congrArg (Value.int .u8) (wr_u8 rfl (by omega) (by omega)), trivial⟩ ?_
 refine l_push z 2 3 ((((([66, 75, 67, 49] : List Int) ++ leB c.Frames 4) ++ leB c.Major 4) ++ leB c.Kernel 4) ++ leB c.Room 4) [((c.Cores.xs.length : Nat) : Int)] u8c 5 1 1 (.slice a14 (((((([66, 75, 67, 49] : List Int) ++ leB c.Frames 4) ++ leB c.Major 4) ++ leB c.Kernel 4) ++ leB c.Room 4).length) cp15) w16.heap.size 1 1 #[.int .u8 ((c.Cores.xs.length : Nat) : Int)] 5 (0, 0) true (some 32) (by first | omega | (simp only [List.length_append, leB_len, strB_len, List.length_cons, List.length_nil]; omega)) (show z ≤ w16.heap.size + 1 by omega) (fun a17 cp18 n19 (hn20 : w16.heap.size + 1 ≤ n19) => ?_)
 refine q_rS 8 0 [] [[o0], [o0, (a1 1), o0, o0]] [Qb z] [(1, pt z), (3, .slice a17 ((((((([66, 75, 67, 49] : List Int) ++ leB c.Frames 4) ++ leB c.Major 4) ++ leB c.Kernel 4) ++ leB c.Room 4) ++ [((c.Cores.xs.length : Nat) : Int)]).length) cp18), (qhl8_15 c), (36, i6 0)] rfl ⟨rfl, trivial⟩ ?_
 refine g_loop (fun m a w' => ∃ (n22 : Nat) (i : Nat) (aC : Option Addr) (cC : Nat), m = c.Cores.xs.length - i ∧ n19 ≤ n22 ∧ (i ≤ c.Cores.xs.length) ∧ St 154 [(1, pt z), (qhl8_12 aC c i cC), (qhl8_15 c), (36, i6 (i : Int))] [] ⟨w, n22, [(old0 w), (qhl8_4 z c), (qhl8_8 z aC c i cC), (qhl8_0 w16 c)]⟩ a w') (c.Cores.xs.length - 0) ?_ ?_
 · intro a w' hs; exact ⟨n19, 0, a17, cp18, rfl, Nat.le_refl _, Nat.zero_le _, by (try dsimp only [qhl8_0, qhl8_1, qhl8_2, qhl8_3, qhl8_4, qhl8_5, qhl8_6, qhl8_7, qhl8_8, qhl8_9, qhl8_10, qhl8_11, qhl8_12, qhl8_13, qhl8_14, qhl8_15, qhl8_16] at hs ⊢); rw [List.take_zero, List.flatMap_nil, List.append_nil]; exact hs⟩
 · rintro m a w' ⟨n22, i, aC, cC, rfl, hn21, hki, hs⟩
   refine (?_ : G Try.prog 154 [(1, pt z), (qhl8_12 aC c i cC), (qhl8_15 c), (36, i6 (i : Int))] [] ⟨w, n22, [(old0 w), (qhl8_4 z c), (qhl8_8 z aC c i cC), (qhl8_0 w16 c)]⟩ _ _ _) a w' hs
   clear hs a w'
   have hfl := flat_le (enc := encWs) (K := 3061) (xs := c.Cores.xs) i (by omega) (fun q hq => encWs_le (hW2 q (by omega)))
   refine g_seq ?_
   by_cases h23 : ((i : Int) : Int) < ((c.Cores.xs.length : Nat) : Int)
   · refine q_cS 14 0 [1] [[oT], [o0, o0]] [BT (((i : Int) : Int) < ((c.Cores.xs.length : Nat) : Int))] [(1, pt z), (qhl8_12 aC c i cC), (qhl8_15 c), (36, i6 (i : Int)), (4, i6 (i : Int))] rfl ⟨bt (by omega), trivial⟩ ?_
     obtain ⟨b24, o25, ha26, hF28, hc27⟩ := (hcl.Cores).1.all (show 0 < c.Cores.xs.length by omega)
     replace ha26 : c.Cores.a = some ⟨b24, o25, none⟩ := ha26
     have hc29 := hc27 i (show i < c.Cores.xs.length by omega)
     have he30 := (hcl.Cores).2 i (show i < c.Cores.xs.length by omega)
     obtain ⟨y31, hy31⟩ : ∃ y_, y_ = gd c.Cores.xs i := ⟨_, rfl⟩
     rw [← hy31] at he30 hc29
     have hyoy31 := hW2 i (by omega); rw [← hy31] at hyoy31; obtain ⟨hyly31, hywy31⟩ := lst_at hyoy31
     refine q_c 1 9 [] [[o0, o0, ⟨.auto [.at 1], some (.slice (some ⟨b24, o25, none⟩) c.Cores.xs.length c.Cores.cap)⟩, o0, (oi i), (oa [.via 0 (.slice y31.a y31.xs.length y31.cap)]), o0, (ov (.int .u8 ((y31.xs.length : Nat) : Int))), o0]] [Qb z, Value.slice c.Cores.a c.Cores.xs.length c.Cores.cap = Value.slice (some ⟨b24, o25, none⟩) c.Cores.xs.length c.Cores.cap, ((i : Int) : Int) = ((i : Nat) : Int), i < c.Cores.xs.length, (none : Option Nat) = none, Old w b24 (o25 + i) (.slice y31.a y31.xs.length y31.cap), Value.int .u8 (IntKind.u8.wrap (((y31.xs.length : Nat) : Int))) = Value.int .u8 (((y31.xs.length : Nat) : Int))] [(1, pt z), (qhl8_15 c), (36, i6 (i : Int)), (4, i6 (i : Int)), (39, .slice aC (((((((([66, 75, 67, 49] : List Int) ++ leB c.Frames 4) ++ leB c.Major 4) ++ leB c.Kernel 4) ++ leB c.Room 4) ++ [((c.Cores.xs.length : Nat) : Int)]) ++ (c.Cores.xs.take i).flatMap encWs).length) cC), (47, .slice (some ⟨n22, 0, none⟩) 1 1)] ⟨w, n22 + 1, [(old0 w), (qhl8_4 z c), (qhl8_8 z aC c i cC), (qhl8_0 w16 c), (qhl8_3 n22 y31)]⟩ rfl ⟨rfl, congrArg (fun a => Value.slice a _ _) ha26, rfl, (by omega), rfl, old_cell' (hc29 0 _ rfl), congrArg (Value.int .u8) (wr_u8 rfl (by omega) (by omega)), trivial⟩ ?_
     refine l_push z 2 4 ((((((([66, 75, 67, 49] : List Int) ++ leB c.Frames 4) ++ leB c.Major 4) ++ leB c.Kernel 4) ++ leB c.Room 4) ++ [((c.Cores.xs.length : Nat) : Int)]) ++ (c.Cores.xs.take i).flatMap encWs) [((y31.xs.length : Nat) : Int)] u8c 5 1 1 (.slice aC (((((((([66, 75, 67, 49] : List Int) ++ leB c.Frames 4) ++ leB c.Major 4) ++ leB c.Kernel 4) ++ leB c.Room 4) ++ [((c.Cores.xs.length : Nat) : Int)]) ++ (c.Cores.xs.take i).flatMap encWs).length) cC) n22 1 1 #[.int .u8 ((y31.xs.length : Nat) : Int)] 5 (0, 0) true (some 48) (by first | omega | (simp only [List.length_append, leB_len, strB_len, List.length_cons, List.length_nil]; omega)) (show z ≤ n22 + 1 by omega) (fun a32 cp33 n34 (hn35 : n22 + 1 ≤ n34) => ?_)
     refine q_rS 7 0 [] [[o0], [o0, ⟨.auto [.at 1], some (.slice (some ⟨b24, o25, none⟩) c.Cores.xs.length c.Cores.cap)⟩, o0, (oi i), (oa [.via 0 (.slice y31.a y31.xs.length y31.cap)]), o0, o0]] [Qb z, Value.slice c.Cores.a c.Cores.xs.length c.Cores.cap = Value.slice (some ⟨b24, o25, none⟩) c.Cores.xs.length c.Cores.cap, ((i : Int) : Int) = ((i : Nat) : Int), i < c.Cores.xs.length, (none : Option Nat) = none, Old w b24 (o25 + i) (.slice y31.a y31.xs.length y31.cap)] [(1, pt z), (3, .slice a32 (((((((([66, 75, 67, 49] : List Int) ++ leB c.Frames 4) ++ leB c.Major 4) ++ leB c.Kernel 4) ++ leB c.Room 4) ++ [((c.Cores.xs.length : Nat) : Int)]) ++ (c.Cores.xs.take i).flatMap encWs ++ [((y31.xs.length : Nat) : Int)]).length) cp33), (4, i6 (i : Int)), (qhl8_15 c), (36, i6 (i : Int)), (qhl8_16 y31), (55, i6 0)] rfl ⟨rfl, congrArg (fun a => Value.slice a _ _) ha26, rfl, (by omega), rfl, old_cell' (hc29 0 _ rfl), trivial⟩ ?_
     refine g_loop (fun m a w' => ∃ (n37 : Nat) (k : Nat) (aW : Option Addr) (cW : Nat), m = y31.xs.length - k ∧ n34 ≤ n37 ∧ (k ≤ y31.xs.length) ∧ St 154 [(1, pt z), (qhl8_11 aW c i y31 k cW), (4, i6 (i : Int)), (qhl8_15 c), (36, i6 (i : Int)), (qhl8_16 y31), (55, i6 (k : Int))] [] ⟨w, n37, [(old0 w), (qhl8_4 z c), (qhl8_7 z aW c i y31 k cW), (qhl8_0 w16 c), (qhl8_3 n22 y31)]⟩ a w') (y31.xs.length - 0) ?_ ?_
     · intro a w' hs; exact ⟨n34, 0, a32, cp33, rfl, Nat.le_refl _, Nat.zero_le _, by (try dsimp only [qhl8_0, qhl8_1, qhl8_2, qhl8_3, qhl8_4, qhl8_5, qhl8_6, qhl8_7, qhl8_8, qhl8_9, qhl8_10, qhl8_11, qhl8_12, qhl8_13, qhl8_14, qhl8_15, qhl8_16] at hs ⊢); rw [List.take_zero, List.flatMap_nil, List.append_nil]; exact hs⟩
     · rintro m a w' ⟨n37, k, aW, cW, rfl, hn36, hkk, hs⟩
       refine (?_ : G Try.prog 154 [(1, pt z), (qhl8_11 aW c i y31 k cW), (4, i6 (i : Int)), (qhl8_15 c), (36, i6 (i : Int)), (qhl8_16 y31), (55, i6 (k : Int))] [] ⟨w, n37, [(old0 w), (qhl8_4 z c), (qhl8_7 z aW c i y31 k cW), (qhl8_0 w16 c), (qhl8_3 n22 y31)]⟩ _ _ _) a w' hs
       clear hs a w'
       have hfl2 := flat_le (enc := encW) (K := 12) (xs := y31.xs) k (by omega) (fun q _ => by rw [encW_len]; exact Nat.le_refl _)
       refine g_seq ?_
       by_cases h38 : ((k : Int) : Int) < ((y31.xs.length : Nat) : Int)
       · refine q_cS 14 0 [1] [[oT], [o0, o0]] [BT (((k : Int) : Int) < ((y31.xs.length : Nat) : Int))] [(1, pt z), (qhl8_11 aW c i y31 k cW), (4, i6 (i : Int)), (qhl8_15 c), (36, i6 (i : Int)), (qhl8_16 y31), (55, i6 (k : Int)), (5, i6 (k : Int))] rfl ⟨bt (by omega), trivial⟩ ?_
         obtain ⟨b39, o40, ha41, hF43, hc42⟩ := (he30).1.all (show 0 < y31.xs.length by omega)
         replace ha41 : y31.a = some ⟨b39, o40, none⟩ := ha41
         have hc44 := hc42 k (show k < y31.xs.length by omega)
         have he45 := (he30).2 k (show k < y31.xs.length by omega)
         obtain ⟨y46, hy46⟩ : ∃ y_, y_ = gd y31.xs k := ⟨_, rfl⟩
         rw [← hy46] at he45 hc44
         have hpiy46 : InK .i64 y46.Partition := he45.Partition; have hyy46 := hywy31 k (by omega); rw [← hy46] at hyy46; obtain ⟨⟨g1y46, g2y46⟩, ⟨g3y46, g4y46⟩, ⟨g5y46, g6y46⟩, gEy46⟩ := okW_has hyy46 hpiy46
         refine q_cS 1 11 [] [[o0, o0, ⟨.auto [.at 1], some (.slice (some ⟨b24, o25, none⟩) c.Cores.xs.length c.Cores.cap)⟩, o0, (oi i), ⟨.auto [.via 0 (.slice y31.a y31.xs.length y31.cap)], some (.slice (some ⟨b39, o40, none⟩) y31.xs.length y31.cap)⟩, o0, (oi k), o0, (oa [.via 0 (i6 y46.Partition)]), (ov (i6 (y46.Partition + 1)))]] [Qb z, Value.slice c.Cores.a c.Cores.xs.length c.Cores.cap = Value.slice (some ⟨b24, o25, none⟩) c.Cores.xs.length c.Cores.cap, ((i : Int) : Int) = ((i : Nat) : Int), i < c.Cores.xs.length, (none : Option Nat) = none, Old w b24 (o25 + i) (.slice y31.a y31.xs.length y31.cap), Value.slice y31.a y31.xs.length y31.cap = Value.slice (some ⟨b39, o40, none⟩) y31.xs.length y31.cap, ((k : Int) : Int) = ((k : Nat) : Int), k < y31.xs.length, (none : Option Nat) = none, Old w b39 (o40 + k * 3) (i6 y46.Partition), Wr ((y46.Partition : Int) + 1) (y46.Partition + 1)] [(1, pt z), (4, i6 (i : Int)), (qhl8_15 c), (36, i6 (i : Int)), (qhl8_16 y31), (55, i6 (k : Int)), (5, i6 (k : Int)), (58, .slice aW ((((((((([66, 75, 67, 49] : List Int) ++ leB c.Frames 4) ++ leB c.Major 4) ++ leB c.Kernel 4) ++ leB c.Room 4) ++ [((c.Cores.xs.length : Nat) : Int)]) ++ (c.Cores.xs.take i).flatMap encWs ++ [((y31.xs.length : Nat) : Int)]) ++ (y31.xs.take k).flatMap encW).length) cW), (68, i6 (y46.Partition + 1))] rfl ⟨rfl, congrArg (fun a => Value.slice a _ _) ha26, rfl, (by omega), rfl, old_cell' (hc29 0 _ rfl), congrArg (fun a => Value.slice a _ _) ha41, rfl, (by omega), rfl, old_cell' (hc44 0 _ rfl), wrI, trivial⟩ ?_
         refine l_call [] [] 69 #[.slice aW ((((((((([66, 75, 67, 49] : List Int) ++ leB c.Frames 4) ++ leB c.Major 4) ++ leB c.Kernel 4) ++ leB c.Room 4) ++ [((c.Cores.xs.length : Nat) : Int)]) ++ (c.Cores.xs.take i).flatMap encWs ++ [((y31.xs.length : Nat) : Int)]) ++ (y31.xs.take k).flatMap encW).length) cW, i6 (y46.Partition + 1)] (some 69) trivial ?_
         intro w47 hw47
         refine (rnumber_calls w47 z aW cW (((((((([66, 75, 67, 49] : List Int) ++ leB c.Frames 4) ++ leB c.Major 4) ++ leB c.Kernel 4) ++ leB c.Room 4) ++ [((c.Cores.xs.length : Nat) : Int)]) ++ (c.Cores.xs.take i).flatMap encWs ++ [((y31.xs.length : Nat) : Int)]) ++ (y31.xs.take k).flatMap encW) (y46.Partition + 1) (by omega) (by first | omega | (simp only [List.length_append, leB_len, strB_len, List.length_cons, List.length_nil]; omega)) (Nat.le_trans (show z ≤ n37 by omega) (Nat.le_of_eq hw47.size.symm)) (hw47.at (i := 2) rfl)).mono ?_
         intro e w50 hpw50
         obtain ⟨a48, cp49, rfl, hmw50, hSw50⟩ := rowpost_sat hw47 (i := 2) rfl hpw50; have hnw50 : n37 ≤ w50.heap.size := hmw50
         refine ⟨_, _, rfl, hSw50, ?_⟩
         refine q_rS 4 10 [] [[o0], [o0, o0, ⟨.auto [.at 1], some (.slice (some ⟨b24, o25, none⟩) c.Cores.xs.length c.Cores.cap)⟩, o0, (oi i), ⟨.auto [.via 0 (.slice y31.a y31.xs.length y31.cap)], some (.slice (some ⟨b39, o40, none⟩) y31.xs.length y31.cap)⟩, o0, (oi k), o0, (oa [.via 0 (i6 y46.Usable)])]] [Qb z, Value.slice c.Cores.a c.Cores.xs.length c.Cores.cap = Value.slice (some ⟨b24, o25, none⟩) c.Cores.xs.length c.Cores.cap, ((i : Int) : Int) = ((i : Nat) : Int), i < c.Cores.xs.length, (none : Option Nat) = none, Old w b24 (o25 + i) (.slice y31.a y31.xs.length y31.cap), Value.slice y31.a y31.xs.length y31.cap = Value.slice (some ⟨b39, o40, none⟩) y31.xs.length y31.cap, ((k : Int) : Int) = ((k : Nat) : Int), k < y31.xs.length, (none : Option Nat) = none, Old w b39 (o40 + k * 3 + 1) (i6 y46.Usable)] [(1, pt z), (4, i6 (i : Int)), (qhl8_15 c), (36, i6 (i : Int)), (qhl8_16 y31), (55, i6 (k : Int)), (5, i6 (k : Int)), (70, .slice a48 ((((((((([66, 75, 67, 49] : List Int) ++ leB c.Frames 4) ++ leB c.Major 4) ++ leB c.Kernel 4) ++ leB c.Room 4) ++ [((c.Cores.xs.length : Nat) : Int)]) ++ (c.Cores.xs.take i).flatMap encWs ++ [((y31.xs.length : Nat) : Int)]) ++ (y31.xs.take k).flatMap encW ++ leB (y46.Partition + 1) 4).length) cp49), (79, i6 y46.Usable)] rfl ⟨rfl, congrArg (fun a => Value.slice a _ _) ha26, rfl, (by omega), rfl, old_cell' (hc29 0 _ rfl), congrArg (fun a => Value.slice a _ _) ha41, rfl, (by omega), rfl, old_cell' (hc44 1 _ rfl), trivial⟩ ?_
         refine l_call [] [] 69 #[.slice a48 ((((((((([66, 75, 67, 49] : List Int) ++ leB c.Frames 4) ++ leB c.Major 4) ++ leB c.Kernel 4) ++ leB c.Room 4) ++ [((c.Cores.xs.length : Nat) : Int)]) ++ (c.Cores.xs.take i).flatMap encWs ++ [((y31.xs.length : Nat) : Int)]) ++ (y31.xs.take k).flatMap encW ++ leB (y46.Partition + 1) 4).length) cp49, i6 y46.Usable] (some 80) trivial ?_
         intro w51 hw51
         refine (rnumber_calls w51 z a48 cp49 (((((((([66, 75, 67, 49] : List Int) ++ leB c.Frames 4) ++ leB c.Major 4) ++ leB c.Kernel 4) ++ leB c.Room 4) ++ [((c.Cores.xs.length : Nat) : Int)]) ++ (c.Cores.xs.take i).flatMap encWs ++ [((y31.xs.length : Nat) : Int)]) ++ (y31.xs.take k).flatMap encW ++ leB (y46.Partition + 1) 4) y46.Usable (by omega) (by first | omega | (simp only [List.length_append, leB_len, strB_len, List.length_cons, List.length_nil]; omega)) (Nat.le_trans (show z ≤ w50.heap.size by omega) (Nat.le_of_eq hw51.size.symm)) (hw51.at (i := 2) rfl)).mono ?_
         intro e w54 hpw54
         obtain ⟨a52, cp53, rfl, hmw54, hSw54⟩ := rowpost_sat hw51 (i := 2) rfl hpw54; have hnw54 : w50.heap.size ≤ w54.heap.size := hmw54
         refine ⟨_, _, rfl, hSw54, ?_⟩
         refine q_rS 3 10 [] [[o0], [o0, o0, ⟨.auto [.at 1], some (.slice (some ⟨b24, o25, none⟩) c.Cores.xs.length c.Cores.cap)⟩, o0, (oi i), ⟨.auto [.via 0 (.slice y31.a y31.xs.length y31.cap)], some (.slice (some ⟨b39, o40, none⟩) y31.xs.length y31.cap)⟩, o0, (oi k), o0, (oa [.via 0 (i6 y46.Slack)])]] [Qb z, Value.slice c.Cores.a c.Cores.xs.length c.Cores.cap = Value.slice (some ⟨b24, o25, none⟩) c.Cores.xs.length c.Cores.cap, ((i : Int) : Int) = ((i : Nat) : Int), i < c.Cores.xs.length, (none : Option Nat) = none, Old w b24 (o25 + i) (.slice y31.a y31.xs.length y31.cap), Value.slice y31.a y31.xs.length y31.cap = Value.slice (some ⟨b39, o40, none⟩) y31.xs.length y31.cap, ((k : Int) : Int) = ((k : Nat) : Int), k < y31.xs.length, (none : Option Nat) = none, Old w b39 (o40 + k * 3 + 2) (i6 y46.Slack)] [(1, pt z), (4, i6 (i : Int)), (qhl8_15 c), (36, i6 (i : Int)), (qhl8_16 y31), (55, i6 (k : Int)), (81, .slice a52 (((((((((([66, 75, 67, 49] : List Int) ++ leB c.Frames 4) ++ leB c.Major 4) ++ leB c.Kernel 4) ++ leB c.Room 4) ++ [((c.Cores.xs.length : Nat) : Int)]) ++ (c.Cores.xs.take i).flatMap encWs ++ [((y31.xs.length : Nat) : Int)]) ++ (y31.xs.take k).flatMap encW ++ leB (y46.Partition + 1) 4) ++ leB y46.Usable 4).length) cp53), (90, i6 y46.Slack)] rfl ⟨rfl, congrArg (fun a => Value.slice a _ _) ha26, rfl, (by omega), rfl, old_cell' (hc29 0 _ rfl), congrArg (fun a => Value.slice a _ _) ha41, rfl, (by omega), rfl, old_cell' (hc44 2 _ rfl), trivial⟩ ?_
         refine l_call [] [] 69 #[.slice a52 (((((((((([66, 75, 67, 49] : List Int) ++ leB c.Frames 4) ++ leB c.Major 4) ++ leB c.Kernel 4) ++ leB c.Room 4) ++ [((c.Cores.xs.length : Nat) : Int)]) ++ (c.Cores.xs.take i).flatMap encWs ++ [((y31.xs.length : Nat) : Int)]) ++ (y31.xs.take k).flatMap encW ++ leB (y46.Partition + 1) 4) ++ leB y46.Usable 4).length) cp53, i6 y46.Slack] (some 91) trivial ?_
         intro w55 hw55
         refine (rnumber_calls w55 z a52 cp53 ((((((((([66, 75, 67, 49] : List Int) ++ leB c.Frames 4) ++ leB c.Major 4) ++ leB c.Kernel 4) ++ leB c.Room 4) ++ [((c.Cores.xs.length : Nat) : Int)]) ++ (c.Cores.xs.take i).flatMap encWs ++ [((y31.xs.length : Nat) : Int)]) ++ (y31.xs.take k).flatMap encW ++ leB (y46.Partition + 1) 4) ++ leB y46.Usable 4) y46.Slack (by omega) (by first | omega | (simp only [List.length_append, leB_len, strB_len, List.length_cons, List.length_nil]; omega)) (Nat.le_trans (show z ≤ w54.heap.size by omega) (Nat.le_of_eq hw55.size.symm)) (hw55.at (i := 2) rfl)).mono ?_
         intro e w58 hpw58
         obtain ⟨a56, cp57, rfl, hmw58, hSw58⟩ := rowpost_sat hw55 (i := 2) rfl hpw58; have hnw58 : w54.heap.size ≤ w58.heap.size := hmw58
         refine ⟨_, _, rfl, hSw58, ?_⟩
         refine q_rS 5 0 [] [[o0], [(ov (i6 ((k + 1 : Nat) : Int))), o0]] [Wr (((k : Int) : Int) + 1) (((k + 1 : Nat) : Int))] [(1, pt z), (3, .slice a56 ((((((((((([66, 75, 67, 49] : List Int) ++ leB c.Frames 4) ++ leB c.Major 4) ++ leB c.Kernel 4) ++ leB c.Room 4) ++ [((c.Cores.xs.length : Nat) : Int)]) ++ (c.Cores.xs.take i).flatMap encWs ++ [((y31.xs.length : Nat) : Int)]) ++ (y31.xs.take k).flatMap encW ++ leB (y46.Partition + 1) 4) ++ leB y46.Usable 4) ++ leB y46.Slack 4).length) cp57), (4, i6 (i : Int)), (qhl8_15 c), (36, i6 (i : Int)), (qhl8_16 y31), (55, i6 ((k + 1 : Nat) : Int))] rfl ⟨wrI, trivial⟩ ?_
         refine e_inv (fun a w' hs => ⟨y31.xs.length - (k + 1), by omega, w58.heap.size, (k + 1), a56, cp57, rfl, by omega, by omega, by (try dsimp only [qhl8_0, qhl8_1, qhl8_2, qhl8_3, qhl8_4, qhl8_5, qhl8_6, qhl8_7, qhl8_8, qhl8_9, qhl8_10, qhl8_11, qhl8_12, qhl8_13, qhl8_14, qhl8_15, qhl8_16] at hs ⊢); rw [take_flat (by omega), ← hy46, gEy46]; simp only [← List.append_assoc] at hs ⊢; exact hs⟩)
       · refine q_cS 13 0 [0] [[oF], [(ov (i6 ((i + 1 : Nat) : Int))), o0]] [BF (((k : Int) : Int) < ((y31.xs.length : Nat) : Int)), Wr (((i : Int) : Int) + 1) (((i + 1 : Nat) : Int))] [(1, pt z), (qhl8_11 aW c i y31 k cW), (qhl8_15 c), (36, i6 ((i + 1 : Nat) : Int))] rfl ⟨bf (by omega), wrI, trivial⟩ ?_
         refine e_pick [0, 1, 2, 3] [(old0 w), (qhl8_4 z c), (qhl8_7 z aW c i y31 k cW), (qhl8_0 w16 c)] rfl rfl ?_
         refine e_keep [1, 3, 35, 36] [(1, pt z), (qhl8_11 aW c i y31 k cW), (qhl8_15 c), (36, i6 ((i + 1 : Nat) : Int))] ?_
         refine e_inv (fun a w' hs => ⟨c.Cores.xs.length - (i + 1), by omega, n37, (i + 1), aW, cW, rfl, by omega, by omega, by (try dsimp only [qhl8_0, qhl8_1, qhl8_2, qhl8_3, qhl8_4, qhl8_5, qhl8_6, qhl8_7, qhl8_8, qhl8_9, qhl8_10, qhl8_11, qhl8_12, qhl8_13, qhl8_14, qhl8_15, qhl8_16] at hs ⊢); have hk : k = y31.xs.length := (by omega); rw [hk, List.take_length] at hs; rw [take_flat (by omega), ← hy31]; unfold encWs encLst; simp only [← List.append_assoc] at hs ⊢; exact hs⟩)
   · refine q_c 12 6 [0] [[oF], [o0, o0, (a1 1), o0, (ov (.int .u8 ((c.Partitions.xs.length : Nat) : Int))), o0]] [BF (((i : Int) : Int) < ((c.Cores.xs.length : Nat) : Int)), Qb z, Value.int .u8 (IntKind.u8.wrap (((c.Partitions.xs.length : Nat) : Int))) = Value.int .u8 (((c.Partitions.xs.length : Nat) : Int))] [(1, pt z), (94, .slice aC (((((((([66, 75, 67, 49] : List Int) ++ leB c.Frames 4) ++ leB c.Major 4) ++ leB c.Kernel 4) ++ leB c.Room 4) ++ [((c.Cores.xs.length : Nat) : Int)]) ++ (c.Cores.xs.take i).flatMap encWs).length) cC), (99, .slice (some ⟨n22, 0, none⟩) 1 1)] ⟨w, n22 + 1, [(old0 w), (qhl8_4 z c), (qhl8_8 z aC c i cC), (qhl8_0 w16 c), (qhl8_1 n22 c)]⟩ rfl ⟨bf (by omega), rfl, congrArg (Value.int .u8) (wr_u8 rfl (by omega) (by omega)), trivial⟩ ?_
     refine l_push z 2 4 ((((((([66, 75, 67, 49] : List Int) ++ leB c.Frames 4) ++ leB c.Major 4) ++ leB c.Kernel 4) ++ leB c.Room 4) ++ [((c.Cores.xs.length : Nat) : Int)]) ++ (c.Cores.xs.take i).flatMap encWs) [((c.Partitions.xs.length : Nat) : Int)] u8c 5 1 1 (.slice aC (((((((([66, 75, 67, 49] : List Int) ++ leB c.Frames 4) ++ leB c.Major 4) ++ leB c.Kernel 4) ++ leB c.Room 4) ++ [((c.Cores.xs.length : Nat) : Int)]) ++ (c.Cores.xs.take i).flatMap encWs).length) cC) n22 1 1 #[.int .u8 ((c.Partitions.xs.length : Nat) : Int)] 5 (0, 0) true (some 100) (by first | omega | (simp only [List.length_append, leB_len, strB_len, List.length_cons, List.length_nil]; omega)) (show z ≤ n22 + 1 by omega) (fun a59 cp60 n61 (hn62 : n22 + 1 ≤ n61) => ?_)
     refine q_rS 8 0 [] [[o0], [o0, (a1 1), o0, o0]] [Qb z] [(1, pt z), (3, .slice a59 (((((((([66, 75, 67, 49] : List Int) ++ leB c.Frames 4) ++ leB c.Major 4) ++ leB c.Kernel 4) ++ leB c.Room 4) ++ [((c.Cores.xs.length : Nat) : Int)]) ++ (c.Cores.xs.take i).flatMap encWs ++ [((c.Partitions.xs.length : Nat) : Int)]).length) cp60), (qhl8_13 c), (104, i6 0)] rfl ⟨rfl, trivial⟩ ?_
     refine g_loop (fun m a w' => ∃ (n64 : Nat) (j : Nat) (aP : Option Addr) (cP : Nat), m = c.Partitions.xs.length - j ∧ n61 ≤ n64 ∧ (j ≤ c.Partitions.xs.length) ∧ St 154 [(1, pt z), (qhl8_10 aP c i j cP), (qhl8_13 c), (104, i6 (j : Int))] [] ⟨w, n64, [(old0 w), (qhl8_4 z c), (qhl8_6 z aP c i j cP), (qhl8_0 w16 c), (qhl8_1 n22 c)]⟩ a w') (c.Partitions.xs.length - 0) ?_ ?_
     · intro a w' hs; exact ⟨n61, 0, a59, cp60, rfl, Nat.le_refl _, Nat.zero_le _, by (try dsimp only [qhl8_0, qhl8_1, qhl8_2, qhl8_3, qhl8_4, qhl8_5, qhl8_6, qhl8_7, qhl8_8, qhl8_9, qhl8_10, qhl8_11, qhl8_12, qhl8_13, qhl8_14, qhl8_15, qhl8_16] at hs ⊢); rw [List.take_zero, List.flatMap_nil, List.append_nil]; exact hs⟩
     · rintro m a w' ⟨n64, j, aP, cP, rfl, hn63, hkj, hs⟩
       refine (?_ : G Try.prog 154 [(1, pt z), (qhl8_10 aP c i j cP), (qhl8_13 c), (104, i6 (j : Int))] [] ⟨w, n64, [(old0 w), (qhl8_4 z c), (qhl8_6 z aP c i j cP), (qhl8_0 w16 c), (qhl8_1 n22 c)]⟩ _ _ _) a w' hs
       clear hs a w'
       have hfl3 := flat_le (enc := encPt) (K := 6000) (xs := c.Partitions.xs) j (by omega) (fun q hq => encPt_le (hP2 q (by omega)))
       refine g_seq ?_
       by_cases h65 : ((j : Int) : Int) < ((c.Partitions.xs.length : Nat) : Int)
       · refine q_cS 13 0 [1] [[oT], [o0, o0]] [BT (((j : Int) : Int) < ((c.Partitions.xs.length : Nat) : Int))] [(1, pt z), (qhl8_10 aP c i j cP), (qhl8_13 c), (104, i6 (j : Int)), (6, i6 (j : Int))] rfl ⟨bt (by omega), trivial⟩ ?_
         obtain ⟨b66, o67, ha68, hF70, hc69⟩ := (hcl.Partitions).1.all (show 0 < c.Partitions.xs.length by omega)
         replace ha68 : c.Partitions.a = some ⟨b66, o67, none⟩ := ha68
         have hc71 := hc69 j (show j < c.Partitions.xs.length by omega)
         have he72 := (hcl.Partitions).2 j (show j < c.Partitions.xs.length by omega)
         obtain ⟨y73, hy73⟩ : ∃ y_, y_ = gd c.Partitions.xs j := ⟨_, rfl⟩
         rw [← hy73] at he72 hc71
         refine q_cS 1 6 [] [[o0, o0, ⟨.auto [.at 1], some (.slice (some ⟨b66, o67, none⟩) c.Partitions.xs.length c.Partitions.cap)⟩, o0, (oi j), (ol 0 (TPartition.arr y73))]] [Qb z, Value.slice c.Partitions.a c.Partitions.xs.length c.Partitions.cap = Value.slice (some ⟨b66, o67, none⟩) c.Partitions.xs.length c.Partitions.cap, ((j : Int) : Int) = ((j : Nat) : Int), j < c.Partitions.xs.length, (none : Option Nat) = none, OldR w b66 (o67 + j * 8) (TPartition.arr y73)] [(1, pt z), (qhl8_13 c), (104, i6 (j : Int)), (107, .slice aP ((((((((([66, 75, 67, 49] : List Int) ++ leB c.Frames 4) ++ leB c.Major 4) ++ leB c.Kernel 4) ++ leB c.Room 4) ++ [((c.Cores.xs.length : Nat) : Int)]) ++ (c.Cores.xs.take i).flatMap encWs ++ [((c.Partitions.xs.length : Nat) : Int)]) ++ (c.Partitions.xs.take j).flatMap encPt).length) cP), (112, .agg (TPartition.arr y73))] rfl ⟨rfl, congrArg (fun a => Value.slice a _ _) ha68, rfl, (by omega), rfl, old_row hc71, trivial⟩ ?_
         refine l_call [] [] 70 #[.slice aP ((((((((([66, 75, 67, 49] : List Int) ++ leB c.Frames 4) ++ leB c.Major 4) ++ leB c.Kernel 4) ++ leB c.Room 4) ++ [((c.Cores.xs.length : Nat) : Int)]) ++ (c.Cores.xs.take i).flatMap encWs ++ [((c.Partitions.xs.length : Nat) : Int)]) ++ (c.Partitions.xs.take j).flatMap encPt).length) cP, .agg (TPartition.arr y73)] (some 113) trivial ?_
         intro w74 hw74
         have hew74 : Ext (fun b => b < w.heap.size) w w74 := fun b k v _ hv => (hw74.ext rfl) _ _ _ trivial hv; have hFw74 : ∀ b, b < w.heap.size → Dt w74 (fun b => (Value.slice aP ((((((((([66, 75, 67, 49] : List Int) ++ leB c.Frames 4) ++ leB c.Major 4) ++ leB c.Kernel 4) ++ leB c.Room 4) ++ [((c.Cores.xs.length : Nat) : Int)]) ++ (c.Cores.xs.take i).flatMap encWs ++ [((c.Partitions.xs.length : Nat) : Int)]) ++ (c.Partitions.xs.take j).flatMap encPt).length) cP).ownBlock = some b) b := fun b hb => ⟨Nat.lt_of_lt_of_le hb (by rw [hw74.size]; show w.heap.size ≤ n64; omega), hw74.far rfl (i := 2) rfl (by decide) rfl b hb⟩
         refine (rpartition_calls w74 z aP cP (((((((([66, 75, 67, 49] : List Int) ++ leB c.Frames 4) ++ leB c.Major 4) ++ leB c.Kernel 4) ++ leB c.Room 4) ++ [((c.Cores.xs.length : Nat) : Int)]) ++ (c.Cores.xs.take i).flatMap encWs ++ [((c.Partitions.xs.length : Nat) : Int)]) ++ (c.Partitions.xs.take j).flatMap encPt) y73 (TPartition.ok.ext hew74 hFw74 he72) (by rw [hy73]; exact hP2 _ (by omega)) (by first | omega | (simp only [List.length_append, leB_len, strB_len, List.length_cons, List.length_nil]; omega)) (Nat.le_trans (show z ≤ n64 by omega) (Nat.le_of_eq hw74.size.symm)) (hw74.at (i := 2) rfl)).mono ?_
         intro e w77 hpw77
         obtain ⟨a75, cp76, rfl, hmw77, hSw77⟩ := rowpost_sat hw74 (i := 2) rfl hpw77; have hnw77 : n64 ≤ w77.heap.size := hmw77
         refine ⟨_, _, rfl, hSw77, ?_⟩
         refine q_rS 5 0 [] [[o0], [(ov (i6 ((j + 1 : Nat) : Int))), o0]] [Wr (((j : Int) : Int) + 1) (((j + 1 : Nat) : Int))] [(1, pt z), (3, .slice a75 ((((((((([66, 75, 67, 49] : List Int) ++ leB c.Frames 4) ++ leB c.Major 4) ++ leB c.Kernel 4) ++ leB c.Room 4) ++ [((c.Cores.xs.length : Nat) : Int)]) ++ (c.Cores.xs.take i).flatMap encWs ++ [((c.Partitions.xs.length : Nat) : Int)]) ++ (c.Partitions.xs.take j).flatMap encPt ++ encPt y73).length) cp76), (qhl8_13 c), (104, i6 ((j + 1 : Nat) : Int))] rfl ⟨wrI, trivial⟩ ?_
         refine e_inv (fun a w' hs => ⟨c.Partitions.xs.length - (j + 1), by omega, w77.heap.size, (j + 1), a75, cp76, rfl, by omega, by omega, by (try dsimp only [qhl8_0, qhl8_1, qhl8_2, qhl8_3, qhl8_4, qhl8_5, qhl8_6, qhl8_7, qhl8_8, qhl8_9, qhl8_10, qhl8_11, qhl8_12, qhl8_13, qhl8_14, qhl8_15, qhl8_16] at hs ⊢); rw [take_flat (by omega), ← hy73, ← List.append_assoc]; exact hs⟩)
       · refine q_c 12 6 [0] [[oF], [o0, o0, (a1 1), o0, (ov (.int .u8 ((c.Channels.xs.length : Nat) : Int))), o0]] [BF (((j : Int) : Int) < ((c.Partitions.xs.length : Nat) : Int)), Qb z, Value.int .u8 (IntKind.u8.wrap (((c.Channels.xs.length : Nat) : Int))) = Value.int .u8 (((c.Channels.xs.length : Nat) : Int))] [(1, pt z), (115, .slice aP ((((((((([66, 75, 67, 49] : List Int) ++ leB c.Frames 4) ++ leB c.Major 4) ++ leB c.Kernel 4) ++ leB c.Room 4) ++ [((c.Cores.xs.length : Nat) : Int)]) ++ (c.Cores.xs.take i).flatMap encWs ++ [((c.Partitions.xs.length : Nat) : Int)]) ++ (c.Partitions.xs.take j).flatMap encPt).length) cP), (120, .slice (some ⟨n64, 0, none⟩) 1 1)] ⟨w, n64 + 1, [(old0 w), (qhl8_4 z c), (qhl8_6 z aP c i j cP), (qhl8_0 w16 c), (qhl8_1 n22 c), (qhl8_2 n64 c)]⟩ rfl ⟨bf (by omega), rfl, congrArg (Value.int .u8) (wr_u8 rfl (by omega) (by omega)), trivial⟩ ?_
         refine l_push z 2 5 (((((((([66, 75, 67, 49] : List Int) ++ leB c.Frames 4) ++ leB c.Major 4) ++ leB c.Kernel 4) ++ leB c.Room 4) ++ [((c.Cores.xs.length : Nat) : Int)]) ++ (c.Cores.xs.take i).flatMap encWs ++ [((c.Partitions.xs.length : Nat) : Int)]) ++ (c.Partitions.xs.take j).flatMap encPt) [((c.Channels.xs.length : Nat) : Int)] u8c 5 1 1 (.slice aP ((((((((([66, 75, 67, 49] : List Int) ++ leB c.Frames 4) ++ leB c.Major 4) ++ leB c.Kernel 4) ++ leB c.Room 4) ++ [((c.Cores.xs.length : Nat) : Int)]) ++ (c.Cores.xs.take i).flatMap encWs ++ [((c.Partitions.xs.length : Nat) : Int)]) ++ (c.Partitions.xs.take j).flatMap encPt).length) cP) n64 1 1 #[.int .u8 ((c.Channels.xs.length : Nat) : Int)] 5 (0, 0) true (some 121) (by first | omega | (simp only [List.length_append, leB_len, strB_len, List.length_cons, List.length_nil]; omega)) (show z ≤ n64 + 1 by omega) (fun a78 cp79 n80 (hn81 : n64 + 1 ≤ n80) => ?_)
         refine q_rS 8 0 [] [[o0], [o0, (a1 1), o0, o0]] [Qb z] [(1, pt z), (3, .slice a78 ((((((((([66, 75, 67, 49] : List Int) ++ leB c.Frames 4) ++ leB c.Major 4) ++ leB c.Kernel 4) ++ leB c.Room 4) ++ [((c.Cores.xs.length : Nat) : Int)]) ++ (c.Cores.xs.take i).flatMap encWs ++ [((c.Partitions.xs.length : Nat) : Int)]) ++ (c.Partitions.xs.take j).flatMap encPt ++ [((c.Channels.xs.length : Nat) : Int)]).length) cp79), (qhl8_14 c), (125, i6 0)] rfl ⟨rfl, trivial⟩ ?_
         refine g_loop (fun m a w' => ∃ (n83 : Nat) (k2 : Nat) (aD : Option Addr) (cD : Nat), m = c.Channels.xs.length - k2 ∧ n80 ≤ n83 ∧ (k2 ≤ c.Channels.xs.length) ∧ St 154 [(1, pt z), (qhl8_9 aD c i j k2 cD), (qhl8_14 c), (125, i6 (k2 : Int))] [] ⟨w, n83, [(old0 w), (qhl8_4 z c), (qhl8_5 z aD c i j k2 cD), (qhl8_0 w16 c), (qhl8_1 n22 c), (qhl8_2 n64 c)]⟩ a w') (c.Channels.xs.length - 0) ?_ ?_
         · intro a w' hs; exact ⟨n80, 0, a78, cp79, rfl, Nat.le_refl _, Nat.zero_le _, by (try dsimp only [qhl8_0, qhl8_1, qhl8_2, qhl8_3, qhl8_4, qhl8_5, qhl8_6, qhl8_7, qhl8_8, qhl8_9, qhl8_10, qhl8_11, qhl8_12, qhl8_13, qhl8_14, qhl8_15, qhl8_16] at hs ⊢); rw [List.take_zero, List.flatMap_nil, List.append_nil]; exact hs⟩
         · rintro m a w' ⟨n83, k2, aD, cD, rfl, hn82, hkk2, hs⟩
           refine (?_ : G Try.prog 154 [(1, pt z), (qhl8_9 aD c i j k2 cD), (qhl8_14 c), (125, i6 (k2 : Int))] [] ⟨w, n83, [(old0 w), (qhl8_4 z c), (qhl8_5 z aD c i j k2 cD), (qhl8_0 w16 c), (qhl8_1 n22 c), (qhl8_2 n64 c)]⟩ _ _ _) a w' hs
           clear hs a w'
           have hfl4 := flat_le (enc := encC) (K := 12) (xs := c.Channels.xs) k2 (by omega) (fun q _ => by rw [encC_len]; exact Nat.le_refl _)
           refine g_seq ?_
           by_cases h84 : ((k2 : Int) : Int) < ((c.Channels.xs.length : Nat) : Int)
           · refine q_cS 14 0 [1] [[oT], [o0, o0]] [BT (((k2 : Int) : Int) < ((c.Channels.xs.length : Nat) : Int))] [(1, pt z), (qhl8_9 aD c i j k2 cD), (qhl8_14 c), (125, i6 (k2 : Int)), (7, i6 (k2 : Int))] rfl ⟨bt (by omega), trivial⟩ ?_
             obtain ⟨b85, o86, ha87, hF89, hc88⟩ := (hcl.Channels).1.all (show 0 < c.Channels.xs.length by omega)
             replace ha87 : c.Channels.a = some ⟨b85, o86, none⟩ := ha87
             have hc90 := hc88 k2 (show k2 < c.Channels.xs.length by omega)
             have he91 := (hcl.Channels).2 k2 (show k2 < c.Channels.xs.length by omega)
             obtain ⟨y92, hy92⟩ : ∃ y_, y_ = gd c.Channels.xs k2 := ⟨_, rfl⟩
             rw [← hy92] at he91 hc90
             have hyy92 := okC_has (hC2 k2 (by omega)); rw [← hy92] at hyy92; obtain ⟨⟨g1y92, g2y92⟩, ⟨g3y92, g4y92⟩, g5y92, g6y92⟩ := hyy92
             refine q_cS 1 7 [] [[o0, o0, ⟨.auto [.at 1], some (.slice (some ⟨b85, o86, none⟩) c.Channels.xs.length c.Channels.cap)⟩, o0, (oi k2), o0, (oa [.via 0 (i6 y92.Kind)])]] [Qb z, Value.slice c.Channels.a c.Channels.xs.length c.Channels.cap = Value.slice (some ⟨b85, o86, none⟩) c.Channels.xs.length c.Channels.cap, ((k2 : Int) : Int) = ((k2 : Nat) : Int), k2 < c.Channels.xs.length, (none : Option Nat) = none, Old w b85 (o86 + k2 * 3) (i6 y92.Kind)] [(1, pt z), (qhl8_14 c), (125, i6 (k2 : Int)), (7, i6 (k2 : Int)), (128, .slice aD (((((((((([66, 75, 67, 49] : List Int) ++ leB c.Frames 4) ++ leB c.Major 4) ++ leB c.Kernel 4) ++ leB c.Room 4) ++ [((c.Cores.xs.length : Nat) : Int)]) ++ (c.Cores.xs.take i).flatMap encWs ++ [((c.Partitions.xs.length : Nat) : Int)]) ++ (c.Partitions.xs.take j).flatMap encPt ++ [((c.Channels.xs.length : Nat) : Int)]) ++ (c.Channels.xs.take k2).flatMap encC).length) cD), (134, i6 y92.Kind)] rfl ⟨rfl, congrArg (fun a => Value.slice a _ _) ha87, rfl, (by omega), rfl, old_cell' (hc90 0 _ rfl), trivial⟩ ?_
             refine l_call [] [] 69 #[.slice aD (((((((((([66, 75, 67, 49] : List Int) ++ leB c.Frames 4) ++ leB c.Major 4) ++ leB c.Kernel 4) ++ leB c.Room 4) ++ [((c.Cores.xs.length : Nat) : Int)]) ++ (c.Cores.xs.take i).flatMap encWs ++ [((c.Partitions.xs.length : Nat) : Int)]) ++ (c.Partitions.xs.take j).flatMap encPt ++ [((c.Channels.xs.length : Nat) : Int)]) ++ (c.Channels.xs.take k2).flatMap encC).length) cD, i6 y92.Kind] (some 135) trivial ?_
             intro w93 hw93
             refine (rnumber_calls w93 z aD cD ((((((((([66, 75, 67, 49] : List Int) ++ leB c.Frames 4) ++ leB c.Major 4) ++ leB c.Kernel 4) ++ leB c.Room 4) ++ [((c.Cores.xs.length : Nat) : Int)]) ++ (c.Cores.xs.take i).flatMap encWs ++ [((c.Partitions.xs.length : Nat) : Int)]) ++ (c.Partitions.xs.take j).flatMap encPt ++ [((c.Channels.xs.length : Nat) : Int)]) ++ (c.Channels.xs.take k2).flatMap encC) y92.Kind (by omega) (by first | omega | (simp only [List.length_append, leB_len, strB_len, List.length_cons, List.length_nil]; omega)) (Nat.le_trans (show z ≤ n83 by omega) (Nat.le_of_eq hw93.size.symm)) (hw93.at (i := 2) rfl)).mono ?_
             intro e w96 hpw96
             obtain ⟨a94, cp95, rfl, hmw96, hSw96⟩ := rowpost_sat hw93 (i := 2) rfl hpw96; have hnw96 : n83 ≤ w96.heap.size := hmw96
             refine ⟨_, _, rfl, hSw96, ?_⟩
             refine q_rS 4 7 [] [[o0], [o0, o0, ⟨.auto [.at 1], some (.slice (some ⟨b85, o86, none⟩) c.Channels.xs.length c.Channels.cap)⟩, o0, (oi k2), o0, (oa [.via 0 (i6 y92.Words)])]] [Qb z, Value.slice c.Channels.a c.Channels.xs.length c.Channels.cap = Value.slice (some ⟨b85, o86, none⟩) c.Channels.xs.length c.Channels.cap, ((k2 : Int) : Int) = ((k2 : Nat) : Int), k2 < c.Channels.xs.length, (none : Option Nat) = none, Old w b85 (o86 + k2 * 3 + 1) (i6 y92.Words)] [(1, pt z), (qhl8_14 c), (125, i6 (k2 : Int)), (7, i6 (k2 : Int)), (136, .slice a94 (((((((((([66, 75, 67, 49] : List Int) ++ leB c.Frames 4) ++ leB c.Major 4) ++ leB c.Kernel 4) ++ leB c.Room 4) ++ [((c.Cores.xs.length : Nat) : Int)]) ++ (c.Cores.xs.take i).flatMap encWs ++ [((c.Partitions.xs.length : Nat) : Int)]) ++ (c.Partitions.xs.take j).flatMap encPt ++ [((c.Channels.xs.length : Nat) : Int)]) ++ (c.Channels.xs.take k2).flatMap encC ++ leB y92.Kind 4).length) cp95), (142, i6 y92.Words)] rfl ⟨rfl, congrArg (fun a => Value.slice a _ _) ha87, rfl, (by omega), rfl, old_cell' (hc90 1 _ rfl), trivial⟩ ?_
             refine l_call [] [] 69 #[.slice a94 (((((((((([66, 75, 67, 49] : List Int) ++ leB c.Frames 4) ++ leB c.Major 4) ++ leB c.Kernel 4) ++ leB c.Room 4) ++ [((c.Cores.xs.length : Nat) : Int)]) ++ (c.Cores.xs.take i).flatMap encWs ++ [((c.Partitions.xs.length : Nat) : Int)]) ++ (c.Partitions.xs.take j).flatMap encPt ++ [((c.Channels.xs.length : Nat) : Int)]) ++ (c.Channels.xs.take k2).flatMap encC ++ leB y92.Kind 4).length) cp95, i6 y92.Words] (some 143) trivial ?_
             intro w97 hw97
             refine (rnumber_calls w97 z a94 cp95 ((((((((([66, 75, 67, 49] : List Int) ++ leB c.Frames 4) ++ leB c.Major 4) ++ leB c.Kernel 4) ++ leB c.Room 4) ++ [((c.Cores.xs.length : Nat) : Int)]) ++ (c.Cores.xs.take i).flatMap encWs ++ [((c.Partitions.xs.length : Nat) : Int)]) ++ (c.Partitions.xs.take j).flatMap encPt ++ [((c.Channels.xs.length : Nat) : Int)]) ++ (c.Channels.xs.take k2).flatMap encC ++ leB y92.Kind 4) y92.Words (by omega) (by first | omega | (simp only [List.length_append, leB_len, strB_len, List.length_cons, List.length_nil]; omega)) (Nat.le_trans (show z ≤ w96.heap.size by omega) (Nat.le_of_eq hw97.size.symm)) (hw97.at (i := 2) rfl)).mono ?_
             intro e w100 hpw100
             obtain ⟨a98, cp99, rfl, hmw100, hSw100⟩ := rowpost_sat hw97 (i := 2) rfl hpw100; have hnw100 : w96.heap.size ≤ w100.heap.size := hmw100
             refine ⟨_, _, rfl, hSw100, ?_⟩
             refine q_rS 3 7 [] [[o0], [o0, o0, ⟨.auto [.at 1], some (.slice (some ⟨b85, o86, none⟩) c.Channels.xs.length c.Channels.cap)⟩, o0, (oi k2), o0, (oa [.via 0 (i6 y92.Depth)])]] [Qb z, Value.slice c.Channels.a c.Channels.xs.length c.Channels.cap = Value.slice (some ⟨b85, o86, none⟩) c.Channels.xs.length c.Channels.cap, ((k2 : Int) : Int) = ((k2 : Nat) : Int), k2 < c.Channels.xs.length, (none : Option Nat) = none, Old w b85 (o86 + k2 * 3 + 2) (i6 y92.Depth)] [(1, pt z), (qhl8_14 c), (125, i6 (k2 : Int)), (144, .slice a98 ((((((((((([66, 75, 67, 49] : List Int) ++ leB c.Frames 4) ++ leB c.Major 4) ++ leB c.Kernel 4) ++ leB c.Room 4) ++ [((c.Cores.xs.length : Nat) : Int)]) ++ (c.Cores.xs.take i).flatMap encWs ++ [((c.Partitions.xs.length : Nat) : Int)]) ++ (c.Partitions.xs.take j).flatMap encPt ++ [((c.Channels.xs.length : Nat) : Int)]) ++ (c.Channels.xs.take k2).flatMap encC ++ leB y92.Kind 4) ++ leB y92.Words 4).length) cp99), (150, i6 y92.Depth)] rfl ⟨rfl, congrArg (fun a => Value.slice a _ _) ha87, rfl, (by omega), rfl, old_cell' (hc90 2 _ rfl), trivial⟩ ?_
             refine l_call [] [] 69 #[.slice a98 ((((((((((([66, 75, 67, 49] : List Int) ++ leB c.Frames 4) ++ leB c.Major 4) ++ leB c.Kernel 4) ++ leB c.Room 4) ++ [((c.Cores.xs.length : Nat) : Int)]) ++ (c.Cores.xs.take i).flatMap encWs ++ [((c.Partitions.xs.length : Nat) : Int)]) ++ (c.Partitions.xs.take j).flatMap encPt ++ [((c.Channels.xs.length : Nat) : Int)]) ++ (c.Channels.xs.take k2).flatMap encC ++ leB y92.Kind 4) ++ leB y92.Words 4).length) cp99, i6 y92.Depth] (some 151) trivial ?_
             intro w101 hw101
             refine (rnumber_calls w101 z a98 cp99 (((((((((([66, 75, 67, 49] : List Int) ++ leB c.Frames 4) ++ leB c.Major 4) ++ leB c.Kernel 4) ++ leB c.Room 4) ++ [((c.Cores.xs.length : Nat) : Int)]) ++ (c.Cores.xs.take i).flatMap encWs ++ [((c.Partitions.xs.length : Nat) : Int)]) ++ (c.Partitions.xs.take j).flatMap encPt ++ [((c.Channels.xs.length : Nat) : Int)]) ++ (c.Channels.xs.take k2).flatMap encC ++ leB y92.Kind 4) ++ leB y92.Words 4) y92.Depth (by omega) (by first | omega | (simp only [List.length_append, leB_len, strB_len, List.length_cons, List.length_nil]; omega)) (Nat.le_trans (show z ≤ w100.heap.size by omega) (Nat.le_of_eq hw101.size.symm)) (hw101.at (i := 2) rfl)).mono ?_
             intro e w104 hpw104
             obtain ⟨a102, cp103, rfl, hmw104, hSw104⟩ := rowpost_sat hw101 (i := 2) rfl hpw104; have hnw104 : w100.heap.size ≤ w104.heap.size := hmw104
             refine ⟨_, _, rfl, hSw104, ?_⟩
             refine q_rS 5 0 [] [[o0], [(ov (i6 ((k2 + 1 : Nat) : Int))), o0]] [Wr (((k2 : Int) : Int) + 1) (((k2 + 1 : Nat) : Int))] [(1, pt z), (3, .slice a102 (((((((((((([66, 75, 67, 49] : List Int) ++ leB c.Frames 4) ++ leB c.Major 4) ++ leB c.Kernel 4) ++ leB c.Room 4) ++ [((c.Cores.xs.length : Nat) : Int)]) ++ (c.Cores.xs.take i).flatMap encWs ++ [((c.Partitions.xs.length : Nat) : Int)]) ++ (c.Partitions.xs.take j).flatMap encPt ++ [((c.Channels.xs.length : Nat) : Int)]) ++ (c.Channels.xs.take k2).flatMap encC ++ leB y92.Kind 4) ++ leB y92.Words 4) ++ leB y92.Depth 4).length) cp103), (qhl8_14 c), (125, i6 ((k2 + 1 : Nat) : Int))] rfl ⟨wrI, trivial⟩ ?_
             refine e_inv (fun a w' hs => ⟨c.Channels.xs.length - (k2 + 1), by omega, w104.heap.size, (k2 + 1), a102, cp103, rfl, by omega, by omega, by (try dsimp only [qhl8_0, qhl8_1, qhl8_2, qhl8_3, qhl8_4, qhl8_5, qhl8_6, qhl8_7, qhl8_8, qhl8_9, qhl8_10, qhl8_11, qhl8_12, qhl8_13, qhl8_14, qhl8_15, qhl8_16] at hs ⊢); rw [take_flat (by omega), ← hy92]; unfold encC; simp only [← List.append_assoc] at hs ⊢; exact hs⟩)
           · refine q_cS 15 0 [0] [[oF], [o0, o0]] [BF (((k2 : Int) : Int) < ((c.Channels.xs.length : Nat) : Int))] [(2, .slice aD (((((((((([66, 75, 67, 49] : List Int) ++ leB c.Frames 4) ++ leB c.Major 4) ++ leB c.Kernel 4) ++ leB c.Room 4) ++ [((c.Cores.xs.length : Nat) : Int)]) ++ (c.Cores.xs.take i).flatMap encWs ++ [((c.Partitions.xs.length : Nat) : Int)]) ++ (c.Partitions.xs.take j).flatMap encPt ++ [((c.Channels.xs.length : Nat) : Int)]) ++ (c.Channels.xs.take k2).flatMap encC).length) cD)] rfl ⟨bf (by omega), trivial⟩ ?_
             refine e_ret [] [] (.slice aD (((((((((([66, 75, 67, 49] : List Int) ++ leB c.Frames 4) ++ leB c.Major 4) ++ leB c.Kernel 4) ++ leB c.Room 4) ++ [((c.Cores.xs.length : Nat) : Int)]) ++ (c.Cores.xs.take i).flatMap encWs ++ [((c.Partitions.xs.length : Nat) : Int)]) ++ (c.Partitions.xs.take j).flatMap encPt ++ [((c.Channels.xs.length : Nat) : Int)]) ++ (c.Channels.xs.take k2).flatMap encC).length) cD) trivial ?_
             intro w105 hw105
             have hrow := hw105.at (i := 2) (c := (qhl8_5 z aD c i j k2 cD)) rfl
             (try dsimp only [qhl8_0, qhl8_1, qhl8_2, qhl8_3, qhl8_4, qhl8_5, qhl8_6, qhl8_7, qhl8_8, qhl8_9, qhl8_10, qhl8_11, qhl8_12, qhl8_13, qhl8_14, qhl8_15, qhl8_16] at hrow)
             have hT1 : c.Cores.xs.take i = c.Cores.xs := by rw [show i = c.Cores.xs.length from by omega, List.take_length]
             have hT2 : c.Partitions.xs.take j = c.Partitions.xs := by rw [show j = c.Partitions.xs.length from by omega, List.take_length]
             have hT3 : c.Channels.xs.take k2 = c.Channels.xs := by rw [show k2 = c.Channels.xs.length from by omega, List.take_length]
             have hE : (((((((([66, 75, 67, 49] : List Int) ++ leB c.Frames 4) ++ leB c.Major 4) ++ leB c.Kernel 4) ++ leB c.Room 4) ++ [((c.Cores.xs.length : Nat) : Int)]) ++ (c.Cores.xs.take i).flatMap encWs ++ [((c.Partitions.xs.length : Nat) : Int)]) ++ (c.Partitions.xs.take j).flatMap encPt ++ [((c.Channels.xs.length : Nat) : Int)]) ++ (c.Channels.xs.take k2).flatMap encC = formB c := by rw [hT1, hT2, hT3]; unfold formB; rw [head_bytes]; simp only [encLst, ns4, List.flatMap_cons, List.flatMap_nil, List.append_nil, List.append_assoc]
             rw [hE] at hrow ⊢
             exact ⟨_, _, rfl, own_low hrow (by omega), back0 hw105⟩
theorem summed_calls (w : World) (b : Sl Int) (hb : SlAt u8c 1 Any w b) (hl : b.xs.length ≤ 3000000) : Calls Try.prog 37 #[.slice b.a b.xs.length b.cap] w fun e w' => ∃ a2 cap2, e = .returned (.slice a2 (b.xs ++ leB (sumB b.xs) 4).length cap2) ∧ w'.ownsRow w.heap.size 5 1 (.slice a2 (b.xs ++ leB (sumB b.xs) 4).length cap2) (b.xs ++ leB (sumB b.xs) 4).length ((b.xs ++ leB (sumB b.xs) 4).flatMap u8c) ∧ Keeps (fun _ => False) w w' := by
 obtain ⟨z, hz⟩ : ∃ z, z = w.heap.size := ⟨_, rfl⟩
 refine calls_G (args := [.slice b.a b.xs.length b.cap]) 12 ⟨w, z, [(old0 w)]⟩ Try.func37 rfl (by kernel_rfl) (by kernel_rfl) (sat_0 hz) ?_
 have hsb := sumB_in b.xs
 refine g_keep [0] [(0, .slice b.a b.xs.length b.cap)] ?_
 refine q_c 6 2 [] [[o0], [o0, o0]] [] [(0, .slice b.a b.xs.length b.cap), (4, .slice (some ⟨z, 0, none⟩) 0 0), (5, .slice b.a b.xs.length b.cap)] ⟨w, z + 1, [(old0 w), (bk z #[] 5)]⟩ rfl trivial ?_
 refine l_blkrow 1 z z 5 1 (fun x : Int => [Value.int .u8 x]) ([] : List Int) #[] (by omega) (?_ : Lg _ _ _ _ ⟨w, z + 1, [(old0 w), (rowL z 5 1 (fun x : Int => [Value.int .u8 x]) (.slice (some ⟨z, 0, none⟩) 0 0) ([] : List Int))]⟩ _ _ _ _)
 refine l_pushS z 1 0 ([] : List Int) b.xs b.a (fun x : Int => [Value.int .u8 x]) 5 1 1 (.slice (some ⟨z, 0, none⟩) 0 0) b.xs.length b.cap (old0 w) (some 6) (by first | omega | (simp only [List.length_append, leB_len, strB_len, List.length_cons, List.length_nil]; omega)) (show z ≤ z + 1 by omega) (fun w' hw => sl_mono (fun b k v _ hv => old_cell' hv w' hw) (fun _ h => h) hb) (fun a1 cp2 n3 (hn4 : z + 1 ≤ n3) => ?_)
 refine q_rS 4 2 [] [[o0], [o0, o0]] [] [(7, .slice a1 ((([] : List Int) ++ b.xs).length) cp2), (8, .slice b.a b.xs.length b.cap)] rfl trivial ?_
 refine l_call [] [] 48 #[.slice b.a b.xs.length b.cap] (some 9) trivial ?_
 intro w5 hw5
 refine (rsum_calls w5 b (sl_mono (hw5.ext rfl) (fun _ h => h) hb)).mono ?_
 rintro e w6 ⟨rfl, hkw6⟩
 have hnw6 : n3 ≤ w6.heap.size := size_of hw5 hkw6
 refine ⟨_, _, rfl, hw5.keeps hkw6, ?_⟩
 refine q_rS 0 1 [] [[(ov (i6 (sumB b.xs)))]] [Wr ((sumB b.xs)) ((sumB b.xs))] [(7, .slice a1 ((([] : List Int) ++ b.xs).length) cp2), (10, i6 (sumB b.xs))] rfl ⟨wrI rfl, trivial⟩ ?_
 refine l_call [] [] 69 #[.slice a1 ((([] : List Int) ++ b.xs).length) cp2, i6 (sumB b.xs)] (some 11) trivial ?_
 intro w7 hw7
 refine (rnumber_calls w7 z a1 cp2 (([] : List Int) ++ b.xs) (sumB b.xs) (by omega) (by first | omega | (simp only [List.length_append, leB_len, strB_len, List.length_cons, List.length_nil]; omega)) (Nat.le_trans (show z ≤ w6.heap.size by omega) (Nat.le_of_eq hw7.size.symm)) (hw7.at (i := 1) rfl)).mono ?_
 intro e w10 hpw10
 obtain ⟨a8, cp9, rfl, hmw10, hSw10⟩ := rowpost_sat hw7 (i := 1) rfl hpw10; have hnw10 : w6.heap.size ≤ w10.heap.size := hmw10
 refine ⟨_, _, rfl, hSw10, ?_⟩
 refine q_rS 3 0 [] [[o0]] [] [(2, .slice a8 (((([] : List Int) ++ b.xs) ++ leB (sumB b.xs) 4).length) cp9)] rfl trivial ?_
 refine e_ret [] [] (.slice a8 (((([] : List Int) ++ b.xs) ++ leB (sumB b.xs) 4).length) cp9) trivial ?_
 intro w11 hw11
 have hrow := hw11.at (i := 1) (c := (rowL z 5 1 (fun x : Int => [Value.int .u8 x]) (.slice a8 (((([] : List Int) ++ b.xs) ++ leB (sumB b.xs) 4).length) cp9) ((([] : List Int) ++ b.xs) ++ leB (sumB b.xs) 4))) rfl
 skip
 rw [List.nil_append] at hrow ⊢
 exact ⟨_, _, rfl, own_low hrow (by omega), back0 hw11⟩
theorem rencode_calls (w : World) (c : TConfig) (hc : TConfig.ok Any w c) : Calls Try.prog 12 #[.agg (TConfig.arr c)] w fun e w' => EncPost w c e w' := by
 obtain ⟨z, hz⟩ : ∃ z, z = w.heap.size := ⟨_, rfl⟩
 refine calls_G (args := [.agg (TConfig.arr c)]) 15 ⟨w, z, [(old0 w)]⟩ Try.func12 rfl (by kernel_rfl) (by kernel_rfl) (sat_0 hz) ?_
 refine g_keep [0] [(0, .agg (TConfig.arr c))] ?_
 refine q_c 7 1 [] [[o0, o0, o0], [(an 7 1)]] [Qb z, Qb z, Qb z, Qb z, Qb z, Qb z, Qb z] [(1, pt z), (5, .agg (TConfig.arr c))] ⟨w, z + 1, [(old0 w), (bk z (TConfig.arr c) 26)]⟩ rfl ⟨rfl, rfl, rfl, rfl, rfl, rfl, rfl, trivial⟩ ?_
 refine l_call [] [] 36 #[.agg (TConfig.arr c)] (some 6) trivial ?_
 intro w1 hw1
 refine (holds_calls w1 c (hc.ext (hw1.ext rfl) (fun _ h => h))).mono ?_
 rintro e w2 ⟨rfl, hkw2⟩
 have hnw2 : z + 1 ≤ w2.heap.size := size_of hw1 hkw2
 refine ⟨_, _, rfl, hw1.keeps hkw2, ?_⟩
 refine l_keep [1, 6] [(1, pt z), (6, .bool (okCf c))] ?_
 by_cases h3 : (okCf c) = true
 · refine q_rS 7 1 [0] [[(ov (.bool false))], [(an 7 1)]] [Value.bool (!(okCf c)) = Value.bool false, Qb z, Qb z, Qb z, Qb z, Qb z, Qb z, Qb z] [(8, .agg (TConfig.arr c))] rfl ⟨by simp [h3], rfl, rfl, rfl, rfl, rfl, rfl, rfl, trivial⟩ ?_
   refine l_call [] [] 38 #[.agg (TConfig.arr c)] (some 9) trivial ?_
   intro w4 hw4
   refine (form_calls w4 c (hc.ext (hw4.ext rfl) (fun _ h => h)) h3).mono ?_
   rintro e w7 ⟨a5, cp6, rfl, how7, hkw7⟩
   have hnw7 : w2.heap.size ≤ w7.heap.size := size_of hw4 hkw7
   rw [hw4.size] at how7
   refine ⟨_, _, rfl, hw4.keeps1 hkw7 (rowL w2.heap.size 5 1 u8c (.slice a5 ((formB c).length) cp6) (formB c)) how7 (row_stable _ _ _ _ _ _) (fun b hb => how7.lt b hb), ?_⟩
   refine l_keep [9] [(9, .slice a5 ((formB c).length) cp6)] ?_
   refine l_call [] [] 37 #[.slice a5 ((formB c).length) cp6] (some 10) trivial ?_
   intro w8 hw8
   refine (summed_calls w8 ⟨a5, cp6, (formB c)⟩ (rowU_any hw8 (i := 2) rfl (by have := formB_le h3; omega)) (formB_le h3)).mono ?_
   rintro e w11 ⟨a9, cp10, rfl, how11, hkw11⟩
   have hnw11 : w7.heap.size ≤ w11.heap.size := size_of hw8 hkw11
   rw [hw8.size] at how11
   refine ⟨_, _, rfl, hw8.keeps1 hkw11 (rowL w7.heap.size 5 1 u8c (.slice a9 ((encB c).length) cp10) (encB c)) how11 (row_stable _ _ _ _ _ _) (fun b hb => how11.lt b hb), ?_⟩
   refine q_rS 4 0 [] [[o0]] [] [(4, .slice a9 ((encB c).length) cp10)] rfl trivial ?_
   by_cases h12 : (16384 : Int) < (((encB c).length : Nat) : Int)
   · refine q_cS 9 0 [1] [[o0, o0, oT], [o0, o0]] [BT (((((encB c).length : Nat) : Int) : Int) > 16384)] [(2, .slice none 0 0), (3, i6 2)] rfl ⟨bt (by omega), trivial⟩ ?_
     refine e_ret [] [] (.tuple #[.slice none 0 0, i6 2]) trivial ?_
     intro w13 hw13
     exact ⟨.inr (.inl ⟨h3, by omega, rfl⟩), back0 hw13⟩
   · refine q_cS 11 0 [0] [[o0, o0, oF], [o0, o0, o0]] [BF (((((encB c).length : Nat) : Int) : Int) > 16384)] [(2, .slice a9 ((encB c).length) cp10), (3, i6 0)] rfl ⟨bf (by omega), trivial⟩ ?_
     refine e_ret [] [] (.tuple #[.slice a9 ((encB c).length) cp10, i6 0]) trivial ?_
     intro w14 hw14
     have hrow := hw14.at (i := 3) (c := (rowL w7.heap.size 5 1 u8c (.slice a9 ((encB c).length) cp10) (encB c))) rfl
     exact ⟨.inl ⟨h3, by omega, _, _, rfl, own_low hrow (by omega)⟩, back0 hw14⟩
 · refine q_rS 8 0 [1] [[(ov (.bool true))], [o0, o0]] [Value.bool (!(okCf c)) = Value.bool true] [(2, .slice none 0 0), (3, i6 112)] rfl ⟨by simp [h3], trivial⟩ ?_
   refine e_ret [] [] (.tuple #[.slice none 0 0, i6 112]) trivial ?_
   intro w15 hw15
   exact ⟨.inr (.inr ⟨Bool.eq_false_iff.2 h3, rfl⟩), back0 hw15⟩

end Go.Proofs.Ytmmkacfeocnblaa.Ly
