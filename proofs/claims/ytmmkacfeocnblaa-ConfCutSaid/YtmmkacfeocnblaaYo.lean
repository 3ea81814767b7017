/- The document's Decode. No conditions. -/
import Derived.Test.YtmmkacfeocnblaaYn
import Derived.Test.YtmmkacfeocnblaaYj
import Derived.Test.YtmmkacfeocnblaaXa
namespace Go.Proofs.Ytmmkacfeocnblaa.Ly
open Go Go.Proofs.Ytmmkacfeocnblaa.Eng Go.Proofs.Ytmmkacfeocnblaa.Mem
set_option linter.unusedSimpArgs false
set_option linter.unusedVariables false
set_option maxRecDepth 100000

theorem cut4 {b : List Int} (h : 4 ≤ b.length) : cutB b 0 4 = [gd b 0, gd b 1, gd b 2, gd b 3] := by
  refine List.ext_getElem (by rw [cutB_len (by omega)]; rfl) (fun i h1 h2 => ?_)
  have hi : i < 4 := by rw [cutB_len (by omega)] at h1; exact h1
  rw [← gd_eq h1, cut_gd hi (by omega), Nat.zero_add]
  rcases (by omega : i = 0 ∨ i = 1 ∨ i = 2 ∨ i = 3) with rfl | rfl | rfl | rfl <;> rfl
theorem leV4 (b : List Int) (a : Nat) : leV b a 4 = ((gd b (a + 3) * 256 + gd b (a + 2)) * 256 + gd b (a + 1)) * 256 + gd b a := by
  unfold leV hv hv hv hv hv
  rw [show ((a : Int) + (((4 : Nat) : Int) - 1 - ((0 : Nat) : Int))).toNat = a + 3 from by omega, show ((a : Int) + (((4 : Nat) : Int) - 1 - ((1 : Nat) : Int))).toNat = a + 2 from by omega, show ((a : Int) + (((4 : Nat) : Int) - 1 - ((2 : Nat) : Int))).toNat = a + 1 from by omega, show ((a : Int) + (((4 : Nat) : Int) - 1 - ((3 : Nat) : Int))).toNat = a from by omega]
  omega
theorem strOf_mark : (strOf [66, 75, 67, 49]) = ⟨#[66, 75, 67, 49]⟩ := by rfl
theorem mark_is {b : List Int} (hB : Byt b) (h : 4 ≤ b.length) : (strOf (cutB b 0 4)).toList = (⟨#[66, 75, 67, 49]⟩ : ByteArray).toList ↔ leV b 0 4 = 826493762 := by
  have g0 := byt_gd hB 0
  have g1 := byt_gd hB 1
  have g2 := byt_gd hB 2
  have g3 := byt_gd hB 3
  rw [leV4, Nat.zero_add, Nat.zero_add, Nat.zero_add]
  constructor
  · intro e
    rw [← strOf_mark] at e
    have e2 := strOf_inj (cutB_byt hB _ _) (by intro x hx; simp only [List.mem_cons, List.not_mem_nil, or_false] at hx; omega) e
    rw [cut4 h] at e2
    simp only [List.cons.injEq, and_true] at e2
    omega
  · intro e
    rw [cut4 h, show gd b 0 = 66 from by omega, show gd b 1 = 75 from by omega, show gd b 2 = 67 from by omega, show gd b 3 = 49 from by omega, strOf_mark]
theorem dec_bad {b : List Int} {bd : Bool} {a a2 : Nat} {c : PConf} {v : Int} (hlen : b.length ≤ 16384) (h4 : 4 ≤ b.length) (hm : leV b 0 4 = 826493762) (h1 : Step false 4 (confAt b 4) bd a c) (h2 : Step bd a (numAt b a) true a2 v) : decP b = .bad 110 a2 := by
  have hm' := markAt_ok (b := b) (a := 0) ⟨by omega, hm⟩
  rcases h1 with ⟨e, -⟩ | ⟨-, e, h1⟩ | ⟨-, e, h1⟩
  · cases e
  · subst e
    rcases h2 with ⟨e, -⟩ | ⟨-, e, -⟩ | ⟨-, -, h2⟩
    · cases e
    · cases e
    · have h3 : ¬ a + 4 ≤ b.length := by
        intro h; rw [numAt_ok h] at h2; cases h2
      have h4 : a2 = a := by rw [numAt_no h3] at h2; cases h2; rfl
      rw [h4]; exact decP_short hlen (by rw [hm', PR.bind_ok]; exact h1) h3
  · subst e
    rcases h2 with ⟨-, -, e⟩ | ⟨e, -⟩ | ⟨e, -⟩
    · rw [e]; exact decP_no hlen (by rw [hm', PR.bind_ok]; exact h1)
    · cases e
    · cases e
theorem dec_good {b : List Int} {bd : Bool} {a a2 : Nat} {c : PConf} {v : Int} (h4 : 4 ≤ b.length) (hm : leV b 0 4 = 826493762) (h1 : Step false 4 (confAt b 4) bd a c) (h2 : Step bd a (numAt b a) false a2 v) : (markAt b 0).bind (fun _ a => confAt b a) = .ok c a ∧ a + 4 ≤ b.length ∧ v = leV b a 4 ∧ a2 = a + 4 := by
  have hm' := markAt_ok (b := b) (a := 0) ⟨by omega, hm⟩
  rcases h2 with ⟨-, e, -⟩ | ⟨e, -, h2⟩ | ⟨-, e, -⟩
  · cases e
  · subst e
    rcases h1 with ⟨e, -⟩ | ⟨-, -, h1⟩ | ⟨-, e, -⟩
    · cases e
    · exact ⟨by rw [hm', PR.bind_ok]; exact h1, numAt_of h2⟩
    · cases e
  · cases e
theorem dec_short4 {b : List Int} (hlen : b.length ≤ 16384) (h : b.length < 0 + 4) : decP b = .bad 110 0 := decP_no hlen (by rw [markAt_no (by omega), PR.bind_no])
theorem dec_nomark {b : List Int} (hlen : b.length ≤ 16384) (h : ¬ leV b 0 4 = 826493762) : decP b = .bad 110 0 := decP_no hlen (by rw [markAt_no (fun e => h e.2), PR.bind_no])
theorem rsumcut_calls (w : World) (b : Sl Int) (hb : SlAt u8c 1 Any w b) (n : Nat) (hn : n ≤ b.xs.length) : Calls Try.prog 48 #[.slice b.a (n - 0) (b.cap - 0)] w fun e w' => e = .returned (.int .u32 (sumB (b.xs.take n))) ∧ Keeps (fun _ => False) w w' := by
  have h := rsum_calls w ⟨b.a, b.cap, b.xs.take n⟩ (sl_take hb n)
  simp only [List.length_take, Nat.min_eq_left hn] at h
  exact h
abbrev q8hh_0 (z : Nat) : Ch := bk z #[i6 0, i6 0, i6 0, i6 0, .slice none 0 0, .slice none 0 0, .slice none 0 0] 26
abbrev q8hh_1 (pc : Nat) (l : Sl Int) (n16 : Nat) : Ch := bk pc #[.slice l.a l.xs.length l.cap, i6 (n16 : Int), .bool false] 91
abbrev q8hh_2 (w12 : World) (x9 : TConfig) : Ch := .blk w12.heap.size (.cells (TConfig.arr x9) 26 (0, 0)) true
abbrev q8hh_3 (z : Nat) (x9 : TConfig) : Ch := rowL z 69 8 TPartition.cells (.slice x9.Partitions.a x9.Partitions.xs.length x9.Partitions.cap) x9.Partitions.xs
abbrev q8hh_4 (z : Nat) (x9 : TConfig) : Ch := rowL z 62 1 (fun x : Sl TWindow => [Sl.val x]) (.slice x9.Cores.a x9.Cores.xs.length x9.Cores.cap) x9.Cores.xs
abbrev q8hh_5 (z : Nat) (x9 : TConfig) : Ch := rowL z 74 3 TChannel.cells (.slice x9.Channels.a x9.Channels.xs.length x9.Channels.cap) x9.Channels.xs
abbrev q8hh_6 (z : Nat) (x9 : TConfig) : Ch := famC z 99 4 TRegion.cells (x9.Partitions.xs.map TPartition.Regions)
abbrev q8hh_7 (z : Nat) (x9 : TConfig) : Ch := famC z 101 2 TPort.cells (x9.Partitions.xs.map TPartition.Ports)
abbrev q8hh_8 (w12 : World) : Nat × Value := (6, pt w12.heap.size)
abbrev q8hh_9 (pc : Nat) : Nat × Value := (5, pt pc)
theorem rdecode_calls (w : World) (l : Sl Int) (hb : SlAt u8c 1 Any w l) (hB : Byt l.xs) : Calls Try.prog 15 #[.slice l.a l.xs.length l.cap] w fun e w' => DecPost w l.xs e w' := by
 obtain ⟨z, hz⟩ : ∃ z, z = w.heap.size := ⟨_, rfl⟩
 refine calls_G (args := [.slice l.a l.xs.length l.cap]) 60 ⟨w, z, [(old0 w)]⟩ Try.func15 rfl (by kernel_rfl) (by kernel_rfl) (sat_0 hz) ?_
 have hbl : l.xs.length ≤ 140737488351232 := hb.len; have hbc : l.xs.length ≤ l.cap := hb.le
 refine g_keep [0] [(0, .slice l.a l.xs.length l.cap)] ?_
 refine q_c 6 0 [] [[o0, o0, o0]] [] [(0, .slice l.a l.xs.length l.cap), (2, pt z)] ⟨w, z + 1, [(old0 w), (q8hh_0 z)]⟩ rfl trivial ?_
 by_cases h1 : (16384 : Int) < ((l.xs.length : Nat) : Int)
 · refine q_cS 9 0 [1] [[o0, o0, oT], [o0, (an 7 1), o0, o0]] [BT ((((l.xs.length : Nat) : Int) : Int) > 16384), Qb z, Qb z, Qb z, Qb z, Qb z, Qb z, Qb z] [(2, pt z), (3, i6 0), (4, i6 2)] rfl ⟨bt (by omega), rfl, rfl, rfl, rfl, rfl, rfl, rfl, trivial⟩ ?_
   refine e_ret [.at 1, .at 1, .at 1, .at 1, .at 1, .at 1, .at 1] [Qb z, Qb z, Qb z, Qb z, Qb z, Qb z, Qb z] (.tuple #[.agg #[i6 0, i6 0, i6 0, i6 0, .slice none 0 0, .slice none 0 0, .slice none 0 0], i6 0, i6 2]) ⟨rfl, rfl, rfl, rfl, rfl, rfl, rfl, trivial⟩ ?_
   intro w2 hw2
   exact ⟨.inr ⟨2, 0, decP_long (by omega), rfl⟩, back0 hw2⟩
 · refine q_c 12 0 [0] [[o0, o0, oF], [o0, o0, o0, o0]] [BF ((((l.xs.length : Nat) : Int) : Int) > 16384)] [(0, .slice l.a l.xs.length l.cap), (2, pt z), (5, pt (z + 1))] ⟨w, z + 2, [(old0 w), (q8hh_0 z), (bk (z + 1) #[.slice l.a l.xs.length l.cap, i6 0, .bool false] 91)]⟩ rfl ⟨bf (by omega), trivial⟩ ?_
   generalize hpc : z + 1 = pc
   have hl : SlAt u8c 1 (fun x => x < w.heap.size ∧ ¬ x = pc) w l := sl_mono (fun _ _ _ _ h => h) (fun x hx => ⟨hx, fun e => by rw [e] at hx; omega⟩) (slAt_lt (fun x => by show 0 < 1; decide) hb)
   have hlen : l.xs.length ≤ 16384 := by omega
   refine q_cS 1 1 [] [[o0]] [] [(0, .slice l.a l.xs.length l.cap), (2, pt z), (q8hh_9 pc), (16, pt pc)] rfl trivial ?_
   refine l_call [] [] 45 #[pt pc, i6 4] (some 17) trivial ?_
   intro w3 hw3
   refine (take_good w3 pc l 0 (hw3.at (i := 2) rfl) (sl_mono (fun x _ _ hx hv => old_cell' hv _ (hw3.at (i := 0) rfl)) (fun x hx => ⟨Nat.lt_of_lt_of_le hx.1 (by rw [hw3.size]; show w.heap.size ≤ z + 2; omega), hx.2⟩) hl) hB hlen (by omega) 4 (by omega)).mono ?_
   rintro e w6 ⟨⟨hqw6, ⟨a4, cp5, rfl, hslw6⟩, hCw6⟩ | ⟨hqw6, rfl, hCw6⟩, hkw6⟩
   · have hclw6 := cutB_len (b := l.xs) (at' := 0) (n := 4) (by omega)
     obtain ⟨hnw6, hSw6⟩ := cur_set hw3 (i := 2) rfl hCw6 hkw6; have hnw6' : z + 2 ≤ w6.heap.size := hnw6
     refine ⟨_, _, rfl, hSw6, ?_⟩
     refine l_keep [0, 2, 5, 17] [(0, .slice l.a l.xs.length l.cap), (2, pt z), (q8hh_9 pc), (17, .slice a4 4 cp5)] ?_
     refine l_toStr 0 (cutB l.xs 0 4) a4 4 cp5 (old0 w) (some 18) (cutB_byt hB _ _) (fun w' hw => hslw6 _ _ (sl_mono (fun b k v _ hv => old_cell' hv w' hw) (fun _ h => h) hb)) ?_ (cutB_len (by omega))
     refine l_keep [0, 2, 5, 18] [(0, .slice l.a l.xs.length l.cap), (2, pt z), (q8hh_9 pc), (18, .string (strOf (cutB l.xs 0 4)))] ?_
     by_cases h7 : (strOf (cutB l.xs 0 4)).toList = (⟨#[66, 75, 67, 49]⟩ : ByteArray).toList
     · refine q_rS 7 1 [0] [[(ov (.bool false))], [o0]] [Value.bool (!((strOf (cutB l.xs 0 4)).toList == (⟨#[66, 75, 67, 49]⟩ : ByteArray).toList)) = Value.bool false] [(0, .slice l.a l.xs.length l.cap), (2, pt z), (q8hh_9 pc), (21, pt pc)] rfl ⟨congrArg (fun t => Value.bool (!t)) (beq_iff_eq.2 h7), trivial⟩ ?_
       refine l_call [] [] 46 #[pt pc] (some 22) trivial ?_
       intro w8 hw8
       refine (cconf w8 pc l (0 + 4) false (hw8.at (i := 2) rfl) (sl_mono (fun x _ _ hx hv => old_cell' hv _ (hw8.at (i := 0) rfl)) (fun x hx => ⟨Nat.lt_of_lt_of_le hx.1 (by rw [hw8.size]; show w.heap.size ≤ w6.heap.size; omega), hx.2⟩) hl) hB hlen (by omega)).mono ?_
       rintro e w12 ⟨x9, d10, n11, rfl, hstw12, hlaw12, hCw12, hkw12, hMw12⟩
       obtain ⟨hnw12, hSw12⟩ := cur_made hw8 (i := 2) rfl hCw12 hkw12 hMw12 z (show z ≤ w6.heap.size by omega); have hnw12' : w6.heap.size ≤ w12.heap.size := hnw12
       refine ⟨_, _, rfl, hSw12, ?_⟩
       refine q_r 8 1 [] [[o0, (an 7 9)], [o0, o0, o0, (a1 2), o0], [o0]] [Qb w12.heap.size, Qb w12.heap.size, Qb w12.heap.size, Qb w12.heap.size, Qb w12.heap.size, Qb w12.heap.size, Qb w12.heap.size, Qb pc] [(0, .slice l.a l.xs.length l.cap), (2, pt z), (q8hh_9 pc), (q8hh_8 w12), (7, i6 (n11 : Int)), (27, pt pc)] ⟨w, w12.heap.size + 1, [(old0 w), (q8hh_0 z), (bk pc #[.slice l.a l.xs.length l.cap, i6 (n11 : Int), .bool d10] 91), (q8hh_4 z x9), (famC z 97 3 TWindow.cells x9.Cores.xs), (q8hh_3 z x9), (q8hh_6 z x9), (q8hh_7 z x9), (q8hh_5 z x9), (q8hh_2 w12 x9)]⟩ rfl ⟨rfl, rfl, rfl, rfl, rfl, rfl, rfl, rfl, trivial⟩ ?_
       refine l_call [] [] 47 #[pt pc, i6 4] (some 28) trivial ?_
       intro w13 hw13
       refine (snum_calls (hw13.at (i := 2) rfl) (sl_mono (fun x _ _ hx hv => old_cell' hv _ (hw13.at (i := 0) rfl)) (fun x hx => ⟨Nat.lt_of_lt_of_le hx.1 (by rw [hw13.size]; show w.heap.size ≤ w12.heap.size + 1; omega), hx.2⟩) hl) hB hlen (by omega)).mono ?_
       rintro e w17 ⟨v14, d15, n16, rfl, hstw17, hrxw17, hlaw17, hCw17, hkw17⟩
       obtain ⟨hnw17, hSw17⟩ := cur_set hw13 (i := 2) rfl hCw17 hkw17; have hnw17' : w12.heap.size + 1 ≤ w17.heap.size := hnw17
       refine ⟨_, _, rfl, hSw17, ?_⟩
       refine q_rS 7 0 [] [[o0], [o0, o0, o0, (a1 2)]] [Qb pc] [(0, .slice l.a l.xs.length l.cap), (2, pt z), (q8hh_9 pc), (q8hh_8 w12), (7, i6 (n11 : Int)), (8, i6 v14), (32, .bool d15)] rfl ⟨rfl, trivial⟩ ?_
       cases d15
       · refine g_false <| g_skip <| e_seq <| g_seq <| g_seq ?_
         by_cases h18 : ((n16 : Int) : Int) < ((l.xs.length : Nat) : Int)
         · refine q_cS 5 0 [1] [[o0, o0, o0, (a1 2), o0, o0, oT]] [Qb pc, BT (((n16 : Int) : Int) < ((l.xs.length : Nat) : Int))] [(0, .slice l.a l.xs.length l.cap), (2, pt z), (q8hh_9 pc), (q8hh_8 w12), (7, i6 (n11 : Int)), (8, i6 v14), (44, .bool true)] rfl ⟨rfl, bt (by omega), trivial⟩ ?_
           refine g_draw 8 [0, 2, 3, 4, 5, 6, 7, 8, 9] [(old0 w), (q8hh_1 pc l n16), (q8hh_4 z x9), (famC z 97 3 TWindow.cells x9.Cores.xs), (q8hh_3 z x9), (q8hh_6 z x9), (q8hh_7 z x9), (q8hh_5 z x9), (q8hh_2 w12 x9)] rfl rfl ?_
           refine w_take [(0, o0), (1, o0), (2, o0), (3, o0), (4, (a1 1))] [2, 45, 49] [Qb pc] [true, true, true, true, true, false, false, false] [(2, pt z), (45, .agg #[i6 0, i6 0, i6 0, i6 0, .slice none 0 0, .slice none 0 0, .slice none 0 0]), (49, i6 (n16 : Int))] rfl (by as_aux_lemma => kernel_rfl) (by as_aux_lemma => kernel_rfl) ⟨rfl, trivial⟩ ?_
           refine w_one 5 (by as_aux_lemma => kernel_rfl) rfl ?_
           refine wo_eff (an 7 1) [2, 49] [Qb z, Qb z, Qb z, Qb z, Qb z, Qb z, Qb z] [(2, pt z), (49, i6 (n16 : Int))] ⟨w, w17.heap.size, [(old0 w), (q8hh_0 z), (q8hh_1 pc l n16), (q8hh_4 z x9), (famC z 97 3 TWindow.cells x9.Cores.xs), (q8hh_3 z x9), (q8hh_6 z x9), (q8hh_7 z x9), (q8hh_5 z x9), (q8hh_2 w12 x9)]⟩ [0, 2, 3, 4, 5, 6, 7, 8, 9] (by as_aux_lemma => kernel_rfl) rfl ⟨rfl, rfl, rfl, rfl, rfl, rfl, rfl, trivial⟩ (.inr rfl) ?_
           refine w_take [(6, o0), (7, o0)] [2, 3, 4] [] [true, true, true, true, true, true, true, true] [(2, pt z), (3, i6 (n16 : Int)), (4, i6 110)] rfl (by as_aux_lemma => kernel_rfl) (by as_aux_lemma => kernel_rfl) trivial ?_
           refine w_done (by as_aux_lemma => kernel_rfl) ?_
           refine e_keep [2, 3, 4] [(2, pt z), (3, i6 (n16 : Int)), (4, i6 110)] ?_
           refine e_seq <| g_ret <| e_ret [.at 1, .at 1, .at 1, .at 1, .at 1, .at 1, .at 1] [Qb z, Qb z, Qb z, Qb z, Qb z, Qb z, Qb z] (.tuple #[.agg #[i6 0, i6 0, i6 0, i6 0, .slice none 0 0, .slice none 0 0, .slice none 0 0], i6 (n16 : Int), i6 110]) ⟨rfl, rfl, rfl, rfl, rfl, rfl, rfl, trivial⟩ ?_
           intro w19 hw19
           obtain ⟨hg1, hg2, hg3, hg4⟩ := dec_good (by omega) ((mark_is hB (by omega)).1 h7) hstw12 hstw17
           exact ⟨.inr ⟨110, _, decP_more hlen hg1 (by omega), by rw [hg4]⟩, back0 hw19⟩
         · refine q_cS 9 4 [0] [[o0, o0, o0, (a1 2), o0, o0, oF], [o0, o0, o0, ⟨.slc 0 n11 false, none⟩]] [Qb pc, BF (((n16 : Int) : Int) < ((l.xs.length : Nat) : Int)), (0 : Int) = ((0 : Nat) : Int), ((n11 : Int) : Int) = ((n11 : Nat) : Int), 0 ≤ n11, n11 ≤ l.cap, l.cap = 0 ∨ (0 : Nat) = 0] [(2, pt z), (q8hh_8 w12), (7, i6 (n11 : Int)), (50, i6 v14), (53, .slice l.a (n11 - 0) (l.cap - 0))] rfl ⟨rfl, bf (by omega), rfl, rfl, (by omega), (by omega), .inr rfl, trivial⟩ ?_
           refine l_call [] [] 48 #[.slice l.a (n11 - 0) (l.cap - 0)] (some 54) trivial ?_
           intro w20 hw20
           refine (rsumcut_calls w20 l (sl_mono (hw20.ext rfl) (fun _ h => h) hb) n11 (by omega)).mono ?_
           rintro e w21 ⟨rfl, hkw21⟩
           have hnw21 : w17.heap.size ≤ w21.heap.size := size_of hw20 hkw21
           have hsb := sumB_in (l.xs.take n11)
           refine ⟨_, _, rfl, hw20.keeps hkw21, ?_⟩
           refine l_keep [2, 6, 7, 50, 54] [(2, pt z), (q8hh_8 w12), (7, i6 (n11 : Int)), (50, i6 v14), (54, .int .u32 (sumB (l.xs.take n11)))] ?_
           by_cases h22 : (v14 : Int) = (sumB (l.xs.take n11))
           · refine q_r 10 0 [0] [[(ov (i6 (sumB (l.xs.take n11)))), oF], [(an 7 9), (an 7 1), o0, o0]] [Wr ((sumB (l.xs.take n11))) ((sumB (l.xs.take n11))), NF v14 (sumB (l.xs.take n11)), Qb w12.heap.size, Qb w12.heap.size, Qb w12.heap.size, Qb w12.heap.size, Qb w12.heap.size, Qb w12.heap.size, Qb w12.heap.size, Qb z, Qb z, Qb z, Qb z, Qb z, Qb z, Qb z] [(2, pt z), (3, i6 0), (4, i6 0)] ⟨w, w21.heap.size, [(old0 w), (bk z (TConfig.arr x9) 26), (q8hh_1 pc l n16), (q8hh_4 z x9), (famC z 97 3 TWindow.cells x9.Cores.xs), (q8hh_3 z x9), (q8hh_6 z x9), (q8hh_7 z x9), (q8hh_5 z x9), (q8hh_2 w12 x9)]⟩ rfl ⟨wrI rfl, nf (by omega), rfl, rfl, rfl, rfl, rfl, rfl, rfl, rfl, rfl, rfl, rfl, rfl, rfl, rfl, trivial⟩ ?_
             refine e_ret [.at 1, .at 1, .at 1, .at 1, .at 1, .at 1, .at 1] [Qb z, Qb z, Qb z, Qb z, Qb z, Qb z, Qb z] (.tuple #[.agg #[i6 x9.Frames, i6 x9.Major, i6 x9.Kernel, i6 x9.Room, .slice x9.Cores.a x9.Cores.xs.length x9.Cores.cap, .slice x9.Partitions.a x9.Partitions.xs.length x9.Partitions.cap, .slice x9.Channels.a x9.Channels.xs.length x9.Channels.cap], i6 0, i6 0]) ⟨rfl, rfl, rfl, rfl, rfl, rfl, rfl, trivial⟩ ?_
             intro w23 hw23
             obtain ⟨hg1, hg2, hg3, hg4⟩ := dec_good (by omega) ((mark_is hB (by omega)).1 h7) hstw12 hstw17
             exact ⟨.inl ⟨x9, decP_ok hlen hg1 (by omega) (by omega), rfl, made_of (fs := confFs x9) (conf_low x9) (by have hP := hw23.pick [3, 4, 5, 6, 7, 8] (σ' := [(q8hh_4 z x9), (famC z 97 3 TWindow.cells x9.Cores.xs), (q8hh_3 z x9), (q8hh_6 z x9), (q8hh_7 z x9), (q8hh_5 z x9)]) rfl rfl; rw [hw23.size]; exact hz ▸ hP)⟩, back0 hw23⟩
           · refine q_rS 8 0 [1] [[(ov (i6 (sumB (l.xs.take n11)))), oT], [o0, o0, (an 7 1), o0, o0]] [Wr ((sumB (l.xs.take n11))) ((sumB (l.xs.take n11))), NT v14 (sumB (l.xs.take n11)), Qb z, Qb z, Qb z, Qb z, Qb z, Qb z, Qb z] [(2, pt z), (3, i6 (n11 : Int)), (4, i6 111)] rfl ⟨wrI rfl, nt (by omega), rfl, rfl, rfl, rfl, rfl, rfl, rfl, trivial⟩ ?_
             refine e_ret [.at 1, .at 1, .at 1, .at 1, .at 1, .at 1, .at 1] [Qb z, Qb z, Qb z, Qb z, Qb z, Qb z, Qb z] (.tuple #[.agg #[i6 0, i6 0, i6 0, i6 0, .slice none 0 0, .slice none 0 0, .slice none 0 0], i6 (n11 : Int), i6 111]) ⟨rfl, rfl, rfl, rfl, rfl, rfl, rfl, trivial⟩ ?_
             intro w24 hw24
             obtain ⟨hg1, hg2, hg3, hg4⟩ := dec_good (by omega) ((mark_is hB (by omega)).1 h7) hstw12 hstw17
             exact ⟨.inr ⟨111, _, decP_sum hlen hg1 (by omega) (by omega), rfl⟩, back0 hw24⟩
       · refine g_true <| g_seq <| g_draw 8 [0, 2, 3, 4, 5, 6, 7, 8, 9] [(old0 w), (bk pc #[.slice l.a l.xs.length l.cap, i6 (n16 : Int), .bool true] 91), (q8hh_4 z x9), (famC z 97 3 TWindow.cells x9.Cores.xs), (q8hh_3 z x9), (q8hh_6 z x9), (q8hh_7 z x9), (q8hh_5 z x9), (q8hh_2 w12 x9)] rfl rfl ?_
         refine w_take [(0, o0), (1, o0), (2, o0), (3, o0), (4, (a1 1))] [2, 33, 37] [Qb pc] [true, true, true, true, true, false, false, false] [(2, pt z), (33, .agg #[i6 0, i6 0, i6 0, i6 0, .slice none 0 0, .slice none 0 0, .slice none 0 0]), (37, i6 (n16 : Int))] rfl (by as_aux_lemma => kernel_rfl) (by as_aux_lemma => kernel_rfl) ⟨rfl, trivial⟩ ?_
         refine w_one 5 (by as_aux_lemma => kernel_rfl) rfl ?_
         refine wo_eff (an 7 1) [2, 37] [Qb z, Qb z, Qb z, Qb z, Qb z, Qb z, Qb z] [(2, pt z), (37, i6 (n16 : Int))] ⟨w, w17.heap.size, [(old0 w), (q8hh_0 z), (bk pc #[.slice l.a l.xs.length l.cap, i6 (n16 : Int), .bool true] 91), (q8hh_4 z x9), (famC z 97 3 TWindow.cells x9.Cores.xs), (q8hh_3 z x9), (q8hh_6 z x9), (q8hh_7 z x9), (q8hh_5 z x9), (q8hh_2 w12 x9)]⟩ [0, 2, 3, 4, 5, 6, 7, 8, 9] (by as_aux_lemma => kernel_rfl) rfl ⟨rfl, rfl, rfl, rfl, rfl, rfl, rfl, trivial⟩ (.inr rfl) ?_
         refine w_take [(6, o0), (7, o0)] [2, 3, 4] [] [true, true, true, true, true, true, true, true] [(2, pt z), (3, i6 (n16 : Int)), (4, i6 110)] rfl (by as_aux_lemma => kernel_rfl) (by as_aux_lemma => kernel_rfl) trivial ?_
         refine w_done (by as_aux_lemma => kernel_rfl) ?_
         refine e_keep [2, 3, 4] [(2, pt z), (3, i6 (n16 : Int)), (4, i6 110)] ?_
         refine e_seq <| g_ret <| e_ret [.at 1, .at 1, .at 1, .at 1, .at 1, .at 1, .at 1] [Qb z, Qb z, Qb z, Qb z, Qb z, Qb z, Qb z] (.tuple #[.agg #[i6 0, i6 0, i6 0, i6 0, .slice none 0 0, .slice none 0 0, .slice none 0 0], i6 (n16 : Int), i6 110]) ⟨rfl, rfl, rfl, rfl, rfl, rfl, rfl, trivial⟩ ?_
         intro w25 hw25
         exact ⟨.inr ⟨110, _, dec_bad hlen (by omega) ((mark_is hB (by omega)).1 h7) hstw12 hstw17, rfl⟩, back0 hw25⟩
     · refine q_rS 8 0 [1] [[(ov (.bool true))], [o0, (an 7 1), o0, o0]] [Value.bool (!((strOf (cutB l.xs 0 4)).toList == (⟨#[66, 75, 67, 49]⟩ : ByteArray).toList)) = Value.bool true, Qb z, Qb z, Qb z, Qb z, Qb z, Qb z, Qb z] [(2, pt z), (3, i6 0), (4, i6 110)] rfl ⟨congrArg (fun t => Value.bool (!t)) (beq_eq_false_iff_ne.2 h7), rfl, rfl, rfl, rfl, rfl, rfl, rfl, trivial⟩ ?_
       refine e_ret [.at 1, .at 1, .at 1, .at 1, .at 1, .at 1, .at 1] [Qb z, Qb z, Qb z, Qb z, Qb z, Qb z, Qb z] (.tuple #[.agg #[i6 0, i6 0, i6 0, i6 0, .slice none 0 0, .slice none 0 0, .slice none 0 0], i6 0, i6 110]) ⟨rfl, rfl, rfl, rfl, rfl, rfl, rfl, trivial⟩ ?_
       intro w26 hw26
       exact ⟨.inr ⟨110, 0, dec_nomark hlen (fun e => h7 ((mark_is hB (by omega)).2 e)), rfl⟩, back0 hw26⟩
   · obtain ⟨hnw6, hSw6⟩ := cur_set hw3 (i := 2) rfl hCw6 hkw6; have hnw6' : z + 2 ≤ w6.heap.size := hnw6
     refine ⟨_, _, rfl, hSw6, ?_⟩
     refine l_keep [0, 2, 5, 17] [(0, .slice l.a l.xs.length l.cap), (2, pt z), (q8hh_9 pc), (17, .slice none 0 0)] ?_
     refine l_toStr 0 ([] : List Int) none 0 0 (old0 w) (some 18) (fun x hx => by cases hx) (fun w' hw => sl_none _ _) ?_
     refine q_rS 8 0 [1] [[(ov (.bool true))], [o0, (an 7 1), o0, o0]] [Value.bool (!((strOf ([] : List Int)).toList == (⟨#[66, 75, 67, 49]⟩ : ByteArray).toList)) = Value.bool true, Qb z, Qb z, Qb z, Qb z, Qb z, Qb z, Qb z] [(2, pt z), (3, i6 0), (4, i6 110)] rfl ⟨by simp [strOf, Go.ByteArray.toList_eq], rfl, rfl, rfl, rfl, rfl, rfl, rfl, trivial⟩ ?_
     refine e_ret [.at 1, .at 1, .at 1, .at 1, .at 1, .at 1, .at 1] [Qb z, Qb z, Qb z, Qb z, Qb z, Qb z, Qb z] (.tuple #[.agg #[i6 0, i6 0, i6 0, i6 0, .slice none 0 0, .slice none 0 0, .slice none 0 0], i6 0, i6 110]) ⟨rfl, rfl, rfl, rfl, rfl, rfl, rfl, trivial⟩ ?_
     intro w27 hw27
     exact ⟨.inr ⟨110, 0, dec_short4 hlen (by omega), rfl⟩, back0 hw27⟩

end Go.Proofs.Ytmmkacfeocnblaa.Ly
