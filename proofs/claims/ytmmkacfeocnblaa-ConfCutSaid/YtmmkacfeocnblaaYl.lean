/- The cursor's number, text, source. No conditions. -/
import Derived.Test.YtmmkacfeocnblaaYk
namespace Go.Proofs.Ytmmkacfeocnblaa.Ly
open Go Go.Proofs.Ytmmkacfeocnblaa.Eng Go.Proofs.Ytmmkacfeocnblaa.Mem
set_option linter.unusedSimpArgs false
set_option linter.unusedVariables false
set_option maxRecDepth 100000

def CNumPost (w : World) (pc : Nat) (l : Sl Int) (at' k : Nat) (e : Ending) (w' : World) : Prop :=
  ((at' + k ≤ l.xs.length ∧ e = .returned (.int .i64 (leV l.xs at' k)) ∧ CurIs w' pc l (at' + k) false) ∨ (l.xs.length < at' + k ∧ e = .returned (.int .i64 0) ∧ CurIs w' pc l at' true)) ∧ Keeps (fun b => b = pc) w w'
theorem hv_step {b : List Int} {a k j : Nat} {y : Int} (hj : j < k) (hn : a + k ≤ b.length) (hy : y = gd (cutB b a k) ((k : Int) - 1 - (j : Int)).toNat) : hv b a k (j + 1) = 256 * hv b a k j + y := by
  rw [hy, cut_gd (by omega) hn, hv, show ((a : Int) + ((k : Int) - 1 - (j : Int))).toNat = a + ((k : Int) - 1 - (j : Int)).toNat from by omega]; omega
theorem cnum_good (w : World) (pc : Nat) (l : Sl Int) (at0 : Nat) (hc : CurIs w pc l at0 false) (hl : SlAt u8c 1 (fun x => x < w.heap.size ∧ ¬ x = pc) w l) (hB : Byt l.xs) (hlen : l.xs.length ≤ 16384) (hat : at0 ≤ l.xs.length) (k : Nat) (hk : 1 ≤ k ∧ k ≤ 4) : Calls Try.prog 47 #[.pointer (some ⟨pc, 0, none⟩), .int .i64 (k : Int)] w fun e w' => CNumPost w pc l at0 k e w' := by
 obtain ⟨z, hz⟩ : ∃ z, z = w.heap.size := ⟨_, rfl⟩
 refine calls_G (args := [pt pc, i6 (k : Int)]) 27 ⟨w, z, [(old (fun b => b = pc) w), (bk pc #[.slice l.a l.xs.length l.cap, i6 (at0 : Int), .bool false] 91)]⟩ Try.func47 rfl (by kernel_rfl) (by kernel_rfl) (hz ▸ sat_cur hc) ?_
 refine g_keep [0, 1] [(0, pt pc), (1, i6 (k : Int))] ?_
 refine q_cS 6 2 [] [[o0], [o0, o0]] [] [(8, pt pc), (9, i6 (k : Int))] rfl trivial ?_
 refine l_call [] [] 45 #[pt pc, i6 (k : Int)] (some 10) trivial ?_
 intro w1 hw1
 refine (take_good w1 pc l at0 (hw1.at (i := 1) rfl) (sl_mono (fun x _ _ hx hv => old_cell hv hx.2 _ (hw1.at (i := 0) rfl)) (fun x hx => ⟨Nat.lt_of_lt_of_le hx.1 (by rw [hw1.size]; show w.heap.size ≤ z; omega), hx.2⟩) hl) hB hlen (by omega) k (by omega)).mono ?_
 rintro e w4 ⟨⟨hqw4, ⟨a2, cp3, rfl, hslw4⟩, hCw4⟩ | ⟨hqw4, rfl, hCw4⟩, hkw4⟩
 · have hclw4 := cutB_len (b := l.xs) (at' := at0) (n := k) (by omega)
   obtain ⟨hnw4, hSw4⟩ := cur_set hw1 (i := 1) rfl hCw4 hkw4; have hnw4' : z ≤ w4.heap.size := hnw4
   refine ⟨_, _, rfl, hSw4, ?_⟩
   refine q_rS 12 0 [] [[o0], [o0], [o0, o0, (ov (i6 ((k : Int) - 1))), o0]] [Wr (((k : Int) : Int) - 1) ((k : Int) - 1)] [(5, .slice a2 k cp3), (6, i6 0), (7, i6 ((k : Int) - 1))] rfl ⟨wrI, trivial⟩ ?_
   refine g_loop (fun m a w' => ∃ (n6 : Nat) (j : Nat), m = k - j ∧ w4.heap.size ≤ n6 ∧ (j ≤ k) ∧ St 27 [(5, .slice a2 k cp3), (6, i6 (hv l.xs at0 k j)), (7, i6 ((k : Int) - 1 - (j : Int)))] [] ⟨w, n6, [(old (fun b => b = pc) w), (bk pc #[.slice l.a l.xs.length l.cap, i6 ((at0 + k : Nat) : Int), .bool false] 91)]⟩ a w') (k - 0) ?_ ?_
   · intro a w' hs; exact ⟨w4.heap.size, 0, rfl, Nat.le_refl _, Nat.zero_le _, by rw [show hv l.xs at0 k 0 = 0 from rfl, show (k : Int) - 1 - ((0 : Nat) : Int) = (k : Int) - 1 from by omega]; exact hs⟩
   · rintro m a w' ⟨n6, j, rfl, hn5, hj, hs⟩
     refine (?_ : G Try.prog 27 [(5, .slice a2 k cp3), (6, i6 (hv l.xs at0 k j)), (7, i6 ((k : Int) - 1 - (j : Int)))] [] ⟨w, n6, [(old (fun b => b = pc) w), (bk pc #[.slice l.a l.xs.length l.cap, i6 ((at0 + k : Nat) : Int), .bool false] 91)]⟩ _ _ _) a w' hs
     clear hs a w'
     have hvj := hv_bd4 hB at0 k j (by omega)
     refine g_seq <| g_seq ?_
     by_cases h7 : ((k : Int) - 1 - (j : Int) : Int) < 0
     · refine q_cS 14 0 [0] [[o0, oF], [o0, o0]] [BF (((k : Int) - 1 - (j : Int) : Int) ≥ 0)] [(4, i6 (hv l.xs at0 k j))] rfl ⟨bf (by omega), trivial⟩ ?_
       refine e_ret [] [] (i6 (hv l.xs at0 k j)) trivial ?_
       intro w8 hw8
       have hjk : j = k := by omega
       exact ⟨.inl ⟨by omega, by rw [hjk]; rfl, hw8.at (i := 1) rfl⟩, back0 hw8⟩
     · refine q_cS 8 0 [1] [[o0, oT]] [BT (((k : Int) - 1 - (j : Int) : Int) ≥ 0)] [(5, .slice a2 k cp3), (6, i6 (hv l.xs at0 k j)), (7, i6 ((k : Int) - 1 - (j : Int))), (15, .bool true)] rfl ⟨bt (by omega), trivial⟩ ?_
       obtain ⟨b9, o10, ha11, hF13, hc12⟩ := ((⟨hslw4 _ _ hl, fun _ _ => trivial⟩ : SlOk u8c 1 (fun _ _ _ => True) _ _ _)).1.all (show 0 < (cutB l.xs at0 k).length by omega)
       replace ha11 : a2 = some ⟨b9, o10, none⟩ := ha11
       refine g_eq [(5, .slice (some ⟨b9, o10, none⟩) k cp3), (6, i6 (hv l.xs at0 k j)), (7, i6 ((k : Int) - 1 - (j : Int))), (15, .bool true)] (by simp only [ha11]) ?_
       have hc14 := hc12 (((k : Int) - 1 - (j : Int)).toNat) (show ((k : Int) - 1 - (j : Int)).toNat < (cutB l.xs at0 k).length by omega)
       have he15 := ((⟨hslw4 _ _ hl, fun _ _ => trivial⟩ : SlOk u8c 1 (fun _ _ _ => True) _ _ _)).2 (((k : Int) - 1 - (j : Int)).toNat) (show ((k : Int) - 1 - (j : Int)).toNat < (cutB l.xs at0 k).length by omega)
       obtain ⟨y16, hy16⟩ : ∃ y_, y_ = gd (cutB l.xs at0 k) (((k : Int) - 1 - (j : Int)).toNat) := ⟨_, rfl⟩
       rw [← hy16] at he15 hc14
       have hyby16 := byt_gd (cutB_byt hB at0 k) ((k : Int) - 1 - (j : Int)).toNat; rw [← hy16] at hyby16
       refine q_cS 6 0 [] [[o0, (ov (i6 (256 * (hv l.xs at0 k j)))), o0, o0, (oi (((k : Int) - 1 - (j : Int)).toNat)), (oa [.via 0 (.int .u8 y16)]), (ov (i6 y16)), (ov (i6 ((256 * (hv l.xs at0 k j)) + y16))), o0], [o0, (ov (i6 (((k : Int) - 1 - (j : Int)) - 1))), o0]] [Wr ((256 : Int) * (hv l.xs at0 k j)) (256 * (hv l.xs at0 k j)), ((k : Int) - 1 - (j : Int) : Int) = ((((k : Int) - 1 - (j : Int)).toNat : Nat) : Int), ((k : Int) - 1 - (j : Int)).toNat < k, (none : Option Nat) = none, ∀ w', Ch.holds (old (fun b => b = pc) w) w' → w'.cell? ⟨b9, o10 + ((k : Int) - 1 - (j : Int)).toNat, none⟩ = some (.int .u8 y16), Wr (y16) (y16), Wr ((256 * (hv l.xs at0 k j) : Int) + y16) ((256 * (hv l.xs at0 k j)) + y16), Wr (((k : Int) - 1 - (j : Int) : Int) - 1) (((k : Int) - 1 - (j : Int)) - 1)] [(5, .slice (some ⟨b9, o10, none⟩) k cp3), (6, i6 ((256 * (hv l.xs at0 k j)) + y16)), (7, i6 (((k : Int) - 1 - (j : Int)) - 1))] rfl ⟨wrI, (by omega), (by omega), rfl, oldD_cell (F := fun b => b = pc) hF13 (hc14 0 _ rfl), wrI rfl, wrI, wrI, trivial⟩ ?_
       refine e_eqk [5, 6, 7] [(5, .slice a2 k cp3), (6, i6 ((256 * (hv l.xs at0 k j)) + y16)), (7, i6 (((k : Int) - 1 - (j : Int)) - 1))] (by simp only [ha11]; rfl) ?_
       refine e_inv (fun a w' hs => ⟨k - (j + 1), by omega, n6, (j + 1), rfl, by omega, by omega, by rw [hv_step (by omega) (by omega) hy16, show (k : Int) - 1 - ((j + 1 : Nat) : Int) = (k : Int) - 1 - (j : Int) - 1 from by omega]; exact hs⟩)
 · obtain ⟨hnw4, hSw4⟩ := cur_set hw1 (i := 1) rfl hCw4 hkw4; have hnw4' : z ≤ w4.heap.size := hnw4
   refine ⟨_, _, rfl, hSw4, ?_⟩
   refine q_rS 12 0 [] [[o0], [o0], [o0, o0, o0, o0]] [] [(5, .slice none 0 0), (6, i6 0), (7, i6 (-1))] rfl trivial ?_
   refine g_loop (fun m a w' => ∃ (n18 : Nat), m = 0 ∧ w4.heap.size ≤ n18 ∧ St 27 [(5, .slice none 0 0), (6, i6 0), (7, i6 (-1))] [] ⟨w, n18, [(old (fun b => b = pc) w), (bk pc #[.slice l.a l.xs.length l.cap, i6 (at0 : Int), .bool true] 91)]⟩ a w') (0) ?_ ?_
   · intro a w' hs; exact ⟨w4.heap.size, rfl, Nat.le_refl _, hs⟩
   · rintro m a w' ⟨n18, rfl, hn17, hs⟩
     refine (?_ : G Try.prog 27 [(5, .slice none 0 0), (6, i6 0), (7, i6 (-1))] [] ⟨w, n18, [(old (fun b => b = pc) w), (bk pc #[.slice l.a l.xs.length l.cap, i6 (at0 : Int), .bool true] 91)]⟩ _ _ _) a w' hs
     clear hs a w'
     refine q_cS 16 0 [0] [[o0, o0], [o0, o0]] [] [(4, i6 0)] rfl trivial ?_
     refine e_ret [] [] (i6 0) trivial ?_
     intro w19 hw19
     exact ⟨.inr ⟨by omega, rfl, hw19.at (i := 1) rfl⟩, back0 hw19⟩
abbrev qzfe_0 (pc : Nat) (l : Sl Int) (at0 : Nat) : Ch := bk pc #[.slice l.a l.xs.length l.cap, i6 (at0 : Int), .bool true] 91
theorem cnum_bad (w : World) (pc : Nat) (l : Sl Int) (at0 : Nat) (hc : CurIs w pc l at0 true) (hl : SlAt u8c 1 (fun x => x < w.heap.size ∧ ¬ x = pc) w l) (hB : Byt l.xs) (hlen : l.xs.length ≤ 16384) (hat : at0 ≤ l.xs.length) (k : Nat) (hk : 1 ≤ k ∧ k ≤ 4) : Calls Try.prog 47 #[.pointer (some ⟨pc, 0, none⟩), .int .i64 (k : Int)] w fun e w' => e = .returned (.int .i64 0) ∧ CurIs w' pc l at0 true ∧ Keeps (fun b => b = pc) w w' := by
 obtain ⟨z, hz⟩ : ∃ z, z = w.heap.size := ⟨_, rfl⟩
 refine calls_G (args := [pt pc, i6 (k : Int)]) 27 ⟨w, z, [(old (fun b => b = pc) w), (qzfe_0 pc l at0)]⟩ Try.func47 rfl (by kernel_rfl) (by kernel_rfl) (hz ▸ sat_cur hc) ?_
 refine g_keep [0, 1] [(0, pt pc), (1, i6 (k : Int))] ?_
 refine q_cS 6 2 [] [[o0], [o0, o0]] [] [(8, pt pc), (9, i6 (k : Int))] rfl trivial ?_
 refine l_call [] [] 45 #[pt pc, i6 (k : Int)] (some 10) trivial ?_
 intro w1 hw1
 refine (take_bad w1 pc l at0 (hw1.at (i := 1) rfl) (sl_mono (fun x _ _ hx hv => old_cell hv hx.2 _ (hw1.at (i := 0) rfl)) (fun x hx => ⟨Nat.lt_of_lt_of_le hx.1 (by rw [hw1.size]; show w.heap.size ≤ z; omega), hx.2⟩) hl) hB hlen (by omega) k).mono ?_
 rintro e w2 ⟨rfl, hCw2, hkw2⟩
 obtain ⟨hnw2, hSw2⟩ := cur_set hw1 (i := 1) rfl hCw2 hkw2; have hnw2' : z ≤ w2.heap.size := hnw2
 refine ⟨_, _, rfl, hSw2, ?_⟩
 refine q_rS 12 0 [] [[o0], [o0], [o0, o0, o0, o0]] [] [(5, .slice none 0 0), (6, i6 0), (7, i6 (-1))] rfl trivial ?_
 refine g_loop (fun m a w' => ∃ (n4 : Nat), m = 0 ∧ w2.heap.size ≤ n4 ∧ St 27 [(5, .slice none 0 0), (6, i6 0), (7, i6 (-1))] [] ⟨w, n4, [(old (fun b => b = pc) w), (qzfe_0 pc l at0)]⟩ a w') (0) ?_ ?_
 · intro a w' hs; exact ⟨w2.heap.size, rfl, Nat.le_refl _, hs⟩
 · rintro m a w' ⟨n4, rfl, hn3, hs⟩
   refine (?_ : G Try.prog 27 [(5, .slice none 0 0), (6, i6 0), (7, i6 (-1))] [] ⟨w, n4, [(old (fun b => b = pc) w), (qzfe_0 pc l at0)]⟩ _ _ _) a w' hs
   clear hs a w'
   refine q_cS 16 0 [0] [[o0, o0], [o0, o0]] [] [(4, i6 0)] rfl trivial ?_
   refine e_ret [] [] (i6 0) trivial ?_
   intro w5 hw5
   exact ⟨rfl, hw5.at (i := 1) rfl, back0 hw5⟩
abbrev qm4s_0 (pc : Nat) : Nat × Value := (0, pt pc)
theorem ctext_good (w : World) (pc : Nat) (l : Sl Int) (at0 : Nat) (hc : CurIs w pc l at0 false) (hl : SlAt u8c 1 (fun x => x < w.heap.size ∧ ¬ x = pc) w l) (hB : Byt l.xs) (hlen : l.xs.length ≤ 16384) (hat : at0 ≤ l.xs.length) : Calls Try.prog 98 #[.pointer (some ⟨pc, 0, none⟩)] w fun e w' => ((∃ x a, textAt l.xs at0 = .ok x a ∧ e = .returned (.string x) ∧ a ≤ l.xs.length ∧ CurIs w' pc l a false) ∨ (textAt l.xs at0 = .no at0 ∧ e = .returned (.string ⟨#[]⟩) ∧ CurIs w' pc l at0 true)) ∧ Keeps (fun b => b = pc) w w' := by
 obtain ⟨z, hz⟩ : ∃ z, z = w.heap.size := ⟨_, rfl⟩
 refine calls_G (args := [pt pc]) 30 ⟨w, z, [(old (fun b => b = pc) w), (bk pc #[.slice l.a l.xs.length l.cap, i6 (at0 : Int), .bool false] 91)]⟩ Try.func98 rfl (by kernel_rfl) (by kernel_rfl) (hz ▸ sat_cur hc) ?_
 refine g_keep [0] [(qm4s_0 pc)] ?_
 refine q_cS 10 1 [] [[o0], [o0, o0, o0, (a1 1), o0], [o0]] [Qb pc] [(qm4s_0 pc), (3, i6 (at0 : Int)), (10, pt pc)] rfl ⟨rfl, trivial⟩ ?_
 refine l_call [] [] 47 #[pt pc, i6 4] (some 11) trivial ?_
 intro w1 hw1
 refine (cnum_good w1 pc l at0 (hw1.at (i := 1) rfl) (sl_mono (fun x _ _ hx hv => old_cell hv hx.2 _ (hw1.at (i := 0) rfl)) (fun x hx => ⟨Nat.lt_of_lt_of_le hx.1 (by rw [hw1.size]; show w.heap.size ≤ z; omega), hx.2⟩) hl) hB hlen (by omega) 4 ⟨by omega, by omega⟩).mono ?_
 rintro e w2 ⟨⟨hqw2, rfl, hCw2⟩ | ⟨hqw2, rfl, hCw2⟩, hkw2⟩
 · have hvbw2 := hv_bd4 hB at0 4 4 (by omega); obtain ⟨m, hm⟩ : ∃ m : Nat, leV l.xs at0 4 = (m : Int) := ⟨_, (Int.toNat_of_nonneg hvbw2.1).symm⟩; rw [hm]; have hmv : hv l.xs at0 4 4 = (m : Int) := hm
   obtain ⟨hnw2, hSw2⟩ := cur_set hw1 (i := 1) rfl hCw2 hkw2; have hnw2' : z ≤ w2.heap.size := hnw2
   refine ⟨_, _, rfl, hSw2, ?_⟩
   refine q_rS 4 0 [] [[o0]] [] [(qm4s_0 pc), (3, i6 (at0 : Int)), (4, i6 (m : Int))] rfl trivial ?_
   by_cases h3 : (255 : Int) < (m : Int)
   · refine q_c 9 2 [1] [[o0, oT], [o0, o0, o0, (a1 1)], [o0, o0]] [BT (((m : Int) : Int) > 255), Qb pc] [(qm4s_0 pc), (3, i6 (at0 : Int)), (17, pt pc), (18, i6 (m : Int))] ⟨w, w2.heap.size, [(old (fun b => b = pc) w), (bk pc #[.slice l.a l.xs.length l.cap, i6 ((at0 + 4 : Nat) : Int), .bool true] 91)]⟩ rfl ⟨bt (by omega), rfl, trivial⟩ ?_
     refine l_call [] [] 45 #[pt pc, i6 (m : Int)] (some 19) trivial ?_
     intro w4 hw4
     refine (take_bad w4 pc l (at0 + 4) (hw4.at (i := 1) rfl) (sl_mono (fun x _ _ hx hv => old_cell hv hx.2 _ (hw4.at (i := 0) rfl)) (fun x hx => ⟨Nat.lt_of_lt_of_le hx.1 (by rw [hw4.size]; show w.heap.size ≤ w2.heap.size; omega), hx.2⟩) hl) hB hlen (by omega) m).mono ?_
     rintro e w5 ⟨rfl, hCw5, hkw5⟩
     obtain ⟨hnw5, hSw5⟩ := cur_set hw4 (i := 1) rfl hCw5 hkw5; have hnw5' : w2.heap.size ≤ w5.heap.size := hnw5
     refine ⟨_, _, rfl, hSw5, ?_⟩
     refine l_keep [0, 3, 19] [(qm4s_0 pc), (3, i6 (at0 : Int)), (19, .slice none 0 0)] ?_
     refine l_toStr 0 ([] : List Int) none 0 0 (old (fun b => b = pc) w) (some 20) (fun x hx => by cases hx) (fun w' hw => sl_none _ _) ?_
     refine q_r 16 0 [1] [[o0], [o0, o0, o0, (a1 1)], [o0, o0, o0, o0, (a1 1)], [o0, o0]] [Qb pc, Qb pc] [(2, .string (strOf ([] : List Int)))] ⟨w, w5.heap.size, [(old (fun b => b = pc) w), (bk pc #[.slice l.a l.xs.length l.cap, i6 (at0 : Int), .bool true] 91)]⟩ rfl ⟨rfl, rfl, trivial⟩ ?_
     refine e_ret [] [] (.string (strOf ([] : List Int))) trivial ?_
     intro w6 hw6
     exact ⟨.inr ⟨textAt_no (by omega), rfl, hw6.at (i := 1) rfl⟩, back0 hw6⟩
   · refine q_cS 8 2 [0] [[o0, oF], [o0, o0]] [BF (((m : Int) : Int) > 255)] [(qm4s_0 pc), (3, i6 (at0 : Int)), (17, pt pc), (18, i6 (m : Int))] rfl ⟨bf (by omega), trivial⟩ ?_
     refine l_call [] [] 45 #[pt pc, i6 (m : Int)] (some 19) trivial ?_
     intro w7 hw7
     refine (take_good w7 pc l (at0 + 4) (hw7.at (i := 1) rfl) (sl_mono (fun x _ _ hx hv => old_cell hv hx.2 _ (hw7.at (i := 0) rfl)) (fun x hx => ⟨Nat.lt_of_lt_of_le hx.1 (by rw [hw7.size]; show w.heap.size ≤ w2.heap.size; omega), hx.2⟩) hl) hB hlen (by omega) m (by omega)).mono ?_
     rintro e w10 ⟨⟨hqw10, ⟨a8, cp9, rfl, hslw10⟩, hCw10⟩ | ⟨hqw10, rfl, hCw10⟩, hkw10⟩
     · have hclw10 := cutB_len (b := l.xs) (at' := at0 + 4) (n := m) (by omega)
       obtain ⟨hnw10, hSw10⟩ := cur_set hw7 (i := 1) rfl hCw10 hkw10; have hnw10' : w2.heap.size ≤ w10.heap.size := hnw10
       refine ⟨_, _, rfl, hSw10, ?_⟩
       refine l_keep [0, 3, 19] [(qm4s_0 pc), (3, i6 (at0 : Int)), (19, .slice a8 m cp9)] ?_
       refine l_toStr 0 (cutB l.xs (at0 + 4) m) a8 m cp9 (old (fun b => b = pc) w) (some 20) (cutB_byt hB _ _) (sl_old (hslw10 _ _ hl) (fun b hb => hb.2)) ?_ (cutB_len (by omega))
       refine q_rS 15 0 [0] [[o0], [o0, o0, o0, (a1 1)], [o0, o0]] [Qb pc] [(2, .string (strOf (cutB l.xs (at0 + 4) m)))] rfl ⟨rfl, trivial⟩ ?_
       refine e_ret [] [] (.string (strOf (cutB l.xs (at0 + 4) m))) trivial ?_
       intro w11 hw11
       have hmn : (leV l.xs at0 4).toNat = m := by omega
       exact ⟨.inl ⟨_, _, textAt_ok (by omega), by rw [hmn], by omega, by rw [hmn]; exact hw11.at (i := 1) rfl⟩, back0 hw11⟩
     · obtain ⟨hnw10, hSw10⟩ := cur_set hw7 (i := 1) rfl hCw10 hkw10; have hnw10' : w2.heap.size ≤ w10.heap.size := hnw10
       refine ⟨_, _, rfl, hSw10, ?_⟩
       refine l_keep [0, 3, 19] [(qm4s_0 pc), (3, i6 (at0 : Int)), (19, .slice none 0 0)] ?_
       refine l_toStr 0 ([] : List Int) none 0 0 (old (fun b => b = pc) w) (some 20) (fun x hx => by cases hx) (fun w' hw => sl_none _ _) ?_
       refine q_r 16 0 [1] [[o0], [o0, o0, o0, (a1 1)], [o0, o0, o0, o0, (a1 1)], [o0, o0]] [Qb pc, Qb pc] [(2, .string (strOf ([] : List Int)))] ⟨w, w10.heap.size, [(old (fun b => b = pc) w), (bk pc #[.slice l.a l.xs.length l.cap, i6 (at0 : Int), .bool true] 91)]⟩ rfl ⟨rfl, rfl, trivial⟩ ?_
       refine e_ret [] [] (.string (strOf ([] : List Int))) trivial ?_
       intro w12 hw12
       exact ⟨.inr ⟨textAt_no (by omega), rfl, hw12.at (i := 1) rfl⟩, back0 hw12⟩
 · obtain ⟨hnw2, hSw2⟩ := cur_set hw1 (i := 1) rfl hCw2 hkw2; have hnw2' : z ≤ w2.heap.size := hnw2
   refine ⟨_, _, rfl, hSw2, ?_⟩
   refine q_rS 12 2 [0] [[o0], [o0, o0], [o0, o0]] [] [(qm4s_0 pc), (3, i6 (at0 : Int)), (17, pt pc), (18, i6 0)] rfl trivial ?_
   refine l_call [] [] 45 #[pt pc, i6 0] (some 19) trivial ?_
   intro w13 hw13
   refine (take_bad w13 pc l at0 (hw13.at (i := 1) rfl) (sl_mono (fun x _ _ hx hv => old_cell hv hx.2 _ (hw13.at (i := 0) rfl)) (fun x hx => ⟨Nat.lt_of_lt_of_le hx.1 (by rw [hw13.size]; show w.heap.size ≤ w2.heap.size; omega), hx.2⟩) hl) hB hlen (by omega) 0).mono ?_
   rintro e w14 ⟨rfl, hCw14, hkw14⟩
   obtain ⟨hnw14, hSw14⟩ := cur_set hw13 (i := 1) rfl hCw14 hkw14; have hnw14' : w2.heap.size ≤ w14.heap.size := hnw14
   refine ⟨_, _, rfl, hSw14, ?_⟩
   refine l_keep [0, 3, 19] [(qm4s_0 pc), (3, i6 (at0 : Int)), (19, .slice none 0 0)] ?_
   refine l_toStr 0 ([] : List Int) none 0 0 (old (fun b => b = pc) w) (some 20) (fun x hx => by cases hx) (fun w' hw => sl_none _ _) ?_
   refine q_rS 16 0 [1] [[o0], [o0, o0, o0, (a1 1)], [o0, o0, o0, o0, (a1 1)], [o0, o0]] [Qb pc, Qb pc] [(2, .string (strOf ([] : List Int)))] rfl ⟨rfl, rfl, trivial⟩ ?_
   refine e_ret [] [] (.string (strOf ([] : List Int))) trivial ?_
   intro w15 hw15
   exact ⟨.inr ⟨textAt_no (by omega), rfl, hw15.at (i := 1) rfl⟩, back0 hw15⟩
theorem ctext_bad (w : World) (pc : Nat) (l : Sl Int) (at0 : Nat) (hc : CurIs w pc l at0 true) (hl : SlAt u8c 1 (fun x => x < w.heap.size ∧ ¬ x = pc) w l) (hB : Byt l.xs) (hlen : l.xs.length ≤ 16384) (hat : at0 ≤ l.xs.length) : Calls Try.prog 98 #[.pointer (some ⟨pc, 0, none⟩)] w fun e w' => e = .returned (.string ⟨#[]⟩) ∧ CurIs w' pc l at0 true ∧ Keeps (fun b => b = pc) w w' := by
 obtain ⟨z, hz⟩ : ∃ z, z = w.heap.size := ⟨_, rfl⟩
 refine calls_G (args := [pt pc]) 30 ⟨w, z, [(old (fun b => b = pc) w), (bk pc #[.slice l.a l.xs.length l.cap, i6 (at0 : Int), .bool true] 91)]⟩ Try.func98 rfl (by kernel_rfl) (by kernel_rfl) (hz ▸ sat_cur hc) ?_
 refine g_keep [0] [(0, pt pc)] ?_
 refine q_cS 10 1 [] [[o0], [o0, o0, o0, (a1 1), o0], [o0]] [Qb pc] [(0, pt pc), (3, i6 (at0 : Int)), (10, pt pc)] rfl ⟨rfl, trivial⟩ ?_
 refine l_call [] [] 47 #[pt pc, i6 4] (some 11) trivial ?_
 intro w1 hw1
 refine (cnum_bad w1 pc l at0 (hw1.at (i := 1) rfl) (sl_mono (fun x _ _ hx hv => old_cell hv hx.2 _ (hw1.at (i := 0) rfl)) (fun x hx => ⟨Nat.lt_of_lt_of_le hx.1 (by rw [hw1.size]; show w.heap.size ≤ z; omega), hx.2⟩) hl) hB hlen (by omega) 4 ⟨by omega, by omega⟩).mono ?_
 rintro e w2 ⟨rfl, hCw2, hkw2⟩
 obtain ⟨hnw2, hSw2⟩ := cur_set hw1 (i := 1) rfl hCw2 hkw2; have hnw2' : z ≤ w2.heap.size := hnw2
 refine ⟨_, _, rfl, hSw2, ?_⟩
 refine q_rS 12 2 [0] [[o0], [o0, o0], [o0, o0]] [] [(0, pt pc), (3, i6 (at0 : Int)), (17, pt pc), (18, i6 0)] rfl trivial ?_
 refine l_call [] [] 45 #[pt pc, i6 0] (some 19) trivial ?_
 intro w3 hw3
 refine (take_bad w3 pc l at0 (hw3.at (i := 1) rfl) (sl_mono (fun x _ _ hx hv => old_cell hv hx.2 _ (hw3.at (i := 0) rfl)) (fun x hx => ⟨Nat.lt_of_lt_of_le hx.1 (by rw [hw3.size]; show w.heap.size ≤ w2.heap.size; omega), hx.2⟩) hl) hB hlen (by omega) 0).mono ?_
 rintro e w4 ⟨rfl, hCw4, hkw4⟩
 obtain ⟨hnw4, hSw4⟩ := cur_set hw3 (i := 1) rfl hCw4 hkw4; have hnw4' : w2.heap.size ≤ w4.heap.size := hnw4
 refine ⟨_, _, rfl, hSw4, ?_⟩
 refine l_keep [0, 3, 19] [(0, pt pc), (3, i6 (at0 : Int)), (19, .slice none 0 0)] ?_
 refine l_toStr 0 ([] : List Int) none 0 0 (old (fun b => b = pc) w) (some 20) (fun x hx => by cases hx) (fun w' hw => sl_none _ _) ?_
 refine q_rS 16 0 [1] [[o0], [o0, o0, o0, (a1 1)], [o0, o0, o0, o0, (a1 1)], [o0, o0]] [Qb pc, Qb pc] [(2, .string (strOf ([] : List Int)))] rfl ⟨rfl, rfl, trivial⟩ ?_
 refine e_ret [] [] (.string (strOf ([] : List Int))) trivial ?_
 intro w5 hw5
 exact ⟨rfl, hw5.at (i := 1) rfl, back0 hw5⟩
theorem csrc_good (w : World) (pc : Nat) (l : Sl Int) (at0 : Nat) (hc : CurIs w pc l at0 false) (hl : SlAt u8c 1 (fun x => x < w.heap.size ∧ ¬ x = pc) w l) (hB : Byt l.xs) (hlen : l.xs.length ≤ 16384) (hat : at0 ≤ l.xs.length) : Calls Try.prog 105 #[.pointer (some ⟨pc, 0, none⟩)] w fun e w' => ((∃ x a, srcAt l.xs at0 = .ok x a ∧ e = .returned (.bool x) ∧ a ≤ l.xs.length ∧ CurIs w' pc l a false) ∨ (srcAt l.xs at0 = .no at0 ∧ e = .returned (.bool false) ∧ CurIs w' pc l at0 true)) ∧ Keeps (fun b => b = pc) w w' := by
 obtain ⟨z, hz⟩ : ∃ z, z = w.heap.size := ⟨_, rfl⟩
 refine calls_G (args := [pt pc]) 22 ⟨w, z, [(old (fun b => b = pc) w), (bk pc #[.slice l.a l.xs.length l.cap, i6 (at0 : Int), .bool false] 91)]⟩ Try.func105 rfl (by kernel_rfl) (by kernel_rfl) (hz ▸ sat_cur hc) ?_
 refine g_keep [0] [(0, pt pc)] ?_
 refine q_cS 10 1 [] [[o0], [o0, o0, o0, (a1 1), o0], [o0]] [Qb pc] [(0, pt pc), (3, i6 (at0 : Int)), (9, pt pc)] rfl ⟨rfl, trivial⟩ ?_
 refine l_call [] [] 47 #[pt pc, i6 1] (some 10) trivial ?_
 intro w1 hw1
 refine (cnum_good w1 pc l at0 (hw1.at (i := 1) rfl) (sl_mono (fun x _ _ hx hv => old_cell hv hx.2 _ (hw1.at (i := 0) rfl)) (fun x hx => ⟨Nat.lt_of_lt_of_le hx.1 (by rw [hw1.size]; show w.heap.size ≤ z; omega), hx.2⟩) hl) hB hlen (by omega) 1 ⟨by omega, by omega⟩).mono ?_
 rintro e w2 ⟨⟨hqw2, rfl, hCw2⟩ | ⟨hqw2, rfl, hCw2⟩, hkw2⟩
 · have hvbw2 := hv_bd4 hB at0 1 1 (by omega); obtain ⟨m, hm⟩ : ∃ m : Nat, leV l.xs at0 1 = (m : Int) := ⟨_, (Int.toNat_of_nonneg hvbw2.1).symm⟩; rw [hm]; have hmv : hv l.xs at0 1 1 = (m : Int) := hm
   obtain ⟨hnw2, hSw2⟩ := cur_set hw1 (i := 1) rfl hCw2 hkw2; have hnw2' : z ≤ w2.heap.size := hnw2
   refine ⟨_, _, rfl, hSw2, ?_⟩
   refine q_rS 4 0 [] [[o0]] [] [(0, pt pc), (3, i6 (at0 : Int)), (4, i6 (m : Int))] rfl trivial ?_
   by_cases h3 : (1 : Int) < (m : Int)
   · refine q_c 12 0 [1] [[o0, oT], [o0, o0, o0, (a1 1)], [o0, o0, o0, o0, (a1 1)]] [BT (((m : Int) : Int) > 1), Qb pc, Qb pc] [(4, i6 (m : Int))] ⟨w, w2.heap.size, [(old (fun b => b = pc) w), (bk pc #[.slice l.a l.xs.length l.cap, i6 (at0 : Int), .bool true] 91)]⟩ rfl ⟨bt (by omega), rfl, rfl, trivial⟩ ?_
     by_cases h4 : ((m : Int) : Int) = 1
     · refine q_cS 4 0 [] [[o0, oT, o0]] [ET (m : Int) 1] [(2, .bool true)] rfl ⟨et (by omega), trivial⟩ ?_
       refine e_ret [] [] (.bool true) trivial ?_
       intro w5 hw5
       have hl1 := leV_one (b := l.xs) at0
       exfalso; omega
     · refine q_cS 4 0 [] [[o0, oF, o0]] [EF (m : Int) 1] [(2, .bool false)] rfl ⟨ef (by omega), trivial⟩ ?_
       refine e_ret [] [] (.bool false) trivial ?_
       intro w6 hw6
       have hl1 := leV_one (b := l.xs) at0
       exact ⟨.inr ⟨srcAt_no (by omega), rfl, hw6.at (i := 1) rfl⟩, back0 hw6⟩
   · refine q_cS 7 0 [0] [[o0, oF]] [BF (((m : Int) : Int) > 1)] [(0, pt pc), (3, i6 (at0 : Int)), (4, i6 (m : Int)), (12, .bool false)] rfl ⟨bf (by omega), trivial⟩ ?_
     by_cases h7 : ((m : Int) : Int) = 1
     · refine q_cS 4 0 [] [[o0, oT, o0]] [ET (m : Int) 1] [(2, .bool true)] rfl ⟨et (by omega), trivial⟩ ?_
       refine e_ret [] [] (.bool true) trivial ?_
       intro w8 hw8
       have hl1 := leV_one (b := l.xs) at0
       exact ⟨.inl ⟨_, _, srcAt_ok (by omega), congrArg (fun x => Ending.returned (Value.bool x)) (Eq.symm (decide_eq_true (by omega))), by omega, hw8.at (i := 1) rfl⟩, back0 hw8⟩
     · refine q_cS 4 0 [] [[o0, oF, o0]] [EF (m : Int) 1] [(2, .bool false)] rfl ⟨ef (by omega), trivial⟩ ?_
       refine e_ret [] [] (.bool false) trivial ?_
       intro w9 hw9
       have hl1 := leV_one (b := l.xs) at0
       exact ⟨.inl ⟨_, _, srcAt_ok (by omega), congrArg (fun x => Ending.returned (Value.bool x)) (Eq.symm (decide_eq_false (by omega))), by omega, hw9.at (i := 1) rfl⟩, back0 hw9⟩
 · obtain ⟨hnw2, hSw2⟩ := cur_set hw1 (i := 1) rfl hCw2 hkw2; have hnw2' : z ≤ w2.heap.size := hnw2
   refine ⟨_, _, rfl, hSw2, ?_⟩
   refine q_rS 15 0 [0] [[o0], [o0, o0], [o0, o0, o0]] [] [(2, .bool false)] rfl trivial ?_
   refine e_ret [] [] (.bool false) trivial ?_
   intro w10 hw10
   have hl1 := leV_one (b := l.xs) at0
   exact ⟨.inr ⟨srcAt_no (by omega), rfl, hw10.at (i := 1) rfl⟩, back0 hw10⟩
theorem csrc_bad (w : World) (pc : Nat) (l : Sl Int) (at0 : Nat) (hc : CurIs w pc l at0 true) (hl : SlAt u8c 1 (fun x => x < w.heap.size ∧ ¬ x = pc) w l) (hB : Byt l.xs) (hlen : l.xs.length ≤ 16384) (hat : at0 ≤ l.xs.length) : Calls Try.prog 105 #[.pointer (some ⟨pc, 0, none⟩)] w fun e w' => e = .returned (.bool false) ∧ CurIs w' pc l at0 true ∧ Keeps (fun b => b = pc) w w' := by
 obtain ⟨z, hz⟩ : ∃ z, z = w.heap.size := ⟨_, rfl⟩
 refine calls_G (args := [pt pc]) 22 ⟨w, z, [(old (fun b => b = pc) w), (bk pc #[.slice l.a l.xs.length l.cap, i6 (at0 : Int), .bool true] 91)]⟩ Try.func105 rfl (by kernel_rfl) (by kernel_rfl) (hz ▸ sat_cur hc) ?_
 refine g_keep [0] [(0, pt pc)] ?_
 refine q_cS 10 1 [] [[o0], [o0, o0, o0, (a1 1), o0], [o0]] [Qb pc] [(0, pt pc), (3, i6 (at0 : Int)), (9, pt pc)] rfl ⟨rfl, trivial⟩ ?_
 refine l_call [] [] 47 #[pt pc, i6 1] (some 10) trivial ?_
 intro w1 hw1
 refine (cnum_bad w1 pc l at0 (hw1.at (i := 1) rfl) (sl_mono (fun x _ _ hx hv => old_cell hv hx.2 _ (hw1.at (i := 0) rfl)) (fun x hx => ⟨Nat.lt_of_lt_of_le hx.1 (by rw [hw1.size]; show w.heap.size ≤ z; omega), hx.2⟩) hl) hB hlen (by omega) 1 ⟨by omega, by omega⟩).mono ?_
 rintro e w2 ⟨rfl, hCw2, hkw2⟩
 obtain ⟨hnw2, hSw2⟩ := cur_set hw1 (i := 1) rfl hCw2 hkw2; have hnw2' : z ≤ w2.heap.size := hnw2
 refine ⟨_, _, rfl, hSw2, ?_⟩
 refine q_rS 15 0 [0] [[o0], [o0, o0], [o0, o0, o0]] [] [(2, .bool false)] rfl trivial ?_
 refine e_ret [] [] (.bool false) trivial ?_
 intro w3 hw3
 exact ⟨rfl, hw3.at (i := 1) rfl, back0 hw3⟩

end Go.Proofs.Ytmmkacfeocnblaa.Ly
