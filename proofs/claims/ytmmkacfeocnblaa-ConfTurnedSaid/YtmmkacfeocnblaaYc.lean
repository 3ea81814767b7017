/- A reader's text. No conditions. -/
import Derived.Test.YtmmkacfeocnblaaYb
namespace Go.Proofs.Ytmmkacfeocnblaa.Ly
open Go Go.Proofs.Ytmmkacfeocnblaa.Eng Go.Proofs.Ytmmkacfeocnblaa.Mem
set_option linter.unusedSimpArgs false
set_option linter.unusedVariables false
set_option maxRecDepth 100000

/-- The bytes from a place on, so many. -/
def cutB (b : List Int) (at' n : Nat) : List Int := (b.drop at').take n
theorem cutB_len {b : List Int} {at' n : Nat} (h : at' + n ≤ b.length) : (cutB b at' n).length = n := by unfold cutB; rw [List.length_take, List.length_drop]; omega
theorem cutB_byt {b : List Int} (h : Byt b) (at' n : Nat) : Byt (cutB b at' n) := fun x hx => h x (List.mem_of_mem_drop (List.mem_of_mem_take hx))
def TextPost (w : World) (pr : Nat) (F : Nat → Prop) (b : List Int) (at' : Nat) (e : Ending) (w' : World) : Prop :=
  (at' + 4 ≤ b.length ∧ leV b at' 4 ≤ 255 ∧ at' + 4 + (leV b at' 4).toNat ≤ b.length ∧ e = .returned (.string (strOf (cutB b (at' + 4) (leV b at' 4).toNat))) ∧ RdIs w' pr F b (at' + 4 + (leV b at' 4).toNat) 0 ∧ Keeps F w w') ∨
  ((at' + 4 ≤ b.length → leV b at' 4 ≤ 255 → b.length < at' + 4 + (leV b at' 4).toNat) ∧ e = .returned (.string ⟨#[]⟩) ∧ (∃ fl, fl ≠ 0 ∧ -100 ≤ fl ∧ fl ≤ 100 ∧ RdIs w' pr F b at' fl) ∧ Keeps F w w')
def TextRaw (w : World) (pr po : Nat) (l : Sl Int) (at' : Nat) (e : Ending) (w' : World) : Prop :=
  ((at' + 4 ≤ l.xs.length ∧ leV l.xs at' 4 ≤ 255 ∧ at' + 4 + (leV l.xs at' 4).toNat ≤ l.xs.length ∧ e = .returned (.string (strOf (cutB l.xs (at' + 4) (leV l.xs at' 4).toNat))) ∧ At w' pr (.cells #[.pointer (some ⟨po, 0, none⟩), .int .i64 0] 130 (0, 0)) ∧ At w' po (.cells #[.slice l.a l.xs.length l.cap, .int .i64 ((at' + 4 + (leV l.xs at' 4).toNat : Nat) : Int)] 106 (0, 0))) ∨
  ((at' + 4 ≤ l.xs.length → leV l.xs at' 4 ≤ 255 → l.xs.length < at' + 4 + (leV l.xs at' 4).toNat) ∧ e = .returned (.string ⟨#[]⟩) ∧ ∃ fl : Int, fl ≠ 0 ∧ -100 ≤ fl ∧ fl ≤ 100 ∧ At w' pr (.cells #[.pointer (some ⟨po, 0, none⟩), .int .i64 fl] 130 (0, 0)) ∧ At w' po (.cells #[.slice l.a l.xs.length l.cap, .int .i64 (at' : Nat)] 106 (0, 0)))) ∧ Keeps (fun b => b = pr ∨ b = po) w w'
abbrev qnvh_0 (po : Nat) (l : Sl Int) (at0 : Nat) : Ch := bk po #[.slice l.a l.xs.length l.cap, i6 (at0 : Int)] 106
abbrev qnvh_1 (pr : Nat) (po : Nat) : Ch := bk pr #[pt po, i6 0] 130
abbrev qnvh_2 (pr : Nat) : Nat × Value := (0, pt pr)
theorem rtext_walk (w : World) (pr po : Nat) (l : Sl Int) (at0 : Nat) (h1 : At w pr (.cells #[.pointer (some ⟨po, 0, none⟩), .int .i64 0] 130 (0, 0))) (h2 : At w po (.cells #[.slice l.a l.xs.length l.cap, .int .i64 (at0 : Nat)] 106 (0, 0))) (hl : SlAt u8c 1 (fun x => x < w.heap.size ∧ ¬ (x = pr ∨ x = po)) w l) (hne : pr ≠ po) (hB : Byt l.xs) (hlen : l.xs.length ≤ 16384) (hat : at0 ≤ l.xs.length) : Calls Try.prog 93 #[.pointer (some ⟨pr, 0, none⟩), .int .i64 255] w fun e w' => TextRaw w pr po l at0 e w' := by
 obtain ⟨z, hz⟩ : ∃ z, z = w.heap.size := ⟨_, rfl⟩
 refine calls_G (args := [pt pr, i6 255]) 101 ⟨w, z, [(old (fun b => b = pr ∨ b = po) w), (qnvh_1 pr po), (qnvh_0 po l at0)]⟩ Try.func93 rfl (by kernel_rfl) (by kernel_rfl) (hz ▸ sat_two h1 h2 hne) ?_
 have hcap : l.xs.length ≤ l.cap := hl.le
 refine g_keep [0, 1] [(qnvh_2 pr), (1, i6 255)] ?_
 refine q_cS 18 1 [0] [[o0], [o0, o0, o0, o0, o0, o0, (a1 1), o0, o0], [o0, o0, o0, (a1 1), o0, o0, (a1 2), o0], [o0]] [Qb pr, Qb pr, Qb po] [(qnvh_2 pr), (1, i6 255), (5, i6 (at0 : Int)), (24, pt pr)] rfl ⟨rfl, rfl, rfl, trivial⟩ ?_
 refine l_call [] [] 87 #[pt pr, i6 4] (some 25) trivial ?_
 intro w1 hw1
 refine (num_walk w1 pr po l at0 (hw1.at (i := 1) rfl) (hw1.at (i := 2) rfl) (sl_mono (fun x _ _ hx hv => old_cell hv hx.2 _ (hw1.at (i := 0) rfl)) (fun x hx => ⟨Nat.lt_of_lt_of_le hx.1 (by rw [hw1.size]; show w.heap.size ≤ z; omega), hx.2⟩) hl) hne hB hlen (by omega) 4 ⟨by omega, by omega⟩).mono ?_
 rintro e w2 ⟨⟨hqw2, rfl, hpw2, hrw2⟩ | ⟨hqw2, rfl, hpw2, hrw2⟩, hkw2⟩
 · have hnw2 : z ≤ w2.heap.size := size_of hw1 hkw2
   have hvbw2 := leV_bd hB at0; obtain ⟨m, hm⟩ : ∃ m : Nat, leV l.xs at0 4 = (m : Int) := ⟨_, (Int.toNat_of_nonneg hvbw2.1).symm⟩; rw [hm]
   refine ⟨_, _, rfl, Sat.pq2 hw1 [0] (i := 1) (j := 2) rfl rfl (by decide) rfl rfl rfl rfl hpw2 hrw2 hkw2, ?_⟩
   refine q_rS 10 0 [0] [[o0], [o0, o0, o0, (a1 1), o0, o0]] [Qb pr] [(qnvh_2 pr), (1, i6 255), (5, i6 (at0 : Int)), (6, .int .u64 (m : Int)), (26, .bool false)] rfl ⟨rfl, trivial⟩ ?_
   by_cases h3 : (255 : Int) < (m : Int)
   · refine q_c 23 0 [1, 1] [[o0, o0, (ov (i6 255)), o0, oT, o0], [o0, o0, o0, (a1 1)], [o0, o0, o0, (a1 1), o0], [o0, o0, o0, (a1 1), o0, o0, o0, (a1 2)], [o0]] [i6 (if (0 : Int) > 255 then (0 : Int) else 255) = i6 (255), BT (((m : Int) : Int) > 255), Qb pr, Qb pr, Qb pr, Qb po] [(4, .string (⟨#[]⟩))] ⟨w, w2.heap.size, [(old (fun b => b = pr ∨ b = po) w), (bk pr #[pt po, i6 14] 130), (qnvh_0 po l at0)]⟩ rfl ⟨rfl, bt (by omega), rfl, rfl, rfl, rfl, trivial⟩ ?_
     refine e_ret [] [] (.string (⟨#[]⟩)) trivial ?_
     intro w4 hw4
     exact ⟨.inr ⟨by omega, rfl, 14, by omega, by omega, by omega, hw4.at (i := 1) rfl, hw4.at (i := 2) rfl⟩, back0 hw4⟩
   · refine q_cS 6 2 [0] [[o0, o0, (ov (i6 255)), o0, oF, o0], [o0, o0]] [i6 (if (0 : Int) > 255 then (0 : Int) else 255) = i6 (255), BF (((m : Int) : Int) > 255)] [(qnvh_2 pr), (5, i6 (at0 : Int)), (6, .int .u64 (m : Int)), (42, .int .u64 (m : Int)), (43, pt pr)] rfl ⟨rfl, bf (by omega), trivial⟩ ?_
     refine l_call [] [] 44 #[pt pr] (some 44) trivial ?_
     intro w5 hw5
     refine (left_calls w5 pr po l (at0 + 4) 0 (hw5.at (i := 1) rfl) (hw5.at (i := 2) rfl) (by omega) hlen).mono ?_
     rintro e w6 ⟨rfl, hkw6⟩
     have hnw6 : w2.heap.size ≤ w6.heap.size := size_of hw5 hkw6
     refine ⟨_, _, rfl, hw5.keeps hkw6, ?_⟩
     refine l_keep [0, 5, 6, 42, 44] [(qnvh_2 pr), (5, i6 (at0 : Int)), (6, .int .u64 (m : Int)), (42, .int .u64 (m : Int)), (44, i6 ((l.xs.length : Int) - (at0 + 4 : Nat)))] ?_
     by_cases h7 : ((l.xs.length : Int) - (at0 + 4 : Nat) : Int) < (m : Int)
     · refine q_r 22 0 [1, 1] [[(ov (.int .u64 ((l.xs.length : Int) - (at0 + 4 : Nat)))), oT, o0], [o0, o0, o0, (a1 1)], [o0, o0, o0, (a1 1), o0], [o0, o0, o0, (a1 1), o0, o0, o0, (a1 2)], [o0]] [Value.int .u64 (IntKind.u64.wrap ((l.xs.length : Int) - (at0 + 4 : Nat))) = Value.int .u64 ((l.xs.length : Int) - (at0 + 4 : Nat)), BT (((m : Int) : Int) > ((l.xs.length : Int) - (at0 + 4 : Nat))), Qb pr, Qb pr, Qb pr, Qb po] [(4, .string (⟨#[]⟩))] ⟨w, w6.heap.size, [(old (fun b => b = pr ∨ b = po) w), (bk pr #[pt po, i6 12] 130), (qnvh_0 po l at0)]⟩ rfl ⟨congrArg (Value.int .u64) (wr_u64 rfl (by omega) (by omega)), bt (by omega), rfl, rfl, rfl, rfl, trivial⟩ ?_
       refine e_ret [] [] (.string (⟨#[]⟩)) trivial ?_
       intro w8 hw8
       exact ⟨.inr ⟨by omega, rfl, 12, by omega, by omega, by omega, hw8.at (i := 1) rfl, hw8.at (i := 2) rfl⟩, back0 hw8⟩
     · refine q_rS 15 0 [0, 0] [[(ov (.int .u64 ((l.xs.length : Int) - (at0 + 4 : Nat)))), oF, o0], [o0, o0, o0, (a1 1), o0]] [Value.int .u64 (IntKind.u64.wrap ((l.xs.length : Int) - (at0 + 4 : Nat))) = Value.int .u64 ((l.xs.length : Int) - (at0 + 4 : Nat)), BF (((m : Int) : Int) > ((l.xs.length : Int) - (at0 + 4 : Nat))), Qb pr] [(qnvh_2 pr), (5, i6 (at0 : Int)), (6, .int .u64 (m : Int)), (54, .bool false)] rfl ⟨congrArg (Value.int .u64) (wr_u64 rfl (by omega) (by omega)), bf (by omega), rfl, trivial⟩ ?_
       obtain ⟨b9, o10, ha11, hF13, hc12⟩ := ((⟨hl, fun _ _ => trivial⟩ : SlOk u8c 1 (fun _ _ _ => True) _ _ _)).1.all (show 0 < l.xs.length by omega)
       replace ha11 : l.a = some ⟨b9, o10, none⟩ := ha11
       have hc14 := hc12 0 (show 0 < l.xs.length by omega)
       have he15 := ((⟨hl, fun _ _ => trivial⟩ : SlOk u8c 1 (fun _ _ _ => True) _ _ _)).2 0 (show 0 < l.xs.length by omega)
       obtain ⟨y16, hy16⟩ : ∃ y_, y_ = gd l.xs 0 := ⟨_, rfl⟩
       rw [← hy16] at he15 hc14
       by_cases h17 : (l.cap : Nat) = at0 + 4
       · refine g_draw 27 [0, 1, 2] [(old (fun b => b = pr ∨ b = po) w), (qnvh_1 pr po), (bk po #[.slice l.a l.xs.length l.cap, i6 ((at0 + 4 : Nat) : Int)] 106)] rfl rfl ?_
         refine w_take [(0, o0), (1, o0), (2, o0), (3, (a1 1)), (4, o0), (5, o0), (6, ⟨.auto [.at 2], some (.slice (some ⟨b9, o10, none⟩) l.xs.length l.cap)⟩), (7, o0), (8, o0), (9, o0), (10, (a1 1)), (11, o0), (12, o0), (13, (a1 2)), (14, o0), (15, o0), (16, o0), (17, (a1 1)), (18, o0), (19, o0), (20, (a1 2)), (21, o0), (22, (ov (i6 (m : Int)))), (23, (ov (i6 (((at0 + 4) + m : Nat) : Int)))), (24, ⟨.slc (at0 + 4) ((at0 + 4) + m) false, none⟩)] [0, 6, 86] [Qb pr, Qb po, Value.slice l.a l.xs.length l.cap = Value.slice (some ⟨b9, o10, none⟩) l.xs.length l.cap, Qb pr, Qb po, Qb pr, Qb po, Wr ((m : Int)) ((m : Int)), Wr ((((at0 + 4 : Nat) : Int) : Int) + (m : Int)) ((((at0 + 4) + m : Nat) : Int)), (((at0 + 4 : Nat) : Int) : Int) = ((at0 + 4 : Nat) : Int), ((((at0 + 4) + m : Nat) : Int) : Int) = (((at0 + 4) + m : Nat) : Int), at0 + 4 ≤ (at0 + 4) + m, (at0 + 4) + m ≤ l.cap, l.cap = at0 + 4 ∨ (at0 + 4) = 0] [true, true, true, true, true, true, true, true, true, true, true, true, true, true, true, true, true, true, true, true, true, true, true, true, true, false, false] [(qnvh_2 pr), (6, .int .u64 (m : Int)), (86, .slice (some ⟨b9, o10, none⟩) (((at0 + 4) + m) - (at0 + 4)) (l.cap - (at0 + 4)))] rfl (by as_aux_lemma => kernel_rfl) (by as_aux_lemma => kernel_rfl) ⟨rfl, rfl, congrArg (fun a => Value.slice a _ _) ha11, rfl, rfl, rfl, rfl, wrI rfl, wrI, rfl, rfl, (by omega), (by omega), .inl h17, trivial⟩ ?_
         refine w_one 25 (by as_aux_lemma => kernel_rfl) rfl ?_
         refine wo_toStr 0 (cutB l.xs (at0 + 4) (((at0 + 4) + m) - (at0 + 4))) (some ⟨b9, o10, none⟩) (((at0 + 4) + m) - (at0 + 4)) (l.cap - (at0 + 4)) (old (fun b => b = pr ∨ b = po) w) (some 87) [0, 1, 2] (cutB_byt hB _ _) (fun w' hw => by rw [show cutB l.xs (at0 + 4) (((at0 + 4) + m) - (at0 + 4)) = [] from List.eq_nil_of_length_eq_zero (by rw [cutB_len (by omega)]; omega)]; exact sl_none _ _) (.inr rfl) ?_ (cutB_len (by omega))
         refine w_keep [0, 6, 87] [(qnvh_2 pr), (6, .int .u64 (m : Int)), (87, .string (strOf (cutB l.xs (at0 + 4) (((at0 + 4) + m) - (at0 + 4)))))] ?_
         refine w_take [(26, o0)] [0, 6, 7] [] [true, true, true, true, true, true, true, true, true, true, true, true, true, true, true, true, true, true, true, true, true, true, true, true, true, true, true] [(qnvh_2 pr), (6, .int .u64 (m : Int)), (7, .string (strOf (cutB l.xs (at0 + 4) (((at0 + 4) + m) - (at0 + 4)))))] rfl (by as_aux_lemma => kernel_rfl) (by as_aux_lemma => kernel_rfl) trivial ?_
         refine w_done (by as_aux_lemma => kernel_rfl) ?_
         refine q_o 10 0 [] [[o0, o0, o0, (a1 1), o0, o0, (a1 2), o0, (ov (i6 (m : Int))), (ov (i6 (((at0 + 4) + m : Nat) : Int))), o0, o0, (a1 2)], [o0, o0]] [Qb pr, Qb po, Wr ((m : Int)) ((m : Int)), Wr ((((at0 + 4 : Nat) : Int) : Int) + (m : Int)) ((((at0 + 4) + m : Nat) : Int)), Qb po] [(4, .string (strOf (cutB l.xs (at0 + 4) (((at0 + 4) + m) - (at0 + 4)))))] ⟨w, w6.heap.size, [(old (fun b => b = pr ∨ b = po) w), (qnvh_1 pr po), (bk po #[.slice l.a l.xs.length l.cap, i6 (((at0 + 4) + m : Nat) : Int)] 106)]⟩ rfl ⟨rfl, rfl, wrI rfl, wrI, rfl, trivial⟩ ?_
         refine e_ret [] [] (.string (strOf (cutB l.xs (at0 + 4) (((at0 + 4) + m) - (at0 + 4))))) trivial ?_
         intro w18 hw18
         have hmn : (leV l.xs at0 4).toNat = m := by omega
         refine ⟨.inl ⟨by omega, by omega, by omega, ?_, ?_, ?_⟩, back0 hw18⟩
         · rw [hmn]; congr 4; omega
         · exact hw18.at (i := 1) rfl
         · rw [hmn]; exact hw18.at (i := 2) rfl
       · refine g_draw 27 [0, 1, 2] [(old (fun b => b = pr ∨ b = po) w), (qnvh_1 pr po), (bk po #[.slice l.a l.xs.length l.cap, i6 ((at0 + 4 : Nat) : Int)] 106)] rfl rfl ?_
         refine w_take [(0, o0), (1, o0), (2, o0), (3, (a1 1)), (4, o0), (5, o0), (6, ⟨.auto [.at 2], some (.slice (some ⟨b9, o10, none⟩) l.xs.length l.cap)⟩), (7, o0), (8, o0), (9, o0), (10, (a1 1)), (11, o0), (12, o0), (13, (a1 2)), (14, o0), (15, o0), (16, o0), (17, (a1 1)), (18, o0), (19, o0), (20, (a1 2)), (21, o0), (22, (ov (i6 (m : Int)))), (23, (ov (i6 (((at0 + 4) + m : Nat) : Int)))), (24, ⟨.slc (at0 + 4) ((at0 + 4) + m) true, none⟩)] [0, 6, 86] [Qb pr, Qb po, Value.slice l.a l.xs.length l.cap = Value.slice (some ⟨b9, o10, none⟩) l.xs.length l.cap, Qb pr, Qb po, Qb pr, Qb po, Wr ((m : Int)) ((m : Int)), Wr ((((at0 + 4 : Nat) : Int) : Int) + (m : Int)) ((((at0 + 4) + m : Nat) : Int)), (((at0 + 4 : Nat) : Int) : Int) = ((at0 + 4 : Nat) : Int), ((((at0 + 4) + m : Nat) : Int) : Int) = (((at0 + 4) + m : Nat) : Int), at0 + 4 ≤ (at0 + 4) + m, (at0 + 4) + m ≤ l.cap, l.cap ≠ at0 + 4, (none : Option Nat) = none] [true, true, true, true, true, true, true, true, true, true, true, true, true, true, true, true, true, true, true, true, true, true, true, true, true, false, false] [(qnvh_2 pr), (6, .int .u64 (m : Int)), (86, .slice (some ⟨b9, o10 + (offs 1 (at0 + 4)), none⟩) (((at0 + 4) + m) - (at0 + 4)) (l.cap - (at0 + 4)))] rfl (by as_aux_lemma => kernel_rfl) (by as_aux_lemma => kernel_rfl) ⟨rfl, rfl, congrArg (fun a => Value.slice a _ _) ha11, rfl, rfl, rfl, rfl, wrI rfl, wrI, rfl, rfl, (by omega), (by omega), h17, rfl, trivial⟩ ?_
         refine w_one 25 (by as_aux_lemma => kernel_rfl) rfl ?_
         refine wo_toStr 0 (cutB l.xs (at0 + 4) (((at0 + 4) + m) - (at0 + 4))) (some ⟨b9, o10 + (offs 1 (at0 + 4)), none⟩) (((at0 + 4) + m) - (at0 + 4)) (l.cap - (at0 + 4)) (old (fun b => b = pr ∨ b = po) w) (some 87) [0, 1, 2] (cutB_byt hB _ _) (fun w' hw => sl_sub (sl_mono (fun x _ _ hx hv => old_cell hv hx.2 w' hw) (fun _ _ => trivial) (show SlAt u8c 1 (fun x => x < w.heap.size ∧ ¬ (x = pr ∨ x = po)) w ⟨some ⟨b9, o10, none⟩, l.cap, l.xs⟩ from (by have h0 := hl; rw [show l = ⟨l.a, l.cap, l.xs⟩ from rfl, ha11] at h0; exact h0))) (by omega) (by intro h; have h9 := congrArg List.length h; rw [List.length_nil] at h9; omega)) (.inr rfl) ?_ (cutB_len (by omega))
         refine w_keep [0, 6, 87] [(qnvh_2 pr), (6, .int .u64 (m : Int)), (87, .string (strOf (cutB l.xs (at0 + 4) (((at0 + 4) + m) - (at0 + 4)))))] ?_
         refine w_take [(26, o0)] [0, 6, 7] [] [true, true, true, true, true, true, true, true, true, true, true, true, true, true, true, true, true, true, true, true, true, true, true, true, true, true, true] [(qnvh_2 pr), (6, .int .u64 (m : Int)), (7, .string (strOf (cutB l.xs (at0 + 4) (((at0 + 4) + m) - (at0 + 4)))))] rfl (by as_aux_lemma => kernel_rfl) (by as_aux_lemma => kernel_rfl) trivial ?_
         refine w_done (by as_aux_lemma => kernel_rfl) ?_
         refine q_o 10 0 [] [[o0, o0, o0, (a1 1), o0, o0, (a1 2), o0, (ov (i6 (m : Int))), (ov (i6 (((at0 + 4) + m : Nat) : Int))), o0, o0, (a1 2)], [o0, o0]] [Qb pr, Qb po, Wr ((m : Int)) ((m : Int)), Wr ((((at0 + 4 : Nat) : Int) : Int) + (m : Int)) ((((at0 + 4) + m : Nat) : Int)), Qb po] [(4, .string (strOf (cutB l.xs (at0 + 4) (((at0 + 4) + m) - (at0 + 4)))))] ⟨w, w6.heap.size, [(old (fun b => b = pr ∨ b = po) w), (qnvh_1 pr po), (bk po #[.slice l.a l.xs.length l.cap, i6 (((at0 + 4) + m : Nat) : Int)] 106)]⟩ rfl ⟨rfl, rfl, wrI rfl, wrI, rfl, trivial⟩ ?_
         refine e_ret [] [] (.string (strOf (cutB l.xs (at0 + 4) (((at0 + 4) + m) - (at0 + 4))))) trivial ?_
         intro w19 hw19
         have hmn : (leV l.xs at0 4).toNat = m := by omega
         refine ⟨.inl ⟨by omega, by omega, by omega, ?_, ?_, ?_⟩, back0 hw19⟩
         · rw [hmn]; congr 4; omega
         · exact hw19.at (i := 1) rfl
         · rw [hmn]; exact hw19.at (i := 2) rfl
 · have hnw2 : z ≤ w2.heap.size := size_of hw1 hkw2
   refine ⟨_, _, rfl, Sat.pq2 hw1 [0] (i := 1) (j := 2) rfl rfl (by decide) rfl rfl rfl rfl hpw2 hrw2 hkw2, ?_⟩
   refine q_rS 27 0 [1, 1] [[o0], [o0, o0, o0, (a1 1), o0, o0], [o0, o0, o0, (a1 1), o0], [o0, o0, o0, (a1 1), o0, o0, o0, (a1 2)], [o0]] [Qb pr, Qb pr, Qb pr, Qb po] [(4, .string (⟨#[]⟩))] rfl ⟨rfl, rfl, rfl, rfl, trivial⟩ ?_
   refine e_ret [] [] (.string (⟨#[]⟩)) trivial ?_
   intro w20 hw20
   exact ⟨.inr ⟨by omega, rfl, 12, by omega, by omega, by omega, hw20.at (i := 1) rfl, hw20.at (i := 2) rfl⟩, back0 hw20⟩

end Go.Proofs.Ytmmkacfeocnblaa.Ly
