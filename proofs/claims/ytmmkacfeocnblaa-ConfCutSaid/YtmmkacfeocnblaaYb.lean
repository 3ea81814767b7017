/- A reader's numbers. No conditions. -/
import Derived.Test.YtmmkacfeocnblaaYa
namespace Go.Proofs.Ytmmkacfeocnblaa.Ly
open Go Go.Proofs.Ytmmkacfeocnblaa.Eng Go.Proofs.Ytmmkacfeocnblaa.Mem
set_option linter.unusedSimpArgs false
set_option linter.unusedVariables false
set_option maxRecDepth 100000

theorem cellsAt_old {w w' : World} {b : Nat} {o : Obj} (h : (old (fun _ => False) w).holds w') (ha : At w b o) : At w' b o := (h b (Array.getElem?_eq_some_iff.1 ha).1 id).trans ha
theorem left_calls (w : World) (pr po : Nat) (l : Sl Int) (at0 : Nat) (fl : Int) (h1 : At w pr (.cells #[.pointer (some ⟨po, 0, none⟩), .int .i64 fl] 130 (0, 0))) (h2 : At w po (.cells #[.slice l.a l.xs.length l.cap, .int .i64 (at0 : Nat)] 106 (0, 0))) (hat : at0 ≤ l.xs.length) (hlen : l.xs.length ≤ 16384) : Calls Try.prog 44 #[.pointer (some ⟨pr, 0, none⟩)] w fun e w' => e = .returned (.int .i64 ((l.xs.length : Int) - (at0 : Nat))) ∧ Keeps (fun _ => False) w w' := by
 obtain ⟨z, hz⟩ : ∃ z, z = w.heap.size := ⟨_, rfl⟩
 refine calls_G (args := [pt pr]) 10 ⟨w, z, [(old0 w)]⟩ Try.func44 rfl (by kernel_rfl) (by kernel_rfl) (sat_0 hz) ?_
 have hpr : ∀ k v, [pt po, i6 fl][k]? = some v → w.cell? ⟨pr, 0 + k, none⟩ = some v := fun k v hv => (by rw [Nat.zero_add]; exact h1.cell (by rw [← List.getElem?_toArray] at hv; exact hv)); have hpo : ∀ k v, [Value.slice l.a l.xs.length l.cap, i6 (at0 : Nat)][k]? = some v → w.cell? ⟨po, 0 + k, none⟩ = some v := fun k v hv => (by rw [Nat.zero_add]; exact h2.cell (by rw [← List.getElem?_toArray] at hv; exact hv))
 refine g_keep [0] [(0, pt pr)] ?_
 refine q_cS 14 4 [0] [[o0], [o0, o0], [o0, o0, o0, (oa [.via 0 (pt po)])]] [Old w pr 0 (pt po)] [(8, pt po)] rfl ⟨old_cell' (hpr 0 _ rfl), trivial⟩ ?_
 refine l_call [] [] 82 #[pt po] (some 9) trivial ?_
 intro w1 hw1
 refine (rowleft_calls w1 po l at0 (cellsAt_old (hw1.at (i := 0) rfl) h2) hat hlen).mono ?_
 rintro e w2 ⟨rfl, hkw2⟩
 have hnw2 : z ≤ w2.heap.size := size_of hw1 hkw2
 refine ⟨_, _, rfl, hw1.keeps hkw2, ?_⟩
 refine q_rS 3 0 [] [[o0]] [] [(2, i6 ((l.xs.length : Int) - (at0 : Nat)))] rfl trivial ?_
 refine e_ret [] [] (i6 ((l.xs.length : Int) - (at0 : Nat))) trivial ?_
 intro w3 hw3
 exact ⟨rfl, back0 hw3⟩
theorem at_calls (w : World) (pr po : Nat) (l : Sl Int) (at0 : Nat) (fl : Int) (h1 : At w pr (.cells #[.pointer (some ⟨po, 0, none⟩), .int .i64 fl] 130 (0, 0))) (h2 : At w po (.cells #[.slice l.a l.xs.length l.cap, .int .i64 (at0 : Nat)] 106 (0, 0))) (hat : at0 ≤ l.xs.length) (hlen : l.xs.length ≤ 16384) : Calls Try.prog 42 #[.pointer (some ⟨pr, 0, none⟩)] w fun e w' => e = .returned (.int .i64 (at0 : Int)) ∧ Keeps (fun _ => False) w w' := by
 obtain ⟨z, hz⟩ : ∃ z, z = w.heap.size := ⟨_, rfl⟩
 refine calls_G (args := [pt pr]) 10 ⟨w, z, [(old0 w)]⟩ Try.func42 rfl (by kernel_rfl) (by kernel_rfl) (sat_0 hz) ?_
 have hpr : ∀ k v, [pt po, i6 fl][k]? = some v → w.cell? ⟨pr, 0 + k, none⟩ = some v := fun k v hv => (by rw [Nat.zero_add]; exact h1.cell (by rw [← List.getElem?_toArray] at hv; exact hv)); have hpo : ∀ k v, [Value.slice l.a l.xs.length l.cap, i6 (at0 : Nat)][k]? = some v → w.cell? ⟨po, 0 + k, none⟩ = some v := fun k v hv => (by rw [Nat.zero_add]; exact h2.cell (by rw [← List.getElem?_toArray] at hv; exact hv))
 refine g_keep [0] [(0, pt pr)] ?_
 refine q_cS 14 4 [0] [[o0], [o0, o0], [o0, o0, o0, (oa [.via 0 (pt po)])]] [Old w pr 0 (pt po)] [(8, pt po)] rfl ⟨old_cell' (hpr 0 _ rfl), trivial⟩ ?_
 refine l_call [] [] 80 #[pt po] (some 9) trivial ?_
 intro w1 hw1
 refine (rowat_calls w1 po l at0 (cellsAt_old (hw1.at (i := 0) rfl) h2) hat hlen).mono ?_
 rintro e w2 ⟨rfl, hkw2⟩
 have hnw2 : z ≤ w2.heap.size := size_of hw1 hkw2
 refine ⟨_, _, rfl, hw1.keeps hkw2, ?_⟩
 refine q_rS 3 0 [] [[o0]] [] [(2, i6 (at0 : Int))] rfl trivial ?_
 refine e_ret [] [] (i6 (at0 : Int)) trivial ?_
 intro w3 hw3
 exact ⟨rfl, back0 hw3⟩
theorem fault_calls (w : World) (pr po : Nat) (l : Sl Int) (at0 : Nat) (fl : Int) (h1 : At w pr (.cells #[.pointer (some ⟨po, 0, none⟩), .int .i64 fl] 130 (0, 0))) (h2 : At w po (.cells #[.slice l.a l.xs.length l.cap, .int .i64 (at0 : Nat)] 106 (0, 0))) (hat : at0 ≤ l.xs.length) (hlen : l.xs.length ≤ 16384) : Calls Try.prog 86 #[.pointer (some ⟨pr, 0, none⟩)] w fun e w' => e = .returned (.int .i64 fl) ∧ Keeps (fun _ => False) w w' := by
 obtain ⟨z, hz⟩ : ∃ z, z = w.heap.size := ⟨_, rfl⟩
 refine calls_G (args := [pt pr]) 9 ⟨w, z, [(old0 w)]⟩ Try.func86 rfl (by kernel_rfl) (by kernel_rfl) (sat_0 hz) ?_
 have hpr : ∀ k v, [pt po, i6 fl][k]? = some v → w.cell? ⟨pr, 0 + k, none⟩ = some v := fun k v hv => (by rw [Nat.zero_add]; exact h1.cell (by rw [← List.getElem?_toArray] at hv; exact hv))
 refine g_keep [0] [(0, pt pr)] ?_
 refine q_cS 17 0 [0] [[o0], [o0, o0], [o0, o0, o0, (oa [.via 0 (i6 fl)]), o0]] [Old w pr 1 (i6 fl)] [(2, i6 fl)] rfl ⟨old_cell' (hpr 1 _ rfl), trivial⟩ ?_
 refine e_ret [] [] (i6 fl) trivial ?_
 intro w1 hw1
 exact ⟨rfl, back0 hw1⟩
abbrev q0jf_0 (po : Nat) (l : Sl Int) (at0 : Nat) : Ch := bk po #[.slice l.a l.xs.length l.cap, i6 (at0 : Int)] 106
abbrev q0jf_1 (pr : Nat) (po : Nat) : Ch := bk pr #[pt po, i6 0] 130
abbrev q0jf_2 (pr : Nat) : Nat × Value := (0, pt pr)
theorem num_walk (w : World) (pr po : Nat) (l : Sl Int) (at0 : Nat) (h1 : At w pr (.cells #[.pointer (some ⟨po, 0, none⟩), .int .i64 0] 130 (0, 0))) (h2 : At w po (.cells #[.slice l.a l.xs.length l.cap, .int .i64 (at0 : Nat)] 106 (0, 0))) (hl : SlAt u8c 1 (fun x => x < w.heap.size ∧ ¬ (x = pr ∨ x = po)) w l) (hne : pr ≠ po) (hB : Byt l.xs) (hlen : l.xs.length ≤ 16384) (hat : at0 ≤ l.xs.length) (k : Nat) (hk : 1 ≤ k ∧ k ≤ 4) : Calls Try.prog 87 #[.pointer (some ⟨pr, 0, none⟩), .int .i64 (k : Int)] w fun e w' => NumRaw w pr po l at0 k .u64 e w' := by
 obtain ⟨z, hz⟩ : ∃ z, z = w.heap.size := ⟨_, rfl⟩
 refine calls_G (args := [pt pr, i6 (k : Int)]) 63 ⟨w, z, [(old (fun b => b = pr ∨ b = po) w), (q0jf_1 pr po), (q0jf_0 po l at0)]⟩ Try.func87 rfl (by kernel_rfl) (by kernel_rfl) (hz ▸ sat_two h1 h2 hne) ?_
 refine g_keep [0, 1] [(q0jf_2 pr), (1, i6 (k : Int))] ?_
 refine q_cS 15 1 [0] [[o0], [o0, o0, o0, o0, o0, o0, (a1 1), o0, o0], [o0]] [Qb pr] [(q0jf_2 pr), (1, i6 (k : Int)), (16, pt pr)] rfl ⟨rfl, trivial⟩ ?_
 refine l_call [] [] 44 #[pt pr] (some 17) trivial ?_
 intro w1 hw1
 refine (left_calls w1 pr po l at0 0 (hw1.at (i := 1) rfl) (hw1.at (i := 2) rfl) (by omega) hlen).mono ?_
 rintro e w2 ⟨rfl, hkw2⟩
 have hnw2 : z ≤ w2.heap.size := size_of hw1 hkw2
 refine ⟨_, _, rfl, hw1.keeps hkw2, ?_⟩
 refine l_keep [0, 1, 17] [(q0jf_2 pr), (1, i6 (k : Int)), (17, i6 ((l.xs.length : Int) - (at0 : Nat)))] ?_
 by_cases h3 : ((l.xs.length : Int) - (at0 : Nat) : Int) < (k : Int)
 · refine q_r 12 0 [1] [[o0, oT], [o0, o0, o0, (a1 1)], [o0]] [BT (((l.xs.length : Int) - (at0 : Nat) : Int) < (k : Int)), Qb pr] [(4, .int .u64 0)] ⟨w, w2.heap.size, [(old (fun b => b = pr ∨ b = po) w), (bk pr #[pt po, i6 12] 130), (q0jf_0 po l at0)]⟩ rfl ⟨bt (by omega), rfl, trivial⟩ ?_
   refine e_ret [] [] (.int .u64 0) trivial ?_
   intro w4 hw4
   exact ⟨.inr ⟨by omega, rfl, hw4.at (i := 1) rfl, hw4.at (i := 2) rfl⟩, back0 hw4⟩
 · refine q_rS 15 0 [0] [[o0, oF], [o0], [o0, (ov (i6 ((k : Int) - 1))), o0]] [BF (((l.xs.length : Int) - (at0 : Nat) : Int) < (k : Int)), Wr (((k : Int) : Int) - 1) ((k : Int) - 1)] [(q0jf_2 pr), (1, i6 (k : Int)), (5, .int .u64 0), (6, i6 ((k : Int) - 1))] rfl ⟨bf (by omega), wrI, trivial⟩ ?_
   refine g_loop (fun m a w' => ∃ (n6 : Nat) (j : Nat), m = k - j ∧ w2.heap.size ≤ n6 ∧ (j ≤ k) ∧ St 63 [(q0jf_2 pr), (1, i6 (k : Int)), (5, .int .u64 (hv l.xs at0 k j)), (6, i6 ((k : Int) - 1 - (j : Int)))] [] ⟨w, n6, [(old (fun b => b = pr ∨ b = po) w), (q0jf_1 pr po), (q0jf_0 po l at0)]⟩ a w') (k - 0) ?_ ?_
   · intro a w' hs; exact ⟨w2.heap.size, 0, rfl, Nat.le_refl _, Nat.zero_le _, by (try dsimp only [q0jf_0, q0jf_1, q0jf_2] at hs ⊢); rw [show hv l.xs at0 k 0 = 0 from rfl, show (k : Int) - 1 - ((0 : Nat) : Int) = (k : Int) - 1 from by omega]; exact hs⟩
   · rintro m a w' ⟨n6, j, rfl, hn5, hj, hs⟩
     refine (?_ : G Try.prog 63 [(q0jf_2 pr), (1, i6 (k : Int)), (5, .int .u64 (hv l.xs at0 k j)), (6, i6 ((k : Int) - 1 - (j : Int)))] [] ⟨w, n6, [(old (fun b => b = pr ∨ b = po) w), (q0jf_1 pr po), (q0jf_0 po l at0)]⟩ _ _ _) a w' hs
     clear hs a w'
     have hvj := hv_bd4 hB at0 k j (by omega)
     refine g_seq <| g_seq ?_
     by_cases h7 : ((k : Int) - 1 - (j : Int) : Int) < 0
     · refine q_c 18 0 [0] [[o0, oF], [o0, o0, o0, (a1 1), o0, o0, (a1 2), o0, (ov (i6 ((at0 + k : Nat) : Int))), o0, o0, (a1 2)], [o0, o0]] [BF (((k : Int) - 1 - (j : Int) : Int) ≥ 0), Qb pr, Qb po, Wr (((at0 : Int) : Int) + (k : Int)) (((at0 + k : Nat) : Int)), Qb po] [(4, .int .u64 (hv l.xs at0 k j))] ⟨w, n6, [(old (fun b => b = pr ∨ b = po) w), (q0jf_1 pr po), (bk po #[.slice l.a l.xs.length l.cap, i6 ((at0 + k : Nat) : Int)] 106)]⟩ rfl ⟨bf (by omega), rfl, rfl, wrI, rfl, trivial⟩ ?_
       refine e_ret [] [] (.int .u64 (hv l.xs at0 k j)) trivial ?_
       intro w8 hw8
       have hjk : j = k := by omega
       exact ⟨.inl ⟨by omega, by rw [hjk]; rfl, hw8.at (i := 1) rfl, hw8.at (i := 2) rfl⟩, back0 hw8⟩
     · refine q_cS 8 0 [1] [[o0, oT]] [BT (((k : Int) - 1 - (j : Int) : Int) ≥ 0)] [(q0jf_2 pr), (1, i6 (k : Int)), (5, .int .u64 (hv l.xs at0 k j)), (6, i6 ((k : Int) - 1 - (j : Int))), (26, .bool true)] rfl ⟨bt (by omega), trivial⟩ ?_
       obtain ⟨b9, o10, ha11, hF13, hc12⟩ := ((⟨hl, fun _ _ => trivial⟩ : SlOk u8c 1 (fun _ _ _ => True) _ _ _)).1.all (show 0 < l.xs.length by omega)
       replace ha11 : l.a = some ⟨b9, o10, none⟩ := ha11
       have hc14 := hc12 (((at0 : Int) + ((k : Int) - 1 - (j : Int))).toNat) (show ((at0 : Int) + ((k : Int) - 1 - (j : Int))).toNat < l.xs.length by omega)
       have he15 := ((⟨hl, fun _ _ => trivial⟩ : SlOk u8c 1 (fun _ _ _ => True) _ _ _)).2 (((at0 : Int) + ((k : Int) - 1 - (j : Int))).toNat) (show ((at0 : Int) + ((k : Int) - 1 - (j : Int))).toNat < l.xs.length by omega)
       obtain ⟨y16, hy16⟩ : ∃ y_, y_ = gd l.xs (((at0 : Int) + ((k : Int) - 1 - (j : Int))).toNat) := ⟨_, rfl⟩
       rw [← hy16] at he15 hc14
       have hyby16 := byt_gd hB ((at0 : Int) + ((k : Int) - 1 - (j : Int))).toNat; rw [← hy16] at hyby16
       refine g_draw 23 [0, 1, 2] [(old (fun b => b = pr ∨ b = po) w), (q0jf_1 pr po), (q0jf_0 po l at0)] rfl rfl ?_
       refine w_take [(0, o0), (1, (ov (.int .u64 ((hv l.xs at0 k j) * 256)))), (2, o0), (3, o0), (4, o0), (5, (a1 1)), (6, o0), (7, o0), (8, ⟨.auto [.at 2], some (.slice (some ⟨b9, o10, none⟩) l.xs.length l.cap)⟩), (9, o0), (10, o0), (11, o0), (12, (a1 1)), (13, o0), (14, o0), (15, (a1 2)), (16, o0), (17, (ov (i6 ((at0 : Int) + ((k : Int) - 1 - (j : Int)))))), (18, (oi (((at0 : Int) + ((k : Int) - 1 - (j : Int))).toNat))), (19, (oa [.via 0 (.int .u8 y16)])), (20, (ov (.int .u64 y16))), (21, (ov (.int .u64 ((hv l.xs at0 k j) * 256 + y16)))), (22, o0)] [0, 1, 5, 6] [Value.int .u64 (IntKind.u64.wrap ((hv l.xs at0 k j) * 2 ^ 8)) = Value.int .u64 ((hv l.xs at0 k j) * 256), Qb pr, Qb po, Value.slice l.a l.xs.length l.cap = Value.slice (some ⟨b9, o10, none⟩) l.xs.length l.cap, Qb pr, Qb po, Wr (((at0 : Int) : Int) + ((k : Int) - 1 - (j : Int))) ((at0 : Int) + ((k : Int) - 1 - (j : Int))), ((at0 : Int) + ((k : Int) - 1 - (j : Int)) : Int) = ((((at0 : Int) + ((k : Int) - 1 - (j : Int))).toNat : Nat) : Int), ((at0 : Int) + ((k : Int) - 1 - (j : Int))).toNat < l.xs.length, (none : Option Nat) = none, ∀ w', Ch.holds (old (fun b => b = pr ∨ b = po) w) w' → w'.cell? ⟨b9, o10 + (((at0 : Int) + ((k : Int) - 1 - (j : Int))).toNat), none⟩ = some (.int .u8 y16), Value.int .u64 (IntKind.u64.wrap (y16)) = Value.int .u64 (y16), Value.int .u64 (IntKind.u64.wrap ((BitVec.ofInt IntKind.u64.bits ((hv l.xs at0 k j) * 256) ||| BitVec.ofInt IntKind.u64.bits y16).toNat)) = Value.int .u64 ((hv l.xs at0 k j) * 256 + y16)] [true, true, true, true, true, true, true, true, true, true, true, true, true, true, true, true, true, true, true, true, true, true, true] [(q0jf_2 pr), (1, i6 (k : Int)), (5, .int .u64 ((hv l.xs at0 k j) * 256 + y16)), (6, i6 ((k : Int) - 1 - (j : Int)))] rfl (by as_aux_lemma => kernel_rfl) (by as_aux_lemma => kernel_rfl) ⟨congrArg (Value.int .u64) (wr_u64 (by omega) (by omega) (by omega)), rfl, rfl, congrArg (fun a => Value.slice a _ _) ha11, rfl, rfl, wrI, (by omega), (by omega), rfl, oldD_cell (F := fun b => b = pr ∨ b = po) hF13 (hc14 0 _ rfl), congrArg (Value.int .u64) (wr_u64 rfl (by omega) (by omega)), congrArg (Value.int .u64) (or_is (by omega) (by omega) (by omega) (by omega)), trivial⟩ ?_
       refine w_done (by as_aux_lemma => kernel_rfl) ?_
       refine q_oS 4 0 [] [[o0, (ov (i6 (((k : Int) - 1 - (j : Int)) - 1))), o0]] [Wr (((k : Int) - 1 - (j : Int) : Int) - 1) (((k : Int) - 1 - (j : Int)) - 1)] [(q0jf_2 pr), (1, i6 (k : Int)), (5, .int .u64 ((hv l.xs at0 k j) * 256 + y16)), (6, i6 (((k : Int) - 1 - (j : Int)) - 1))] rfl ⟨wrI, trivial⟩ ?_
       refine e_inv (fun a w' hs => ⟨k - (j + 1), by omega, n6, (j + 1), rfl, by omega, by omega, by (try dsimp only [q0jf_0, q0jf_1, q0jf_2] at hs ⊢); rw [show hv l.xs at0 k (j + 1) = hv l.xs at0 k j * 256 + gd l.xs ((at0 : Int) + ((k : Int) - 1 - (j : Int))).toNat from rfl, ← hy16, show (k : Int) - 1 - ((j + 1 : Nat) : Int) = (k : Int) - 1 - (j : Int) - 1 from by omega]; exact hs⟩)

theorem num_calls (w : World) (pr : Nat) (F : Nat → Prop) (b : List Int) (at0 : Nat) (h : RdIs w pr F b at0 0) (k : Nat) (hk : 1 ≤ k ∧ k ≤ 4) : Calls Try.prog 87 #[.pointer (some ⟨pr, 0, none⟩), .int .i64 (k : Nat)] w fun e w' => NumPost w pr F b at0 k .u64 e w' := by
  have hR := h
  obtain ⟨po, l, rfl, h1, h2, h3, h4, h5, h6, h7, h8, h9, h10⟩ := h
  refine (num_walk w pr po l at0 h1 h2 (sl_mono (fun _ _ _ _ h => h) (fun x hx => ⟨h10 x hx.1, fun h => h.elim hx.2.1 hx.2.2⟩) h3) h4 h8 h9 h7 k hk).mono ?_
  rintro e w' ⟨⟨g1, g2, g3, g4⟩ | ⟨g1, g2, g3, g4⟩, g5⟩
  · exact .inl ⟨g1, g2, rd_fin hR g5 g3 g4 h4 h5 h6 h3 g1⟩
  · exact .inr ⟨g1, g2, rd_fin hR g5 g3 g4 h4 h5 h6 h3 h7⟩

end Go.Proofs.Ytmmkacfeocnblaa.Ly
