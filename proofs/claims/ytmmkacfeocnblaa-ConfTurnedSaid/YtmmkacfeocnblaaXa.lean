/- The document's Sum, may, holds. No conditions. -/
import Derived.Test.YtmmkacfeocnblaaWg
namespace Go.Proofs.Ytmmkacfeocnblaa.Ly
open Go Go.Proofs.Ytmmkacfeocnblaa.Eng Go.Proofs.Ytmmkacfeocnblaa.Mem
set_option linter.unusedSimpArgs false
set_option linter.unusedVariables false
set_option maxRecDepth 100000

theorem bx32_comm (a b : Int) : bx32 a b = bx32 b a := by unfold bx32; rw [BitVec.xor_comm]
theorem okW_is {x : TWindow} (hI : InK .i64 x.Partition) : okW x = (decide (-1 ≤ x.Partition) && decide (x.Partition < 4294967295) && (okNum x.Usable && okNum x.Slack)) := by
  have h1 : -9223372036854775808 ≤ x.Partition ∧ x.Partition ≤ 9223372036854775807 := hI
  unfold okW
  rw [Bool.and_assoc (_ && _)]
  by_cases h : x.Partition = 9223372036854775807
  · have h2 : okNum (IntKind.i64.wrap (x.Partition + 1)) = false := by rw [h]; rfl
    rw [h2, decide_eq_false (p := x.Partition < 4294967295) (by omega)]
  · rw [wr_i64 (b := x.Partition + 1) rfl (by omega) (by omega)]
    congr 1
    unfold okNum
    rw [Bool.eq_iff_iff]
    simp only [Bool.and_eq_true, decide_eq_true_eq]
    omega
theorem blk_sl {w : World} {b : Nat} {cs : Array Value} {t : TypeId} {xs : List Int} (h : w.heap[b]? = some (.cells cs t (0, 0))) (hx : cs.toList = xs.map (Value.int .i64)) (hl : xs.length ≤ 1000) {cap : Nat} (hc : xs.length ≤ cap) : SlAt (fun x : Int => [Value.int .i64 x]) 1 Any w ⟨some ⟨b, 0, none⟩, cap, xs⟩ := by
  refine ⟨by simp only; omega, hc, fun _ => ⟨b, 0, rfl, trivial, fun i hi k v hv => ?_⟩⟩
  have hk : k = 0 := by
    have := (List.getElem?_eq_some_iff.1 hv).1
    simp at this; omega
  subst hk
  simp only [List.getElem?_cons_zero, Option.some.injEq] at hv
  subst hv
  have hA : At w b (.cells cs t (0, 0)) := h
  rw [offs_eq, Nat.mul_one, Nat.zero_add, Nat.add_zero]
  refine hA.cell ?_
  rw [← Array.getElem?_toList, hx, List.getElem?_map, List.getElem?_eq_getElem hi]; rfl
abbrev qh42_0 (k : Nat) (b : Sl Int) (i : Nat) (y11 : Int) : Nat × Value := (3, .int .u32 (crcBits k (bx32 (crcUp b.xs i) (IntKind.u32.wrap y11))))
abbrev qh42_1 (b4 : Nat) (o5 : Nat) (b : Sl Int) : Nat × Value := (0, .slice (some ⟨b4, o5, none⟩) b.xs.length b.cap)
theorem rsum_calls (w : World) (b : Sl Int) (hb : SlAt u8c 1 Any w b) : Calls Try.prog 48 #[.slice b.a b.xs.length b.cap] w fun e w' => e = .returned (.int .u32 (sumB b.xs)) ∧ Keeps (fun _ => False) w w' := by
 obtain ⟨z, hz⟩ : ∃ z, z = w.heap.size := ⟨_, rfl⟩
 refine calls_G (args := [.slice b.a b.xs.length b.cap]) 34 ⟨w, z, [(old0 w)]⟩ Try.func48 rfl (by kernel_rfl) (by kernel_rfl) (sat_0 hz) ?_
 have hbl := hb.len
 refine g_keep [0] [(0, .slice b.a b.xs.length b.cap)] ?_
 refine q_cS 14 0 [] [[o0], [o0], [o0]] [] [(0, .slice b.a b.xs.length b.cap), (3, .int .u32 4294967295), (4, i6 0)] rfl trivial ?_
 refine g_loop (fun m a w' => ∃ (n2 : Nat) (i : Nat), m = b.xs.length - i ∧ z ≤ n2 ∧ (i ≤ b.xs.length) ∧ St 34 [(0, .slice b.a b.xs.length b.cap), (3, .int .u32 (crcUp b.xs i)), (4, i6 (i : Int))] [] ⟨w, n2, [(old0 w)]⟩ a w') (b.xs.length - 0) ?_ ?_
 · intro a w' hs; exact ⟨z, 0, rfl, Nat.le_refl _, Nat.zero_le _, by (try dsimp only [qh42_0, qh42_1] at hs ⊢); rw [show crcUp b.xs 0 = 4294967295 from rfl]; exact hs⟩
 · rintro m a w' ⟨n2, i, rfl, hn1, hki, hs⟩
   refine (?_ : G Try.prog 34 [(0, .slice b.a b.xs.length b.cap), (3, .int .u32 (crcUp b.xs i)), (4, i6 (i : Int))] [] ⟨w, n2, [(old0 w)]⟩ _ _ _) a w' hs
   clear hs a w'
   refine g_seq <| g_seq ?_
   by_cases h3 : ((i : Int) : Int) < ((b.xs.length : Nat) : Int)
   · refine q_cS 9 0 [1] [[o0, o0, o0, oT]] [BT (((i : Int) : Int) < ((b.xs.length : Nat) : Int))] [(0, .slice b.a b.xs.length b.cap), (3, .int .u32 (crcUp b.xs i)), (4, i6 (i : Int)), (10, .bool true)] rfl ⟨bt (by omega), trivial⟩ ?_
     obtain ⟨b4, o5, ha6, hF8, hc7⟩ := ((⟨hb, fun _ _ => trivial⟩ : SlOk u8c 1 (fun _ _ _ => True) _ _ _)).1.all (show 0 < b.xs.length by omega)
     replace ha6 : b.a = some ⟨b4, o5, none⟩ := ha6
     refine g_eq [(qh42_1 b4 o5 b), (3, .int .u32 (crcUp b.xs i)), (4, i6 (i : Int)), (10, .bool true)] (by (try dsimp only [qh42_0, qh42_1]); simp only [ha6]) ?_
     have hc9 := hc7 i (show i < b.xs.length by omega)
     have he10 := ((⟨hb, fun _ _ => trivial⟩ : SlOk u8c 1 (fun _ _ _ => True) _ _ _)).2 i (show i < b.xs.length by omega)
     obtain ⟨y11, hy11⟩ : ∃ y_, y_ = gd b.xs i := ⟨_, rfl⟩
     rw [← hy11] at he10 hc9
     refine q_cS 8 0 [] [[o0, o0, o0, (oi i), (oa [.via 0 (.int .u8 y11)]), o0, o0, o0], [o0]] [((i : Int) : Int) = ((i : Nat) : Int), i < b.xs.length, (none : Option Nat) = none, Old w b4 (o5 + i) (.int .u8 y11)] [(qh42_1 b4 o5 b), (3, .int .u32 (bx32 (crcUp b.xs i) (IntKind.u32.wrap y11))), (4, i6 (i : Int)), (5, i6 0)] rfl ⟨rfl, (by omega), rfl, old_cell' (hc9 0 _ rfl), trivial⟩ ?_
     refine g_loop (fun m a w' => ∃ (n13 : Nat) (k : Nat), m = 8 - k ∧ n2 ≤ n13 ∧ (k ≤ 8) ∧ St 34 [(qh42_1 b4 o5 b), (qh42_0 k b i y11), (4, i6 (i : Int)), (5, i6 (k : Int))] [] ⟨w, n13, [(old0 w)]⟩ a w') (8 - 0) ?_ ?_
     · intro a w' hs; exact ⟨n2, 0, rfl, Nat.le_refl _, Nat.zero_le _, by (try dsimp only [qh42_0, qh42_1] at hs ⊢); rw [show crcBits 0 (bx32 (crcUp b.xs i) (IntKind.u32.wrap y11)) = (bx32 (crcUp b.xs i) (IntKind.u32.wrap y11)) from rfl]; exact hs⟩
     · rintro m a w' ⟨n13, k, rfl, hn12, hkk, hs⟩
       refine (?_ : G Try.prog 34 [(qh42_1 b4 o5 b), (qh42_0 k b i y11), (4, i6 (i : Int)), (5, i6 (k : Int))] [] ⟨w, n13, [(old0 w)]⟩ _ _ _) a w' hs
       clear hs a w'
       refine g_seq <| g_seq ?_
       by_cases h14 : ((k : Int) : Int) < 8
       · refine q_cS 17 0 [1] [[o0, oT], [o0, o0, o0], [o0, (ov (.int .u32 ((crcBits k (bx32 (crcUp b.xs i) (IntKind.u32.wrap y11))) / 2))), o0]] [BT (((k : Int) : Int) < 8), Value.int .u32 (Int.fdiv ((crcBits k (bx32 (crcUp b.xs i) (IntKind.u32.wrap y11)))) (2 ^ 1)) = Value.int .u32 ((crcBits k (bx32 (crcUp b.xs i) (IntKind.u32.wrap y11))) / 2)] [(qh42_1 b4 o5 b), (3, .int .u32 ((crcBits k (bx32 (crcUp b.xs i) (IntKind.u32.wrap y11))) / 2)), (4, i6 (i : Int)), (5, i6 (k : Int)), (6, .int .u32 (ba32 (crcBits k (bx32 (crcUp b.xs i) (IntKind.u32.wrap y11))) 1))] rfl ⟨bt (by omega), congrArg (Value.int .u32) (fdiv_is _ 1), trivial⟩ ?_
         by_cases h15 : ((ba32 (crcBits k (bx32 (crcUp b.xs i) (IntKind.u32.wrap y11))) 1) : Int) = 1
         · refine q_cS 10 0 [1] [[o0, oT], [o0, o0, o0], [o0, (ov (i6 ((k + 1 : Nat) : Int))), o0]] [ET (ba32 (crcBits k (bx32 (crcUp b.xs i) (IntKind.u32.wrap y11))) 1) 1, Wr (((k : Int) : Int) + 1) (((k + 1 : Nat) : Int))] [(qh42_1 b4 o5 b), (3, .int .u32 (bx32 ((crcBits k (bx32 (crcUp b.xs i) (IntKind.u32.wrap y11))) / 2) 3988292384)), (4, i6 (i : Int)), (5, i6 ((k + 1 : Nat) : Int))] rfl ⟨et (by omega), wrI, trivial⟩ ?_
           refine e_inv (fun a w' hs => ⟨8 - (k + 1), by omega, n13, (k + 1), rfl, by omega, by omega, by (try dsimp only [qh42_0, qh42_1] at hs ⊢); rw [show crcBits (k + 1) (bx32 (crcUp b.xs i) (IntKind.u32.wrap y11)) = crcBit (crcBits k (bx32 (crcUp b.xs i) (IntKind.u32.wrap y11))) from rfl, crcBit_yes (by omega)]; exact hs⟩)
         · refine q_cS 9 0 [0] [[o0, oF], [o0, (ov (i6 ((k + 1 : Nat) : Int))), o0]] [EF (ba32 (crcBits k (bx32 (crcUp b.xs i) (IntKind.u32.wrap y11))) 1) 1, Wr (((k : Int) : Int) + 1) (((k + 1 : Nat) : Int))] [(qh42_1 b4 o5 b), (3, .int .u32 ((crcBits k (bx32 (crcUp b.xs i) (IntKind.u32.wrap y11))) / 2)), (4, i6 (i : Int)), (5, i6 ((k + 1 : Nat) : Int))] rfl ⟨ef (by omega), wrI, trivial⟩ ?_
           refine e_inv (fun a w' hs => ⟨8 - (k + 1), by omega, n13, (k + 1), rfl, by omega, by omega, by (try dsimp only [qh42_0, qh42_1] at hs ⊢); rw [show crcBits (k + 1) (bx32 (crcUp b.xs i) (IntKind.u32.wrap y11)) = crcBit (crcBits k (bx32 (crcUp b.xs i) (IntKind.u32.wrap y11))) from rfl, crcBit_no (by omega)]; exact hs⟩)
       · refine q_cS 12 0 [0] [[o0, oF], [o0, (ov (i6 ((i + 1 : Nat) : Int))), o0]] [BF (((k : Int) : Int) < 8), Wr (((i : Int) : Int) + 1) (((i + 1 : Nat) : Int))] [(qh42_1 b4 o5 b), (qh42_0 k b i y11), (4, i6 ((i + 1 : Nat) : Int))] rfl ⟨bf (by omega), wrI, trivial⟩ ?_
         refine e_eqk [0, 3, 4] [(0, .slice b.a b.xs.length b.cap), (qh42_0 k b i y11), (4, i6 ((i + 1 : Nat) : Int))] (by (try dsimp only [qh42_0, qh42_1]); simp only [ha6]; rfl) ?_
         refine e_inv (fun a w' hs => ⟨b.xs.length - (i + 1), by omega, n13, (i + 1), rfl, by omega, by omega, by (try dsimp only [qh42_0, qh42_1] at hs ⊢); have h8 : k = 8 := (by omega); rw [h8] at hs; rw [crcUp_succ (by omega), ← hy11]; exact hs⟩)
   · refine q_cS 14 0 [0] [[o0, o0, o0, oF], [o0, o0, o0]] [BF (((i : Int) : Int) < ((b.xs.length : Nat) : Int))] [(2, .int .u32 (bx32 (crcUp b.xs i) 4294967295))] rfl ⟨bf (by omega), trivial⟩ ?_
     refine e_ret [] [] (.int .u32 (bx32 (crcUp b.xs i) 4294967295)) trivial ?_
     intro w16 hw16
     have hie : i = b.xs.length := by omega
     exact ⟨by rw [hie, bx32_comm]; rfl, back0 hw16⟩
abbrev qdo0_0 (b : Sl Int) : Nat × Value := (5, i6 ((b.xs.length : Nat) : Int))
theorem may_calls (w : World) (b : Sl Int) (hb : SlAt (fun x : Int => [Value.int .i64 x]) 1 Any w b) : Calls Try.prog 66 #[.slice b.a b.xs.length b.cap] w fun e w' => e = .returned (.bool (b.xs.all okNum)) ∧ Keeps (fun _ => False) w w' := by
 obtain ⟨z, hz⟩ : ∃ z, z = w.heap.size := ⟨_, rfl⟩
 refine calls_G (args := [.slice b.a b.xs.length b.cap]) 22 ⟨w, z, [(old0 w)]⟩ Try.func66 rfl (by kernel_rfl) (by kernel_rfl) (sat_0 hz) ?_
 have hbl := hb.len
 refine g_keep [0] [(0, .slice b.a b.xs.length b.cap)] ?_
 refine q_cS 10 0 [] [[o0], [o0, o0, o0]] [] [(0, .slice b.a b.xs.length b.cap), (qdo0_0 b), (6, i6 0)] rfl trivial ?_
 refine g_loop (fun m a w' => ∃ (n2 : Nat) (i : Nat), m = b.xs.length - i ∧ z ≤ n2 ∧ (i ≤ b.xs.length) ∧ (∀ q, q < i → okNum (gd b.xs q) = true) ∧ St 22 [(0, .slice b.a b.xs.length b.cap), (qdo0_0 b), (6, i6 (i : Int))] [] ⟨w, n2, [(old0 w)]⟩ a w') (b.xs.length - 0) ?_ ?_
 · intro a w' hs; exact ⟨z, 0, rfl, Nat.le_refl _, Nat.zero_le _, fun q hq => absurd hq (Nat.not_lt_zero q), hs⟩
 · rintro m a w' ⟨n2, i, rfl, hn1, hki, hok, hs⟩
   refine (?_ : G Try.prog 22 [(0, .slice b.a b.xs.length b.cap), (qdo0_0 b), (6, i6 (i : Int))] [] ⟨w, n2, [(old0 w)]⟩ _ _ _) a w' hs
   clear hs a w'
   refine g_seq ?_
   by_cases h3 : ((i : Int) : Int) < ((b.xs.length : Nat) : Int)
   · refine q_cS 14 0 [1] [[oT], [o0, o0]] [BT (((i : Int) : Int) < ((b.xs.length : Nat) : Int))] [(0, .slice b.a b.xs.length b.cap), (qdo0_0 b), (6, i6 (i : Int)), (3, i6 (i : Int))] rfl ⟨bt (by omega), trivial⟩ ?_
     obtain ⟨b4, o5, ha6, hF8, hc7⟩ := ((⟨hb, fun _ _ => trivial⟩ : SlOk (fun x : Int => [i6 x]) 1 (fun _ _ _ => True) _ _ _)).1.all (show 0 < b.xs.length by omega)
     replace ha6 : b.a = some ⟨b4, o5, none⟩ := ha6
     refine g_eq [(0, .slice (some ⟨b4, o5, none⟩) b.xs.length b.cap), (qdo0_0 b), (6, i6 (i : Int)), (3, i6 (i : Int))] (by (try dsimp only [qdo0_0]); simp only [ha6]) ?_
     have hc9 := hc7 i (show i < b.xs.length by omega)
     have he10 := ((⟨hb, fun _ _ => trivial⟩ : SlOk (fun x : Int => [i6 x]) 1 (fun _ _ _ => True) _ _ _)).2 i (show i < b.xs.length by omega)
     obtain ⟨y11, hy11⟩ : ∃ y_, y_ = gd b.xs i := ⟨_, rfl⟩
     rw [← hy11] at he10 hc9
     by_cases h12 : (y11 : Int) < 0
     · refine q_cS 9 0 [1] [[o0, o0, (oi i), (oa [.via 0 (i6 y11)]), oT, o0, o0], [o0]] [((i : Int) : Int) = ((i : Nat) : Int), i < b.xs.length, (none : Option Nat) = none, Old w b4 (o5 + i) (i6 y11), BT ((y11 : Int) < 0)] [(2, .bool false)] rfl ⟨rfl, (by omega), rfl, old_cell' (hc9 0 _ rfl), bt (by omega), trivial⟩ ?_
       refine e_ret [] [] (.bool false) trivial ?_
       intro w13 hw13
       exact ⟨congrArg (fun b => Ending.returned (Value.bool b)) (Eq.symm (all_no (i := i) (by omega) (Bool.eq_false_iff.2 (by rw [← hy11]; unfold okNum; simp only [ne_eq, Bool.and_eq_true, decide_eq_true_eq]; omega)))), back0 hw13⟩
     · by_cases h14 : (4294967295 : Int) < y11
       · refine q_cS 9 0 [1] [[o0, o0, (oi i), (oa [.via 0 (i6 y11)]), oF, o0, o0, o0, (oi i), (oa [.via 0 (i6 y11)]), oT, o0], [o0]] [((i : Int) : Int) = ((i : Nat) : Int), i < b.xs.length, (none : Option Nat) = none, Old w b4 (o5 + i) (i6 y11), BF ((y11 : Int) < 0), ((i : Int) : Int) = ((i : Nat) : Int), i < b.xs.length, (none : Option Nat) = none, Old w b4 (o5 + i) (i6 y11), BT ((y11 : Int) > 4294967295)] [(2, .bool false)] rfl ⟨rfl, (by omega), rfl, old_cell' (hc9 0 _ rfl), bf (by omega), rfl, (by omega), rfl, old_cell' (hc9 0 _ rfl), bt (by omega), trivial⟩ ?_
         refine e_ret [] [] (.bool false) trivial ?_
         intro w15 hw15
         exact ⟨congrArg (fun b => Ending.returned (Value.bool b)) (Eq.symm (all_no (i := i) (by omega) (Bool.eq_false_iff.2 (by rw [← hy11]; unfold okNum; simp only [ne_eq, Bool.and_eq_true, decide_eq_true_eq]; omega)))), back0 hw15⟩
       · refine q_cS 9 0 [0] [[o0, o0, (oi i), (oa [.via 0 (i6 y11)]), oF, o0, o0, o0, (oi i), (oa [.via 0 (i6 y11)]), oF, o0], [(ov (i6 ((i + 1 : Nat) : Int))), o0]] [((i : Int) : Int) = ((i : Nat) : Int), i < b.xs.length, (none : Option Nat) = none, Old w b4 (o5 + i) (i6 y11), BF ((y11 : Int) < 0), ((i : Int) : Int) = ((i : Nat) : Int), i < b.xs.length, (none : Option Nat) = none, Old w b4 (o5 + i) (i6 y11), BF ((y11 : Int) > 4294967295), Wr (((i : Int) : Int) + 1) (((i + 1 : Nat) : Int))] [(0, .slice (some ⟨b4, o5, none⟩) b.xs.length b.cap), (qdo0_0 b), (6, i6 ((i + 1 : Nat) : Int))] rfl ⟨rfl, (by omega), rfl, old_cell' (hc9 0 _ rfl), bf (by omega), rfl, (by omega), rfl, old_cell' (hc9 0 _ rfl), bf (by omega), wrI, trivial⟩ ?_
         refine e_eqk [0, 5, 6] [(0, .slice b.a b.xs.length b.cap), (qdo0_0 b), (6, i6 ((i + 1 : Nat) : Int))] (by (try dsimp only [qdo0_0]); simp only [ha6]; rfl) ?_
         refine e_inv (fun a w' hs => ⟨b.xs.length - (i + 1), by omega, n2, (i + 1), rfl, by omega, by omega, all_push hok (by rw [← hy11]; unfold okNum; simp only [Bool.and_eq_true, decide_eq_true_eq]; omega), hs⟩)
   · refine q_cS 15 0 [0] [[oF], [o0]] [BF (((i : Int) : Int) < ((b.xs.length : Nat) : Int))] [(2, .bool true)] rfl ⟨bf (by omega), trivial⟩ ?_
     refine e_ret [] [] (.bool true) trivial ?_
     intro w16 hw16
     exact ⟨congrArg (fun b => Ending.returned (Value.bool b)) (Eq.symm (all_yes (fun q hq => hok q (by omega)))), back0 hw16⟩
abbrev qwi3_0 (b4 : Nat) (o5 : Nat) (l : Sl TWindow) : Nat × Value := (0, .slice (some ⟨b4, o5, none⟩) l.xs.length l.cap)
abbrev qwi3_1 (l : Sl TWindow) : Nat × Value := (6, i6 ((l.xs.length : Nat) : Int))
theorem holdsW_calls (w : World) (l : Sl TWindow) (hd : SlOk TWindow.cells 3 TWindow.ok Any w l) : Calls Try.prog 67 #[.slice l.a l.xs.length l.cap] w fun e w' => e = .returned (.bool (okWs l)) ∧ Keeps (fun _ => False) w w' := by
 obtain ⟨z, hz⟩ : ∃ z, z = w.heap.size := ⟨_, rfl⟩
 refine calls_G (args := [.slice l.a l.xs.length l.cap]) 35 ⟨w, z, [(old0 w)]⟩ Try.func67 rfl (by kernel_rfl) (by kernel_rfl) (sat_0 hz) ?_
 have hdl := hd.1.len
 refine g_keep [0] [(0, .slice l.a l.xs.length l.cap)] ?_
 refine q_cS 10 0 [] [[o0], [o0, o0, o0]] [] [(0, .slice l.a l.xs.length l.cap), (qwi3_1 l), (7, i6 0)] rfl trivial ?_
 refine g_loop (fun m a w' => ∃ (n2 : Nat) (i : Nat), m = l.xs.length - i ∧ z ≤ n2 ∧ (i ≤ l.xs.length) ∧ (∀ q, q < i → okW (gd l.xs q) = true) ∧ St 35 [(0, .slice l.a l.xs.length l.cap), (qwi3_1 l), (7, i6 (i : Int))] [] ⟨w, n2, [(old0 w)]⟩ a w') (l.xs.length - 0) ?_ ?_
 · intro a w' hs; exact ⟨z, 0, rfl, Nat.le_refl _, Nat.zero_le _, fun q hq => absurd hq (Nat.not_lt_zero q), hs⟩
 · rintro m a w' ⟨n2, i, rfl, hn1, hki, hok, hs⟩
   refine (?_ : G Try.prog 35 [(0, .slice l.a l.xs.length l.cap), (qwi3_1 l), (7, i6 (i : Int))] [] ⟨w, n2, [(old0 w)]⟩ _ _ _) a w' hs
   clear hs a w'
   refine g_seq ?_
   by_cases h3 : ((i : Int) : Int) < ((l.xs.length : Nat) : Int)
   · refine q_cS 14 0 [1] [[oT], [o0, o0]] [BT (((i : Int) : Int) < ((l.xs.length : Nat) : Int))] [(0, .slice l.a l.xs.length l.cap), (qwi3_1 l), (7, i6 (i : Int)), (3, i6 (i : Int))] rfl ⟨bt (by omega), trivial⟩ ?_
     obtain ⟨b4, o5, ha6, hF8, hc7⟩ := (hd).1.all (show 0 < l.xs.length by omega)
     replace ha6 : l.a = some ⟨b4, o5, none⟩ := ha6
     refine g_eq [(qwi3_0 b4 o5 l), (qwi3_1 l), (7, i6 (i : Int)), (3, i6 (i : Int))] (by (try dsimp only [qwi3_0, qwi3_1]); simp only [ha6]) ?_
     have hc9 := hc7 i (show i < l.xs.length by omega)
     have he10 := (hd).2 i (show i < l.xs.length by omega)
     obtain ⟨y11, hy11⟩ : ∃ y_, y_ = gd l.xs i := ⟨_, rfl⟩
     rw [← hy11] at he10 hc9
     have hpi : InK .i64 y11.Partition := he10.Partition
     refine q_c 4 0 [] [[o0, o0, (oi i), (ol 0 (TWindow.arr y11)), o0, (an 3 1)]] [((i : Int) : Int) = ((i : Nat) : Int), i < l.xs.length, (none : Option Nat) = none, OldR w b4 (o5 + i * 3) (TWindow.arr y11), Qb n2, Qb n2, Qb n2] [(qwi3_0 b4 o5 l), (qwi3_1 l), (7, i6 (i : Int)), (4, pt n2)] ⟨w, n2 + 1, [(old0 w), (bk n2 (TWindow.arr y11) 97)]⟩ rfl ⟨rfl, (by omega), rfl, old_row hc9, rfl, rfl, rfl, trivial⟩ ?_
     by_cases h12 : (y11.Partition : Int) < -1
     · refine q_cS 9 0 [1] [[o0, (a1 1), oT, o0, o0, o0, o0], [o0]] [Qb n2, BT ((y11.Partition : Int) < (-1))] [(2, .bool false)] rfl ⟨rfl, bt (by omega), trivial⟩ ?_
       refine e_ret [] [] (.bool false) trivial ?_
       intro w13 hw13
       exact ⟨congrArg (fun b => Ending.returned (Value.bool b)) (Eq.symm (lst_no2 (i := i) (by omega) (Bool.eq_false_iff.2 (by rw [← hy11, okW_is hpi]; simp only [ne_eq, Bool.and_eq_true, decide_eq_true_eq]; omega)))), back0 hw13⟩
     · by_cases h14 : (y11.Partition : Int) < 4294967295
       · refine q_c 1 14 [] [[o0, (a1 1), oF, o0, o0, (a1 1), oF, o0, o0, o0, (a1 1), o0, (a1 1), o0]] [Qb n2, BF ((y11.Partition : Int) < (-1)), Qb n2, BF ((y11.Partition : Int) ≥ 4294967295), Qb n2, Qb n2] [(qwi3_0 b4 o5 l), (qwi3_1 l), (7, i6 (i : Int)), (22, .bool false), (27, .slice (some ⟨n2 + 1, 0, none⟩) 2 2)] ⟨w, n2 + 2, [(old0 w), (bk n2 (TWindow.arr y11) 97), (bk (n2 + 1) #[i6 y11.Usable, i6 y11.Slack] 3)]⟩ rfl ⟨rfl, bf (by omega), rfl, bf (by omega), rfl, rfl, trivial⟩ ?_
         refine l_call [] [] 66 #[.slice (some ⟨n2 + 1, 0, none⟩) 2 2] (some 28) trivial ?_
         intro w15 hw15
         refine (may_calls w15 ⟨some ⟨n2 + 1, 0, none⟩, 2, ([y11.Usable, y11.Slack] : List Int)⟩ (blk_sl (hw15.at (i := 2) rfl) rfl (by simp) (by simp))).mono ?_
         rintro e w16 ⟨rfl, hkw16⟩
         have hnw16 : n2 + 2 ≤ w16.heap.size := size_of hw15 hkw16
         refine ⟨_, _, rfl, hw15.keeps hkw16, ?_⟩
         refine l_keep [0, 6, 7, 22, 28] [(qwi3_0 b4 o5 l), (qwi3_1 l), (7, i6 (i : Int)), (22, .bool false), (28, .bool (([y11.Usable, y11.Slack] : List Int).all okNum))] ?_
         by_cases h17 : (([y11.Usable, y11.Slack] : List Int).all okNum) = true
         · refine q_rS 8 0 [0] [[(ov (.bool false)), o0], [(ov (i6 ((i + 1 : Nat) : Int))), o0]] [Value.bool (!(([y11.Usable, y11.Slack] : List Int).all okNum)) = Value.bool false, Wr (((i : Int) : Int) + 1) (((i + 1 : Nat) : Int))] [(qwi3_0 b4 o5 l), (qwi3_1 l), (7, i6 ((i + 1 : Nat) : Int))] rfl ⟨by simp [h17], wrI, trivial⟩ ?_
           refine e_pick [0] [(old0 w)] rfl rfl ?_
           refine e_eqk [0, 6, 7] [(0, .slice l.a l.xs.length l.cap), (qwi3_1 l), (7, i6 ((i + 1 : Nat) : Int))] (by (try dsimp only [qwi3_0, qwi3_1]); simp only [ha6]; rfl) ?_
           refine e_inv (fun a w' hs => ⟨l.xs.length - (i + 1), by omega, w16.heap.size, (i + 1), rfl, by omega, by omega, all_push hok (by rw [← hy11, okW_is hpi, decide_eq_true (by omega : -1 ≤ y11.Partition), decide_eq_true (by omega : y11.Partition < 4294967295)]; simpa using h17), hs⟩)
         · refine q_rS 8 0 [1] [[(ov (.bool true)), o0], [o0]] [Value.bool (!(([y11.Usable, y11.Slack] : List Int).all okNum)) = Value.bool true] [(2, .bool false)] rfl ⟨by simp [h17], trivial⟩ ?_
           refine e_ret [] [] (.bool false) trivial ?_
           intro w18 hw18
           exact ⟨congrArg (fun b => Ending.returned (Value.bool b)) (Eq.symm (lst_no2 (i := i) (by omega) (by rw [← hy11, okW_is hpi, Bool.and_eq_false_iff]; right; simpa using h17))), back0 hw18⟩
       · refine q_cS 9 0 [1] [[o0, (a1 1), oF, o0, o0, (a1 1), oT, o0, o0, o0], [o0]] [Qb n2, BF ((y11.Partition : Int) < (-1)), Qb n2, BT ((y11.Partition : Int) ≥ 4294967295)] [(2, .bool false)] rfl ⟨rfl, bf (by omega), rfl, bt (by omega), trivial⟩ ?_
         refine e_ret [] [] (.bool false) trivial ?_
         intro w19 hw19
         exact ⟨congrArg (fun b => Ending.returned (Value.bool b)) (Eq.symm (lst_no2 (i := i) (by omega) (Bool.eq_false_iff.2 (by rw [← hy11, okW_is hpi]; simp only [ne_eq, Bool.and_eq_true, decide_eq_true_eq]; omega)))), back0 hw19⟩
   · refine q_cS 11 0 [0] [[oF]] [BF (((i : Int) : Int) < ((l.xs.length : Nat) : Int))] [(0, .slice l.a l.xs.length l.cap), (qwi3_1 l), (7, i6 (i : Int)), (8, .bool false)] rfl ⟨bf (by omega), trivial⟩ ?_
     by_cases h20 : (255 : Int) < ((l.xs.length : Nat) : Int)
     · refine q_cS 4 0 [] [[o0, o0, oF, o0]] [BF ((((l.xs.length : Nat) : Int) : Int) ≤ 255)] [(2, .bool false)] rfl ⟨bf (by omega), trivial⟩ ?_
       refine e_ret [] [] (.bool false) trivial ?_
       intro w21 hw21
       exact ⟨congrArg (fun b => Ending.returned (Value.bool b)) (Eq.symm (lst_no1 (by omega))), back0 hw21⟩
     · refine q_cS 4 0 [] [[o0, o0, oT, o0]] [BT ((((l.xs.length : Nat) : Int) : Int) ≤ 255)] [(2, .bool true)] rfl ⟨bt (by omega), trivial⟩ ?_
       refine e_ret [] [] (.bool true) trivial ?_
       intro w22 hw22
       exact ⟨congrArg (fun b => Ending.returned (Value.bool b)) (Eq.symm (lst_yes (by omega) (fun q hq => hok q (by omega)))), back0 hw22⟩

end Go.Proofs.Ytmmkacfeocnblaa.Ly
