/- conf: lists and partitions are laid down. No conditions. -/
import Derived.Test.YtmmkacfeocnblaaWc
namespace Go.Proofs.Ytmmkacfeocnblaa.Ly
open Go Go.Proofs.Ytmmkacfeocnblaa.Eng Go.Proofs.Ytmmkacfeocnblaa.Mem
set_option linter.unusedSimpArgs false
set_option linter.unusedVariables false
set_option maxRecDepth 100000

theorem encName_len (t : ByteArray) : (encName t).length = 4 + t.size := by unfold encName; rw [List.length_append, leB_len, strB_len]
abbrev qffb_0 (z : Nat) (pw : Nat) : Ch := bk z #[pt pw] 56
abbrev qffb_1 (l : Sl TWindow) : Nat × Value := (20, i6 ((l.xs.length : Nat) : Int))
abbrev qffb_2 (l : Sl TWindow) : Nat × Value := (19, .slice l.a l.xs.length l.cap)
theorem putW_calls (w : World) (pw : Nat) (F : Nat → Prop) (bs : List Int) (hw : WrIs w pw F bs) (l : Sl TWindow) (hd : SlOk TWindow.cells 3 TWindow.ok (Dt w F) w l) (hl : bs.length + 3073 ≤ 2147483647) : Calls Try.prog 58 #[.agg #[.pointer (some ⟨pw, 0, none⟩)], .slice l.a l.xs.length l.cap, .func (.func 59) #[] #[]] w fun e w' => WrPostP w pw F bs (okLst okW l.xs) (encLst encW l.xs) e w' := by
 obtain ⟨z, hz⟩ : ∃ z, z = w.heap.size := ⟨_, rfl⟩
 refine calls_G (args := [.agg #[pt pw], .slice l.a l.xs.length l.cap, .func (.func 59) #[] #[]]) 30 ⟨w, z, [(old F w), (wrC pw F bs)]⟩ Try.func58 rfl (by kernel_rfl) (by kernel_rfl) (hz ▸ sat_wrC hw) ?_
 have hdl := hd.1.len
 refine g_keep [0, 1, 2] [(0, .agg #[pt pw]), (1, .slice l.a l.xs.length l.cap), (2, .func (.func 59) #[] #[])] ?_
 refine q_c 6 0 [] [[o0]] [] [(1, .slice l.a l.xs.length l.cap), (2, .func (.func 59) #[] #[]), (3, pt z)] ⟨w, z + 1, [(old F w), (wrC pw F bs), (qffb_0 z pw)]⟩ rfl trivial ?_
 by_cases h1 : (255 : Int) < ((l.xs.length : Nat) : Int)
 · refine q_cS 5 2 [1] [[o0, o0, oT], [o0, o0]] [BT ((((l.xs.length : Nat) : Int) : Int) > 255)] [(1, .slice l.a l.xs.length l.cap), (2, .func (.func 59) #[] #[]), (3, pt z), (12, .iface 52 (.agg #[]))] rfl ⟨bt (by omega), trivial⟩ ?_
   refine l_panic (.iface 52 (.agg #[])) ?_
   refine e_panicR ?_
   intro w2 hw2
   refine .inr ⟨(lst_no1 (by omega)), rfl, back0 hw2⟩
 · refine q_cS 8 5 [0] [[o0, o0, oF], [o0, (a1 2), o0, o0, (ov (.int .u8 ((l.xs.length : Nat) : Int)))]] [BF ((((l.xs.length : Nat) : Int) : Int) > 255), Qb z, Value.int .u8 (IntKind.u8.wrap (((l.xs.length : Nat) : Int))) = Value.int .u8 (((l.xs.length : Nat) : Int))] [(1, .slice l.a l.xs.length l.cap), (2, .func (.func 59) #[] #[]), (3, pt z), (14, pt pw), (17, .int .u8 ((l.xs.length : Nat) : Int))] rfl ⟨bf (by omega), rfl, congrArg (Value.int .u8) (wr_u8 rfl (by omega) (by omega)), trivial⟩ ?_
   refine l_call [] [] 57 #[pt pw, .int .u8 ((l.xs.length : Nat) : Int)] (some 18) trivial ?_
   intro w3 hw3
   refine (u8_sat hw3 (i := 1) rfl ((l.xs.length : Nat) : Int) (by omega) (by first | omega | (simp only [List.length_append, leB_len, List.length_cons, List.length_nil]; omega))).mono ?_
   rintro e w5 ⟨F4, rfl, hmw5, hSw5⟩; have hnw5 : z + 1 ≤ w5.heap.size := hmw5
   refine ⟨_, _, rfl, hSw5, ?_⟩
   refine q_rS 7 0 [] [[], [o0, o0, o0]] [] [(2, .func (.func 59) #[] #[]), (3, pt z), (qffb_2 l), (qffb_1 l), (21, i6 0)] rfl trivial ?_
   refine g_loop (fun m a w' => ∃ (n7 : Nat) (i : Nat) (FL : Nat → Prop), m = l.xs.length - i ∧ w5.heap.size ≤ n7 ∧ (i ≤ l.xs.length) ∧ (∀ q, q < i → okW (gd l.xs q) = true) ∧ St 30 [(2, .func (.func 59) #[] #[]), (3, pt z), (qffb_2 l), (qffb_1 l), (21, i6 (i : Int))] [] ⟨w, n7, [(old F w), (wrC pw FL ((bs ++ [((l.xs.length : Nat) : Int)]) ++ (l.xs.take i).flatMap encW)), (qffb_0 z pw)]⟩ a w') (l.xs.length - 0) ?_ ?_
   · intro a w' hs; exact ⟨w5.heap.size, 0, F4, rfl, Nat.le_refl _, Nat.zero_le _, fun q hq => absurd hq (Nat.not_lt_zero q), by (try dsimp only [qffb_0, qffb_1, qffb_2] at hs ⊢); rw [List.take_zero, List.flatMap_nil, List.append_nil]; exact hs⟩
   · rintro m a w' ⟨n7, i, FL, rfl, hn6, hki, hok, hs⟩
     refine (?_ : G Try.prog 30 [(2, .func (.func 59) #[] #[]), (3, pt z), (qffb_2 l), (qffb_1 l), (21, i6 (i : Int))] [] ⟨w, n7, [(old F w), (wrC pw FL ((bs ++ [((l.xs.length : Nat) : Int)]) ++ (l.xs.take i).flatMap encW)), (qffb_0 z pw)]⟩ _ _ _) a w' hs
     clear hs a w'
     have hfl := flat_le (enc := encW) (K := 12) (xs := l.xs) i (by omega) (fun q hq => by rw [encW_len]; exact Nat.le_refl _)
     refine g_seq ?_
     by_cases h8 : ((i : Int) : Int) < ((l.xs.length : Nat) : Int)
     · refine q_cS 10 0 [1] [[oT]] [BT (((i : Int) : Int) < ((l.xs.length : Nat) : Int))] [(2, .func (.func 59) #[] #[]), (3, pt z), (qffb_2 l), (qffb_1 l), (21, i6 (i : Int)), (22, .bool true)] rfl ⟨bt (by omega), trivial⟩ ?_
       obtain ⟨b9, o10, ha11, hF13, hc12⟩ := (hd).1.all (show 0 < l.xs.length by omega)
       replace ha11 : l.a = some ⟨b9, o10, none⟩ := ha11
       refine g_eq [(2, .func (.func 59) #[] #[]), (3, pt z), (19, .slice (some ⟨b9, o10, none⟩) l.xs.length l.cap), (qffb_1 l), (21, i6 (i : Int)), (22, .bool true)] (by (try dsimp only [qffb_0, qffb_1, qffb_2]); simp only [ha11]) ?_
       have hc14 := hc12 i (show i < l.xs.length by omega)
       have he15 := (hd).2 i (show i < l.xs.length by omega)
       obtain ⟨y16, hy16⟩ : ∃ y_, y_ = gd l.xs i := ⟨_, rfl⟩
       rw [← hy16] at he15 hc14
       refine q_c 4 3 [] [[(oi i), (oa [.via 0 (i6 y16.Partition), .via 0 (i6 y16.Usable), .via 0 (i6 y16.Slack)]), o0, (an 3 3)], [o0, (a1 2), (an 3 3)]] [((i : Int) : Int) = ((i : Nat) : Int), i < l.xs.length, (none : Option Nat) = none, ∀ w', Ch.holds (old F w) w' → w'.cell? ⟨b9, o10 + i * 3, none⟩ = some (i6 y16.Partition), ∀ w', Ch.holds (old F w) w' → w'.cell? ⟨b9, o10 + i * 3 + 1, none⟩ = some (i6 y16.Usable), ∀ w', Ch.holds (old F w) w' → w'.cell? ⟨b9, o10 + i * 3 + 2, none⟩ = some (i6 y16.Slack), Qb n7, Qb n7, Qb n7, Qb z, Qb n7, Qb n7, Qb n7] [(2, .func (.func 59) #[] #[]), (3, pt z), (19, .slice (some ⟨b9, o10, none⟩) l.xs.length l.cap), (qffb_1 l), (21, i6 (i : Int)), (25, .func (.func 59) #[] #[]), (26, .agg #[pt pw]), (27, .agg (TWindow.arr y16))] ⟨w, n7 + 1, [(old F w), (wrC pw FL ((bs ++ [((l.xs.length : Nat) : Int)]) ++ (l.xs.take i).flatMap encW)), (qffb_0 z pw), (bk n7 (TWindow.arr y16) 97)]⟩ rfl ⟨rfl, (by omega), rfl, oldD_cell hF13 (hc14 0 _ rfl), oldD_cell hF13 (hc14 1 _ rfl), oldD_cell hF13 (hc14 2 _ rfl), rfl, rfl, rfl, rfl, rfl, rfl, rfl, trivial⟩ ?_
       refine l_callX [] [] 59 #[.agg #[pt pw], .agg (TWindow.arr y16)] (some 28) trivial ?_
       intro w17 hw17
       refine (window_satP hw17 (i := 1) [0, 2, 3] rfl rfl rfl rfl y16 (by first | omega | (simp only [List.length_append, leB_len, List.length_cons, List.length_nil]; omega))).mono ?_
       rintro e w19 (⟨F18, ho20, rfl, hmw19, hSw19⟩ | ⟨ho20, rfl, hmw19, hSw19⟩)
       · have hnw19 : n7 + 1 ≤ w19.heap.size := hmw19
         refine .inl ⟨_, _, rfl, hSw19, ?_⟩
         refine q_rS 5 0 [] [[], [(ov (i6 ((i + 1 : Nat) : Int))), o0]] [Wr (((i : Int) : Int) + 1) (((i + 1 : Nat) : Int))] [(2, .func (.func 59) #[] #[]), (3, pt z), (19, .slice (some ⟨b9, o10, none⟩) l.xs.length l.cap), (qffb_1 l), (21, i6 ((i + 1 : Nat) : Int))] rfl ⟨wrI, trivial⟩ ?_
         refine e_pick [0, 1, 2] [(old F w), (wrC pw F18 (((bs ++ [((l.xs.length : Nat) : Int)]) ++ (l.xs.take i).flatMap encW) ++ encW y16)), (qffb_0 z pw)] rfl rfl ?_
         refine e_eqk [2, 3, 19, 20, 21] [(2, .func (.func 59) #[] #[]), (3, pt z), (qffb_2 l), (qffb_1 l), (21, i6 ((i + 1 : Nat) : Int))] (by (try dsimp only [qffb_0, qffb_1, qffb_2]); simp only [ha11]; rfl) ?_
         refine e_inv (fun a w' hs => ⟨l.xs.length - (i + 1), by omega, w19.heap.size, (i + 1), F18, rfl, by omega, by omega, all_push hok (by rw [← hy16]; exact ho20), by (try dsimp only [qffb_0, qffb_1, qffb_2] at hs ⊢); rw [take_flat (by omega), ← hy16, ← List.append_assoc]; exact hs⟩)
       · have hnw19 : n7 + 1 ≤ w19.heap.size := hmw19
         refine .inr ⟨_, _, rfl, hSw19, ?_⟩
         refine e_panicR ?_
         intro w21 hw21
         refine .inr ⟨(lst_no2 (i := i) (by omega) (by rw [← hy16]; exact ho20)), rfl, back0 hw21⟩
     · refine q_cS 9 0 [0] [[oF]] [BF (((i : Int) : Int) < ((l.xs.length : Nat) : Int))] [(2, .func (.func 59) #[] #[]), (3, pt z), (qffb_2 l), (qffb_1 l), (21, i6 (i : Int)), (22, .bool false)] rfl ⟨bf (by omega), trivial⟩ ?_
       -- the function's end
       refine e_end [] [] (.tuple #[]) trivial ?_
       intro w22 hw22
       have hD := wr_end hw22 rfl (show w.heap.size ≤ n7 by omega) rfl (j := 1) rfl (by decide) hw
       rw [show i = l.xs.length from by omega, List.take_length, List.append_assoc] at hD
       exact .inl ⟨(lst_yes (by omega) (fun q hq => hok q (by omega))), rfl, hD⟩
theorem putW_satP {A : AW} {w : World} {i pw : Nat} {F : Nat → Prop} {bs : List Int} {kept : List Ch} (h : Sat A w) (is : List Nat) (hi : A.σ[i]? = some (wrC pw F bs)) (hnd : nodupB is = true) (hp : picks is A.σ = some kept) (hni : is.contains i = false) (l : Sl TWindow) (hd : SlOk TWindow.cells 3 TWindow.ok (Dt w F) w l) (hl : bs.length + 3073 ≤ 2147483647) : Calls Try.prog 58 #[.agg #[.pointer (some ⟨pw, 0, none⟩)], .slice l.a l.xs.length l.cap, .func (.func 59) #[] #[]] w fun e w' => (∃ F', okLst okW l.xs = true ∧ e = .returned (.tuple #[]) ∧ A.n ≤ w'.heap.size ∧ Sat { A with n := w'.heap.size, σ := A.σ.set i (wrC pw F' (bs ++ encLst encW l.xs)) } w') ∨ (okLst okW l.xs = false ∧ e = .panicked wideP ∧ A.n ≤ w'.heap.size ∧ Sat { A with n := w'.heap.size, σ := kept } w') :=
  (putW_calls w pw F bs (h.at hi) l hd hl).mono (fun e w' hP => wrP_sat h hi is hnd hp hni hP)
abbrev qods_0 (z : Nat) (pw : Nat) : Ch := bk z #[pt pw] 56
abbrev qods_1 (l : Sl TRegion) : Nat × Value := (20, i6 ((l.xs.length : Nat) : Int))
abbrev qods_2 (l : Sl TRegion) : Nat × Value := (19, .slice l.a l.xs.length l.cap)
theorem putR_calls (w : World) (pw : Nat) (F : Nat → Prop) (bs : List Int) (hw : WrIs w pw F bs) (l : Sl TRegion) (hd : SlOk TRegion.cells 4 TRegion.ok (Dt w F) w l) (hl : bs.length + 4097 ≤ 2147483647) : Calls Try.prog 61 #[.agg #[.pointer (some ⟨pw, 0, none⟩)], .slice l.a l.xs.length l.cap, .func (.func 62) #[] #[]] w fun e w' => WrPostP w pw F bs (okLst okR l.xs) (encLst encR l.xs) e w' := by
 obtain ⟨z, hz⟩ : ∃ z, z = w.heap.size := ⟨_, rfl⟩
 refine calls_G (args := [.agg #[pt pw], .slice l.a l.xs.length l.cap, .func (.func 62) #[] #[]]) 30 ⟨w, z, [(old F w), (wrC pw F bs)]⟩ Try.func61 rfl (by kernel_rfl) (by kernel_rfl) (hz ▸ sat_wrC hw) ?_
 have hdl := hd.1.len
 refine g_keep [0, 1, 2] [(0, .agg #[pt pw]), (1, .slice l.a l.xs.length l.cap), (2, .func (.func 62) #[] #[])] ?_
 refine q_c 6 0 [] [[o0]] [] [(1, .slice l.a l.xs.length l.cap), (2, .func (.func 62) #[] #[]), (3, pt z)] ⟨w, z + 1, [(old F w), (wrC pw F bs), (qods_0 z pw)]⟩ rfl trivial ?_
 by_cases h1 : (255 : Int) < ((l.xs.length : Nat) : Int)
 · refine q_cS 5 2 [1] [[o0, o0, oT], [o0, o0]] [BT ((((l.xs.length : Nat) : Int) : Int) > 255)] [(1, .slice l.a l.xs.length l.cap), (2, .func (.func 62) #[] #[]), (3, pt z), (12, .iface 52 (.agg #[]))] rfl ⟨bt (by omega), trivial⟩ ?_
   refine l_panic (.iface 52 (.agg #[])) ?_
   refine e_panicR ?_
   intro w2 hw2
   refine .inr ⟨(lst_no1 (by omega)), rfl, back0 hw2⟩
 · refine q_cS 8 5 [0] [[o0, o0, oF], [o0, (a1 2), o0, o0, (ov (.int .u8 ((l.xs.length : Nat) : Int)))]] [BF ((((l.xs.length : Nat) : Int) : Int) > 255), Qb z, Value.int .u8 (IntKind.u8.wrap (((l.xs.length : Nat) : Int))) = Value.int .u8 (((l.xs.length : Nat) : Int))] [(1, .slice l.a l.xs.length l.cap), (2, .func (.func 62) #[] #[]), (3, pt z), (14, pt pw), (17, .int .u8 ((l.xs.length : Nat) : Int))] rfl ⟨bf (by omega), rfl, congrArg (Value.int .u8) (wr_u8 rfl (by omega) (by omega)), trivial⟩ ?_
   refine l_call [] [] 57 #[pt pw, .int .u8 ((l.xs.length : Nat) : Int)] (some 18) trivial ?_
   intro w3 hw3
   refine (u8_sat hw3 (i := 1) rfl ((l.xs.length : Nat) : Int) (by omega) (by first | omega | (simp only [List.length_append, leB_len, List.length_cons, List.length_nil]; omega))).mono ?_
   rintro e w5 ⟨F4, rfl, hmw5, hSw5⟩; have hnw5 : z + 1 ≤ w5.heap.size := hmw5
   refine ⟨_, _, rfl, hSw5, ?_⟩
   refine q_rS 7 0 [] [[], [o0, o0, o0]] [] [(2, .func (.func 62) #[] #[]), (3, pt z), (qods_2 l), (qods_1 l), (21, i6 0)] rfl trivial ?_
   refine g_loop (fun m a w' => ∃ (n7 : Nat) (i : Nat) (FL : Nat → Prop), m = l.xs.length - i ∧ w5.heap.size ≤ n7 ∧ (i ≤ l.xs.length) ∧ (∀ q, q < i → okR (gd l.xs q) = true) ∧ St 30 [(2, .func (.func 62) #[] #[]), (3, pt z), (qods_2 l), (qods_1 l), (21, i6 (i : Int))] [] ⟨w, n7, [(old F w), (wrC pw FL ((bs ++ [((l.xs.length : Nat) : Int)]) ++ (l.xs.take i).flatMap encR)), (qods_0 z pw)]⟩ a w') (l.xs.length - 0) ?_ ?_
   · intro a w' hs; exact ⟨w5.heap.size, 0, F4, rfl, Nat.le_refl _, Nat.zero_le _, fun q hq => absurd hq (Nat.not_lt_zero q), by (try dsimp only [qods_0, qods_1, qods_2] at hs ⊢); rw [List.take_zero, List.flatMap_nil, List.append_nil]; exact hs⟩
   · rintro m a w' ⟨n7, i, FL, rfl, hn6, hki, hok, hs⟩
     refine (?_ : G Try.prog 30 [(2, .func (.func 62) #[] #[]), (3, pt z), (qods_2 l), (qods_1 l), (21, i6 (i : Int))] [] ⟨w, n7, [(old F w), (wrC pw FL ((bs ++ [((l.xs.length : Nat) : Int)]) ++ (l.xs.take i).flatMap encR)), (qods_0 z pw)]⟩ _ _ _) a w' hs
     clear hs a w'
     have hfl := flat_le (enc := encR) (K := 16) (xs := l.xs) i (by omega) (fun q hq => by rw [encR_len]; exact Nat.le_refl _)
     refine g_seq ?_
     by_cases h8 : ((i : Int) : Int) < ((l.xs.length : Nat) : Int)
     · refine q_cS 10 0 [1] [[oT]] [BT (((i : Int) : Int) < ((l.xs.length : Nat) : Int))] [(2, .func (.func 62) #[] #[]), (3, pt z), (qods_2 l), (qods_1 l), (21, i6 (i : Int)), (22, .bool true)] rfl ⟨bt (by omega), trivial⟩ ?_
       obtain ⟨b9, o10, ha11, hF13, hc12⟩ := (hd).1.all (show 0 < l.xs.length by omega)
       replace ha11 : l.a = some ⟨b9, o10, none⟩ := ha11
       refine g_eq [(2, .func (.func 62) #[] #[]), (3, pt z), (19, .slice (some ⟨b9, o10, none⟩) l.xs.length l.cap), (qods_1 l), (21, i6 (i : Int)), (22, .bool true)] (by (try dsimp only [qods_0, qods_1, qods_2]); simp only [ha11]) ?_
       have hc14 := hc12 i (show i < l.xs.length by omega)
       have he15 := (hd).2 i (show i < l.xs.length by omega)
       obtain ⟨y16, hy16⟩ : ∃ y_, y_ = gd l.xs i := ⟨_, rfl⟩
       rw [← hy16] at he15 hc14
       refine q_c 4 3 [] [[(oi i), (oa [.via 0 (i6 y16.Page), .via 0 (i6 y16.Pages), .via 0 (i6 y16.Frame), .via 0 (i6 y16.Rights)]), o0, (an 4 3)], [o0, (a1 2), (an 4 3)]] [((i : Int) : Int) = ((i : Nat) : Int), i < l.xs.length, (none : Option Nat) = none, ∀ w', Ch.holds (old F w) w' → w'.cell? ⟨b9, o10 + i * 4, none⟩ = some (i6 y16.Page), ∀ w', Ch.holds (old F w) w' → w'.cell? ⟨b9, o10 + i * 4 + 1, none⟩ = some (i6 y16.Pages), ∀ w', Ch.holds (old F w) w' → w'.cell? ⟨b9, o10 + i * 4 + 2, none⟩ = some (i6 y16.Frame), ∀ w', Ch.holds (old F w) w' → w'.cell? ⟨b9, o10 + i * 4 + 3, none⟩ = some (i6 y16.Rights), Qb n7, Qb n7, Qb n7, Qb n7, Qb z, Qb n7, Qb n7, Qb n7, Qb n7] [(2, .func (.func 62) #[] #[]), (3, pt z), (19, .slice (some ⟨b9, o10, none⟩) l.xs.length l.cap), (qods_1 l), (21, i6 (i : Int)), (25, .func (.func 62) #[] #[]), (26, .agg #[pt pw]), (27, .agg (TRegion.arr y16))] ⟨w, n7 + 1, [(old F w), (wrC pw FL ((bs ++ [((l.xs.length : Nat) : Int)]) ++ (l.xs.take i).flatMap encR)), (qods_0 z pw), (bk n7 (TRegion.arr y16) 99)]⟩ rfl ⟨rfl, (by omega), rfl, oldD_cell hF13 (hc14 0 _ rfl), oldD_cell hF13 (hc14 1 _ rfl), oldD_cell hF13 (hc14 2 _ rfl), oldD_cell hF13 (hc14 3 _ rfl), rfl, rfl, rfl, rfl, rfl, rfl, rfl, rfl, rfl, trivial⟩ ?_
       refine l_callX [] [] 62 #[.agg #[pt pw], .agg (TRegion.arr y16)] (some 28) trivial ?_
       intro w17 hw17
       refine (region_satP hw17 (i := 1) [0, 2, 3] rfl rfl rfl rfl y16 (by first | omega | (simp only [List.length_append, leB_len, List.length_cons, List.length_nil]; omega))).mono ?_
       rintro e w19 (⟨F18, ho20, rfl, hmw19, hSw19⟩ | ⟨ho20, rfl, hmw19, hSw19⟩)
       · have hnw19 : n7 + 1 ≤ w19.heap.size := hmw19
         refine .inl ⟨_, _, rfl, hSw19, ?_⟩
         refine q_rS 5 0 [] [[], [(ov (i6 ((i + 1 : Nat) : Int))), o0]] [Wr (((i : Int) : Int) + 1) (((i + 1 : Nat) : Int))] [(2, .func (.func 62) #[] #[]), (3, pt z), (19, .slice (some ⟨b9, o10, none⟩) l.xs.length l.cap), (qods_1 l), (21, i6 ((i + 1 : Nat) : Int))] rfl ⟨wrI, trivial⟩ ?_
         refine e_pick [0, 1, 2] [(old F w), (wrC pw F18 (((bs ++ [((l.xs.length : Nat) : Int)]) ++ (l.xs.take i).flatMap encR) ++ encR y16)), (qods_0 z pw)] rfl rfl ?_
         refine e_eqk [2, 3, 19, 20, 21] [(2, .func (.func 62) #[] #[]), (3, pt z), (qods_2 l), (qods_1 l), (21, i6 ((i + 1 : Nat) : Int))] (by (try dsimp only [qods_0, qods_1, qods_2]); simp only [ha11]; rfl) ?_
         refine e_inv (fun a w' hs => ⟨l.xs.length - (i + 1), by omega, w19.heap.size, (i + 1), F18, rfl, by omega, by omega, all_push hok (by rw [← hy16]; exact ho20), by (try dsimp only [qods_0, qods_1, qods_2] at hs ⊢); rw [take_flat (by omega), ← hy16, ← List.append_assoc]; exact hs⟩)
       · have hnw19 : n7 + 1 ≤ w19.heap.size := hmw19
         refine .inr ⟨_, _, rfl, hSw19, ?_⟩
         refine e_panicR ?_
         intro w21 hw21
         refine .inr ⟨(lst_no2 (i := i) (by omega) (by rw [← hy16]; exact ho20)), rfl, back0 hw21⟩
     · refine q_cS 9 0 [0] [[oF]] [BF (((i : Int) : Int) < ((l.xs.length : Nat) : Int))] [(2, .func (.func 62) #[] #[]), (3, pt z), (qods_2 l), (qods_1 l), (21, i6 (i : Int)), (22, .bool false)] rfl ⟨bf (by omega), trivial⟩ ?_
       -- the function's end
       refine e_end [] [] (.tuple #[]) trivial ?_
       intro w22 hw22
       have hD := wr_end hw22 rfl (show w.heap.size ≤ n7 by omega) rfl (j := 1) rfl (by decide) hw
       rw [show i = l.xs.length from by omega, List.take_length, List.append_assoc] at hD
       exact .inl ⟨(lst_yes (by omega) (fun q hq => hok q (by omega))), rfl, hD⟩
theorem putR_satP {A : AW} {w : World} {i pw : Nat} {F : Nat → Prop} {bs : List Int} {kept : List Ch} (h : Sat A w) (is : List Nat) (hi : A.σ[i]? = some (wrC pw F bs)) (hnd : nodupB is = true) (hp : picks is A.σ = some kept) (hni : is.contains i = false) (l : Sl TRegion) (hd : SlOk TRegion.cells 4 TRegion.ok (Dt w F) w l) (hl : bs.length + 4097 ≤ 2147483647) : Calls Try.prog 61 #[.agg #[.pointer (some ⟨pw, 0, none⟩)], .slice l.a l.xs.length l.cap, .func (.func 62) #[] #[]] w fun e w' => (∃ F', okLst okR l.xs = true ∧ e = .returned (.tuple #[]) ∧ A.n ≤ w'.heap.size ∧ Sat { A with n := w'.heap.size, σ := A.σ.set i (wrC pw F' (bs ++ encLst encR l.xs)) } w') ∨ (okLst okR l.xs = false ∧ e = .panicked wideP ∧ A.n ≤ w'.heap.size ∧ Sat { A with n := w'.heap.size, σ := kept } w') :=
  (putR_calls w pw F bs (h.at hi) l hd hl).mono (fun e w' hP => wrP_sat h hi is hnd hp hni hP)
abbrev qavt_0 (z : Nat) (pw : Nat) : Ch := bk z #[pt pw] 56
abbrev qavt_1 (l : Sl TPort) : Nat × Value := (20, i6 ((l.xs.length : Nat) : Int))
abbrev qavt_2 (l : Sl TPort) : Nat × Value := (19, .slice l.a l.xs.length l.cap)
theorem putP_calls (w : World) (pw : Nat) (F : Nat → Prop) (bs : List Int) (hw : WrIs w pw F bs) (l : Sl TPort) (hd : SlOk TPort.cells 2 TPort.ok (Dt w F) w l) (hl : bs.length + 1281 ≤ 2147483647) : Calls Try.prog 63 #[.agg #[.pointer (some ⟨pw, 0, none⟩)], .slice l.a l.xs.length l.cap, .func (.func 64) #[] #[]] w fun e w' => WrPostP w pw F bs (okLst okP l.xs) (encLst encP l.xs) e w' := by
 obtain ⟨z, hz⟩ : ∃ z, z = w.heap.size := ⟨_, rfl⟩
 refine calls_G (args := [.agg #[pt pw], .slice l.a l.xs.length l.cap, .func (.func 64) #[] #[]]) 30 ⟨w, z, [(old F w), (wrC pw F bs)]⟩ Try.func63 rfl (by kernel_rfl) (by kernel_rfl) (hz ▸ sat_wrC hw) ?_
 have hdl := hd.1.len
 refine g_keep [0, 1, 2] [(0, .agg #[pt pw]), (1, .slice l.a l.xs.length l.cap), (2, .func (.func 64) #[] #[])] ?_
 refine q_c 6 0 [] [[o0]] [] [(1, .slice l.a l.xs.length l.cap), (2, .func (.func 64) #[] #[]), (3, pt z)] ⟨w, z + 1, [(old F w), (wrC pw F bs), (qavt_0 z pw)]⟩ rfl trivial ?_
 by_cases h1 : (255 : Int) < ((l.xs.length : Nat) : Int)
 · refine q_cS 5 2 [1] [[o0, o0, oT], [o0, o0]] [BT ((((l.xs.length : Nat) : Int) : Int) > 255)] [(1, .slice l.a l.xs.length l.cap), (2, .func (.func 64) #[] #[]), (3, pt z), (12, .iface 52 (.agg #[]))] rfl ⟨bt (by omega), trivial⟩ ?_
   refine l_panic (.iface 52 (.agg #[])) ?_
   refine e_panicR ?_
   intro w2 hw2
   refine .inr ⟨(lst_no1 (by omega)), rfl, back0 hw2⟩
 · refine q_cS 8 5 [0] [[o0, o0, oF], [o0, (a1 2), o0, o0, (ov (.int .u8 ((l.xs.length : Nat) : Int)))]] [BF ((((l.xs.length : Nat) : Int) : Int) > 255), Qb z, Value.int .u8 (IntKind.u8.wrap (((l.xs.length : Nat) : Int))) = Value.int .u8 (((l.xs.length : Nat) : Int))] [(1, .slice l.a l.xs.length l.cap), (2, .func (.func 64) #[] #[]), (3, pt z), (14, pt pw), (17, .int .u8 ((l.xs.length : Nat) : Int))] rfl ⟨bf (by omega), rfl, congrArg (Value.int .u8) (wr_u8 rfl (by omega) (by omega)), trivial⟩ ?_
   refine l_call [] [] 57 #[pt pw, .int .u8 ((l.xs.length : Nat) : Int)] (some 18) trivial ?_
   intro w3 hw3
   refine (u8_sat hw3 (i := 1) rfl ((l.xs.length : Nat) : Int) (by omega) (by first | omega | (simp only [List.length_append, leB_len, List.length_cons, List.length_nil]; omega))).mono ?_
   rintro e w5 ⟨F4, rfl, hmw5, hSw5⟩; have hnw5 : z + 1 ≤ w5.heap.size := hmw5
   refine ⟨_, _, rfl, hSw5, ?_⟩
   refine q_rS 7 0 [] [[], [o0, o0, o0]] [] [(2, .func (.func 64) #[] #[]), (3, pt z), (qavt_2 l), (qavt_1 l), (21, i6 0)] rfl trivial ?_
   refine g_loop (fun m a w' => ∃ (n7 : Nat) (i : Nat) (FL : Nat → Prop), m = l.xs.length - i ∧ w5.heap.size ≤ n7 ∧ (i ≤ l.xs.length) ∧ (∀ q, q < i → okP (gd l.xs q) = true) ∧ St 30 [(2, .func (.func 64) #[] #[]), (3, pt z), (qavt_2 l), (qavt_1 l), (21, i6 (i : Int))] [] ⟨w, n7, [(old F w), (wrC pw FL ((bs ++ [((l.xs.length : Nat) : Int)]) ++ (l.xs.take i).flatMap encP)), (qavt_0 z pw)]⟩ a w') (l.xs.length - 0) ?_ ?_
   · intro a w' hs; exact ⟨w5.heap.size, 0, F4, rfl, Nat.le_refl _, Nat.zero_le _, fun q hq => absurd hq (Nat.not_lt_zero q), by (try dsimp only [qavt_0, qavt_1, qavt_2] at hs ⊢); rw [List.take_zero, List.flatMap_nil, List.append_nil]; exact hs⟩
   · rintro m a w' ⟨n7, i, FL, rfl, hn6, hki, hok, hs⟩
     refine (?_ : G Try.prog 30 [(2, .func (.func 64) #[] #[]), (3, pt z), (qavt_2 l), (qavt_1 l), (21, i6 (i : Int))] [] ⟨w, n7, [(old F w), (wrC pw FL ((bs ++ [((l.xs.length : Nat) : Int)]) ++ (l.xs.take i).flatMap encP)), (qavt_0 z pw)]⟩ _ _ _) a w' hs
     clear hs a w'
     have hfl := flat_le (enc := encP) (K := 5) (xs := l.xs) i (by omega) (fun q hq => by rw [encP_len]; exact Nat.le_refl _)
     refine g_seq ?_
     by_cases h8 : ((i : Int) : Int) < ((l.xs.length : Nat) : Int)
     · refine q_cS 10 0 [1] [[oT]] [BT (((i : Int) : Int) < ((l.xs.length : Nat) : Int))] [(2, .func (.func 64) #[] #[]), (3, pt z), (qavt_2 l), (qavt_1 l), (21, i6 (i : Int)), (22, .bool true)] rfl ⟨bt (by omega), trivial⟩ ?_
       obtain ⟨b9, o10, ha11, hF13, hc12⟩ := (hd).1.all (show 0 < l.xs.length by omega)
       replace ha11 : l.a = some ⟨b9, o10, none⟩ := ha11
       refine g_eq [(2, .func (.func 64) #[] #[]), (3, pt z), (19, .slice (some ⟨b9, o10, none⟩) l.xs.length l.cap), (qavt_1 l), (21, i6 (i : Int)), (22, .bool true)] (by (try dsimp only [qavt_0, qavt_1, qavt_2]); simp only [ha11]) ?_
       have hc14 := hc12 i (show i < l.xs.length by omega)
       have he15 := (hd).2 i (show i < l.xs.length by omega)
       obtain ⟨y16, hy16⟩ : ∃ y_, y_ = gd l.xs i := ⟨_, rfl⟩
       rw [← hy16] at he15 hc14
       refine q_c 4 3 [] [[(oi i), (oa [.via 0 (i6 y16.Channel), .via 0 (.bool y16.Source)]), o0, (an 2 3)], [o0, (a1 2), (an 2 3)]] [((i : Int) : Int) = ((i : Nat) : Int), i < l.xs.length, (none : Option Nat) = none, ∀ w', Ch.holds (old F w) w' → w'.cell? ⟨b9, o10 + i * 2, none⟩ = some (i6 y16.Channel), ∀ w', Ch.holds (old F w) w' → w'.cell? ⟨b9, o10 + i * 2 + 1, none⟩ = some (.bool y16.Source), Qb n7, Qb n7, Qb z, Qb n7, Qb n7] [(2, .func (.func 64) #[] #[]), (3, pt z), (19, .slice (some ⟨b9, o10, none⟩) l.xs.length l.cap), (qavt_1 l), (21, i6 (i : Int)), (25, .func (.func 64) #[] #[]), (26, .agg #[pt pw]), (27, .agg (TPort.arr y16))] ⟨w, n7 + 1, [(old F w), (wrC pw FL ((bs ++ [((l.xs.length : Nat) : Int)]) ++ (l.xs.take i).flatMap encP)), (qavt_0 z pw), (bk n7 (TPort.arr y16) 101)]⟩ rfl ⟨rfl, (by omega), rfl, oldD_cell hF13 (hc14 0 _ rfl), oldD_cell hF13 (hc14 1 _ rfl), rfl, rfl, rfl, rfl, rfl, trivial⟩ ?_
       refine l_callX [] [] 64 #[.agg #[pt pw], .agg (TPort.arr y16)] (some 28) trivial ?_
       intro w17 hw17
       refine (port_satP hw17 (i := 1) [0, 2, 3] rfl rfl rfl rfl y16 (by first | omega | (simp only [List.length_append, leB_len, List.length_cons, List.length_nil]; omega))).mono ?_
       rintro e w19 (⟨F18, ho20, rfl, hmw19, hSw19⟩ | ⟨ho20, rfl, hmw19, hSw19⟩)
       · have hnw19 : n7 + 1 ≤ w19.heap.size := hmw19
         refine .inl ⟨_, _, rfl, hSw19, ?_⟩
         refine q_rS 5 0 [] [[], [(ov (i6 ((i + 1 : Nat) : Int))), o0]] [Wr (((i : Int) : Int) + 1) (((i + 1 : Nat) : Int))] [(2, .func (.func 64) #[] #[]), (3, pt z), (19, .slice (some ⟨b9, o10, none⟩) l.xs.length l.cap), (qavt_1 l), (21, i6 ((i + 1 : Nat) : Int))] rfl ⟨wrI, trivial⟩ ?_
         refine e_pick [0, 1, 2] [(old F w), (wrC pw F18 (((bs ++ [((l.xs.length : Nat) : Int)]) ++ (l.xs.take i).flatMap encP) ++ encP y16)), (qavt_0 z pw)] rfl rfl ?_
         refine e_eqk [2, 3, 19, 20, 21] [(2, .func (.func 64) #[] #[]), (3, pt z), (qavt_2 l), (qavt_1 l), (21, i6 ((i + 1 : Nat) : Int))] (by (try dsimp only [qavt_0, qavt_1, qavt_2]); simp only [ha11]; rfl) ?_
         refine e_inv (fun a w' hs => ⟨l.xs.length - (i + 1), by omega, w19.heap.size, (i + 1), F18, rfl, by omega, by omega, all_push hok (by rw [← hy16]; exact ho20), by (try dsimp only [qavt_0, qavt_1, qavt_2] at hs ⊢); rw [take_flat (by omega), ← hy16, ← List.append_assoc]; exact hs⟩)
       · have hnw19 : n7 + 1 ≤ w19.heap.size := hmw19
         refine .inr ⟨_, _, rfl, hSw19, ?_⟩
         refine e_panicR ?_
         intro w21 hw21
         refine .inr ⟨(lst_no2 (i := i) (by omega) (by rw [← hy16]; exact ho20)), rfl, back0 hw21⟩
     · refine q_cS 9 0 [0] [[oF]] [BF (((i : Int) : Int) < ((l.xs.length : Nat) : Int))] [(2, .func (.func 64) #[] #[]), (3, pt z), (qavt_2 l), (qavt_1 l), (21, i6 (i : Int)), (22, .bool false)] rfl ⟨bf (by omega), trivial⟩ ?_
       -- the function's end
       refine e_end [] [] (.tuple #[]) trivial ?_
       intro w22 hw22
       have hD := wr_end hw22 rfl (show w.heap.size ≤ n7 by omega) rfl (j := 1) rfl (by decide) hw
       rw [show i = l.xs.length from by omega, List.take_length, List.append_assoc] at hD
       exact .inl ⟨(lst_yes (by omega) (fun q hq => hok q (by omega))), rfl, hD⟩
theorem putP_satP {A : AW} {w : World} {i pw : Nat} {F : Nat → Prop} {bs : List Int} {kept : List Ch} (h : Sat A w) (is : List Nat) (hi : A.σ[i]? = some (wrC pw F bs)) (hnd : nodupB is = true) (hp : picks is A.σ = some kept) (hni : is.contains i = false) (l : Sl TPort) (hd : SlOk TPort.cells 2 TPort.ok (Dt w F) w l) (hl : bs.length + 1281 ≤ 2147483647) : Calls Try.prog 63 #[.agg #[.pointer (some ⟨pw, 0, none⟩)], .slice l.a l.xs.length l.cap, .func (.func 64) #[] #[]] w fun e w' => (∃ F', okLst okP l.xs = true ∧ e = .returned (.tuple #[]) ∧ A.n ≤ w'.heap.size ∧ Sat { A with n := w'.heap.size, σ := A.σ.set i (wrC pw F' (bs ++ encLst encP l.xs)) } w') ∨ (okLst okP l.xs = false ∧ e = .panicked wideP ∧ A.n ≤ w'.heap.size ∧ Sat { A with n := w'.heap.size, σ := kept } w') :=
  (putP_calls w pw F bs (h.at hi) l hd hl).mono (fun e w' hP => wrP_sat h hi is hnd hp hni hP)
abbrev q8zu_0 (z : Nat) (pw : Nat) : Ch := bk z #[pt pw] 56
abbrev q8zu_1 (l : Sl TChannel) : Nat × Value := (20, i6 ((l.xs.length : Nat) : Int))
abbrev q8zu_2 (l : Sl TChannel) : Nat × Value := (19, .slice l.a l.xs.length l.cap)
theorem putC_calls (w : World) (pw : Nat) (F : Nat → Prop) (bs : List Int) (hw : WrIs w pw F bs) (l : Sl TChannel) (hd : SlOk TChannel.cells 3 TChannel.ok (Dt w F) w l) (hl : bs.length + 3073 ≤ 2147483647) : Calls Try.prog 31 #[.agg #[.pointer (some ⟨pw, 0, none⟩)], .slice l.a l.xs.length l.cap, .func (.func 32) #[] #[]] w fun e w' => WrPostP w pw F bs (okLst okC l.xs) (encLst encC l.xs) e w' := by
 obtain ⟨z, hz⟩ : ∃ z, z = w.heap.size := ⟨_, rfl⟩
 refine calls_G (args := [.agg #[pt pw], .slice l.a l.xs.length l.cap, .func (.func 32) #[] #[]]) 30 ⟨w, z, [(old F w), (wrC pw F bs)]⟩ Try.func31 rfl (by kernel_rfl) (by kernel_rfl) (hz ▸ sat_wrC hw) ?_
 have hdl := hd.1.len
 refine g_keep [0, 1, 2] [(0, .agg #[pt pw]), (1, .slice l.a l.xs.length l.cap), (2, .func (.func 32) #[] #[])] ?_
 refine q_c 6 0 [] [[o0]] [] [(1, .slice l.a l.xs.length l.cap), (2, .func (.func 32) #[] #[]), (3, pt z)] ⟨w, z + 1, [(old F w), (wrC pw F bs), (q8zu_0 z pw)]⟩ rfl trivial ?_
 by_cases h1 : (255 : Int) < ((l.xs.length : Nat) : Int)
 · refine q_cS 5 2 [1] [[o0, o0, oT], [o0, o0]] [BT ((((l.xs.length : Nat) : Int) : Int) > 255)] [(1, .slice l.a l.xs.length l.cap), (2, .func (.func 32) #[] #[]), (3, pt z), (12, .iface 52 (.agg #[]))] rfl ⟨bt (by omega), trivial⟩ ?_
   refine l_panic (.iface 52 (.agg #[])) ?_
   refine e_panicR ?_
   intro w2 hw2
   refine .inr ⟨(lst_no1 (by omega)), rfl, back0 hw2⟩
 · refine q_cS 8 5 [0] [[o0, o0, oF], [o0, (a1 2), o0, o0, (ov (.int .u8 ((l.xs.length : Nat) : Int)))]] [BF ((((l.xs.length : Nat) : Int) : Int) > 255), Qb z, Value.int .u8 (IntKind.u8.wrap (((l.xs.length : Nat) : Int))) = Value.int .u8 (((l.xs.length : Nat) : Int))] [(1, .slice l.a l.xs.length l.cap), (2, .func (.func 32) #[] #[]), (3, pt z), (14, pt pw), (17, .int .u8 ((l.xs.length : Nat) : Int))] rfl ⟨bf (by omega), rfl, congrArg (Value.int .u8) (wr_u8 rfl (by omega) (by omega)), trivial⟩ ?_
   refine l_call [] [] 57 #[pt pw, .int .u8 ((l.xs.length : Nat) : Int)] (some 18) trivial ?_
   intro w3 hw3
   refine (u8_sat hw3 (i := 1) rfl ((l.xs.length : Nat) : Int) (by omega) (by first | omega | (simp only [List.length_append, leB_len, List.length_cons, List.length_nil]; omega))).mono ?_
   rintro e w5 ⟨F4, rfl, hmw5, hSw5⟩; have hnw5 : z + 1 ≤ w5.heap.size := hmw5
   refine ⟨_, _, rfl, hSw5, ?_⟩
   refine q_rS 7 0 [] [[], [o0, o0, o0]] [] [(2, .func (.func 32) #[] #[]), (3, pt z), (q8zu_2 l), (q8zu_1 l), (21, i6 0)] rfl trivial ?_
   refine g_loop (fun m a w' => ∃ (n7 : Nat) (i : Nat) (FL : Nat → Prop), m = l.xs.length - i ∧ w5.heap.size ≤ n7 ∧ (i ≤ l.xs.length) ∧ (∀ q, q < i → okC (gd l.xs q) = true) ∧ St 30 [(2, .func (.func 32) #[] #[]), (3, pt z), (q8zu_2 l), (q8zu_1 l), (21, i6 (i : Int))] [] ⟨w, n7, [(old F w), (wrC pw FL ((bs ++ [((l.xs.length : Nat) : Int)]) ++ (l.xs.take i).flatMap encC)), (q8zu_0 z pw)]⟩ a w') (l.xs.length - 0) ?_ ?_
   · intro a w' hs; exact ⟨w5.heap.size, 0, F4, rfl, Nat.le_refl _, Nat.zero_le _, fun q hq => absurd hq (Nat.not_lt_zero q), by (try dsimp only [q8zu_0, q8zu_1, q8zu_2] at hs ⊢); rw [List.take_zero, List.flatMap_nil, List.append_nil]; exact hs⟩
   · rintro m a w' ⟨n7, i, FL, rfl, hn6, hki, hok, hs⟩
     refine (?_ : G Try.prog 30 [(2, .func (.func 32) #[] #[]), (3, pt z), (q8zu_2 l), (q8zu_1 l), (21, i6 (i : Int))] [] ⟨w, n7, [(old F w), (wrC pw FL ((bs ++ [((l.xs.length : Nat) : Int)]) ++ (l.xs.take i).flatMap encC)), (q8zu_0 z pw)]⟩ _ _ _) a w' hs
     clear hs a w'
     have hfl := flat_le (enc := encC) (K := 12) (xs := l.xs) i (by omega) (fun q hq => by rw [encC_len]; exact Nat.le_refl _)
     refine g_seq ?_
     by_cases h8 : ((i : Int) : Int) < ((l.xs.length : Nat) : Int)
     · refine q_cS 10 0 [1] [[oT]] [BT (((i : Int) : Int) < ((l.xs.length : Nat) : Int))] [(2, .func (.func 32) #[] #[]), (3, pt z), (q8zu_2 l), (q8zu_1 l), (21, i6 (i : Int)), (22, .bool true)] rfl ⟨bt (by omega), trivial⟩ ?_
       obtain ⟨b9, o10, ha11, hF13, hc12⟩ := (hd).1.all (show 0 < l.xs.length by omega)
       replace ha11 : l.a = some ⟨b9, o10, none⟩ := ha11
       refine g_eq [(2, .func (.func 32) #[] #[]), (3, pt z), (19, .slice (some ⟨b9, o10, none⟩) l.xs.length l.cap), (q8zu_1 l), (21, i6 (i : Int)), (22, .bool true)] (by (try dsimp only [q8zu_0, q8zu_1, q8zu_2]); simp only [ha11]) ?_
       have hc14 := hc12 i (show i < l.xs.length by omega)
       have he15 := (hd).2 i (show i < l.xs.length by omega)
       obtain ⟨y16, hy16⟩ : ∃ y_, y_ = gd l.xs i := ⟨_, rfl⟩
       rw [← hy16] at he15 hc14
       refine q_c 4 3 [] [[(oi i), (oa [.via 0 (i6 y16.Kind), .via 0 (i6 y16.Words), .via 0 (i6 y16.Depth)]), o0, (an 3 3)], [o0, (a1 2), (an 3 3)]] [((i : Int) : Int) = ((i : Nat) : Int), i < l.xs.length, (none : Option Nat) = none, ∀ w', Ch.holds (old F w) w' → w'.cell? ⟨b9, o10 + i * 3, none⟩ = some (i6 y16.Kind), ∀ w', Ch.holds (old F w) w' → w'.cell? ⟨b9, o10 + i * 3 + 1, none⟩ = some (i6 y16.Words), ∀ w', Ch.holds (old F w) w' → w'.cell? ⟨b9, o10 + i * 3 + 2, none⟩ = some (i6 y16.Depth), Qb n7, Qb n7, Qb n7, Qb z, Qb n7, Qb n7, Qb n7] [(2, .func (.func 32) #[] #[]), (3, pt z), (19, .slice (some ⟨b9, o10, none⟩) l.xs.length l.cap), (q8zu_1 l), (21, i6 (i : Int)), (25, .func (.func 32) #[] #[]), (26, .agg #[pt pw]), (27, .agg (TChannel.arr y16))] ⟨w, n7 + 1, [(old F w), (wrC pw FL ((bs ++ [((l.xs.length : Nat) : Int)]) ++ (l.xs.take i).flatMap encC)), (q8zu_0 z pw), (bk n7 (TChannel.arr y16) 74)]⟩ rfl ⟨rfl, (by omega), rfl, oldD_cell hF13 (hc14 0 _ rfl), oldD_cell hF13 (hc14 1 _ rfl), oldD_cell hF13 (hc14 2 _ rfl), rfl, rfl, rfl, rfl, rfl, rfl, rfl, trivial⟩ ?_
       refine l_callX [] [] 32 #[.agg #[pt pw], .agg (TChannel.arr y16)] (some 28) trivial ?_
       intro w17 hw17
       refine (channel_satP hw17 (i := 1) [0, 2, 3] rfl rfl rfl rfl y16 (by first | omega | (simp only [List.length_append, leB_len, List.length_cons, List.length_nil]; omega))).mono ?_
       rintro e w19 (⟨F18, ho20, rfl, hmw19, hSw19⟩ | ⟨ho20, rfl, hmw19, hSw19⟩)
       · have hnw19 : n7 + 1 ≤ w19.heap.size := hmw19
         refine .inl ⟨_, _, rfl, hSw19, ?_⟩
         refine q_rS 5 0 [] [[], [(ov (i6 ((i + 1 : Nat) : Int))), o0]] [Wr (((i : Int) : Int) + 1) (((i + 1 : Nat) : Int))] [(2, .func (.func 32) #[] #[]), (3, pt z), (19, .slice (some ⟨b9, o10, none⟩) l.xs.length l.cap), (q8zu_1 l), (21, i6 ((i + 1 : Nat) : Int))] rfl ⟨wrI, trivial⟩ ?_
         refine e_pick [0, 1, 2] [(old F w), (wrC pw F18 (((bs ++ [((l.xs.length : Nat) : Int)]) ++ (l.xs.take i).flatMap encC) ++ encC y16)), (q8zu_0 z pw)] rfl rfl ?_
         refine e_eqk [2, 3, 19, 20, 21] [(2, .func (.func 32) #[] #[]), (3, pt z), (q8zu_2 l), (q8zu_1 l), (21, i6 ((i + 1 : Nat) : Int))] (by (try dsimp only [q8zu_0, q8zu_1, q8zu_2]); simp only [ha11]; rfl) ?_
         refine e_inv (fun a w' hs => ⟨l.xs.length - (i + 1), by omega, w19.heap.size, (i + 1), F18, rfl, by omega, by omega, all_push hok (by rw [← hy16]; exact ho20), by (try dsimp only [q8zu_0, q8zu_1, q8zu_2] at hs ⊢); rw [take_flat (by omega), ← hy16, ← List.append_assoc]; exact hs⟩)
       · have hnw19 : n7 + 1 ≤ w19.heap.size := hmw19
         refine .inr ⟨_, _, rfl, hSw19, ?_⟩
         refine e_panicR ?_
         intro w21 hw21
         refine .inr ⟨(lst_no2 (i := i) (by omega) (by rw [← hy16]; exact ho20)), rfl, back0 hw21⟩
     · refine q_cS 9 0 [0] [[oF]] [BF (((i : Int) : Int) < ((l.xs.length : Nat) : Int))] [(2, .func (.func 32) #[] #[]), (3, pt z), (q8zu_2 l), (q8zu_1 l), (21, i6 (i : Int)), (22, .bool false)] rfl ⟨bf (by omega), trivial⟩ ?_
       -- the function's end
       refine e_end [] [] (.tuple #[]) trivial ?_
       intro w22 hw22
       have hD := wr_end hw22 rfl (show w.heap.size ≤ n7 by omega) rfl (j := 1) rfl (by decide) hw
       rw [show i = l.xs.length from by omega, List.take_length, List.append_assoc] at hD
       exact .inl ⟨(lst_yes (by omega) (fun q hq => hok q (by omega))), rfl, hD⟩
theorem putC_satP {A : AW} {w : World} {i pw : Nat} {F : Nat → Prop} {bs : List Int} {kept : List Ch} (h : Sat A w) (is : List Nat) (hi : A.σ[i]? = some (wrC pw F bs)) (hnd : nodupB is = true) (hp : picks is A.σ = some kept) (hni : is.contains i = false) (l : Sl TChannel) (hd : SlOk TChannel.cells 3 TChannel.ok (Dt w F) w l) (hl : bs.length + 3073 ≤ 2147483647) : Calls Try.prog 31 #[.agg #[.pointer (some ⟨pw, 0, none⟩)], .slice l.a l.xs.length l.cap, .func (.func 32) #[] #[]] w fun e w' => (∃ F', okLst okC l.xs = true ∧ e = .returned (.tuple #[]) ∧ A.n ≤ w'.heap.size ∧ Sat { A with n := w'.heap.size, σ := A.σ.set i (wrC pw F' (bs ++ encLst encC l.xs)) } w') ∨ (okLst okC l.xs = false ∧ e = .panicked wideP ∧ A.n ≤ w'.heap.size ∧ Sat { A with n := w'.heap.size, σ := kept } w') :=
  (putC_calls w pw F bs (h.at hi) l hd hl).mono (fun e w' hP => wrP_sat h hi is hnd hp hni hP)
theorem core_calls (w : World) (pw : Nat) (F : Nat → Prop) (bs : List Int) (hw : WrIs w pw F bs) (l : Sl TWindow) (hd : SlOk TWindow.cells 3 TWindow.ok (Dt w F) w l) (hl : bs.length + 3073 ≤ 2147483647) : Calls Try.prog 28 #[.agg #[.pointer (some ⟨pw, 0, none⟩)], .slice l.a l.xs.length l.cap] w fun e w' => WrPostP w pw F bs (okWs l) (encWs l) e w' := by
 obtain ⟨z, hz⟩ : ∃ z, z = w.heap.size := ⟨_, rfl⟩
 refine calls_G (args := [.agg #[pt pw], .slice l.a l.xs.length l.cap]) 7 ⟨w, z, [(old F w), (wrC pw F bs)]⟩ Try.func28 rfl (by kernel_rfl) (by kernel_rfl) (hz ▸ sat_wrC hw) ?_
 refine g_keep [0, 1] [(0, .agg #[pt pw]), (1, .slice l.a l.xs.length l.cap)] ?_
 refine q_c 5 2 [] [[o0], [(a1 2), o0]] [Qb z] [(4, .agg #[pt pw]), (5, .slice l.a l.xs.length l.cap)] ⟨w, z + 1, [(old F w), (wrC pw F bs), (bk z #[pt pw] 56)]⟩ rfl ⟨rfl, trivial⟩ ?_
 refine l_callX [] [] 58 #[.agg #[pt pw], .slice l.a l.xs.length l.cap, .func (.func 59) #[] #[]] (some 6) trivial ?_
 intro w1 hw1
 have hew1 := dt_he hw1 (F := F) rfl; have hFw1 := dt_hF hw1 (F := F) rfl (show w.heap.size ≤ z + 1 by omega) (j := 1) rfl rfl (by decide)
 refine (putW_satP hw1 (i := 1) [0, 2] rfl rfl rfl rfl l (slOk_ext hew1 hFw1 hd (fun _ h => TWindow.ok.ext hew1 hFw1 h)) (by first | omega | (simp only [List.length_append, leB_len, List.length_cons, List.length_nil]; omega))).mono ?_
 rintro e w3 (⟨F2, ho4, rfl, hmw3, hSw3⟩ | ⟨ho4, rfl, hmw3, hSw3⟩)
 · have hnw3 : z + 1 ≤ w3.heap.size := hmw3
   refine .inl ⟨_, _, rfl, hSw3, ?_⟩
   refine l_keep [] [] ?_
   refine l_nil (by kernel_rfl) ?_
   -- the function's end
   refine e_end [] [] (.tuple #[]) trivial ?_
   intro w5 hw5
   have hD := wr_end hw5 rfl (show w.heap.size ≤ w3.heap.size by omega) rfl (j := 1) rfl (by decide) hw
   exact .inl ⟨ho4, rfl, hD⟩
 · have hnw3 : z + 1 ≤ w3.heap.size := hmw3
   refine .inr ⟨_, _, rfl, hSw3, ?_⟩
   refine e_panicR ?_
   intro w6 hw6
   refine .inr ⟨ho4, rfl, back0 hw6⟩
theorem core_satP {A : AW} {w : World} {i pw : Nat} {F : Nat → Prop} {bs : List Int} {kept : List Ch} (h : Sat A w) (is : List Nat) (hi : A.σ[i]? = some (wrC pw F bs)) (hnd : nodupB is = true) (hp : picks is A.σ = some kept) (hni : is.contains i = false) (l : Sl TWindow) (hd : SlOk TWindow.cells 3 TWindow.ok (Dt w F) w l) (hl : bs.length + 3073 ≤ 2147483647) : Calls Try.prog 28 #[.agg #[.pointer (some ⟨pw, 0, none⟩)], .slice l.a l.xs.length l.cap] w fun e w' => (∃ F', okWs l = true ∧ e = .returned (.tuple #[]) ∧ A.n ≤ w'.heap.size ∧ Sat { A with n := w'.heap.size, σ := A.σ.set i (wrC pw F' (bs ++ encWs l)) } w') ∨ (okWs l = false ∧ e = .panicked wideP ∧ A.n ≤ w'.heap.size ∧ Sat { A with n := w'.heap.size, σ := kept } w') :=
  (core_calls w pw F bs (h.at hi) l hd hl).mono (fun e w' hP => wrP_sat h hi is hnd hp hni hP)
abbrev qxqb_0 (l : Sl (Sl TWindow)) : Nat × Value := (20, i6 ((l.xs.length : Nat) : Int))
abbrev qxqb_1 (l : Sl (Sl TWindow)) : Nat × Value := (19, .slice l.a l.xs.length l.cap)
theorem putWs_calls (w : World) (pw : Nat) (F : Nat → Prop) (bs : List Int) (hw : WrIs w pw F bs) (l : Sl (Sl TWindow)) (hd : SlOk (fun x : Sl TWindow => [Sl.val x]) 1 (fun F W x => SlOk TWindow.cells 3 TWindow.ok F W x) (Dt w F) w l) (hl : bs.length + 793601 ≤ 2147483647) : Calls Try.prog 27 #[.agg #[.pointer (some ⟨pw, 0, none⟩)], .slice l.a l.xs.length l.cap, .func (.func 28) #[] #[]] w fun e w' => WrPostP w pw F bs (okLst okWs l.xs) (encLst encWs l.xs) e w' := by
 obtain ⟨z, hz⟩ : ∃ z, z = w.heap.size := ⟨_, rfl⟩
 refine calls_G (args := [.agg #[pt pw], .slice l.a l.xs.length l.cap, .func (.func 28) #[] #[]]) 30 ⟨w, z, [(old F w), (wrC pw F bs)]⟩ Try.func27 rfl (by kernel_rfl) (by kernel_rfl) (hz ▸ sat_wrC hw) ?_
 have hdl := hd.1.len
 refine g_keep [0, 1, 2] [(0, .agg #[pt pw]), (1, .slice l.a l.xs.length l.cap), (2, .func (.func 28) #[] #[])] ?_
 refine q_c 6 0 [] [[o0]] [] [(1, .slice l.a l.xs.length l.cap), (2, .func (.func 28) #[] #[]), (3, pt z)] ⟨w, z + 1, [(old F w), (wrC pw F bs), (bk z #[pt pw] 56)]⟩ rfl trivial ?_
 by_cases h1 : (255 : Int) < ((l.xs.length : Nat) : Int)
 · refine q_cS 5 2 [1] [[o0, o0, oT], [o0, o0]] [BT ((((l.xs.length : Nat) : Int) : Int) > 255)] [(1, .slice l.a l.xs.length l.cap), (2, .func (.func 28) #[] #[]), (3, pt z), (12, .iface 52 (.agg #[]))] rfl ⟨bt (by omega), trivial⟩ ?_
   refine l_panic (.iface 52 (.agg #[])) ?_
   refine e_panicR ?_
   intro w2 hw2
   refine .inr ⟨(lst_no1 (by omega)), rfl, back0 hw2⟩
 · refine q_cS 8 5 [0] [[o0, o0, oF], [o0, (a1 2), o0, o0, (ov (.int .u8 ((l.xs.length : Nat) : Int)))]] [BF ((((l.xs.length : Nat) : Int) : Int) > 255), Qb z, Value.int .u8 (IntKind.u8.wrap (((l.xs.length : Nat) : Int))) = Value.int .u8 (((l.xs.length : Nat) : Int))] [(1, .slice l.a l.xs.length l.cap), (2, .func (.func 28) #[] #[]), (3, pt z), (14, pt pw), (17, .int .u8 ((l.xs.length : Nat) : Int))] rfl ⟨bf (by omega), rfl, congrArg (Value.int .u8) (wr_u8 rfl (by omega) (by omega)), trivial⟩ ?_
   refine l_call [] [] 57 #[pt pw, .int .u8 ((l.xs.length : Nat) : Int)] (some 18) trivial ?_
   intro w3 hw3
   refine (u8_sat hw3 (i := 1) rfl ((l.xs.length : Nat) : Int) (by omega) (by first | omega | (simp only [List.length_append, leB_len, List.length_cons, List.length_nil]; omega))).mono ?_
   rintro e w5 ⟨F4, rfl, hmw5, hSw5⟩; have hnw5 : z + 1 ≤ w5.heap.size := hmw5
   refine ⟨_, _, rfl, hSw5, ?_⟩
   refine q_rS 7 0 [] [[], [o0, o0, o0]] [] [(2, .func (.func 28) #[] #[]), (3, pt z), (qxqb_1 l), (qxqb_0 l), (21, i6 0)] rfl trivial ?_
   refine g_loop (fun m a w' => ∃ (n7 : Nat) (i : Nat) (FL : Nat → Prop), m = l.xs.length - i ∧ w5.heap.size ≤ n7 ∧ (i ≤ l.xs.length) ∧ (∀ q, q < i → okWs (gd l.xs q) = true) ∧ St 30 [(2, .func (.func 28) #[] #[]), (3, pt z), (qxqb_1 l), (qxqb_0 l), (21, i6 (i : Int))] [] ⟨w, n7, [(old F w), (wrC pw FL ((bs ++ [((l.xs.length : Nat) : Int)]) ++ (l.xs.take i).flatMap encWs)), (bk z #[pt pw] 56)]⟩ a w') (l.xs.length - 0) ?_ ?_
   · intro a w' hs; exact ⟨w5.heap.size, 0, F4, rfl, Nat.le_refl _, Nat.zero_le _, fun q hq => absurd hq (Nat.not_lt_zero q), by (try dsimp only [qxqb_0, qxqb_1] at hs ⊢); rw [List.take_zero, List.flatMap_nil, List.append_nil]; exact hs⟩
   · rintro m a w' ⟨n7, i, FL, rfl, hn6, hki, hok, hs⟩
     refine (?_ : G Try.prog 30 [(2, .func (.func 28) #[] #[]), (3, pt z), (qxqb_1 l), (qxqb_0 l), (21, i6 (i : Int))] [] ⟨w, n7, [(old F w), (wrC pw FL ((bs ++ [((l.xs.length : Nat) : Int)]) ++ (l.xs.take i).flatMap encWs)), (bk z #[pt pw] 56)]⟩ _ _ _) a w' hs
     clear hs a w'
     have hfl := flat_le (enc := encWs) (K := 3100) (xs := l.xs) i (by omega) (fun q hq => Nat.le_trans (encWs_le (hok q hq)) (by decide))
     refine g_seq ?_
     by_cases h8 : ((i : Int) : Int) < ((l.xs.length : Nat) : Int)
     · refine q_cS 10 0 [1] [[oT]] [BT (((i : Int) : Int) < ((l.xs.length : Nat) : Int))] [(2, .func (.func 28) #[] #[]), (3, pt z), (qxqb_1 l), (qxqb_0 l), (21, i6 (i : Int)), (22, .bool true)] rfl ⟨bt (by omega), trivial⟩ ?_
       obtain ⟨b9, o10, ha11, hF13, hc12⟩ := (hd).1.all (show 0 < l.xs.length by omega)
       replace ha11 : l.a = some ⟨b9, o10, none⟩ := ha11
       refine g_eq [(2, .func (.func 28) #[] #[]), (3, pt z), (19, .slice (some ⟨b9, o10, none⟩) l.xs.length l.cap), (qxqb_0 l), (21, i6 (i : Int)), (22, .bool true)] (by (try dsimp only [qxqb_0, qxqb_1]); simp only [ha11]) ?_
       have hc14 := hc12 i (show i < l.xs.length by omega)
       have he15 := (hd).2 i (show i < l.xs.length by omega)
       obtain ⟨y16, hy16⟩ : ∃ y_, y_ = gd l.xs i := ⟨_, rfl⟩
       rw [← hy16] at he15 hc14
       refine q_cS 4 3 [] [[(oi i), (oa [.via 0 (.slice y16.a y16.xs.length y16.cap)]), o0], [o0, (a1 2), o0]] [((i : Int) : Int) = ((i : Nat) : Int), i < l.xs.length, (none : Option Nat) = none, ∀ w', Ch.holds (old F w) w' → w'.cell? ⟨b9, o10 + i, none⟩ = some (.slice y16.a y16.xs.length y16.cap), Qb z] [(2, .func (.func 28) #[] #[]), (3, pt z), (19, .slice (some ⟨b9, o10, none⟩) l.xs.length l.cap), (qxqb_0 l), (21, i6 (i : Int)), (25, .func (.func 28) #[] #[]), (26, .agg #[pt pw]), (27, .slice y16.a y16.xs.length y16.cap)] rfl ⟨rfl, (by omega), rfl, oldD_cell hF13 (hc14 0 _ rfl), rfl, trivial⟩ ?_
       refine l_callX [] [] 28 #[.agg #[pt pw], .slice y16.a y16.xs.length y16.cap] (some 28) trivial ?_
       intro w17 hw17
       have hew17 := dt_he hw17 (F := F) rfl; have hFw17 := dt_hF hw17 (F := F) rfl (show w.heap.size ≤ n7 by omega) (j := 1) rfl rfl (by decide)
       refine (core_satP hw17 (i := 1) [0, 2] rfl rfl rfl rfl y16 (slOk_ext hew17 hFw17 he15 (fun _ h => TWindow.ok.ext hew17 hFw17 h)) (by first | omega | (simp only [List.length_append, leB_len, List.length_cons, List.length_nil]; omega))).mono ?_
       rintro e w19 (⟨F18, ho20, rfl, hmw19, hSw19⟩ | ⟨ho20, rfl, hmw19, hSw19⟩)
       · have hnw19 : n7 ≤ w19.heap.size := hmw19
         refine .inl ⟨_, _, rfl, hSw19, ?_⟩
         refine q_rS 5 0 [] [[], [(ov (i6 ((i + 1 : Nat) : Int))), o0]] [Wr (((i : Int) : Int) + 1) (((i + 1 : Nat) : Int))] [(2, .func (.func 28) #[] #[]), (3, pt z), (19, .slice (some ⟨b9, o10, none⟩) l.xs.length l.cap), (qxqb_0 l), (21, i6 ((i + 1 : Nat) : Int))] rfl ⟨wrI, trivial⟩ ?_
         refine e_eqk [2, 3, 19, 20, 21] [(2, .func (.func 28) #[] #[]), (3, pt z), (qxqb_1 l), (qxqb_0 l), (21, i6 ((i + 1 : Nat) : Int))] (by (try dsimp only [qxqb_0, qxqb_1]); simp only [ha11]; rfl) ?_
         refine e_inv (fun a w' hs => ⟨l.xs.length - (i + 1), by omega, w19.heap.size, (i + 1), F18, rfl, by omega, by omega, all_push hok (by rw [← hy16]; exact ho20), by (try dsimp only [qxqb_0, qxqb_1] at hs ⊢); rw [take_flat (by omega), ← hy16, ← List.append_assoc]; exact hs⟩)
       · have hnw19 : n7 ≤ w19.heap.size := hmw19
         refine .inr ⟨_, _, rfl, hSw19, ?_⟩
         refine e_panicR ?_
         intro w21 hw21
         refine .inr ⟨(lst_no2 (i := i) (by omega) (by rw [← hy16]; exact ho20)), rfl, back0 hw21⟩
     · refine q_cS 9 0 [0] [[oF]] [BF (((i : Int) : Int) < ((l.xs.length : Nat) : Int))] [(2, .func (.func 28) #[] #[]), (3, pt z), (qxqb_1 l), (qxqb_0 l), (21, i6 (i : Int)), (22, .bool false)] rfl ⟨bf (by omega), trivial⟩ ?_
       -- the function's end
       refine e_end [] [] (.tuple #[]) trivial ?_
       intro w22 hw22
       have hD := wr_end hw22 rfl (show w.heap.size ≤ n7 by omega) rfl (j := 1) rfl (by decide) hw
       rw [show i = l.xs.length from by omega, List.take_length, List.append_assoc] at hD
       exact .inl ⟨(lst_yes (by omega) (fun q hq => hok q (by omega))), rfl, hD⟩
theorem putWs_satP {A : AW} {w : World} {i pw : Nat} {F : Nat → Prop} {bs : List Int} {kept : List Ch} (h : Sat A w) (is : List Nat) (hi : A.σ[i]? = some (wrC pw F bs)) (hnd : nodupB is = true) (hp : picks is A.σ = some kept) (hni : is.contains i = false) (l : Sl (Sl TWindow)) (hd : SlOk (fun x : Sl TWindow => [Sl.val x]) 1 (fun F W x => SlOk TWindow.cells 3 TWindow.ok F W x) (Dt w F) w l) (hl : bs.length + 793601 ≤ 2147483647) : Calls Try.prog 27 #[.agg #[.pointer (some ⟨pw, 0, none⟩)], .slice l.a l.xs.length l.cap, .func (.func 28) #[] #[]] w fun e w' => (∃ F', okLst okWs l.xs = true ∧ e = .returned (.tuple #[]) ∧ A.n ≤ w'.heap.size ∧ Sat { A with n := w'.heap.size, σ := A.σ.set i (wrC pw F' (bs ++ encLst encWs l.xs)) } w') ∨ (okLst okWs l.xs = false ∧ e = .panicked wideP ∧ A.n ≤ w'.heap.size ∧ Sat { A with n := w'.heap.size, σ := kept } w') :=
  (putWs_calls w pw F bs (h.at hi) l hd hl).mono (fun e w' hP => wrP_sat h hi is hnd hp hni hP)
abbrev q90v_0 (x : TPartition) : Nat × Value := (20, .agg #[i6 x.Entry, i6 x.Action, i6 x.Restarts, i6 x.Inputs, i6 x.Outputs])
abbrev q90v_1 (z : Nat) : Nat × Value := (3, pt (z + 1))
theorem partition_calls (w : World) (pw : Nat) (F : Nat → Prop) (bs : List Int) (hw : WrIs w pw F bs) (x : TPartition) (hx : TPartition.ok (Dt w F) w x) (hl : bs.length + 7000 ≤ 2147483647) : Calls Try.prog 30 #[.agg #[.pointer (some ⟨pw, 0, none⟩)], .agg (TPartition.arr x)] w fun e w' => WrPostP w pw F bs (okPt x) (encPt x) e w' := by
 obtain ⟨z, hz⟩ : ∃ z, z = w.heap.size := ⟨_, rfl⟩
 refine calls_G (args := [.agg #[pt pw], .agg (TPartition.arr x)]) 36 ⟨w, z, [(old F w), (wrC pw F bs)]⟩ Try.func30 rfl (by kernel_rfl) (by kernel_rfl) (hz ▸ sat_wrC hw) ?_
 refine g_keep [0, 1] [(0, .agg #[pt pw]), (1, .agg (TPartition.arr x))] ?_
 refine q_c 6 3 [] [[o0, o0], [(a1 2), o0, (a1 3)]] [Qb z, Qb (z + 1)] [(2, pt z), (q90v_1 z), (6, .agg #[pt pw]), (8, .string x.Name)] ⟨w, z + 2, [(old F w), (wrC pw F bs), (bk z #[pt pw] 56), (bk (z + 1) (TPartition.arr x) 69)]⟩ rfl ⟨rfl, rfl, trivial⟩ ?_
 refine l_callX [] [] 60 #[.agg #[pt pw], .string x.Name] (some 9) trivial ?_
 intro w1 hw1
 refine (name_satP hw1 (i := 1) [0, 2, 3] rfl rfl rfl rfl x.Name (by first | omega | (simp only [List.length_append, leB_len, List.length_cons, List.length_nil]; omega))).mono ?_
 rintro e w3 (⟨F2, ho4, rfl, hmw3, hSw3⟩ | ⟨ho4, rfl, hmw3, hSw3⟩)
 · have hnw3 : z + 2 ≤ w3.heap.size := hmw3
   have hnm := of_decide_eq_true ho4; have hnl := encName_len x.Name
   refine .inl ⟨_, _, rfl, hSw3, ?_⟩
   refine q_rS 8 0 [] [[], [o0, (a1 3), o0, (a1 3), o0, (a1 3), o0, (a1 3), o0, (a1 3), o0, o0]] [Qb (z + 1), Qb (z + 1), Qb (z + 1), Qb (z + 1), Qb (z + 1)] [(2, pt z), (q90v_1 z), (q90v_0 x), (21, i6 0)] rfl ⟨rfl, rfl, rfl, rfl, rfl, trivial⟩ ?_
   refine g_loop (fun m a w' => ∃ (n6 : Nat) (i : Nat) (FL : Nat → Prop), m = 5 - i ∧ w3.heap.size ≤ n6 ∧ (i ≤ 5) ∧ (∀ q, q < i → okNum (gd (ns5 x) q) = true) ∧ St 36 [(2, pt z), (q90v_1 z), (q90v_0 x), (21, i6 (i : Int))] [] ⟨w, n6, [(old F w), (wrC pw FL ((bs ++ encName x.Name) ++ ((ns5 x).take i).flatMap (fun n => leB n 4))), (bk z #[pt pw] 56), (bk (z + 1) (TPartition.arr x) 69)]⟩ a w') (5 - 0) ?_ ?_
   · intro a w' hs; exact ⟨w3.heap.size, 0, F2, rfl, Nat.le_refl _, Nat.zero_le _, fun q hq => absurd hq (Nat.not_lt_zero q), by (try dsimp only [q90v_0, q90v_1] at hs ⊢); rw [List.take_zero, List.flatMap_nil, List.append_nil]; exact hs⟩
   · rintro m a w' ⟨n6, i, FL, rfl, hn5, hki, hok5, hs⟩
     refine (?_ : G Try.prog 36 [(2, pt z), (q90v_1 z), (q90v_0 x), (21, i6 (i : Int))] [] ⟨w, n6, [(old F w), (wrC pw FL ((bs ++ encName x.Name) ++ ((ns5 x).take i).flatMap (fun n => leB n 4))), (bk z #[pt pw] 56), (bk (z + 1) (TPartition.arr x) 69)]⟩ _ _ _) a w' hs
     clear hs a w'
     have hfl := flat_le (enc := fun n => leB n 4) (K := 4) (xs := ns5 x) i (by show i ≤ 5; omega) (fun q hq => by rw [leB_len]; exact Nat.le_refl _)
     refine g_seq ?_
     by_cases h7 : ((i : Int) : Int) < 5
     · refine q_cS 14 2 [1] [[oT], [⟨.aidx i (i6 (gd (ns5 x) i)), none⟩, o0], [(a1 2), o0]] [BT (((i : Int) : Int) < 5), ((i : Int) : Int) = ((i : Nat) : Int), i < 5, (#[i6 x.Entry, i6 x.Action, i6 x.Restarts, i6 x.Inputs, i6 x.Outputs] : Array Value)[offs 1 i]? = some (i6 (gd (ns5 x) i)), Qb z] [(2, pt z), (q90v_1 z), (q90v_0 x), (21, i6 (i : Int)), (24, .agg #[pt pw]), (25, i6 (gd (ns5 x) i))] rfl ⟨bt (by omega), rfl, (by omega), (gd5 (by omega)), rfl, trivial⟩ ?_
       refine l_callX [] [] 26 #[.agg #[pt pw], i6 (gd (ns5 x) i)] (some 26) trivial ?_
       intro w8 hw8
       refine (number_satP hw8 (i := 1) [0, 2, 3] rfl rfl rfl rfl (gd (ns5 x) i) (by first | omega | (simp only [List.length_append, leB_len, List.length_cons, List.length_nil]; omega))).mono ?_
       rintro e w10 (⟨F9, ho11, rfl, hmw10, hSw10⟩ | ⟨ho11, rfl, hmw10, hSw10⟩)
       · have hnw10 : n6 ≤ w10.heap.size := hmw10
         refine .inl ⟨_, _, rfl, hSw10, ?_⟩
         refine q_rS 5 0 [] [[], [(ov (i6 ((i + 1 : Nat) : Int))), o0]] [Wr (((i : Int) : Int) + 1) (((i + 1 : Nat) : Int))] [(2, pt z), (q90v_1 z), (q90v_0 x), (21, i6 ((i + 1 : Nat) : Int))] rfl ⟨wrI, trivial⟩ ?_
         refine e_inv (fun a w' hs => ⟨5 - (i + 1), by omega, w10.heap.size, (i + 1), F9, rfl, by omega, by omega, all_push hok5 ho11, by (try dsimp only [q90v_0, q90v_1] at hs ⊢); rw [take_flat (by show i < 5; omega), ← List.append_assoc]; exact hs⟩)
       · have hnw10 : n6 ≤ w10.heap.size := hmw10
         refine .inr ⟨_, _, rfl, hSw10, ?_⟩
         refine e_panicR ?_
         intro w12 hw12
         refine .inr ⟨(by unfold okPt; rw [all_no (xs := ns5 x) (i := i) (by show i < 5; omega) ho11]; simp), rfl, back0 hw12⟩
     · refine q_cS 12 3 [0] [[oF], [(a1 2), o0, (a1 3)]] [BF (((i : Int) : Int) < 5), Qb z, Qb (z + 1)] [(2, pt z), (q90v_1 z), (28, .agg #[pt pw]), (30, .slice x.Regions.a x.Regions.xs.length x.Regions.cap)] rfl ⟨bf (by omega), rfl, rfl, trivial⟩ ?_
       refine l_callX [] [] 61 #[.agg #[pt pw], .slice x.Regions.a x.Regions.xs.length x.Regions.cap, .func (.func 62) #[] #[]] (some 31) trivial ?_
       intro w13 hw13
       have hew13 := dt_he hw13 (F := F) rfl; have hFw13 := dt_hF hw13 (F := F) rfl (show w.heap.size ≤ n6 by omega) (j := 1) rfl rfl (by decide)
       refine (putR_satP hw13 (i := 1) [0, 2, 3] rfl rfl rfl rfl x.Regions (slOk_ext hew13 hFw13 hx.Regions (fun _ h => TRegion.ok.ext hew13 hFw13 h)) (by first | omega | (simp only [List.length_append, leB_len, List.length_cons, List.length_nil]; omega))).mono ?_
       rintro e w15 (⟨F14, ho16, rfl, hmw15, hSw15⟩ | ⟨ho16, rfl, hmw15, hSw15⟩)
       · have hnw15 : n6 ≤ w15.heap.size := hmw15
         have hrn := okLst_len ho16; have hrl := encLst_le (enc := encR) (K := 16) (xs := x.Regions.xs) (fun q _ => by rw [encR_len]; exact Nat.le_refl _)
         refine .inl ⟨_, _, rfl, hSw15, ?_⟩
         refine q_rS 3 3 [] [[], [(a1 2), o0, (a1 3)]] [Qb z, Qb (z + 1)] [(32, .agg #[pt pw]), (34, .slice x.Ports.a x.Ports.xs.length x.Ports.cap)] rfl ⟨rfl, rfl, trivial⟩ ?_
         refine l_callX [] [] 63 #[.agg #[pt pw], .slice x.Ports.a x.Ports.xs.length x.Ports.cap, .func (.func 64) #[] #[]] (some 35) trivial ?_
         intro w17 hw17
         have hew17 := dt_he hw17 (F := F) rfl; have hFw17 := dt_hF hw17 (F := F) rfl (show w.heap.size ≤ w15.heap.size by omega) (j := 1) rfl rfl (by decide)
         refine (putP_satP hw17 (i := 1) [0, 2, 3] rfl rfl rfl rfl x.Ports (slOk_ext hew17 hFw17 hx.Ports (fun _ h => TPort.ok.ext hew17 hFw17 h)) (by first | omega | (simp only [List.length_append, leB_len, List.length_cons, List.length_nil]; omega))).mono ?_
         rintro e w19 (⟨F18, ho20, rfl, hmw19, hSw19⟩ | ⟨ho20, rfl, hmw19, hSw19⟩)
         · have hnw19 : w15.heap.size ≤ w19.heap.size := hmw19
           refine .inl ⟨_, _, rfl, hSw19, ?_⟩
           refine l_keep [] [] ?_
           refine l_nil (by kernel_rfl) ?_
           -- the function's end
           refine e_end [] [] (.tuple #[]) trivial ?_
           intro w21 hw21
           have hD := wr_end hw21 rfl (show w.heap.size ≤ w19.heap.size by omega) rfl (j := 1) rfl (by decide) hw
           have hT : (ns5 x).take i = ns5 x := by rw [show i = 5 from by omega]; rfl
           rw [hT, show ((((bs ++ encName x.Name) ++ (ns5 x).flatMap (fun n => leB n 4)) ++ encLst encR x.Regions.xs) ++ encLst encP x.Ports.xs) = bs ++ encPt x from by unfold encPt; simp only [List.append_assoc]] at hD
           exact .inl ⟨(by unfold okPt; rw [ho4, all_yes (xs := ns5 x) (fun q hq => hok5 q (by have : q < 5 := hq; omega)), ho16, ho20]; rfl), rfl, hD⟩
         · have hnw19 : w15.heap.size ≤ w19.heap.size := hmw19
           refine .inr ⟨_, _, rfl, hSw19, ?_⟩
           refine e_panicR ?_
           intro w22 hw22
           refine .inr ⟨(by unfold okPt; rw [ho20]; simp), rfl, back0 hw22⟩
       · have hnw15 : n6 ≤ w15.heap.size := hmw15
         refine .inr ⟨_, _, rfl, hSw15, ?_⟩
         refine e_panicR ?_
         intro w23 hw23
         refine .inr ⟨(by unfold okPt; rw [ho16]; simp), rfl, back0 hw23⟩
 · have hnw3 : z + 2 ≤ w3.heap.size := hmw3
   refine .inr ⟨_, _, rfl, hSw3, ?_⟩
   refine e_panicR ?_
   intro w24 hw24
   refine .inr ⟨(by unfold okPt; rw [ho4]; simp), rfl, back0 hw24⟩
theorem partition_satP {A : AW} {w : World} {i pw : Nat} {F : Nat → Prop} {bs : List Int} {kept : List Ch} (h : Sat A w) (is : List Nat) (hi : A.σ[i]? = some (wrC pw F bs)) (hnd : nodupB is = true) (hp : picks is A.σ = some kept) (hni : is.contains i = false) (x : TPartition) (hx : TPartition.ok (Dt w F) w x) (hl : bs.length + 7000 ≤ 2147483647) : Calls Try.prog 30 #[.agg #[.pointer (some ⟨pw, 0, none⟩)], .agg (TPartition.arr x)] w fun e w' => (∃ F', okPt x = true ∧ e = .returned (.tuple #[]) ∧ A.n ≤ w'.heap.size ∧ Sat { A with n := w'.heap.size, σ := A.σ.set i (wrC pw F' (bs ++ encPt x)) } w') ∨ (okPt x = false ∧ e = .panicked wideP ∧ A.n ≤ w'.heap.size ∧ Sat { A with n := w'.heap.size, σ := kept } w') :=
  (partition_calls w pw F bs (h.at hi) x hx hl).mono (fun e w' hP => wrP_sat h hi is hnd hp hni hP)
abbrev qlxw_0 (z : Nat) (pw : Nat) : Ch := bk z #[pt pw] 56
abbrev qlxw_1 (l : Sl TPartition) : Nat × Value := (20, i6 ((l.xs.length : Nat) : Int))
abbrev qlxw_2 (l : Sl TPartition) : Nat × Value := (19, .slice l.a l.xs.length l.cap)
theorem putPt_calls (w : World) (pw : Nat) (F : Nat → Prop) (bs : List Int) (hw : WrIs w pw F bs) (l : Sl TPartition) (hd : SlOk TPartition.cells 8 TPartition.ok (Dt w F) w l) (hl : bs.length + 1792001 ≤ 2147483647) : Calls Try.prog 29 #[.agg #[.pointer (some ⟨pw, 0, none⟩)], .slice l.a l.xs.length l.cap, .func (.func 30) #[] #[]] w fun e w' => WrPostP w pw F bs (okLst okPt l.xs) (encLst encPt l.xs) e w' := by
 obtain ⟨z, hz⟩ : ∃ z, z = w.heap.size := ⟨_, rfl⟩
 refine calls_G (args := [.agg #[pt pw], .slice l.a l.xs.length l.cap, .func (.func 30) #[] #[]]) 30 ⟨w, z, [(old F w), (wrC pw F bs)]⟩ Try.func29 rfl (by kernel_rfl) (by kernel_rfl) (hz ▸ sat_wrC hw) ?_
 have hdl := hd.1.len
 refine g_keep [0, 1, 2] [(0, .agg #[pt pw]), (1, .slice l.a l.xs.length l.cap), (2, .func (.func 30) #[] #[])] ?_
 refine q_c 6 0 [] [[o0]] [] [(1, .slice l.a l.xs.length l.cap), (2, .func (.func 30) #[] #[]), (3, pt z)] ⟨w, z + 1, [(old F w), (wrC pw F bs), (qlxw_0 z pw)]⟩ rfl trivial ?_
 by_cases h1 : (255 : Int) < ((l.xs.length : Nat) : Int)
 · refine q_cS 5 2 [1] [[o0, o0, oT], [o0, o0]] [BT ((((l.xs.length : Nat) : Int) : Int) > 255)] [(1, .slice l.a l.xs.length l.cap), (2, .func (.func 30) #[] #[]), (3, pt z), (12, .iface 52 (.agg #[]))] rfl ⟨bt (by omega), trivial⟩ ?_
   refine l_panic (.iface 52 (.agg #[])) ?_
   refine e_panicR ?_
   intro w2 hw2
   refine .inr ⟨(lst_no1 (by omega)), rfl, back0 hw2⟩
 · refine q_cS 8 5 [0] [[o0, o0, oF], [o0, (a1 2), o0, o0, (ov (.int .u8 ((l.xs.length : Nat) : Int)))]] [BF ((((l.xs.length : Nat) : Int) : Int) > 255), Qb z, Value.int .u8 (IntKind.u8.wrap (((l.xs.length : Nat) : Int))) = Value.int .u8 (((l.xs.length : Nat) : Int))] [(1, .slice l.a l.xs.length l.cap), (2, .func (.func 30) #[] #[]), (3, pt z), (14, pt pw), (17, .int .u8 ((l.xs.length : Nat) : Int))] rfl ⟨bf (by omega), rfl, congrArg (Value.int .u8) (wr_u8 rfl (by omega) (by omega)), trivial⟩ ?_
   refine l_call [] [] 57 #[pt pw, .int .u8 ((l.xs.length : Nat) : Int)] (some 18) trivial ?_
   intro w3 hw3
   refine (u8_sat hw3 (i := 1) rfl ((l.xs.length : Nat) : Int) (by omega) (by first | omega | (simp only [List.length_append, leB_len, List.length_cons, List.length_nil]; omega))).mono ?_
   rintro e w5 ⟨F4, rfl, hmw5, hSw5⟩; have hnw5 : z + 1 ≤ w5.heap.size := hmw5
   refine ⟨_, _, rfl, hSw5, ?_⟩
   refine q_rS 7 0 [] [[], [o0, o0, o0]] [] [(2, .func (.func 30) #[] #[]), (3, pt z), (qlxw_2 l), (qlxw_1 l), (21, i6 0)] rfl trivial ?_
   refine g_loop (fun m a w' => ∃ (n7 : Nat) (i : Nat) (FL : Nat → Prop), m = l.xs.length - i ∧ w5.heap.size ≤ n7 ∧ (i ≤ l.xs.length) ∧ (∀ q, q < i → okPt (gd l.xs q) = true) ∧ St 30 [(2, .func (.func 30) #[] #[]), (3, pt z), (qlxw_2 l), (qlxw_1 l), (21, i6 (i : Int))] [] ⟨w, n7, [(old F w), (wrC pw FL ((bs ++ [((l.xs.length : Nat) : Int)]) ++ (l.xs.take i).flatMap encPt)), (qlxw_0 z pw)]⟩ a w') (l.xs.length - 0) ?_ ?_
   · intro a w' hs; exact ⟨w5.heap.size, 0, F4, rfl, Nat.le_refl _, Nat.zero_le _, fun q hq => absurd hq (Nat.not_lt_zero q), by (try dsimp only [qlxw_0, qlxw_1, qlxw_2] at hs ⊢); rw [List.take_zero, List.flatMap_nil, List.append_nil]; exact hs⟩
   · rintro m a w' ⟨n7, i, FL, rfl, hn6, hki, hok, hs⟩
     refine (?_ : G Try.prog 30 [(2, .func (.func 30) #[] #[]), (3, pt z), (qlxw_2 l), (qlxw_1 l), (21, i6 (i : Int))] [] ⟨w, n7, [(old F w), (wrC pw FL ((bs ++ [((l.xs.length : Nat) : Int)]) ++ (l.xs.take i).flatMap encPt)), (qlxw_0 z pw)]⟩ _ _ _) a w' hs
     clear hs a w'
     have hfl := flat_le (enc := encPt) (K := 7000) (xs := l.xs) i (by omega) (fun q hq => Nat.le_trans (encPt_le (hok q hq)) (by decide))
     refine g_seq ?_
     by_cases h8 : ((i : Int) : Int) < ((l.xs.length : Nat) : Int)
     · refine q_cS 10 0 [1] [[oT]] [BT (((i : Int) : Int) < ((l.xs.length : Nat) : Int))] [(2, .func (.func 30) #[] #[]), (3, pt z), (qlxw_2 l), (qlxw_1 l), (21, i6 (i : Int)), (22, .bool true)] rfl ⟨bt (by omega), trivial⟩ ?_
       obtain ⟨b9, o10, ha11, hF13, hc12⟩ := (hd).1.all (show 0 < l.xs.length by omega)
       replace ha11 : l.a = some ⟨b9, o10, none⟩ := ha11
       refine g_eq [(2, .func (.func 30) #[] #[]), (3, pt z), (19, .slice (some ⟨b9, o10, none⟩) l.xs.length l.cap), (qlxw_1 l), (21, i6 (i : Int)), (22, .bool true)] (by (try dsimp only [qlxw_0, qlxw_1, qlxw_2]); simp only [ha11]) ?_
       have hc14 := hc12 i (show i < l.xs.length by omega)
       have he15 := (hd).2 i (show i < l.xs.length by omega)
       obtain ⟨y16, hy16⟩ : ∃ y_, y_ = gd l.xs i := ⟨_, rfl⟩
       rw [← hy16] at he15 hc14
       refine q_c 4 3 [] [[(oi i), (oa [.via 0 (.string y16.Name), .via 0 (i6 y16.Entry), .via 0 (i6 y16.Action), .via 0 (i6 y16.Restarts), .via 0 (i6 y16.Inputs), .via 0 (i6 y16.Outputs), .via 0 (.slice y16.Regions.a y16.Regions.xs.length y16.Regions.cap), .via 0 (.slice y16.Ports.a y16.Ports.xs.length y16.Ports.cap)]), o0, (an 8 3)], [o0, (a1 2), (an 8 3)]] [((i : Int) : Int) = ((i : Nat) : Int), i < l.xs.length, (none : Option Nat) = none, ∀ w', Ch.holds (old F w) w' → w'.cell? ⟨b9, o10 + i * 8, none⟩ = some (.string y16.Name), ∀ w', Ch.holds (old F w) w' → w'.cell? ⟨b9, o10 + i * 8 + 1, none⟩ = some (i6 y16.Entry), ∀ w', Ch.holds (old F w) w' → w'.cell? ⟨b9, o10 + i * 8 + 2, none⟩ = some (i6 y16.Action), ∀ w', Ch.holds (old F w) w' → w'.cell? ⟨b9, o10 + i * 8 + 3, none⟩ = some (i6 y16.Restarts), ∀ w', Ch.holds (old F w) w' → w'.cell? ⟨b9, o10 + i * 8 + 4, none⟩ = some (i6 y16.Inputs), ∀ w', Ch.holds (old F w) w' → w'.cell? ⟨b9, o10 + i * 8 + 5, none⟩ = some (i6 y16.Outputs), ∀ w', Ch.holds (old F w) w' → w'.cell? ⟨b9, o10 + i * 8 + 6, none⟩ = some (.slice y16.Regions.a y16.Regions.xs.length y16.Regions.cap), ∀ w', Ch.holds (old F w) w' → w'.cell? ⟨b9, o10 + i * 8 + 7, none⟩ = some (.slice y16.Ports.a y16.Ports.xs.length y16.Ports.cap), Qb n7, Qb n7, Qb n7, Qb n7, Qb n7, Qb n7, Qb n7, Qb n7, Qb z, Qb n7, Qb n7, Qb n7, Qb n7, Qb n7, Qb n7, Qb n7, Qb n7] [(2, .func (.func 30) #[] #[]), (3, pt z), (19, .slice (some ⟨b9, o10, none⟩) l.xs.length l.cap), (qlxw_1 l), (21, i6 (i : Int)), (25, .func (.func 30) #[] #[]), (26, .agg #[pt pw]), (27, .agg (TPartition.arr y16))] ⟨w, n7 + 1, [(old F w), (wrC pw FL ((bs ++ [((l.xs.length : Nat) : Int)]) ++ (l.xs.take i).flatMap encPt)), (qlxw_0 z pw), (bk n7 (TPartition.arr y16) 69)]⟩ rfl ⟨rfl, (by omega), rfl, oldD_cell hF13 (hc14 0 _ rfl), oldD_cell hF13 (hc14 1 _ rfl), oldD_cell hF13 (hc14 2 _ rfl), oldD_cell hF13 (hc14 3 _ rfl), oldD_cell hF13 (hc14 4 _ rfl), oldD_cell hF13 (hc14 5 _ rfl), oldD_cell hF13 (hc14 6 _ rfl), oldD_cell hF13 (hc14 7 _ rfl), rfl, rfl, rfl, rfl, rfl, rfl, rfl, rfl, rfl, rfl, rfl, rfl, rfl, rfl, rfl, rfl, rfl, trivial⟩ ?_
       refine l_callX [] [] 30 #[.agg #[pt pw], .agg (TPartition.arr y16)] (some 28) trivial ?_
       intro w17 hw17
       have hew17 := dt_he hw17 (F := F) rfl; have hFw17 := dt_hF hw17 (F := F) rfl (show w.heap.size ≤ n7 + 1 by omega) (j := 1) rfl rfl (by decide)
       refine (partition_satP hw17 (i := 1) [0, 2, 3] rfl rfl rfl rfl y16 (TPartition.ok.ext hew17 hFw17 he15) (by first | omega | (simp only [List.length_append, leB_len, List.length_cons, List.length_nil]; omega))).mono ?_
       rintro e w19 (⟨F18, ho20, rfl, hmw19, hSw19⟩ | ⟨ho20, rfl, hmw19, hSw19⟩)
       · have hnw19 : n7 + 1 ≤ w19.heap.size := hmw19
         refine .inl ⟨_, _, rfl, hSw19, ?_⟩
         refine q_rS 5 0 [] [[], [(ov (i6 ((i + 1 : Nat) : Int))), o0]] [Wr (((i : Int) : Int) + 1) (((i + 1 : Nat) : Int))] [(2, .func (.func 30) #[] #[]), (3, pt z), (19, .slice (some ⟨b9, o10, none⟩) l.xs.length l.cap), (qlxw_1 l), (21, i6 ((i + 1 : Nat) : Int))] rfl ⟨wrI, trivial⟩ ?_
         refine e_pick [0, 1, 2] [(old F w), (wrC pw F18 (((bs ++ [((l.xs.length : Nat) : Int)]) ++ (l.xs.take i).flatMap encPt) ++ encPt y16)), (qlxw_0 z pw)] rfl rfl ?_
         refine e_eqk [2, 3, 19, 20, 21] [(2, .func (.func 30) #[] #[]), (3, pt z), (qlxw_2 l), (qlxw_1 l), (21, i6 ((i + 1 : Nat) : Int))] (by (try dsimp only [qlxw_0, qlxw_1, qlxw_2]); simp only [ha11]; rfl) ?_
         refine e_inv (fun a w' hs => ⟨l.xs.length - (i + 1), by omega, w19.heap.size, (i + 1), F18, rfl, by omega, by omega, all_push hok (by rw [← hy16]; exact ho20), by (try dsimp only [qlxw_0, qlxw_1, qlxw_2] at hs ⊢); rw [take_flat (by omega), ← hy16, ← List.append_assoc]; exact hs⟩)
       · have hnw19 : n7 + 1 ≤ w19.heap.size := hmw19
         refine .inr ⟨_, _, rfl, hSw19, ?_⟩
         refine e_panicR ?_
         intro w21 hw21
         refine .inr ⟨(lst_no2 (i := i) (by omega) (by rw [← hy16]; exact ho20)), rfl, back0 hw21⟩
     · refine q_cS 9 0 [0] [[oF]] [BF (((i : Int) : Int) < ((l.xs.length : Nat) : Int))] [(2, .func (.func 30) #[] #[]), (3, pt z), (qlxw_2 l), (qlxw_1 l), (21, i6 (i : Int)), (22, .bool false)] rfl ⟨bf (by omega), trivial⟩ ?_
       -- the function's end
       refine e_end [] [] (.tuple #[]) trivial ?_
       intro w22 hw22
       have hD := wr_end hw22 rfl (show w.heap.size ≤ n7 by omega) rfl (j := 1) rfl (by decide) hw
       rw [show i = l.xs.length from by omega, List.take_length, List.append_assoc] at hD
       exact .inl ⟨(lst_yes (by omega) (fun q hq => hok q (by omega))), rfl, hD⟩
theorem putPt_satP {A : AW} {w : World} {i pw : Nat} {F : Nat → Prop} {bs : List Int} {kept : List Ch} (h : Sat A w) (is : List Nat) (hi : A.σ[i]? = some (wrC pw F bs)) (hnd : nodupB is = true) (hp : picks is A.σ = some kept) (hni : is.contains i = false) (l : Sl TPartition) (hd : SlOk TPartition.cells 8 TPartition.ok (Dt w F) w l) (hl : bs.length + 1792001 ≤ 2147483647) : Calls Try.prog 29 #[.agg #[.pointer (some ⟨pw, 0, none⟩)], .slice l.a l.xs.length l.cap, .func (.func 30) #[] #[]] w fun e w' => (∃ F', okLst okPt l.xs = true ∧ e = .returned (.tuple #[]) ∧ A.n ≤ w'.heap.size ∧ Sat { A with n := w'.heap.size, σ := A.σ.set i (wrC pw F' (bs ++ encLst encPt l.xs)) } w') ∨ (okLst okPt l.xs = false ∧ e = .panicked wideP ∧ A.n ≤ w'.heap.size ∧ Sat { A with n := w'.heap.size, σ := kept } w') :=
  (putPt_calls w pw F bs (h.at hi) l hd hl).mono (fun e w' hP => wrP_sat h hi is hnd hp hni hP)

end Go.Proofs.Ytmmkacfeocnblaa.Ly
