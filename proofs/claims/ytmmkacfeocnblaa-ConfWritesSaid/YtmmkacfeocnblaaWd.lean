/- conf: lists and partitions are laid down. No conditions. -/
import Derived.Test.YtmmkacfeocnblaaWc
namespace Go.Proofs.Ytmmkacfeocnblaa.Ly
open Go Go.Proofs.Ytmmkacfeocnblaa.Eng Go.Proofs.Ytmmkacfeocnblaa.Mem
set_option linter.unusedSimpArgs false
set_option linter.unusedVariables false
set_option maxRecDepth 100000

theorem encName_len (t : ByteArray) : (encName t).length = 4 + t.size := by unfold encName; rw [List.length_append, leB_len, strB_len]
abbrev qffb_0 (z : Nat) (pw : Nat) : Ch := .blk z (.cells #[.pointer (some ⟨pw, 0, none⟩)] 56 (0, 0)) true
abbrev qffb_1 (b9 : Nat) (o10 : Nat) (l : Sl TWindow) : Nat × Value := (19, .slice (some ⟨b9, o10, none⟩) l.xs.length l.cap)
abbrev qffb_2 (l : Sl TWindow) : Nat × Value := (20, .int .i64 ((l.xs.length : Nat) : Int))
abbrev qffb_3 (l : Sl TWindow) : Nat × Value := (19, .slice l.a l.xs.length l.cap)
theorem putW_calls (w : World) (pw : Nat) (F : Nat → Prop) (bs : List Int) (hw : WrIs w pw F bs) (l : Sl TWindow) (hd : SlOk TWindow.cells 3 TWindow.ok (Dt w F) w l) (hl : bs.length + 3073 ≤ 2147483647) : Calls Try.prog 58 #[.agg #[.pointer (some ⟨pw, 0, none⟩)], .slice l.a l.xs.length l.cap, .func (.func 59) #[] #[]] w fun e w' => WrPostP w pw F bs (okLst okW l.xs) (encLst encW l.xs) e w' := by
 obtain ⟨z, hz⟩ : ∃ z, z = w.heap.size := ⟨_, rfl⟩
 refine calls_G (args := [.agg #[.pointer (some ⟨pw, 0, none⟩)], .slice l.a l.xs.length l.cap, .func (.func 59) #[] #[]]) 30 ⟨w, z, [(old F w), (wrC pw F bs)]⟩ Try.func58 rfl (by kernel_rfl) (by kernel_rfl) (hz ▸ sat_wrC hw) ?_
 have hdl := hd.1.len
 refine g_keep [0, 1, 2] [(0, .agg #[.pointer (some ⟨pw, 0, none⟩)]), (1, .slice l.a l.xs.length l.cap), (2, .func (.func 59) #[] #[])] ?_
 refine g_seq <| g_region <| l_all 1 [o0] [1, 2, 3] [] [(1, .slice l.a l.xs.length l.cap), (2, .func (.func 59) #[] #[]), (3, .pointer (some ⟨z, 0, none⟩))] ⟨w, z + 1, [(old F w), (wrC pw F bs), (qffb_0 z pw)]⟩ trivial ?_
 refine e_seq <| g_seq <| g_seq ?_
 by_cases h1 : (255 : Int) < ((l.xs.length : Nat) : Int)
 · refine g_region <| l_all 3 [o0, o0, oT] [1, 2, 3, 10] [BT ((((l.xs.length : Nat) : Int) : Int) > 255)] [(1, .slice l.a l.xs.length l.cap), (2, .func (.func 59) #[] #[]), (3, .pointer (some ⟨z, 0, none⟩)), (10, .bool true)] ⟨w, z + 1, [(old F w), (wrC pw F bs), (qffb_0 z pw)]⟩ ⟨bt (by omega), trivial⟩ ?_
   refine e_seq <| g_true <| g_region <| l_run 2 [o0, o0] [1, 2, 3, 12] [] [(1, .slice l.a l.xs.length l.cap), (2, .func (.func 59) #[] #[]), (3, .pointer (some ⟨z, 0, none⟩)), (12, .iface 52 (.agg #[]))] ⟨w, z + 1, [(old F w), (wrC pw F bs), (qffb_0 z pw)]⟩ trivial ?_
   refine l_panic (.iface 52 (.agg #[])) ?_
   refine e_panicR ?_
   intro w2 hw2
   refine .inr ⟨(lst_no1 (by omega)), rfl, hw2.back rfl (show w.heap.size ≤ z + 1 by omega) (List.mem_cons_self ..)⟩
 · refine g_region <| l_all 3 [o0, o0, oF] [1, 2, 3, 10] [BF ((((l.xs.length : Nat) : Int) : Int) > 255)] [(1, .slice l.a l.xs.length l.cap), (2, .func (.func 59) #[] #[]), (3, .pointer (some ⟨z, 0, none⟩)), (10, .bool false)] ⟨w, z + 1, [(old F w), (wrC pw F bs), (qffb_0 z pw)]⟩ ⟨bf (by omega), trivial⟩ ?_
   refine e_seq <| g_false <| g_skip <| e_seq <| g_seq <| g_region <| l_run 5 [o0, (oa [.at 2]), o0, o0, (ov (.int .u8 ((l.xs.length : Nat) : Int)))] [1, 2, 3, 14, 17] [Qb z, Value.int .u8 (IntKind.u8.wrap (((l.xs.length : Nat) : Int))) = Value.int .u8 (((l.xs.length : Nat) : Int))] [(1, .slice l.a l.xs.length l.cap), (2, .func (.func 59) #[] #[]), (3, .pointer (some ⟨z, 0, none⟩)), (14, .pointer (some ⟨pw, 0, none⟩)), (17, .int .u8 ((l.xs.length : Nat) : Int))] ⟨w, z + 1, [(old F w), (wrC pw F bs), (qffb_0 z pw)]⟩ ⟨rfl, congrArg (Value.int .u8) (wr_u8 rfl (by omega) (by omega)), trivial⟩ ?_
   refine l_call [] [] 57 #[.pointer (some ⟨pw, 0, none⟩), .int .u8 ((l.xs.length : Nat) : Int)] (some 18) trivial ?_
   intro w3 hw3
   refine (u8_sat hw3 (i := 1) rfl ((l.xs.length : Nat) : Int) (by omega) (by first | omega | (simp only [List.length_append, leB_len, List.length_cons, List.length_nil]; omega))).mono ?_
   rintro e w5 ⟨F4, rfl, hmw5, hSw5⟩; have hnw5 : z + 1 ≤ w5.heap.size := hmw5
   refine ⟨_, _, rfl, hSw5, ?_⟩
   refine l_keep [1, 2, 3] [(1, .slice l.a l.xs.length l.cap), (2, .func (.func 59) #[] #[]), (3, .pointer (some ⟨z, 0, none⟩))] ?_
   refine l_nil (by kernel_rfl) ?_
   refine e_seq <| g_seq <| g_region <| l_all 3 [o0, o0, o0] [2, 3, 19, 20, 21] [] [(2, .func (.func 59) #[] #[]), (3, .pointer (some ⟨z, 0, none⟩)), (qffb_3 l), (qffb_2 l), (21, .int .i64 0)] ⟨w, w5.heap.size, [(old F w), (wrC pw F4 (bs ++ [((l.xs.length : Nat) : Int)])), (qffb_0 z pw)]⟩ trivial ?_
   refine e_seq <| g_block <| g_loop (fun m a w' => ∃ (n7 : Nat) (i : Nat) (FL : Nat → Prop), m = l.xs.length - i ∧ w5.heap.size ≤ n7 ∧ (i ≤ l.xs.length) ∧ (∀ q, q < i → okW (gd l.xs q) = true) ∧ St 30 [(2, .func (.func 59) #[] #[]), (3, .pointer (some ⟨z, 0, none⟩)), (qffb_3 l), (qffb_2 l), (21, .int .i64 (i : Int))] [] ⟨w, n7, [(old F w), (wrC pw FL ((bs ++ [((l.xs.length : Nat) : Int)]) ++ (l.xs.take i).flatMap encW)), (qffb_0 z pw)]⟩ a w') (l.xs.length - 0) ?_ ?_
   · intro a w' hs; exact ⟨w5.heap.size, 0, F4, rfl, Nat.le_refl _, Nat.zero_le _, fun q hq => absurd hq (Nat.not_lt_zero q), by (try dsimp only [qffb_0, qffb_1, qffb_2, qffb_3] at hs ⊢); rw [List.take_zero, List.flatMap_nil, List.append_nil]; exact hs⟩
   · rintro m a w' ⟨n7, i, FL, rfl, hn6, hki, hok, hs⟩
     refine (?_ : G Try.prog 30 [(2, .func (.func 59) #[] #[]), (3, .pointer (some ⟨z, 0, none⟩)), (qffb_3 l), (qffb_2 l), (21, .int .i64 (i : Int))] [] ⟨w, n7, [(old F w), (wrC pw FL ((bs ++ [((l.xs.length : Nat) : Int)]) ++ (l.xs.take i).flatMap encW)), (qffb_0 z pw)]⟩ _ _ _) a w' hs
     clear hs a w'
     have hfl := flat_le (enc := encW) (K := 12) (xs := l.xs) i (by omega) (fun q hq => by rw [encW_len]; exact Nat.le_refl _)
     refine g_seq ?_
     by_cases h8 : ((i : Int) : Int) < ((l.xs.length : Nat) : Int)
     · refine g_region <| l_all 1 [oT] [2, 3, 19, 20, 21, 22] [BT (((i : Int) : Int) < ((l.xs.length : Nat) : Int))] [(2, .func (.func 59) #[] #[]), (3, .pointer (some ⟨z, 0, none⟩)), (qffb_3 l), (qffb_2 l), (21, .int .i64 (i : Int)), (22, .bool true)] ⟨w, n7, [(old F w), (wrC pw FL ((bs ++ [((l.xs.length : Nat) : Int)]) ++ (l.xs.take i).flatMap encW)), (qffb_0 z pw)]⟩ ⟨bt (by omega), trivial⟩ ?_
       refine e_seq <| g_seq <| g_true <| g_skip <| e_seq <| g_seq <| g_block <| g_seq ?_
       obtain ⟨b9, o10, ha11, hF13, hc12⟩ := (hd).1.all (show 0 < l.xs.length by omega)
       replace ha11 : l.a = some ⟨b9, o10, none⟩ := ha11
       refine g_eq [(2, .func (.func 59) #[] #[]), (3, .pointer (some ⟨z, 0, none⟩)), (qffb_1 b9 o10 l), (qffb_2 l), (21, .int .i64 (i : Int)), (22, .bool true)] (by (try dsimp only [qffb_0, qffb_1, qffb_2, qffb_3]); simp only [ha11]) ?_
       have hc14 := hc12 i (show i < l.xs.length by omega)
       have he15 := (hd).2 i (show i < l.xs.length by omega)
       obtain ⟨y16, hy16⟩ : ∃ y_, y_ = gd l.xs i := ⟨_, rfl⟩
       rw [← hy16] at he15 hc14
       refine g_region <| l_all 4 [(oi i), (oa [.via 0 (.int .i64 y16.Partition), .via 0 (.int .i64 y16.Usable), .via 0 (.int .i64 y16.Slack)]), o0, (oa [.at 3, .at 3, .at 3])] [2, 3, 19, 20, 21, 7] [((i : Int) : Int) = ((i : Nat) : Int), i < l.xs.length, (none : Option Nat) = none, ∀ w', Ch.holds (old F w) w' → w'.cell? ⟨b9, o10 + i * 3, none⟩ = some (.int .i64 y16.Partition), ∀ w', Ch.holds (old F w) w' → w'.cell? ⟨b9, o10 + i * 3 + 1, none⟩ = some (.int .i64 y16.Usable), ∀ w', Ch.holds (old F w) w' → w'.cell? ⟨b9, o10 + i * 3 + 2, none⟩ = some (.int .i64 y16.Slack), Qb n7, Qb n7, Qb n7] [(2, .func (.func 59) #[] #[]), (3, .pointer (some ⟨z, 0, none⟩)), (qffb_1 b9 o10 l), (qffb_2 l), (21, .int .i64 (i : Int)), (7, .pointer (some ⟨n7, 0, none⟩))] ⟨w, n7 + 1, [(old F w), (wrC pw FL ((bs ++ [((l.xs.length : Nat) : Int)]) ++ (l.xs.take i).flatMap encW)), (qffb_0 z pw), (.blk n7 (.cells (TWindow.arr y16) 97 (0, 0)) true)]⟩ ⟨rfl, (by omega), rfl, oldD_cell hF13 (hc14 0 _ rfl), oldD_cell hF13 (hc14 1 _ rfl), oldD_cell hF13 (hc14 2 _ rfl), rfl, rfl, rfl, trivial⟩ ?_
       refine e_seq <| g_region <| l_run 3 [o0, (oa [.at 2]), (oa [.at 3, .at 3, .at 3])] [2, 3, 19, 20, 21, 25, 26, 27] [Qb z, Qb n7, Qb n7, Qb n7] [(2, .func (.func 59) #[] #[]), (3, .pointer (some ⟨z, 0, none⟩)), (qffb_1 b9 o10 l), (qffb_2 l), (21, .int .i64 (i : Int)), (25, .func (.func 59) #[] #[]), (26, .agg #[.pointer (some ⟨pw, 0, none⟩)]), (27, .agg (TWindow.arr y16))] ⟨w, n7 + 1, [(old F w), (wrC pw FL ((bs ++ [((l.xs.length : Nat) : Int)]) ++ (l.xs.take i).flatMap encW)), (qffb_0 z pw), (.blk n7 (.cells (TWindow.arr y16) 97 (0, 0)) true)]⟩ ⟨rfl, rfl, rfl, rfl, trivial⟩ ?_
       refine l_callX [] [] 59 #[.agg #[.pointer (some ⟨pw, 0, none⟩)], .agg (TWindow.arr y16)] (some 28) trivial ?_
       intro w17 hw17
       refine (window_satP hw17 (i := 1) [0, 2, 3] rfl rfl rfl rfl y16 (by first | omega | (simp only [List.length_append, leB_len, List.length_cons, List.length_nil]; omega))).mono ?_
       rintro e w19 (⟨F18, ho20, rfl, hmw19, hSw19⟩ | ⟨ho20, rfl, hmw19, hSw19⟩)
       · have hnw19 : n7 + 1 ≤ w19.heap.size := hmw19
         refine .inl ⟨_, _, rfl, hSw19, ?_⟩
         refine l_keep [2, 3, 19, 20, 21] [(2, .func (.func 59) #[] #[]), (3, .pointer (some ⟨z, 0, none⟩)), (qffb_1 b9 o10 l), (qffb_2 l), (21, .int .i64 (i : Int))] ?_
         refine l_nil (by kernel_rfl) ?_
         refine e_blk <| e_seq <| g_region <| l_all 2 [(ov (.int .i64 ((i + 1 : Nat) : Int))), o0] [2, 3, 19, 20, 21] [Value.int .i64 (IntKind.i64.wrap (((i : Int) : Int) + 1)) = Value.int .i64 (((i + 1 : Nat) : Int))] [(2, .func (.func 59) #[] #[]), (3, .pointer (some ⟨z, 0, none⟩)), (qffb_1 b9 o10 l), (qffb_2 l), (21, .int .i64 ((i + 1 : Nat) : Int))] ⟨w, w19.heap.size, [(old F w), (wrC pw F18 (((bs ++ [((l.xs.length : Nat) : Int)]) ++ (l.xs.take i).flatMap encW) ++ encW y16)), (qffb_0 z pw), (.blk n7 (.cells (TWindow.arr y16) 97 (0, 0)) true)]⟩ ⟨congrArg (Value.int .i64) (wr_i64 (by omega) (by omega) (by omega)), trivial⟩ ?_
         refine e_pick [0, 1, 2] [(old F w), (wrC pw F18 (((bs ++ [((l.xs.length : Nat) : Int)]) ++ (l.xs.take i).flatMap encW) ++ encW y16)), (qffb_0 z pw)] rfl rfl ?_
         refine e_eqk [2, 3, 19, 20, 21] [(2, .func (.func 59) #[] #[]), (3, .pointer (some ⟨z, 0, none⟩)), (qffb_3 l), (qffb_2 l), (21, .int .i64 ((i + 1 : Nat) : Int))] (by (try dsimp only [qffb_0, qffb_1, qffb_2, qffb_3]); simp only [ha11]; rfl) ?_
         refine e_inv (fun a w' hs => ⟨l.xs.length - (i + 1), by omega, w19.heap.size, (i + 1), F18, rfl, by omega, by omega, all_push hok (by rw [← hy16]; exact ho20), by (try dsimp only [qffb_0, qffb_1, qffb_2, qffb_3] at hs ⊢); rw [take_flat (by omega), ← hy16, ← List.append_assoc]; exact hs⟩)
       · have hnw19 : n7 + 1 ≤ w19.heap.size := hmw19
         refine .inr ⟨_, _, rfl, hSw19, ?_⟩
         refine e_panicR ?_
         intro w21 hw21
         refine .inr ⟨(lst_no2 (i := i) (by omega) (by rw [← hy16]; exact ho20)), rfl, hw21.back rfl (show w.heap.size ≤ w19.heap.size by omega) (List.mem_cons_self ..)⟩
     · refine g_region <| l_all 1 [oF] [2, 3, 19, 20, 21, 22] [BF (((i : Int) : Int) < ((l.xs.length : Nat) : Int))] [(2, .func (.func 59) #[] #[]), (3, .pointer (some ⟨z, 0, none⟩)), (qffb_3 l), (qffb_2 l), (21, .int .i64 (i : Int)), (22, .bool false)] ⟨w, n7, [(old F w), (wrC pw FL ((bs ++ [((l.xs.length : Nat) : Int)]) ++ (l.xs.take i).flatMap encW)), (qffb_0 z pw)]⟩ ⟨bf (by omega), trivial⟩ ?_
       refine e_seq <| g_seq <| g_false <| g_exit <| e_out <| e_outI <| e_hit ?_
       -- the function's end
       refine e_end [] [] (.tuple #[]) trivial ?_
       intro w22 hw22
       have hD := wr_end hw22 rfl (show w.heap.size ≤ n7 by omega) rfl (j := 1) rfl (by decide) hw
       rw [show i = l.xs.length from by omega, List.take_length, List.append_assoc] at hD
       exact .inl ⟨(lst_yes (by omega) (fun q hq => hok q (by omega))), rfl, hD⟩
theorem putW_satP {A : AW} {w : World} {i pw : Nat} {F : Nat → Prop} {bs : List Int} {kept : List Ch} (h : Sat A w) (is : List Nat) (hi : A.σ[i]? = some (wrC pw F bs)) (hnd : nodupB is = true) (hp : picks is A.σ = some kept) (hni : is.contains i = false) (l : Sl TWindow) (hd : SlOk TWindow.cells 3 TWindow.ok (Dt w F) w l) (hl : bs.length + 3073 ≤ 2147483647) : Calls Try.prog 58 #[.agg #[.pointer (some ⟨pw, 0, none⟩)], .slice l.a l.xs.length l.cap, .func (.func 59) #[] #[]] w fun e w' => (∃ F', okLst okW l.xs = true ∧ e = .returned (.tuple #[]) ∧ A.n ≤ w'.heap.size ∧ Sat { A with n := w'.heap.size, σ := A.σ.set i (wrC pw F' (bs ++ encLst encW l.xs)) } w') ∨ (okLst okW l.xs = false ∧ e = .panicked wideP ∧ A.n ≤ w'.heap.size ∧ Sat { A with n := w'.heap.size, σ := kept } w') :=
  (putW_calls w pw F bs (h.at hi) l hd hl).mono (fun e w' hP => wrP_sat h hi is hnd hp hni hP)
abbrev qods_0 (z : Nat) (pw : Nat) : Ch := .blk z (.cells #[.pointer (some ⟨pw, 0, none⟩)] 56 (0, 0)) true
abbrev qods_1 (b9 : Nat) (o10 : Nat) (l : Sl TRegion) : Nat × Value := (19, .slice (some ⟨b9, o10, none⟩) l.xs.length l.cap)
abbrev qods_2 (l : Sl TRegion) : Nat × Value := (20, .int .i64 ((l.xs.length : Nat) : Int))
abbrev qods_3 (l : Sl TRegion) : Nat × Value := (19, .slice l.a l.xs.length l.cap)
theorem putR_calls (w : World) (pw : Nat) (F : Nat → Prop) (bs : List Int) (hw : WrIs w pw F bs) (l : Sl TRegion) (hd : SlOk TRegion.cells 4 TRegion.ok (Dt w F) w l) (hl : bs.length + 4097 ≤ 2147483647) : Calls Try.prog 61 #[.agg #[.pointer (some ⟨pw, 0, none⟩)], .slice l.a l.xs.length l.cap, .func (.func 62) #[] #[]] w fun e w' => WrPostP w pw F bs (okLst okR l.xs) (encLst encR l.xs) e w' := by
 obtain ⟨z, hz⟩ : ∃ z, z = w.heap.size := ⟨_, rfl⟩
 refine calls_G (args := [.agg #[.pointer (some ⟨pw, 0, none⟩)], .slice l.a l.xs.length l.cap, .func (.func 62) #[] #[]]) 30 ⟨w, z, [(old F w), (wrC pw F bs)]⟩ Try.func61 rfl (by kernel_rfl) (by kernel_rfl) (hz ▸ sat_wrC hw) ?_
 have hdl := hd.1.len
 refine g_keep [0, 1, 2] [(0, .agg #[.pointer (some ⟨pw, 0, none⟩)]), (1, .slice l.a l.xs.length l.cap), (2, .func (.func 62) #[] #[])] ?_
 refine g_seq <| g_region <| l_all 1 [o0] [1, 2, 3] [] [(1, .slice l.a l.xs.length l.cap), (2, .func (.func 62) #[] #[]), (3, .pointer (some ⟨z, 0, none⟩))] ⟨w, z + 1, [(old F w), (wrC pw F bs), (qods_0 z pw)]⟩ trivial ?_
 refine e_seq <| g_seq <| g_seq ?_
 by_cases h1 : (255 : Int) < ((l.xs.length : Nat) : Int)
 · refine g_region <| l_all 3 [o0, o0, oT] [1, 2, 3, 10] [BT ((((l.xs.length : Nat) : Int) : Int) > 255)] [(1, .slice l.a l.xs.length l.cap), (2, .func (.func 62) #[] #[]), (3, .pointer (some ⟨z, 0, none⟩)), (10, .bool true)] ⟨w, z + 1, [(old F w), (wrC pw F bs), (qods_0 z pw)]⟩ ⟨bt (by omega), trivial⟩ ?_
   refine e_seq <| g_true <| g_region <| l_run 2 [o0, o0] [1, 2, 3, 12] [] [(1, .slice l.a l.xs.length l.cap), (2, .func (.func 62) #[] #[]), (3, .pointer (some ⟨z, 0, none⟩)), (12, .iface 52 (.agg #[]))] ⟨w, z + 1, [(old F w), (wrC pw F bs), (qods_0 z pw)]⟩ trivial ?_
   refine l_panic (.iface 52 (.agg #[])) ?_
   refine e_panicR ?_
   intro w2 hw2
   refine .inr ⟨(lst_no1 (by omega)), rfl, hw2.back rfl (show w.heap.size ≤ z + 1 by omega) (List.mem_cons_self ..)⟩
 · refine g_region <| l_all 3 [o0, o0, oF] [1, 2, 3, 10] [BF ((((l.xs.length : Nat) : Int) : Int) > 255)] [(1, .slice l.a l.xs.length l.cap), (2, .func (.func 62) #[] #[]), (3, .pointer (some ⟨z, 0, none⟩)), (10, .bool false)] ⟨w, z + 1, [(old F w), (wrC pw F bs), (qods_0 z pw)]⟩ ⟨bf (by omega), trivial⟩ ?_
   refine e_seq <| g_false <| g_skip <| e_seq <| g_seq <| g_region <| l_run 5 [o0, (oa [.at 2]), o0, o0, (ov (.int .u8 ((l.xs.length : Nat) : Int)))] [1, 2, 3, 14, 17] [Qb z, Value.int .u8 (IntKind.u8.wrap (((l.xs.length : Nat) : Int))) = Value.int .u8 (((l.xs.length : Nat) : Int))] [(1, .slice l.a l.xs.length l.cap), (2, .func (.func 62) #[] #[]), (3, .pointer (some ⟨z, 0, none⟩)), (14, .pointer (some ⟨pw, 0, none⟩)), (17, .int .u8 ((l.xs.length : Nat) : Int))] ⟨w, z + 1, [(old F w), (wrC pw F bs), (qods_0 z pw)]⟩ ⟨rfl, congrArg (Value.int .u8) (wr_u8 rfl (by omega) (by omega)), trivial⟩ ?_
   refine l_call [] [] 57 #[.pointer (some ⟨pw, 0, none⟩), .int .u8 ((l.xs.length : Nat) : Int)] (some 18) trivial ?_
   intro w3 hw3
   refine (u8_sat hw3 (i := 1) rfl ((l.xs.length : Nat) : Int) (by omega) (by first | omega | (simp only [List.length_append, leB_len, List.length_cons, List.length_nil]; omega))).mono ?_
   rintro e w5 ⟨F4, rfl, hmw5, hSw5⟩; have hnw5 : z + 1 ≤ w5.heap.size := hmw5
   refine ⟨_, _, rfl, hSw5, ?_⟩
   refine l_keep [1, 2, 3] [(1, .slice l.a l.xs.length l.cap), (2, .func (.func 62) #[] #[]), (3, .pointer (some ⟨z, 0, none⟩))] ?_
   refine l_nil (by kernel_rfl) ?_
   refine e_seq <| g_seq <| g_region <| l_all 3 [o0, o0, o0] [2, 3, 19, 20, 21] [] [(2, .func (.func 62) #[] #[]), (3, .pointer (some ⟨z, 0, none⟩)), (qods_3 l), (qods_2 l), (21, .int .i64 0)] ⟨w, w5.heap.size, [(old F w), (wrC pw F4 (bs ++ [((l.xs.length : Nat) : Int)])), (qods_0 z pw)]⟩ trivial ?_
   refine e_seq <| g_block <| g_loop (fun m a w' => ∃ (n7 : Nat) (i : Nat) (FL : Nat → Prop), m = l.xs.length - i ∧ w5.heap.size ≤ n7 ∧ (i ≤ l.xs.length) ∧ (∀ q, q < i → okR (gd l.xs q) = true) ∧ St 30 [(2, .func (.func 62) #[] #[]), (3, .pointer (some ⟨z, 0, none⟩)), (qods_3 l), (qods_2 l), (21, .int .i64 (i : Int))] [] ⟨w, n7, [(old F w), (wrC pw FL ((bs ++ [((l.xs.length : Nat) : Int)]) ++ (l.xs.take i).flatMap encR)), (qods_0 z pw)]⟩ a w') (l.xs.length - 0) ?_ ?_
   · intro a w' hs; exact ⟨w5.heap.size, 0, F4, rfl, Nat.le_refl _, Nat.zero_le _, fun q hq => absurd hq (Nat.not_lt_zero q), by (try dsimp only [qods_0, qods_1, qods_2, qods_3] at hs ⊢); rw [List.take_zero, List.flatMap_nil, List.append_nil]; exact hs⟩
   · rintro m a w' ⟨n7, i, FL, rfl, hn6, hki, hok, hs⟩
     refine (?_ : G Try.prog 30 [(2, .func (.func 62) #[] #[]), (3, .pointer (some ⟨z, 0, none⟩)), (qods_3 l), (qods_2 l), (21, .int .i64 (i : Int))] [] ⟨w, n7, [(old F w), (wrC pw FL ((bs ++ [((l.xs.length : Nat) : Int)]) ++ (l.xs.take i).flatMap encR)), (qods_0 z pw)]⟩ _ _ _) a w' hs
     clear hs a w'
     have hfl := flat_le (enc := encR) (K := 16) (xs := l.xs) i (by omega) (fun q hq => by rw [encR_len]; exact Nat.le_refl _)
     refine g_seq ?_
     by_cases h8 : ((i : Int) : Int) < ((l.xs.length : Nat) : Int)
     · refine g_region <| l_all 1 [oT] [2, 3, 19, 20, 21, 22] [BT (((i : Int) : Int) < ((l.xs.length : Nat) : Int))] [(2, .func (.func 62) #[] #[]), (3, .pointer (some ⟨z, 0, none⟩)), (qods_3 l), (qods_2 l), (21, .int .i64 (i : Int)), (22, .bool true)] ⟨w, n7, [(old F w), (wrC pw FL ((bs ++ [((l.xs.length : Nat) : Int)]) ++ (l.xs.take i).flatMap encR)), (qods_0 z pw)]⟩ ⟨bt (by omega), trivial⟩ ?_
       refine e_seq <| g_seq <| g_true <| g_skip <| e_seq <| g_seq <| g_block <| g_seq ?_
       obtain ⟨b9, o10, ha11, hF13, hc12⟩ := (hd).1.all (show 0 < l.xs.length by omega)
       replace ha11 : l.a = some ⟨b9, o10, none⟩ := ha11
       refine g_eq [(2, .func (.func 62) #[] #[]), (3, .pointer (some ⟨z, 0, none⟩)), (qods_1 b9 o10 l), (qods_2 l), (21, .int .i64 (i : Int)), (22, .bool true)] (by (try dsimp only [qods_0, qods_1, qods_2, qods_3]); simp only [ha11]) ?_
       have hc14 := hc12 i (show i < l.xs.length by omega)
       have he15 := (hd).2 i (show i < l.xs.length by omega)
       obtain ⟨y16, hy16⟩ : ∃ y_, y_ = gd l.xs i := ⟨_, rfl⟩
       rw [← hy16] at he15 hc14
       refine g_region <| l_all 4 [(oi i), (oa [.via 0 (.int .i64 y16.Page), .via 0 (.int .i64 y16.Pages), .via 0 (.int .i64 y16.Frame), .via 0 (.int .i64 y16.Rights)]), o0, (oa [.at 3, .at 3, .at 3, .at 3])] [2, 3, 19, 20, 21, 7] [((i : Int) : Int) = ((i : Nat) : Int), i < l.xs.length, (none : Option Nat) = none, ∀ w', Ch.holds (old F w) w' → w'.cell? ⟨b9, o10 + i * 4, none⟩ = some (.int .i64 y16.Page), ∀ w', Ch.holds (old F w) w' → w'.cell? ⟨b9, o10 + i * 4 + 1, none⟩ = some (.int .i64 y16.Pages), ∀ w', Ch.holds (old F w) w' → w'.cell? ⟨b9, o10 + i * 4 + 2, none⟩ = some (.int .i64 y16.Frame), ∀ w', Ch.holds (old F w) w' → w'.cell? ⟨b9, o10 + i * 4 + 3, none⟩ = some (.int .i64 y16.Rights), Qb n7, Qb n7, Qb n7, Qb n7] [(2, .func (.func 62) #[] #[]), (3, .pointer (some ⟨z, 0, none⟩)), (qods_1 b9 o10 l), (qods_2 l), (21, .int .i64 (i : Int)), (7, .pointer (some ⟨n7, 0, none⟩))] ⟨w, n7 + 1, [(old F w), (wrC pw FL ((bs ++ [((l.xs.length : Nat) : Int)]) ++ (l.xs.take i).flatMap encR)), (qods_0 z pw), (.blk n7 (.cells (TRegion.arr y16) 99 (0, 0)) true)]⟩ ⟨rfl, (by omega), rfl, oldD_cell hF13 (hc14 0 _ rfl), oldD_cell hF13 (hc14 1 _ rfl), oldD_cell hF13 (hc14 2 _ rfl), oldD_cell hF13 (hc14 3 _ rfl), rfl, rfl, rfl, rfl, trivial⟩ ?_
       refine e_seq <| g_region <| l_run 3 [o0, (oa [.at 2]), (oa [.at 3, .at 3, .at 3, .at 3])] [2, 3, 19, 20, 21, 25, 26, 27] [Qb z, Qb n7, Qb n7, Qb n7, Qb n7] [(2, .func (.func 62) #[] #[]), (3, .pointer (some ⟨z, 0, none⟩)), (qods_1 b9 o10 l), (qods_2 l), (21, .int .i64 (i : Int)), (25, .func (.func 62) #[] #[]), (26, .agg #[.pointer (some ⟨pw, 0, none⟩)]), (27, .agg (TRegion.arr y16))] ⟨w, n7 + 1, [(old F w), (wrC pw FL ((bs ++ [((l.xs.length : Nat) : Int)]) ++ (l.xs.take i).flatMap encR)), (qods_0 z pw), (.blk n7 (.cells (TRegion.arr y16) 99 (0, 0)) true)]⟩ ⟨rfl, rfl, rfl, rfl, rfl, trivial⟩ ?_
       refine l_callX [] [] 62 #[.agg #[.pointer (some ⟨pw, 0, none⟩)], .agg (TRegion.arr y16)] (some 28) trivial ?_
       intro w17 hw17
       refine (region_satP hw17 (i := 1) [0, 2, 3] rfl rfl rfl rfl y16 (by first | omega | (simp only [List.length_append, leB_len, List.length_cons, List.length_nil]; omega))).mono ?_
       rintro e w19 (⟨F18, ho20, rfl, hmw19, hSw19⟩ | ⟨ho20, rfl, hmw19, hSw19⟩)
       · have hnw19 : n7 + 1 ≤ w19.heap.size := hmw19
         refine .inl ⟨_, _, rfl, hSw19, ?_⟩
         refine l_keep [2, 3, 19, 20, 21] [(2, .func (.func 62) #[] #[]), (3, .pointer (some ⟨z, 0, none⟩)), (qods_1 b9 o10 l), (qods_2 l), (21, .int .i64 (i : Int))] ?_
         refine l_nil (by kernel_rfl) ?_
         refine e_blk <| e_seq <| g_region <| l_all 2 [(ov (.int .i64 ((i + 1 : Nat) : Int))), o0] [2, 3, 19, 20, 21] [Value.int .i64 (IntKind.i64.wrap (((i : Int) : Int) + 1)) = Value.int .i64 (((i + 1 : Nat) : Int))] [(2, .func (.func 62) #[] #[]), (3, .pointer (some ⟨z, 0, none⟩)), (qods_1 b9 o10 l), (qods_2 l), (21, .int .i64 ((i + 1 : Nat) : Int))] ⟨w, w19.heap.size, [(old F w), (wrC pw F18 (((bs ++ [((l.xs.length : Nat) : Int)]) ++ (l.xs.take i).flatMap encR) ++ encR y16)), (qods_0 z pw), (.blk n7 (.cells (TRegion.arr y16) 99 (0, 0)) true)]⟩ ⟨congrArg (Value.int .i64) (wr_i64 (by omega) (by omega) (by omega)), trivial⟩ ?_
         refine e_pick [0, 1, 2] [(old F w), (wrC pw F18 (((bs ++ [((l.xs.length : Nat) : Int)]) ++ (l.xs.take i).flatMap encR) ++ encR y16)), (qods_0 z pw)] rfl rfl ?_
         refine e_eqk [2, 3, 19, 20, 21] [(2, .func (.func 62) #[] #[]), (3, .pointer (some ⟨z, 0, none⟩)), (qods_3 l), (qods_2 l), (21, .int .i64 ((i + 1 : Nat) : Int))] (by (try dsimp only [qods_0, qods_1, qods_2, qods_3]); simp only [ha11]; rfl) ?_
         refine e_inv (fun a w' hs => ⟨l.xs.length - (i + 1), by omega, w19.heap.size, (i + 1), F18, rfl, by omega, by omega, all_push hok (by rw [← hy16]; exact ho20), by (try dsimp only [qods_0, qods_1, qods_2, qods_3] at hs ⊢); rw [take_flat (by omega), ← hy16, ← List.append_assoc]; exact hs⟩)
       · have hnw19 : n7 + 1 ≤ w19.heap.size := hmw19
         refine .inr ⟨_, _, rfl, hSw19, ?_⟩
         refine e_panicR ?_
         intro w21 hw21
         refine .inr ⟨(lst_no2 (i := i) (by omega) (by rw [← hy16]; exact ho20)), rfl, hw21.back rfl (show w.heap.size ≤ w19.heap.size by omega) (List.mem_cons_self ..)⟩
     · refine g_region <| l_all 1 [oF] [2, 3, 19, 20, 21, 22] [BF (((i : Int) : Int) < ((l.xs.length : Nat) : Int))] [(2, .func (.func 62) #[] #[]), (3, .pointer (some ⟨z, 0, none⟩)), (qods_3 l), (qods_2 l), (21, .int .i64 (i : Int)), (22, .bool false)] ⟨w, n7, [(old F w), (wrC pw FL ((bs ++ [((l.xs.length : Nat) : Int)]) ++ (l.xs.take i).flatMap encR)), (qods_0 z pw)]⟩ ⟨bf (by omega), trivial⟩ ?_
       refine e_seq <| g_seq <| g_false <| g_exit <| e_out <| e_outI <| e_hit ?_
       -- the function's end
       refine e_end [] [] (.tuple #[]) trivial ?_
       intro w22 hw22
       have hD := wr_end hw22 rfl (show w.heap.size ≤ n7 by omega) rfl (j := 1) rfl (by decide) hw
       rw [show i = l.xs.length from by omega, List.take_length, List.append_assoc] at hD
       exact .inl ⟨(lst_yes (by omega) (fun q hq => hok q (by omega))), rfl, hD⟩
theorem putR_satP {A : AW} {w : World} {i pw : Nat} {F : Nat → Prop} {bs : List Int} {kept : List Ch} (h : Sat A w) (is : List Nat) (hi : A.σ[i]? = some (wrC pw F bs)) (hnd : nodupB is = true) (hp : picks is A.σ = some kept) (hni : is.contains i = false) (l : Sl TRegion) (hd : SlOk TRegion.cells 4 TRegion.ok (Dt w F) w l) (hl : bs.length + 4097 ≤ 2147483647) : Calls Try.prog 61 #[.agg #[.pointer (some ⟨pw, 0, none⟩)], .slice l.a l.xs.length l.cap, .func (.func 62) #[] #[]] w fun e w' => (∃ F', okLst okR l.xs = true ∧ e = .returned (.tuple #[]) ∧ A.n ≤ w'.heap.size ∧ Sat { A with n := w'.heap.size, σ := A.σ.set i (wrC pw F' (bs ++ encLst encR l.xs)) } w') ∨ (okLst okR l.xs = false ∧ e = .panicked wideP ∧ A.n ≤ w'.heap.size ∧ Sat { A with n := w'.heap.size, σ := kept } w') :=
  (putR_calls w pw F bs (h.at hi) l hd hl).mono (fun e w' hP => wrP_sat h hi is hnd hp hni hP)
abbrev qavt_0 (z : Nat) (pw : Nat) : Ch := .blk z (.cells #[.pointer (some ⟨pw, 0, none⟩)] 56 (0, 0)) true
abbrev qavt_1 (b9 : Nat) (o10 : Nat) (l : Sl TPort) : Nat × Value := (19, .slice (some ⟨b9, o10, none⟩) l.xs.length l.cap)
abbrev qavt_2 (l : Sl TPort) : Nat × Value := (20, .int .i64 ((l.xs.length : Nat) : Int))
abbrev qavt_3 (l : Sl TPort) : Nat × Value := (19, .slice l.a l.xs.length l.cap)
theorem putP_calls (w : World) (pw : Nat) (F : Nat → Prop) (bs : List Int) (hw : WrIs w pw F bs) (l : Sl TPort) (hd : SlOk TPort.cells 2 TPort.ok (Dt w F) w l) (hl : bs.length + 1281 ≤ 2147483647) : Calls Try.prog 63 #[.agg #[.pointer (some ⟨pw, 0, none⟩)], .slice l.a l.xs.length l.cap, .func (.func 64) #[] #[]] w fun e w' => WrPostP w pw F bs (okLst okP l.xs) (encLst encP l.xs) e w' := by
 obtain ⟨z, hz⟩ : ∃ z, z = w.heap.size := ⟨_, rfl⟩
 refine calls_G (args := [.agg #[.pointer (some ⟨pw, 0, none⟩)], .slice l.a l.xs.length l.cap, .func (.func 64) #[] #[]]) 30 ⟨w, z, [(old F w), (wrC pw F bs)]⟩ Try.func63 rfl (by kernel_rfl) (by kernel_rfl) (hz ▸ sat_wrC hw) ?_
 have hdl := hd.1.len
 refine g_keep [0, 1, 2] [(0, .agg #[.pointer (some ⟨pw, 0, none⟩)]), (1, .slice l.a l.xs.length l.cap), (2, .func (.func 64) #[] #[])] ?_
 refine g_seq <| g_region <| l_all 1 [o0] [1, 2, 3] [] [(1, .slice l.a l.xs.length l.cap), (2, .func (.func 64) #[] #[]), (3, .pointer (some ⟨z, 0, none⟩))] ⟨w, z + 1, [(old F w), (wrC pw F bs), (qavt_0 z pw)]⟩ trivial ?_
 refine e_seq <| g_seq <| g_seq ?_
 by_cases h1 : (255 : Int) < ((l.xs.length : Nat) : Int)
 · refine g_region <| l_all 3 [o0, o0, oT] [1, 2, 3, 10] [BT ((((l.xs.length : Nat) : Int) : Int) > 255)] [(1, .slice l.a l.xs.length l.cap), (2, .func (.func 64) #[] #[]), (3, .pointer (some ⟨z, 0, none⟩)), (10, .bool true)] ⟨w, z + 1, [(old F w), (wrC pw F bs), (qavt_0 z pw)]⟩ ⟨bt (by omega), trivial⟩ ?_
   refine e_seq <| g_true <| g_region <| l_run 2 [o0, o0] [1, 2, 3, 12] [] [(1, .slice l.a l.xs.length l.cap), (2, .func (.func 64) #[] #[]), (3, .pointer (some ⟨z, 0, none⟩)), (12, .iface 52 (.agg #[]))] ⟨w, z + 1, [(old F w), (wrC pw F bs), (qavt_0 z pw)]⟩ trivial ?_
   refine l_panic (.iface 52 (.agg #[])) ?_
   refine e_panicR ?_
   intro w2 hw2
   refine .inr ⟨(lst_no1 (by omega)), rfl, hw2.back rfl (show w.heap.size ≤ z + 1 by omega) (List.mem_cons_self ..)⟩
 · refine g_region <| l_all 3 [o0, o0, oF] [1, 2, 3, 10] [BF ((((l.xs.length : Nat) : Int) : Int) > 255)] [(1, .slice l.a l.xs.length l.cap), (2, .func (.func 64) #[] #[]), (3, .pointer (some ⟨z, 0, none⟩)), (10, .bool false)] ⟨w, z + 1, [(old F w), (wrC pw F bs), (qavt_0 z pw)]⟩ ⟨bf (by omega), trivial⟩ ?_
   refine e_seq <| g_false <| g_skip <| e_seq <| g_seq <| g_region <| l_run 5 [o0, (oa [.at 2]), o0, o0, (ov (.int .u8 ((l.xs.length : Nat) : Int)))] [1, 2, 3, 14, 17] [Qb z, Value.int .u8 (IntKind.u8.wrap (((l.xs.length : Nat) : Int))) = Value.int .u8 (((l.xs.length : Nat) : Int))] [(1, .slice l.a l.xs.length l.cap), (2, .func (.func 64) #[] #[]), (3, .pointer (some ⟨z, 0, none⟩)), (14, .pointer (some ⟨pw, 0, none⟩)), (17, .int .u8 ((l.xs.length : Nat) : Int))] ⟨w, z + 1, [(old F w), (wrC pw F bs), (qavt_0 z pw)]⟩ ⟨rfl, congrArg (Value.int .u8) (wr_u8 rfl (by omega) (by omega)), trivial⟩ ?_
   refine l_call [] [] 57 #[.pointer (some ⟨pw, 0, none⟩), .int .u8 ((l.xs.length : Nat) : Int)] (some 18) trivial ?_
   intro w3 hw3
   refine (u8_sat hw3 (i := 1) rfl ((l.xs.length : Nat) : Int) (by omega) (by first | omega | (simp only [List.length_append, leB_len, List.length_cons, List.length_nil]; omega))).mono ?_
   rintro e w5 ⟨F4, rfl, hmw5, hSw5⟩; have hnw5 : z + 1 ≤ w5.heap.size := hmw5
   refine ⟨_, _, rfl, hSw5, ?_⟩
   refine l_keep [1, 2, 3] [(1, .slice l.a l.xs.length l.cap), (2, .func (.func 64) #[] #[]), (3, .pointer (some ⟨z, 0, none⟩))] ?_
   refine l_nil (by kernel_rfl) ?_
   refine e_seq <| g_seq <| g_region <| l_all 3 [o0, o0, o0] [2, 3, 19, 20, 21] [] [(2, .func (.func 64) #[] #[]), (3, .pointer (some ⟨z, 0, none⟩)), (qavt_3 l), (qavt_2 l), (21, .int .i64 0)] ⟨w, w5.heap.size, [(old F w), (wrC pw F4 (bs ++ [((l.xs.length : Nat) : Int)])), (qavt_0 z pw)]⟩ trivial ?_
   refine e_seq <| g_block <| g_loop (fun m a w' => ∃ (n7 : Nat) (i : Nat) (FL : Nat → Prop), m = l.xs.length - i ∧ w5.heap.size ≤ n7 ∧ (i ≤ l.xs.length) ∧ (∀ q, q < i → okP (gd l.xs q) = true) ∧ St 30 [(2, .func (.func 64) #[] #[]), (3, .pointer (some ⟨z, 0, none⟩)), (qavt_3 l), (qavt_2 l), (21, .int .i64 (i : Int))] [] ⟨w, n7, [(old F w), (wrC pw FL ((bs ++ [((l.xs.length : Nat) : Int)]) ++ (l.xs.take i).flatMap encP)), (qavt_0 z pw)]⟩ a w') (l.xs.length - 0) ?_ ?_
   · intro a w' hs; exact ⟨w5.heap.size, 0, F4, rfl, Nat.le_refl _, Nat.zero_le _, fun q hq => absurd hq (Nat.not_lt_zero q), by (try dsimp only [qavt_0, qavt_1, qavt_2, qavt_3] at hs ⊢); rw [List.take_zero, List.flatMap_nil, List.append_nil]; exact hs⟩
   · rintro m a w' ⟨n7, i, FL, rfl, hn6, hki, hok, hs⟩
     refine (?_ : G Try.prog 30 [(2, .func (.func 64) #[] #[]), (3, .pointer (some ⟨z, 0, none⟩)), (qavt_3 l), (qavt_2 l), (21, .int .i64 (i : Int))] [] ⟨w, n7, [(old F w), (wrC pw FL ((bs ++ [((l.xs.length : Nat) : Int)]) ++ (l.xs.take i).flatMap encP)), (qavt_0 z pw)]⟩ _ _ _) a w' hs
     clear hs a w'
     have hfl := flat_le (enc := encP) (K := 5) (xs := l.xs) i (by omega) (fun q hq => by rw [encP_len]; exact Nat.le_refl _)
     refine g_seq ?_
     by_cases h8 : ((i : Int) : Int) < ((l.xs.length : Nat) : Int)
     · refine g_region <| l_all 1 [oT] [2, 3, 19, 20, 21, 22] [BT (((i : Int) : Int) < ((l.xs.length : Nat) : Int))] [(2, .func (.func 64) #[] #[]), (3, .pointer (some ⟨z, 0, none⟩)), (qavt_3 l), (qavt_2 l), (21, .int .i64 (i : Int)), (22, .bool true)] ⟨w, n7, [(old F w), (wrC pw FL ((bs ++ [((l.xs.length : Nat) : Int)]) ++ (l.xs.take i).flatMap encP)), (qavt_0 z pw)]⟩ ⟨bt (by omega), trivial⟩ ?_
       refine e_seq <| g_seq <| g_true <| g_skip <| e_seq <| g_seq <| g_block <| g_seq ?_
       obtain ⟨b9, o10, ha11, hF13, hc12⟩ := (hd).1.all (show 0 < l.xs.length by omega)
       replace ha11 : l.a = some ⟨b9, o10, none⟩ := ha11
       refine g_eq [(2, .func (.func 64) #[] #[]), (3, .pointer (some ⟨z, 0, none⟩)), (qavt_1 b9 o10 l), (qavt_2 l), (21, .int .i64 (i : Int)), (22, .bool true)] (by (try dsimp only [qavt_0, qavt_1, qavt_2, qavt_3]); simp only [ha11]) ?_
       have hc14 := hc12 i (show i < l.xs.length by omega)
       have he15 := (hd).2 i (show i < l.xs.length by omega)
       obtain ⟨y16, hy16⟩ : ∃ y_, y_ = gd l.xs i := ⟨_, rfl⟩
       rw [← hy16] at he15 hc14
       refine g_region <| l_all 4 [(oi i), (oa [.via 0 (.int .i64 y16.Channel), .via 0 (.bool y16.Source)]), o0, (oa [.at 3, .at 3])] [2, 3, 19, 20, 21, 7] [((i : Int) : Int) = ((i : Nat) : Int), i < l.xs.length, (none : Option Nat) = none, ∀ w', Ch.holds (old F w) w' → w'.cell? ⟨b9, o10 + i * 2, none⟩ = some (.int .i64 y16.Channel), ∀ w', Ch.holds (old F w) w' → w'.cell? ⟨b9, o10 + i * 2 + 1, none⟩ = some (.bool y16.Source), Qb n7, Qb n7] [(2, .func (.func 64) #[] #[]), (3, .pointer (some ⟨z, 0, none⟩)), (qavt_1 b9 o10 l), (qavt_2 l), (21, .int .i64 (i : Int)), (7, .pointer (some ⟨n7, 0, none⟩))] ⟨w, n7 + 1, [(old F w), (wrC pw FL ((bs ++ [((l.xs.length : Nat) : Int)]) ++ (l.xs.take i).flatMap encP)), (qavt_0 z pw), (.blk n7 (.cells (TPort.arr y16) 101 (0, 0)) true)]⟩ ⟨rfl, (by omega), rfl, oldD_cell hF13 (hc14 0 _ rfl), oldD_cell hF13 (hc14 1 _ rfl), rfl, rfl, trivial⟩ ?_
       refine e_seq <| g_region <| l_run 3 [o0, (oa [.at 2]), (oa [.at 3, .at 3])] [2, 3, 19, 20, 21, 25, 26, 27] [Qb z, Qb n7, Qb n7] [(2, .func (.func 64) #[] #[]), (3, .pointer (some ⟨z, 0, none⟩)), (qavt_1 b9 o10 l), (qavt_2 l), (21, .int .i64 (i : Int)), (25, .func (.func 64) #[] #[]), (26, .agg #[.pointer (some ⟨pw, 0, none⟩)]), (27, .agg (TPort.arr y16))] ⟨w, n7 + 1, [(old F w), (wrC pw FL ((bs ++ [((l.xs.length : Nat) : Int)]) ++ (l.xs.take i).flatMap encP)), (qavt_0 z pw), (.blk n7 (.cells (TPort.arr y16) 101 (0, 0)) true)]⟩ ⟨rfl, rfl, rfl, trivial⟩ ?_
       refine l_callX [] [] 64 #[.agg #[.pointer (some ⟨pw, 0, none⟩)], .agg (TPort.arr y16)] (some 28) trivial ?_
       intro w17 hw17
       refine (port_satP hw17 (i := 1) [0, 2, 3] rfl rfl rfl rfl y16 (by first | omega | (simp only [List.length_append, leB_len, List.length_cons, List.length_nil]; omega))).mono ?_
       rintro e w19 (⟨F18, ho20, rfl, hmw19, hSw19⟩ | ⟨ho20, rfl, hmw19, hSw19⟩)
       · have hnw19 : n7 + 1 ≤ w19.heap.size := hmw19
         refine .inl ⟨_, _, rfl, hSw19, ?_⟩
         refine l_keep [2, 3, 19, 20, 21] [(2, .func (.func 64) #[] #[]), (3, .pointer (some ⟨z, 0, none⟩)), (qavt_1 b9 o10 l), (qavt_2 l), (21, .int .i64 (i : Int))] ?_
         refine l_nil (by kernel_rfl) ?_
         refine e_blk <| e_seq <| g_region <| l_all 2 [(ov (.int .i64 ((i + 1 : Nat) : Int))), o0] [2, 3, 19, 20, 21] [Value.int .i64 (IntKind.i64.wrap (((i : Int) : Int) + 1)) = Value.int .i64 (((i + 1 : Nat) : Int))] [(2, .func (.func 64) #[] #[]), (3, .pointer (some ⟨z, 0, none⟩)), (qavt_1 b9 o10 l), (qavt_2 l), (21, .int .i64 ((i + 1 : Nat) : Int))] ⟨w, w19.heap.size, [(old F w), (wrC pw F18 (((bs ++ [((l.xs.length : Nat) : Int)]) ++ (l.xs.take i).flatMap encP) ++ encP y16)), (qavt_0 z pw), (.blk n7 (.cells (TPort.arr y16) 101 (0, 0)) true)]⟩ ⟨congrArg (Value.int .i64) (wr_i64 (by omega) (by omega) (by omega)), trivial⟩ ?_
         refine e_pick [0, 1, 2] [(old F w), (wrC pw F18 (((bs ++ [((l.xs.length : Nat) : Int)]) ++ (l.xs.take i).flatMap encP) ++ encP y16)), (qavt_0 z pw)] rfl rfl ?_
         refine e_eqk [2, 3, 19, 20, 21] [(2, .func (.func 64) #[] #[]), (3, .pointer (some ⟨z, 0, none⟩)), (qavt_3 l), (qavt_2 l), (21, .int .i64 ((i + 1 : Nat) : Int))] (by (try dsimp only [qavt_0, qavt_1, qavt_2, qavt_3]); simp only [ha11]; rfl) ?_
         refine e_inv (fun a w' hs => ⟨l.xs.length - (i + 1), by omega, w19.heap.size, (i + 1), F18, rfl, by omega, by omega, all_push hok (by rw [← hy16]; exact ho20), by (try dsimp only [qavt_0, qavt_1, qavt_2, qavt_3] at hs ⊢); rw [take_flat (by omega), ← hy16, ← List.append_assoc]; exact hs⟩)
       · have hnw19 : n7 + 1 ≤ w19.heap.size := hmw19
         refine .inr ⟨_, _, rfl, hSw19, ?_⟩
         refine e_panicR ?_
         intro w21 hw21
         refine .inr ⟨(lst_no2 (i := i) (by omega) (by rw [← hy16]; exact ho20)), rfl, hw21.back rfl (show w.heap.size ≤ w19.heap.size by omega) (List.mem_cons_self ..)⟩
     · refine g_region <| l_all 1 [oF] [2, 3, 19, 20, 21, 22] [BF (((i : Int) : Int) < ((l.xs.length : Nat) : Int))] [(2, .func (.func 64) #[] #[]), (3, .pointer (some ⟨z, 0, none⟩)), (qavt_3 l), (qavt_2 l), (21, .int .i64 (i : Int)), (22, .bool false)] ⟨w, n7, [(old F w), (wrC pw FL ((bs ++ [((l.xs.length : Nat) : Int)]) ++ (l.xs.take i).flatMap encP)), (qavt_0 z pw)]⟩ ⟨bf (by omega), trivial⟩ ?_
       refine e_seq <| g_seq <| g_false <| g_exit <| e_out <| e_outI <| e_hit ?_
       -- the function's end
       refine e_end [] [] (.tuple #[]) trivial ?_
       intro w22 hw22
       have hD := wr_end hw22 rfl (show w.heap.size ≤ n7 by omega) rfl (j := 1) rfl (by decide) hw
       rw [show i = l.xs.length from by omega, List.take_length, List.append_assoc] at hD
       exact .inl ⟨(lst_yes (by omega) (fun q hq => hok q (by omega))), rfl, hD⟩
theorem putP_satP {A : AW} {w : World} {i pw : Nat} {F : Nat → Prop} {bs : List Int} {kept : List Ch} (h : Sat A w) (is : List Nat) (hi : A.σ[i]? = some (wrC pw F bs)) (hnd : nodupB is = true) (hp : picks is A.σ = some kept) (hni : is.contains i = false) (l : Sl TPort) (hd : SlOk TPort.cells 2 TPort.ok (Dt w F) w l) (hl : bs.length + 1281 ≤ 2147483647) : Calls Try.prog 63 #[.agg #[.pointer (some ⟨pw, 0, none⟩)], .slice l.a l.xs.length l.cap, .func (.func 64) #[] #[]] w fun e w' => (∃ F', okLst okP l.xs = true ∧ e = .returned (.tuple #[]) ∧ A.n ≤ w'.heap.size ∧ Sat { A with n := w'.heap.size, σ := A.σ.set i (wrC pw F' (bs ++ encLst encP l.xs)) } w') ∨ (okLst okP l.xs = false ∧ e = .panicked wideP ∧ A.n ≤ w'.heap.size ∧ Sat { A with n := w'.heap.size, σ := kept } w') :=
  (putP_calls w pw F bs (h.at hi) l hd hl).mono (fun e w' hP => wrP_sat h hi is hnd hp hni hP)
abbrev q8zu_0 (z : Nat) (pw : Nat) : Ch := .blk z (.cells #[.pointer (some ⟨pw, 0, none⟩)] 56 (0, 0)) true
abbrev q8zu_1 (b9 : Nat) (o10 : Nat) (l : Sl TChannel) : Nat × Value := (19, .slice (some ⟨b9, o10, none⟩) l.xs.length l.cap)
abbrev q8zu_2 (l : Sl TChannel) : Nat × Value := (20, .int .i64 ((l.xs.length : Nat) : Int))
abbrev q8zu_3 (l : Sl TChannel) : Nat × Value := (19, .slice l.a l.xs.length l.cap)
theorem putC_calls (w : World) (pw : Nat) (F : Nat → Prop) (bs : List Int) (hw : WrIs w pw F bs) (l : Sl TChannel) (hd : SlOk TChannel.cells 3 TChannel.ok (Dt w F) w l) (hl : bs.length + 3073 ≤ 2147483647) : Calls Try.prog 31 #[.agg #[.pointer (some ⟨pw, 0, none⟩)], .slice l.a l.xs.length l.cap, .func (.func 32) #[] #[]] w fun e w' => WrPostP w pw F bs (okLst okC l.xs) (encLst encC l.xs) e w' := by
 obtain ⟨z, hz⟩ : ∃ z, z = w.heap.size := ⟨_, rfl⟩
 refine calls_G (args := [.agg #[.pointer (some ⟨pw, 0, none⟩)], .slice l.a l.xs.length l.cap, .func (.func 32) #[] #[]]) 30 ⟨w, z, [(old F w), (wrC pw F bs)]⟩ Try.func31 rfl (by kernel_rfl) (by kernel_rfl) (hz ▸ sat_wrC hw) ?_
 have hdl := hd.1.len
 refine g_keep [0, 1, 2] [(0, .agg #[.pointer (some ⟨pw, 0, none⟩)]), (1, .slice l.a l.xs.length l.cap), (2, .func (.func 32) #[] #[])] ?_
 refine g_seq <| g_region <| l_all 1 [o0] [1, 2, 3] [] [(1, .slice l.a l.xs.length l.cap), (2, .func (.func 32) #[] #[]), (3, .pointer (some ⟨z, 0, none⟩))] ⟨w, z + 1, [(old F w), (wrC pw F bs), (q8zu_0 z pw)]⟩ trivial ?_
 refine e_seq <| g_seq <| g_seq ?_
 by_cases h1 : (255 : Int) < ((l.xs.length : Nat) : Int)
 · refine g_region <| l_all 3 [o0, o0, oT] [1, 2, 3, 10] [BT ((((l.xs.length : Nat) : Int) : Int) > 255)] [(1, .slice l.a l.xs.length l.cap), (2, .func (.func 32) #[] #[]), (3, .pointer (some ⟨z, 0, none⟩)), (10, .bool true)] ⟨w, z + 1, [(old F w), (wrC pw F bs), (q8zu_0 z pw)]⟩ ⟨bt (by omega), trivial⟩ ?_
   refine e_seq <| g_true <| g_region <| l_run 2 [o0, o0] [1, 2, 3, 12] [] [(1, .slice l.a l.xs.length l.cap), (2, .func (.func 32) #[] #[]), (3, .pointer (some ⟨z, 0, none⟩)), (12, .iface 52 (.agg #[]))] ⟨w, z + 1, [(old F w), (wrC pw F bs), (q8zu_0 z pw)]⟩ trivial ?_
   refine l_panic (.iface 52 (.agg #[])) ?_
   refine e_panicR ?_
   intro w2 hw2
   refine .inr ⟨(lst_no1 (by omega)), rfl, hw2.back rfl (show w.heap.size ≤ z + 1 by omega) (List.mem_cons_self ..)⟩
 · refine g_region <| l_all 3 [o0, o0, oF] [1, 2, 3, 10] [BF ((((l.xs.length : Nat) : Int) : Int) > 255)] [(1, .slice l.a l.xs.length l.cap), (2, .func (.func 32) #[] #[]), (3, .pointer (some ⟨z, 0, none⟩)), (10, .bool false)] ⟨w, z + 1, [(old F w), (wrC pw F bs), (q8zu_0 z pw)]⟩ ⟨bf (by omega), trivial⟩ ?_
   refine e_seq <| g_false <| g_skip <| e_seq <| g_seq <| g_region <| l_run 5 [o0, (oa [.at 2]), o0, o0, (ov (.int .u8 ((l.xs.length : Nat) : Int)))] [1, 2, 3, 14, 17] [Qb z, Value.int .u8 (IntKind.u8.wrap (((l.xs.length : Nat) : Int))) = Value.int .u8 (((l.xs.length : Nat) : Int))] [(1, .slice l.a l.xs.length l.cap), (2, .func (.func 32) #[] #[]), (3, .pointer (some ⟨z, 0, none⟩)), (14, .pointer (some ⟨pw, 0, none⟩)), (17, .int .u8 ((l.xs.length : Nat) : Int))] ⟨w, z + 1, [(old F w), (wrC pw F bs), (q8zu_0 z pw)]⟩ ⟨rfl, congrArg (Value.int .u8) (wr_u8 rfl (by omega) (by omega)), trivial⟩ ?_
   refine l_call [] [] 57 #[.pointer (some ⟨pw, 0, none⟩), .int .u8 ((l.xs.length : Nat) : Int)] (some 18) trivial ?_
   intro w3 hw3
   refine (u8_sat hw3 (i := 1) rfl ((l.xs.length : Nat) : Int) (by omega) (by first | omega | (simp only [List.length_append, leB_len, List.length_cons, List.length_nil]; omega))).mono ?_
   rintro e w5 ⟨F4, rfl, hmw5, hSw5⟩; have hnw5 : z + 1 ≤ w5.heap.size := hmw5
   refine ⟨_, _, rfl, hSw5, ?_⟩
   refine l_keep [1, 2, 3] [(1, .slice l.a l.xs.length l.cap), (2, .func (.func 32) #[] #[]), (3, .pointer (some ⟨z, 0, none⟩))] ?_
   refine l_nil (by kernel_rfl) ?_
   refine e_seq <| g_seq <| g_region <| l_all 3 [o0, o0, o0] [2, 3, 19, 20, 21] [] [(2, .func (.func 32) #[] #[]), (3, .pointer (some ⟨z, 0, none⟩)), (q8zu_3 l), (q8zu_2 l), (21, .int .i64 0)] ⟨w, w5.heap.size, [(old F w), (wrC pw F4 (bs ++ [((l.xs.length : Nat) : Int)])), (q8zu_0 z pw)]⟩ trivial ?_
   refine e_seq <| g_block <| g_loop (fun m a w' => ∃ (n7 : Nat) (i : Nat) (FL : Nat → Prop), m = l.xs.length - i ∧ w5.heap.size ≤ n7 ∧ (i ≤ l.xs.length) ∧ (∀ q, q < i → okC (gd l.xs q) = true) ∧ St 30 [(2, .func (.func 32) #[] #[]), (3, .pointer (some ⟨z, 0, none⟩)), (q8zu_3 l), (q8zu_2 l), (21, .int .i64 (i : Int))] [] ⟨w, n7, [(old F w), (wrC pw FL ((bs ++ [((l.xs.length : Nat) : Int)]) ++ (l.xs.take i).flatMap encC)), (q8zu_0 z pw)]⟩ a w') (l.xs.length - 0) ?_ ?_
   · intro a w' hs; exact ⟨w5.heap.size, 0, F4, rfl, Nat.le_refl _, Nat.zero_le _, fun q hq => absurd hq (Nat.not_lt_zero q), by (try dsimp only [q8zu_0, q8zu_1, q8zu_2, q8zu_3] at hs ⊢); rw [List.take_zero, List.flatMap_nil, List.append_nil]; exact hs⟩
   · rintro m a w' ⟨n7, i, FL, rfl, hn6, hki, hok, hs⟩
     refine (?_ : G Try.prog 30 [(2, .func (.func 32) #[] #[]), (3, .pointer (some ⟨z, 0, none⟩)), (q8zu_3 l), (q8zu_2 l), (21, .int .i64 (i : Int))] [] ⟨w, n7, [(old F w), (wrC pw FL ((bs ++ [((l.xs.length : Nat) : Int)]) ++ (l.xs.take i).flatMap encC)), (q8zu_0 z pw)]⟩ _ _ _) a w' hs
     clear hs a w'
     have hfl := flat_le (enc := encC) (K := 12) (xs := l.xs) i (by omega) (fun q hq => by rw [encC_len]; exact Nat.le_refl _)
     refine g_seq ?_
     by_cases h8 : ((i : Int) : Int) < ((l.xs.length : Nat) : Int)
     · refine g_region <| l_all 1 [oT] [2, 3, 19, 20, 21, 22] [BT (((i : Int) : Int) < ((l.xs.length : Nat) : Int))] [(2, .func (.func 32) #[] #[]), (3, .pointer (some ⟨z, 0, none⟩)), (q8zu_3 l), (q8zu_2 l), (21, .int .i64 (i : Int)), (22, .bool true)] ⟨w, n7, [(old F w), (wrC pw FL ((bs ++ [((l.xs.length : Nat) : Int)]) ++ (l.xs.take i).flatMap encC)), (q8zu_0 z pw)]⟩ ⟨bt (by omega), trivial⟩ ?_
       refine e_seq <| g_seq <| g_true <| g_skip <| e_seq <| g_seq <| g_block <| g_seq ?_
       obtain ⟨b9, o10, ha11, hF13, hc12⟩ := (hd).1.all (show 0 < l.xs.length by omega)
       replace ha11 : l.a = some ⟨b9, o10, none⟩ := ha11
       refine g_eq [(2, .func (.func 32) #[] #[]), (3, .pointer (some ⟨z, 0, none⟩)), (q8zu_1 b9 o10 l), (q8zu_2 l), (21, .int .i64 (i : Int)), (22, .bool true)] (by (try dsimp only [q8zu_0, q8zu_1, q8zu_2, q8zu_3]); simp only [ha11]) ?_
       have hc14 := hc12 i (show i < l.xs.length by omega)
       have he15 := (hd).2 i (show i < l.xs.length by omega)
       obtain ⟨y16, hy16⟩ : ∃ y_, y_ = gd l.xs i := ⟨_, rfl⟩
       rw [← hy16] at he15 hc14
       refine g_region <| l_all 4 [(oi i), (oa [.via 0 (.int .i64 y16.Kind), .via 0 (.int .i64 y16.Words), .via 0 (.int .i64 y16.Depth)]), o0, (oa [.at 3, .at 3, .at 3])] [2, 3, 19, 20, 21, 7] [((i : Int) : Int) = ((i : Nat) : Int), i < l.xs.length, (none : Option Nat) = none, ∀ w', Ch.holds (old F w) w' → w'.cell? ⟨b9, o10 + i * 3, none⟩ = some (.int .i64 y16.Kind), ∀ w', Ch.holds (old F w) w' → w'.cell? ⟨b9, o10 + i * 3 + 1, none⟩ = some (.int .i64 y16.Words), ∀ w', Ch.holds (old F w) w' → w'.cell? ⟨b9, o10 + i * 3 + 2, none⟩ = some (.int .i64 y16.Depth), Qb n7, Qb n7, Qb n7] [(2, .func (.func 32) #[] #[]), (3, .pointer (some ⟨z, 0, none⟩)), (q8zu_1 b9 o10 l), (q8zu_2 l), (21, .int .i64 (i : Int)), (7, .pointer (some ⟨n7, 0, none⟩))] ⟨w, n7 + 1, [(old F w), (wrC pw FL ((bs ++ [((l.xs.length : Nat) : Int)]) ++ (l.xs.take i).flatMap encC)), (q8zu_0 z pw), (.blk n7 (.cells (TChannel.arr y16) 74 (0, 0)) true)]⟩ ⟨rfl, (by omega), rfl, oldD_cell hF13 (hc14 0 _ rfl), oldD_cell hF13 (hc14 1 _ rfl), oldD_cell hF13 (hc14 2 _ rfl), rfl, rfl, rfl, trivial⟩ ?_
       refine e_seq <| g_region <| l_run 3 [o0, (oa [.at 2]), (oa [.at 3, .at 3, .at 3])] [2, 3, 19, 20, 21, 25, 26, 27] [Qb z, Qb n7, Qb n7, Qb n7] [(2, .func (.func 32) #[] #[]), (3, .pointer (some ⟨z, 0, none⟩)), (q8zu_1 b9 o10 l), (q8zu_2 l), (21, .int .i64 (i : Int)), (25, .func (.func 32) #[] #[]), (26, .agg #[.pointer (some ⟨pw, 0, none⟩)]), (27, .agg (TChannel.arr y16))] ⟨w, n7 + 1, [(old F w), (wrC pw FL ((bs ++ [((l.xs.length : Nat) : Int)]) ++ (l.xs.take i).flatMap encC)), (q8zu_0 z pw), (.blk n7 (.cells (TChannel.arr y16) 74 (0, 0)) true)]⟩ ⟨rfl, rfl, rfl, rfl, trivial⟩ ?_
       refine l_callX [] [] 32 #[.agg #[.pointer (some ⟨pw, 0, none⟩)], .agg (TChannel.arr y16)] (some 28) trivial ?_
       intro w17 hw17
       refine (channel_satP hw17 (i := 1) [0, 2, 3] rfl rfl rfl rfl y16 (by first | omega | (simp only [List.length_append, leB_len, List.length_cons, List.length_nil]; omega))).mono ?_
       rintro e w19 (⟨F18, ho20, rfl, hmw19, hSw19⟩ | ⟨ho20, rfl, hmw19, hSw19⟩)
       · have hnw19 : n7 + 1 ≤ w19.heap.size := hmw19
         refine .inl ⟨_, _, rfl, hSw19, ?_⟩
         refine l_keep [2, 3, 19, 20, 21] [(2, .func (.func 32) #[] #[]), (3, .pointer (some ⟨z, 0, none⟩)), (q8zu_1 b9 o10 l), (q8zu_2 l), (21, .int .i64 (i : Int))] ?_
         refine l_nil (by kernel_rfl) ?_
         refine e_blk <| e_seq <| g_region <| l_all 2 [(ov (.int .i64 ((i + 1 : Nat) : Int))), o0] [2, 3, 19, 20, 21] [Value.int .i64 (IntKind.i64.wrap (((i : Int) : Int) + 1)) = Value.int .i64 (((i + 1 : Nat) : Int))] [(2, .func (.func 32) #[] #[]), (3, .pointer (some ⟨z, 0, none⟩)), (q8zu_1 b9 o10 l), (q8zu_2 l), (21, .int .i64 ((i + 1 : Nat) : Int))] ⟨w, w19.heap.size, [(old F w), (wrC pw F18 (((bs ++ [((l.xs.length : Nat) : Int)]) ++ (l.xs.take i).flatMap encC) ++ encC y16)), (q8zu_0 z pw), (.blk n7 (.cells (TChannel.arr y16) 74 (0, 0)) true)]⟩ ⟨congrArg (Value.int .i64) (wr_i64 (by omega) (by omega) (by omega)), trivial⟩ ?_
         refine e_pick [0, 1, 2] [(old F w), (wrC pw F18 (((bs ++ [((l.xs.length : Nat) : Int)]) ++ (l.xs.take i).flatMap encC) ++ encC y16)), (q8zu_0 z pw)] rfl rfl ?_
         refine e_eqk [2, 3, 19, 20, 21] [(2, .func (.func 32) #[] #[]), (3, .pointer (some ⟨z, 0, none⟩)), (q8zu_3 l), (q8zu_2 l), (21, .int .i64 ((i + 1 : Nat) : Int))] (by (try dsimp only [q8zu_0, q8zu_1, q8zu_2, q8zu_3]); simp only [ha11]; rfl) ?_
         refine e_inv (fun a w' hs => ⟨l.xs.length - (i + 1), by omega, w19.heap.size, (i + 1), F18, rfl, by omega, by omega, all_push hok (by rw [← hy16]; exact ho20), by (try dsimp only [q8zu_0, q8zu_1, q8zu_2, q8zu_3] at hs ⊢); rw [take_flat (by omega), ← hy16, ← List.append_assoc]; exact hs⟩)
       · have hnw19 : n7 + 1 ≤ w19.heap.size := hmw19
         refine .inr ⟨_, _, rfl, hSw19, ?_⟩
         refine e_panicR ?_
         intro w21 hw21
         refine .inr ⟨(lst_no2 (i := i) (by omega) (by rw [← hy16]; exact ho20)), rfl, hw21.back rfl (show w.heap.size ≤ w19.heap.size by omega) (List.mem_cons_self ..)⟩
     · refine g_region <| l_all 1 [oF] [2, 3, 19, 20, 21, 22] [BF (((i : Int) : Int) < ((l.xs.length : Nat) : Int))] [(2, .func (.func 32) #[] #[]), (3, .pointer (some ⟨z, 0, none⟩)), (q8zu_3 l), (q8zu_2 l), (21, .int .i64 (i : Int)), (22, .bool false)] ⟨w, n7, [(old F w), (wrC pw FL ((bs ++ [((l.xs.length : Nat) : Int)]) ++ (l.xs.take i).flatMap encC)), (q8zu_0 z pw)]⟩ ⟨bf (by omega), trivial⟩ ?_
       refine e_seq <| g_seq <| g_false <| g_exit <| e_out <| e_outI <| e_hit ?_
       -- the function's end
       refine e_end [] [] (.tuple #[]) trivial ?_
       intro w22 hw22
       have hD := wr_end hw22 rfl (show w.heap.size ≤ n7 by omega) rfl (j := 1) rfl (by decide) hw
       rw [show i = l.xs.length from by omega, List.take_length, List.append_assoc] at hD
       exact .inl ⟨(lst_yes (by omega) (fun q hq => hok q (by omega))), rfl, hD⟩
theorem putC_satP {A : AW} {w : World} {i pw : Nat} {F : Nat → Prop} {bs : List Int} {kept : List Ch} (h : Sat A w) (is : List Nat) (hi : A.σ[i]? = some (wrC pw F bs)) (hnd : nodupB is = true) (hp : picks is A.σ = some kept) (hni : is.contains i = false) (l : Sl TChannel) (hd : SlOk TChannel.cells 3 TChannel.ok (Dt w F) w l) (hl : bs.length + 3073 ≤ 2147483647) : Calls Try.prog 31 #[.agg #[.pointer (some ⟨pw, 0, none⟩)], .slice l.a l.xs.length l.cap, .func (.func 32) #[] #[]] w fun e w' => (∃ F', okLst okC l.xs = true ∧ e = .returned (.tuple #[]) ∧ A.n ≤ w'.heap.size ∧ Sat { A with n := w'.heap.size, σ := A.σ.set i (wrC pw F' (bs ++ encLst encC l.xs)) } w') ∨ (okLst okC l.xs = false ∧ e = .panicked wideP ∧ A.n ≤ w'.heap.size ∧ Sat { A with n := w'.heap.size, σ := kept } w') :=
  (putC_calls w pw F bs (h.at hi) l hd hl).mono (fun e w' hP => wrP_sat h hi is hnd hp hni hP)
theorem core_calls (w : World) (pw : Nat) (F : Nat → Prop) (bs : List Int) (hw : WrIs w pw F bs) (l : Sl TWindow) (hd : SlOk TWindow.cells 3 TWindow.ok (Dt w F) w l) (hl : bs.length + 3073 ≤ 2147483647) : Calls Try.prog 28 #[.agg #[.pointer (some ⟨pw, 0, none⟩)], .slice l.a l.xs.length l.cap] w fun e w' => WrPostP w pw F bs (okWs l) (encWs l) e w' := by
 obtain ⟨z, hz⟩ : ∃ z, z = w.heap.size := ⟨_, rfl⟩
 refine calls_G (args := [.agg #[.pointer (some ⟨pw, 0, none⟩)], .slice l.a l.xs.length l.cap]) 7 ⟨w, z, [(old F w), (wrC pw F bs)]⟩ Try.func28 rfl (by kernel_rfl) (by kernel_rfl) (hz ▸ sat_wrC hw) ?_
 refine g_keep [0, 1] [(0, .agg #[.pointer (some ⟨pw, 0, none⟩)]), (1, .slice l.a l.xs.length l.cap)] ?_
 refine g_seq <| g_region <| l_all 1 [o0] [1, 2] [] [(1, .slice l.a l.xs.length l.cap), (2, .pointer (some ⟨z, 0, none⟩))] ⟨w, z + 1, [(old F w), (wrC pw F bs), (.blk z (.cells #[.pointer (some ⟨pw, 0, none⟩)] 56 (0, 0)) true)]⟩ trivial ?_
 refine e_seq <| g_region <| l_run 2 [(oa [.at 2]), o0] [4, 5] [Qb z] [(4, .agg #[.pointer (some ⟨pw, 0, none⟩)]), (5, .slice l.a l.xs.length l.cap)] ⟨w, z + 1, [(old F w), (wrC pw F bs), (.blk z (.cells #[.pointer (some ⟨pw, 0, none⟩)] 56 (0, 0)) true)]⟩ ⟨rfl, trivial⟩ ?_
 refine l_callX [] [] 58 #[.agg #[.pointer (some ⟨pw, 0, none⟩)], .slice l.a l.xs.length l.cap, .func (.func 59) #[] #[]] (some 6) trivial ?_
 intro w1 hw1
 have hew1 := dt_he hw1 (F := F) rfl; have hFw1 := dt_hF hw1 (F := F) rfl (show w.heap.size ≤ z + 1 by omega) (j := 1) rfl rfl (by decide)
 refine (putW_satP hw1 (i := 1) [0, 2] rfl rfl rfl rfl l (slOk_ext hew1 hFw1 hd (fun _ h => TWindow.ok.ext hew1 hFw1 h)) (by first | omega | (simp only [List.length_append, leB_len, List.length_cons, List.length_nil]; omega))).mono ?_
 rintro e w3 (⟨F2, ho4, rfl, hmw3, hSw3⟩ | ⟨ho4, rfl, hmw3, hSw3⟩)
 · have hnw3 : z + 1 ≤ w3.heap.size := hmw3
   refine .inl ⟨_, _, rfl, hSw3, ?_⟩
   refine l_keep [] [] ?_
   refine l_nil (by kernel_rfl) ?_
   -- the function's end
   refine e_end [] [] (.tuple #[]) trivial ?_
   intro w5 hw5
   have hD := wr_end hw5 rfl (show w.heap.size ≤ w3.heap.size by omega) rfl (j := 1) rfl (by decide) hw
   exact .inl ⟨ho4, rfl, hD⟩
 · have hnw3 : z + 1 ≤ w3.heap.size := hmw3
   refine .inr ⟨_, _, rfl, hSw3, ?_⟩
   refine e_panicR ?_
   intro w6 hw6
   refine .inr ⟨ho4, rfl, hw6.back rfl (show w.heap.size ≤ w3.heap.size by omega) (List.mem_cons_self ..)⟩
theorem core_satP {A : AW} {w : World} {i pw : Nat} {F : Nat → Prop} {bs : List Int} {kept : List Ch} (h : Sat A w) (is : List Nat) (hi : A.σ[i]? = some (wrC pw F bs)) (hnd : nodupB is = true) (hp : picks is A.σ = some kept) (hni : is.contains i = false) (l : Sl TWindow) (hd : SlOk TWindow.cells 3 TWindow.ok (Dt w F) w l) (hl : bs.length + 3073 ≤ 2147483647) : Calls Try.prog 28 #[.agg #[.pointer (some ⟨pw, 0, none⟩)], .slice l.a l.xs.length l.cap] w fun e w' => (∃ F', okWs l = true ∧ e = .returned (.tuple #[]) ∧ A.n ≤ w'.heap.size ∧ Sat { A with n := w'.heap.size, σ := A.σ.set i (wrC pw F' (bs ++ encWs l)) } w') ∨ (okWs l = false ∧ e = .panicked wideP ∧ A.n ≤ w'.heap.size ∧ Sat { A with n := w'.heap.size, σ := kept } w') :=
  (core_calls w pw F bs (h.at hi) l hd hl).mono (fun e w' hP => wrP_sat h hi is hnd hp hni hP)
abbrev qxqb_0 (z : Nat) (pw : Nat) : Ch := .blk z (.cells #[.pointer (some ⟨pw, 0, none⟩)] 56 (0, 0)) true
abbrev qxqb_1 (b9 : Nat) (o10 : Nat) (l : Sl (Sl TWindow)) : Nat × Value := (19, .slice (some ⟨b9, o10, none⟩) l.xs.length l.cap)
abbrev qxqb_2 (l : Sl (Sl TWindow)) : Nat × Value := (20, .int .i64 ((l.xs.length : Nat) : Int))
abbrev qxqb_3 (l : Sl (Sl TWindow)) : Nat × Value := (19, .slice l.a l.xs.length l.cap)
theorem putWs_calls (w : World) (pw : Nat) (F : Nat → Prop) (bs : List Int) (hw : WrIs w pw F bs) (l : Sl (Sl TWindow)) (hd : SlOk (fun x : Sl TWindow => [Sl.val x]) 1 (fun F W x => SlOk TWindow.cells 3 TWindow.ok F W x) (Dt w F) w l) (hl : bs.length + 793601 ≤ 2147483647) : Calls Try.prog 27 #[.agg #[.pointer (some ⟨pw, 0, none⟩)], .slice l.a l.xs.length l.cap, .func (.func 28) #[] #[]] w fun e w' => WrPostP w pw F bs (okLst okWs l.xs) (encLst encWs l.xs) e w' := by
 obtain ⟨z, hz⟩ : ∃ z, z = w.heap.size := ⟨_, rfl⟩
 refine calls_G (args := [.agg #[.pointer (some ⟨pw, 0, none⟩)], .slice l.a l.xs.length l.cap, .func (.func 28) #[] #[]]) 30 ⟨w, z, [(old F w), (wrC pw F bs)]⟩ Try.func27 rfl (by kernel_rfl) (by kernel_rfl) (hz ▸ sat_wrC hw) ?_
 have hdl := hd.1.len
 refine g_keep [0, 1, 2] [(0, .agg #[.pointer (some ⟨pw, 0, none⟩)]), (1, .slice l.a l.xs.length l.cap), (2, .func (.func 28) #[] #[])] ?_
 refine g_seq <| g_region <| l_all 1 [o0] [1, 2, 3] [] [(1, .slice l.a l.xs.length l.cap), (2, .func (.func 28) #[] #[]), (3, .pointer (some ⟨z, 0, none⟩))] ⟨w, z + 1, [(old F w), (wrC pw F bs), (qxqb_0 z pw)]⟩ trivial ?_
 refine e_seq <| g_seq <| g_seq ?_
 by_cases h1 : (255 : Int) < ((l.xs.length : Nat) : Int)
 · refine g_region <| l_all 3 [o0, o0, oT] [1, 2, 3, 10] [BT ((((l.xs.length : Nat) : Int) : Int) > 255)] [(1, .slice l.a l.xs.length l.cap), (2, .func (.func 28) #[] #[]), (3, .pointer (some ⟨z, 0, none⟩)), (10, .bool true)] ⟨w, z + 1, [(old F w), (wrC pw F bs), (qxqb_0 z pw)]⟩ ⟨bt (by omega), trivial⟩ ?_
   refine e_seq <| g_true <| g_region <| l_run 2 [o0, o0] [1, 2, 3, 12] [] [(1, .slice l.a l.xs.length l.cap), (2, .func (.func 28) #[] #[]), (3, .pointer (some ⟨z, 0, none⟩)), (12, .iface 52 (.agg #[]))] ⟨w, z + 1, [(old F w), (wrC pw F bs), (qxqb_0 z pw)]⟩ trivial ?_
   refine l_panic (.iface 52 (.agg #[])) ?_
   refine e_panicR ?_
   intro w2 hw2
   refine .inr ⟨(lst_no1 (by omega)), rfl, hw2.back rfl (show w.heap.size ≤ z + 1 by omega) (List.mem_cons_self ..)⟩
 · refine g_region <| l_all 3 [o0, o0, oF] [1, 2, 3, 10] [BF ((((l.xs.length : Nat) : Int) : Int) > 255)] [(1, .slice l.a l.xs.length l.cap), (2, .func (.func 28) #[] #[]), (3, .pointer (some ⟨z, 0, none⟩)), (10, .bool false)] ⟨w, z + 1, [(old F w), (wrC pw F bs), (qxqb_0 z pw)]⟩ ⟨bf (by omega), trivial⟩ ?_
   refine e_seq <| g_false <| g_skip <| e_seq <| g_seq <| g_region <| l_run 5 [o0, (oa [.at 2]), o0, o0, (ov (.int .u8 ((l.xs.length : Nat) : Int)))] [1, 2, 3, 14, 17] [Qb z, Value.int .u8 (IntKind.u8.wrap (((l.xs.length : Nat) : Int))) = Value.int .u8 (((l.xs.length : Nat) : Int))] [(1, .slice l.a l.xs.length l.cap), (2, .func (.func 28) #[] #[]), (3, .pointer (some ⟨z, 0, none⟩)), (14, .pointer (some ⟨pw, 0, none⟩)), (17, .int .u8 ((l.xs.length : Nat) : Int))] ⟨w, z + 1, [(old F w), (wrC pw F bs), (qxqb_0 z pw)]⟩ ⟨rfl, congrArg (Value.int .u8) (wr_u8 rfl (by omega) (by omega)), trivial⟩ ?_
   refine l_call [] [] 57 #[.pointer (some ⟨pw, 0, none⟩), .int .u8 ((l.xs.length : Nat) : Int)] (some 18) trivial ?_
   intro w3 hw3
   refine (u8_sat hw3 (i := 1) rfl ((l.xs.length : Nat) : Int) (by omega) (by first | omega | (simp only [List.length_append, leB_len, List.length_cons, List.length_nil]; omega))).mono ?_
   rintro e w5 ⟨F4, rfl, hmw5, hSw5⟩; have hnw5 : z + 1 ≤ w5.heap.size := hmw5
   refine ⟨_, _, rfl, hSw5, ?_⟩
   refine l_keep [1, 2, 3] [(1, .slice l.a l.xs.length l.cap), (2, .func (.func 28) #[] #[]), (3, .pointer (some ⟨z, 0, none⟩))] ?_
   refine l_nil (by kernel_rfl) ?_
   refine e_seq <| g_seq <| g_region <| l_all 3 [o0, o0, o0] [2, 3, 19, 20, 21] [] [(2, .func (.func 28) #[] #[]), (3, .pointer (some ⟨z, 0, none⟩)), (qxqb_3 l), (qxqb_2 l), (21, .int .i64 0)] ⟨w, w5.heap.size, [(old F w), (wrC pw F4 (bs ++ [((l.xs.length : Nat) : Int)])), (qxqb_0 z pw)]⟩ trivial ?_
   refine e_seq <| g_block <| g_loop (fun m a w' => ∃ (n7 : Nat) (i : Nat) (FL : Nat → Prop), m = l.xs.length - i ∧ w5.heap.size ≤ n7 ∧ (i ≤ l.xs.length) ∧ (∀ q, q < i → okWs (gd l.xs q) = true) ∧ St 30 [(2, .func (.func 28) #[] #[]), (3, .pointer (some ⟨z, 0, none⟩)), (qxqb_3 l), (qxqb_2 l), (21, .int .i64 (i : Int))] [] ⟨w, n7, [(old F w), (wrC pw FL ((bs ++ [((l.xs.length : Nat) : Int)]) ++ (l.xs.take i).flatMap encWs)), (qxqb_0 z pw)]⟩ a w') (l.xs.length - 0) ?_ ?_
   · intro a w' hs; exact ⟨w5.heap.size, 0, F4, rfl, Nat.le_refl _, Nat.zero_le _, fun q hq => absurd hq (Nat.not_lt_zero q), by (try dsimp only [qxqb_0, qxqb_1, qxqb_2, qxqb_3] at hs ⊢); rw [List.take_zero, List.flatMap_nil, List.append_nil]; exact hs⟩
   · rintro m a w' ⟨n7, i, FL, rfl, hn6, hki, hok, hs⟩
     refine (?_ : G Try.prog 30 [(2, .func (.func 28) #[] #[]), (3, .pointer (some ⟨z, 0, none⟩)), (qxqb_3 l), (qxqb_2 l), (21, .int .i64 (i : Int))] [] ⟨w, n7, [(old F w), (wrC pw FL ((bs ++ [((l.xs.length : Nat) : Int)]) ++ (l.xs.take i).flatMap encWs)), (qxqb_0 z pw)]⟩ _ _ _) a w' hs
     clear hs a w'
     have hfl := flat_le (enc := encWs) (K := 3100) (xs := l.xs) i (by omega) (fun q hq => Nat.le_trans (encWs_le (hok q hq)) (by decide))
     refine g_seq ?_
     by_cases h8 : ((i : Int) : Int) < ((l.xs.length : Nat) : Int)
     · refine g_region <| l_all 1 [oT] [2, 3, 19, 20, 21, 22] [BT (((i : Int) : Int) < ((l.xs.length : Nat) : Int))] [(2, .func (.func 28) #[] #[]), (3, .pointer (some ⟨z, 0, none⟩)), (qxqb_3 l), (qxqb_2 l), (21, .int .i64 (i : Int)), (22, .bool true)] ⟨w, n7, [(old F w), (wrC pw FL ((bs ++ [((l.xs.length : Nat) : Int)]) ++ (l.xs.take i).flatMap encWs)), (qxqb_0 z pw)]⟩ ⟨bt (by omega), trivial⟩ ?_
       refine e_seq <| g_seq <| g_true <| g_skip <| e_seq <| g_seq <| g_block <| g_seq ?_
       obtain ⟨b9, o10, ha11, hF13, hc12⟩ := (hd).1.all (show 0 < l.xs.length by omega)
       replace ha11 : l.a = some ⟨b9, o10, none⟩ := ha11
       refine g_eq [(2, .func (.func 28) #[] #[]), (3, .pointer (some ⟨z, 0, none⟩)), (qxqb_1 b9 o10 l), (qxqb_2 l), (21, .int .i64 (i : Int)), (22, .bool true)] (by (try dsimp only [qxqb_0, qxqb_1, qxqb_2, qxqb_3]); simp only [ha11]) ?_
       have hc14 := hc12 i (show i < l.xs.length by omega)
       have he15 := (hd).2 i (show i < l.xs.length by omega)
       obtain ⟨y16, hy16⟩ : ∃ y_, y_ = gd l.xs i := ⟨_, rfl⟩
       rw [← hy16] at he15 hc14
       refine g_region <| l_all 3 [(oi i), (oa [.via 0 (.slice y16.a y16.xs.length y16.cap)]), o0] [2, 3, 19, 20, 21, 7] [((i : Int) : Int) = ((i : Nat) : Int), i < l.xs.length, (none : Option Nat) = none, ∀ w', Ch.holds (old F w) w' → w'.cell? ⟨b9, o10 + i, none⟩ = some (.slice y16.a y16.xs.length y16.cap)] [(2, .func (.func 28) #[] #[]), (3, .pointer (some ⟨z, 0, none⟩)), (qxqb_1 b9 o10 l), (qxqb_2 l), (21, .int .i64 (i : Int)), (7, .slice y16.a y16.xs.length y16.cap)] ⟨w, n7, [(old F w), (wrC pw FL ((bs ++ [((l.xs.length : Nat) : Int)]) ++ (l.xs.take i).flatMap encWs)), (qxqb_0 z pw)]⟩ ⟨rfl, (by omega), rfl, oldD_cell hF13 (hc14 0 _ rfl), trivial⟩ ?_
       refine e_seq <| g_region <| l_run 3 [o0, (oa [.at 2]), o0] [2, 3, 19, 20, 21, 25, 26, 27] [Qb z] [(2, .func (.func 28) #[] #[]), (3, .pointer (some ⟨z, 0, none⟩)), (qxqb_1 b9 o10 l), (qxqb_2 l), (21, .int .i64 (i : Int)), (25, .func (.func 28) #[] #[]), (26, .agg #[.pointer (some ⟨pw, 0, none⟩)]), (27, .slice y16.a y16.xs.length y16.cap)] ⟨w, n7, [(old F w), (wrC pw FL ((bs ++ [((l.xs.length : Nat) : Int)]) ++ (l.xs.take i).flatMap encWs)), (qxqb_0 z pw)]⟩ ⟨rfl, trivial⟩ ?_
       refine l_callX [] [] 28 #[.agg #[.pointer (some ⟨pw, 0, none⟩)], .slice y16.a y16.xs.length y16.cap] (some 28) trivial ?_
       intro w17 hw17
       have hew17 := dt_he hw17 (F := F) rfl; have hFw17 := dt_hF hw17 (F := F) rfl (show w.heap.size ≤ n7 by omega) (j := 1) rfl rfl (by decide)
       refine (core_satP hw17 (i := 1) [0, 2] rfl rfl rfl rfl y16 (slOk_ext hew17 hFw17 he15 (fun _ h => TWindow.ok.ext hew17 hFw17 h)) (by first | omega | (simp only [List.length_append, leB_len, List.length_cons, List.length_nil]; omega))).mono ?_
       rintro e w19 (⟨F18, ho20, rfl, hmw19, hSw19⟩ | ⟨ho20, rfl, hmw19, hSw19⟩)
       · have hnw19 : n7 ≤ w19.heap.size := hmw19
         refine .inl ⟨_, _, rfl, hSw19, ?_⟩
         refine l_keep [2, 3, 19, 20, 21] [(2, .func (.func 28) #[] #[]), (3, .pointer (some ⟨z, 0, none⟩)), (qxqb_1 b9 o10 l), (qxqb_2 l), (21, .int .i64 (i : Int))] ?_
         refine l_nil (by kernel_rfl) ?_
         refine e_blk <| e_seq <| g_region <| l_all 2 [(ov (.int .i64 ((i + 1 : Nat) : Int))), o0] [2, 3, 19, 20, 21] [Value.int .i64 (IntKind.i64.wrap (((i : Int) : Int) + 1)) = Value.int .i64 (((i + 1 : Nat) : Int))] [(2, .func (.func 28) #[] #[]), (3, .pointer (some ⟨z, 0, none⟩)), (qxqb_1 b9 o10 l), (qxqb_2 l), (21, .int .i64 ((i + 1 : Nat) : Int))] ⟨w, w19.heap.size, [(old F w), (wrC pw F18 (((bs ++ [((l.xs.length : Nat) : Int)]) ++ (l.xs.take i).flatMap encWs) ++ encWs y16)), (qxqb_0 z pw)]⟩ ⟨congrArg (Value.int .i64) (wr_i64 (by omega) (by omega) (by omega)), trivial⟩ ?_
         refine e_eqk [2, 3, 19, 20, 21] [(2, .func (.func 28) #[] #[]), (3, .pointer (some ⟨z, 0, none⟩)), (qxqb_3 l), (qxqb_2 l), (21, .int .i64 ((i + 1 : Nat) : Int))] (by (try dsimp only [qxqb_0, qxqb_1, qxqb_2, qxqb_3]); simp only [ha11]; rfl) ?_
         refine e_inv (fun a w' hs => ⟨l.xs.length - (i + 1), by omega, w19.heap.size, (i + 1), F18, rfl, by omega, by omega, all_push hok (by rw [← hy16]; exact ho20), by (try dsimp only [qxqb_0, qxqb_1, qxqb_2, qxqb_3] at hs ⊢); rw [take_flat (by omega), ← hy16, ← List.append_assoc]; exact hs⟩)
       · have hnw19 : n7 ≤ w19.heap.size := hmw19
         refine .inr ⟨_, _, rfl, hSw19, ?_⟩
         refine e_panicR ?_
         intro w21 hw21
         refine .inr ⟨(lst_no2 (i := i) (by omega) (by rw [← hy16]; exact ho20)), rfl, hw21.back rfl (show w.heap.size ≤ w19.heap.size by omega) (List.mem_cons_self ..)⟩
     · refine g_region <| l_all 1 [oF] [2, 3, 19, 20, 21, 22] [BF (((i : Int) : Int) < ((l.xs.length : Nat) : Int))] [(2, .func (.func 28) #[] #[]), (3, .pointer (some ⟨z, 0, none⟩)), (qxqb_3 l), (qxqb_2 l), (21, .int .i64 (i : Int)), (22, .bool false)] ⟨w, n7, [(old F w), (wrC pw FL ((bs ++ [((l.xs.length : Nat) : Int)]) ++ (l.xs.take i).flatMap encWs)), (qxqb_0 z pw)]⟩ ⟨bf (by omega), trivial⟩ ?_
       refine e_seq <| g_seq <| g_false <| g_exit <| e_out <| e_outI <| e_hit ?_
       -- the function's end
       refine e_end [] [] (.tuple #[]) trivial ?_
       intro w22 hw22
       have hD := wr_end hw22 rfl (show w.heap.size ≤ n7 by omega) rfl (j := 1) rfl (by decide) hw
       rw [show i = l.xs.length from by omega, List.take_length, List.append_assoc] at hD
       exact .inl ⟨(lst_yes (by omega) (fun q hq => hok q (by omega))), rfl, hD⟩
theorem putWs_satP {A : AW} {w : World} {i pw : Nat} {F : Nat → Prop} {bs : List Int} {kept : List Ch} (h : Sat A w) (is : List Nat) (hi : A.σ[i]? = some (wrC pw F bs)) (hnd : nodupB is = true) (hp : picks is A.σ = some kept) (hni : is.contains i = false) (l : Sl (Sl TWindow)) (hd : SlOk (fun x : Sl TWindow => [Sl.val x]) 1 (fun F W x => SlOk TWindow.cells 3 TWindow.ok F W x) (Dt w F) w l) (hl : bs.length + 793601 ≤ 2147483647) : Calls Try.prog 27 #[.agg #[.pointer (some ⟨pw, 0, none⟩)], .slice l.a l.xs.length l.cap, .func (.func 28) #[] #[]] w fun e w' => (∃ F', okLst okWs l.xs = true ∧ e = .returned (.tuple #[]) ∧ A.n ≤ w'.heap.size ∧ Sat { A with n := w'.heap.size, σ := A.σ.set i (wrC pw F' (bs ++ encLst encWs l.xs)) } w') ∨ (okLst okWs l.xs = false ∧ e = .panicked wideP ∧ A.n ≤ w'.heap.size ∧ Sat { A with n := w'.heap.size, σ := kept } w') :=
  (putWs_calls w pw F bs (h.at hi) l hd hl).mono (fun e w' hP => wrP_sat h hi is hnd hp hni hP)
abbrev q90v_0 (z : Nat) (pw : Nat) : Ch := .blk z (.cells #[.pointer (some ⟨pw, 0, none⟩)] 56 (0, 0)) true
abbrev q90v_1 (z : Nat) (x : TPartition) : Ch := .blk (z + 1) (.cells (TPartition.arr x) 69 (0, 0)) true
abbrev q90v_2 (x : TPartition) : Nat × Value := (20, .agg #[.int .i64 x.Entry, .int .i64 x.Action, .int .i64 x.Restarts, .int .i64 x.Inputs, .int .i64 x.Outputs])
abbrev q90v_3 (z : Nat) : Nat × Value := (3, .pointer (some ⟨z + 1, 0, none⟩))
theorem partition_calls (w : World) (pw : Nat) (F : Nat → Prop) (bs : List Int) (hw : WrIs w pw F bs) (x : TPartition) (hx : TPartition.ok (Dt w F) w x) (hl : bs.length + 7000 ≤ 2147483647) : Calls Try.prog 30 #[.agg #[.pointer (some ⟨pw, 0, none⟩)], .agg (TPartition.arr x)] w fun e w' => WrPostP w pw F bs (okPt x) (encPt x) e w' := by
 obtain ⟨z, hz⟩ : ∃ z, z = w.heap.size := ⟨_, rfl⟩
 refine calls_G (args := [.agg #[.pointer (some ⟨pw, 0, none⟩)], .agg (TPartition.arr x)]) 36 ⟨w, z, [(old F w), (wrC pw F bs)]⟩ Try.func30 rfl (by kernel_rfl) (by kernel_rfl) (hz ▸ sat_wrC hw) ?_
 refine g_keep [0, 1] [(0, .agg #[.pointer (some ⟨pw, 0, none⟩)]), (1, .agg (TPartition.arr x))] ?_
 refine g_seq <| g_region <| l_all 2 [o0, o0] [2, 3] [] [(2, .pointer (some ⟨z, 0, none⟩)), (q90v_3 z)] ⟨w, z + 2, [(old F w), (wrC pw F bs), (q90v_0 z pw), (q90v_1 z x)]⟩ trivial ?_
 refine e_seq <| g_seq <| g_region <| l_run 3 [(oa [.at 2]), o0, (oa [.at 3])] [2, 3, 6, 8] [Qb z, Qb (z + 1)] [(2, .pointer (some ⟨z, 0, none⟩)), (q90v_3 z), (6, .agg #[.pointer (some ⟨pw, 0, none⟩)]), (8, .string x.Name)] ⟨w, z + 2, [(old F w), (wrC pw F bs), (q90v_0 z pw), (q90v_1 z x)]⟩ ⟨rfl, rfl, trivial⟩ ?_
 refine l_callX [] [] 60 #[.agg #[.pointer (some ⟨pw, 0, none⟩)], .string x.Name] (some 9) trivial ?_
 intro w1 hw1
 refine (name_satP hw1 (i := 1) [0, 2, 3] rfl rfl rfl rfl x.Name (by first | omega | (simp only [List.length_append, leB_len, List.length_cons, List.length_nil]; omega))).mono ?_
 rintro e w3 (⟨F2, ho4, rfl, hmw3, hSw3⟩ | ⟨ho4, rfl, hmw3, hSw3⟩)
 · have hnw3 : z + 2 ≤ w3.heap.size := hmw3
   have hnm := of_decide_eq_true ho4; have hnl := encName_len x.Name
   refine .inl ⟨_, _, rfl, hSw3, ?_⟩
   refine l_keep [2, 3] [(2, .pointer (some ⟨z, 0, none⟩)), (q90v_3 z)] ?_
   refine l_nil (by kernel_rfl) ?_
   refine e_seq <| g_seq <| g_seq <| g_region <| l_all 12 [o0, (oa [.at 3]), o0, (oa [.at 3]), o0, (oa [.at 3]), o0, (oa [.at 3]), o0, (oa [.at 3]), o0, o0] [2, 3, 20, 21] [Qb (z + 1), Qb (z + 1), Qb (z + 1), Qb (z + 1), Qb (z + 1)] [(2, .pointer (some ⟨z, 0, none⟩)), (q90v_3 z), (q90v_2 x), (21, .int .i64 0)] ⟨w, w3.heap.size, [(old F w), (wrC pw F2 (bs ++ encName x.Name)), (q90v_0 z pw), (q90v_1 z x)]⟩ ⟨rfl, rfl, rfl, rfl, rfl, trivial⟩ ?_
   refine e_seq <| g_block <| g_loop (fun m a w' => ∃ (n6 : Nat) (i : Nat) (FL : Nat → Prop), m = 5 - i ∧ w3.heap.size ≤ n6 ∧ (i ≤ 5) ∧ (∀ q, q < i → okNum (gd (ns5 x) q) = true) ∧ St 36 [(2, .pointer (some ⟨z, 0, none⟩)), (q90v_3 z), (q90v_2 x), (21, .int .i64 (i : Int))] [] ⟨w, n6, [(old F w), (wrC pw FL ((bs ++ encName x.Name) ++ ((ns5 x).take i).flatMap (fun n => leB n 4))), (q90v_0 z pw), (q90v_1 z x)]⟩ a w') (5 - 0) ?_ ?_
   · intro a w' hs; exact ⟨w3.heap.size, 0, F2, rfl, Nat.le_refl _, Nat.zero_le _, fun q hq => absurd hq (Nat.not_lt_zero q), by (try dsimp only [q90v_0, q90v_1, q90v_2, q90v_3] at hs ⊢); rw [List.take_zero, List.flatMap_nil, List.append_nil]; exact hs⟩
   · rintro m a w' ⟨n6, i, FL, rfl, hn5, hki, hok5, hs⟩
     refine (?_ : G Try.prog 36 [(2, .pointer (some ⟨z, 0, none⟩)), (q90v_3 z), (q90v_2 x), (21, .int .i64 (i : Int))] [] ⟨w, n6, [(old F w), (wrC pw FL ((bs ++ encName x.Name) ++ ((ns5 x).take i).flatMap (fun n => leB n 4))), (q90v_0 z pw), (q90v_1 z x)]⟩ _ _ _) a w' hs
     clear hs a w'
     have hfl := flat_le (enc := fun n => leB n 4) (K := 4) (xs := ns5 x) i (by show i ≤ 5; omega) (fun q hq => by rw [leB_len]; exact Nat.le_refl _)
     refine g_seq ?_
     by_cases h7 : ((i : Int) : Int) < 5
     · refine g_region <| l_all 1 [oT] [2, 3, 20, 21, 22] [BT (((i : Int) : Int) < 5)] [(2, .pointer (some ⟨z, 0, none⟩)), (q90v_3 z), (q90v_2 x), (21, .int .i64 (i : Int)), (22, .bool true)] ⟨w, n6, [(old F w), (wrC pw FL ((bs ++ encName x.Name) ++ ((ns5 x).take i).flatMap (fun n => leB n 4))), (q90v_0 z pw), (q90v_1 z x)]⟩ ⟨bt (by omega), trivial⟩ ?_
       refine e_seq <| g_seq <| g_true <| g_skip <| e_seq <| g_seq <| g_block <| g_seq <| g_region <| l_all 2 [⟨.aidx i (.int .i64 (gd (ns5 x) i)), none⟩, o0] [2, 3, 20, 21, 5] [((i : Int) : Int) = ((i : Nat) : Int), i < 5, (#[.int .i64 x.Entry, .int .i64 x.Action, .int .i64 x.Restarts, .int .i64 x.Inputs, .int .i64 x.Outputs] : Array Value)[offs 1 i]? = some (.int .i64 (gd (ns5 x) i))] [(2, .pointer (some ⟨z, 0, none⟩)), (q90v_3 z), (q90v_2 x), (21, .int .i64 (i : Int)), (5, .int .i64 (gd (ns5 x) i))] ⟨w, n6, [(old F w), (wrC pw FL ((bs ++ encName x.Name) ++ ((ns5 x).take i).flatMap (fun n => leB n 4))), (q90v_0 z pw), (q90v_1 z x)]⟩ ⟨rfl, (by omega), (gd5 (by omega)), trivial⟩ ?_
       refine e_seq <| g_region <| l_run 2 [(oa [.at 2]), o0] [2, 3, 20, 21, 24, 25] [Qb z] [(2, .pointer (some ⟨z, 0, none⟩)), (q90v_3 z), (q90v_2 x), (21, .int .i64 (i : Int)), (24, .agg #[.pointer (some ⟨pw, 0, none⟩)]), (25, .int .i64 (gd (ns5 x) i))] ⟨w, n6, [(old F w), (wrC pw FL ((bs ++ encName x.Name) ++ ((ns5 x).take i).flatMap (fun n => leB n 4))), (q90v_0 z pw), (q90v_1 z x)]⟩ ⟨rfl, trivial⟩ ?_
       refine l_callX [] [] 26 #[.agg #[.pointer (some ⟨pw, 0, none⟩)], .int .i64 (gd (ns5 x) i)] (some 26) trivial ?_
       intro w8 hw8
       refine (number_satP hw8 (i := 1) [0, 2, 3] rfl rfl rfl rfl (gd (ns5 x) i) (by first | omega | (simp only [List.length_append, leB_len, List.length_cons, List.length_nil]; omega))).mono ?_
       rintro e w10 (⟨F9, ho11, rfl, hmw10, hSw10⟩ | ⟨ho11, rfl, hmw10, hSw10⟩)
       · have hnw10 : n6 ≤ w10.heap.size := hmw10
         refine .inl ⟨_, _, rfl, hSw10, ?_⟩
         refine l_keep [2, 3, 20, 21] [(2, .pointer (some ⟨z, 0, none⟩)), (q90v_3 z), (q90v_2 x), (21, .int .i64 (i : Int))] ?_
         refine l_nil (by kernel_rfl) ?_
         refine e_blk <| e_seq <| g_region <| l_all 2 [(ov (.int .i64 ((i + 1 : Nat) : Int))), o0] [2, 3, 20, 21] [Value.int .i64 (IntKind.i64.wrap (((i : Int) : Int) + 1)) = Value.int .i64 (((i + 1 : Nat) : Int))] [(2, .pointer (some ⟨z, 0, none⟩)), (q90v_3 z), (q90v_2 x), (21, .int .i64 ((i + 1 : Nat) : Int))] ⟨w, w10.heap.size, [(old F w), (wrC pw F9 (((bs ++ encName x.Name) ++ ((ns5 x).take i).flatMap (fun n => leB n 4)) ++ leB (gd (ns5 x) i) 4)), (q90v_0 z pw), (q90v_1 z x)]⟩ ⟨congrArg (Value.int .i64) (wr_i64 (by omega) (by omega) (by omega)), trivial⟩ ?_
         refine e_keep [2, 3, 20, 21] [(2, .pointer (some ⟨z, 0, none⟩)), (q90v_3 z), (q90v_2 x), (21, .int .i64 ((i + 1 : Nat) : Int))] ?_
         refine e_inv (fun a w' hs => ⟨5 - (i + 1), by omega, w10.heap.size, (i + 1), F9, rfl, by omega, by omega, all_push hok5 ho11, by (try dsimp only [q90v_0, q90v_1, q90v_2, q90v_3] at hs ⊢); rw [take_flat (by show i < 5; omega), ← List.append_assoc]; exact hs⟩)
       · have hnw10 : n6 ≤ w10.heap.size := hmw10
         refine .inr ⟨_, _, rfl, hSw10, ?_⟩
         refine e_panicR ?_
         intro w12 hw12
         refine .inr ⟨(by unfold okPt; rw [all_no (xs := ns5 x) (i := i) (by show i < 5; omega) ho11]; simp), rfl, hw12.back rfl (show w.heap.size ≤ w10.heap.size by omega) (List.mem_cons_self ..)⟩
     · refine g_region <| l_all 1 [oF] [2, 3, 20, 21, 22] [BF (((i : Int) : Int) < 5)] [(2, .pointer (some ⟨z, 0, none⟩)), (q90v_3 z), (q90v_2 x), (21, .int .i64 (i : Int)), (22, .bool false)] ⟨w, n6, [(old F w), (wrC pw FL ((bs ++ encName x.Name) ++ ((ns5 x).take i).flatMap (fun n => leB n 4))), (q90v_0 z pw), (q90v_1 z x)]⟩ ⟨bf (by omega), trivial⟩ ?_
       refine e_seq <| g_seq <| g_false <| g_exit <| e_out <| e_outI <| e_hit <| e_seq <| g_seq <| g_region <| l_run 3 [(oa [.at 2]), o0, (oa [.at 3])] [2, 3, 28, 30] [Qb z, Qb (z + 1)] [(2, .pointer (some ⟨z, 0, none⟩)), (q90v_3 z), (28, .agg #[.pointer (some ⟨pw, 0, none⟩)]), (30, .slice x.Regions.a x.Regions.xs.length x.Regions.cap)] ⟨w, n6, [(old F w), (wrC pw FL ((bs ++ encName x.Name) ++ ((ns5 x).take i).flatMap (fun n => leB n 4))), (q90v_0 z pw), (q90v_1 z x)]⟩ ⟨rfl, rfl, trivial⟩ ?_
       refine l_callX [] [] 61 #[.agg #[.pointer (some ⟨pw, 0, none⟩)], .slice x.Regions.a x.Regions.xs.length x.Regions.cap, .func (.func 62) #[] #[]] (some 31) trivial ?_
       intro w13 hw13
       have hew13 := dt_he hw13 (F := F) rfl; have hFw13 := dt_hF hw13 (F := F) rfl (show w.heap.size ≤ n6 by omega) (j := 1) rfl rfl (by decide)
       refine (putR_satP hw13 (i := 1) [0, 2, 3] rfl rfl rfl rfl x.Regions (slOk_ext hew13 hFw13 hx.Regions (fun _ h => TRegion.ok.ext hew13 hFw13 h)) (by first | omega | (simp only [List.length_append, leB_len, List.length_cons, List.length_nil]; omega))).mono ?_
       rintro e w15 (⟨F14, ho16, rfl, hmw15, hSw15⟩ | ⟨ho16, rfl, hmw15, hSw15⟩)
       · have hnw15 : n6 ≤ w15.heap.size := hmw15
         have hrn := okLst_len ho16; have hrl := encLst_le (enc := encR) (K := 16) (xs := x.Regions.xs) (fun q _ => by rw [encR_len]; exact Nat.le_refl _)
         refine .inl ⟨_, _, rfl, hSw15, ?_⟩
         refine l_keep [2, 3] [(2, .pointer (some ⟨z, 0, none⟩)), (q90v_3 z)] ?_
         refine l_nil (by kernel_rfl) ?_
         refine e_seq <| g_region <| l_run 3 [(oa [.at 2]), o0, (oa [.at 3])] [32, 34] [Qb z, Qb (z + 1)] [(32, .agg #[.pointer (some ⟨pw, 0, none⟩)]), (34, .slice x.Ports.a x.Ports.xs.length x.Ports.cap)] ⟨w, w15.heap.size, [(old F w), (wrC pw F14 (((bs ++ encName x.Name) ++ ((ns5 x).take i).flatMap (fun n => leB n 4)) ++ encLst encR x.Regions.xs)), (q90v_0 z pw), (q90v_1 z x)]⟩ ⟨rfl, rfl, trivial⟩ ?_
         refine l_callX [] [] 63 #[.agg #[.pointer (some ⟨pw, 0, none⟩)], .slice x.Ports.a x.Ports.xs.length x.Ports.cap, .func (.func 64) #[] #[]] (some 35) trivial ?_
         intro w17 hw17
         have hew17 := dt_he hw17 (F := F) rfl; have hFw17 := dt_hF hw17 (F := F) rfl (show w.heap.size ≤ w15.heap.size by omega) (j := 1) rfl rfl (by decide)
         refine (putP_satP hw17 (i := 1) [0, 2, 3] rfl rfl rfl rfl x.Ports (slOk_ext hew17 hFw17 hx.Ports (fun _ h => TPort.ok.ext hew17 hFw17 h)) (by first | omega | (simp only [List.length_append, leB_len, List.length_cons, List.length_nil]; omega))).mono ?_
         rintro e w19 (⟨F18, ho20, rfl, hmw19, hSw19⟩ | ⟨ho20, rfl, hmw19, hSw19⟩)
         · have hnw19 : w15.heap.size ≤ w19.heap.size := hmw19
           refine .inl ⟨_, _, rfl, hSw19, ?_⟩
           refine l_keep [] [] ?_
           refine l_nil (by kernel_rfl) ?_
           -- the function's end
           refine e_end [] [] (.tuple #[]) trivial ?_
           intro w21 hw21
           have hD := wr_end hw21 rfl (show w.heap.size ≤ w19.heap.size by omega) rfl (j := 1) rfl (by decide) hw
           have hT : (ns5 x).take i = ns5 x := by rw [show i = 5 from by omega]; rfl
           rw [hT, show ((((bs ++ encName x.Name) ++ (ns5 x).flatMap (fun n => leB n 4)) ++ encLst encR x.Regions.xs) ++ encLst encP x.Ports.xs) = bs ++ encPt x from by unfold encPt; simp only [List.append_assoc]] at hD
           exact .inl ⟨(by unfold okPt; rw [ho4, all_yes (xs := ns5 x) (fun q hq => hok5 q (by have : q < 5 := hq; omega)), ho16, ho20]; rfl), rfl, hD⟩
         · have hnw19 : w15.heap.size ≤ w19.heap.size := hmw19
           refine .inr ⟨_, _, rfl, hSw19, ?_⟩
           refine e_panicR ?_
           intro w22 hw22
           refine .inr ⟨(by unfold okPt; rw [ho20]; simp), rfl, hw22.back rfl (show w.heap.size ≤ w19.heap.size by omega) (List.mem_cons_self ..)⟩
       · have hnw15 : n6 ≤ w15.heap.size := hmw15
         refine .inr ⟨_, _, rfl, hSw15, ?_⟩
         refine e_panicR ?_
         intro w23 hw23
         refine .inr ⟨(by unfold okPt; rw [ho16]; simp), rfl, hw23.back rfl (show w.heap.size ≤ w15.heap.size by omega) (List.mem_cons_self ..)⟩
 · have hnw3 : z + 2 ≤ w3.heap.size := hmw3
   refine .inr ⟨_, _, rfl, hSw3, ?_⟩
   refine e_panicR ?_
   intro w24 hw24
   refine .inr ⟨(by unfold okPt; rw [ho4]; simp), rfl, hw24.back rfl (show w.heap.size ≤ w3.heap.size by omega) (List.mem_cons_self ..)⟩
theorem partition_satP {A : AW} {w : World} {i pw : Nat} {F : Nat → Prop} {bs : List Int} {kept : List Ch} (h : Sat A w) (is : List Nat) (hi : A.σ[i]? = some (wrC pw F bs)) (hnd : nodupB is = true) (hp : picks is A.σ = some kept) (hni : is.contains i = false) (x : TPartition) (hx : TPartition.ok (Dt w F) w x) (hl : bs.length + 7000 ≤ 2147483647) : Calls Try.prog 30 #[.agg #[.pointer (some ⟨pw, 0, none⟩)], .agg (TPartition.arr x)] w fun e w' => (∃ F', okPt x = true ∧ e = .returned (.tuple #[]) ∧ A.n ≤ w'.heap.size ∧ Sat { A with n := w'.heap.size, σ := A.σ.set i (wrC pw F' (bs ++ encPt x)) } w') ∨ (okPt x = false ∧ e = .panicked wideP ∧ A.n ≤ w'.heap.size ∧ Sat { A with n := w'.heap.size, σ := kept } w') :=
  (partition_calls w pw F bs (h.at hi) x hx hl).mono (fun e w' hP => wrP_sat h hi is hnd hp hni hP)
abbrev qlxw_0 (z : Nat) (pw : Nat) : Ch := .blk z (.cells #[.pointer (some ⟨pw, 0, none⟩)] 56 (0, 0)) true
abbrev qlxw_1 (b9 : Nat) (o10 : Nat) (l : Sl TPartition) : Nat × Value := (19, .slice (some ⟨b9, o10, none⟩) l.xs.length l.cap)
abbrev qlxw_2 (l : Sl TPartition) : Nat × Value := (20, .int .i64 ((l.xs.length : Nat) : Int))
abbrev qlxw_3 (l : Sl TPartition) : Nat × Value := (19, .slice l.a l.xs.length l.cap)
theorem putPt_calls (w : World) (pw : Nat) (F : Nat → Prop) (bs : List Int) (hw : WrIs w pw F bs) (l : Sl TPartition) (hd : SlOk TPartition.cells 8 TPartition.ok (Dt w F) w l) (hl : bs.length + 1792001 ≤ 2147483647) : Calls Try.prog 29 #[.agg #[.pointer (some ⟨pw, 0, none⟩)], .slice l.a l.xs.length l.cap, .func (.func 30) #[] #[]] w fun e w' => WrPostP w pw F bs (okLst okPt l.xs) (encLst encPt l.xs) e w' := by
 obtain ⟨z, hz⟩ : ∃ z, z = w.heap.size := ⟨_, rfl⟩
 refine calls_G (args := [.agg #[.pointer (some ⟨pw, 0, none⟩)], .slice l.a l.xs.length l.cap, .func (.func 30) #[] #[]]) 30 ⟨w, z, [(old F w), (wrC pw F bs)]⟩ Try.func29 rfl (by kernel_rfl) (by kernel_rfl) (hz ▸ sat_wrC hw) ?_
 have hdl := hd.1.len
 refine g_keep [0, 1, 2] [(0, .agg #[.pointer (some ⟨pw, 0, none⟩)]), (1, .slice l.a l.xs.length l.cap), (2, .func (.func 30) #[] #[])] ?_
 refine g_seq <| g_region <| l_all 1 [o0] [1, 2, 3] [] [(1, .slice l.a l.xs.length l.cap), (2, .func (.func 30) #[] #[]), (3, .pointer (some ⟨z, 0, none⟩))] ⟨w, z + 1, [(old F w), (wrC pw F bs), (qlxw_0 z pw)]⟩ trivial ?_
 refine e_seq <| g_seq <| g_seq ?_
 by_cases h1 : (255 : Int) < ((l.xs.length : Nat) : Int)
 · refine g_region <| l_all 3 [o0, o0, oT] [1, 2, 3, 10] [BT ((((l.xs.length : Nat) : Int) : Int) > 255)] [(1, .slice l.a l.xs.length l.cap), (2, .func (.func 30) #[] #[]), (3, .pointer (some ⟨z, 0, none⟩)), (10, .bool true)] ⟨w, z + 1, [(old F w), (wrC pw F bs), (qlxw_0 z pw)]⟩ ⟨bt (by omega), trivial⟩ ?_
   refine e_seq <| g_true <| g_region <| l_run 2 [o0, o0] [1, 2, 3, 12] [] [(1, .slice l.a l.xs.length l.cap), (2, .func (.func 30) #[] #[]), (3, .pointer (some ⟨z, 0, none⟩)), (12, .iface 52 (.agg #[]))] ⟨w, z + 1, [(old F w), (wrC pw F bs), (qlxw_0 z pw)]⟩ trivial ?_
   refine l_panic (.iface 52 (.agg #[])) ?_
   refine e_panicR ?_
   intro w2 hw2
   refine .inr ⟨(lst_no1 (by omega)), rfl, hw2.back rfl (show w.heap.size ≤ z + 1 by omega) (List.mem_cons_self ..)⟩
 · refine g_region <| l_all 3 [o0, o0, oF] [1, 2, 3, 10] [BF ((((l.xs.length : Nat) : Int) : Int) > 255)] [(1, .slice l.a l.xs.length l.cap), (2, .func (.func 30) #[] #[]), (3, .pointer (some ⟨z, 0, none⟩)), (10, .bool false)] ⟨w, z + 1, [(old F w), (wrC pw F bs), (qlxw_0 z pw)]⟩ ⟨bf (by omega), trivial⟩ ?_
   refine e_seq <| g_false <| g_skip <| e_seq <| g_seq <| g_region <| l_run 5 [o0, (oa [.at 2]), o0, o0, (ov (.int .u8 ((l.xs.length : Nat) : Int)))] [1, 2, 3, 14, 17] [Qb z, Value.int .u8 (IntKind.u8.wrap (((l.xs.length : Nat) : Int))) = Value.int .u8 (((l.xs.length : Nat) : Int))] [(1, .slice l.a l.xs.length l.cap), (2, .func (.func 30) #[] #[]), (3, .pointer (some ⟨z, 0, none⟩)), (14, .pointer (some ⟨pw, 0, none⟩)), (17, .int .u8 ((l.xs.length : Nat) : Int))] ⟨w, z + 1, [(old F w), (wrC pw F bs), (qlxw_0 z pw)]⟩ ⟨rfl, congrArg (Value.int .u8) (wr_u8 rfl (by omega) (by omega)), trivial⟩ ?_
   refine l_call [] [] 57 #[.pointer (some ⟨pw, 0, none⟩), .int .u8 ((l.xs.length : Nat) : Int)] (some 18) trivial ?_
   intro w3 hw3
   refine (u8_sat hw3 (i := 1) rfl ((l.xs.length : Nat) : Int) (by omega) (by first | omega | (simp only [List.length_append, leB_len, List.length_cons, List.length_nil]; omega))).mono ?_
   rintro e w5 ⟨F4, rfl, hmw5, hSw5⟩; have hnw5 : z + 1 ≤ w5.heap.size := hmw5
   refine ⟨_, _, rfl, hSw5, ?_⟩
   refine l_keep [1, 2, 3] [(1, .slice l.a l.xs.length l.cap), (2, .func (.func 30) #[] #[]), (3, .pointer (some ⟨z, 0, none⟩))] ?_
   refine l_nil (by kernel_rfl) ?_
   refine e_seq <| g_seq <| g_region <| l_all 3 [o0, o0, o0] [2, 3, 19, 20, 21] [] [(2, .func (.func 30) #[] #[]), (3, .pointer (some ⟨z, 0, none⟩)), (qlxw_3 l), (qlxw_2 l), (21, .int .i64 0)] ⟨w, w5.heap.size, [(old F w), (wrC pw F4 (bs ++ [((l.xs.length : Nat) : Int)])), (qlxw_0 z pw)]⟩ trivial ?_
   refine e_seq <| g_block <| g_loop (fun m a w' => ∃ (n7 : Nat) (i : Nat) (FL : Nat → Prop), m = l.xs.length - i ∧ w5.heap.size ≤ n7 ∧ (i ≤ l.xs.length) ∧ (∀ q, q < i → okPt (gd l.xs q) = true) ∧ St 30 [(2, .func (.func 30) #[] #[]), (3, .pointer (some ⟨z, 0, none⟩)), (qlxw_3 l), (qlxw_2 l), (21, .int .i64 (i : Int))] [] ⟨w, n7, [(old F w), (wrC pw FL ((bs ++ [((l.xs.length : Nat) : Int)]) ++ (l.xs.take i).flatMap encPt)), (qlxw_0 z pw)]⟩ a w') (l.xs.length - 0) ?_ ?_
   · intro a w' hs; exact ⟨w5.heap.size, 0, F4, rfl, Nat.le_refl _, Nat.zero_le _, fun q hq => absurd hq (Nat.not_lt_zero q), by (try dsimp only [qlxw_0, qlxw_1, qlxw_2, qlxw_3] at hs ⊢); rw [List.take_zero, List.flatMap_nil, List.append_nil]; exact hs⟩
   · rintro m a w' ⟨n7, i, FL, rfl, hn6, hki, hok, hs⟩
     refine (?_ : G Try.prog 30 [(2, .func (.func 30) #[] #[]), (3, .pointer (some ⟨z, 0, none⟩)), (qlxw_3 l), (qlxw_2 l), (21, .int .i64 (i : Int))] [] ⟨w, n7, [(old F w), (wrC pw FL ((bs ++ [((l.xs.length : Nat) : Int)]) ++ (l.xs.take i).flatMap encPt)), (qlxw_0 z pw)]⟩ _ _ _) a w' hs
     clear hs a w'
     have hfl := flat_le (enc := encPt) (K := 7000) (xs := l.xs) i (by omega) (fun q hq => Nat.le_trans (encPt_le (hok q hq)) (by decide))
     refine g_seq ?_
     by_cases h8 : ((i : Int) : Int) < ((l.xs.length : Nat) : Int)
     · refine g_region <| l_all 1 [oT] [2, 3, 19, 20, 21, 22] [BT (((i : Int) : Int) < ((l.xs.length : Nat) : Int))] [(2, .func (.func 30) #[] #[]), (3, .pointer (some ⟨z, 0, none⟩)), (qlxw_3 l), (qlxw_2 l), (21, .int .i64 (i : Int)), (22, .bool true)] ⟨w, n7, [(old F w), (wrC pw FL ((bs ++ [((l.xs.length : Nat) : Int)]) ++ (l.xs.take i).flatMap encPt)), (qlxw_0 z pw)]⟩ ⟨bt (by omega), trivial⟩ ?_
       refine e_seq <| g_seq <| g_true <| g_skip <| e_seq <| g_seq <| g_block <| g_seq ?_
       obtain ⟨b9, o10, ha11, hF13, hc12⟩ := (hd).1.all (show 0 < l.xs.length by omega)
       replace ha11 : l.a = some ⟨b9, o10, none⟩ := ha11
       refine g_eq [(2, .func (.func 30) #[] #[]), (3, .pointer (some ⟨z, 0, none⟩)), (qlxw_1 b9 o10 l), (qlxw_2 l), (21, .int .i64 (i : Int)), (22, .bool true)] (by (try dsimp only [qlxw_0, qlxw_1, qlxw_2, qlxw_3]); simp only [ha11]) ?_
       have hc14 := hc12 i (show i < l.xs.length by omega)
       have he15 := (hd).2 i (show i < l.xs.length by omega)
       obtain ⟨y16, hy16⟩ : ∃ y_, y_ = gd l.xs i := ⟨_, rfl⟩
       rw [← hy16] at he15 hc14
       refine g_region <| l_all 4 [(oi i), (oa [.via 0 (.string y16.Name), .via 0 (.int .i64 y16.Entry), .via 0 (.int .i64 y16.Action), .via 0 (.int .i64 y16.Restarts), .via 0 (.int .i64 y16.Inputs), .via 0 (.int .i64 y16.Outputs), .via 0 (.slice y16.Regions.a y16.Regions.xs.length y16.Regions.cap), .via 0 (.slice y16.Ports.a y16.Ports.xs.length y16.Ports.cap)]), o0, (oa [.at 3, .at 3, .at 3, .at 3, .at 3, .at 3, .at 3, .at 3])] [2, 3, 19, 20, 21, 7] [((i : Int) : Int) = ((i : Nat) : Int), i < l.xs.length, (none : Option Nat) = none, ∀ w', Ch.holds (old F w) w' → w'.cell? ⟨b9, o10 + i * 8, none⟩ = some (.string y16.Name), ∀ w', Ch.holds (old F w) w' → w'.cell? ⟨b9, o10 + i * 8 + 1, none⟩ = some (.int .i64 y16.Entry), ∀ w', Ch.holds (old F w) w' → w'.cell? ⟨b9, o10 + i * 8 + 2, none⟩ = some (.int .i64 y16.Action), ∀ w', Ch.holds (old F w) w' → w'.cell? ⟨b9, o10 + i * 8 + 3, none⟩ = some (.int .i64 y16.Restarts), ∀ w', Ch.holds (old F w) w' → w'.cell? ⟨b9, o10 + i * 8 + 4, none⟩ = some (.int .i64 y16.Inputs), ∀ w', Ch.holds (old F w) w' → w'.cell? ⟨b9, o10 + i * 8 + 5, none⟩ = some (.int .i64 y16.Outputs), ∀ w', Ch.holds (old F w) w' → w'.cell? ⟨b9, o10 + i * 8 + 6, none⟩ = some (.slice y16.Regions.a y16.Regions.xs.length y16.Regions.cap), ∀ w', Ch.holds (old F w) w' → w'.cell? ⟨b9, o10 + i * 8 + 7, none⟩ = some (.slice y16.Ports.a y16.Ports.xs.length y16.Ports.cap), Qb n7, Qb n7, Qb n7, Qb n7, Qb n7, Qb n7, Qb n7, Qb n7] [(2, .func (.func 30) #[] #[]), (3, .pointer (some ⟨z, 0, none⟩)), (qlxw_1 b9 o10 l), (qlxw_2 l), (21, .int .i64 (i : Int)), (7, .pointer (some ⟨n7, 0, none⟩))] ⟨w, n7 + 1, [(old F w), (wrC pw FL ((bs ++ [((l.xs.length : Nat) : Int)]) ++ (l.xs.take i).flatMap encPt)), (qlxw_0 z pw), (.blk n7 (.cells (TPartition.arr y16) 69 (0, 0)) true)]⟩ ⟨rfl, (by omega), rfl, oldD_cell hF13 (hc14 0 _ rfl), oldD_cell hF13 (hc14 1 _ rfl), oldD_cell hF13 (hc14 2 _ rfl), oldD_cell hF13 (hc14 3 _ rfl), oldD_cell hF13 (hc14 4 _ rfl), oldD_cell hF13 (hc14 5 _ rfl), oldD_cell hF13 (hc14 6 _ rfl), oldD_cell hF13 (hc14 7 _ rfl), rfl, rfl, rfl, rfl, rfl, rfl, rfl, rfl, trivial⟩ ?_
       refine e_seq <| g_region <| l_run 3 [o0, (oa [.at 2]), (oa [.at 3, .at 3, .at 3, .at 3, .at 3, .at 3, .at 3, .at 3])] [2, 3, 19, 20, 21, 25, 26, 27] [Qb z, Qb n7, Qb n7, Qb n7, Qb n7, Qb n7, Qb n7, Qb n7, Qb n7] [(2, .func (.func 30) #[] #[]), (3, .pointer (some ⟨z, 0, none⟩)), (qlxw_1 b9 o10 l), (qlxw_2 l), (21, .int .i64 (i : Int)), (25, .func (.func 30) #[] #[]), (26, .agg #[.pointer (some ⟨pw, 0, none⟩)]), (27, .agg (TPartition.arr y16))] ⟨w, n7 + 1, [(old F w), (wrC pw FL ((bs ++ [((l.xs.length : Nat) : Int)]) ++ (l.xs.take i).flatMap encPt)), (qlxw_0 z pw), (.blk n7 (.cells (TPartition.arr y16) 69 (0, 0)) true)]⟩ ⟨rfl, rfl, rfl, rfl, rfl, rfl, rfl, rfl, rfl, trivial⟩ ?_
       refine l_callX [] [] 30 #[.agg #[.pointer (some ⟨pw, 0, none⟩)], .agg (TPartition.arr y16)] (some 28) trivial ?_
       intro w17 hw17
       have hew17 := dt_he hw17 (F := F) rfl; have hFw17 := dt_hF hw17 (F := F) rfl (show w.heap.size ≤ n7 + 1 by omega) (j := 1) rfl rfl (by decide)
       refine (partition_satP hw17 (i := 1) [0, 2, 3] rfl rfl rfl rfl y16 (TPartition.ok.ext hew17 hFw17 he15) (by first | omega | (simp only [List.length_append, leB_len, List.length_cons, List.length_nil]; omega))).mono ?_
       rintro e w19 (⟨F18, ho20, rfl, hmw19, hSw19⟩ | ⟨ho20, rfl, hmw19, hSw19⟩)
       · have hnw19 : n7 + 1 ≤ w19.heap.size := hmw19
         refine .inl ⟨_, _, rfl, hSw19, ?_⟩
         refine l_keep [2, 3, 19, 20, 21] [(2, .func (.func 30) #[] #[]), (3, .pointer (some ⟨z, 0, none⟩)), (qlxw_1 b9 o10 l), (qlxw_2 l), (21, .int .i64 (i : Int))] ?_
         refine l_nil (by kernel_rfl) ?_
         refine e_blk <| e_seq <| g_region <| l_all 2 [(ov (.int .i64 ((i + 1 : Nat) : Int))), o0] [2, 3, 19, 20, 21] [Value.int .i64 (IntKind.i64.wrap (((i : Int) : Int) + 1)) = Value.int .i64 (((i + 1 : Nat) : Int))] [(2, .func (.func 30) #[] #[]), (3, .pointer (some ⟨z, 0, none⟩)), (qlxw_1 b9 o10 l), (qlxw_2 l), (21, .int .i64 ((i + 1 : Nat) : Int))] ⟨w, w19.heap.size, [(old F w), (wrC pw F18 (((bs ++ [((l.xs.length : Nat) : Int)]) ++ (l.xs.take i).flatMap encPt) ++ encPt y16)), (qlxw_0 z pw), (.blk n7 (.cells (TPartition.arr y16) 69 (0, 0)) true)]⟩ ⟨congrArg (Value.int .i64) (wr_i64 (by omega) (by omega) (by omega)), trivial⟩ ?_
         refine e_pick [0, 1, 2] [(old F w), (wrC pw F18 (((bs ++ [((l.xs.length : Nat) : Int)]) ++ (l.xs.take i).flatMap encPt) ++ encPt y16)), (qlxw_0 z pw)] rfl rfl ?_
         refine e_eqk [2, 3, 19, 20, 21] [(2, .func (.func 30) #[] #[]), (3, .pointer (some ⟨z, 0, none⟩)), (qlxw_3 l), (qlxw_2 l), (21, .int .i64 ((i + 1 : Nat) : Int))] (by (try dsimp only [qlxw_0, qlxw_1, qlxw_2, qlxw_3]); simp only [ha11]; rfl) ?_
         refine e_inv (fun a w' hs => ⟨l.xs.length - (i + 1), by omega, w19.heap.size, (i + 1), F18, rfl, by omega, by omega, all_push hok (by rw [← hy16]; exact ho20), by (try dsimp only [qlxw_0, qlxw_1, qlxw_2, qlxw_3] at hs ⊢); rw [take_flat (by omega), ← hy16, ← List.append_assoc]; exact hs⟩)
       · have hnw19 : n7 + 1 ≤ w19.heap.size := hmw19
         refine .inr ⟨_, _, rfl, hSw19, ?_⟩
         refine e_panicR ?_
         intro w21 hw21
         refine .inr ⟨(lst_no2 (i := i) (by omega) (by rw [← hy16]; exact ho20)), rfl, hw21.back rfl (show w.heap.size ≤ w19.heap.size by omega) (List.mem_cons_self ..)⟩
     · refine g_region <| l_all 1 [oF] [2, 3, 19, 20, 21, 22] [BF (((i : Int) : Int) < ((l.xs.length : Nat) : Int))] [(2, .func (.func 30) #[] #[]), (3, .pointer (some ⟨z, 0, none⟩)), (qlxw_3 l), (qlxw_2 l), (21, .int .i64 (i : Int)), (22, .bool false)] ⟨w, n7, [(old F w), (wrC pw FL ((bs ++ [((l.xs.length : Nat) : Int)]) ++ (l.xs.take i).flatMap encPt)), (qlxw_0 z pw)]⟩ ⟨bf (by omega), trivial⟩ ?_
       refine e_seq <| g_seq <| g_false <| g_exit <| e_out <| e_outI <| e_hit ?_
       -- the function's end
       refine e_end [] [] (.tuple #[]) trivial ?_
       intro w22 hw22
       have hD := wr_end hw22 rfl (show w.heap.size ≤ n7 by omega) rfl (j := 1) rfl (by decide) hw
       rw [show i = l.xs.length from by omega, List.take_length, List.append_assoc] at hD
       exact .inl ⟨(lst_yes (by omega) (fun q hq => hok q (by omega))), rfl, hD⟩
theorem putPt_satP {A : AW} {w : World} {i pw : Nat} {F : Nat → Prop} {bs : List Int} {kept : List Ch} (h : Sat A w) (is : List Nat) (hi : A.σ[i]? = some (wrC pw F bs)) (hnd : nodupB is = true) (hp : picks is A.σ = some kept) (hni : is.contains i = false) (l : Sl TPartition) (hd : SlOk TPartition.cells 8 TPartition.ok (Dt w F) w l) (hl : bs.length + 1792001 ≤ 2147483647) : Calls Try.prog 29 #[.agg #[.pointer (some ⟨pw, 0, none⟩)], .slice l.a l.xs.length l.cap, .func (.func 30) #[] #[]] w fun e w' => (∃ F', okLst okPt l.xs = true ∧ e = .returned (.tuple #[]) ∧ A.n ≤ w'.heap.size ∧ Sat { A with n := w'.heap.size, σ := A.σ.set i (wrC pw F' (bs ++ encLst encPt l.xs)) } w') ∨ (okLst okPt l.xs = false ∧ e = .panicked wideP ∧ A.n ≤ w'.heap.size ∧ Sat { A with n := w'.heap.size, σ := kept } w') :=
  (putPt_calls w pw F bs (h.at hi) l hd hl).mono (fun e w' hP => wrP_sat h hi is hnd hp hni hP)

end Go.Proofs.Ytmmkacfeocnblaa.Ly
