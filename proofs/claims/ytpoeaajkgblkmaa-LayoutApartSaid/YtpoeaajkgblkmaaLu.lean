/- layout: portSizes. No conditions. -/
import Derived.Test.YtpoeaajkgblkmaaLi
namespace Go.Proofs.Ytpoeaajkgblkmaa.Ly
open Go Go.Proofs.Ytpoeaajkgblkmaa.Eng Go.Proofs.Ytpoeaajkgblkmaa.Mem
set_option linter.unusedSimpArgs false
set_option linter.unusedVariables false
set_option maxRecDepth 100000

def askC (h : TChannel) : List Value := [.func (.func 56) #[.agg (TChannel.arr h)] #[], .func (.func 57) #[.agg (TChannel.arr h)] #[]]
abbrev qr11_0 (n2 : Nat) (y11 : TChannel) : Ch := .blk (n2 + 2) (.cells #[.func (.func 56) #[.agg #[.int .i64 y11.Kind, .int .i64 y11.Words, .int .i64 y11.Depth]] #[], .func (.func 57) #[.agg #[.int .i64 y11.Kind, .int .i64 y11.Words, .int .i64 y11.Depth]] #[]] 120 (0, 0)) true
abbrev qr11_1 (n2 : Nat) (y11 : TChannel) : Ch := .blk (n2 + 1) (.cells #[.int .i64 y11.Kind, .int .i64 y11.Words, .int .i64 y11.Depth] 123 (0, 0)) true
abbrev qr11_2 (n2 : Nat) (y11 : TChannel) : Ch := .blk n2 (.cells (TChannel.arr y11) 23 (0, 0)) true
abbrev qr11_3 (z : Nat) (c : TConfig) : Ch := .blk z (.cells (TConfig.arr c) 30 (0, 0)) true
abbrev qr11_4 (z : Nat) (a12 : Option Addr) (c : TConfig) (k : Nat) (y11 : TChannel) (cp13 : Nat) : Ch := rowL z 120 2 askC (.slice a12 (((c.Channels.xs.take k) ++ [y11]).length) cp13) ((c.Channels.xs.take k) ++ [y11])
abbrev qr11_5 (z : Nat) (aA : Option Addr) (c : TConfig) (k : Nat) (cA : Nat) : Ch := rowL z 120 2 askC (.slice aA ((c.Channels.xs.take k).length) cA) (c.Channels.xs.take k)
theorem ask_calls (w : World) (c : TConfig) (hc : TConfig.ok Any w c) (hcn : c.Channels.xs.length ≤ 16) : Calls Try.prog 54 #[.agg (TConfig.arr c)] w fun e w' => ∃ a cp, e = .returned (.slice a c.Channels.xs.length cp) ∧ SlAt askC 2 (New w.heap.size) w' ⟨a, cp, c.Channels.xs⟩ ∧ Keeps (fun _ => False) w w' := by
 obtain ⟨z, hz⟩ : ∃ z, z = w.heap.size := ⟨_, rfl⟩
 refine calls_G (args := [.agg (TConfig.arr c)]) 26 ⟨w, z, [(old0 w)]⟩ Try.func54 rfl (by kernel_rfl) (by kernel_rfl) (sat_0 hz) ?_
 refine g_keep [0] [(0, .agg (TConfig.arr c))] ?_
 refine g_seq <| g_region <| l_all 2 [o0, o0] [1] [] [(1, .pointer (some ⟨z, 0, none⟩))] ⟨w, z + 1, [(old0 w), (qr11_3 z c)]⟩ trivial ?_
 refine e_seq <| g_seq <| g_region <| l_all 1 [o0] [1, 3] [] [(1, .pointer (some ⟨z, 0, none⟩)), (3, .slice none 0 0)] ⟨w, z + 1, [(old0 w), (qr11_3 z c)]⟩ trivial ?_
 refine e_seq <| g_seq <| g_seq <| g_region <| l_all 4 [o0, (oa [.at 1]), o0, o0] [3, 8, 9, 10] [Qb z] [(3, .slice none 0 0), (8, .slice c.Channels.a c.Channels.xs.length c.Channels.cap), (9, .int .i64 ((c.Channels.xs.length : Nat) : Int)), (10, .int .i64 0)] ⟨w, z + 1, [(old0 w), (qr11_3 z c)]⟩ ⟨rfl, trivial⟩ ?_
 refine e_seq <| g_block <| g_rowL z 120 2 askC ?_
 refine g_loop (fun m a w' => ∃ (n2 : Nat) (k : Nat) (aA : Option Addr) (cA : Nat), m = c.Channels.xs.length - k ∧ z + 1 ≤ n2 ∧ (k ≤ c.Channels.xs.length) ∧ St 26 [(3, .slice aA ((c.Channels.xs.take k).length) cA), (8, .slice c.Channels.a c.Channels.xs.length c.Channels.cap), (9, .int .i64 ((c.Channels.xs.length : Nat) : Int)), (10, .int .i64 (k : Int))] [] ⟨w, n2, [(old0 w), (qr11_3 z c), (qr11_5 z aA c k cA)]⟩ a w') (c.Channels.xs.length - 0) ?_ ?_
 · intro a w' hs; exact ⟨(z + 1), 0, none, 0, rfl, Nat.le_refl _, Nat.zero_le _, hs⟩
 · rintro m a w' ⟨n2, k, aA, cA, rfl, hn1, hkk, hs⟩
   refine (?_ : G Try.prog 26 [(3, .slice aA ((c.Channels.xs.take k).length) cA), (8, .slice c.Channels.a c.Channels.xs.length c.Channels.cap), (9, .int .i64 ((c.Channels.xs.length : Nat) : Int)), (10, .int .i64 (k : Int))] [] ⟨w, n2, [(old0 w), (qr11_3 z c), (qr11_5 z aA c k cA)]⟩ _ _ _) a w' hs
   clear hs a w'
   have htk : (c.Channels.xs.take k).length = k := by rw [List.length_take]; omega
   refine g_seq ?_
   by_cases h3 : ((k : Int) : Int) < ((c.Channels.xs.length : Nat) : Int)
   · refine g_region <| l_all 1 [oT] [3, 8, 9, 10, 11] [BT (((k : Int) : Int) < ((c.Channels.xs.length : Nat) : Int))] [(3, .slice aA ((c.Channels.xs.take k).length) cA), (8, .slice c.Channels.a c.Channels.xs.length c.Channels.cap), (9, .int .i64 ((c.Channels.xs.length : Nat) : Int)), (10, .int .i64 (k : Int)), (11, .bool true)] ⟨w, n2, [(old0 w), (qr11_3 z c), (qr11_5 z aA c k cA)]⟩ ⟨bt (by omega), trivial⟩ ?_
     refine e_seq <| g_seq <| g_true <| g_skip <| e_seq <| g_seq <| g_block <| g_seq ?_
     obtain ⟨b4, o5, ha6, hF8, hc7⟩ := (hc.Channels).1.all (show 0 < c.Channels.xs.length by omega)
     replace ha6 : c.Channels.a = some ⟨b4, o5, none⟩ := ha6
     refine g_eq [(3, .slice aA ((c.Channels.xs.take k).length) cA), (8, .slice (some ⟨b4, o5, none⟩) c.Channels.xs.length c.Channels.cap), (9, .int .i64 ((c.Channels.xs.length : Nat) : Int)), (10, .int .i64 (k : Int)), (11, .bool true)] (by simp only [ha6]) ?_
     have hc9 := hc7 k (show k < c.Channels.xs.length by omega)
     have he10 := (hc.Channels).2 k (show k < c.Channels.xs.length by omega)
     obtain ⟨y11, hy11⟩ : ∃ y_, y_ = gd c.Channels.xs k := ⟨_, rfl⟩
     rw [← hy11] at he10 hc9
     refine g_region <| l_all 4 [(oi k), (ol 0 (TChannel.arr y11)), o0, (oa [.at 3, .at 3, .at 3])] [3, 8, 9, 10, 5] [((k : Int) : Int) = ((k : Nat) : Int), k < c.Channels.xs.length, (none : Option Nat) = none, OldR w b4 (o5 + k * 3) (TChannel.arr y11), Qb n2, Qb n2, Qb n2] [(3, .slice aA ((c.Channels.xs.take k).length) cA), (8, .slice (some ⟨b4, o5, none⟩) c.Channels.xs.length c.Channels.cap), (9, .int .i64 ((c.Channels.xs.length : Nat) : Int)), (10, .int .i64 (k : Int)), (5, .pointer (some ⟨n2, 0, none⟩))] ⟨w, n2 + 1, [(old0 w), (qr11_3 z c), (qr11_5 z aA c k cA), (qr11_2 n2 y11)]⟩ ⟨rfl, (by omega), rfl, old_row hc9, rfl, rfl, rfl, trivial⟩ ?_
     refine e_seq <| g_seq <| g_region <| l_all 4 [(oa [.at 3, .at 3, .at 3]), o0, o0, (oa [.at 4, .at 4, .at 4])] [3, 8, 9, 10, 6] [Qb n2, Qb n2, Qb n2, Qb (n2 + 1), Qb (n2 + 1), Qb (n2 + 1)] [(3, .slice aA ((c.Channels.xs.take k).length) cA), (8, .slice (some ⟨b4, o5, none⟩) c.Channels.xs.length c.Channels.cap), (9, .int .i64 ((c.Channels.xs.length : Nat) : Int)), (10, .int .i64 (k : Int)), (6, .pointer (some ⟨n2 + 1, 0, none⟩))] ⟨w, n2 + 2, [(old0 w), (qr11_3 z c), (qr11_5 z aA c k cA), (qr11_2 n2 y11), (qr11_1 n2 y11)]⟩ ⟨rfl, rfl, rfl, rfl, rfl, rfl, trivial⟩ ?_
     refine e_seq <| g_region <| l_run 7 [o0, (oa [.at 4, .at 4, .at 4]), o0, (oa [.at 4, .at 4, .at 4]), o0, o0, o0] [8, 9, 10, 16, 22] [Qb (n2 + 1), Qb (n2 + 1), Qb (n2 + 1), Qb (n2 + 1), Qb (n2 + 1), Qb (n2 + 1)] [(8, .slice (some ⟨b4, o5, none⟩) c.Channels.xs.length c.Channels.cap), (9, .int .i64 ((c.Channels.xs.length : Nat) : Int)), (10, .int .i64 (k : Int)), (16, .slice aA ((c.Channels.xs.take k).length) cA), (22, .slice (some ⟨n2 + 2, 0, none⟩) 1 1)] ⟨w, n2 + 3, [(old0 w), (qr11_3 z c), (qr11_5 z aA c k cA), (qr11_2 n2 y11), (qr11_1 n2 y11), (qr11_0 n2 y11)]⟩ ⟨rfl, rfl, rfl, rfl, rfl, rfl, trivial⟩ ?_
     refine l_push z 2 5 (c.Channels.xs.take k) [y11] askC 120 2 16 (.slice aA ((c.Channels.xs.take k).length) cA) (n2 + 2) 1 1 #[.func (.func 56) #[.agg #[.int .i64 y11.Kind, .int .i64 y11.Words, .int .i64 y11.Depth]] #[], .func (.func 57) #[.agg #[.int .i64 y11.Kind, .int .i64 y11.Words, .int .i64 y11.Depth]] #[]] 120 (0, 0) true (some 23) (by simp only [List.length_cons, List.length_nil]; omega) (show z ≤ n2 + 3 by omega) (fun a12 cp13 n14 (hn15 : n2 + 3 ≤ n14) => ?_)
     refine l_keep [8, 9, 10, 23] [(8, .slice (some ⟨b4, o5, none⟩) c.Channels.xs.length c.Channels.cap), (9, .int .i64 ((c.Channels.xs.length : Nat) : Int)), (10, .int .i64 (k : Int)), (23, .slice a12 (((c.Channels.xs.take k) ++ [y11]).length) cp13)] ?_
     refine l_all 1 [o0] [8, 9, 10, 3] [] [(8, .slice (some ⟨b4, o5, none⟩) c.Channels.xs.length c.Channels.cap), (9, .int .i64 ((c.Channels.xs.length : Nat) : Int)), (10, .int .i64 (k : Int)), (3, .slice a12 (((c.Channels.xs.take k) ++ [y11]).length) cp13)] ⟨w, n14, [(old0 w), (qr11_3 z c), (qr11_4 z a12 c k y11 cp13), (qr11_2 n2 y11), (qr11_1 n2 y11), (qr11_0 n2 y11)]⟩ trivial ?_
     refine e_blk <| e_seq <| g_region <| l_all 2 [(ov (.int .i64 ((k + 1 : Nat) : Int))), o0] [8, 9, 10, 3] [Value.int .i64 (IntKind.i64.wrap (((k : Int) : Int) + 1)) = Value.int .i64 (((k + 1 : Nat) : Int))] [(8, .slice (some ⟨b4, o5, none⟩) c.Channels.xs.length c.Channels.cap), (9, .int .i64 ((c.Channels.xs.length : Nat) : Int)), (10, .int .i64 ((k + 1 : Nat) : Int)), (3, .slice a12 (((c.Channels.xs.take k) ++ [y11]).length) cp13)] ⟨w, n14, [(old0 w), (qr11_3 z c), (qr11_4 z a12 c k y11 cp13), (qr11_2 n2 y11), (qr11_1 n2 y11), (qr11_0 n2 y11)]⟩ ⟨congrArg (Value.int .i64) (wr_i64 (by omega) (by omega) (by omega)), trivial⟩ ?_
     refine e_pick [0, 1, 2] [(old0 w), (qr11_3 z c), (qr11_4 z a12 c k y11 cp13)] rfl rfl ?_
     refine e_eqk [3, 8, 9, 10] [(3, .slice a12 (((c.Channels.xs.take k) ++ [y11]).length) cp13), (8, .slice c.Channels.a c.Channels.xs.length c.Channels.cap), (9, .int .i64 ((c.Channels.xs.length : Nat) : Int)), (10, .int .i64 ((k + 1 : Nat) : Int))] (by simp only [ha6]; rfl) ?_
     refine e_inv (fun a w' hs => ⟨c.Channels.xs.length - (k + 1), by omega, n14, (k + 1), a12, cp13, rfl, by omega, by omega, by (try dsimp only [qr11_0, qr11_1, qr11_2, qr11_3, qr11_4, qr11_5] at hs ⊢); rw [take_snoc (by omega), ← hy11]; exact hs⟩)
   · refine g_region <| l_all 1 [oF] [3, 8, 9, 10, 11] [BF (((k : Int) : Int) < ((c.Channels.xs.length : Nat) : Int))] [(3, .slice aA ((c.Channels.xs.take k).length) cA), (8, .slice c.Channels.a c.Channels.xs.length c.Channels.cap), (9, .int .i64 ((c.Channels.xs.length : Nat) : Int)), (10, .int .i64 (k : Int)), (11, .bool false)] ⟨w, n2, [(old0 w), (qr11_3 z c), (qr11_5 z aA c k cA)]⟩ ⟨bf (by omega), trivial⟩ ?_
     refine e_seq <| g_seq <| g_false <| g_exit <| e_out <| e_outI <| e_hit <| e_seq <| g_seq <| g_region <| l_all 2 [o0, o0] [2] [] [(2, .slice aA ((c.Channels.xs.take k).length) cA)] ⟨w, n2, [(old0 w), (qr11_3 z c), (qr11_5 z aA c k cA)]⟩ trivial ?_
     refine e_seq <| g_ret <| e_ret [] [] (.slice aA ((c.Channels.xs.take k).length) cA) trivial ?_
     intro w16 hw16
     have hpo : c.Channels.xs.take k = c.Channels.xs := List.take_of_length_le (by omega)
     have hrow := hw16.at (i := 2) rfl
     (try dsimp only [qr11_0, qr11_1, qr11_2, qr11_3, qr11_4, qr11_5] at hrow)
     rw [hpo] at hrow ⊢
     exact ⟨_, _, rfl, hz ▸ row_sl (fun _ => rfl) hrow (by omega), hw16.back rfl (show w.heap.size ≤ n2 by omega) (List.mem_cons_self ..)⟩

end Go.Proofs.Ytpoeaajkgblkmaa.Ly
