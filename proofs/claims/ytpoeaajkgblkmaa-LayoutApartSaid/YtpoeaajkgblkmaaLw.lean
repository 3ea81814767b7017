/- layout: Owner. No conditions. -/
import Derived.Test.YtpoeaajkgblkmaaLv
import Derived.Test.YtpoeaajkgblkmaaLs
namespace Go.Proofs.Ytpoeaajkgblkmaa.Ly
open Go Go.Proofs.Ytpoeaajkgblkmaa.Eng Go.Proofs.Ytpoeaajkgblkmaa.Mem
set_option linter.unusedSimpArgs false
set_option linter.unusedVariables false
set_option maxRecDepth 100000

theorem max_is (x y : Int) : (if y > x then y else x) = max x y := by split <;> omega
theorem min_is (x y : Int) : (if y < x then y else x) = min x y := by split <;> omega
instance (c : TConfig) (at_ : Int) : Decidable (atBad c at_) := by unfold atBad; infer_instance
def ownR (c : TConfig) (at_ : Int) : TOwner := if confOk c = true then (if atBad c at_ then ⟨0, 0, 0⟩ else ownOf c at_) else ⟨0, 0, 0⟩
def ownE (c : TConfig) (at_ : Int) : Int := if confOk c = true then (if atBad c at_ then 151 else 0) else 150
theorem ownR_no {c : TConfig} {at_ : Int} (h : ¬ confOk c = true) : ownR c at_ = ⟨0, 0, 0⟩ ∧ ownE c at_ = 150 := by unfold ownR ownE; rw [if_neg h, if_neg h]; exact ⟨rfl, rfl⟩
theorem ownR_bad {c : TConfig} {at_ : Int} (h : confOk c = true) (h2 : atBad c at_) : ownR c at_ = ⟨0, 0, 0⟩ ∧ ownE c at_ = 151 := by unfold ownR ownE; rw [if_pos h, if_pos h, if_pos h2, if_pos h2]; exact ⟨rfl, rfl⟩
theorem ownR_is {c : TConfig} {at_ : Int} (h : confOk c = true) (h2 : ¬ atBad c at_) : ownR c at_ = ownOf c at_ ∧ ownE c at_ = 0 := by unfold ownR ownE; rw [if_pos h, if_pos h, if_neg h2, if_neg h2]; exact ⟨rfl, rfl⟩
theorem lpc_in {c : TConfig} (hf : Fine c) {m : Nat} (h : m < (layPcs c).length) : PcOk c (gd (layPcs c) m) := pc_mem hf _ ((lay_perm c).mem_iff.2 (by rw [gd_eq h]; exact List.getElem_mem h))
theorem lpc_ink {F : Nat → Prop} {W : World} {c : TConfig} (hf : Fine c) : ∀ i, i < (layPcs c).length → TPiece.ok F W (gd (layPcs c) i) := fun i hi => by
  obtain ⟨a1, a2, a3, a4, a5, a6, a7, a8, a9, a10, -⟩ := lpc_in hf hi
  exact ⟨ink a3 (by omega), ink a5 (by omega), ⟨ink (by omega) (by omega), ink a7 (by omega), ink a9 (by omega)⟩⟩
theorem rowner_calls (w : World) (c : TConfig) (at_ : Int) (hat : InK .i64 at_) (hc : TConfig.ok Any w c) : Calls Try.prog 24 #[.agg (TConfig.arr c), .int .i64 at_] w fun e w' => e = .returned (.tuple #[.agg (TOwner.arr (ownR c at_)), .int .i64 (ownE c at_)]) ∧ Keeps (fun _ => False) w w' := by
  by_cases h : confOk c = true
  · refine (rowner_yes w c at_ hat hc h).mono ?_
    rintro e w' (⟨he, hb, hk⟩ | ⟨he, hb, hk⟩)
    · rw [(ownR_bad h hb).1, (ownR_bad h hb).2]; exact ⟨he, hk⟩
    · rw [(ownR_is h hb).1, (ownR_is h hb).2]; exact ⟨he, hk⟩
  · refine (rowner_no w c at_ hc (Bool.eq_false_iff.2 h)).mono ?_
    rintro e w' ⟨he, hk⟩
    rw [(ownR_no h).1, (ownR_no h).2]; exact ⟨he, hk⟩
theorem own_hit {c : TConfig} {at_ : Int} {m : Nat} (hm : m < (layPcs c).length) (h0 : ∀ q, q < m → hit at_ (gd (layPcs c) q) = false) (h : hit at_ (gd (layPcs c) m) = true) : ownOf c at_ = (gd (layPcs c) m).Owner := by
  unfold ownOf; rw [own_same, find_firstL hm h0 h]
theorem own_reg {c : TConfig} {at_ : Int} (h0 : ∀ q, q < (layPcs c).length → hit at_ (gd (layPcs c) q) = false) (h : (regFind c (at_ / 16)).isSome = true) : ownOf c at_ = ⟨1, regI c (at_ / 16), 0⟩ := by
  unfold ownOf; rw [own_same, find_noneL h0]
  unfold regI
  cases hr : regFind c (at_ / 16) with
  | none => rw [hr] at h; cases h
  | some p => rfl
theorem own_none {c : TConfig} {at_ : Int} (h0 : ∀ q, q < (layPcs c).length → hit at_ (gd (layPcs c) q) = false) (h : ¬ (regFind c (at_ / 16)).isSome = true) : ownOf c at_ = ⟨0, 0, 0⟩ := by
  unfold ownOf; rw [own_same, find_noneL h0]
  cases hr : regFind c (at_ / 16) with
  | none => rfl
  | some p => rw [hr] at h; exact absurd rfl h
abbrev qzvs_0 (w31 : World) : Ch := .blk w31.heap.size (.cells #[.int .i64 0, .slice none 0 0, .slice none 0 0, .int .i64 0] 34 (0, 0)) true
abbrev qzvs_1 (z : Nat) : Ch := .blk (z + 1) (.cells #[.int .i64 0, .int .i64 0, .int .i64 0] 54 (0, 0)) true
abbrev qzvs_2 (w3 : World) (lw3 : TLayout) : Ch := .blk w3.heap.size (.cells (TLayout.arr lw3) 34 (0, 0)) true
abbrev qzvs_3 (n12 : Nat) (y21 : TPiece) : Ch := .blk n12 (.cells (TPiece.arr y21) 100 (0, 0)) true
abbrev qzvs_4 (z : Nat) (c : TConfig) : Ch := .blk z (.cells (TConfig.arr c) 30 (0, 0)) true
abbrev qzvs_5 (w : World) (z : Nat) (c : TConfig) (w3 : World) (lw3 : TLayout) (w8 : World) (n12 : Nat) (y21 : TPiece) : List Ch := [(old0 w), (qzvs_4 z c), (qzvs_1 z), (mid (z + 2) w3), (qzvs_2 w3 lw3), (mid (w3.heap.size + 1) w8), (qzvs_3 n12 y21)]
abbrev qzvs_6 (w : World) (z : Nat) (c : TConfig) (w3 : World) (lw3 : TLayout) (w8 : World) : List Ch := [(old0 w), (qzvs_4 z c), (qzvs_1 z), (mid (z + 2) w3), (qzvs_2 w3 lw3), (mid (w3.heap.size + 1) w8)]
abbrev qzvs_7 (w : World) (z : Nat) (c : TConfig) (w3 : World) (lw3 : TLayout) : List Ch := [(old0 w), (qzvs_4 z c), (qzvs_1 z), (mid (z + 2) w3), (qzvs_2 w3 lw3)]
theorem owner_calls (w : World) (c : TConfig) (at_ : Int) (hat : InK .i64 at_) (hc : TConfig.ok Any w c) : Calls Try.prog 23 #[.agg (TConfig.arr c), .int .i64 at_] w fun e w' => e = .returned (.tuple #[.agg (TOwner.arr (ownR c at_)), .int .i64 (ownE c at_)]) ∧ Keeps (fun _ => False) w w' := by
 obtain ⟨z, hz⟩ : ∃ z, z = w.heap.size := ⟨_, rfl⟩
 refine calls_G (args := [.agg (TConfig.arr c), .int .i64 at_]) 68 ⟨w, z, [(old0 w)]⟩ Try.func23 rfl (by kernel_rfl) (by kernel_rfl) (sat_0 hz) ?_
 have hatl : -9223372036854775808 ≤ at_ ∧ at_ ≤ 9223372036854775807 := hat
 refine g_keep [0, 1] [(0, .agg (TConfig.arr c)), (1, .int .i64 at_)] ?_
 refine g_seq <| g_region <| l_all 3 [o0, o0, o0] [1, 2, 4] [] [(1, .int .i64 at_), (2, .pointer (some ⟨z, 0, none⟩)), (4, .pointer (some ⟨z + 1, 0, none⟩))] ⟨w, z + 2, [(old0 w), (qzvs_4 z c), (qzvs_1 z)]⟩ trivial ?_
 refine e_seq <| g_seq <| g_region <| l_run 1 [(oa [.at 1, .at 1, .at 1, .at 1, .at 1, .at 1, .at 1])] [1, 2, 4, 13] [Qb z, Qb z, Qb z, Qb z, Qb z, Qb z, Qb z] [(1, .int .i64 at_), (2, .pointer (some ⟨z, 0, none⟩)), (4, .pointer (some ⟨z + 1, 0, none⟩)), (13, .agg (TConfig.arr c))] ⟨w, z + 2, [(old0 w), (qzvs_4 z c), (qzvs_1 z)]⟩ ⟨rfl, rfl, rfl, rfl, rfl, rfl, rfl, trivial⟩ ?_
 refine l_call [] [] 15 #[.agg (TConfig.arr c)] (some 14) trivial ?_
 intro w1 hw1
 by_cases hok2 : confOk c = true
 · refine (of_yes w1 c (hc.ext (hw1.ext rfl) (fun _ h => h)) hok2).mono ?_
   rintro e w3 ⟨lw3, rfl, hIw3, hLw3, hOw3, hkw3⟩
   have hfw3 := fine_of hok2; have hknw3 := hfw3.kn; have hEw3 := hIw3.fin; have hEbw3 := tAt_bd hfw3 _ (Nat.le_refl _); have hpnw3 := hfw3.pn
   rw [hw1.size] at hLw3 hOw3
   have hnw3 : z + 2 ≤ w3.heap.size := by have := hkw3.size; rw [hw1.size] at this; exact this
   refine ⟨_, _, rfl, hw1.keepsM hkw3, ?_⟩
   refine l_keep [1, 2, 4, 14] [(1, .int .i64 at_), (2, .pointer (some ⟨z, 0, none⟩)), (4, .pointer (some ⟨z + 1, 0, none⟩)), (14, .tuple #[.agg (TLayout.arr lw3), .int .i64 0])] ?_
   refine l_all 6 [o0, o0, o0, o0, (oa [.at 4, .at 4, .at 4, .at 4]), o0] [1, 2, 4, 6, 7] [Qb w3.heap.size, Qb w3.heap.size, Qb w3.heap.size, Qb w3.heap.size] [(1, .int .i64 at_), (2, .pointer (some ⟨z, 0, none⟩)), (4, .pointer (some ⟨z + 1, 0, none⟩)), (6, .pointer (some ⟨w3.heap.size, 0, none⟩)), (7, .int .i64 0)] ⟨w, w3.heap.size + 1, (qzvs_7 w z c w3 lw3)⟩ ⟨rfl, rfl, rfl, rfl, trivial⟩ ?_
   refine e_seq <| g_seq <| g_seq <| g_region <| l_all 2 [o0, o0] [1, 2, 4, 6, 7, 18] [] [(1, .int .i64 at_), (2, .pointer (some ⟨z, 0, none⟩)), (4, .pointer (some ⟨z + 1, 0, none⟩)), (6, .pointer (some ⟨w3.heap.size, 0, none⟩)), (7, .int .i64 0), (18, .bool false)] ⟨w, w3.heap.size + 1, (qzvs_7 w z c w3 lw3)⟩ trivial ?_
   refine e_seq <| g_false <| g_skip <| e_seq <| g_seq <| g_seq ?_
   by_cases h4 : (at_ : Int) < 0
   · refine g_region <| l_all 11 [o0, oT, o0, o0] [1, 2, 4, 6, 31] [BT ((at_ : Int) < 0)] [(1, .int .i64 at_), (2, .pointer (some ⟨z, 0, none⟩)), (4, .pointer (some ⟨z + 1, 0, none⟩)), (6, .pointer (some ⟨w3.heap.size, 0, none⟩)), (31, .bool true)] ⟨w, w3.heap.size + 1, (qzvs_7 w z c w3 lw3)⟩ ⟨bt (by omega), trivial⟩ ?_
     refine e_seq <| g_true <| g_seq <| g_region <| l_all 3 [o0, (oa [.at 2, .at 2, .at 2]), o0] [4, 5] [Qb (z + 1), Qb (z + 1), Qb (z + 1)] [(4, .pointer (some ⟨z + 1, 0, none⟩)), (5, .int .i64 151)] ⟨w, w3.heap.size + 1, (qzvs_7 w z c w3 lw3)⟩ ⟨rfl, rfl, rfl, trivial⟩ ?_
     refine e_seq <| g_ret <| e_ret [.at 2, .at 2, .at 2] [Qb (z + 1), Qb (z + 1), Qb (z + 1)] (.tuple #[.agg #[.int .i64 0, .int .i64 0, .int .i64 0], .int .i64 151]) ⟨rfl, rfl, rfl, trivial⟩ ?_
     intro w5 hw5
     have hR := ownR_bad hok2 (show atBad c at_ from (by unfold atBad; omega))
     exact ⟨by rw [hR.1, hR.2], hw5.back rfl (show w.heap.size ≤ w3.heap.size + 1 by omega) (List.mem_cons_self ..)⟩
   · by_cases h6 : (at_ : Int) < 16 * (min (max c.Frames 0) 1024)
     · refine g_region <| l_all 11 [o0, oF, o0, o0, o0, (oa [.at 1]), (ov (.int .i64 (max c.Frames 0))), (ov (.int .i64 (min (max c.Frames 0) 1024))), (ov (.int .i64 (16 * (min (max c.Frames 0) 1024)))), oF, o0] [1, 2, 4, 6, 31] [BF ((at_ : Int) < 0), Qb z, Value.int .i64 (if (0 : Int) > c.Frames then (0 : Int) else c.Frames) = Value.int .i64 (max c.Frames 0), Value.int .i64 (if (1024 : Int) < (max c.Frames 0) then (1024 : Int) else max c.Frames 0) = Value.int .i64 (min (max c.Frames 0) 1024), Value.int .i64 (IntKind.i64.wrap ((16 : Int) * (min (max c.Frames 0) 1024))) = Value.int .i64 (16 * (min (max c.Frames 0) 1024)), BF ((at_ : Int) ≥ (16 * (min (max c.Frames 0) 1024)))] [(1, .int .i64 at_), (2, .pointer (some ⟨z, 0, none⟩)), (4, .pointer (some ⟨z + 1, 0, none⟩)), (6, .pointer (some ⟨w3.heap.size, 0, none⟩)), (31, .bool false)] ⟨w, w3.heap.size + 1, (qzvs_7 w z c w3 lw3)⟩ ⟨bf (by omega), rfl, congrArg (Value.int .i64) (max_is _ _), congrArg (Value.int .i64) (min_is _ _), congrArg (Value.int .i64) (wr_i64 (by omega) (by omega) (by omega)), bf (by omega), trivial⟩ ?_
       refine e_seq <| g_false <| g_skip <| e_seq <| g_seq <| g_seq <| g_region <| l_run 2 [(oa [.at 1, .at 1, .at 1, .at 1, .at 1, .at 1, .at 1]), (oa [.at 4, .at 4, .at 4, .at 4])] [1, 2, 4, 33, 34] [Qb z, Qb z, Qb z, Qb z, Qb z, Qb z, Qb z, Qb w3.heap.size, Qb w3.heap.size, Qb w3.heap.size, Qb w3.heap.size] [(1, .int .i64 at_), (2, .pointer (some ⟨z, 0, none⟩)), (4, .pointer (some ⟨z + 1, 0, none⟩)), (33, .agg (TConfig.arr c)), (34, .agg (TLayout.arr lw3))] ⟨w, w3.heap.size + 1, (qzvs_7 w z c w3 lw3)⟩ ⟨rfl, rfl, rfl, rfl, rfl, rfl, rfl, rfl, rfl, rfl, rfl, trivial⟩ ?_
       refine l_call [] [] 43 #[.agg (TConfig.arr c), .agg (TLayout.arr lw3)] (some 35) trivial ?_
       intro w7 hw7
       refine (pieces_calls w7 c lw3 (hc.ext (hw7.ext rfl) (fun _ h => h)) (hLw3.ext (hw7.extM 3) (fun _ _ => trivial)) hok2 hIw3).mono ?_
       rintro e w8 ⟨a9, cp10, rfl, hSw8, hkw8⟩
       have hnw8 : w3.heap.size + 1 ≤ w8.heap.size := by have := hkw8.size; rw [hw7.size] at this; exact this
       rw [hw7.size] at hSw8
       refine ⟨_, _, rfl, hw7.keepsM hkw8, ?_⟩
       have hfine := hfw3; have hpll := layPcs_len hfine
       refine l_keep [1, 2, 4, 35] [(1, .int .i64 at_), (2, .pointer (some ⟨z, 0, none⟩)), (4, .pointer (some ⟨z + 1, 0, none⟩)), (35, .slice a9 ((layPcs c).length) cp10)] ?_
       refine l_all 2 [o0, o0] [1, 2, 4, 35, 36, 37] [] [(1, .int .i64 at_), (2, .pointer (some ⟨z, 0, none⟩)), (4, .pointer (some ⟨z + 1, 0, none⟩)), (35, .slice a9 ((layPcs c).length) cp10), (36, .int .i64 (((layPcs c).length : Nat) : Int)), (37, .int .i64 0)] ⟨w, w8.heap.size, (qzvs_6 w z c w3 lw3 w8)⟩ trivial ?_
       refine e_seq <| g_block <| g_loop (fun m a w' => ∃ (n12 : Nat) (mm : Nat), m = (layPcs c).length - mm ∧ w8.heap.size ≤ n12 ∧ (mm ≤ (layPcs c).length) ∧ (∀ q, q < mm → hit at_ (gd (layPcs c) q) = false) ∧ St 68 [(1, .int .i64 at_), (2, .pointer (some ⟨z, 0, none⟩)), (4, .pointer (some ⟨z + 1, 0, none⟩)), (35, .slice a9 ((layPcs c).length) cp10), (36, .int .i64 (((layPcs c).length : Nat) : Int)), (37, .int .i64 (mm : Int))] [] ⟨w, n12, (qzvs_6 w z c w3 lw3 w8)⟩ a w') ((layPcs c).length - 0) ?_ ?_
       · intro a w' hs; exact ⟨w8.heap.size, 0, rfl, Nat.le_refl _, Nat.zero_le _, fun q hq => absurd hq (Nat.not_lt_zero q), hs⟩
       · rintro m a w' ⟨n12, mm, rfl, hn11, hkmm, hm0, hs⟩
         refine (?_ : G Try.prog 68 [(1, .int .i64 at_), (2, .pointer (some ⟨z, 0, none⟩)), (4, .pointer (some ⟨z + 1, 0, none⟩)), (35, .slice a9 ((layPcs c).length) cp10), (36, .int .i64 (((layPcs c).length : Nat) : Int)), (37, .int .i64 (mm : Int))] [] ⟨w, n12, (qzvs_6 w z c w3 lw3 w8)⟩ _ _ _) a w' hs
         clear hs a w'
         refine g_seq ?_
         by_cases h13 : ((mm : Int) : Int) < (((layPcs c).length : Nat) : Int)
         · refine g_region <| l_all 1 [oT] [1, 2, 4, 35, 36, 37, 38] [BT (((mm : Int) : Int) < (((layPcs c).length : Nat) : Int))] [(1, .int .i64 at_), (2, .pointer (some ⟨z, 0, none⟩)), (4, .pointer (some ⟨z + 1, 0, none⟩)), (35, .slice a9 ((layPcs c).length) cp10), (36, .int .i64 (((layPcs c).length : Nat) : Int)), (37, .int .i64 (mm : Int)), (38, .bool true)] ⟨w, n12, (qzvs_6 w z c w3 lw3 w8)⟩ ⟨bt (by omega), trivial⟩ ?_
           refine e_seq <| g_seq <| g_true <| g_skip <| e_seq <| g_seq <| g_block <| g_seq ?_
           obtain ⟨b14, o15, ha16, hF18, hc17⟩ := ((⟨hSw8, lpc_ink hfine⟩ : SlOk TPiece.cells 5 TPiece.ok _ _ _)).1.all (show 0 < (layPcs c).length by omega)
           replace ha16 : a9 = some ⟨b14, o15, none⟩ := ha16
           refine g_eq [(1, .int .i64 at_), (2, .pointer (some ⟨z, 0, none⟩)), (4, .pointer (some ⟨z + 1, 0, none⟩)), (35, .slice (some ⟨b14, o15, none⟩) ((layPcs c).length) cp10), (36, .int .i64 (((layPcs c).length : Nat) : Int)), (37, .int .i64 (mm : Int)), (38, .bool true)] (by simp only [ha16]) ?_
           have hc19 := hc17 mm (show mm < (layPcs c).length by omega)
           have he20 := ((⟨hSw8, lpc_ink hfine⟩ : SlOk TPiece.cells 5 TPiece.ok _ _ _)).2 mm (show mm < (layPcs c).length by omega)
           obtain ⟨y21, hy21⟩ : ∃ y_, y_ = gd (⟨a9, cp10, layPcs c⟩ : Sl TPiece).xs mm := ⟨_, rfl⟩
           rw [← hy21] at he20 hc19
           have hPc := lpc_in hfine (show mm < (layPcs c).length by omega); rw [← hy21] at hPc; unfold PcOk at hPc
           refine g_region <| l_all 4 [(oi mm), (oa [.via 5 (.int .i64 y21.At), .via 5 (.int .i64 y21.Size), .via 5 (.int .i64 y21.Owner.Kind), .via 5 (.int .i64 y21.Owner.Index), .via 5 (.int .i64 y21.Owner.Port)]), o0, (oa [.at 6, .at 6, .at 6, .at 6, .at 6])] [1, 2, 4, 35, 36, 37, 9] [((mm : Int) : Int) = ((mm : Nat) : Int), mm < (layPcs c).length, (none : Option Nat) = none, ∀ w', Ch.holds (mid (w3.heap.size + 1) w8) w' → w'.cell? ⟨b14, o15 + mm * 5, none⟩ = some (.int .i64 y21.At), ∀ w', Ch.holds (mid (w3.heap.size + 1) w8) w' → w'.cell? ⟨b14, o15 + mm * 5 + 1, none⟩ = some (.int .i64 y21.Size), ∀ w', Ch.holds (mid (w3.heap.size + 1) w8) w' → w'.cell? ⟨b14, o15 + mm * 5 + 2, none⟩ = some (.int .i64 y21.Owner.Kind), ∀ w', Ch.holds (mid (w3.heap.size + 1) w8) w' → w'.cell? ⟨b14, o15 + mm * 5 + 3, none⟩ = some (.int .i64 y21.Owner.Index), ∀ w', Ch.holds (mid (w3.heap.size + 1) w8) w' → w'.cell? ⟨b14, o15 + mm * 5 + 4, none⟩ = some (.int .i64 y21.Owner.Port), Qb n12, Qb n12, Qb n12, Qb n12, Qb n12] [(1, .int .i64 at_), (2, .pointer (some ⟨z, 0, none⟩)), (4, .pointer (some ⟨z + 1, 0, none⟩)), (35, .slice (some ⟨b14, o15, none⟩) ((layPcs c).length) cp10), (36, .int .i64 (((layPcs c).length : Nat) : Int)), (37, .int .i64 (mm : Int)), (9, .pointer (some ⟨n12, 0, none⟩))] ⟨w, n12 + 1, (qzvs_5 w z c w3 lw3 w8 n12 y21)⟩ ⟨rfl, (by omega), rfl, mid_cell hF18 (hc19 0 _ rfl), mid_cell hF18 (hc19 1 _ rfl), mid_cell hF18 (hc19 2 _ rfl), mid_cell hF18 (hc19 3 _ rfl), mid_cell hF18 (hc19 4 _ rfl), rfl, rfl, rfl, rfl, rfl, trivial⟩ ?_
           refine e_seq <| g_seq ?_
           by_cases h22 : (at_ : Int) < y21.At
           · refine g_region <| l_all 13 [o0, o0, (oa [.at 6]), oF, o0, o0] [1, 2, 4, 35, 36, 37, 9, 53] [Qb n12, BF ((at_ : Int) ≥ y21.At)] [(1, .int .i64 at_), (2, .pointer (some ⟨z, 0, none⟩)), (4, .pointer (some ⟨z + 1, 0, none⟩)), (35, .slice (some ⟨b14, o15, none⟩) ((layPcs c).length) cp10), (36, .int .i64 (((layPcs c).length : Nat) : Int)), (37, .int .i64 (mm : Int)), (9, .pointer (some ⟨n12, 0, none⟩)), (53, .bool false)] ⟨w, n12 + 1, (qzvs_5 w z c w3 lw3 w8 n12 y21)⟩ ⟨rfl, bf (by omega), trivial⟩ ?_
             refine e_seq <| g_false <| g_skip <| e_blk <| e_seq <| g_region <| l_all 2 [(ov (.int .i64 ((mm + 1 : Nat) : Int))), o0] [1, 2, 4, 35, 36, 37] [Value.int .i64 (IntKind.i64.wrap (((mm : Int) : Int) + 1)) = Value.int .i64 (((mm + 1 : Nat) : Int))] [(1, .int .i64 at_), (2, .pointer (some ⟨z, 0, none⟩)), (4, .pointer (some ⟨z + 1, 0, none⟩)), (35, .slice (some ⟨b14, o15, none⟩) ((layPcs c).length) cp10), (36, .int .i64 (((layPcs c).length : Nat) : Int)), (37, .int .i64 ((mm + 1 : Nat) : Int))] ⟨w, n12 + 1, (qzvs_5 w z c w3 lw3 w8 n12 y21)⟩ ⟨congrArg (Value.int .i64) (wr_i64 (by omega) (by omega) (by omega)), trivial⟩ ?_
             refine e_pick [0, 1, 2, 3, 4, 5] (qzvs_6 w z c w3 lw3 w8) rfl rfl ?_
             refine e_eqk [1, 2, 4, 35, 36, 37] [(1, .int .i64 at_), (2, .pointer (some ⟨z, 0, none⟩)), (4, .pointer (some ⟨z + 1, 0, none⟩)), (35, .slice a9 ((layPcs c).length) cp10), (36, .int .i64 (((layPcs c).length : Nat) : Int)), (37, .int .i64 ((mm + 1 : Nat) : Int))] (by simp only [ha16]; rfl) ?_
             refine e_inv (fun a w' hs => ⟨(layPcs c).length - (mm + 1), by omega, (n12 + 1), (mm + 1), rfl, by omega, by omega, upto hm0 (by rw [← hy21]; exact decide_eq_false (by omega)), hs⟩)
           · by_cases h23 : (at_ : Int) < y21.At + y21.Size
             · refine g_region <| l_all 13 [o0, o0, (oa [.at 6]), oT, o0, o0, o0, (oa [.at 6]), o0, (oa [.at 6]), (ov (.int .i64 (y21.At + y21.Size))), oT, o0] [1, 2, 4, 35, 36, 37, 9, 53] [Qb n12, BT ((at_ : Int) ≥ y21.At), Qb n12, Qb n12, Value.int .i64 (IntKind.i64.wrap ((y21.At : Int) + y21.Size)) = Value.int .i64 (y21.At + y21.Size), BT ((at_ : Int) < (y21.At + y21.Size))] [(1, .int .i64 at_), (2, .pointer (some ⟨z, 0, none⟩)), (4, .pointer (some ⟨z + 1, 0, none⟩)), (35, .slice (some ⟨b14, o15, none⟩) ((layPcs c).length) cp10), (36, .int .i64 (((layPcs c).length : Nat) : Int)), (37, .int .i64 (mm : Int)), (9, .pointer (some ⟨n12, 0, none⟩)), (53, .bool true)] ⟨w, n12 + 1, (qzvs_5 w z c w3 lw3 w8 n12 y21)⟩ ⟨rfl, bt (by omega), rfl, rfl, congrArg (Value.int .i64) (wr_i64 (by omega) (by omega) (by omega)), bt (by omega), trivial⟩ ?_
               refine e_seq <| g_true <| g_seq <| g_region <| l_all 4 [o0, (oa [.at 6, .at 6, .at 6]), (oa [.at 2, .at 2, .at 2]), o0] [4, 5] [Qb n12, Qb n12, Qb n12, Qb (z + 1), Qb (z + 1), Qb (z + 1)] [(4, .pointer (some ⟨z + 1, 0, none⟩)), (5, .int .i64 0)] ⟨w, n12 + 1, [(old0 w), (qzvs_4 z c), (.blk (z + 1) (.cells #[.int .i64 y21.Owner.Kind, .int .i64 y21.Owner.Index, .int .i64 y21.Owner.Port] 54 (0, 0)) true), (mid (z + 2) w3), (qzvs_2 w3 lw3), (mid (w3.heap.size + 1) w8), (qzvs_3 n12 y21)]⟩ ⟨rfl, rfl, rfl, rfl, rfl, rfl, trivial⟩ ?_
               refine e_seq <| g_ret <| e_ret [.at 2, .at 2, .at 2] [Qb (z + 1), Qb (z + 1), Qb (z + 1)] (.tuple #[.agg #[.int .i64 y21.Owner.Kind, .int .i64 y21.Owner.Index, .int .i64 y21.Owner.Port], .int .i64 0]) ⟨rfl, rfl, rfl, trivial⟩ ?_
               intro w24 hw24
               have hR := ownR_is hok2 (show ¬ atBad c at_ from (by unfold atBad; omega))
               rw [own_hit (m := mm) (by omega) hm0 (by rw [← hy21]; exact decide_eq_true ⟨by omega, by omega⟩), ← hy21] at hR
               exact ⟨by rw [hR.1, hR.2], hw24.back rfl (show w.heap.size ≤ n12 + 1 by omega) (List.mem_cons_self ..)⟩
             · refine g_region <| l_all 13 [o0, o0, (oa [.at 6]), oT, o0, o0, o0, (oa [.at 6]), o0, (oa [.at 6]), (ov (.int .i64 (y21.At + y21.Size))), oF, o0] [1, 2, 4, 35, 36, 37, 9, 53] [Qb n12, BT ((at_ : Int) ≥ y21.At), Qb n12, Qb n12, Value.int .i64 (IntKind.i64.wrap ((y21.At : Int) + y21.Size)) = Value.int .i64 (y21.At + y21.Size), BF ((at_ : Int) < (y21.At + y21.Size))] [(1, .int .i64 at_), (2, .pointer (some ⟨z, 0, none⟩)), (4, .pointer (some ⟨z + 1, 0, none⟩)), (35, .slice (some ⟨b14, o15, none⟩) ((layPcs c).length) cp10), (36, .int .i64 (((layPcs c).length : Nat) : Int)), (37, .int .i64 (mm : Int)), (9, .pointer (some ⟨n12, 0, none⟩)), (53, .bool false)] ⟨w, n12 + 1, (qzvs_5 w z c w3 lw3 w8 n12 y21)⟩ ⟨rfl, bt (by omega), rfl, rfl, congrArg (Value.int .i64) (wr_i64 (by omega) (by omega) (by omega)), bf (by omega), trivial⟩ ?_
               refine e_seq <| g_false <| g_skip <| e_blk <| e_seq <| g_region <| l_all 2 [(ov (.int .i64 ((mm + 1 : Nat) : Int))), o0] [1, 2, 4, 35, 36, 37] [Value.int .i64 (IntKind.i64.wrap (((mm : Int) : Int) + 1)) = Value.int .i64 (((mm + 1 : Nat) : Int))] [(1, .int .i64 at_), (2, .pointer (some ⟨z, 0, none⟩)), (4, .pointer (some ⟨z + 1, 0, none⟩)), (35, .slice (some ⟨b14, o15, none⟩) ((layPcs c).length) cp10), (36, .int .i64 (((layPcs c).length : Nat) : Int)), (37, .int .i64 ((mm + 1 : Nat) : Int))] ⟨w, n12 + 1, (qzvs_5 w z c w3 lw3 w8 n12 y21)⟩ ⟨congrArg (Value.int .i64) (wr_i64 (by omega) (by omega) (by omega)), trivial⟩ ?_
               refine e_pick [0, 1, 2, 3, 4, 5] (qzvs_6 w z c w3 lw3 w8) rfl rfl ?_
               refine e_eqk [1, 2, 4, 35, 36, 37] [(1, .int .i64 at_), (2, .pointer (some ⟨z, 0, none⟩)), (4, .pointer (some ⟨z + 1, 0, none⟩)), (35, .slice a9 ((layPcs c).length) cp10), (36, .int .i64 (((layPcs c).length : Nat) : Int)), (37, .int .i64 ((mm + 1 : Nat) : Int))] (by simp only [ha16]; rfl) ?_
               refine e_inv (fun a w' hs => ⟨(layPcs c).length - (mm + 1), by omega, (n12 + 1), (mm + 1), rfl, by omega, by omega, upto hm0 (by rw [← hy21]; exact decide_eq_false (by omega)), hs⟩)
         · refine g_region <| l_all 1 [oF] [1, 2, 4, 35, 36, 37, 38] [BF (((mm : Int) : Int) < (((layPcs c).length : Nat) : Int))] [(1, .int .i64 at_), (2, .pointer (some ⟨z, 0, none⟩)), (4, .pointer (some ⟨z + 1, 0, none⟩)), (35, .slice a9 ((layPcs c).length) cp10), (36, .int .i64 (((layPcs c).length : Nat) : Int)), (37, .int .i64 (mm : Int)), (38, .bool false)] ⟨w, n12, (qzvs_6 w z c w3 lw3 w8)⟩ ⟨bf (by omega), trivial⟩ ?_
           refine e_seq <| g_seq <| g_false <| g_exit <| e_out <| e_outI <| e_hit <| e_seq <| g_seq <| g_seq <| g_region <| l_run 3 [(oa [.at 1, .at 1, .at 1, .at 1, .at 1, .at 1, .at 1]), o0, (ov (.int .i64 (at_ / 16)))] [4, 58, 60] [Qb z, Qb z, Qb z, Qb z, Qb z, Qb z, Qb z, Value.int .i64 (IntKind.i64.wrap (Int.tdiv (at_) 16)) = Value.int .i64 (at_ / 16)] [(4, .pointer (some ⟨z + 1, 0, none⟩)), (58, .agg (TConfig.arr c)), (60, .int .i64 (at_ / 16))] ⟨w, n12, (qzvs_6 w z c w3 lw3 w8)⟩ ⟨rfl, rfl, rfl, rfl, rfl, rfl, rfl, congrArg (Value.int .i64) (wr_div (by omega) (by omega) (by omega)), trivial⟩ ?_
           refine l_call [] [] 44 #[.agg (TConfig.arr c), .int .i64 (at_ / 16)] (some 61) trivial ?_
           intro w25 hw25
           refine (region_calls w25 c (at_ / 16) (hc.ext (hw25.ext rfl) (fun _ h => h)) hok2).mono ?_
           rintro e w26 ⟨rfl, hkw26⟩
           have hnw26 : n12 ≤ w26.heap.size := by have := hkw26.size; rw [hw25.size] at this; exact this
           refine ⟨_, _, rfl, hw25.keeps hkw26, ?_⟩
           refine l_keep [4, 61] [(4, .pointer (some ⟨z + 1, 0, none⟩)), (61, .tuple #[.int .i64 (regI c (at_ / 16)), .bool ((regFind c (at_ / 16)).isSome)])] ?_
           refine l_all 5 [o0, o0, o0, o0, o0] [4, 10, 11] [] [(4, .pointer (some ⟨z + 1, 0, none⟩)), (10, .int .i64 (regI c (at_ / 16))), (11, .bool ((regFind c (at_ / 16)).isSome))] ⟨w, w26.heap.size, (qzvs_6 w z c w3 lw3 w8)⟩ trivial ?_
           refine e_seq <| g_seq <| g_region <| l_all 1 [o0] [4, 10, 64] [] [(4, .pointer (some ⟨z + 1, 0, none⟩)), (10, .int .i64 (regI c (at_ / 16))), (64, .bool ((regFind c (at_ / 16)).isSome))] ⟨w, w26.heap.size, (qzvs_6 w z c w3 lw3 w8)⟩ trivial ?_
           refine e_seq ?_
           by_cases h27 : ((regFind c (at_ / 16)).isSome) = true
           · refine g_true ?_ (congrArg Value.bool h27)
             refine g_seq <| g_region <| l_all 4 [o0, o0, (oa [.at 2, .at 2, .at 2]), o0] [4, 5] [Qb (z + 1), Qb (z + 1), Qb (z + 1)] [(4, .pointer (some ⟨z + 1, 0, none⟩)), (5, .int .i64 0)] ⟨w, w26.heap.size, [(old0 w), (qzvs_4 z c), (.blk (z + 1) (.cells #[.int .i64 1, .int .i64 (regI c (at_ / 16)), .int .i64 0] 54 (0, 0)) true), (mid (z + 2) w3), (qzvs_2 w3 lw3), (mid (w3.heap.size + 1) w8)]⟩ ⟨rfl, rfl, rfl, trivial⟩ ?_
             refine e_seq <| g_ret <| e_ret [.at 2, .at 2, .at 2] [Qb (z + 1), Qb (z + 1), Qb (z + 1)] (.tuple #[.agg #[.int .i64 1, .int .i64 (regI c (at_ / 16)), .int .i64 0], .int .i64 0]) ⟨rfl, rfl, rfl, trivial⟩ ?_
             intro w28 hw28
             have hR := ownR_is hok2 (show ¬ atBad c at_ from (by unfold atBad; omega))
             rw [own_reg (fun q hq => hm0 q (by omega)) h27] at hR
             exact ⟨by rw [hR.1, hR.2], hw28.back rfl (show w.heap.size ≤ w26.heap.size by omega) (List.mem_cons_self ..)⟩
           · refine g_false ?_ (congrArg Value.bool (Bool.eq_false_iff.2 h27))
             refine g_skip <| e_seq <| g_seq <| g_region <| l_all 3 [o0, (oa [.at 2, .at 2, .at 2]), o0] [4, 5] [Qb (z + 1), Qb (z + 1), Qb (z + 1)] [(4, .pointer (some ⟨z + 1, 0, none⟩)), (5, .int .i64 0)] ⟨w, w26.heap.size, (qzvs_6 w z c w3 lw3 w8)⟩ ⟨rfl, rfl, rfl, trivial⟩ ?_
             refine e_seq <| g_ret <| e_ret [.at 2, .at 2, .at 2] [Qb (z + 1), Qb (z + 1), Qb (z + 1)] (.tuple #[.agg #[.int .i64 0, .int .i64 0, .int .i64 0], .int .i64 0]) ⟨rfl, rfl, rfl, trivial⟩ ?_
             intro w29 hw29
             have hR := ownR_is hok2 (show ¬ atBad c at_ from (by unfold atBad; omega))
             rw [own_none (fun q hq => hm0 q (by omega)) h27] at hR
             exact ⟨by rw [hR.1, hR.2], hw29.back rfl (show w.heap.size ≤ w26.heap.size by omega) (List.mem_cons_self ..)⟩
     · refine g_region <| l_all 11 [o0, oF, o0, o0, o0, (oa [.at 1]), (ov (.int .i64 (max c.Frames 0))), (ov (.int .i64 (min (max c.Frames 0) 1024))), (ov (.int .i64 (16 * (min (max c.Frames 0) 1024)))), oT, o0] [1, 2, 4, 6, 31] [BF ((at_ : Int) < 0), Qb z, Value.int .i64 (if (0 : Int) > c.Frames then (0 : Int) else c.Frames) = Value.int .i64 (max c.Frames 0), Value.int .i64 (if (1024 : Int) < (max c.Frames 0) then (1024 : Int) else max c.Frames 0) = Value.int .i64 (min (max c.Frames 0) 1024), Value.int .i64 (IntKind.i64.wrap ((16 : Int) * (min (max c.Frames 0) 1024))) = Value.int .i64 (16 * (min (max c.Frames 0) 1024)), BT ((at_ : Int) ≥ (16 * (min (max c.Frames 0) 1024)))] [(1, .int .i64 at_), (2, .pointer (some ⟨z, 0, none⟩)), (4, .pointer (some ⟨z + 1, 0, none⟩)), (6, .pointer (some ⟨w3.heap.size, 0, none⟩)), (31, .bool true)] ⟨w, w3.heap.size + 1, (qzvs_7 w z c w3 lw3)⟩ ⟨bf (by omega), rfl, congrArg (Value.int .i64) (max_is _ _), congrArg (Value.int .i64) (min_is _ _), congrArg (Value.int .i64) (wr_i64 (by omega) (by omega) (by omega)), bt (by omega), trivial⟩ ?_
       refine e_seq <| g_true <| g_seq <| g_region <| l_all 3 [o0, (oa [.at 2, .at 2, .at 2]), o0] [4, 5] [Qb (z + 1), Qb (z + 1), Qb (z + 1)] [(4, .pointer (some ⟨z + 1, 0, none⟩)), (5, .int .i64 151)] ⟨w, w3.heap.size + 1, (qzvs_7 w z c w3 lw3)⟩ ⟨rfl, rfl, rfl, trivial⟩ ?_
       refine e_seq <| g_ret <| e_ret [.at 2, .at 2, .at 2] [Qb (z + 1), Qb (z + 1), Qb (z + 1)] (.tuple #[.agg #[.int .i64 0, .int .i64 0, .int .i64 0], .int .i64 151]) ⟨rfl, rfl, rfl, trivial⟩ ?_
       intro w30 hw30
       have hR := ownR_bad hok2 (show atBad c at_ from (by unfold atBad; omega))
       exact ⟨by rw [hR.1, hR.2], hw30.back rfl (show w.heap.size ≤ w3.heap.size + 1 by omega) (List.mem_cons_self ..)⟩
 · refine (of_no w1 c (hc.ext (hw1.ext rfl) (fun _ h => h)) (Bool.eq_false_iff.2 hok2)).mono ?_
   rintro e w31 ⟨rfl, hkw31⟩
   have hnw31 : z + 2 ≤ w31.heap.size := by have := hkw31.size; rw [hw1.size] at this; exact this
   refine ⟨_, _, rfl, hw1.keeps hkw31, ?_⟩
   refine l_keep [1, 2, 4, 14] [(1, .int .i64 at_), (2, .pointer (some ⟨z, 0, none⟩)), (4, .pointer (some ⟨z + 1, 0, none⟩)), (14, .tuple #[.agg #[.int .i64 0, .slice none 0 0, .slice none 0 0, .int .i64 0], .int .i64 150])] ?_
   refine l_all 6 [o0, o0, o0, o0, (oa [.at 3, .at 3, .at 3, .at 3]), o0] [1, 2, 4, 6, 7] [Qb w31.heap.size, Qb w31.heap.size, Qb w31.heap.size, Qb w31.heap.size] [(1, .int .i64 at_), (2, .pointer (some ⟨z, 0, none⟩)), (4, .pointer (some ⟨z + 1, 0, none⟩)), (6, .pointer (some ⟨w31.heap.size, 0, none⟩)), (7, .int .i64 150)] ⟨w, w31.heap.size + 1, [(old0 w), (qzvs_4 z c), (qzvs_1 z), (qzvs_0 w31)]⟩ ⟨rfl, rfl, rfl, rfl, trivial⟩ ?_
   refine e_seq <| g_seq <| g_seq <| g_region <| l_all 2 [o0, o0] [1, 2, 4, 6, 7, 18] [] [(1, .int .i64 at_), (2, .pointer (some ⟨z, 0, none⟩)), (4, .pointer (some ⟨z + 1, 0, none⟩)), (6, .pointer (some ⟨w31.heap.size, 0, none⟩)), (7, .int .i64 150), (18, .bool true)] ⟨w, w31.heap.size + 1, [(old0 w), (qzvs_4 z c), (qzvs_1 z), (qzvs_0 w31)]⟩ trivial ?_
   refine e_seq <| g_true <| g_seq <| g_region <| l_all 4 [o0, o0, (oa [.at 2, .at 2, .at 2]), o0] [4, 5] [Qb (z + 1), Qb (z + 1), Qb (z + 1)] [(4, .pointer (some ⟨z + 1, 0, none⟩)), (5, .int .i64 150)] ⟨w, w31.heap.size + 1, [(old0 w), (qzvs_4 z c), (qzvs_1 z), (qzvs_0 w31)]⟩ ⟨rfl, rfl, rfl, trivial⟩ ?_
   refine e_seq <| g_ret <| e_ret [.at 2, .at 2, .at 2] [Qb (z + 1), Qb (z + 1), Qb (z + 1)] (.tuple #[.agg #[.int .i64 0, .int .i64 0, .int .i64 0], .int .i64 150]) ⟨rfl, rfl, rfl, trivial⟩ ?_
   intro w32 hw32
   have hR := ownR_no (at_ := at_) hok2
   exact ⟨by rw [hR.1, hR.2], hw32.back rfl (show w.heap.size ≤ w31.heap.size + 1 by omega) (List.mem_cons_self ..)⟩

end Go.Proofs.Ytpoeaajkgblkmaa.Ly
