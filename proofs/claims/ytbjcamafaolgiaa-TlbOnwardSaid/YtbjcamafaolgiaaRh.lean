/- TlbPlays. No conditions. -/
import Derived.Test.YtbjcamafaolgiaaRg
namespace Go.Proofs.Ytbjcamafaolgiaa.Ly
open Go Go.Proofs.Ytbjcamafaolgiaa.Eng Go.Proofs.Ytbjcamafaolgiaa.Mem
set_option linter.unusedSimpArgs false
set_option linter.unusedVariables false
set_option maxRecDepth 100000
open Go.Proofs.Ytbjcamafaolgiaa.Sh Go.Proofs.Ytbjcamafaolgiaa.Tl

theorem step_sat {A : AW} {w : World} {i j t d : Nat} {F H : Nat → Prop} {xs zs : List TLeaf} {kept : List Ch} (h : Sat A w) (is : List Nat) (hi : A.σ[i]? = some (tlbC t F (kvs xs))) (hj : A.σ[j]? = some (refC d H zs)) (hne : i ≠ j) (hnd : nodupB is = true) (hp : picks is A.σ = some kept) (hni : is.contains i = false) (hnj : is.contains j = false) (o : TOp) (hl2 : SlAt TLeaf.cells 3 (fun b => ¬ (F b ∨ H b)) w o.Leaves) (hB2 : o.Leaves.xs.length * 24 ≤ 140737488351232) :
    Calls Try.prog 12 #[.pointer (some ⟨t, 0, none⟩), .pointer (some ⟨d, 0, none⟩), .agg (TOp.arr o)] w fun e w' => ∃ v F' H', e = .returned (.bool v) ∧ (xs = zs → v = true) ∧ A.n ≤ w'.heap.size ∧ Sat { A with n := w'.heap.size, σ := kept ++ [tlbC t F' (kvs (stepX xs o)), refC d H' (stepX zs o)] } w' := by
  have hT : TlbIs w t F (kvs xs) := h.at hi
  have hR : RefIs w d H zs := h.at hj
  have hR' := hR
  obtain ⟨a0, c0, -, -, hz4, -, -⟩ := hR'
  refine (step_walk w t d F H xs zs o hT hR (fun b hb => h.two hi hj hne rfl b hb) (tlb_len h hi).1 hz4 hl2 hB2).mono ?_
  rintro e w' ⟨v, F', H', rfl, hv, hsz, hP⟩
  have hk : Keeps (fun b => F b ∨ H b) w w' := hP.back rfl hsz (List.mem_cons_self ..)
  have hpk : picks [i, j] A.σ = some [tlbC t F (kvs xs), refC d H zs] := by simp [picks, hi, hj]
  have key : ∀ (q : Nat) (c : Ch), q ≠ 0 → (⟨w, w'.heap.size, [old (fun b => F b ∨ H b) w, tlbC t F' (kvs (stepX xs o)), refC d H' (stepX zs o)]⟩ : AW).σ[q]? = some c → c.rw = true → ∀ b, c.F b → b < w'.heap.size ∧ (Blocks [tlbC t F (kvs xs), refC d H zs] b ∨ w.heap.size ≤ b) := by
    intro q c hq hc hr b hb
    refine ⟨hP.bnd c (List.mem_of_getElem? hc) b hb, ?_⟩
    by_cases h1 : w.heap.size ≤ b
    · exact .inr h1
    · left
      have h2 := hP.two (d := old (fun b => F b ∨ H b) w) hc rfl hq hr b hb
      have h3 : F b ∨ H b := by
        by_cases h4 : F b ∨ H b
        · exact h4
        · exact absurd ⟨by omega, h4⟩ h2
      rcases h3 with h3 | h3
      · exact ⟨_, List.mem_cons_self .., h3⟩
      · exact ⟨_, List.mem_cons_of_mem _ (List.mem_cons_self ..), h3⟩
  have hS := h.turn is [i, j] (new := [tlbC t F' (kvs (stepX xs o)), refC d H' (stepX zs o)]) hnd hp hpk (by
    rw [List.all_eq_true]
    intro q hq
    rw [List.contains_eq_mem] at hni hnj
    simp only [decide_eq_false_iff_not] at hni hnj
    simp only [List.contains_cons, List.contains_nil, Bool.or_false, Bool.not_eq_true', Bool.or_eq_false_iff, beq_eq_false_iff_ne]
    exact ⟨fun e => hni (e ▸ hq), fun e => hnj (e ▸ hq)⟩) (fun c hc => by simp only [List.mem_cons, List.not_mem_nil, or_false] at hc; rcases hc with rfl | rfl <;> rfl) (w' := w') (hk.mono (fun b _ hb => hb.elim (fun x => ⟨_, List.mem_cons_self .., x⟩) (fun x => ⟨_, List.mem_cons_of_mem _ (List.mem_cons_self ..), x⟩))) (fun c hc => by
    simp only [List.mem_cons, List.not_mem_nil, or_false] at hc
    rcases hc with rfl | rfl
    · exact ⟨hP.at (i := 1) rfl, tlb_stable _ _ _, key 1 _ (by decide) rfl rfl⟩
    · exact ⟨hP.at (i := 2) rfl, ref_stable _ _ _, key 2 _ (by decide) rfl rfl⟩) (by
    simp only [List.map_cons, List.map_nil, List.pairwise_cons, List.mem_singleton, forall_eq, List.not_mem_nil, false_imp_iff, implies_true, List.Pairwise.nil, and_true]
    intro _ b hb hb2
    exact hP.two (i := 1) (j := 2) rfl rfl (by decide) rfl b hb hb2)
  exact ⟨v, F', H', rfl, hv, by rw [← h.size]; exact hsz, hS⟩
theorem Sat.ref0 {A : AW} {w : World} (h : Sat A w) {i b : Nat} (hi : A.σ[i]? = some (.blk b (.cells #[.slice none 0 0] 37 (0, 0)) true)) : Sat { A with σ := A.σ.set i (refC b (fun k => k = b) []) } w := by
  have hb : At w b (.cells #[.slice none 0 0] 37 (0, 0)) := h.at hi
  exact h.conv hi rfl (fun hw => ⟨none, 0, hw, ⟨Nat.zero_le _, Nat.zero_le _, fun h => absurd rfl h⟩, by simp, rfl, fun k hk => by rw [hk]; exact (Array.getElem?_eq_some_iff.1 hb).1⟩) (ref_stable _ _ _)
theorem same_yes (w : World) (la lb : Sl TLeaf) (ha : SlAt TLeaf.cells 3 Any w la) (hb : SlAt TLeaf.cells 3 Any w lb) (h : la.xs = lb.xs) : Calls Try.prog 13 #[.slice la.a la.xs.length la.cap, .slice lb.a lb.xs.length lb.cap] w fun e w' => e = .returned (.bool true) ∧ Keeps (fun _ => False) w w' := by
  have := same_calls w la lb ha hb
  rw [decide_eq_true h] at this
  exact this
section
variable {P : Program} {N : Nat} {env : Env} {ds : List Deferred} {A : AW} {s : List Kt} {Q : Exit → Act → World → Prop} {c : Code}
theorem g_ref0 (i b : Nat) (K : G P N env ds { A with σ := A.σ.set i (refC b (fun k => k = b) []) } c s Q) (hi : A.σ[i]? = some (.blk b (.cells #[.slice none 0 0] 37 (0, 0)) true) := by rfl) : G P N env ds A c s Q :=
  fun a w hst => K a w ⟨hst.sz, hst.df, hst.kn, Sat.ref0 hst.mem hi⟩
/-- What a piece holds, in some world. -/
theorem g_tlblen (i t : Nat) (F : Nat → Prop) (xs : List TLeaf) (K : xs.length ≤ 4 → (xs.map TLeaf.Page).Nodup → G P N env ds A c s Q) (hi : A.σ[i]? = some (tlbC t F (kvs xs)) := by rfl) : G P N env ds A c s Q :=
  fun a w hst => K (tlb_len hst.mem hi).1 (tlb_len hst.mem hi).2 a w hst
end
abbrev qagr_0 (w9 : World) : Ch := .blk (w9.heap.size + 1) (.cells #[.slice none 0 0] 37 (0, 0)) true
abbrev qagr_1 (n12 : Nat) (y21 : TOp) : Ch := .blk n12 (.cells (TOp.arr y21) 39 (0, 0)) true
abbrev qagr_2 (b14 : Nat) (o15 : Nat) (script : Sl TOp) : Nat × Value := (0, .slice (some ⟨b14, o15, none⟩) script.xs.length script.cap)
abbrev qagr_3 (script : Sl TOp) : Nat × Value := (0, .slice script.a script.xs.length script.cap)
abbrev qagr_4 (w9 : World) : Nat × Value := (7, .pointer (some ⟨w9.heap.size + 1, 0, none⟩))
abbrev qagr_5 (w9 : World) : Nat × Value := (6, .pointer (some ⟨w9.heap.size, 0, none⟩))
abbrev qagr_6 (b3 : Nat) : Nat × Value := (3, .pointer (some ⟨b3, 0, none⟩))
abbrev qagr_7 (b7 : Nat) : Nat × Value := (4, .pointer (some ⟨b7, 0, none⟩))
abbrev qagr_8 (w : World) (b3 : Nat) (FA : Nat → Prop) (xa : List TLeaf) (b7 : Nat) (FB : Nat → Prop) (xb : List TLeaf) (w9 : World) (HX : Nat → Prop) (HY : Nat → Prop) (n12 : Nat) (y21 : TOp) : List Ch := [(old0 w), (Tl.tlbC b3 FA (kvs xa)), (Tl.tlbC b7 FB (kvs xb)), (refC w9.heap.size HX xa), (refC (w9.heap.size + 1) HY xb), (qagr_1 n12 y21)]
abbrev qagr_9 (w : World) (b3 : Nat) (FA : Nat → Prop) (xa : List TLeaf) (b7 : Nat) (FB : Nat → Prop) (xb : List TLeaf) (w9 : World) (HX : Nat → Prop) (HY : Nat → Prop) : List Ch := [(old0 w), (Tl.tlbC b3 FA (kvs xa)), (Tl.tlbC b7 FB (kvs xb)), (refC w9.heap.size HX xa), (refC (w9.heap.size + 1) HY xb)]
theorem plays_calls (w : World) (script : Sl TOp) (hsc : SlOk TOp.cells 6 TOp.ok Any w script) : Calls Try.prog 4 #[.slice script.a script.xs.length script.cap] w fun e w' => e = .returned (.bool true) ∧ Keeps (fun _ => False) w w' := by
 obtain ⟨z, hz⟩ : ∃ z, z = w.heap.size := ⟨_, rfl⟩
 refine calls_G (args := [.slice script.a script.xs.length script.cap]) 50 ⟨w, z, [(old0 w)]⟩ Try.func4 rfl (by kernel_rfl) (by kernel_rfl) (sat_0 hz) ?_
 have hscl := hsc.1.len
 refine g_keep [0] [(qagr_3 script)] ?_
 refine g_seq <| g_region <| l_all 1 [o0] [0] [] [(qagr_3 script)] ⟨w, z, [(old0 w)]⟩ trivial ?_
 refine e_seq <| g_seq <| g_region <| l_call [] [] 11 #[] (some 11) trivial ?_
 intro w1 hw1
 refine calls_G (args := []) 13 ⟨w, z, [(old0 w)]⟩ Try.func11 rfl (by kernel_rfl) (by kernel_rfl) hw1 ?_
 refine g_seq <| g_region <| l_all 3 [o0, o0, o0] [] [] [] ⟨w, z, [(old0 w)]⟩ trivial ?_
 refine e_seq <| g_seq <| g_region <| l_call [] [] 7 #[] (some 3) trivial ?_
 intro w2 hw2
 refine (Tl.new_sat hw2).mono ?_
 rintro e w5 ⟨b3, F4, rfl, hmw5, hSw5⟩; have hnw5 : z ≤ w5.heap.size := hmw5
 refine ⟨_, _, rfl, hSw5, ?_⟩
 refine l_keep [3] [(qagr_6 b3)] ?_
 refine l_all 1 [o0] [0] [] [(0, .pointer (some ⟨b3, 0, none⟩))] ⟨w, w5.heap.size, [(old0 w), (Tl.tlbC b3 F4 (kvs ([])))]⟩ trivial ?_
 refine e_seq <| g_seq <| g_region <| l_call [] [] 7 #[] (some 4) trivial ?_
 intro w6 hw6
 refine (Tl.new_sat hw6).mono ?_
 rintro e w9 ⟨b7, F8, rfl, hmw9, hSw9⟩; have hnw9 : w5.heap.size ≤ w9.heap.size := hmw9
 refine ⟨_, _, rfl, hSw9, ?_⟩
 refine l_keep [0, 4] [(0, .pointer (some ⟨b3, 0, none⟩)), (qagr_7 b7)] ?_
 refine l_all 1 [o0] [0, 1] [] [(0, .pointer (some ⟨b3, 0, none⟩)), (1, .pointer (some ⟨b7, 0, none⟩))] ⟨w, w9.heap.size, [(old0 w), (Tl.tlbC b3 F4 (kvs ([]))), (Tl.tlbC b7 F8 (kvs ([])))]⟩ trivial ?_
 refine e_seq <| g_seq <| g_region <| l_all 11 [o0, o0, o0, o0, o0, o0, o0, o0, o0, o0, o0] [0, 1, 2] [] [(0, .pointer (some ⟨b3, 0, none⟩)), (1, .pointer (some ⟨b7, 0, none⟩)), (2, .bool true)] ⟨w, w9.heap.size, [(old0 w), (Tl.tlbC b3 F4 (kvs ([]))), (Tl.tlbC b7 F8 (kvs ([])))]⟩ trivial ?_
 refine e_seq <| g_ret <| e_ret [] [] (.tuple #[.pointer (some ⟨b3, 0, none⟩), .pointer (some ⟨b7, 0, none⟩), .bool true]) trivial ?_
 intro w10 hw10
 refine ⟨_, _, rfl, hw10, ?_⟩
 refine l_keep [0, 11] [(qagr_3 script), (11, .tuple #[.pointer (some ⟨b3, 0, none⟩), .pointer (some ⟨b7, 0, none⟩), .bool true])] ?_
 refine l_all 7 [o0, o0, o0, o0, o0, o0, o0] [0, 3, 4, 5] [] [(qagr_3 script), (qagr_6 b3), (qagr_7 b7), (5, .bool true)] ⟨w, w9.heap.size, [(old0 w), (Tl.tlbC b3 F4 (kvs ([]))), (Tl.tlbC b7 F8 (kvs ([])))]⟩ trivial ?_
 refine e_seq <| g_seq <| g_seq <| g_region <| l_all 2 [o0, o0] [0, 3, 4, 16] [] [(qagr_3 script), (qagr_6 b3), (qagr_7 b7), (16, .bool false)] ⟨w, w9.heap.size, [(old0 w), (Tl.tlbC b3 F4 (kvs ([]))), (Tl.tlbC b7 F8 (kvs ([])))]⟩ trivial ?_
 refine e_seq <| g_false <| g_skip <| e_seq <| g_seq <| g_region <| l_all 2 [o0, o0] [0, 3, 4, 6, 7] [] [(qagr_3 script), (qagr_6 b3), (qagr_7 b7), (qagr_5 w9), (qagr_4 w9)] ⟨w, w9.heap.size + 2, [(old0 w), (Tl.tlbC b3 F4 (kvs ([]))), (Tl.tlbC b7 F8 (kvs ([]))), (.blk w9.heap.size (.cells #[.slice none 0 0] 37 (0, 0)) true), (qagr_0 w9)]⟩ trivial ?_
 refine e_seq <| g_seq <| g_seq <| g_region <| l_all 1 [o0] [0, 3, 4, 6, 7, 8] [] [(qagr_3 script), (qagr_6 b3), (qagr_7 b7), (qagr_5 w9), (qagr_4 w9), (8, .int .i64 0)] ⟨w, w9.heap.size + 2, [(old0 w), (Tl.tlbC b3 F4 (kvs ([]))), (Tl.tlbC b7 F8 (kvs ([]))), (.blk w9.heap.size (.cells #[.slice none 0 0] 37 (0, 0)) true), (qagr_0 w9)]⟩ trivial ?_
 refine e_seq <| g_block <| g_ref0 3 w9.heap.size (?_ : G _ _ _ _ ⟨w, w9.heap.size + 2, [(old0 w), (Tl.tlbC b3 F4 (kvs ([]))), (Tl.tlbC b7 F8 (kvs ([]))), (refC w9.heap.size (fun k => k = w9.heap.size) ([])), (qagr_0 w9)]⟩ _ _ _)
 refine g_ref0 4 (w9.heap.size + 1) (?_ : G _ _ _ _ ⟨w, w9.heap.size + 2, [(old0 w), (Tl.tlbC b3 F4 (kvs ([]))), (Tl.tlbC b7 F8 (kvs ([]))), (refC w9.heap.size (fun k => k = w9.heap.size) ([])), (refC (w9.heap.size + 1) (fun k => k = w9.heap.size + 1) ([]))]⟩ _ _ _)
 refine g_loop (fun m a w' => ∃ (n12 : Nat) (i : Nat) (FA : Nat → Prop) (FB : Nat → Prop) (HX : Nat → Prop) (HY : Nat → Prop) (xa : List TLeaf) (xb : List TLeaf), m = script.xs.length - i ∧ w9.heap.size + 2 ≤ n12 ∧ (i ≤ script.xs.length) ∧ St 50 [(qagr_3 script), (qagr_6 b3), (qagr_7 b7), (qagr_5 w9), (qagr_4 w9), (8, .int .i64 (i : Int))] [] ⟨w, n12, (qagr_9 w b3 FA xa b7 FB xb w9 HX HY)⟩ a w') (script.xs.length - 0) ?_ ?_
 · intro a w' hs; exact ⟨(w9.heap.size + 2), 0, F4, F8, (fun k => k = w9.heap.size), (fun k => k = w9.heap.size + 1), ([]), ([]), rfl, Nat.le_refl _, Nat.zero_le _, hs⟩
 · rintro m a w' ⟨n12, i, FA, FB, HX, HY, xa, xb, rfl, hn11, hki, hs⟩
   refine (?_ : G Try.prog 50 [(qagr_3 script), (qagr_6 b3), (qagr_7 b7), (qagr_5 w9), (qagr_4 w9), (8, .int .i64 (i : Int))] [] ⟨w, n12, (qagr_9 w b3 FA xa b7 FB xb w9 HX HY)⟩ _ _ _) a w' hs
   clear hs a w'
   refine g_seq <| g_seq ?_
   by_cases h13 : ((i : Int) : Int) < ((script.xs.length : Nat) : Int)
   · refine g_region <| l_all 4 [o0, o0, o0, oT] [0, 3, 4, 6, 7, 8, 20] [BT (((i : Int) : Int) < ((script.xs.length : Nat) : Int))] [(qagr_3 script), (qagr_6 b3), (qagr_7 b7), (qagr_5 w9), (qagr_4 w9), (8, .int .i64 (i : Int)), (20, .bool true)] ⟨w, n12, (qagr_9 w b3 FA xa b7 FB xb w9 HX HY)⟩ ⟨bt (by omega), trivial⟩ ?_
     refine e_seq <| g_true <| g_skip <| e_seq <| g_seq <| g_block <| g_seq ?_
     obtain ⟨b14, o15, ha16, hF18, hc17⟩ := (hsc).1.all (show 0 < script.xs.length by omega)
     replace ha16 : script.a = some ⟨b14, o15, none⟩ := ha16
     refine g_eq [(qagr_2 b14 o15 script), (qagr_6 b3), (qagr_7 b7), (qagr_5 w9), (qagr_4 w9), (8, .int .i64 (i : Int)), (20, .bool true)] (by (try dsimp only [qagr_0, qagr_1, qagr_2, qagr_3, qagr_4, qagr_5, qagr_6, qagr_7, qagr_8, qagr_9]); simp only [ha16]) ?_
     have hc19 := hc17 i (show i < script.xs.length by omega)
     have he20 := (hsc).2 i (show i < script.xs.length by omega)
     obtain ⟨y21, hy21⟩ : ∃ y_, y_ = gd script.xs i := ⟨_, rfl⟩
     rw [← hy21] at he20 hc19
     have hby21 := he20.Leaves.2
     refine g_region <| l_all 6 [o0, o0, (oi i), (ol 0 (TOp.arr y21)), o0, (oa [.at 5, .at 5, .at 5, .at 5, .at 5, .at 5])] [0, 3, 4, 6, 7, 8, 9] [((i : Int) : Int) = ((i : Nat) : Int), i < script.xs.length, (none : Option Nat) = none, OldR w b14 (o15 + i * 6) (TOp.arr y21), Qb n12, Qb n12, Qb n12, Qb n12, Qb n12, Qb n12] [(qagr_2 b14 o15 script), (qagr_6 b3), (qagr_7 b7), (qagr_5 w9), (qagr_4 w9), (8, .int .i64 (i : Int)), (9, .pointer (some ⟨n12, 0, none⟩))] ⟨w, n12 + 1, (qagr_8 w b3 FA xa b7 FB xb w9 HX HY n12 y21)⟩ ⟨rfl, (by omega), rfl, old_row hc19, rfl, rfl, rfl, rfl, rfl, rfl, trivial⟩ ?_
     refine e_seq <| g_seq <| g_seq ?_
     by_cases h22 : (y21.Which : Int) = 1
     · refine g_region <| l_all 3 [o0, (oa [.at 5]), oT] [0, 3, 4, 6, 7, 8, 9, 29] [Qb n12, ET y21.Which 1] [(qagr_2 b14 o15 script), (qagr_6 b3), (qagr_7 b7), (qagr_5 w9), (qagr_4 w9), (8, .int .i64 (i : Int)), (9, .pointer (some ⟨n12, 0, none⟩)), (29, .bool true)] ⟨w, n12 + 1, (qagr_8 w b3 FA xa b7 FB xb w9 HX HY n12 y21)⟩ ⟨rfl, et (by omega), trivial⟩ ?_
       refine e_seq <| g_true <| g_region <| l_run 2 [o0, (oa [.at 5, .at 5, .at 5, .at 5, .at 5, .at 5])] [0, 3, 4, 6, 7, 8, 30, 31] [Qb n12, Qb n12, Qb n12, Qb n12, Qb n12, Qb n12] [(qagr_2 b14 o15 script), (qagr_6 b3), (qagr_7 b7), (qagr_5 w9), (qagr_4 w9), (8, .int .i64 (i : Int)), (30, .pointer (some ⟨b7, 0, none⟩)), (31, .agg (TOp.arr y21))] ⟨w, n12 + 1, (qagr_8 w b3 FA xa b7 FB xb w9 HX HY n12 y21)⟩ ⟨rfl, rfl, rfl, rfl, rfl, rfl, trivial⟩ ?_
       refine l_call [] [] 12 #[.pointer (some ⟨b7, 0, none⟩), .pointer (some ⟨w9.heap.size + 1, 0, none⟩), .agg (TOp.arr y21)] (some 32) trivial ?_
       intro w23 hw23
       refine (step_sat hw23 [0, 1, 3, 5] (i := 2) (j := 4) rfl rfl (by decide) rfl rfl rfl rfl y21 (far hw23 rfl (S := fun b => FB b ∨ HY b) (fun b hb x => x.elim (hw23.far rfl (i := 2) rfl (by decide) rfl b hb) (hw23.far rfl (i := 4) rfl (by decide) rfl b hb)) he20.Leaves.1 (fun _ => by show 0 < 3; decide)) he20.Leaves.2).mono ?_
       rintro e w27 ⟨v24, F25, H26, rfl, hvw27, hmw27, hSw27⟩; have hnw27 : n12 + 1 ≤ w27.heap.size := hmw27
       obtain rfl := hvw27 rfl
       refine ⟨_, _, rfl, hSw27, ?_⟩
       refine l_keep [0, 3, 4, 6, 7, 8, 32] [(qagr_2 b14 o15 script), (qagr_6 b3), (qagr_7 b7), (qagr_5 w9), (qagr_4 w9), (8, .int .i64 (i : Int)), (32, .bool true)] ?_
       refine l_all 1 [o0] [0, 3, 4, 6, 7, 8, 5] [] [(qagr_2 b14 o15 script), (qagr_6 b3), (qagr_7 b7), (qagr_5 w9), (qagr_4 w9), (8, .int .i64 (i : Int)), (5, .bool true)] ⟨w, w27.heap.size, [(old0 w), (Tl.tlbC b3 FA (kvs xa)), (refC w9.heap.size HX xa), (qagr_1 n12 y21), (Tl.tlbC b7 F25 (kvs (stepX xb y21))), (refC (w9.heap.size + 1) H26 (stepX xb y21))]⟩ trivial ?_
       refine e_seq <| g_seq <| g_region <| l_all 2 [o0, o0] [0, 3, 4, 6, 7, 8, 37] [] [(qagr_2 b14 o15 script), (qagr_6 b3), (qagr_7 b7), (qagr_5 w9), (qagr_4 w9), (8, .int .i64 (i : Int)), (37, .bool false)] ⟨w, w27.heap.size, [(old0 w), (Tl.tlbC b3 FA (kvs xa)), (refC w9.heap.size HX xa), (qagr_1 n12 y21), (Tl.tlbC b7 F25 (kvs (stepX xb y21))), (refC (w9.heap.size + 1) H26 (stepX xb y21))]⟩ trivial ?_
       refine e_seq <| g_false <| g_skip <| e_blk <| e_seq <| g_region <| l_all 3 [o0, (ov (.int .i64 ((i + 1 : Nat) : Int))), o0] [0, 3, 4, 6, 7, 8] [Value.int .i64 (IntKind.i64.wrap (((i : Int) : Int) + 1)) = Value.int .i64 (((i + 1 : Nat) : Int))] [(qagr_2 b14 o15 script), (qagr_6 b3), (qagr_7 b7), (qagr_5 w9), (qagr_4 w9), (8, .int .i64 ((i + 1 : Nat) : Int))] ⟨w, w27.heap.size, [(old0 w), (Tl.tlbC b3 FA (kvs xa)), (refC w9.heap.size HX xa), (qagr_1 n12 y21), (Tl.tlbC b7 F25 (kvs (stepX xb y21))), (refC (w9.heap.size + 1) H26 (stepX xb y21))]⟩ ⟨congrArg (Value.int .i64) (wr_i64 (by omega) (by omega) (by omega)), trivial⟩ ?_
       refine e_pick [0, 1, 4, 2, 5] [(old0 w), (Tl.tlbC b3 FA (kvs xa)), (Tl.tlbC b7 F25 (kvs (stepX xb y21))), (refC w9.heap.size HX xa), (refC (w9.heap.size + 1) H26 (stepX xb y21))] rfl rfl ?_
       refine e_eqk [0, 3, 4, 6, 7, 8] [(qagr_3 script), (qagr_6 b3), (qagr_7 b7), (qagr_5 w9), (qagr_4 w9), (8, .int .i64 ((i + 1 : Nat) : Int))] (by (try dsimp only [qagr_0, qagr_1, qagr_2, qagr_3, qagr_4, qagr_5, qagr_6, qagr_7, qagr_8, qagr_9]); simp only [ha16]; rfl) ?_
       refine e_inv (fun a w' hs => ⟨script.xs.length - (i + 1), by omega, w27.heap.size, (i + 1), FA, F25, HX, H26, xa, (stepX xb y21), rfl, by omega, by omega, hs⟩)
     · refine g_region <| l_all 3 [o0, (oa [.at 5]), oF] [0, 3, 4, 6, 7, 8, 9, 29] [Qb n12, EF y21.Which 1] [(qagr_2 b14 o15 script), (qagr_6 b3), (qagr_7 b7), (qagr_5 w9), (qagr_4 w9), (8, .int .i64 (i : Int)), (9, .pointer (some ⟨n12, 0, none⟩)), (29, .bool false)] ⟨w, n12 + 1, (qagr_8 w b3 FA xa b7 FB xb w9 HX HY n12 y21)⟩ ⟨rfl, ef (by omega), trivial⟩ ?_
       refine e_seq <| g_false <| g_region <| l_run 2 [o0, (oa [.at 5, .at 5, .at 5, .at 5, .at 5, .at 5])] [0, 3, 4, 6, 7, 8, 33, 34] [Qb n12, Qb n12, Qb n12, Qb n12, Qb n12, Qb n12] [(qagr_2 b14 o15 script), (qagr_6 b3), (qagr_7 b7), (qagr_5 w9), (qagr_4 w9), (8, .int .i64 (i : Int)), (33, .pointer (some ⟨b3, 0, none⟩)), (34, .agg (TOp.arr y21))] ⟨w, n12 + 1, (qagr_8 w b3 FA xa b7 FB xb w9 HX HY n12 y21)⟩ ⟨rfl, rfl, rfl, rfl, rfl, rfl, trivial⟩ ?_
       refine l_call [] [] 12 #[.pointer (some ⟨b3, 0, none⟩), .pointer (some ⟨w9.heap.size, 0, none⟩), .agg (TOp.arr y21)] (some 35) trivial ?_
       intro w28 hw28
       refine (step_sat hw28 [0, 2, 4, 5] (i := 1) (j := 3) rfl rfl (by decide) rfl rfl rfl rfl y21 (far hw28 rfl (S := fun b => FA b ∨ HX b) (fun b hb x => x.elim (hw28.far rfl (i := 1) rfl (by decide) rfl b hb) (hw28.far rfl (i := 3) rfl (by decide) rfl b hb)) he20.Leaves.1 (fun _ => by show 0 < 3; decide)) he20.Leaves.2).mono ?_
       rintro e w32 ⟨v29, F30, H31, rfl, hvw32, hmw32, hSw32⟩; have hnw32 : n12 + 1 ≤ w32.heap.size := hmw32
       obtain rfl := hvw32 rfl
       refine ⟨_, _, rfl, hSw32, ?_⟩
       refine l_keep [0, 3, 4, 6, 7, 8, 35] [(qagr_2 b14 o15 script), (qagr_6 b3), (qagr_7 b7), (qagr_5 w9), (qagr_4 w9), (8, .int .i64 (i : Int)), (35, .bool true)] ?_
       refine l_all 1 [o0] [0, 3, 4, 6, 7, 8, 5] [] [(qagr_2 b14 o15 script), (qagr_6 b3), (qagr_7 b7), (qagr_5 w9), (qagr_4 w9), (8, .int .i64 (i : Int)), (5, .bool true)] ⟨w, w32.heap.size, [(old0 w), (Tl.tlbC b7 FB (kvs xb)), (refC (w9.heap.size + 1) HY xb), (qagr_1 n12 y21), (Tl.tlbC b3 F30 (kvs (stepX xa y21))), (refC w9.heap.size H31 (stepX xa y21))]⟩ trivial ?_
       refine e_seq <| g_seq <| g_region <| l_all 2 [o0, o0] [0, 3, 4, 6, 7, 8, 37] [] [(qagr_2 b14 o15 script), (qagr_6 b3), (qagr_7 b7), (qagr_5 w9), (qagr_4 w9), (8, .int .i64 (i : Int)), (37, .bool false)] ⟨w, w32.heap.size, [(old0 w), (Tl.tlbC b7 FB (kvs xb)), (refC (w9.heap.size + 1) HY xb), (qagr_1 n12 y21), (Tl.tlbC b3 F30 (kvs (stepX xa y21))), (refC w9.heap.size H31 (stepX xa y21))]⟩ trivial ?_
       refine e_seq <| g_false <| g_skip <| e_blk <| e_seq <| g_region <| l_all 3 [o0, (ov (.int .i64 ((i + 1 : Nat) : Int))), o0] [0, 3, 4, 6, 7, 8] [Value.int .i64 (IntKind.i64.wrap (((i : Int) : Int) + 1)) = Value.int .i64 (((i + 1 : Nat) : Int))] [(qagr_2 b14 o15 script), (qagr_6 b3), (qagr_7 b7), (qagr_5 w9), (qagr_4 w9), (8, .int .i64 ((i + 1 : Nat) : Int))] ⟨w, w32.heap.size, [(old0 w), (Tl.tlbC b7 FB (kvs xb)), (refC (w9.heap.size + 1) HY xb), (qagr_1 n12 y21), (Tl.tlbC b3 F30 (kvs (stepX xa y21))), (refC w9.heap.size H31 (stepX xa y21))]⟩ ⟨congrArg (Value.int .i64) (wr_i64 (by omega) (by omega) (by omega)), trivial⟩ ?_
       refine e_pick [0, 4, 1, 5, 2] [(old0 w), (Tl.tlbC b3 F30 (kvs (stepX xa y21))), (Tl.tlbC b7 FB (kvs xb)), (refC w9.heap.size H31 (stepX xa y21)), (refC (w9.heap.size + 1) HY xb)] rfl rfl ?_
       refine e_eqk [0, 3, 4, 6, 7, 8] [(qagr_3 script), (qagr_6 b3), (qagr_7 b7), (qagr_5 w9), (qagr_4 w9), (8, .int .i64 ((i + 1 : Nat) : Int))] (by (try dsimp only [qagr_0, qagr_1, qagr_2, qagr_3, qagr_4, qagr_5, qagr_6, qagr_7, qagr_8, qagr_9]); simp only [ha16]; rfl) ?_
       refine e_inv (fun a w' hs => ⟨script.xs.length - (i + 1), by omega, w32.heap.size, (i + 1), F30, FB, H31, HY, (stepX xa y21), xb, rfl, by omega, by omega, hs⟩)
   · refine g_region <| l_all 4 [o0, o0, o0, oF] [0, 3, 4, 6, 7, 8, 20] [BF (((i : Int) : Int) < ((script.xs.length : Nat) : Int))] [(qagr_3 script), (qagr_6 b3), (qagr_7 b7), (qagr_5 w9), (qagr_4 w9), (8, .int .i64 (i : Int)), (20, .bool false)] ⟨w, n12, (qagr_9 w b3 FA xa b7 FB xb w9 HX HY)⟩ ⟨bf (by omega), trivial⟩ ?_
     refine e_seq <| g_false <| g_exit <| e_out <| e_outI <| e_hit <| e_seq <| g_seq <| g_frzs [0, 1, 2] [3, 4] [(refC w9.heap.size HX xa), (refC (w9.heap.size + 1) HY xb)] [(old0 w), (Tl.tlbC b3 FA (kvs xa)), (Tl.tlbC b7 FB (kvs xb))] (fun w33 S34 hu35 hh36 hz37 => ?_)
     obtain ⟨a38, cp39, hA0, hS0, -, hF0, -⟩ : RefIs w33 w9.heap.size HX xa := hh36 _ (List.mem_cons_self ..)
     have hU0 : S34 w9.heap.size := hu35 _ (List.mem_cons_self ..) _ hF0
     have hC0 : ∀ k v, [Value.slice a38 xa.length cp39][k]? = some v → w33.cell? ⟨w9.heap.size, 0 + k, none⟩ = some v := fun k v hv => by rw [Nat.zero_add]; exact hA0.cell (by rw [← List.getElem?_toArray] at hv; exact hv)
     have hD0 : SlAt TLeaf.cells 3 S34 w33 ⟨a38, cp39, xa⟩ := sl_mono (Ext.refl _ _) (fun b hb => hu35 _ (List.mem_cons_self ..) b hb.1) hS0
     obtain ⟨a40, cp41, hA1, hS1, -, hF1, -⟩ : RefIs w33 (w9.heap.size + 1) HY xb := hh36 _ (List.mem_cons_of_mem _ (List.mem_cons_self ..))
     have hU1 : S34 (w9.heap.size + 1) := hu35 _ (List.mem_cons_of_mem _ (List.mem_cons_self ..)) _ hF1
     have hC1 : ∀ k v, [Value.slice a40 xb.length cp41][k]? = some v → w33.cell? ⟨w9.heap.size + 1, 0 + k, none⟩ = some v := fun k v hv => by rw [Nat.zero_add]; exact hA1.cell (by rw [← List.getElem?_toArray] at hv; exact hv)
     have hD1 : SlAt TLeaf.cells 3 S34 w33 ⟨a40, cp41, xb⟩ := sl_mono (Ext.refl _ _) (fun b hb => hu35 _ (List.mem_cons_of_mem _ (List.mem_cons_self ..)) b hb.1) hS1
     refine g_tlblen 1 b3 FA xa (fun hx1 _ => ?_)
     refine g_tlblen 2 b7 FB xb (fun hx2 _ => ?_)
     refine g_draw 13 [0, 1, 2, 3] [(old0 w), (Tl.tlbC b3 FA (kvs xa)), (Tl.tlbC b7 FB (kvs xb)), (frz S34 w33)] rfl rfl ?_
     refine w_take [(0, o0), (2, o0), (3, (oa [.via 3 (.slice a38 xa.length cp39)]))] [4, 7, 38, 41] [∀ w', Ch.holds (frz S34 w33) w' → w'.cell? ⟨w9.heap.size, 0, none⟩ = some (.slice a38 xa.length cp39)] [true, false, true, true, false, false, false, false, false, false, false, false, false] [(qagr_7 b7), (qagr_4 w9), (38, .pointer (some ⟨b3, 0, none⟩)), (41, .slice a38 xa.length cp39)] rfl (by as_aux_lemma => kernel_rfl) (by as_aux_lemma => kernel_rfl) ⟨frz_cell hU0 (hC0 0 _ rfl), trivial⟩ ?_
     refine w_one 1 (by as_aux_lemma => kernel_rfl) rfl ?_
     refine wo_call [] [] 9 #[.pointer (some ⟨b3, 0, none⟩)] (some 39) (by as_aux_lemma => kernel_rfl) rfl rfl trivial ?_
     intro w42 hw42
     refine (leaves_satX hw42 (i := 1) rfl).mono ?_
     rintro e w45 ⟨a43, cp44, rfl, hmw45, hSw45⟩; have hnw45 : n12 ≤ w45.heap.size := hmw45
     have hs46 := hSw45
     refine ⟨_, _, rfl, hs46, .inr (fun c hc => hs46.all c (by first | exact hc | exact picks_mem (is := [0, 1, 2, 3]) rfl c hc)), ?_⟩
     refine w_keep [4, 7, 41, 39] [(qagr_7 b7), (qagr_4 w9), (41, .slice a38 xa.length cp39), (39, .slice a43 xa.length cp44)] ?_
     refine w_one 4 (by as_aux_lemma => kernel_rfl) rfl ?_
     refine wo_call [] [] 13 #[.slice a43 xa.length cp44, .slice a38 xa.length cp39] (some 42) (by as_aux_lemma => kernel_rfl) rfl rfl trivial ?_
     intro w47 hw47
     refine (same_yes w47 ⟨a43, cp44, xa⟩ (⟨a38, cp39, xa⟩ : Sl TLeaf) (row_any hw47 (i := 4) rfl (by omega)) (sl_frz hD0 w47 (hw47.at (i := 3) rfl)) rfl).mono ?_
     rintro e w48 ⟨rfl, hkw48⟩
     have hnw48 : w45.heap.size ≤ w48.heap.size := by have := hkw48.size; rw [hw47.size] at this; exact this
     have hs49 := hw47.keeps hkw48
     refine ⟨_, _, rfl, hs49, .inr (fun c hc => hs49.all c (by first | exact hc | exact picks_mem (is := [0, 1, 2, 3]) rfl c hc)), ?_⟩
     refine w_keep [4, 7, 42] [(qagr_7 b7), (qagr_4 w9), (42, .bool true)] ?_
     refine w_take [(5, o0), (6, o0), (8, o0), (9, (oa [.via 3 (.slice a40 xb.length cp41)]))] [43, 44, 47] [∀ w', Ch.holds (frz S34 w33) w' → w'.cell? ⟨w9.heap.size + 1, 0, none⟩ = some (.slice a40 xb.length cp41)] [true, true, true, true, true, true, true, false, true, true, false, false, false] [(43, .bool true), (44, .pointer (some ⟨b7, 0, none⟩)), (47, .slice a40 xb.length cp41)] rfl (by as_aux_lemma => kernel_rfl) (by as_aux_lemma => kernel_rfl) ⟨frz_cell hU1 (hC1 0 _ rfl), trivial⟩ ?_
     refine w_one 7 (by as_aux_lemma => kernel_rfl) rfl ?_
     refine wo_call [] [] 9 #[.pointer (some ⟨b7, 0, none⟩)] (some 45) (by as_aux_lemma => kernel_rfl) rfl rfl trivial ?_
     intro w50 hw50
     refine (leaves_satX hw50 (i := 2) rfl).mono ?_
     rintro e w53 ⟨a51, cp52, rfl, hmw53, hSw53⟩; have hnw53 : w48.heap.size ≤ w53.heap.size := hmw53
     have hs54 := hSw53
     refine ⟨_, _, rfl, hs54, .inr (fun c hc => hs54.all c (by first | exact hc | exact picks_mem (is := [0, 1, 2, 3]) rfl c hc)), ?_⟩
     refine w_keep [43, 47, 45] [(43, .bool true), (47, .slice a40 xb.length cp41), (45, .slice a51 xb.length cp52)] ?_
     refine w_one 10 (by as_aux_lemma => kernel_rfl) rfl ?_
     refine wo_call [] [] 13 #[.slice a51 xb.length cp52, .slice a40 xb.length cp41] (some 48) (by as_aux_lemma => kernel_rfl) rfl rfl trivial ?_
     intro w55 hw55
     refine (same_yes w55 ⟨a51, cp52, xb⟩ (⟨a40, cp41, xb⟩ : Sl TLeaf) (row_any hw55 (i := 5) rfl (by omega)) (sl_frz hD1 w55 (hw55.at (i := 3) rfl)) rfl).mono ?_
     rintro e w56 ⟨rfl, hkw56⟩
     have hnw56 : w53.heap.size ≤ w56.heap.size := by have := hkw56.size; rw [hw55.size] at this; exact this
     have hs57 := hw55.keeps hkw56
     refine ⟨_, _, rfl, hs57, .inr (fun c hc => hs57.all c (by first | exact hc | exact picks_mem (is := [0, 1, 2, 3]) rfl c hc)), ?_⟩
     refine w_keep [43, 48] [(43, .bool true), (48, .bool true)] ?_
     refine w_take [(11, o0), (12, o0)] [2] [] [true, true, true, true, true, true, true, true, true, true, true, true, true] [(2, .bool true)] rfl (by as_aux_lemma => kernel_rfl) (by as_aux_lemma => kernel_rfl) trivial ?_
     refine w_done (by as_aux_lemma => kernel_rfl) ?_
     refine e_keep [2] [(2, .bool true)] ?_
     refine e_seq <| g_ret <| e_ret [] [] (.bool true) trivial ?_
     intro w58 hw58
     exact ⟨rfl, hw58.back rfl (show w.heap.size ≤ w56.heap.size by omega) (List.mem_cons_self ..)⟩

end Go.Proofs.Ytbjcamafaolgiaa.Ly
