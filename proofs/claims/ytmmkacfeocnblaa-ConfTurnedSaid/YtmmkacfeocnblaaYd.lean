/- Items. No conditions. -/
import Derived.Test.YtmmkacfeocnblaaYc
namespace Go.Proofs.Ytmmkacfeocnblaa.Ly
open Go Go.Proofs.Ytmmkacfeocnblaa.Eng Go.Proofs.Ytmmkacfeocnblaa.Mem
set_option linter.unusedSimpArgs false
set_option linter.unusedVariables false
set_option maxRecDepth 100000

def faultP (e : Int) (at' : Nat) : List PanicEntry := [{ v := .iface 83 (.agg #[.int .i64 e, .int .i64 (at' : Nat)]), recovered := false }]
def ItPost (w : World) (pr : Nat) (F : Nat → Prop) (b : List Int) (ok : Prop) (v : Value) (at0 at' : Nat) (e : Ending) (w' : World) : Prop :=
  (ok ∧ e = .returned v ∧ RdIs w' pr F b at' 0 ∧ Keeps F w w') ∨ (¬ ok ∧ e = .panicked (faultP 110 at0) ∧ Keeps F w w')
theorem rtext_calls (w : World) (pr : Nat) (F : Nat → Prop) (b : List Int) (at0 : Nat) (h : RdIs w pr F b at0 0) : Calls Try.prog 93 #[.pointer (some ⟨pr, 0, none⟩), .int .i64 255] w fun e w' => TextPost w pr F b at0 e w' := by
  have hR := h
  obtain ⟨po, l, rfl, h1, h2, h3, h4, h5, h6, h7, h8, h9, h10⟩ := h
  refine (rtext_walk w pr po l at0 h1 h2 (sl_mono (fun _ _ _ _ h => h) (fun x hx => ⟨h10 x hx.1, fun h => h.elim hx.2.1 hx.2.2⟩) h3) h4 h8 h9 h7).mono ?_
  rintro e w' ⟨⟨g1, g2, g3, g4, g5, g6⟩ | ⟨g1, g2, fl, k1, k2, k3, g3, g4⟩, g7⟩
  · exact .inl ⟨g1, g2, g3, g4, rd_fin hR g7 g5 g6 h4 h5 h6 h3 g3⟩
  · exact .inr ⟨g1, g2, ⟨fl, k1, k2, k3, (rd_fin hR g7 g3 g4 h4 h5 h6 h3 h7).1⟩, (rd_fin hR g7 g3 g4 h4 h5 h6 h3 h7).2⟩
section
variable {A : AW} {w : World} {i pr : Nat} {F : Nat → Prop} {b : List Int} {at0 : Nat} {fl : Int}
theorem at_sat (h : Sat A w) (hi : A.σ[i]? = some (rdC pr F b at0 fl)) : Calls Try.prog 42 #[.pointer (some ⟨pr, 0, none⟩)] w fun e w' => e = .returned (.int .i64 (at0 : Nat)) ∧ Keeps (fun _ => False) w w' := by
  obtain ⟨po, l, rfl, h1, h2, -, -, -, -, h7, -, h9, -⟩ := h.at hi
  exact at_calls w pr po l at0 fl h1 h2 h7 h9
theorem left_sat (h : Sat A w) (hi : A.σ[i]? = some (rdC pr F b at0 fl)) : Calls Try.prog 44 #[.pointer (some ⟨pr, 0, none⟩)] w fun e w' => e = .returned (.int .i64 ((b.length : Int) - (at0 : Nat))) ∧ Keeps (fun _ => False) w w' := by
  obtain ⟨po, l, rfl, h1, h2, -, -, -, -, h7, -, h9, -⟩ := h.at hi
  exact left_calls w pr po l at0 fl h1 h2 h7 h9
theorem fault_sat (h : Sat A w) (hi : A.σ[i]? = some (rdC pr F b at0 fl)) : Calls Try.prog 86 #[.pointer (some ⟨pr, 0, none⟩)] w fun e w' => e = .returned (.int .i64 fl) ∧ Keeps (fun _ => False) w w' := by
  obtain ⟨po, l, rfl, h1, h2, -, -, -, -, h7, -, h9, -⟩ := h.at hi
  exact fault_calls w pr po l at0 fl h1 h2 h7 h9
theorem bx_of {j bx : Nat} {t : TypeId} (h : Sat A w) (hi : A.σ[i]? = some (rdC pr F b at0 fl)) (hj : A.σ[j]? = some (.blk bx (.cells #[.pointer (some ⟨pr, 0, none⟩)] t (0, 0)) true)) (hij : i ≠ j) : (∀ k v, [Value.pointer (some ⟨pr, 0, none⟩)][k]? = some v → w.cell? ⟨bx, 0 + k, none⟩ = some v) ∧ bx < w.heap.size ∧ ¬ F bx := by
  have h1 : At w bx (.cells #[.pointer (some ⟨pr, 0, none⟩)] t (0, 0)) := h.at hj
  refine ⟨fun k v hv => by rw [Nat.zero_add]; exact h1.cell (by rw [← List.getElem?_toArray] at hv; exact hv), (Array.getElem?_eq_some_iff.1 h1).1, fun hF => h.two hi hj hij rfl bx hF rfl⟩
end

theorem rd_drop {A : AW} {w w' : World} {i pr : Nat} {F : Nat → Prop} {b : List Int} {at0 : Nat} {fl : Int} {kept : List Ch} (h : Sat A w) (is : List Nat) (hi : A.σ[i]? = some (rdC pr F b at0 fl)) (hnd : nodupB is = true) (hp : picks is A.σ = some kept) (hni : is.contains i = false) (hk : Keeps F w w') : Sat { A with n := w'.heap.size, σ := kept } w' := by
  have hpk : picks [i] A.σ = some [rdC pr F b at0 fl] := by simp [picks, hi]
  have hS := h.turn is [i] (new := []) hnd hp hpk (by
    rw [List.all_eq_true]
    intro q hq
    simp only [List.contains_cons, List.contains_nil, Bool.or_false, Bool.not_eq_true', beq_eq_false_iff_ne]
    intro e; subst e
    rw [List.contains_eq_mem] at hni
    simp [hq] at hni) (fun d hd => by simp only [List.mem_singleton] at hd; subst hd; rfl) (w' := w') (hk.mono (fun b _ hb => ⟨_, List.mem_singleton_self _, hb⟩)) (by simp) (by simp)
  rw [List.append_nil] at hS
  exact hS
theorem ru32_calls (w : World) (pr : Nat) (F : Nat → Prop) (b : List Int) (at0 : Nat) (hr : RdIs w pr F b at0 0) : Calls Try.prog 73 #[.pointer (some ⟨pr, 0, none⟩)] w fun e w' => NumPost w pr F b at0 4 .u32 e w' := by
 obtain ⟨z, hz⟩ : ∃ z, z = w.heap.size := ⟨_, rfl⟩
 refine calls_G (args := [pt pr]) 6 ⟨w, z, [(old F w), (rdC pr F b at0 0)]⟩ Try.func73 rfl (by kernel_rfl) (by kernel_rfl) (hz ▸ sat_rdC hr) ?_
 have hB := hr.byt; have hlen := hr.len; have hat := hr.le
 refine g_keep [0] [(0, pt pr)] ?_
 refine q_cS 6 1 [] [[o0], [o0]] [] [(3, pt pr)] rfl trivial ?_
 refine l_call [] [] 87 #[pt pr, i6 4] (some 4) trivial ?_
 intro w1 hw1
 refine (num_calls w1 pr F b at0 (hw1.at (i := 1) rfl) 4 ⟨by omega, by omega⟩).mono ?_
 rintro e w2 (⟨hqw2, rfl, hRw2, hkw2⟩ | ⟨hqw2, rfl, hRw2, hkw2⟩)
 · have hvbw2 := leV_bd hB at0
   obtain ⟨hnw2, hSw2⟩ := rd_set hw1 (i := 1) rfl hRw2 hkw2
   have hnw2' : z ≤ w2.heap.size := hnw2
   refine ⟨_, _, rfl, hSw2, ?_⟩
   refine q_rS 3 0 [] [[(ov (.int .u32 (leV b at0 4))), o0]] [Value.int .u32 (IntKind.u32.wrap ((leV b at0 4))) = Value.int .u32 ((leV b at0 4))] [(2, .int .u32 (leV b at0 4))] rfl ⟨congrArg (Value.int .u32) (wr_u32 rfl (by omega) (by omega)), trivial⟩ ?_
   refine e_ret [] [] (.int .u32 (leV b at0 4)) trivial ?_
   intro w3 hw3
   exact .inl ⟨by omega, rfl, hw3.at (i := 1) rfl, back0 hw3⟩
 · obtain ⟨hnw2, hSw2⟩ := rd_set hw1 (i := 1) rfl hRw2 hkw2
   have hnw2' : z ≤ w2.heap.size := hnw2
   refine ⟨_, _, rfl, hSw2, ?_⟩
   refine q_rS 3 0 [] [[o0, o0]] [] [(2, .int .u32 0)] rfl trivial ?_
   refine e_ret [] [] (.int .u32 0) trivial ?_
   intro w4 hw4
   exact .inr ⟨by omega, rfl, hw4.at (i := 1) rfl, back0 hw4⟩
theorem ru8_calls (w : World) (pr : Nat) (F : Nat → Prop) (b : List Int) (at0 : Nat) (hr : RdIs w pr F b at0 0) : Calls Try.prog 102 #[.pointer (some ⟨pr, 0, none⟩)] w fun e w' => NumPost w pr F b at0 1 .u8 e w' := by
 obtain ⟨z, hz⟩ : ∃ z, z = w.heap.size := ⟨_, rfl⟩
 refine calls_G (args := [pt pr]) 6 ⟨w, z, [(old F w), (rdC pr F b at0 0)]⟩ Try.func102 rfl (by kernel_rfl) (by kernel_rfl) (hz ▸ sat_rdC hr) ?_
 have hB := hr.byt; have hlen := hr.len; have hat := hr.le
 refine g_keep [0] [(0, pt pr)] ?_
 refine q_cS 6 1 [] [[o0], [o0]] [] [(3, pt pr)] rfl trivial ?_
 refine l_call [] [] 87 #[pt pr, i6 1] (some 4) trivial ?_
 intro w1 hw1
 refine (num_calls w1 pr F b at0 (hw1.at (i := 1) rfl) 1 ⟨by omega, by omega⟩).mono ?_
 rintro e w2 (⟨hqw2, rfl, hRw2, hkw2⟩ | ⟨hqw2, rfl, hRw2, hkw2⟩)
 · have hvbw2 := hv_bd4 hB at0 1 1 (by omega); have hvew2 : leV b at0 1 = hv b at0 1 1 := rfl
   obtain ⟨hnw2, hSw2⟩ := rd_set hw1 (i := 1) rfl hRw2 hkw2
   have hnw2' : z ≤ w2.heap.size := hnw2
   refine ⟨_, _, rfl, hSw2, ?_⟩
   refine q_rS 3 0 [] [[(ov (.int .u8 (leV b at0 1))), o0]] [Value.int .u8 (IntKind.u8.wrap ((leV b at0 1))) = Value.int .u8 ((leV b at0 1))] [(2, .int .u8 (leV b at0 1))] rfl ⟨congrArg (Value.int .u8) (wr_u8 rfl (by omega) (by omega)), trivial⟩ ?_
   refine e_ret [] [] (.int .u8 (leV b at0 1)) trivial ?_
   intro w3 hw3
   exact .inl ⟨by omega, rfl, hw3.at (i := 1) rfl, back0 hw3⟩
 · obtain ⟨hnw2, hSw2⟩ := rd_set hw1 (i := 1) rfl hRw2 hkw2
   have hnw2' : z ≤ w2.heap.size := hnw2
   refine ⟨_, _, rfl, hSw2, ?_⟩
   refine q_rS 3 0 [] [[o0, o0]] [] [(2, .int .u8 0)] rfl trivial ?_
   refine e_ret [] [] (.int .u8 0) trivial ?_
   intro w4 hw4
   exact .inr ⟨by omega, rfl, hw4.at (i := 1) rfl, back0 hw4⟩
theorem it_num (w : World) (pr : Nat) (F : Nat → Prop) (b : List Int) (at0 : Nat) (hr : RdIs w pr F b at0 0) (bx : Nat) (hbx : ∀ k v, [Value.pointer (some ⟨pr, 0, none⟩)][k]? = some v → w.cell? ⟨bx, 0 + k, none⟩ = some v) (hbF : bx < w.heap.size ∧ ¬ F bx) : Calls Try.prog 71 #[.agg #[.pointer (some ⟨pr, 0, none⟩)], .func (.func 81) #[] #[.pointer (some ⟨bx, 0, none⟩)]] w fun e w' => ItPost w pr F b (at0 + 4 ≤ b.length) (.int .i64 (leV b at0 4)) at0 (at0 + 4) e w' := by
 obtain ⟨z, hz⟩ : ∃ z, z = w.heap.size := ⟨_, rfl⟩
 refine calls_G (args := [.agg #[pt pr], .func (.func 81) #[] #[pt bx]]) 28 ⟨w, z, [(old F w), (rdC pr F b at0 0)]⟩ Try.func71 rfl (by kernel_rfl) (by kernel_rfl) (hz ▸ sat_rdC hr) ?_
 have hB := hr.byt; have hlen := hr.len; have hat := hr.le
 refine g_keep [0, 1] [(0, .agg #[pt pr]), (1, .func (.func 81) #[] #[pt bx])] ?_
 refine q_c 6 2 [] [[o0, o0], [o0, (a1 2)]] [Qb z] [(1, .func (.func 81) #[] #[pt bx]), (2, pt z), (9, pt pr)] ⟨w, z + 1, [(old F w), (rdC pr F b at0 0), (bk z #[pt pr] 87)]⟩ rfl ⟨rfl, trivial⟩ ?_
 refine l_call [] [] 42 #[pt pr] (some 10) trivial ?_
 intro w1 hw1
 refine (at_sat hw1 (i := 1) rfl).mono ?_
 rintro e w2 ⟨rfl, hkw2⟩
 have hnw2 : z + 1 ≤ w2.heap.size := size_of hw1 hkw2
 refine ⟨_, _, rfl, hw1.keeps hkw2, ?_⟩
 refine q_rS 4 1 [] [[o0], [o0]] [] [(2, pt z), (5, i6 (at0 : Int)), (12, .func (.func 81) #[] #[pt bx])] rfl trivial ?_
 refine l_call [] [] 81 #[pt bx] (some 13) trivial ?_
 intro w3 hw3
 refine calls_G (args := [pt bx]) 7 ⟨w, w2.heap.size, [(old F w), (rdC pr F b at0 0), (bk z #[pt pr] 87)]⟩ Try.func81 rfl (by kernel_rfl) (by kernel_rfl) hw3 ?_
 refine q_cS 6 2 [] [[o0, o0], [o0, (oa [.via 0 (pt pr)])]] [∀ w', Ch.holds (old F w) w' → w'.cell? ⟨bx, 0, none⟩ = some (pt pr)] [(4, pt pr)] rfl ⟨oldD_cell (F := F) hbF (hbx 0 _ rfl), trivial⟩ ?_
 refine l_call [] [] 73 #[pt pr] (some 5) trivial ?_
 intro w4 hw4
 refine (ru32_calls w4 pr F b at0 (hw4.at (i := 1) rfl)).mono ?_
 rintro e w5 (⟨hqw5, rfl, hRw5, hkw5⟩ | ⟨hqw5, rfl, hRw5, hkw5⟩)
 · have hvbw5 := leV_bd hB at0
   obtain ⟨hnw5, hSw5⟩ := rd_set hw4 (i := 1) rfl hRw5 hkw5
   have hnw5' : w2.heap.size ≤ w5.heap.size := hnw5
   refine ⟨_, _, rfl, hSw5, ?_⟩
   refine q_rS 3 0 [] [[(ov (i6 (leV b at0 4))), o0, o0]] [Wr ((leV b at0 4)) ((leV b at0 4))] [(1, i6 (leV b at0 4)), (2, .bool true)] rfl ⟨wrI rfl, trivial⟩ ?_
   refine e_ret [] [] (.tuple #[i6 (leV b at0 4), .bool true]) trivial ?_
   intro w6 hw6
   refine ⟨_, _, rfl, hw6, ?_⟩
   refine q_rS 5 5 [] [[o0, o0, o0, o0, o0], [o0, o0, o0, o0, (a1 2)]] [Qb z] [(5, i6 (at0 : Int)), (6, i6 (leV b at0 4)), (18, .bool false), (20, pt pr)] rfl ⟨rfl, trivial⟩ ?_
   refine l_call [] [] 86 #[pt pr] (some 21) trivial ?_
   intro w7 hw7
   refine (fault_sat hw7 (i := 1) rfl).mono ?_
   rintro e w8 ⟨rfl, hkw8⟩
   have hnw8 : w5.heap.size ≤ w8.heap.size := size_of hw7 hkw8
   refine ⟨_, _, rfl, hw7.keeps hkw8, ?_⟩
   refine q_rS 10 0 [0] [[o0, o0], [o0, o0]] [] [(4, i6 (leV b at0 4))] rfl trivial ?_
   refine e_ret [] [] (i6 (leV b at0 4)) trivial ?_
   intro w9 hw9
   exact .inl ⟨by omega, rfl, hw9.at (i := 1) rfl, back0 hw9⟩
 · obtain ⟨hnw5, hSw5⟩ := rd_set hw4 (i := 1) rfl hRw5 hkw5
   have hnw5' : w2.heap.size ≤ w5.heap.size := hnw5
   refine ⟨_, _, rfl, hSw5, ?_⟩
   refine q_rS 3 0 [] [[o0, o0, o0]] [] [(1, i6 0), (2, .bool true)] rfl trivial ?_
   refine e_ret [] [] (.tuple #[i6 0, .bool true]) trivial ?_
   intro w10 hw10
   refine ⟨_, _, rfl, hw10, ?_⟩
   refine q_rS 5 5 [] [[o0, o0, o0, o0, o0], [o0, o0, o0, o0, (a1 2)]] [Qb z] [(5, i6 (at0 : Int)), (6, i6 0), (18, .bool false), (20, pt pr)] rfl ⟨rfl, trivial⟩ ?_
   refine l_call [] [] 86 #[pt pr] (some 21) trivial ?_
   intro w11 hw11
   refine (fault_sat hw11 (i := 1) rfl).mono ?_
   rintro e w12 ⟨rfl, hkw12⟩
   have hnw12 : w5.heap.size ≤ w12.heap.size := size_of hw11 hkw12
   refine ⟨_, _, rfl, hw11.keeps hkw12, ?_⟩
   refine q_rS 4 3 [1] [[o0, o0], [o0, o0, o0]] [] [(6, i6 0), (26, .iface 83 (.agg #[i6 110, i6 (at0 : Int)]))] rfl trivial ?_
   refine l_panic (.iface 83 (.agg #[i6 110, i6 (at0 : Int)])) ?_
   refine e_panicR ?_
   intro w13 hw13
   exact .inr ⟨by omega, rfl, back0 hw13⟩
theorem it_byte (w : World) (pr : Nat) (F : Nat → Prop) (b : List Int) (at0 : Nat) (hr : RdIs w pr F b at0 0) (bx : Nat) (hbx : ∀ k v, [Value.pointer (some ⟨pr, 0, none⟩)][k]? = some v → w.cell? ⟨bx, 0 + k, none⟩ = some v) (hbF : bx < w.heap.size ∧ ¬ F bx) : Calls Try.prog 71 #[.agg #[.pointer (some ⟨pr, 0, none⟩)], .func (.func 101) #[] #[.pointer (some ⟨bx, 0, none⟩)]] w fun e w' => ItPost w pr F b (at0 + 1 ≤ b.length) (.int .i64 (gd b at0)) at0 (at0 + 1) e w' := by
 obtain ⟨z, hz⟩ : ∃ z, z = w.heap.size := ⟨_, rfl⟩
 refine calls_G (args := [.agg #[pt pr], .func (.func 101) #[] #[pt bx]]) 28 ⟨w, z, [(old F w), (rdC pr F b at0 0)]⟩ Try.func71 rfl (by kernel_rfl) (by kernel_rfl) (hz ▸ sat_rdC hr) ?_
 have hB := hr.byt; have hlen := hr.len; have hat := hr.le
 refine g_keep [0, 1] [(0, .agg #[pt pr]), (1, .func (.func 101) #[] #[pt bx])] ?_
 refine q_c 6 2 [] [[o0, o0], [o0, (a1 2)]] [Qb z] [(1, .func (.func 101) #[] #[pt bx]), (2, pt z), (9, pt pr)] ⟨w, z + 1, [(old F w), (rdC pr F b at0 0), (bk z #[pt pr] 87)]⟩ rfl ⟨rfl, trivial⟩ ?_
 refine l_call [] [] 42 #[pt pr] (some 10) trivial ?_
 intro w1 hw1
 refine (at_sat hw1 (i := 1) rfl).mono ?_
 rintro e w2 ⟨rfl, hkw2⟩
 have hnw2 : z + 1 ≤ w2.heap.size := size_of hw1 hkw2
 refine ⟨_, _, rfl, hw1.keeps hkw2, ?_⟩
 refine q_rS 4 1 [] [[o0], [o0]] [] [(2, pt z), (5, i6 (at0 : Int)), (12, .func (.func 101) #[] #[pt bx])] rfl trivial ?_
 refine l_call [] [] 101 #[pt bx] (some 13) trivial ?_
 intro w3 hw3
 refine calls_G (args := [pt bx]) 7 ⟨w, w2.heap.size, [(old F w), (rdC pr F b at0 0), (bk z #[pt pr] 87)]⟩ Try.func101 rfl (by kernel_rfl) (by kernel_rfl) hw3 ?_
 refine q_cS 6 2 [] [[o0, o0], [o0, (oa [.via 0 (pt pr)])]] [∀ w', Ch.holds (old F w) w' → w'.cell? ⟨bx, 0, none⟩ = some (pt pr)] [(4, pt pr)] rfl ⟨oldD_cell (F := F) hbF (hbx 0 _ rfl), trivial⟩ ?_
 refine l_call [] [] 102 #[pt pr] (some 5) trivial ?_
 intro w4 hw4
 refine (ru8_calls w4 pr F b at0 (hw4.at (i := 1) rfl)).mono ?_
 rintro e w5 (⟨hqw5, rfl, hRw5, hkw5⟩ | ⟨hqw5, rfl, hRw5, hkw5⟩)
 · have hvbw5 := hv_bd4 hB at0 1 1 (by omega); have hvew5 : leV b at0 1 = hv b at0 1 1 := rfl
   obtain ⟨hnw5, hSw5⟩ := rd_set hw4 (i := 1) rfl hRw5 hkw5
   have hnw5' : w2.heap.size ≤ w5.heap.size := hnw5
   refine ⟨_, _, rfl, hSw5, ?_⟩
   refine q_rS 3 0 [] [[(ov (i6 (leV b at0 1))), o0, o0]] [Wr ((leV b at0 1)) ((leV b at0 1))] [(1, i6 (leV b at0 1)), (2, .bool true)] rfl ⟨wrI rfl, trivial⟩ ?_
   refine e_ret [] [] (.tuple #[i6 (leV b at0 1), .bool true]) trivial ?_
   intro w6 hw6
   refine ⟨_, _, rfl, hw6, ?_⟩
   refine q_rS 5 5 [] [[o0, o0, o0, o0, o0], [o0, o0, o0, o0, (a1 2)]] [Qb z] [(5, i6 (at0 : Int)), (6, i6 (leV b at0 1)), (18, .bool false), (20, pt pr)] rfl ⟨rfl, trivial⟩ ?_
   refine l_call [] [] 86 #[pt pr] (some 21) trivial ?_
   intro w7 hw7
   refine (fault_sat hw7 (i := 1) rfl).mono ?_
   rintro e w8 ⟨rfl, hkw8⟩
   have hnw8 : w5.heap.size ≤ w8.heap.size := size_of hw7 hkw8
   refine ⟨_, _, rfl, hw7.keeps hkw8, ?_⟩
   refine q_rS 10 0 [0] [[o0, o0], [o0, o0]] [] [(4, i6 (leV b at0 1))] rfl trivial ?_
   refine e_ret [] [] (i6 (leV b at0 1)) trivial ?_
   intro w9 hw9
   exact .inl ⟨by omega, by rw [leV_one], hw9.at (i := 1) rfl, back0 hw9⟩
 · obtain ⟨hnw5, hSw5⟩ := rd_set hw4 (i := 1) rfl hRw5 hkw5
   have hnw5' : w2.heap.size ≤ w5.heap.size := hnw5
   refine ⟨_, _, rfl, hSw5, ?_⟩
   refine q_rS 3 0 [] [[o0, o0, o0]] [] [(1, i6 0), (2, .bool true)] rfl trivial ?_
   refine e_ret [] [] (.tuple #[i6 0, .bool true]) trivial ?_
   intro w10 hw10
   refine ⟨_, _, rfl, hw10, ?_⟩
   refine q_rS 5 5 [] [[o0, o0, o0, o0, o0], [o0, o0, o0, o0, (a1 2)]] [Qb z] [(5, i6 (at0 : Int)), (6, i6 0), (18, .bool false), (20, pt pr)] rfl ⟨rfl, trivial⟩ ?_
   refine l_call [] [] 86 #[pt pr] (some 21) trivial ?_
   intro w11 hw11
   refine (fault_sat hw11 (i := 1) rfl).mono ?_
   rintro e w12 ⟨rfl, hkw12⟩
   have hnw12 : w5.heap.size ≤ w12.heap.size := size_of hw11 hkw12
   refine ⟨_, _, rfl, hw11.keeps hkw12, ?_⟩
   refine q_rS 4 3 [1] [[o0, o0], [o0, o0, o0]] [] [(6, i6 0), (26, .iface 83 (.agg #[i6 110, i6 (at0 : Int)]))] rfl trivial ?_
   refine l_panic (.iface 83 (.agg #[i6 110, i6 (at0 : Int)])) ?_
   refine e_panicR ?_
   intro w13 hw13
   exact .inr ⟨by omega, rfl, back0 hw13⟩
theorem it_mark (w : World) (pr : Nat) (F : Nat → Prop) (b : List Int) (at0 : Nat) (hr : RdIs w pr F b at0 0) (bx : Nat) (hbx : ∀ k v, [Value.pointer (some ⟨pr, 0, none⟩)][k]? = some v → w.cell? ⟨bx, 0 + k, none⟩ = some v) (hbF : bx < w.heap.size ∧ ¬ F bx) : Calls Try.prog 71 #[.agg #[.pointer (some ⟨pr, 0, none⟩)], .func (.func 72) #[] #[.pointer (some ⟨bx, 0, none⟩)]] w fun e w' => ItPost w pr F b (at0 + 4 ≤ b.length ∧ leV b at0 4 = 826493762) (.int .i64 0) at0 (at0 + 4) e w' := by
 obtain ⟨z, hz⟩ : ∃ z, z = w.heap.size := ⟨_, rfl⟩
 refine calls_G (args := [.agg #[pt pr], .func (.func 72) #[] #[pt bx]]) 28 ⟨w, z, [(old F w), (rdC pr F b at0 0)]⟩ Try.func71 rfl (by kernel_rfl) (by kernel_rfl) (hz ▸ sat_rdC hr) ?_
 have hB := hr.byt; have hlen := hr.len; have hat := hr.le
 refine g_keep [0, 1] [(0, .agg #[pt pr]), (1, .func (.func 72) #[] #[pt bx])] ?_
 refine q_c 6 2 [] [[o0, o0], [o0, (a1 2)]] [Qb z] [(1, .func (.func 72) #[] #[pt bx]), (2, pt z), (9, pt pr)] ⟨w, z + 1, [(old F w), (rdC pr F b at0 0), (bk z #[pt pr] 87)]⟩ rfl ⟨rfl, trivial⟩ ?_
 refine l_call [] [] 42 #[pt pr] (some 10) trivial ?_
 intro w1 hw1
 refine (at_sat hw1 (i := 1) rfl).mono ?_
 rintro e w2 ⟨rfl, hkw2⟩
 have hnw2 : z + 1 ≤ w2.heap.size := size_of hw1 hkw2
 refine ⟨_, _, rfl, hw1.keeps hkw2, ?_⟩
 refine q_rS 4 1 [] [[o0], [o0]] [] [(2, pt z), (5, i6 (at0 : Int)), (12, .func (.func 72) #[] #[pt bx])] rfl trivial ?_
 refine l_call [] [] 72 #[pt bx] (some 13) trivial ?_
 intro w3 hw3
 refine calls_G (args := [pt bx]) 7 ⟨w, w2.heap.size, [(old F w), (rdC pr F b at0 0), (bk z #[pt pr] 87)]⟩ Try.func72 rfl (by kernel_rfl) (by kernel_rfl) hw3 ?_
 refine q_cS 6 2 [] [[o0, o0], [o0, (oa [.via 0 (pt pr)])]] [∀ w', Ch.holds (old F w) w' → w'.cell? ⟨bx, 0, none⟩ = some (pt pr)] [(4, pt pr)] rfl ⟨oldD_cell (F := F) hbF (hbx 0 _ rfl), trivial⟩ ?_
 refine l_call [] [] 73 #[pt pr] (some 5) trivial ?_
 intro w4 hw4
 refine (ru32_calls w4 pr F b at0 (hw4.at (i := 1) rfl)).mono ?_
 rintro e w5 (⟨hqw5, rfl, hRw5, hkw5⟩ | ⟨hqw5, rfl, hRw5, hkw5⟩)
 · have hvbw5 := leV_bd hB at0
   obtain ⟨hnw5, hSw5⟩ := rd_set hw4 (i := 1) rfl hRw5 hkw5
   have hnw5' : w2.heap.size ≤ w5.heap.size := hnw5
   refine ⟨_, _, rfl, hSw5, ?_⟩
   refine l_keep [5] [(5, .int .u32 (leV b at0 4))] ?_
   by_cases h6 : ((leV b at0 4) : Int) = 826493762
   · refine q_rS 3 0 [] [[oT, o0, o0]] [ET (leV b at0 4) 826493762] [(1, i6 0), (2, .bool true)] rfl ⟨et (by omega), trivial⟩ ?_
     refine e_ret [] [] (.tuple #[i6 0, .bool true]) trivial ?_
     intro w7 hw7
     refine ⟨_, _, rfl, hw7, ?_⟩
     refine q_rS 5 5 [] [[o0, o0, o0, o0, o0], [o0, o0, o0, o0, (a1 2)]] [Qb z] [(5, i6 (at0 : Int)), (6, i6 0), (18, .bool false), (20, pt pr)] rfl ⟨rfl, trivial⟩ ?_
     refine l_call [] [] 86 #[pt pr] (some 21) trivial ?_
     intro w8 hw8
     refine (fault_sat hw8 (i := 1) rfl).mono ?_
     rintro e w9 ⟨rfl, hkw9⟩
     have hnw9 : w5.heap.size ≤ w9.heap.size := size_of hw8 hkw9
     refine ⟨_, _, rfl, hw8.keeps hkw9, ?_⟩
     refine q_rS 10 0 [0] [[o0, o0], [o0, o0]] [] [(4, i6 0)] rfl trivial ?_
     refine e_ret [] [] (i6 0) trivial ?_
     intro w10 hw10
     exact .inl ⟨by omega, rfl, hw10.at (i := 1) rfl, back0 hw10⟩
   · refine q_rS 3 0 [] [[oF, o0, o0]] [EF (leV b at0 4) 826493762] [(1, i6 0), (2, .bool false)] rfl ⟨ef (by omega), trivial⟩ ?_
     refine e_ret [] [] (.tuple #[i6 0, .bool false]) trivial ?_
     intro w11 hw11
     refine ⟨_, _, rfl, hw11, ?_⟩
     refine q_rS 9 3 [1] [[o0, o0, o0, o0, o0], [o0, o0, o0, o0], [o0, o0, o0]] [] [(6, i6 0), (26, .iface 83 (.agg #[i6 110, i6 (at0 : Int)]))] rfl trivial ?_
     refine l_panic (.iface 83 (.agg #[i6 110, i6 (at0 : Int)])) ?_
     refine e_panicR ?_
     intro w12 hw12
     exact .inr ⟨by omega, rfl, back0 hw12⟩
 · obtain ⟨hnw5, hSw5⟩ := rd_set hw4 (i := 1) rfl hRw5 hkw5
   have hnw5' : w2.heap.size ≤ w5.heap.size := hnw5
   refine ⟨_, _, rfl, hSw5, ?_⟩
   refine q_rS 3 0 [] [[o0, o0, o0]] [] [(1, i6 0), (2, .bool false)] rfl trivial ?_
   refine e_ret [] [] (.tuple #[i6 0, .bool false]) trivial ?_
   intro w13 hw13
   refine ⟨_, _, rfl, hw13, ?_⟩
   refine q_rS 9 3 [1] [[o0, o0, o0, o0, o0], [o0, o0, o0, o0], [o0, o0, o0]] [] [(6, i6 0), (26, .iface 83 (.agg #[i6 110, i6 (at0 : Int)]))] rfl trivial ?_
   refine l_panic (.iface 83 (.agg #[i6 110, i6 (at0 : Int)])) ?_
   refine e_panicR ?_
   intro w14 hw14
   exact .inr ⟨by omega, rfl, back0 hw14⟩
theorem it_src (w : World) (pr : Nat) (F : Nat → Prop) (b : List Int) (at0 : Nat) (hr : RdIs w pr F b at0 0) (bx : Nat) (hbx : ∀ k v, [Value.pointer (some ⟨pr, 0, none⟩)][k]? = some v → w.cell? ⟨bx, 0 + k, none⟩ = some v) (hbF : bx < w.heap.size ∧ ¬ F bx) : Calls Try.prog 103 #[.agg #[.pointer (some ⟨pr, 0, none⟩)], .func (.func 104) #[] #[.pointer (some ⟨bx, 0, none⟩)]] w fun e w' => ItPost w pr F b (at0 + 1 ≤ b.length ∧ gd b at0 ≤ 1) (.bool (decide (gd b at0 = 1))) at0 (at0 + 1) e w' := by
 obtain ⟨z, hz⟩ : ∃ z, z = w.heap.size := ⟨_, rfl⟩
 refine calls_G (args := [.agg #[pt pr], .func (.func 104) #[] #[pt bx]]) 28 ⟨w, z, [(old F w), (rdC pr F b at0 0)]⟩ Try.func103 rfl (by kernel_rfl) (by kernel_rfl) (hz ▸ sat_rdC hr) ?_
 have hB := hr.byt; have hlen := hr.len; have hat := hr.le
 refine g_keep [0, 1] [(0, .agg #[pt pr]), (1, .func (.func 104) #[] #[pt bx])] ?_
 refine q_c 6 2 [] [[o0, o0], [o0, (a1 2)]] [Qb z] [(1, .func (.func 104) #[] #[pt bx]), (2, pt z), (9, pt pr)] ⟨w, z + 1, [(old F w), (rdC pr F b at0 0), (bk z #[pt pr] 87)]⟩ rfl ⟨rfl, trivial⟩ ?_
 refine l_call [] [] 42 #[pt pr] (some 10) trivial ?_
 intro w1 hw1
 refine (at_sat hw1 (i := 1) rfl).mono ?_
 rintro e w2 ⟨rfl, hkw2⟩
 have hnw2 : z + 1 ≤ w2.heap.size := size_of hw1 hkw2
 refine ⟨_, _, rfl, hw1.keeps hkw2, ?_⟩
 refine q_rS 4 1 [] [[o0], [o0]] [] [(2, pt z), (5, i6 (at0 : Int)), (12, .func (.func 104) #[] #[pt bx])] rfl trivial ?_
 refine l_call [] [] 104 #[pt bx] (some 13) trivial ?_
 intro w3 hw3
 refine calls_G (args := [pt bx]) 11 ⟨w, w2.heap.size, [(old F w), (rdC pr F b at0 0), (bk z #[pt pr] 87)]⟩ Try.func104 rfl (by kernel_rfl) (by kernel_rfl) hw3 ?_
 refine q_cS 6 2 [] [[o0, o0], [o0, (oa [.via 0 (pt pr)])]] [∀ w', Ch.holds (old F w) w' → w'.cell? ⟨bx, 0, none⟩ = some (pt pr)] [(5, pt pr)] rfl ⟨oldD_cell (F := F) hbF (hbx 0 _ rfl), trivial⟩ ?_
 refine l_call [] [] 102 #[pt pr] (some 6) trivial ?_
 intro w4 hw4
 refine (ru8_calls w4 pr F b at0 (hw4.at (i := 1) rfl)).mono ?_
 rintro e w5 (⟨hqw5, rfl, hRw5, hkw5⟩ | ⟨hqw5, rfl, hRw5, hkw5⟩)
 · have hvbw5 := hv_bd4 hB at0 1 1 (by omega); have hvew5 : leV b at0 1 = hv b at0 1 1 := rfl
   obtain ⟨hnw5, hSw5⟩ := rd_set hw4 (i := 1) rfl hRw5 hkw5
   have hnw5' : w2.heap.size ≤ w5.heap.size := hnw5
   refine ⟨_, _, rfl, hSw5, ?_⟩
   refine q_rS 3 0 [] [[o0]] [] [(3, .int .u8 (leV b at0 1))] rfl trivial ?_
   by_cases h6 : ((leV b at0 1) : Int) = 1
   · by_cases h7 : (1 : Int) < (leV b at0 1)
     · refine q_cS 4 0 [] [[o0, oT, o0, oF, o0, o0]] [ET (leV b at0 1) 1, BF (((leV b at0 1) : Int) ≤ 1)] [(1, .bool true), (2, .bool false)] rfl ⟨et (by omega), bf (by omega), trivial⟩ ?_
       refine e_ret [] [] (.tuple #[.bool true, .bool false]) trivial ?_
       intro w8 hw8
       refine ⟨_, _, rfl, hw8, ?_⟩
       refine q_rS 9 3 [1] [[o0, o0, o0, o0, o0], [o0, o0, o0, o0], [o0, o0, o0]] [] [(6, .bool true), (26, .iface 83 (.agg #[i6 110, i6 (at0 : Int)]))] rfl trivial ?_
       refine l_panic (.iface 83 (.agg #[i6 110, i6 (at0 : Int)])) ?_
       refine e_panicR ?_
       intro w9 hw9
       exact .inr ⟨by have hl1 := leV_one (b := b) at0; omega, rfl, back0 hw9⟩
     · refine q_cS 4 0 [] [[o0, oT, o0, oT, o0, o0]] [ET (leV b at0 1) 1, BT (((leV b at0 1) : Int) ≤ 1)] [(1, .bool true), (2, .bool true)] rfl ⟨et (by omega), bt (by omega), trivial⟩ ?_
       refine e_ret [] [] (.tuple #[.bool true, .bool true]) trivial ?_
       intro w10 hw10
       refine ⟨_, _, rfl, hw10, ?_⟩
       refine q_rS 5 5 [] [[o0, o0, o0, o0, o0], [o0, o0, o0, o0, (a1 2)]] [Qb z] [(5, i6 (at0 : Int)), (6, .bool true), (18, .bool false), (20, pt pr)] rfl ⟨rfl, trivial⟩ ?_
       refine l_call [] [] 86 #[pt pr] (some 21) trivial ?_
       intro w11 hw11
       refine (fault_sat hw11 (i := 1) rfl).mono ?_
       rintro e w12 ⟨rfl, hkw12⟩
       have hnw12 : w5.heap.size ≤ w12.heap.size := size_of hw11 hkw12
       refine ⟨_, _, rfl, hw11.keeps hkw12, ?_⟩
       refine q_rS 10 0 [0] [[o0, o0], [o0, o0]] [] [(4, .bool true)] rfl trivial ?_
       refine e_ret [] [] (.bool true) trivial ?_
       intro w13 hw13
       have hl1 := leV_one (b := b) at0
       exact .inl ⟨by omega, congrArg (fun x => Ending.returned (Value.bool x)) (Eq.symm (decide_eq_true (by omega))), hw13.at (i := 1) rfl, back0 hw13⟩
   · by_cases h14 : (1 : Int) < (leV b at0 1)
     · refine q_cS 4 0 [] [[o0, oF, o0, oF, o0, o0]] [EF (leV b at0 1) 1, BF (((leV b at0 1) : Int) ≤ 1)] [(1, .bool false), (2, .bool false)] rfl ⟨ef (by omega), bf (by omega), trivial⟩ ?_
       refine e_ret [] [] (.tuple #[.bool false, .bool false]) trivial ?_
       intro w15 hw15
       refine ⟨_, _, rfl, hw15, ?_⟩
       refine q_rS 9 3 [1] [[o0, o0, o0, o0, o0], [o0, o0, o0, o0], [o0, o0, o0]] [] [(6, .bool false), (26, .iface 83 (.agg #[i6 110, i6 (at0 : Int)]))] rfl trivial ?_
       refine l_panic (.iface 83 (.agg #[i6 110, i6 (at0 : Int)])) ?_
       refine e_panicR ?_
       intro w16 hw16
       exact .inr ⟨by have hl1 := leV_one (b := b) at0; omega, rfl, back0 hw16⟩
     · refine q_cS 4 0 [] [[o0, oF, o0, oT, o0, o0]] [EF (leV b at0 1) 1, BT (((leV b at0 1) : Int) ≤ 1)] [(1, .bool false), (2, .bool true)] rfl ⟨ef (by omega), bt (by omega), trivial⟩ ?_
       refine e_ret [] [] (.tuple #[.bool false, .bool true]) trivial ?_
       intro w17 hw17
       refine ⟨_, _, rfl, hw17, ?_⟩
       refine q_rS 5 5 [] [[o0, o0, o0, o0, o0], [o0, o0, o0, o0, (a1 2)]] [Qb z] [(5, i6 (at0 : Int)), (6, .bool false), (18, .bool false), (20, pt pr)] rfl ⟨rfl, trivial⟩ ?_
       refine l_call [] [] 86 #[pt pr] (some 21) trivial ?_
       intro w18 hw18
       refine (fault_sat hw18 (i := 1) rfl).mono ?_
       rintro e w19 ⟨rfl, hkw19⟩
       have hnw19 : w5.heap.size ≤ w19.heap.size := size_of hw18 hkw19
       refine ⟨_, _, rfl, hw18.keeps hkw19, ?_⟩
       refine q_rS 10 0 [0] [[o0, o0], [o0, o0]] [] [(4, .bool false)] rfl trivial ?_
       refine e_ret [] [] (.bool false) trivial ?_
       intro w20 hw20
       have hl1 := leV_one (b := b) at0
       exact .inl ⟨by omega, congrArg (fun x => Ending.returned (Value.bool x)) (Eq.symm (decide_eq_false (by omega))), hw20.at (i := 1) rfl, back0 hw20⟩
 · obtain ⟨hnw5, hSw5⟩ := rd_set hw4 (i := 1) rfl hRw5 hkw5
   have hnw5' : w2.heap.size ≤ w5.heap.size := hnw5
   refine ⟨_, _, rfl, hSw5, ?_⟩
   refine q_rS 7 0 [] [[o0], [o0, o0, o0, o0, o0, o0]] [] [(1, .bool false), (2, .bool true)] rfl trivial ?_
   refine e_ret [] [] (.tuple #[.bool false, .bool true]) trivial ?_
   intro w21 hw21
   refine ⟨_, _, rfl, hw21, ?_⟩
   refine q_rS 5 5 [] [[o0, o0, o0, o0, o0], [o0, o0, o0, o0, (a1 2)]] [Qb z] [(5, i6 (at0 : Int)), (6, .bool false), (18, .bool false), (20, pt pr)] rfl ⟨rfl, trivial⟩ ?_
   refine l_call [] [] 86 #[pt pr] (some 21) trivial ?_
   intro w22 hw22
   refine (fault_sat hw22 (i := 1) rfl).mono ?_
   rintro e w23 ⟨rfl, hkw23⟩
   have hnw23 : w5.heap.size ≤ w23.heap.size := size_of hw22 hkw23
   refine ⟨_, _, rfl, hw22.keeps hkw23, ?_⟩
   refine q_rS 4 3 [1] [[o0, o0], [o0, o0, o0]] [] [(6, .bool false), (26, .iface 83 (.agg #[i6 110, i6 (at0 : Int)]))] rfl trivial ?_
   refine l_panic (.iface 83 (.agg #[i6 110, i6 (at0 : Int)])) ?_
   refine e_panicR ?_
   intro w24 hw24
   exact .inr ⟨by have hl1 := leV_one (b := b) at0; omega, rfl, back0 hw24⟩
theorem it_text (w : World) (pr : Nat) (F : Nat → Prop) (b : List Int) (at0 : Nat) (hr : RdIs w pr F b at0 0) (bx : Nat) (hbx : ∀ k v, [Value.pointer (some ⟨pr, 0, none⟩)][k]? = some v → w.cell? ⟨bx, 0 + k, none⟩ = some v) (hbF : bx < w.heap.size ∧ ¬ F bx) : Calls Try.prog 91 #[.agg #[.pointer (some ⟨pr, 0, none⟩)], .func (.func 92) #[] #[.pointer (some ⟨bx, 0, none⟩)]] w fun e w' => ItPost w pr F b (at0 + 4 ≤ b.length ∧ leV b at0 4 ≤ 255 ∧ at0 + 4 + (leV b at0 4).toNat ≤ b.length) (.string (strOf (cutB b (at0 + 4) (leV b at0 4).toNat))) at0 (at0 + 4 + (leV b at0 4).toNat) e w' := by
 obtain ⟨z, hz⟩ : ∃ z, z = w.heap.size := ⟨_, rfl⟩
 refine calls_G (args := [.agg #[pt pr], .func (.func 92) #[] #[pt bx]]) 28 ⟨w, z, [(old F w), (rdC pr F b at0 0)]⟩ Try.func91 rfl (by kernel_rfl) (by kernel_rfl) (hz ▸ sat_rdC hr) ?_
 have hB := hr.byt; have hlen := hr.len; have hat := hr.le
 refine g_keep [0, 1] [(0, .agg #[pt pr]), (1, .func (.func 92) #[] #[pt bx])] ?_
 refine q_c 6 2 [] [[o0, o0], [o0, (a1 2)]] [Qb z] [(1, .func (.func 92) #[] #[pt bx]), (2, pt z), (9, pt pr)] ⟨w, z + 1, [(old F w), (rdC pr F b at0 0), (bk z #[pt pr] 87)]⟩ rfl ⟨rfl, trivial⟩ ?_
 refine l_call [] [] 42 #[pt pr] (some 10) trivial ?_
 intro w1 hw1
 refine (at_sat hw1 (i := 1) rfl).mono ?_
 rintro e w2 ⟨rfl, hkw2⟩
 have hnw2 : z + 1 ≤ w2.heap.size := size_of hw1 hkw2
 refine ⟨_, _, rfl, hw1.keeps hkw2, ?_⟩
 refine q_rS 4 1 [] [[o0], [o0]] [] [(2, pt z), (5, i6 (at0 : Int)), (12, .func (.func 92) #[] #[pt bx])] rfl trivial ?_
 refine l_call [] [] 92 #[pt bx] (some 13) trivial ?_
 intro w3 hw3
 refine calls_G (args := [pt bx]) 6 ⟨w, w2.heap.size, [(old F w), (rdC pr F b at0 0), (bk z #[pt pr] 87)]⟩ Try.func92 rfl (by kernel_rfl) (by kernel_rfl) hw3 ?_
 refine q_cS 6 2 [] [[o0, o0], [o0, (oa [.via 0 (pt pr)])]] [∀ w', Ch.holds (old F w) w' → w'.cell? ⟨bx, 0, none⟩ = some (pt pr)] [(4, pt pr)] rfl ⟨oldD_cell (F := F) hbF (hbx 0 _ rfl), trivial⟩ ?_
 refine l_call [] [] 93 #[pt pr, i6 255] (some 5) trivial ?_
 intro w4 hw4
 refine (rtext_calls w4 pr F b at0 (hw4.at (i := 1) rfl)).mono ?_
 rintro e w5 (⟨hqw5, hqw5b, hqw5c, rfl, hRw5, hkw5⟩ | ⟨hqw5, rfl, ⟨flw5, hfw5, hfw5b, hfw5c, hRw5⟩, hkw5⟩)
 · obtain ⟨hnw5, hSw5⟩ := rd_set hw4 (i := 1) rfl hRw5 hkw5
   have hnw5' : w2.heap.size ≤ w5.heap.size := hnw5
   refine ⟨_, _, rfl, hSw5, ?_⟩
   refine q_rS 3 0 [] [[o0, o0]] [] [(1, .string (strOf (cutB b (at0 + 4) (leV b at0 4).toNat))), (2, .bool true)] rfl trivial ?_
   refine e_ret [] [] (.tuple #[.string (strOf (cutB b (at0 + 4) (leV b at0 4).toNat)), .bool true]) trivial ?_
   intro w6 hw6
   refine ⟨_, _, rfl, hw6, ?_⟩
   refine q_rS 5 5 [] [[o0, o0, o0, o0, o0], [o0, o0, o0, o0, (a1 2)]] [Qb z] [(5, i6 (at0 : Int)), (6, .string (strOf (cutB b (at0 + 4) (leV b at0 4).toNat))), (18, .bool false), (20, pt pr)] rfl ⟨rfl, trivial⟩ ?_
   refine l_call [] [] 86 #[pt pr] (some 21) trivial ?_
   intro w7 hw7
   refine (fault_sat hw7 (i := 1) rfl).mono ?_
   rintro e w8 ⟨rfl, hkw8⟩
   have hnw8 : w5.heap.size ≤ w8.heap.size := size_of hw7 hkw8
   refine ⟨_, _, rfl, hw7.keeps hkw8, ?_⟩
   refine q_rS 10 0 [0] [[o0, o0], [o0, o0]] [] [(4, .string (strOf (cutB b (at0 + 4) (leV b at0 4).toNat)))] rfl trivial ?_
   refine e_ret [] [] (.string (strOf (cutB b (at0 + 4) (leV b at0 4).toNat))) trivial ?_
   intro w9 hw9
   exact .inl ⟨by omega, rfl, hw9.at (i := 1) rfl, back0 hw9⟩
 · obtain ⟨hnw5, hSw5⟩ := rd_set hw4 (i := 1) rfl hRw5 hkw5
   have hnw5' : w2.heap.size ≤ w5.heap.size := hnw5
   refine ⟨_, _, rfl, hSw5, ?_⟩
   refine q_rS 3 0 [] [[o0, o0]] [] [(1, .string (⟨#[]⟩)), (2, .bool true)] rfl trivial ?_
   refine e_ret [] [] (.tuple #[.string (⟨#[]⟩), .bool true]) trivial ?_
   intro w10 hw10
   refine ⟨_, _, rfl, hw10, ?_⟩
   refine q_rS 5 5 [] [[o0, o0, o0, o0, o0], [o0, o0, o0, o0, (a1 2)]] [Qb z] [(5, i6 (at0 : Int)), (6, .string (⟨#[]⟩)), (18, .bool false), (20, pt pr)] rfl ⟨rfl, trivial⟩ ?_
   refine l_call [] [] 86 #[pt pr] (some 21) trivial ?_
   intro w11 hw11
   refine (fault_sat hw11 (i := 1) rfl).mono ?_
   rintro e w12 ⟨rfl, hkw12⟩
   have hnw12 : w5.heap.size ≤ w12.heap.size := size_of hw11 hkw12
   refine ⟨_, _, rfl, hw11.keeps hkw12, ?_⟩
   refine q_rS 4 3 [1] [[oT, o0], [o0, o0, o0]] [NT flw5 0] [(6, .string (⟨#[]⟩)), (26, .iface 83 (.agg #[i6 110, i6 (at0 : Int)]))] rfl ⟨nt (by omega), trivial⟩ ?_
   refine l_panic (.iface 83 (.agg #[i6 110, i6 (at0 : Int)])) ?_
   refine e_panicR ?_
   intro w13 hw13
   exact .inr ⟨by omega, rfl, back0 hw13⟩

end Go.Proofs.Ytmmkacfeocnblaa.Ly
