/- What is read of one size. No conditions. -/
import Derived.Test.YtmmkacfeocnblaaYd
namespace Go.Proofs.Ytmmkacfeocnblaa.Ly
open Go Go.Proofs.Ytmmkacfeocnblaa.Eng Go.Proofs.Ytmmkacfeocnblaa.Mem
set_option linter.unusedSimpArgs false
set_option linter.unusedVariables false
set_option maxRecDepth 100000

def numAt (b : List Int) (a : Nat) : PR Int := if a + 4 ≤ b.length then .ok (leV b a 4) (a + 4) else .no a
def byteAt (b : List Int) (a : Nat) : PR Int := if a + 1 ≤ b.length then .ok (gd b a) (a + 1) else .no a
def srcAt (b : List Int) (a : Nat) : PR Bool := if a + 1 ≤ b.length ∧ gd b a ≤ 1 then .ok (decide (gd b a = 1)) (a + 1) else .no a
def textAt (b : List Int) (a : Nat) : PR ByteArray := if a + 4 ≤ b.length ∧ leV b a 4 ≤ 255 ∧ a + 4 + (leV b a 4).toNat ≤ b.length then .ok (strOf (cutB b (a + 4) (leV b a 4).toNat)) (a + 4 + (leV b a 4).toNat) else .no a
theorem numAt_ok {b : List Int} {a : Nat} (h : a + 4 ≤ b.length) : numAt b a = .ok (leV b a 4) (a + 4) := if_pos h
theorem numAt_no {b : List Int} {a : Nat} (h : ¬ a + 4 ≤ b.length) : numAt b a = .no a := if_neg h
theorem byteAt_ok {b : List Int} {a : Nat} (h : a + 1 ≤ b.length) : byteAt b a = .ok (gd b a) (a + 1) := if_pos h
theorem byteAt_no {b : List Int} {a : Nat} (h : ¬ a + 1 ≤ b.length) : byteAt b a = .no a := if_neg h
theorem srcAt_ok {b : List Int} {a : Nat} (h : a + 1 ≤ b.length ∧ gd b a ≤ 1) : srcAt b a = .ok (decide (gd b a = 1)) (a + 1) := if_pos h
theorem srcAt_no {b : List Int} {a : Nat} (h : ¬ (a + 1 ≤ b.length ∧ gd b a ≤ 1)) : srcAt b a = .no a := if_neg h
theorem textAt_ok {b : List Int} {a : Nat} (h : a + 4 ≤ b.length ∧ leV b a 4 ≤ 255 ∧ a + 4 + (leV b a 4).toNat ≤ b.length) : textAt b a = .ok (strOf (cutB b (a + 4) (leV b a 4).toNat)) (a + 4 + (leV b a 4).toNat) := if_pos h
theorem textAt_no {b : List Int} {a : Nat} (h : ¬ (a + 4 ≤ b.length ∧ leV b a 4 ≤ 255 ∧ a + 4 + (leV b a 4).toNat ≤ b.length)) : textAt b a = .no a := if_neg h
def winAt (b : List Int) (a : Nat) : PR TWindow := (numAt b a).bind fun p a => (numAt b a).bind fun u a => (numAt b a).bind fun s a => .ok ⟨p - 1, u, s⟩ a
def regAt (b : List Int) (a : Nat) : PR TRegion := (numAt b a).bind fun p a => (numAt b a).bind fun k a => (numAt b a).bind fun f a => (numAt b a).bind fun r a => .ok ⟨p, k, f, r⟩ a
def portAt (b : List Int) (a : Nat) : PR TPort := (numAt b a).bind fun c a => (srcAt b a).bind fun s a => .ok ⟨c, s⟩ a
def chanAt (b : List Int) (a : Nat) : PR TChannel := (numAt b a).bind fun k a => (numAt b a).bind fun w a => (numAt b a).bind fun d a => .ok ⟨k, w, d⟩ a
/-- A thing read, told by value. -/
def FPost {α : Type} (w : World) (pr : Nat) (F : Nat → Prop) (b : List Int) (r : PR α) (val : α → Value) (e : Ending) (w' : World) : Prop :=
  (∃ x a, r = .ok x a ∧ e = .returned (val x) ∧ RdIs w' pr F b a 0 ∧ Keeps F w w') ∨ (∃ p, r = .no p ∧ e = .panicked (faultP 110 p) ∧ Keeps F w w')

theorem bind_ok_of {α β : Type} {r : PR α} {f : α → Nat → PR β} {y : β} {a2 : Nat} (h : r.bind f = .ok y a2) : ∃ x a, r = .ok x a ∧ f x a = .ok y a2 := by
  cases r with
  | ok x a => exact ⟨x, a, rfl, h⟩
  | no a => cases h
theorem numAt_of {b : List Int} {a a2 : Nat} {n : Int} (h : numAt b a = .ok n a2) : a + 4 ≤ b.length ∧ n = leV b a 4 ∧ a2 = a + 4 := by
  unfold numAt at h
  split at h
  · rename_i h1; cases h; exact ⟨h1, rfl, rfl⟩
  · cases h
theorem byteAt_of {b : List Int} {a a2 : Nat} {n : Int} (h : byteAt b a = .ok n a2) : a + 1 ≤ b.length ∧ n = gd b a ∧ a2 = a + 1 := by
  unfold byteAt at h
  split at h
  · rename_i h1; cases h; exact ⟨h1, rfl, rfl⟩
  · cases h
theorem srcAt_of {b : List Int} {a a2 : Nat} {n : Bool} (h : srcAt b a = .ok n a2) : (a + 1 ≤ b.length ∧ gd b a ≤ 1) ∧ n = decide (gd b a = 1) ∧ a2 = a + 1 := by
  unfold srcAt at h
  split at h
  · rename_i h1; cases h; exact ⟨h1, rfl, rfl⟩
  · cases h
theorem textAt_of {b : List Int} {a a2 : Nat} {n : ByteArray} (h : textAt b a = .ok n a2) : (a + 4 ≤ b.length ∧ leV b a 4 ≤ 255 ∧ a + 4 + (leV b a 4).toNat ≤ b.length) ∧ n = strOf (cutB b (a + 4) (leV b a 4).toNat) ∧ a2 = a + 4 + (leV b a 4).toNat := by
  unfold textAt at h
  split at h
  · rename_i h1; cases h; exact ⟨h1, rfl, rfl⟩
  · cases h
theorem winAt_rng {b : List Int} (hB : Byt b) {a a2 : Nat} {x : TWindow} (h : winAt b a = .ok x a2) : 0 - 1 ≤ x.Partition ∧ x.Partition ≤ 4294967294 ∧ 0 ≤ x.Usable ∧ x.Usable ≤ 4294967295 ∧ 0 ≤ x.Slack ∧ x.Slack ≤ 4294967295 := by
  unfold winAt at h
  obtain ⟨n0, a0, e0, h⟩ := bind_ok_of h
  obtain ⟨-, g0, -⟩ := numAt_of e0
  have b0 := leV_bd hB a
  obtain ⟨n1, a1, e1, h⟩ := bind_ok_of h
  obtain ⟨-, g1, -⟩ := numAt_of e1
  have b1 := leV_bd hB a0
  obtain ⟨n2, a2, e2, h⟩ := bind_ok_of h
  obtain ⟨-, g2, -⟩ := numAt_of e2
  have b2 := leV_bd hB a1
  cases h
  simp only
  omega
theorem regAt_rng {b : List Int} (hB : Byt b) {a a2 : Nat} {x : TRegion} (h : regAt b a = .ok x a2) : 0 ≤ x.Page ∧ x.Page ≤ 4294967295 ∧ 0 ≤ x.Pages ∧ x.Pages ≤ 4294967295 ∧ 0 ≤ x.Frame ∧ x.Frame ≤ 4294967295 ∧ 0 ≤ x.Rights ∧ x.Rights ≤ 4294967295 := by
  unfold regAt at h
  obtain ⟨n0, a0, e0, h⟩ := bind_ok_of h
  obtain ⟨-, g0, -⟩ := numAt_of e0
  have b0 := leV_bd hB a
  obtain ⟨n1, a1, e1, h⟩ := bind_ok_of h
  obtain ⟨-, g1, -⟩ := numAt_of e1
  have b1 := leV_bd hB a0
  obtain ⟨n2, a2, e2, h⟩ := bind_ok_of h
  obtain ⟨-, g2, -⟩ := numAt_of e2
  have b2 := leV_bd hB a1
  obtain ⟨n3, a3, e3, h⟩ := bind_ok_of h
  obtain ⟨-, g3, -⟩ := numAt_of e3
  have b3 := leV_bd hB a2
  cases h
  simp only
  omega
theorem portAt_rng {b : List Int} (hB : Byt b) {a a2 : Nat} {x : TPort} (h : portAt b a = .ok x a2) : 0 ≤ x.Channel ∧ x.Channel ≤ 4294967295 := by
  unfold portAt at h
  obtain ⟨n0, a0, e0, h⟩ := bind_ok_of h
  obtain ⟨-, g0, -⟩ := numAt_of e0
  have b0 := leV_bd hB a
  obtain ⟨s0, c0, f0, h⟩ := bind_ok_of h
  cases h
  simp only
  omega
theorem chanAt_rng {b : List Int} (hB : Byt b) {a a2 : Nat} {x : TChannel} (h : chanAt b a = .ok x a2) : 0 ≤ x.Kind ∧ x.Kind ≤ 4294967295 ∧ 0 ≤ x.Words ∧ x.Words ≤ 4294967295 ∧ 0 ≤ x.Depth ∧ x.Depth ≤ 4294967295 := by
  unfold chanAt at h
  obtain ⟨n0, a0, e0, h⟩ := bind_ok_of h
  obtain ⟨-, g0, -⟩ := numAt_of e0
  have b0 := leV_bd hB a
  obtain ⟨n1, a1, e1, h⟩ := bind_ok_of h
  obtain ⟨-, g1, -⟩ := numAt_of e1
  have b1 := leV_bd hB a0
  obtain ⟨n2, a2, e2, h⟩ := bind_ok_of h
  obtain ⟨-, g2, -⟩ := numAt_of e2
  have b2 := leV_bd hB a1
  cases h
  simp only
  omega
theorem number_r (w : World) (pr : Nat) (F : Nat → Prop) (b : List Int) (at0 : Nat) (hr : RdIs w pr F b at0 0) : Calls Try.prog 43 #[.agg #[.pointer (some ⟨pr, 0, none⟩)]] w fun e w' => ItPost w pr F b (at0 + 4 ≤ b.length) (.int .i64 (leV b at0 4)) at0 (at0 + 4) e w' := by
 obtain ⟨z, hz⟩ : ∃ z, z = w.heap.size := ⟨_, rfl⟩
 refine calls_G (args := [.agg #[pt pr]]) 6 ⟨w, z, [(old F w), (rdC pr F b at0 0)]⟩ Try.func43 rfl (by kernel_rfl) (by kernel_rfl) (hz ▸ sat_rdC hr) ?_
 have hB := hr.byt; have hlen := hr.len; have hat := hr.le
 refine g_keep [0] [(0, .agg #[pt pr])] ?_
 refine q_c 6 2 [] [[o0, o0], [(a1 2), o0]] [Qb z] [(3, .agg #[pt pr]), (4, .func (.func 81) #[] #[pt z])] ⟨w, z + 1, [(old F w), (rdC pr F b at0 0), (bk z #[pt pr] 87)]⟩ rfl ⟨rfl, trivial⟩ ?_
 refine l_callX [] [] 71 #[.agg #[pt pr], .func (.func 81) #[] #[pt z]] (some 5) trivial ?_
 intro w1 hw1
 refine (it_num w1 pr F b at0 (hw1.at (i := 1) rfl) z (bx_of hw1 (i := 1) (j := 2) rfl rfl (by decide)).1 (bx_of hw1 (i := 1) (j := 2) rfl rfl (by decide)).2).mono ?_
 rintro e w2 (⟨hqw2, rfl, hRw2, hkw2⟩ | ⟨hqw2, rfl, hkw2⟩)
 · have hvbw2 := leV_bd hB at0
   obtain ⟨hnw2, hSw2⟩ := rd_set hw1 (i := 1) rfl hRw2 hkw2
   have hnw2' : z + 1 ≤ w2.heap.size := hnw2
   refine .inl ⟨_, _, rfl, hSw2, ?_⟩
   refine q_rS 3 0 [] [[o0]] [] [(2, i6 (leV b at0 4))] rfl trivial ?_
   refine e_ret [] [] (i6 (leV b at0 4)) trivial ?_
   intro w3 hw3
   exact .inl ⟨by omega, rfl, hw3.at (i := 1) rfl, back0 hw3⟩
 · have hnw2 : z + 1 ≤ w2.heap.size := size_of hw1 hkw2
   have hSw2 := rd_drop hw1 [0, 2] (i := 1) rfl rfl rfl rfl hkw2
   refine .inr ⟨_, _, rfl, hSw2, ?_⟩
   refine e_panicR ?_
   intro w4 hw4
   exact .inr ⟨by omega, rfl, back0 hw4⟩
theorem byte_r (w : World) (pr : Nat) (F : Nat → Prop) (b : List Int) (at0 : Nat) (hr : RdIs w pr F b at0 0) : Calls Try.prog 88 #[.agg #[.pointer (some ⟨pr, 0, none⟩)]] w fun e w' => ItPost w pr F b (at0 + 1 ≤ b.length) (.int .i64 (gd b at0)) at0 (at0 + 1) e w' := by
 obtain ⟨z, hz⟩ : ∃ z, z = w.heap.size := ⟨_, rfl⟩
 refine calls_G (args := [.agg #[pt pr]]) 6 ⟨w, z, [(old F w), (rdC pr F b at0 0)]⟩ Try.func88 rfl (by kernel_rfl) (by kernel_rfl) (hz ▸ sat_rdC hr) ?_
 have hB := hr.byt; have hlen := hr.len; have hat := hr.le
 refine g_keep [0] [(0, .agg #[pt pr])] ?_
 refine q_c 6 2 [] [[o0, o0], [(a1 2), o0]] [Qb z] [(3, .agg #[pt pr]), (4, .func (.func 101) #[] #[pt z])] ⟨w, z + 1, [(old F w), (rdC pr F b at0 0), (bk z #[pt pr] 87)]⟩ rfl ⟨rfl, trivial⟩ ?_
 refine l_callX [] [] 71 #[.agg #[pt pr], .func (.func 101) #[] #[pt z]] (some 5) trivial ?_
 intro w1 hw1
 refine (it_byte w1 pr F b at0 (hw1.at (i := 1) rfl) z (bx_of hw1 (i := 1) (j := 2) rfl rfl (by decide)).1 (bx_of hw1 (i := 1) (j := 2) rfl rfl (by decide)).2).mono ?_
 rintro e w2 (⟨hqw2, rfl, hRw2, hkw2⟩ | ⟨hqw2, rfl, hkw2⟩)
 · have hvbw2 := byt_gd hB at0
   obtain ⟨hnw2, hSw2⟩ := rd_set hw1 (i := 1) rfl hRw2 hkw2
   have hnw2' : z + 1 ≤ w2.heap.size := hnw2
   refine .inl ⟨_, _, rfl, hSw2, ?_⟩
   refine q_rS 3 0 [] [[o0]] [] [(2, i6 (gd b at0))] rfl trivial ?_
   refine e_ret [] [] (i6 (gd b at0)) trivial ?_
   intro w3 hw3
   exact .inl ⟨by omega, rfl, hw3.at (i := 1) rfl, back0 hw3⟩
 · have hnw2 : z + 1 ≤ w2.heap.size := size_of hw1 hkw2
   have hSw2 := rd_drop hw1 [0, 2] (i := 1) rfl rfl rfl rfl hkw2
   refine .inr ⟨_, _, rfl, hSw2, ?_⟩
   refine e_panicR ?_
   intro w4 hw4
   exact .inr ⟨by omega, rfl, back0 hw4⟩
abbrev qfwa_0 (z : Nat) (b : List Int) (at0 : Nat) : Ch := bk (z + 1) #[i6 ((leV b at0 4) - 1), i6 (leV b (at0 + 4) 4), i6 (leV b (at0 + 4 + 4) 4)] 97
abbrev qfwa_1 (z : Nat) (pr : Nat) : Ch := bk z #[pt pr] 87
abbrev qfwa_2 (z : Nat) : Nat × Value := (2, pt (z + 1))
theorem window_r (w : World) (pr : Nat) (F : Nat → Prop) (b : List Int) (at0 : Nat) (hr : RdIs w pr F b at0 0) : Calls Try.prog 90 #[.agg #[.pointer (some ⟨pr, 0, none⟩)]] w fun e w' => FPost w pr F b (winAt b at0) (fun x => .agg (TWindow.arr x)) e w' := by
 obtain ⟨z, hz⟩ : ∃ z, z = w.heap.size := ⟨_, rfl⟩
 refine calls_G (args := [.agg #[pt pr]]) 11 ⟨w, z, [(old F w), (rdC pr F b at0 0)]⟩ Try.func90 rfl (by kernel_rfl) (by kernel_rfl) (hz ▸ sat_rdC hr) ?_
 have hB := hr.byt; have hlen := hr.len; have hat := hr.le
 refine g_keep [0] [(0, .agg #[pt pr])] ?_
 refine q_c 5 0 [] [[o0, o0]] [] [(1, pt z), (qfwa_2 z)] ⟨w, z + 2, [(old F w), (rdC pr F b at0 0), (qfwa_1 z pr), (bk (z + 1) #[i6 0, i6 0, i6 0] 97)]⟩ rfl trivial ?_
 refine g_draw 8 [0, 2, 3] [(old F w), (qfwa_1 z pr), (bk (z + 1) #[i6 0, i6 0, i6 0] 97)] rfl rfl ?_
 refine w_take [(0, (a1 1)), (3, (a1 1)), (5, (a1 1))] [2, 3, 6, 8] [Qb z, Qb z, Qb z] [true, false, false, true, false, true, false, false, false] [(qfwa_2 z), (3, .agg #[pt pr]), (6, .agg #[pt pr]), (8, .agg #[pt pr])] rfl (by as_aux_lemma => kernel_rfl) (by as_aux_lemma => kernel_rfl) ⟨rfl, rfl, rfl, trivial⟩ ?_
 refine w_one 1 (by as_aux_lemma => kernel_rfl) rfl ?_
 refine wo_callX [] [] 43 #[.agg #[pt pr]] (some 4) (by as_aux_lemma => kernel_rfl) rfl rfl trivial ?_
 intro w1 hw1
 have hlew1 := RdIs.le (hw1.at (i := 1) (c := (rdC pr F b at0 0)) rfl)
 refine (number_r w1 pr F b at0 (hw1.at (i := 1) rfl)).mono ?_
 rintro e w2 (⟨hqw2, rfl, hRw2, hkw2⟩ | ⟨hqw2, rfl, hkw2⟩)
 · have hvbw2 := leV_bd hB at0
   obtain ⟨hnw2, hSw2⟩ := rd_set hw1 (i := 1) rfl hRw2 hkw2
   have hnw2' : z + 2 ≤ w2.heap.size := hnw2
   have hs3 := hSw2
   refine .inl ⟨_, _, rfl, hs3, .inr (fun c hc => hs3.all c (by first | exact hc | exact picks_mem (is := [0, 2, 3]) rfl c hc)), ?_⟩
   refine w_keep [2, 6, 8, 4] [(qfwa_2 z), (6, .agg #[pt pr]), (8, .agg #[pt pr]), (4, i6 (leV b at0 4))] ?_
   refine w_take [(2, (ov (i6 ((leV b at0 4) - 1))))] [2, 6, 8, 5] [Wr (((leV b at0 4) : Int) - 1) ((leV b at0 4) - 1)] [true, true, true, true, false, true, false, false, false] [(qfwa_2 z), (6, .agg #[pt pr]), (8, .agg #[pt pr]), (5, i6 ((leV b at0 4) - 1))] rfl (by as_aux_lemma => kernel_rfl) (by as_aux_lemma => kernel_rfl) ⟨wrI, trivial⟩ ?_
   refine w_one 4 (by as_aux_lemma => kernel_rfl) rfl ?_
   refine wo_callX [] [] 43 #[.agg #[pt pr]] (some 7) (by as_aux_lemma => kernel_rfl) rfl rfl trivial ?_
   intro w4 hw4
   have hlew4 := RdIs.le (hw4.at (i := 1) (c := (rdC pr F b (at0 + 4) 0)) rfl)
   refine (number_r w4 pr F b (at0 + 4) (hw4.at (i := 1) rfl)).mono ?_
   rintro e w5 (⟨hqw5, rfl, hRw5, hkw5⟩ | ⟨hqw5, rfl, hkw5⟩)
   · have hvbw5 := leV_bd hB (at0 + 4)
     obtain ⟨hnw5, hSw5⟩ := rd_set hw4 (i := 1) rfl hRw5 hkw5
     have hnw5' : w2.heap.size ≤ w5.heap.size := hnw5
     have hs6 := hSw5
     refine .inl ⟨_, _, rfl, hs6, .inr (fun c hc => hs6.all c (by first | exact hc | exact picks_mem (is := [0, 2, 3]) rfl c hc)), ?_⟩
     refine w_keep [2, 8, 5, 7] [(qfwa_2 z), (8, .agg #[pt pr]), (5, i6 ((leV b at0 4) - 1)), (7, i6 (leV b (at0 + 4) 4))] ?_
     refine w_one 6 (by as_aux_lemma => kernel_rfl) rfl ?_
     refine wo_callX [] [] 43 #[.agg #[pt pr]] (some 9) (by as_aux_lemma => kernel_rfl) rfl rfl trivial ?_
     intro w7 hw7
     have hlew7 := RdIs.le (hw7.at (i := 1) (c := (rdC pr F b (at0 + 4 + 4) 0)) rfl)
     refine (number_r w7 pr F b (at0 + 4 + 4) (hw7.at (i := 1) rfl)).mono ?_
     rintro e w8 (⟨hqw8, rfl, hRw8, hkw8⟩ | ⟨hqw8, rfl, hkw8⟩)
     · have hvbw8 := leV_bd hB (at0 + 4 + 4)
       obtain ⟨hnw8, hSw8⟩ := rd_set hw7 (i := 1) rfl hRw8 hkw8
       have hnw8' : w5.heap.size ≤ w8.heap.size := hnw8
       have hs9 := hSw8
       refine .inl ⟨_, _, rfl, hs9, .inr (fun c hc => hs9.all c (by first | exact hc | exact picks_mem (is := [0, 2, 3]) rfl c hc)), ?_⟩
       refine w_keep [2, 5, 7, 9] [(qfwa_2 z), (5, i6 ((leV b at0 4) - 1)), (7, i6 (leV b (at0 + 4) 4)), (9, i6 (leV b (at0 + 4 + 4) 4))] ?_
       refine w_take [(7, o0)] [2, 10] [] [true, true, true, true, true, true, true, true, false] [(qfwa_2 z), (10, .agg #[i6 ((leV b at0 4) - 1), i6 (leV b (at0 + 4) 4), i6 (leV b (at0 + 4 + 4) 4)])] rfl (by as_aux_lemma => kernel_rfl) (by as_aux_lemma => kernel_rfl) trivial ?_
       refine w_one 8 (by as_aux_lemma => kernel_rfl) rfl ?_
       refine wo_eff (an 3 3) [2] [Qb (z + 1), Qb (z + 1), Qb (z + 1)] [(qfwa_2 z)] ⟨w, w8.heap.size, [(old F w), (rdC pr F b (at0 + 4 + 4 + 4) 0), (qfwa_1 z pr), (qfwa_0 z b at0)]⟩ [] (by as_aux_lemma => kernel_rfl) rfl ⟨rfl, rfl, rfl, trivial⟩ (.inl rfl) ?_
       refine w_free 9 [0, 1, 2, 3] [(old F w), (rdC pr F b (at0 + 4 + 4 + 4) 0), (qfwa_1 z pr), (qfwa_0 z b at0)] rfl rfl ?_
       refine w_done (by as_aux_lemma => kernel_rfl) ?_
       refine e_keep [2] [(qfwa_2 z)] ?_
       refine e_seq <| g_ret <| e_ret [.at 3, .at 3, .at 3] [Qb (z + 1), Qb (z + 1), Qb (z + 1)] (.agg #[i6 ((leV b at0 4) - 1), i6 (leV b (at0 + 4) 4), i6 (leV b (at0 + 4 + 4) 4)]) ⟨rfl, rfl, rfl, trivial⟩ ?_
       intro w10 hw10
       exact .inl ⟨_, _, (by unfold winAt; rw [numAt_ok (by omega), PR.bind_ok, numAt_ok (by omega), PR.bind_ok, numAt_ok (by omega), PR.bind_ok]), rfl, hw10.at (i := 1) rfl, back0 hw10⟩
     · have hnw8 : w5.heap.size ≤ w8.heap.size := size_of hw7 hkw8
       have hSw8 := rd_drop hw7 [0, 2, 3] (i := 1) rfl rfl rfl rfl hkw8
       refine .inr ⟨_, _, rfl, hSw8, ?_⟩
       refine e_panicR ?_
       intro w11 hw11
       exact .inr ⟨_, (by unfold winAt; rw [numAt_ok (by omega), PR.bind_ok, numAt_ok (by omega), PR.bind_ok, numAt_no (by omega), PR.bind_no]), rfl, back0 hw11⟩
   · have hnw5 : w2.heap.size ≤ w5.heap.size := size_of hw4 hkw5
     have hSw5 := rd_drop hw4 [0, 2, 3] (i := 1) rfl rfl rfl rfl hkw5
     refine .inr ⟨_, _, rfl, hSw5, ?_⟩
     refine e_panicR ?_
     intro w12 hw12
     exact .inr ⟨_, (by unfold winAt; rw [numAt_ok (by omega), PR.bind_ok, numAt_no (by omega), PR.bind_no]), rfl, back0 hw12⟩
 · have hnw2 : z + 2 ≤ w2.heap.size := size_of hw1 hkw2
   have hSw2 := rd_drop hw1 [0, 2, 3] (i := 1) rfl rfl rfl rfl hkw2
   refine .inr ⟨_, _, rfl, hSw2, ?_⟩
   refine e_panicR ?_
   intro w13 hw13
   exact .inr ⟨_, (by unfold winAt; rw [numAt_no (by omega), PR.bind_no]), rfl, back0 hw13⟩
abbrev q6cs_0 (z : Nat) (b : List Int) (at0 : Nat) : Ch := bk (z + 1) #[i6 (leV b at0 4), i6 (leV b (at0 + 4) 4), i6 (leV b (at0 + 4 + 4) 4), i6 (leV b (at0 + 4 + 4 + 4) 4)] 99
abbrev q6cs_1 (z : Nat) (pr : Nat) : Ch := bk z #[pt pr] 87
abbrev q6cs_2 (z : Nat) : Nat × Value := (2, pt (z + 1))
theorem region_r (w : World) (pr : Nat) (F : Nat → Prop) (b : List Int) (at0 : Nat) (hr : RdIs w pr F b at0 0) : Calls Try.prog 95 #[.agg #[.pointer (some ⟨pr, 0, none⟩)]] w fun e w' => FPost w pr F b (regAt b at0) (fun x => .agg (TRegion.arr x)) e w' := by
 obtain ⟨z, hz⟩ : ∃ z, z = w.heap.size := ⟨_, rfl⟩
 refine calls_G (args := [.agg #[pt pr]]) 12 ⟨w, z, [(old F w), (rdC pr F b at0 0)]⟩ Try.func95 rfl (by kernel_rfl) (by kernel_rfl) (hz ▸ sat_rdC hr) ?_
 have hB := hr.byt; have hlen := hr.len; have hat := hr.le
 refine g_keep [0] [(0, .agg #[pt pr])] ?_
 refine q_c 5 0 [] [[o0, o0]] [] [(1, pt z), (q6cs_2 z)] ⟨w, z + 2, [(old F w), (rdC pr F b at0 0), (q6cs_1 z pr), (bk (z + 1) #[i6 0, i6 0, i6 0, i6 0] 99)]⟩ rfl trivial ?_
 refine g_draw 9 [0, 2, 3] [(old F w), (q6cs_1 z pr), (bk (z + 1) #[i6 0, i6 0, i6 0, i6 0] 99)] rfl rfl ?_
 refine w_take [(0, (a1 1)), (2, (a1 1)), (4, (a1 1)), (6, (a1 1))] [2, 3, 5, 7, 9] [Qb z, Qb z, Qb z, Qb z] [true, false, true, false, true, false, true, false, false, false] [(q6cs_2 z), (3, .agg #[pt pr]), (5, .agg #[pt pr]), (7, .agg #[pt pr]), (9, .agg #[pt pr])] rfl (by as_aux_lemma => kernel_rfl) (by as_aux_lemma => kernel_rfl) ⟨rfl, rfl, rfl, rfl, trivial⟩ ?_
 refine w_one 1 (by as_aux_lemma => kernel_rfl) rfl ?_
 refine wo_callX [] [] 43 #[.agg #[pt pr]] (some 4) (by as_aux_lemma => kernel_rfl) rfl rfl trivial ?_
 intro w1 hw1
 have hlew1 := RdIs.le (hw1.at (i := 1) (c := (rdC pr F b at0 0)) rfl)
 refine (number_r w1 pr F b at0 (hw1.at (i := 1) rfl)).mono ?_
 rintro e w2 (⟨hqw2, rfl, hRw2, hkw2⟩ | ⟨hqw2, rfl, hkw2⟩)
 · have hvbw2 := leV_bd hB at0
   obtain ⟨hnw2, hSw2⟩ := rd_set hw1 (i := 1) rfl hRw2 hkw2
   have hnw2' : z + 2 ≤ w2.heap.size := hnw2
   have hs3 := hSw2
   refine .inl ⟨_, _, rfl, hs3, .inr (fun c hc => hs3.all c (by first | exact hc | exact picks_mem (is := [0, 2, 3]) rfl c hc)), ?_⟩
   refine w_keep [2, 5, 7, 9, 4] [(q6cs_2 z), (5, .agg #[pt pr]), (7, .agg #[pt pr]), (9, .agg #[pt pr]), (4, i6 (leV b at0 4))] ?_
   refine w_one 3 (by as_aux_lemma => kernel_rfl) rfl ?_
   refine wo_callX [] [] 43 #[.agg #[pt pr]] (some 6) (by as_aux_lemma => kernel_rfl) rfl rfl trivial ?_
   intro w4 hw4
   have hlew4 := RdIs.le (hw4.at (i := 1) (c := (rdC pr F b (at0 + 4) 0)) rfl)
   refine (number_r w4 pr F b (at0 + 4) (hw4.at (i := 1) rfl)).mono ?_
   rintro e w5 (⟨hqw5, rfl, hRw5, hkw5⟩ | ⟨hqw5, rfl, hkw5⟩)
   · have hvbw5 := leV_bd hB (at0 + 4)
     obtain ⟨hnw5, hSw5⟩ := rd_set hw4 (i := 1) rfl hRw5 hkw5
     have hnw5' : w2.heap.size ≤ w5.heap.size := hnw5
     have hs6 := hSw5
     refine .inl ⟨_, _, rfl, hs6, .inr (fun c hc => hs6.all c (by first | exact hc | exact picks_mem (is := [0, 2, 3]) rfl c hc)), ?_⟩
     refine w_keep [2, 7, 9, 4, 6] [(q6cs_2 z), (7, .agg #[pt pr]), (9, .agg #[pt pr]), (4, i6 (leV b at0 4)), (6, i6 (leV b (at0 + 4) 4))] ?_
     refine w_one 5 (by as_aux_lemma => kernel_rfl) rfl ?_
     refine wo_callX [] [] 43 #[.agg #[pt pr]] (some 8) (by as_aux_lemma => kernel_rfl) rfl rfl trivial ?_
     intro w7 hw7
     have hlew7 := RdIs.le (hw7.at (i := 1) (c := (rdC pr F b (at0 + 4 + 4) 0)) rfl)
     refine (number_r w7 pr F b (at0 + 4 + 4) (hw7.at (i := 1) rfl)).mono ?_
     rintro e w8 (⟨hqw8, rfl, hRw8, hkw8⟩ | ⟨hqw8, rfl, hkw8⟩)
     · have hvbw8 := leV_bd hB (at0 + 4 + 4)
       obtain ⟨hnw8, hSw8⟩ := rd_set hw7 (i := 1) rfl hRw8 hkw8
       have hnw8' : w5.heap.size ≤ w8.heap.size := hnw8
       have hs9 := hSw8
       refine .inl ⟨_, _, rfl, hs9, .inr (fun c hc => hs9.all c (by first | exact hc | exact picks_mem (is := [0, 2, 3]) rfl c hc)), ?_⟩
       refine w_keep [2, 9, 4, 6, 8] [(q6cs_2 z), (9, .agg #[pt pr]), (4, i6 (leV b at0 4)), (6, i6 (leV b (at0 + 4) 4)), (8, i6 (leV b (at0 + 4 + 4) 4))] ?_
       refine w_one 7 (by as_aux_lemma => kernel_rfl) rfl ?_
       refine wo_callX [] [] 43 #[.agg #[pt pr]] (some 10) (by as_aux_lemma => kernel_rfl) rfl rfl trivial ?_
       intro w10 hw10
       have hlew10 := RdIs.le (hw10.at (i := 1) (c := (rdC pr F b (at0 + 4 + 4 + 4) 0)) rfl)
       refine (number_r w10 pr F b (at0 + 4 + 4 + 4) (hw10.at (i := 1) rfl)).mono ?_
       rintro e w11 (⟨hqw11, rfl, hRw11, hkw11⟩ | ⟨hqw11, rfl, hkw11⟩)
       · have hvbw11 := leV_bd hB (at0 + 4 + 4 + 4)
         obtain ⟨hnw11, hSw11⟩ := rd_set hw10 (i := 1) rfl hRw11 hkw11
         have hnw11' : w8.heap.size ≤ w11.heap.size := hnw11
         have hs12 := hSw11
         refine .inl ⟨_, _, rfl, hs12, .inr (fun c hc => hs12.all c (by first | exact hc | exact picks_mem (is := [0, 2, 3]) rfl c hc)), ?_⟩
         refine w_keep [2, 4, 6, 8, 10] [(q6cs_2 z), (4, i6 (leV b at0 4)), (6, i6 (leV b (at0 + 4) 4)), (8, i6 (leV b (at0 + 4 + 4) 4)), (10, i6 (leV b (at0 + 4 + 4 + 4) 4))] ?_
         refine w_take [(8, o0)] [2, 11] [] [true, true, true, true, true, true, true, true, true, false] [(q6cs_2 z), (11, .agg #[i6 (leV b at0 4), i6 (leV b (at0 + 4) 4), i6 (leV b (at0 + 4 + 4) 4), i6 (leV b (at0 + 4 + 4 + 4) 4)])] rfl (by as_aux_lemma => kernel_rfl) (by as_aux_lemma => kernel_rfl) trivial ?_
         refine w_one 9 (by as_aux_lemma => kernel_rfl) rfl ?_
         refine wo_eff (an 4 3) [2] [Qb (z + 1), Qb (z + 1), Qb (z + 1), Qb (z + 1)] [(q6cs_2 z)] ⟨w, w11.heap.size, [(old F w), (rdC pr F b (at0 + 4 + 4 + 4 + 4) 0), (q6cs_1 z pr), (q6cs_0 z b at0)]⟩ [] (by as_aux_lemma => kernel_rfl) rfl ⟨rfl, rfl, rfl, rfl, trivial⟩ (.inl rfl) ?_
         refine w_free 10 [0, 1, 2, 3] [(old F w), (rdC pr F b (at0 + 4 + 4 + 4 + 4) 0), (q6cs_1 z pr), (q6cs_0 z b at0)] rfl rfl ?_
         refine w_done (by as_aux_lemma => kernel_rfl) ?_
         refine e_keep [2] [(q6cs_2 z)] ?_
         refine e_seq <| g_ret <| e_ret [.at 3, .at 3, .at 3, .at 3] [Qb (z + 1), Qb (z + 1), Qb (z + 1), Qb (z + 1)] (.agg #[i6 (leV b at0 4), i6 (leV b (at0 + 4) 4), i6 (leV b (at0 + 4 + 4) 4), i6 (leV b (at0 + 4 + 4 + 4) 4)]) ⟨rfl, rfl, rfl, rfl, trivial⟩ ?_
         intro w13 hw13
         exact .inl ⟨_, _, (by unfold regAt; rw [numAt_ok (by omega), PR.bind_ok, numAt_ok (by omega), PR.bind_ok, numAt_ok (by omega), PR.bind_ok, numAt_ok (by omega), PR.bind_ok]), rfl, hw13.at (i := 1) rfl, back0 hw13⟩
       · have hnw11 : w8.heap.size ≤ w11.heap.size := size_of hw10 hkw11
         have hSw11 := rd_drop hw10 [0, 2, 3] (i := 1) rfl rfl rfl rfl hkw11
         refine .inr ⟨_, _, rfl, hSw11, ?_⟩
         refine e_panicR ?_
         intro w14 hw14
         exact .inr ⟨_, (by unfold regAt; rw [numAt_ok (by omega), PR.bind_ok, numAt_ok (by omega), PR.bind_ok, numAt_ok (by omega), PR.bind_ok, numAt_no (by omega), PR.bind_no]), rfl, back0 hw14⟩
     · have hnw8 : w5.heap.size ≤ w8.heap.size := size_of hw7 hkw8
       have hSw8 := rd_drop hw7 [0, 2, 3] (i := 1) rfl rfl rfl rfl hkw8
       refine .inr ⟨_, _, rfl, hSw8, ?_⟩
       refine e_panicR ?_
       intro w15 hw15
       exact .inr ⟨_, (by unfold regAt; rw [numAt_ok (by omega), PR.bind_ok, numAt_ok (by omega), PR.bind_ok, numAt_no (by omega), PR.bind_no]), rfl, back0 hw15⟩
   · have hnw5 : w2.heap.size ≤ w5.heap.size := size_of hw4 hkw5
     have hSw5 := rd_drop hw4 [0, 2, 3] (i := 1) rfl rfl rfl rfl hkw5
     refine .inr ⟨_, _, rfl, hSw5, ?_⟩
     refine e_panicR ?_
     intro w16 hw16
     exact .inr ⟨_, (by unfold regAt; rw [numAt_ok (by omega), PR.bind_ok, numAt_no (by omega), PR.bind_no]), rfl, back0 hw16⟩
 · have hnw2 : z + 2 ≤ w2.heap.size := size_of hw1 hkw2
   have hSw2 := rd_drop hw1 [0, 2, 3] (i := 1) rfl rfl rfl rfl hkw2
   refine .inr ⟨_, _, rfl, hSw2, ?_⟩
   refine e_panicR ?_
   intro w17 hw17
   exact .inr ⟨_, (by unfold regAt; rw [numAt_no (by omega), PR.bind_no]), rfl, back0 hw17⟩
abbrev q032_0 (z : Nat) (pr : Nat) : Ch := bk z #[pt pr] 87
abbrev q032_1 (z : Nat) : Nat × Value := (2, pt (z + 1))
theorem port_r (w : World) (pr : Nat) (F : Nat → Prop) (b : List Int) (at0 : Nat) (hr : RdIs w pr F b at0 0) : Calls Try.prog 97 #[.agg #[.pointer (some ⟨pr, 0, none⟩)]] w fun e w' => FPost w pr F b (portAt b at0) (fun x => .agg (TPort.arr x)) e w' := by
 obtain ⟨z, hz⟩ : ∃ z, z = w.heap.size := ⟨_, rfl⟩
 refine calls_G (args := [.agg #[pt pr]]) 9 ⟨w, z, [(old F w), (rdC pr F b at0 0)]⟩ Try.func97 rfl (by kernel_rfl) (by kernel_rfl) (hz ▸ sat_rdC hr) ?_
 have hB := hr.byt; have hlen := hr.len; have hat := hr.le
 refine g_keep [0] [(0, .agg #[pt pr])] ?_
 refine q_c 5 0 [] [[o0, o0]] [] [(1, pt z), (q032_1 z)] ⟨w, z + 2, [(old F w), (rdC pr F b at0 0), (q032_0 z pr), (bk (z + 1) #[i6 0, .bool false] 101)]⟩ rfl trivial ?_
 refine g_draw 6 [0, 2, 3] [(old F w), (q032_0 z pr), (bk (z + 1) #[i6 0, .bool false] 101)] rfl rfl ?_
 refine w_take [(0, (a1 1)), (2, (a1 1)), (3, o0)] [2, 3, 5, 6] [Qb z, Qb z] [true, false, true, true, false, false, false] [(q032_1 z), (3, .agg #[pt pr]), (5, .agg #[pt pr]), (6, .func (.func 104) #[] #[pt z])] rfl (by as_aux_lemma => kernel_rfl) (by as_aux_lemma => kernel_rfl) ⟨rfl, rfl, trivial⟩ ?_
 refine w_one 1 (by as_aux_lemma => kernel_rfl) rfl ?_
 refine wo_callX [] [] 43 #[.agg #[pt pr]] (some 4) (by as_aux_lemma => kernel_rfl) rfl rfl trivial ?_
 intro w1 hw1
 have hlew1 := RdIs.le (hw1.at (i := 1) (c := (rdC pr F b at0 0)) rfl)
 refine (number_r w1 pr F b at0 (hw1.at (i := 1) rfl)).mono ?_
 rintro e w2 (⟨hqw2, rfl, hRw2, hkw2⟩ | ⟨hqw2, rfl, hkw2⟩)
 · have hvbw2 := leV_bd hB at0
   obtain ⟨hnw2, hSw2⟩ := rd_set hw1 (i := 1) rfl hRw2 hkw2
   have hnw2' : z + 2 ≤ w2.heap.size := hnw2
   have hs3 := hSw2
   refine .inl ⟨_, _, rfl, hs3, .inr (fun c hc => hs3.all c (by first | exact hc | exact picks_mem (is := [0, 2, 3]) rfl c hc)), ?_⟩
   refine w_keep [2, 5, 6, 4] [(q032_1 z), (5, .agg #[pt pr]), (6, .func (.func 104) #[] #[pt z]), (4, i6 (leV b at0 4))] ?_
   refine w_one 4 (by as_aux_lemma => kernel_rfl) rfl ?_
   refine wo_callX [] [] 103 #[.agg #[pt pr], .func (.func 104) #[] #[pt z]] (some 7) (by as_aux_lemma => kernel_rfl) rfl rfl trivial ?_
   intro w4 hw4
   refine (it_src w4 pr F b (at0 + 4) (hw4.at (i := 1) rfl) z (bx_of hw4 (i := 1) (j := 2) rfl rfl (by decide)).1 (bx_of hw4 (i := 1) (j := 2) rfl rfl (by decide)).2).mono ?_
   rintro e w5 (⟨hqw5, rfl, hRw5, hkw5⟩ | ⟨hqw5, rfl, hkw5⟩)
   · obtain ⟨hnw5, hSw5⟩ := rd_set hw4 (i := 1) rfl hRw5 hkw5
     have hnw5' : w2.heap.size ≤ w5.heap.size := hnw5
     have hs6 := hSw5
     refine .inl ⟨_, _, rfl, hs6, .inr (fun c hc => hs6.all c (by first | exact hc | exact picks_mem (is := [0, 2, 3]) rfl c hc)), ?_⟩
     refine w_keep [2, 4, 7] [(q032_1 z), (4, i6 (leV b at0 4)), (7, .bool (decide (gd b (at0 + 4) = 1)))] ?_
     refine w_take [(5, o0)] [2, 8] [] [true, true, true, true, true, true, false] [(q032_1 z), (8, .agg #[i6 (leV b at0 4), .bool (decide (gd b (at0 + 4) = 1))])] rfl (by as_aux_lemma => kernel_rfl) (by as_aux_lemma => kernel_rfl) trivial ?_
     refine w_one 6 (by as_aux_lemma => kernel_rfl) rfl ?_
     refine wo_eff (an 2 3) [2] [Qb (z + 1), Qb (z + 1)] [(q032_1 z)] ⟨w, w5.heap.size, [(old F w), (rdC pr F b (at0 + 4 + 1) 0), (q032_0 z pr), (bk (z + 1) #[i6 (leV b at0 4), .bool (decide (gd b (at0 + 4) = 1))] 101)]⟩ [] (by as_aux_lemma => kernel_rfl) rfl ⟨rfl, rfl, trivial⟩ (.inl rfl) ?_
     refine w_free 7 [0, 1, 2, 3] [(old F w), (rdC pr F b (at0 + 4 + 1) 0), (q032_0 z pr), (bk (z + 1) #[i6 (leV b at0 4), .bool (decide (gd b (at0 + 4) = 1))] 101)] rfl rfl ?_
     refine w_done (by as_aux_lemma => kernel_rfl) ?_
     refine e_keep [2] [(q032_1 z)] ?_
     refine e_seq <| g_ret <| e_ret [.at 3, .at 3] [Qb (z + 1), Qb (z + 1)] (.agg #[i6 (leV b at0 4), .bool (decide (gd b (at0 + 4) = 1))]) ⟨rfl, rfl, trivial⟩ ?_
     intro w7 hw7
     exact .inl ⟨_, _, (by unfold portAt; rw [numAt_ok (by omega), PR.bind_ok, srcAt_ok (by omega), PR.bind_ok]), rfl, hw7.at (i := 1) rfl, back0 hw7⟩
   · have hnw5 : w2.heap.size ≤ w5.heap.size := size_of hw4 hkw5
     have hSw5 := rd_drop hw4 [0, 2, 3] (i := 1) rfl rfl rfl rfl hkw5
     refine .inr ⟨_, _, rfl, hSw5, ?_⟩
     refine e_panicR ?_
     intro w8 hw8
     exact .inr ⟨_, (by unfold portAt; rw [numAt_ok (by omega), PR.bind_ok, srcAt_no (by omega), PR.bind_no]), rfl, back0 hw8⟩
 · have hnw2 : z + 2 ≤ w2.heap.size := size_of hw1 hkw2
   have hSw2 := rd_drop hw1 [0, 2, 3] (i := 1) rfl rfl rfl rfl hkw2
   refine .inr ⟨_, _, rfl, hSw2, ?_⟩
   refine e_panicR ?_
   intro w9 hw9
   exact .inr ⟨_, (by unfold portAt; rw [numAt_no (by omega), PR.bind_no]), rfl, back0 hw9⟩
abbrev queg_0 (z : Nat) (b : List Int) (at0 : Nat) : Ch := bk (z + 1) #[i6 (leV b at0 4), i6 (leV b (at0 + 4) 4), i6 (leV b (at0 + 4 + 4) 4)] 74
abbrev queg_1 (z : Nat) (pr : Nat) : Ch := bk z #[pt pr] 87
abbrev queg_2 (z : Nat) : Nat × Value := (2, pt (z + 1))
theorem channel_r (w : World) (pr : Nat) (F : Nat → Prop) (b : List Int) (at0 : Nat) (hr : RdIs w pr F b at0 0) : Calls Try.prog 79 #[.agg #[.pointer (some ⟨pr, 0, none⟩)]] w fun e w' => FPost w pr F b (chanAt b at0) (fun x => .agg (TChannel.arr x)) e w' := by
 obtain ⟨z, hz⟩ : ∃ z, z = w.heap.size := ⟨_, rfl⟩
 refine calls_G (args := [.agg #[pt pr]]) 10 ⟨w, z, [(old F w), (rdC pr F b at0 0)]⟩ Try.func79 rfl (by kernel_rfl) (by kernel_rfl) (hz ▸ sat_rdC hr) ?_
 have hB := hr.byt; have hlen := hr.len; have hat := hr.le
 refine g_keep [0] [(0, .agg #[pt pr])] ?_
 refine q_c 5 0 [] [[o0, o0]] [] [(1, pt z), (queg_2 z)] ⟨w, z + 2, [(old F w), (rdC pr F b at0 0), (queg_1 z pr), (bk (z + 1) #[i6 0, i6 0, i6 0] 74)]⟩ rfl trivial ?_
 refine g_draw 7 [0, 2, 3] [(old F w), (queg_1 z pr), (bk (z + 1) #[i6 0, i6 0, i6 0] 74)] rfl rfl ?_
 refine w_take [(0, (a1 1)), (2, (a1 1)), (4, (a1 1))] [2, 3, 5, 7] [Qb z, Qb z, Qb z] [true, false, true, false, true, false, false, false] [(queg_2 z), (3, .agg #[pt pr]), (5, .agg #[pt pr]), (7, .agg #[pt pr])] rfl (by as_aux_lemma => kernel_rfl) (by as_aux_lemma => kernel_rfl) ⟨rfl, rfl, rfl, trivial⟩ ?_
 refine w_one 1 (by as_aux_lemma => kernel_rfl) rfl ?_
 refine wo_callX [] [] 43 #[.agg #[pt pr]] (some 4) (by as_aux_lemma => kernel_rfl) rfl rfl trivial ?_
 intro w1 hw1
 have hlew1 := RdIs.le (hw1.at (i := 1) (c := (rdC pr F b at0 0)) rfl)
 refine (number_r w1 pr F b at0 (hw1.at (i := 1) rfl)).mono ?_
 rintro e w2 (⟨hqw2, rfl, hRw2, hkw2⟩ | ⟨hqw2, rfl, hkw2⟩)
 · have hvbw2 := leV_bd hB at0
   obtain ⟨hnw2, hSw2⟩ := rd_set hw1 (i := 1) rfl hRw2 hkw2
   have hnw2' : z + 2 ≤ w2.heap.size := hnw2
   have hs3 := hSw2
   refine .inl ⟨_, _, rfl, hs3, .inr (fun c hc => hs3.all c (by first | exact hc | exact picks_mem (is := [0, 2, 3]) rfl c hc)), ?_⟩
   refine w_keep [2, 5, 7, 4] [(queg_2 z), (5, .agg #[pt pr]), (7, .agg #[pt pr]), (4, i6 (leV b at0 4))] ?_
   refine w_one 3 (by as_aux_lemma => kernel_rfl) rfl ?_
   refine wo_callX [] [] 43 #[.agg #[pt pr]] (some 6) (by as_aux_lemma => kernel_rfl) rfl rfl trivial ?_
   intro w4 hw4
   have hlew4 := RdIs.le (hw4.at (i := 1) (c := (rdC pr F b (at0 + 4) 0)) rfl)
   refine (number_r w4 pr F b (at0 + 4) (hw4.at (i := 1) rfl)).mono ?_
   rintro e w5 (⟨hqw5, rfl, hRw5, hkw5⟩ | ⟨hqw5, rfl, hkw5⟩)
   · have hvbw5 := leV_bd hB (at0 + 4)
     obtain ⟨hnw5, hSw5⟩ := rd_set hw4 (i := 1) rfl hRw5 hkw5
     have hnw5' : w2.heap.size ≤ w5.heap.size := hnw5
     have hs6 := hSw5
     refine .inl ⟨_, _, rfl, hs6, .inr (fun c hc => hs6.all c (by first | exact hc | exact picks_mem (is := [0, 2, 3]) rfl c hc)), ?_⟩
     refine w_keep [2, 7, 4, 6] [(queg_2 z), (7, .agg #[pt pr]), (4, i6 (leV b at0 4)), (6, i6 (leV b (at0 + 4) 4))] ?_
     refine w_one 5 (by as_aux_lemma => kernel_rfl) rfl ?_
     refine wo_callX [] [] 43 #[.agg #[pt pr]] (some 8) (by as_aux_lemma => kernel_rfl) rfl rfl trivial ?_
     intro w7 hw7
     have hlew7 := RdIs.le (hw7.at (i := 1) (c := (rdC pr F b (at0 + 4 + 4) 0)) rfl)
     refine (number_r w7 pr F b (at0 + 4 + 4) (hw7.at (i := 1) rfl)).mono ?_
     rintro e w8 (⟨hqw8, rfl, hRw8, hkw8⟩ | ⟨hqw8, rfl, hkw8⟩)
     · have hvbw8 := leV_bd hB (at0 + 4 + 4)
       obtain ⟨hnw8, hSw8⟩ := rd_set hw7 (i := 1) rfl hRw8 hkw8
       have hnw8' : w5.heap.size ≤ w8.heap.size := hnw8
       have hs9 := hSw8
       refine .inl ⟨_, _, rfl, hs9, .inr (fun c hc => hs9.all c (by first | exact hc | exact picks_mem (is := [0, 2, 3]) rfl c hc)), ?_⟩
       refine w_keep [2, 4, 6, 8] [(queg_2 z), (4, i6 (leV b at0 4)), (6, i6 (leV b (at0 + 4) 4)), (8, i6 (leV b (at0 + 4 + 4) 4))] ?_
       refine w_take [(6, o0)] [2, 9] [] [true, true, true, true, true, true, true, false] [(queg_2 z), (9, .agg #[i6 (leV b at0 4), i6 (leV b (at0 + 4) 4), i6 (leV b (at0 + 4 + 4) 4)])] rfl (by as_aux_lemma => kernel_rfl) (by as_aux_lemma => kernel_rfl) trivial ?_
       refine w_one 7 (by as_aux_lemma => kernel_rfl) rfl ?_
       refine wo_eff (an 3 3) [2] [Qb (z + 1), Qb (z + 1), Qb (z + 1)] [(queg_2 z)] ⟨w, w8.heap.size, [(old F w), (rdC pr F b (at0 + 4 + 4 + 4) 0), (queg_1 z pr), (queg_0 z b at0)]⟩ [] (by as_aux_lemma => kernel_rfl) rfl ⟨rfl, rfl, rfl, trivial⟩ (.inl rfl) ?_
       refine w_free 8 [0, 1, 2, 3] [(old F w), (rdC pr F b (at0 + 4 + 4 + 4) 0), (queg_1 z pr), (queg_0 z b at0)] rfl rfl ?_
       refine w_done (by as_aux_lemma => kernel_rfl) ?_
       refine e_keep [2] [(queg_2 z)] ?_
       refine e_seq <| g_ret <| e_ret [.at 3, .at 3, .at 3] [Qb (z + 1), Qb (z + 1), Qb (z + 1)] (.agg #[i6 (leV b at0 4), i6 (leV b (at0 + 4) 4), i6 (leV b (at0 + 4 + 4) 4)]) ⟨rfl, rfl, rfl, trivial⟩ ?_
       intro w10 hw10
       exact .inl ⟨_, _, (by unfold chanAt; rw [numAt_ok (by omega), PR.bind_ok, numAt_ok (by omega), PR.bind_ok, numAt_ok (by omega), PR.bind_ok]), rfl, hw10.at (i := 1) rfl, back0 hw10⟩
     · have hnw8 : w5.heap.size ≤ w8.heap.size := size_of hw7 hkw8
       have hSw8 := rd_drop hw7 [0, 2, 3] (i := 1) rfl rfl rfl rfl hkw8
       refine .inr ⟨_, _, rfl, hSw8, ?_⟩
       refine e_panicR ?_
       intro w11 hw11
       exact .inr ⟨_, (by unfold chanAt; rw [numAt_ok (by omega), PR.bind_ok, numAt_ok (by omega), PR.bind_ok, numAt_no (by omega), PR.bind_no]), rfl, back0 hw11⟩
   · have hnw5 : w2.heap.size ≤ w5.heap.size := size_of hw4 hkw5
     have hSw5 := rd_drop hw4 [0, 2, 3] (i := 1) rfl rfl rfl rfl hkw5
     refine .inr ⟨_, _, rfl, hSw5, ?_⟩
     refine e_panicR ?_
     intro w12 hw12
     exact .inr ⟨_, (by unfold chanAt; rw [numAt_ok (by omega), PR.bind_ok, numAt_no (by omega), PR.bind_no]), rfl, back0 hw12⟩
 · have hnw2 : z + 2 ≤ w2.heap.size := size_of hw1 hkw2
   have hSw2 := rd_drop hw1 [0, 2, 3] (i := 1) rfl rfl rfl rfl hkw2
   refine .inr ⟨_, _, rfl, hSw2, ?_⟩
   refine e_panicR ?_
   intro w13 hw13
   exact .inr ⟨_, (by unfold chanAt; rw [numAt_no (by omega), PR.bind_no]), rfl, back0 hw13⟩

end Go.Proofs.Ytmmkacfeocnblaa.Ly
