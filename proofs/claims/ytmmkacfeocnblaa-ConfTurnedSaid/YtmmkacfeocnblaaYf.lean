/- Lists of one size, read. No conditions. -/
import Derived.Test.YtmmkacfeocnblaaYe
namespace Go.Proofs.Ytmmkacfeocnblaa.Ly
open Go Go.Proofs.Ytmmkacfeocnblaa.Eng Go.Proofs.Ytmmkacfeocnblaa.Mem
set_option linter.unusedSimpArgs false
set_option linter.unusedVariables false
set_option maxRecDepth 100000

def many {α : Type} (one : Nat → PR α) : Nat → Nat → PR (List α)
  | 0, a => .ok [] a
  | n + 1, a => (many one n a).bind fun xs a => (one a).bind fun x a => .ok (xs ++ [x]) a
def listAt {α : Type} (b : List Int) (one : Nat → PR α) (a : Nat) : PR (List α) := (byteAt b a).bind fun n a => many one n.toNat a
theorem many_step {α : Type} {one : Nat → PR α} {n a a1 a2 : Nat} {xs : List α} {x : α} (h : many one n a = .ok xs a1) (hx : one a1 = .ok x a2) : many one (n + 1) a = .ok (xs ++ [x]) a2 := by
  rw [many, h, PR.bind_ok, hx, PR.bind_ok]
theorem many_stop {α : Type} {one : Nat → PR α} {n a a1 p : Nat} {xs : List α} (h : many one n a = .ok xs a1) (hx : one a1 = .no p) : ∀ k, n < k → many one k a = .no p
  | k + 1, hk => by
    by_cases e : n = k
    · subst e; rw [many, h, PR.bind_ok, hx, PR.bind_no]
    · rw [many, many_stop h hx k (by omega), PR.bind_no]
theorem many_len {α : Type} {one : Nat → PR α} : ∀ {n a a1 : Nat} {xs : List α}, many one n a = .ok xs a1 → xs.length = n
  | 0, a, a1, xs, h => by cases h; rfl
  | n + 1, a, a1, xs, h => by
    obtain ⟨ys, a2, h1, h⟩ := bind_ok_of h
    obtain ⟨x, a3, h2, h⟩ := bind_ok_of h
    cases h
    rw [List.length_append, many_len h1]; rfl
/-- What one reading of each promises of the thing read. -/
theorem many_all {α : Type} {one : Nat → PR α} {R : α → Prop} (h1 : ∀ a x a2, one a = .ok x a2 → R x) : ∀ {n a a1 : Nat} {xs : List α}, many one n a = .ok xs a1 → ∀ x ∈ xs, R x
  | 0, a, a1, xs, h => by cases h; simp
  | n + 1, a, a1, xs, h => by
    obtain ⟨ys, a2, g1, h⟩ := bind_ok_of h
    obtain ⟨x, a3, g2, h⟩ := bind_ok_of h
    cases h
    intro y hy
    rcases List.mem_append.1 hy with hy | hy
    · exact many_all h1 g1 y hy
    · rw [List.mem_singleton] at hy; subst hy; exact h1 _ _ _ g2
theorem list_ok {α : Type} {b : List Int} {one : Nat → PR α} {a a2 n k : Nat} {xs : List α} (h1 : a + 1 ≤ b.length) (h2 : gd b a = (n : Int)) (hk : k = n) (h : many one k (a + 1) = .ok xs a2) : listAt b one a = .ok xs a2 := by
  subst hk
  unfold listAt; rw [byteAt_ok h1, PR.bind_ok, h2]; exact h
theorem list_no0 {α : Type} {b : List Int} {one : Nat → PR α} {a : Nat} (h1 : ¬ a + 1 ≤ b.length) : listAt b one a = .no a := by
  unfold listAt; rw [byteAt_no h1, PR.bind_no]
theorem list_no {α : Type} {b : List Int} {one : Nat → PR α} {a a1 n i p : Nat} {xs : List α} (h1 : a + 1 ≤ b.length) (h2 : gd b a = (n : Int)) (hi : i < n) (h : many one i (a + 1) = .ok xs a1) (hx : one a1 = .no p) : listAt b one a = .no p := by
  unfold listAt; rw [byteAt_ok h1, PR.bind_ok, h2]; exact many_stop h hx _ hi
theorem list_of {α : Type} {b : List Int} {one : Nat → PR α} {a a2 : Nat} {xs : List α} (hB : Byt b) (h : listAt b one a = .ok xs a2) : xs.length ≤ 255 ∧ gd b a = (xs.length : Int) ∧ a + 1 ≤ b.length ∧ many one xs.length (a + 1) = .ok xs a2 := by
  obtain ⟨n, a1, h1, h⟩ := bind_ok_of h
  obtain ⟨h2, h3, h4⟩ := byteAt_of h1
  have h5 := many_len h
  have h6 := byt_gd hB a
  subst h4
  rw [← h5] at h
  exact ⟨by omega, by omega, h2, h⟩
/-- A list read: a row of its own. -/
def LPost {α : Type} (w : World) (pr : Nat) (F : Nat → Prop) (b : List Int) (r : PR (List α)) (E : TypeId) (sz : Nat) (cells : α → List Value) (e : Ending) (w' : World) : Prop :=
  (∃ xs a ad cap, r = .ok xs a ∧ e = .returned (.slice ad xs.length cap) ∧ RdIs w' pr F b a 0 ∧ Keeps F w w' ∧ (rowL w.heap.size E sz cells (.slice ad xs.length cap) xs).holds w') ∨ (∃ p, r = .no p ∧ e = .panicked (faultP 110 p) ∧ Keeps F w w')
theorem sat_one {w : World} {c : Ch} (h : c.holds w) (hst : c.stable) (hb : ∀ b, c.F b → b < w.heap.size) : Sat ⟨w, w.heap.size, [c]⟩ w :=
  ⟨rfl, rfl, rfl, rfl, fun d hd => by rw [List.mem_singleton.1 hd]; exact h, fun d hd => by rw [List.mem_singleton.1 hd]; exact hb, fun d hd => by rw [List.mem_singleton.1 hd]; exact hst, by simp⟩
theorem rd_row {α : Type} {A : AW} {w w' : World} {i pr : Nat} {F : Nat → Prop} {b : List Int} {at0 at' : Nat} {fl0 fl : Int} {e : TypeId} {sz : Nat} {cells : α → List Value} {v : Value} {xs : List α} (h : Sat A w) (hi : A.σ[i]? = some (rdC pr F b at0 fl0)) (hR : RdIs w' pr F b at' fl) (hk : Keeps F w w') (ho : (rowL w.heap.size e sz cells v xs).holds w') (z : Nat) (hz : z ≤ A.n) : A.n ≤ w'.heap.size ∧ Sat { A with n := w'.heap.size, σ := A.σ.set i (rdC pr F b at' fl) ++ [rowL z e sz cells v xs] } w' :=
  ⟨size_of h hk, h.turnMade hi rfl rfl hk hR (rd_stable _ _ _ _ _) (fun _ h => h) (sat_one (row_low ho (by rw [h.size]; exact hz)) (row_stable _ _ _ _ _ _) (fun b hb => ((show w'.ownsRow w.heap.size e sz v xs.length (xs.flatMap cells) from ho).lt b hb).2)) (fun d hd b hb => by rw [List.mem_singleton.1 hd] at hb; exact ((show w'.ownsRow w.heap.size e sz v xs.length (xs.flatMap cells) from ho).lt b hb).1)⟩
abbrev qgw0_0 (z : Nat) (pr : Nat) : Ch := bk z #[pt pr] 87
theorem takeW (w : World) (pr : Nat) (F : Nat → Prop) (b : List Int) (at0 : Nat) (hr : RdIs w pr F b at0 0) : Calls Try.prog 89 #[.agg #[.pointer (some ⟨pr, 0, none⟩)], .func (.func 90) #[] #[]] w fun e w' => LPost w pr F b (listAt b (winAt b) at0) 97 3 TWindow.cells e w' := by
 obtain ⟨z, hz⟩ : ∃ z, z = w.heap.size := ⟨_, rfl⟩
 refine calls_G (args := [.agg #[pt pr], .func (.func 90) #[] #[]]) 20 ⟨w, z, [(old F w), (rdC pr F b at0 0)]⟩ Try.func89 rfl (by kernel_rfl) (by kernel_rfl) (hz ▸ sat_rdC hr) ?_
 have hB := hr.byt; have hlen := hr.len; have hat := hr.le
 refine g_keep [0, 1] [(0, .agg #[pt pr]), (1, .func (.func 90) #[] #[])] ?_
 refine q_c 6 1 [] [[o0, o0], [(a1 2)]] [Qb z] [(1, .func (.func 90) #[] #[]), (2, pt z), (7, .agg #[pt pr])] ⟨w, z + 1, [(old F w), (rdC pr F b at0 0), (qgw0_0 z pr)]⟩ rfl ⟨rfl, trivial⟩ ?_
 refine l_callX [] [] 88 #[.agg #[pt pr]] (some 8) trivial ?_
 intro w1 hw1
 have hlew1 := RdIs.le (hw1.at (i := 1) (c := (rdC pr F b at0 0)) rfl)
 refine (byte_r w1 pr F b at0 (hw1.at (i := 1) rfl)).mono ?_
 rintro e w2 (⟨hqw2, rfl, hRw2, hkw2⟩ | ⟨hqw2, rfl, hkw2⟩)
 · have hvbw2 := byt_gd hB at0
   obtain ⟨n3, hnn3⟩ : ∃ n : Nat, (gd b at0) = (n : Int) := ⟨_, (Int.toNat_of_nonneg hvbw2.1).symm⟩; rw [hnn3]
   obtain ⟨hnw2, hSw2⟩ := rd_set hw1 (i := 1) rfl hRw2 hkw2
   have hnw2' : z + 1 ≤ w2.heap.size := hnw2
   refine .inl ⟨_, _, rfl, hSw2, ?_⟩
   refine q_rS 12 0 [] [[o0], [o0], [o0, o0]] [] [(1, .func (.func 90) #[] #[]), (2, pt z), (6, .slice none 0 0), (9, i6 (n3 : Int)), (10, i6 0)] rfl trivial ?_
   refine g_rowL z 97 3 TWindow.cells ?_
   refine g_loop (fun m a w' => ∃ (n5 : Nat) (i : Nat) (xs : List TWindow) (ati : Nat) (aL : Option Addr) (cL : Nat), m = n3 - i ∧ w2.heap.size ≤ n5 ∧ (i ≤ n3) ∧ (many (winAt b) i (at0 + 1) = .ok xs ati) ∧ St 20 [(1, .func (.func 90) #[] #[]), (2, pt z), (6, .slice aL xs.length cL), (9, i6 (n3 : Int)), (10, i6 (i : Int))] [] ⟨w, n5, [(old F w), (rdC pr F b ati 0), (qgw0_0 z pr), (rowL z 97 3 TWindow.cells (.slice aL xs.length cL) xs)]⟩ a w') (n3 - 0) ?_ ?_
   · intro a w' hs; exact ⟨w2.heap.size, 0, ([]), (at0 + 1), none, 0, rfl, Nat.le_refl _, Nat.zero_le _, rfl, hs⟩
   · rintro m a w' ⟨n5, i, xs, ati, aL, cL, rfl, hn4, hki, hm, hs⟩
     refine (?_ : G Try.prog 20 [(1, .func (.func 90) #[] #[]), (2, pt z), (6, .slice aL xs.length cL), (9, i6 (n3 : Int)), (10, i6 (i : Int))] [] ⟨w, n5, [(old F w), (rdC pr F b ati 0), (qgw0_0 z pr), (rowL z 97 3 TWindow.cells (.slice aL xs.length cL) xs)]⟩ _ _ _) a w' hs
     clear hs a w'
     have hxl := many_len hm
     refine g_seq ?_
     by_cases h6 : ((i : Int) : Int) < (n3 : Int)
     · refine q_cS 10 3 [1] [[oT], [o0, o0, (a1 2)]] [BT (((i : Int) : Int) < (n3 : Int)), Qb z] [(1, .func (.func 90) #[] #[]), (2, pt z), (9, i6 (n3 : Int)), (10, i6 (i : Int)), (12, .slice aL xs.length cL), (13, .func (.func 90) #[] #[]), (14, .agg #[pt pr])] rfl ⟨bt (by omega), rfl, trivial⟩ ?_
       refine l_callX [] [] 90 #[.agg #[pt pr]] (some 15) trivial ?_
       intro w7 hw7
       have hlew7 := RdIs.le (hw7.at (i := 1) (c := (rdC pr F b ati 0)) rfl)
       refine (window_r w7 pr F b ati (hw7.at (i := 1) rfl)).mono ?_
       rintro e w11 (⟨x8, n9, hxw11, rfl, hRw11, hkw11⟩ | ⟨n10, hxw11, rfl, hkw11⟩)
       · have hrngw11 := winAt_rng hB hxw11
         obtain ⟨hnw11, hSw11⟩ := rd_set hw7 (i := 1) rfl hRw11 hkw11
         have hnw11' : n5 ≤ w11.heap.size := hnw11
         refine .inl ⟨_, _, rfl, hSw11, ?_⟩
         refine q_r 0 1 [] [[o0]] [] [(1, .func (.func 90) #[] #[]), (2, pt z), (9, i6 (n3 : Int)), (10, i6 (i : Int)), (12, .slice aL xs.length cL), (16, .slice (some ⟨w11.heap.size, 0, none⟩) 1 1)] ⟨w, w11.heap.size + 1, [(old F w), (rdC pr F b n9 0), (qgw0_0 z pr), (rowL z 97 3 TWindow.cells (.slice aL xs.length cL) xs), (.blk w11.heap.size (.cells #[i6 x8.Partition, i6 x8.Usable, i6 x8.Slack] 97 (0, 0)) true)]⟩ rfl trivial ?_
         refine l_push z 3 4 xs [(⟨x8.Partition, x8.Usable, x8.Slack⟩ : TWindow)] TWindow.cells 97 3 24 (.slice aL xs.length cL) w11.heap.size 1 1 #[i6 x8.Partition, i6 x8.Usable, i6 x8.Slack] 97 (0, 0) true (some 17) (by simp only [List.length_cons, List.length_nil]; omega) (show z ≤ w11.heap.size + 1 by omega) (fun a12 cp13 n14 (hn15 : w11.heap.size + 1 ≤ n14) => ?_)
         refine q_rS 5 0 [] [[o0], [(ov (i6 ((i + 1 : Nat) : Int))), o0]] [Wr (((i : Int) : Int) + 1) (((i + 1 : Nat) : Int))] [(1, .func (.func 90) #[] #[]), (2, pt z), (9, i6 (n3 : Int)), (10, i6 ((i + 1 : Nat) : Int)), (6, .slice a12 ((xs ++ [(⟨x8.Partition, x8.Usable, x8.Slack⟩ : TWindow)]).length) cp13)] rfl ⟨wrI, trivial⟩ ?_
         refine e_pick [0, 1, 2, 3] [(old F w), (rdC pr F b n9 0), (qgw0_0 z pr), (rowL z 97 3 TWindow.cells (.slice a12 ((xs ++ [(⟨x8.Partition, x8.Usable, x8.Slack⟩ : TWindow)]).length) cp13) (xs ++ [(⟨x8.Partition, x8.Usable, x8.Slack⟩ : TWindow)]))] rfl rfl ?_
         refine e_keep [1, 2, 6, 9, 10] [(1, .func (.func 90) #[] #[]), (2, pt z), (6, .slice a12 ((xs ++ [(⟨x8.Partition, x8.Usable, x8.Slack⟩ : TWindow)]).length) cp13), (9, i6 (n3 : Int)), (10, i6 ((i + 1 : Nat) : Int))] ?_
         refine e_inv (fun a w' hs => ⟨n3 - (i + 1), by omega, n14, (i + 1), (xs ++ [(⟨x8.Partition, x8.Usable, x8.Slack⟩ : TWindow)]), n9, a12, cp13, rfl, by omega, by omega, many_step hm hxw11, hs⟩)
       · have hnw11 : n5 ≤ w11.heap.size := size_of hw7 hkw11
         have hSw11 := rd_drop hw7 [0, 2, 3] (i := 1) rfl rfl rfl rfl hkw11
         refine .inr ⟨_, _, rfl, hSw11, ?_⟩
         refine e_panicR ?_
         intro w16 hw16
         exact .inr ⟨_, list_no (by omega) hnn3 (by omega) hm hxw11, rfl, back0 hw16⟩
     · refine q_cS 15 0 [0] [[oF], [o0, o0]] [BF (((i : Int) : Int) < (n3 : Int))] [(4, .slice aL xs.length cL)] rfl ⟨bf (by omega), trivial⟩ ?_
       refine e_ret [] [] (.slice aL xs.length cL) trivial ?_
       intro w17 hw17
       have hrow := hw17.at (i := 3) (c := (rowL z 97 3 TWindow.cells (.slice aL xs.length cL) xs)) rfl
       exact .inl ⟨xs, ati, _, _, list_ok (by omega) hnn3 (by omega) hm, rfl, hw17.at (i := 1) rfl, back0 hw17, hz ▸ hrow⟩
 · have hnw2 : z + 1 ≤ w2.heap.size := size_of hw1 hkw2
   have hSw2 := rd_drop hw1 [0, 2] (i := 1) rfl rfl rfl rfl hkw2
   refine .inr ⟨_, _, rfl, hSw2, ?_⟩
   refine e_panicR ?_
   intro w18 hw18
   exact .inr ⟨_, list_no0 (by omega), rfl, back0 hw18⟩
abbrev q3gv_0 (z : Nat) (pr : Nat) : Ch := bk z #[pt pr] 87
theorem takeR (w : World) (pr : Nat) (F : Nat → Prop) (b : List Int) (at0 : Nat) (hr : RdIs w pr F b at0 0) : Calls Try.prog 94 #[.agg #[.pointer (some ⟨pr, 0, none⟩)], .func (.func 95) #[] #[]] w fun e w' => LPost w pr F b (listAt b (regAt b) at0) 99 4 TRegion.cells e w' := by
 obtain ⟨z, hz⟩ : ∃ z, z = w.heap.size := ⟨_, rfl⟩
 refine calls_G (args := [.agg #[pt pr], .func (.func 95) #[] #[]]) 20 ⟨w, z, [(old F w), (rdC pr F b at0 0)]⟩ Try.func94 rfl (by kernel_rfl) (by kernel_rfl) (hz ▸ sat_rdC hr) ?_
 have hB := hr.byt; have hlen := hr.len; have hat := hr.le
 refine g_keep [0, 1] [(0, .agg #[pt pr]), (1, .func (.func 95) #[] #[])] ?_
 refine q_c 6 1 [] [[o0, o0], [(a1 2)]] [Qb z] [(1, .func (.func 95) #[] #[]), (2, pt z), (7, .agg #[pt pr])] ⟨w, z + 1, [(old F w), (rdC pr F b at0 0), (q3gv_0 z pr)]⟩ rfl ⟨rfl, trivial⟩ ?_
 refine l_callX [] [] 88 #[.agg #[pt pr]] (some 8) trivial ?_
 intro w1 hw1
 have hlew1 := RdIs.le (hw1.at (i := 1) (c := (rdC pr F b at0 0)) rfl)
 refine (byte_r w1 pr F b at0 (hw1.at (i := 1) rfl)).mono ?_
 rintro e w2 (⟨hqw2, rfl, hRw2, hkw2⟩ | ⟨hqw2, rfl, hkw2⟩)
 · have hvbw2 := byt_gd hB at0
   obtain ⟨n3, hnn3⟩ : ∃ n : Nat, (gd b at0) = (n : Int) := ⟨_, (Int.toNat_of_nonneg hvbw2.1).symm⟩; rw [hnn3]
   obtain ⟨hnw2, hSw2⟩ := rd_set hw1 (i := 1) rfl hRw2 hkw2
   have hnw2' : z + 1 ≤ w2.heap.size := hnw2
   refine .inl ⟨_, _, rfl, hSw2, ?_⟩
   refine q_rS 12 0 [] [[o0], [o0], [o0, o0]] [] [(1, .func (.func 95) #[] #[]), (2, pt z), (6, .slice none 0 0), (9, i6 (n3 : Int)), (10, i6 0)] rfl trivial ?_
   refine g_rowL z 99 4 TRegion.cells ?_
   refine g_loop (fun m a w' => ∃ (n5 : Nat) (i : Nat) (xs : List TRegion) (ati : Nat) (aL : Option Addr) (cL : Nat), m = n3 - i ∧ w2.heap.size ≤ n5 ∧ (i ≤ n3) ∧ (many (regAt b) i (at0 + 1) = .ok xs ati) ∧ St 20 [(1, .func (.func 95) #[] #[]), (2, pt z), (6, .slice aL xs.length cL), (9, i6 (n3 : Int)), (10, i6 (i : Int))] [] ⟨w, n5, [(old F w), (rdC pr F b ati 0), (q3gv_0 z pr), (rowL z 99 4 TRegion.cells (.slice aL xs.length cL) xs)]⟩ a w') (n3 - 0) ?_ ?_
   · intro a w' hs; exact ⟨w2.heap.size, 0, ([]), (at0 + 1), none, 0, rfl, Nat.le_refl _, Nat.zero_le _, rfl, hs⟩
   · rintro m a w' ⟨n5, i, xs, ati, aL, cL, rfl, hn4, hki, hm, hs⟩
     refine (?_ : G Try.prog 20 [(1, .func (.func 95) #[] #[]), (2, pt z), (6, .slice aL xs.length cL), (9, i6 (n3 : Int)), (10, i6 (i : Int))] [] ⟨w, n5, [(old F w), (rdC pr F b ati 0), (q3gv_0 z pr), (rowL z 99 4 TRegion.cells (.slice aL xs.length cL) xs)]⟩ _ _ _) a w' hs
     clear hs a w'
     have hxl := many_len hm
     refine g_seq ?_
     by_cases h6 : ((i : Int) : Int) < (n3 : Int)
     · refine q_cS 10 3 [1] [[oT], [o0, o0, (a1 2)]] [BT (((i : Int) : Int) < (n3 : Int)), Qb z] [(1, .func (.func 95) #[] #[]), (2, pt z), (9, i6 (n3 : Int)), (10, i6 (i : Int)), (12, .slice aL xs.length cL), (13, .func (.func 95) #[] #[]), (14, .agg #[pt pr])] rfl ⟨bt (by omega), rfl, trivial⟩ ?_
       refine l_callX [] [] 95 #[.agg #[pt pr]] (some 15) trivial ?_
       intro w7 hw7
       have hlew7 := RdIs.le (hw7.at (i := 1) (c := (rdC pr F b ati 0)) rfl)
       refine (region_r w7 pr F b ati (hw7.at (i := 1) rfl)).mono ?_
       rintro e w11 (⟨x8, n9, hxw11, rfl, hRw11, hkw11⟩ | ⟨n10, hxw11, rfl, hkw11⟩)
       · have hrngw11 := regAt_rng hB hxw11
         obtain ⟨hnw11, hSw11⟩ := rd_set hw7 (i := 1) rfl hRw11 hkw11
         have hnw11' : n5 ≤ w11.heap.size := hnw11
         refine .inl ⟨_, _, rfl, hSw11, ?_⟩
         refine q_r 0 1 [] [[o0]] [] [(1, .func (.func 95) #[] #[]), (2, pt z), (9, i6 (n3 : Int)), (10, i6 (i : Int)), (12, .slice aL xs.length cL), (16, .slice (some ⟨w11.heap.size, 0, none⟩) 1 1)] ⟨w, w11.heap.size + 1, [(old F w), (rdC pr F b n9 0), (q3gv_0 z pr), (rowL z 99 4 TRegion.cells (.slice aL xs.length cL) xs), (.blk w11.heap.size (.cells #[i6 x8.Page, i6 x8.Pages, i6 x8.Frame, i6 x8.Rights] 99 (0, 0)) true)]⟩ rfl trivial ?_
         refine l_push z 3 4 xs [(⟨x8.Page, x8.Pages, x8.Frame, x8.Rights⟩ : TRegion)] TRegion.cells 99 4 32 (.slice aL xs.length cL) w11.heap.size 1 1 #[i6 x8.Page, i6 x8.Pages, i6 x8.Frame, i6 x8.Rights] 99 (0, 0) true (some 17) (by simp only [List.length_cons, List.length_nil]; omega) (show z ≤ w11.heap.size + 1 by omega) (fun a12 cp13 n14 (hn15 : w11.heap.size + 1 ≤ n14) => ?_)
         refine q_rS 5 0 [] [[o0], [(ov (i6 ((i + 1 : Nat) : Int))), o0]] [Wr (((i : Int) : Int) + 1) (((i + 1 : Nat) : Int))] [(1, .func (.func 95) #[] #[]), (2, pt z), (9, i6 (n3 : Int)), (10, i6 ((i + 1 : Nat) : Int)), (6, .slice a12 ((xs ++ [(⟨x8.Page, x8.Pages, x8.Frame, x8.Rights⟩ : TRegion)]).length) cp13)] rfl ⟨wrI, trivial⟩ ?_
         refine e_pick [0, 1, 2, 3] [(old F w), (rdC pr F b n9 0), (q3gv_0 z pr), (rowL z 99 4 TRegion.cells (.slice a12 ((xs ++ [(⟨x8.Page, x8.Pages, x8.Frame, x8.Rights⟩ : TRegion)]).length) cp13) (xs ++ [(⟨x8.Page, x8.Pages, x8.Frame, x8.Rights⟩ : TRegion)]))] rfl rfl ?_
         refine e_keep [1, 2, 6, 9, 10] [(1, .func (.func 95) #[] #[]), (2, pt z), (6, .slice a12 ((xs ++ [(⟨x8.Page, x8.Pages, x8.Frame, x8.Rights⟩ : TRegion)]).length) cp13), (9, i6 (n3 : Int)), (10, i6 ((i + 1 : Nat) : Int))] ?_
         refine e_inv (fun a w' hs => ⟨n3 - (i + 1), by omega, n14, (i + 1), (xs ++ [(⟨x8.Page, x8.Pages, x8.Frame, x8.Rights⟩ : TRegion)]), n9, a12, cp13, rfl, by omega, by omega, many_step hm hxw11, hs⟩)
       · have hnw11 : n5 ≤ w11.heap.size := size_of hw7 hkw11
         have hSw11 := rd_drop hw7 [0, 2, 3] (i := 1) rfl rfl rfl rfl hkw11
         refine .inr ⟨_, _, rfl, hSw11, ?_⟩
         refine e_panicR ?_
         intro w16 hw16
         exact .inr ⟨_, list_no (by omega) hnn3 (by omega) hm hxw11, rfl, back0 hw16⟩
     · refine q_cS 15 0 [0] [[oF], [o0, o0]] [BF (((i : Int) : Int) < (n3 : Int))] [(4, .slice aL xs.length cL)] rfl ⟨bf (by omega), trivial⟩ ?_
       refine e_ret [] [] (.slice aL xs.length cL) trivial ?_
       intro w17 hw17
       have hrow := hw17.at (i := 3) (c := (rowL z 99 4 TRegion.cells (.slice aL xs.length cL) xs)) rfl
       exact .inl ⟨xs, ati, _, _, list_ok (by omega) hnn3 (by omega) hm, rfl, hw17.at (i := 1) rfl, back0 hw17, hz ▸ hrow⟩
 · have hnw2 : z + 1 ≤ w2.heap.size := size_of hw1 hkw2
   have hSw2 := rd_drop hw1 [0, 2] (i := 1) rfl rfl rfl rfl hkw2
   refine .inr ⟨_, _, rfl, hSw2, ?_⟩
   refine e_panicR ?_
   intro w18 hw18
   exact .inr ⟨_, list_no0 (by omega), rfl, back0 hw18⟩
abbrev qe8z_0 (z : Nat) (pr : Nat) : Ch := bk z #[pt pr] 87
theorem takeP (w : World) (pr : Nat) (F : Nat → Prop) (b : List Int) (at0 : Nat) (hr : RdIs w pr F b at0 0) : Calls Try.prog 96 #[.agg #[.pointer (some ⟨pr, 0, none⟩)], .func (.func 97) #[] #[]] w fun e w' => LPost w pr F b (listAt b (portAt b) at0) 101 2 TPort.cells e w' := by
 obtain ⟨z, hz⟩ : ∃ z, z = w.heap.size := ⟨_, rfl⟩
 refine calls_G (args := [.agg #[pt pr], .func (.func 97) #[] #[]]) 20 ⟨w, z, [(old F w), (rdC pr F b at0 0)]⟩ Try.func96 rfl (by kernel_rfl) (by kernel_rfl) (hz ▸ sat_rdC hr) ?_
 have hB := hr.byt; have hlen := hr.len; have hat := hr.le
 refine g_keep [0, 1] [(0, .agg #[pt pr]), (1, .func (.func 97) #[] #[])] ?_
 refine q_c 6 1 [] [[o0, o0], [(a1 2)]] [Qb z] [(1, .func (.func 97) #[] #[]), (2, pt z), (7, .agg #[pt pr])] ⟨w, z + 1, [(old F w), (rdC pr F b at0 0), (qe8z_0 z pr)]⟩ rfl ⟨rfl, trivial⟩ ?_
 refine l_callX [] [] 88 #[.agg #[pt pr]] (some 8) trivial ?_
 intro w1 hw1
 have hlew1 := RdIs.le (hw1.at (i := 1) (c := (rdC pr F b at0 0)) rfl)
 refine (byte_r w1 pr F b at0 (hw1.at (i := 1) rfl)).mono ?_
 rintro e w2 (⟨hqw2, rfl, hRw2, hkw2⟩ | ⟨hqw2, rfl, hkw2⟩)
 · have hvbw2 := byt_gd hB at0
   obtain ⟨n3, hnn3⟩ : ∃ n : Nat, (gd b at0) = (n : Int) := ⟨_, (Int.toNat_of_nonneg hvbw2.1).symm⟩; rw [hnn3]
   obtain ⟨hnw2, hSw2⟩ := rd_set hw1 (i := 1) rfl hRw2 hkw2
   have hnw2' : z + 1 ≤ w2.heap.size := hnw2
   refine .inl ⟨_, _, rfl, hSw2, ?_⟩
   refine q_rS 12 0 [] [[o0], [o0], [o0, o0]] [] [(1, .func (.func 97) #[] #[]), (2, pt z), (6, .slice none 0 0), (9, i6 (n3 : Int)), (10, i6 0)] rfl trivial ?_
   refine g_rowL z 101 2 TPort.cells ?_
   refine g_loop (fun m a w' => ∃ (n5 : Nat) (i : Nat) (xs : List TPort) (ati : Nat) (aL : Option Addr) (cL : Nat), m = n3 - i ∧ w2.heap.size ≤ n5 ∧ (i ≤ n3) ∧ (many (portAt b) i (at0 + 1) = .ok xs ati) ∧ St 20 [(1, .func (.func 97) #[] #[]), (2, pt z), (6, .slice aL xs.length cL), (9, i6 (n3 : Int)), (10, i6 (i : Int))] [] ⟨w, n5, [(old F w), (rdC pr F b ati 0), (qe8z_0 z pr), (rowL z 101 2 TPort.cells (.slice aL xs.length cL) xs)]⟩ a w') (n3 - 0) ?_ ?_
   · intro a w' hs; exact ⟨w2.heap.size, 0, ([]), (at0 + 1), none, 0, rfl, Nat.le_refl _, Nat.zero_le _, rfl, hs⟩
   · rintro m a w' ⟨n5, i, xs, ati, aL, cL, rfl, hn4, hki, hm, hs⟩
     refine (?_ : G Try.prog 20 [(1, .func (.func 97) #[] #[]), (2, pt z), (6, .slice aL xs.length cL), (9, i6 (n3 : Int)), (10, i6 (i : Int))] [] ⟨w, n5, [(old F w), (rdC pr F b ati 0), (qe8z_0 z pr), (rowL z 101 2 TPort.cells (.slice aL xs.length cL) xs)]⟩ _ _ _) a w' hs
     clear hs a w'
     have hxl := many_len hm
     refine g_seq ?_
     by_cases h6 : ((i : Int) : Int) < (n3 : Int)
     · refine q_cS 10 3 [1] [[oT], [o0, o0, (a1 2)]] [BT (((i : Int) : Int) < (n3 : Int)), Qb z] [(1, .func (.func 97) #[] #[]), (2, pt z), (9, i6 (n3 : Int)), (10, i6 (i : Int)), (12, .slice aL xs.length cL), (13, .func (.func 97) #[] #[]), (14, .agg #[pt pr])] rfl ⟨bt (by omega), rfl, trivial⟩ ?_
       refine l_callX [] [] 97 #[.agg #[pt pr]] (some 15) trivial ?_
       intro w7 hw7
       have hlew7 := RdIs.le (hw7.at (i := 1) (c := (rdC pr F b ati 0)) rfl)
       refine (port_r w7 pr F b ati (hw7.at (i := 1) rfl)).mono ?_
       rintro e w11 (⟨x8, n9, hxw11, rfl, hRw11, hkw11⟩ | ⟨n10, hxw11, rfl, hkw11⟩)
       · have hrngw11 := portAt_rng hB hxw11
         obtain ⟨hnw11, hSw11⟩ := rd_set hw7 (i := 1) rfl hRw11 hkw11
         have hnw11' : n5 ≤ w11.heap.size := hnw11
         refine .inl ⟨_, _, rfl, hSw11, ?_⟩
         refine q_r 0 1 [] [[o0]] [] [(1, .func (.func 97) #[] #[]), (2, pt z), (9, i6 (n3 : Int)), (10, i6 (i : Int)), (12, .slice aL xs.length cL), (16, .slice (some ⟨w11.heap.size, 0, none⟩) 1 1)] ⟨w, w11.heap.size + 1, [(old F w), (rdC pr F b n9 0), (qe8z_0 z pr), (rowL z 101 2 TPort.cells (.slice aL xs.length cL) xs), (.blk w11.heap.size (.cells #[i6 x8.Channel, .bool x8.Source] 101 (0, 0)) true)]⟩ rfl trivial ?_
         refine l_push z 3 4 xs [(⟨x8.Channel, x8.Source⟩ : TPort)] TPort.cells 101 2 16 (.slice aL xs.length cL) w11.heap.size 1 1 #[i6 x8.Channel, .bool x8.Source] 101 (0, 0) true (some 17) (by simp only [List.length_cons, List.length_nil]; omega) (show z ≤ w11.heap.size + 1 by omega) (fun a12 cp13 n14 (hn15 : w11.heap.size + 1 ≤ n14) => ?_)
         refine q_rS 5 0 [] [[o0], [(ov (i6 ((i + 1 : Nat) : Int))), o0]] [Wr (((i : Int) : Int) + 1) (((i + 1 : Nat) : Int))] [(1, .func (.func 97) #[] #[]), (2, pt z), (9, i6 (n3 : Int)), (10, i6 ((i + 1 : Nat) : Int)), (6, .slice a12 ((xs ++ [(⟨x8.Channel, x8.Source⟩ : TPort)]).length) cp13)] rfl ⟨wrI, trivial⟩ ?_
         refine e_pick [0, 1, 2, 3] [(old F w), (rdC pr F b n9 0), (qe8z_0 z pr), (rowL z 101 2 TPort.cells (.slice a12 ((xs ++ [(⟨x8.Channel, x8.Source⟩ : TPort)]).length) cp13) (xs ++ [(⟨x8.Channel, x8.Source⟩ : TPort)]))] rfl rfl ?_
         refine e_keep [1, 2, 6, 9, 10] [(1, .func (.func 97) #[] #[]), (2, pt z), (6, .slice a12 ((xs ++ [(⟨x8.Channel, x8.Source⟩ : TPort)]).length) cp13), (9, i6 (n3 : Int)), (10, i6 ((i + 1 : Nat) : Int))] ?_
         refine e_inv (fun a w' hs => ⟨n3 - (i + 1), by omega, n14, (i + 1), (xs ++ [(⟨x8.Channel, x8.Source⟩ : TPort)]), n9, a12, cp13, rfl, by omega, by omega, many_step hm hxw11, hs⟩)
       · have hnw11 : n5 ≤ w11.heap.size := size_of hw7 hkw11
         have hSw11 := rd_drop hw7 [0, 2, 3] (i := 1) rfl rfl rfl rfl hkw11
         refine .inr ⟨_, _, rfl, hSw11, ?_⟩
         refine e_panicR ?_
         intro w16 hw16
         exact .inr ⟨_, list_no (by omega) hnn3 (by omega) hm hxw11, rfl, back0 hw16⟩
     · refine q_cS 15 0 [0] [[oF], [o0, o0]] [BF (((i : Int) : Int) < (n3 : Int))] [(4, .slice aL xs.length cL)] rfl ⟨bf (by omega), trivial⟩ ?_
       refine e_ret [] [] (.slice aL xs.length cL) trivial ?_
       intro w17 hw17
       have hrow := hw17.at (i := 3) (c := (rowL z 101 2 TPort.cells (.slice aL xs.length cL) xs)) rfl
       exact .inl ⟨xs, ati, _, _, list_ok (by omega) hnn3 (by omega) hm, rfl, hw17.at (i := 1) rfl, back0 hw17, hz ▸ hrow⟩
 · have hnw2 : z + 1 ≤ w2.heap.size := size_of hw1 hkw2
   have hSw2 := rd_drop hw1 [0, 2] (i := 1) rfl rfl rfl rfl hkw2
   refine .inr ⟨_, _, rfl, hSw2, ?_⟩
   refine e_panicR ?_
   intro w18 hw18
   exact .inr ⟨_, list_no0 (by omega), rfl, back0 hw18⟩
abbrev qi9p_0 (z : Nat) (pr : Nat) : Ch := bk z #[pt pr] 87
theorem takeC (w : World) (pr : Nat) (F : Nat → Prop) (b : List Int) (at0 : Nat) (hr : RdIs w pr F b at0 0) : Calls Try.prog 78 #[.agg #[.pointer (some ⟨pr, 0, none⟩)], .func (.func 79) #[] #[]] w fun e w' => LPost w pr F b (listAt b (chanAt b) at0) 74 3 TChannel.cells e w' := by
 obtain ⟨z, hz⟩ : ∃ z, z = w.heap.size := ⟨_, rfl⟩
 refine calls_G (args := [.agg #[pt pr], .func (.func 79) #[] #[]]) 20 ⟨w, z, [(old F w), (rdC pr F b at0 0)]⟩ Try.func78 rfl (by kernel_rfl) (by kernel_rfl) (hz ▸ sat_rdC hr) ?_
 have hB := hr.byt; have hlen := hr.len; have hat := hr.le
 refine g_keep [0, 1] [(0, .agg #[pt pr]), (1, .func (.func 79) #[] #[])] ?_
 refine q_c 6 1 [] [[o0, o0], [(a1 2)]] [Qb z] [(1, .func (.func 79) #[] #[]), (2, pt z), (7, .agg #[pt pr])] ⟨w, z + 1, [(old F w), (rdC pr F b at0 0), (qi9p_0 z pr)]⟩ rfl ⟨rfl, trivial⟩ ?_
 refine l_callX [] [] 88 #[.agg #[pt pr]] (some 8) trivial ?_
 intro w1 hw1
 have hlew1 := RdIs.le (hw1.at (i := 1) (c := (rdC pr F b at0 0)) rfl)
 refine (byte_r w1 pr F b at0 (hw1.at (i := 1) rfl)).mono ?_
 rintro e w2 (⟨hqw2, rfl, hRw2, hkw2⟩ | ⟨hqw2, rfl, hkw2⟩)
 · have hvbw2 := byt_gd hB at0
   obtain ⟨n3, hnn3⟩ : ∃ n : Nat, (gd b at0) = (n : Int) := ⟨_, (Int.toNat_of_nonneg hvbw2.1).symm⟩; rw [hnn3]
   obtain ⟨hnw2, hSw2⟩ := rd_set hw1 (i := 1) rfl hRw2 hkw2
   have hnw2' : z + 1 ≤ w2.heap.size := hnw2
   refine .inl ⟨_, _, rfl, hSw2, ?_⟩
   refine q_rS 12 0 [] [[o0], [o0], [o0, o0]] [] [(1, .func (.func 79) #[] #[]), (2, pt z), (6, .slice none 0 0), (9, i6 (n3 : Int)), (10, i6 0)] rfl trivial ?_
   refine g_rowL z 74 3 TChannel.cells ?_
   refine g_loop (fun m a w' => ∃ (n5 : Nat) (i : Nat) (xs : List TChannel) (ati : Nat) (aL : Option Addr) (cL : Nat), m = n3 - i ∧ w2.heap.size ≤ n5 ∧ (i ≤ n3) ∧ (many (chanAt b) i (at0 + 1) = .ok xs ati) ∧ St 20 [(1, .func (.func 79) #[] #[]), (2, pt z), (6, .slice aL xs.length cL), (9, i6 (n3 : Int)), (10, i6 (i : Int))] [] ⟨w, n5, [(old F w), (rdC pr F b ati 0), (qi9p_0 z pr), (rowL z 74 3 TChannel.cells (.slice aL xs.length cL) xs)]⟩ a w') (n3 - 0) ?_ ?_
   · intro a w' hs; exact ⟨w2.heap.size, 0, ([]), (at0 + 1), none, 0, rfl, Nat.le_refl _, Nat.zero_le _, rfl, hs⟩
   · rintro m a w' ⟨n5, i, xs, ati, aL, cL, rfl, hn4, hki, hm, hs⟩
     refine (?_ : G Try.prog 20 [(1, .func (.func 79) #[] #[]), (2, pt z), (6, .slice aL xs.length cL), (9, i6 (n3 : Int)), (10, i6 (i : Int))] [] ⟨w, n5, [(old F w), (rdC pr F b ati 0), (qi9p_0 z pr), (rowL z 74 3 TChannel.cells (.slice aL xs.length cL) xs)]⟩ _ _ _) a w' hs
     clear hs a w'
     have hxl := many_len hm
     refine g_seq ?_
     by_cases h6 : ((i : Int) : Int) < (n3 : Int)
     · refine q_cS 10 3 [1] [[oT], [o0, o0, (a1 2)]] [BT (((i : Int) : Int) < (n3 : Int)), Qb z] [(1, .func (.func 79) #[] #[]), (2, pt z), (9, i6 (n3 : Int)), (10, i6 (i : Int)), (12, .slice aL xs.length cL), (13, .func (.func 79) #[] #[]), (14, .agg #[pt pr])] rfl ⟨bt (by omega), rfl, trivial⟩ ?_
       refine l_callX [] [] 79 #[.agg #[pt pr]] (some 15) trivial ?_
       intro w7 hw7
       have hlew7 := RdIs.le (hw7.at (i := 1) (c := (rdC pr F b ati 0)) rfl)
       refine (channel_r w7 pr F b ati (hw7.at (i := 1) rfl)).mono ?_
       rintro e w11 (⟨x8, n9, hxw11, rfl, hRw11, hkw11⟩ | ⟨n10, hxw11, rfl, hkw11⟩)
       · have hrngw11 := chanAt_rng hB hxw11
         obtain ⟨hnw11, hSw11⟩ := rd_set hw7 (i := 1) rfl hRw11 hkw11
         have hnw11' : n5 ≤ w11.heap.size := hnw11
         refine .inl ⟨_, _, rfl, hSw11, ?_⟩
         refine q_r 0 1 [] [[o0]] [] [(1, .func (.func 79) #[] #[]), (2, pt z), (9, i6 (n3 : Int)), (10, i6 (i : Int)), (12, .slice aL xs.length cL), (16, .slice (some ⟨w11.heap.size, 0, none⟩) 1 1)] ⟨w, w11.heap.size + 1, [(old F w), (rdC pr F b n9 0), (qi9p_0 z pr), (rowL z 74 3 TChannel.cells (.slice aL xs.length cL) xs), (.blk w11.heap.size (.cells #[i6 x8.Kind, i6 x8.Words, i6 x8.Depth] 74 (0, 0)) true)]⟩ rfl trivial ?_
         refine l_push z 3 4 xs [(⟨x8.Kind, x8.Words, x8.Depth⟩ : TChannel)] TChannel.cells 74 3 24 (.slice aL xs.length cL) w11.heap.size 1 1 #[i6 x8.Kind, i6 x8.Words, i6 x8.Depth] 74 (0, 0) true (some 17) (by simp only [List.length_cons, List.length_nil]; omega) (show z ≤ w11.heap.size + 1 by omega) (fun a12 cp13 n14 (hn15 : w11.heap.size + 1 ≤ n14) => ?_)
         refine q_rS 5 0 [] [[o0], [(ov (i6 ((i + 1 : Nat) : Int))), o0]] [Wr (((i : Int) : Int) + 1) (((i + 1 : Nat) : Int))] [(1, .func (.func 79) #[] #[]), (2, pt z), (9, i6 (n3 : Int)), (10, i6 ((i + 1 : Nat) : Int)), (6, .slice a12 ((xs ++ [(⟨x8.Kind, x8.Words, x8.Depth⟩ : TChannel)]).length) cp13)] rfl ⟨wrI, trivial⟩ ?_
         refine e_pick [0, 1, 2, 3] [(old F w), (rdC pr F b n9 0), (qi9p_0 z pr), (rowL z 74 3 TChannel.cells (.slice a12 ((xs ++ [(⟨x8.Kind, x8.Words, x8.Depth⟩ : TChannel)]).length) cp13) (xs ++ [(⟨x8.Kind, x8.Words, x8.Depth⟩ : TChannel)]))] rfl rfl ?_
         refine e_keep [1, 2, 6, 9, 10] [(1, .func (.func 79) #[] #[]), (2, pt z), (6, .slice a12 ((xs ++ [(⟨x8.Kind, x8.Words, x8.Depth⟩ : TChannel)]).length) cp13), (9, i6 (n3 : Int)), (10, i6 ((i + 1 : Nat) : Int))] ?_
         refine e_inv (fun a w' hs => ⟨n3 - (i + 1), by omega, n14, (i + 1), (xs ++ [(⟨x8.Kind, x8.Words, x8.Depth⟩ : TChannel)]), n9, a12, cp13, rfl, by omega, by omega, many_step hm hxw11, hs⟩)
       · have hnw11 : n5 ≤ w11.heap.size := size_of hw7 hkw11
         have hSw11 := rd_drop hw7 [0, 2, 3] (i := 1) rfl rfl rfl rfl hkw11
         refine .inr ⟨_, _, rfl, hSw11, ?_⟩
         refine e_panicR ?_
         intro w16 hw16
         exact .inr ⟨_, list_no (by omega) hnn3 (by omega) hm hxw11, rfl, back0 hw16⟩
     · refine q_cS 15 0 [0] [[oF], [o0, o0]] [BF (((i : Int) : Int) < (n3 : Int))] [(4, .slice aL xs.length cL)] rfl ⟨bf (by omega), trivial⟩ ?_
       refine e_ret [] [] (.slice aL xs.length cL) trivial ?_
       intro w17 hw17
       have hrow := hw17.at (i := 3) (c := (rowL z 74 3 TChannel.cells (.slice aL xs.length cL) xs)) rfl
       exact .inl ⟨xs, ati, _, _, list_ok (by omega) hnn3 (by omega) hm, rfl, hw17.at (i := 1) rfl, back0 hw17, hz ▸ hrow⟩
 · have hnw2 : z + 1 ≤ w2.heap.size := size_of hw1 hkw2
   have hSw2 := rd_drop hw1 [0, 2] (i := 1) rfl rfl rfl rfl hkw2
   refine .inr ⟨_, _, rfl, hSw2, ?_⟩
   refine e_panicR ?_
   intro w18 hw18
   exact .inr ⟨_, list_no0 (by omega), rfl, back0 hw18⟩
theorem core_r (w : World) (pr : Nat) (F : Nat → Prop) (b : List Int) (at0 : Nat) (hr : RdIs w pr F b at0 0) : Calls Try.prog 75 #[.agg #[.pointer (some ⟨pr, 0, none⟩)]] w fun e w' => LPost w pr F b (listAt b (winAt b) at0) 97 3 TWindow.cells e w' := by
 obtain ⟨z, hz⟩ : ∃ z, z = w.heap.size := ⟨_, rfl⟩
 refine calls_G (args := [.agg #[pt pr]]) 5 ⟨w, z, [(old F w), (rdC pr F b at0 0)]⟩ Try.func75 rfl (by kernel_rfl) (by kernel_rfl) (hz ▸ sat_rdC hr) ?_
 have hB := hr.byt; have hlen := hr.len; have hat := hr.le
 refine g_keep [0] [(0, .agg #[pt pr])] ?_
 refine q_c 6 1 [] [[o0, o0], [(a1 2)]] [Qb z] [(3, .agg #[pt pr])] ⟨w, z + 1, [(old F w), (rdC pr F b at0 0), (bk z #[pt pr] 87)]⟩ rfl ⟨rfl, trivial⟩ ?_
 refine l_callX [] [] 89 #[.agg #[pt pr], .func (.func 90) #[] #[]] (some 4) trivial ?_
 intro w1 hw1
 have hlew1 := RdIs.le (hw1.at (i := 1) (c := (rdC pr F b at0 0)) rfl)
 refine (takeW w1 pr F b at0 (hw1.at (i := 1) rfl)).mono ?_
 rintro e w7 (⟨x2, n3, a5, cp6, hxw7, rfl, hRw7, hkw7, how7⟩ | ⟨n4, hxw7, rfl, hkw7⟩)
 · obtain ⟨hnw7, hSw7⟩ := rd_row hw1 (i := 1) rfl hRw7 hkw7 how7 z (show z ≤ z + 1 by omega)
   have hnw7' : z + 1 ≤ w7.heap.size := hnw7
   have hllw7 := (list_of hB hxw7).1
   refine .inl ⟨_, _, rfl, hSw7, ?_⟩
   refine q_rS 3 0 [] [[o0]] [] [(2, .slice a5 x2.length cp6)] rfl trivial ?_
   refine e_ret [] [] (.slice a5 x2.length cp6) trivial ?_
   intro w8 hw8
   have hrow := hw8.at (i := 3) (c := (rowL z 97 3 TWindow.cells (.slice a5 x2.length cp6) x2)) rfl
   exact .inl ⟨_, _, _, _, hxw7, rfl, hw8.at (i := 1) rfl, back0 hw8, hz ▸ hrow⟩
 · have hnw7 : z + 1 ≤ w7.heap.size := size_of hw1 hkw7
   have hSw7 := rd_drop hw1 [0, 2] (i := 1) rfl rfl rfl rfl hkw7
   refine .inr ⟨_, _, rfl, hSw7, ?_⟩
   refine e_panicR ?_
   intro w9 hw9
   exact .inr ⟨_, hxw7, rfl, back0 hw9⟩

end Go.Proofs.Ytmmkacfeocnblaa.Ly
