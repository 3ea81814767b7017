/- ConfWrites. No conditions. -/
import Derived.Test.YtmmkacfeocnblaaXd
import Derived.Test.YtmmkacfeocnblaaYk
namespace Go.Proofs.Ytmmkacfeocnblaa.Ly
open Go Go.Proofs.Ytmmkacfeocnblaa.Eng Go.Proofs.Ytmmkacfeocnblaa.Mem
set_option linter.unusedSimpArgs false
set_option linter.unusedVariables false
set_option maxRecDepth 100000

theorem Byt.app {xs ys : List Int} (h : Byt xs) (k : Byt ys) : Byt (xs ++ ys) := fun x hx => (List.mem_append.1 hx).elim (h x) (k x)
theorem Byt.flat {α : Type} [Inhabited α] {enc : α → List Int} {xs : List α} (h : ∀ q, q < xs.length → Byt (enc (gd xs q))) : Byt (xs.flatMap enc) := by
  intro x hx
  obtain ⟨y, hy, hxy⟩ := List.mem_flatMap.1 hx
  obtain ⟨i, hi, rfl⟩ := List.getElem_of_mem hy
  exact h i hi x (by rw [gd_eq hi]; exact hxy)
theorem leB_byt (n : Int) (k : Nat) : Byt (leB n k) := by
  intro x hx
  obtain ⟨i, -, rfl⟩ := List.mem_map.1 hx
  omega
theorem strB_byt (t : ByteArray) : Byt (strB t) := by
  intro x hx
  obtain ⟨b, -, rfl⟩ := List.mem_map.1 hx
  have := b.toNat_lt
  omega
theorem one_byt {n : Int} (h0 : 0 ≤ n) (h1 : n < 256) : Byt [n] := by
  intro x hx
  simp only [List.mem_singleton] at hx
  subst hx; exact ⟨h0, h1⟩
theorem nil_byt : Byt [] := fun x hx => by cases hx
theorem lst_byt {α : Type} [Inhabited α] {enc : α → List Int} {xs : List α} (hl : xs.length ≤ 255) (h : ∀ q, q < xs.length → Byt (enc (gd xs q))) : Byt (encLst enc xs) := (one_byt (by omega) (by omega)).app (Byt.flat h)
theorem encW_byt (x : TWindow) : Byt (encW x) := ((leB_byt _ _).app (leB_byt _ _)).app (leB_byt _ _)
theorem encR_byt (x : TRegion) : Byt (encR x) := (((leB_byt _ _).app (leB_byt _ _)).app (leB_byt _ _)).app (leB_byt _ _)
theorem encC_byt (x : TChannel) : Byt (encC x) := ((leB_byt _ _).app (leB_byt _ _)).app (leB_byt _ _)
theorem encP_byt (x : TPort) : Byt (encP x) := by
  unfold encP
  refine (leB_byt _ _).app ?_
  split
  · exact one_byt (by omega) (by omega)
  · exact one_byt (by omega) (by omega)
theorem encPt_byt {x : TPartition} (h : okPt x = true) : Byt (encPt x) := by
  obtain ⟨-, -, -, -, -, -, h1, h2, -, -⟩ := okPt_has h
  refine ((Byt.app (Byt.app ((leB_byt _ _).app (strB_byt _)) ?_) (lst_byt h1 (fun q _ => encR_byt _))).app (lst_byt h2 (fun q _ => encP_byt _)))
  exact Byt.flat (fun q _ => leB_byt _ _)
theorem encB_byt {c : TConfig} (h : okCf c = true) : Byt (encB c) := by
  obtain ⟨-, h1, h2, h3⟩ := okCf_has h
  obtain ⟨l1, a1⟩ := lst_at h1
  obtain ⟨l2, a2⟩ := lst_at h2
  obtain ⟨l3, -⟩ := lst_at h3
  refine Byt.app ?_ (leB_byt _ _)
  unfold formB
  exact ((Byt.app (Byt.app ((leB_byt _ _).app (Byt.flat (enc := fun n => leB n 4) (fun q _ => leB_byt _ _))) (lst_byt l1 (fun q hq => lst_byt (lst_at (a1 q hq)).1 (fun r _ => encW_byt _)))) (lst_byt l2 (fun q hq => encPt_byt (a2 q hq)))).app (lst_byt l3 (fun q _ => encC_byt _)))
theorem nil_sl (w : World) : SlAt u8c 1 Any w ⟨none, 0, []⟩ := ⟨Nat.zero_le _, Nat.zero_le _, fun h => absurd rfl h⟩

theorem encode_A (w : World) (c : TConfig) (hc : TConfig.ok Any w c) (h1 : okCf c = true) (h2 : (encB c).length ≤ 16384) : Calls Try.prog 11 #[.agg (TConfig.arr c)] w fun e w' => ∃ a cap, e = .returned (.tuple #[.slice a (encB c).length cap, .int .i64 0]) ∧ w'.ownsRow w.heap.size 5 1 (.slice a (encB c).length cap) (encB c).length ((encB c).flatMap u8c) ∧ Keeps (fun _ => False) w w' := by
  refine (encode_calls w c hc).mono ?_
  rintro e w' ⟨⟨-, -, a, cap, he, ho⟩ | ⟨-, h, -⟩ | ⟨h, -⟩, hk⟩
  · exact ⟨a, cap, he, ho, hk⟩
  · omega
  · rw [h1] at h; cases h
theorem encode_B (w : World) (c : TConfig) (hc : TConfig.ok Any w c) (h1 : okCf c = true) (h2 : 16384 < (encB c).length) : Calls Try.prog 11 #[.agg (TConfig.arr c)] w fun e w' => e = .returned (.tuple #[.slice none 0 0, .int .i64 2]) ∧ Keeps (fun _ => False) w w' := by
  refine (encode_calls w c hc).mono ?_
  rintro e w' ⟨⟨-, h, -⟩ | ⟨-, -, he⟩ | ⟨h, -⟩, hk⟩
  · omega
  · exact ⟨he, hk⟩
  · rw [h1] at h; cases h
theorem encode_C (w : World) (c : TConfig) (hc : TConfig.ok Any w c) (h1 : okCf c = false) : Calls Try.prog 11 #[.agg (TConfig.arr c)] w fun e w' => e = .returned (.tuple #[.slice none 0 0, .int .i64 112]) ∧ Keeps (fun _ => False) w w' := by
  refine (encode_calls w c hc).mono ?_
  rintro e w' ⟨⟨h, -⟩ | ⟨h, -⟩ | ⟨-, he⟩, hk⟩
  · rw [h1] at h; cases h
  · rw [h1] at h; cases h
  · exact ⟨he, hk⟩

theorem rencode_A (w : World) (c : TConfig) (hc : TConfig.ok Any w c) (h1 : okCf c = true) (h2 : (encB c).length ≤ 16384) : Calls Try.prog 12 #[.agg (TConfig.arr c)] w fun e w' => ∃ a cap, e = .returned (.tuple #[.slice a (encB c).length cap, .int .i64 0]) ∧ w'.ownsRow w.heap.size 5 1 (.slice a (encB c).length cap) (encB c).length ((encB c).flatMap u8c) ∧ Keeps (fun _ => False) w w' := by
  refine (rencode_calls w c hc).mono ?_
  rintro e w' ⟨⟨-, -, a, cap, he, ho⟩ | ⟨-, h, -⟩ | ⟨h, -⟩, hk⟩
  · exact ⟨a, cap, he, ho, hk⟩
  · omega
  · rw [h1] at h; cases h
theorem rencode_B (w : World) (c : TConfig) (hc : TConfig.ok Any w c) (h1 : okCf c = true) (h2 : 16384 < (encB c).length) : Calls Try.prog 12 #[.agg (TConfig.arr c)] w fun e w' => e = .returned (.tuple #[.slice none 0 0, .int .i64 2]) ∧ Keeps (fun _ => False) w w' := by
  refine (rencode_calls w c hc).mono ?_
  rintro e w' ⟨⟨-, h, -⟩ | ⟨-, -, he⟩ | ⟨h, -⟩, hk⟩
  · omega
  · exact ⟨he, hk⟩
  · rw [h1] at h; cases h
theorem rencode_C (w : World) (c : TConfig) (hc : TConfig.ok Any w c) (h1 : okCf c = false) : Calls Try.prog 12 #[.agg (TConfig.arr c)] w fun e w' => e = .returned (.tuple #[.slice none 0 0, .int .i64 112]) ∧ Keeps (fun _ => False) w w' := by
  refine (rencode_calls w c hc).mono ?_
  rintro e w' ⟨⟨h, -⟩ | ⟨h, -⟩ | ⟨-, he⟩, hk⟩
  · rw [h1] at h; cases h
  · rw [h1] at h; cases h
  · exact ⟨he, hk⟩
theorem sameb_calls (w : World) (la lb : Sl Int) (ha : SlAt u8c 1 Any w la) (hb : SlAt u8c 1 Any w lb) (hra : Byt la.xs) (hrb : Byt lb.xs) : Calls Try.prog 13 #[.slice la.a la.xs.length la.cap, .slice lb.a lb.xs.length lb.cap] w fun e w' => e = .returned (.bool (decide (la.xs = lb.xs))) ∧ Keeps (fun _ => False) w w' := by
 obtain ⟨z, hz⟩ : ∃ z, z = w.heap.size := ⟨_, rfl⟩
 refine calls_G (args := [.slice la.a la.xs.length la.cap, .slice lb.a lb.xs.length lb.cap]) 10 ⟨w, z, [(old0 w)]⟩ Try.func13 rfl (by kernel_rfl) (by kernel_rfl) (sat_0 hz) ?_
 refine g_keep [0, 1] [(0, .slice la.a la.xs.length la.cap), (1, .slice lb.a lb.xs.length lb.cap)] ?_
 refine q_cS 6 1 [] [[o0], [o0]] [] [(1, .slice lb.a lb.xs.length lb.cap), (5, .slice la.a la.xs.length la.cap)] rfl trivial ?_
 refine l_toStr 0 la.xs la.a la.xs.length la.cap (old0 w) (some 6) hra (fun w' hw => sl_mono (fun b k v _ hv => old_cell' hv w' hw) (fun _ h => h) ha) ?_
 refine q_rS 0 1 [] [[o0]] [] [(6, .string (strOf la.xs)), (7, .slice lb.a lb.xs.length lb.cap)] rfl trivial ?_
 refine l_toStr 0 lb.xs lb.a lb.xs.length lb.cap (old0 w) (some 8) hrb (fun w' hw => sl_mono (fun b k v _ hv => old_cell' hv w' hw) (fun _ h => h) hb) ?_
 refine l_keep [6, 8] [(6, .string (strOf la.xs)), (8, .string (strOf lb.xs))] ?_
 by_cases h1 : (strOf la.xs).toList = (strOf lb.xs).toList
 · refine q_rS 3 0 [] [[(ov (.bool true)), o0]] [Value.bool (((strOf la.xs).toList == (strOf lb.xs).toList)) = Value.bool true] [(4, .bool true)] rfl ⟨congrArg (fun t => Value.bool (t)) (beq_iff_eq.2 h1), trivial⟩ ?_
   refine e_ret [] [] (.bool true) trivial ?_
   intro w2 hw2
   exact ⟨congrArg (fun b => Ending.returned (Value.bool b)) (Eq.symm (decide_eq_true (strOf_inj hra hrb h1))), back0 hw2⟩
 · refine q_rS 3 0 [] [[(ov (.bool false)), o0]] [Value.bool (((strOf la.xs).toList == (strOf lb.xs).toList)) = Value.bool false] [(4, .bool false)] rfl ⟨congrArg (fun t => Value.bool (t)) (beq_eq_false_iff_ne.2 h1), trivial⟩ ?_
   refine e_ret [] [] (.bool false) trivial ?_
   intro w3 hw3
   exact ⟨congrArg (fun b => Ending.returned (Value.bool b)) (Eq.symm (decide_eq_false (fun e => h1 (by rw [e])))), back0 hw3⟩

theorem sameb_yes (w : World) (la lb : Sl Int) (ha : SlAt u8c 1 Any w la) (hb : SlAt u8c 1 Any w lb) (hra : Byt la.xs) (hrb : Byt lb.xs) (h : la.xs = lb.xs) : Calls Try.prog 13 #[.slice la.a la.xs.length la.cap, .slice lb.a lb.xs.length lb.cap] w fun e w' => e = .returned (.bool true) ∧ Keeps (fun _ => False) w w' := by
  have := sameb_calls w la lb ha hb hra hrb
  rw [decide_eq_true h] at this
  exact this
theorem writes_A (w : World) (c : TConfig) (hc : TConfig.ok Any w c) (hk1 : okCf c = true) (hk2 : (encB c).length ≤ 16384) : Calls Try.prog 3 #[.agg (TConfig.arr c)] w fun e w' => e = .returned (.bool true) ∧ Keeps (fun _ => False) w w' := by
 obtain ⟨z, hz⟩ : ∃ z, z = w.heap.size := ⟨_, rfl⟩
 refine calls_G (args := [.agg (TConfig.arr c)]) 25 ⟨w, z, [(old0 w)]⟩ Try.func3 rfl (by kernel_rfl) (by kernel_rfl) (sat_0 hz) ?_
 refine g_keep [0] [(0, .agg (TConfig.arr c))] ?_
 refine q_c 6 1 [] [[o0, o0], [(an 7 1)]] [Qb z, Qb z, Qb z, Qb z, Qb z, Qb z, Qb z] [(1, pt z), (8, .agg (TConfig.arr c))] ⟨w, z + 1, [(old0 w), (bk z (TConfig.arr c) 26)]⟩ rfl ⟨rfl, rfl, rfl, rfl, rfl, rfl, rfl, trivial⟩ ?_
 refine l_call [] [] 11 #[.agg (TConfig.arr c)] (some 9) trivial ?_
 intro w1 hw1
 refine (encode_A w1 c (hc.ext (hw1.ext rfl) (fun _ h => h)) hk1 hk2).mono ?_
 rintro e w2 ⟨a3, cp4, rfl, how2, hkw2⟩
 have hnw2 : z + 1 ≤ w2.heap.size := size_of hw1 hkw2
 rw [hw1.size] at how2
 refine ⟨_, _, rfl, hw1.keeps1 hkw2 (rowL (z + 1) 5 1 u8c (.slice a3 ((encB c).length) cp4) (encB c)) how2 (row_stable _ _ _ _ _ _) (fun b hb => how2.lt b hb), ?_⟩
 refine q_rS 4 1 [] [[o0, o0, o0, o0, o0], [(an 7 1)]] [Qb z, Qb z, Qb z, Qb z, Qb z, Qb z, Qb z] [(3, .slice a3 ((encB c).length) cp4), (4, i6 0), (13, .agg (TConfig.arr c))] rfl ⟨rfl, rfl, rfl, rfl, rfl, rfl, rfl, trivial⟩ ?_
 refine l_call [] [] 12 #[.agg (TConfig.arr c)] (some 14) trivial ?_
 intro w5 hw5
 refine (rencode_A w5 c (hc.ext (hw5.ext rfl) (fun _ h => h)) hk1 hk2).mono ?_
 rintro e w6 ⟨a7, cp8, rfl, how6, hkw6⟩
 have hnw6 : w2.heap.size ≤ w6.heap.size := size_of hw5 hkw6
 rw [hw5.size] at how6
 refine ⟨_, _, rfl, hw5.keeps1 hkw6 (rowL w2.heap.size 5 1 u8c (.slice a7 ((encB c).length) cp8) (encB c)) how6 (row_stable _ _ _ _ _ _) (fun b hb => how6.lt b hb), ?_⟩
 refine q_rS 4 6 [] [[o0, o0, o0, o0, o0], [o0, o0, o0, o0, o0, o0]] [] [(20, .bool true), (21, .slice a3 ((encB c).length) cp4), (22, .slice a7 ((encB c).length) cp8)] rfl trivial ?_
 refine l_call [] [] 13 #[.slice a3 ((encB c).length) cp4, .slice a7 ((encB c).length) cp8] (some 23) trivial ?_
 intro w9 hw9
 refine (sameb_yes w9 ⟨a3, cp4, (encB c)⟩ ⟨a7, cp8, (encB c)⟩ (rowU_any hw9 (i := 2) rfl (by omega)) (rowU_any hw9 (i := 3) rfl (by omega)) (encB_byt hk1) (encB_byt hk1) rfl).mono ?_
 rintro e w10 ⟨rfl, hkw10⟩
 have hnw10 : w6.heap.size ≤ w10.heap.size := size_of hw9 hkw10
 refine ⟨_, _, rfl, hw9.keeps hkw10, ?_⟩
 refine q_rS 3 0 [] [[o0, o0]] [] [(2, .bool true)] rfl trivial ?_
 refine e_ret [] [] (.bool true) trivial ?_
 intro w11 hw11
 exact ⟨rfl, back0 hw11⟩
theorem writes_B (w : World) (c : TConfig) (hc : TConfig.ok Any w c) (hk1 : okCf c = true) (hk2 : 16384 < (encB c).length) : Calls Try.prog 3 #[.agg (TConfig.arr c)] w fun e w' => e = .returned (.bool true) ∧ Keeps (fun _ => False) w w' := by
 obtain ⟨z, hz⟩ : ∃ z, z = w.heap.size := ⟨_, rfl⟩
 refine calls_G (args := [.agg (TConfig.arr c)]) 25 ⟨w, z, [(old0 w)]⟩ Try.func3 rfl (by kernel_rfl) (by kernel_rfl) (sat_0 hz) ?_
 refine g_keep [0] [(0, .agg (TConfig.arr c))] ?_
 refine q_c 6 1 [] [[o0, o0], [(an 7 1)]] [Qb z, Qb z, Qb z, Qb z, Qb z, Qb z, Qb z] [(1, pt z), (8, .agg (TConfig.arr c))] ⟨w, z + 1, [(old0 w), (bk z (TConfig.arr c) 26)]⟩ rfl ⟨rfl, rfl, rfl, rfl, rfl, rfl, rfl, trivial⟩ ?_
 refine l_call [] [] 11 #[.agg (TConfig.arr c)] (some 9) trivial ?_
 intro w1 hw1
 refine (encode_B w1 c (hc.ext (hw1.ext rfl) (fun _ h => h)) hk1 hk2).mono ?_
 rintro e w2 ⟨rfl, hkw2⟩
 have hnw2 : z + 1 ≤ w2.heap.size := size_of hw1 hkw2
 refine ⟨_, _, rfl, hw1.keeps hkw2, ?_⟩
 refine q_rS 4 1 [] [[o0, o0, o0, o0, o0], [(an 7 1)]] [Qb z, Qb z, Qb z, Qb z, Qb z, Qb z, Qb z] [(3, .slice none 0 0), (4, i6 2), (13, .agg (TConfig.arr c))] rfl ⟨rfl, rfl, rfl, rfl, rfl, rfl, rfl, trivial⟩ ?_
 refine l_call [] [] 12 #[.agg (TConfig.arr c)] (some 14) trivial ?_
 intro w3 hw3
 refine (rencode_B w3 c (hc.ext (hw3.ext rfl) (fun _ h => h)) hk1 hk2).mono ?_
 rintro e w4 ⟨rfl, hkw4⟩
 have hnw4 : w2.heap.size ≤ w4.heap.size := size_of hw3 hkw4
 refine ⟨_, _, rfl, hw3.keeps hkw4, ?_⟩
 refine q_rS 4 6 [] [[o0, o0, o0, o0, o0], [o0, o0, o0, o0, o0, o0]] [] [(20, .bool true), (21, .slice none 0 0), (22, .slice none 0 0)] rfl trivial ?_
 refine l_call [] [] 13 #[.slice none 0 0, .slice none 0 0] (some 23) trivial ?_
 intro w5 hw5
 refine (sameb_yes w5 ⟨none, 0, []⟩ ⟨none, 0, []⟩ (nil_sl w5) (nil_sl w5) nil_byt nil_byt rfl).mono ?_
 rintro e w6 ⟨rfl, hkw6⟩
 have hnw6 : w4.heap.size ≤ w6.heap.size := size_of hw5 hkw6
 refine ⟨_, _, rfl, hw5.keeps hkw6, ?_⟩
 refine q_rS 3 0 [] [[o0, o0]] [] [(2, .bool true)] rfl trivial ?_
 refine e_ret [] [] (.bool true) trivial ?_
 intro w7 hw7
 exact ⟨rfl, back0 hw7⟩
theorem writes_C (w : World) (c : TConfig) (hc : TConfig.ok Any w c) (hk1 : okCf c = false) : Calls Try.prog 3 #[.agg (TConfig.arr c)] w fun e w' => e = .returned (.bool true) ∧ Keeps (fun _ => False) w w' := by
 obtain ⟨z, hz⟩ : ∃ z, z = w.heap.size := ⟨_, rfl⟩
 refine calls_G (args := [.agg (TConfig.arr c)]) 25 ⟨w, z, [(old0 w)]⟩ Try.func3 rfl (by kernel_rfl) (by kernel_rfl) (sat_0 hz) ?_
 refine g_keep [0] [(0, .agg (TConfig.arr c))] ?_
 refine q_c 6 1 [] [[o0, o0], [(an 7 1)]] [Qb z, Qb z, Qb z, Qb z, Qb z, Qb z, Qb z] [(1, pt z), (8, .agg (TConfig.arr c))] ⟨w, z + 1, [(old0 w), (bk z (TConfig.arr c) 26)]⟩ rfl ⟨rfl, rfl, rfl, rfl, rfl, rfl, rfl, trivial⟩ ?_
 refine l_call [] [] 11 #[.agg (TConfig.arr c)] (some 9) trivial ?_
 intro w1 hw1
 refine (encode_C w1 c (hc.ext (hw1.ext rfl) (fun _ h => h)) hk1).mono ?_
 rintro e w2 ⟨rfl, hkw2⟩
 have hnw2 : z + 1 ≤ w2.heap.size := size_of hw1 hkw2
 refine ⟨_, _, rfl, hw1.keeps hkw2, ?_⟩
 refine q_rS 4 1 [] [[o0, o0, o0, o0, o0], [(an 7 1)]] [Qb z, Qb z, Qb z, Qb z, Qb z, Qb z, Qb z] [(3, .slice none 0 0), (4, i6 112), (13, .agg (TConfig.arr c))] rfl ⟨rfl, rfl, rfl, rfl, rfl, rfl, rfl, trivial⟩ ?_
 refine l_call [] [] 12 #[.agg (TConfig.arr c)] (some 14) trivial ?_
 intro w3 hw3
 refine (rencode_C w3 c (hc.ext (hw3.ext rfl) (fun _ h => h)) hk1).mono ?_
 rintro e w4 ⟨rfl, hkw4⟩
 have hnw4 : w2.heap.size ≤ w4.heap.size := size_of hw3 hkw4
 refine ⟨_, _, rfl, hw3.keeps hkw4, ?_⟩
 refine q_rS 4 6 [] [[o0, o0, o0, o0, o0], [o0, o0, o0, o0, o0, o0]] [] [(20, .bool true), (21, .slice none 0 0), (22, .slice none 0 0)] rfl trivial ?_
 refine l_call [] [] 13 #[.slice none 0 0, .slice none 0 0] (some 23) trivial ?_
 intro w5 hw5
 refine (sameb_yes w5 ⟨none, 0, []⟩ ⟨none, 0, []⟩ (nil_sl w5) (nil_sl w5) nil_byt nil_byt rfl).mono ?_
 rintro e w6 ⟨rfl, hkw6⟩
 have hnw6 : w4.heap.size ≤ w6.heap.size := size_of hw5 hkw6
 refine ⟨_, _, rfl, hw5.keeps hkw6, ?_⟩
 refine q_rS 3 0 [] [[o0, o0]] [] [(2, .bool true)] rfl trivial ?_
 refine e_ret [] [] (.bool true) trivial ?_
 intro w7 hw7
 exact ⟨rfl, back0 hw7⟩

theorem writes_calls (w : World) (c : TConfig) (hc : TConfig.ok Any w c) : Calls Try.prog 3 #[.agg (TConfig.arr c)] w fun e w' => e = .returned (.bool true) ∧ Keeps (fun _ => False) w w' := by
  by_cases h1 : okCf c = true
  · by_cases h2 : (encB c).length ≤ 16384
    · exact writes_A w c hc h1 h2
    · exact writes_B w c hc h1 (by omega)
  · exact writes_C w c hc (Bool.eq_false_iff.2 h1)

end Go.Proofs.Ytmmkacfeocnblaa.Ly
