/- ConfWrites. No conditions. -/
import Derived.Test.YtmmkacfeocnblaaXd
namespace Go.Proofs.Ytmmkacfeocnblaa.Ly
open Go Go.Proofs.Ytmmkacfeocnblaa.Eng Go.Proofs.Ytmmkacfeocnblaa.Mem
set_option linter.unusedSimpArgs false
set_option linter.unusedVariables false
set_option maxRecDepth 100000

def Byt (xs : List Int) : Prop := ∀ x ∈ xs, 0 ≤ x ∧ x < 256
theorem Byt.app {xs ys : List Int} (h : Byt xs) (k : Byt ys) : Byt (xs ++ ys) := fun x hx => (List.mem_append.1 hx).elim (h x) (k x)
theorem Byt.flat {α : Type} [Inhabited α] {enc : α → List Int} {xs : List α} (h : ∀ q, q < xs.length → Byt (enc (gd xs q))) : Byt (xs.flatMap enc) := by
  intro x hx
  obtain ⟨y, hy, hxy⟩ := List.mem_flatMap.1 hx
  obtain ⟨i, hi, rfl⟩ := List.getElem_of_mem hy
  exact h i hi x (by rw [gd_eq hi]; exact hxy)
theorem leB_byt (n : Int) (k : Nat) : Byt (leB n k) := by
  intro x hx
  obtain ⟨i, -, rfl⟩ := List.mem_map.1 hx
  omega
theorem strB_byt (t : ByteArray) : Byt (strB t) := by
  intro x hx
  obtain ⟨b, -, rfl⟩ := List.mem_map.1 hx
  have := b.toNat_lt
  omega
theorem one_byt {n : Int} (h0 : 0 ≤ n) (h1 : n < 256) : Byt [n] := by
  intro x hx
  simp only [List.mem_singleton] at hx
  subst hx; exact ⟨h0, h1⟩
theorem nil_byt : Byt [] := fun x hx => by cases hx
theorem lst_byt {α : Type} [Inhabited α] {enc : α → List Int} {xs : List α} (hl : xs.length ≤ 255) (h : ∀ q, q < xs.length → Byt (enc (gd xs q))) : Byt (encLst enc xs) := (one_byt (by omega) (by omega)).app (Byt.flat h)
theorem encW_byt (x : TWindow) : Byt (encW x) := ((leB_byt _ _).app (leB_byt _ _)).app (leB_byt _ _)
theorem encR_byt (x : TRegion) : Byt (encR x) := (((leB_byt _ _).app (leB_byt _ _)).app (leB_byt _ _)).app (leB_byt _ _)
theorem encC_byt (x : TChannel) : Byt (encC x) := ((leB_byt _ _).app (leB_byt _ _)).app (leB_byt _ _)
theorem encP_byt (x : TPort) : Byt (encP x) := by
  unfold encP
  refine (leB_byt _ _).app ?_
  split
  · exact one_byt (by omega) (by omega)
  · exact one_byt (by omega) (by omega)
theorem encPt_byt {x : TPartition} (h : okPt x = true) : Byt (encPt x) := by
  obtain ⟨-, -, -, -, -, -, h1, h2, -, -⟩ := okPt_has h
  refine ((Byt.app (Byt.app ((leB_byt _ _).app (strB_byt _)) ?_) (lst_byt h1 (fun q _ => encR_byt _))).app (lst_byt h2 (fun q _ => encP_byt _)))
  exact Byt.flat (fun q _ => leB_byt _ _)
theorem encB_byt {c : TConfig} (h : okCf c = true) : Byt (encB c) := by
  obtain ⟨-, h1, h2, h3⟩ := okCf_has h
  obtain ⟨l1, a1⟩ := lst_at h1
  obtain ⟨l2, a2⟩ := lst_at h2
  obtain ⟨l3, -⟩ := lst_at h3
  refine Byt.app ?_ (leB_byt _ _)
  unfold formB
  exact ((Byt.app (Byt.app ((leB_byt _ _).app (Byt.flat (enc := fun n => leB n 4) (fun q _ => leB_byt _ _))) (lst_byt l1 (fun q hq => lst_byt (lst_at (a1 q hq)).1 (fun r _ => encW_byt _)))) (lst_byt l2 (fun q hq => encPt_byt (a2 q hq)))).app (lst_byt l3 (fun q _ => encC_byt _)))
theorem strOf_inj {xs ys : List Int} (hx : Byt xs) (hy : Byt ys) (h : (strOf xs).toList = (strOf ys).toList) : xs = ys := by
  have h1 : (xs.map (fun x => UInt8.ofNat x.toNat)) = (ys.map (fun x => UInt8.ofNat x.toNat)) := by
    rw [Go.ByteArray.toList_eq, Go.ByteArray.toList_eq] at h
    exact h
  have hl : xs.length = ys.length := by simpa using congrArg List.length h1
  refine List.ext_getElem hl (fun i h2 h3 => ?_)
  have h4 := congrArg (fun l => l[i]?) h1
  simp only [List.getElem?_map, List.getElem?_eq_getElem h2, List.getElem?_eq_getElem h3, Option.map_some, Option.some.injEq] at h4
  have h5 := congrArg UInt8.toNat h4
  have a := hx xs[i] (List.getElem_mem h2)
  have b := hy ys[i] (List.getElem_mem h3)
  rw [UInt8.toNat_ofNat_of_lt' (by show _ < 256; omega), UInt8.toNat_ofNat_of_lt' (by show _ < 256; omega)] at h5
  omega
theorem nil_sl (w : World) : SlAt u8c 1 Any w ⟨none, 0, []⟩ := ⟨Nat.zero_le _, Nat.zero_le _, fun h => absurd rfl h⟩

theorem encode_A (w : World) (c : TConfig) (hc : TConfig.ok Any w c) (h1 : okCf c = true) (h2 : (encB c).length ≤ 16384) : Calls Try.prog 11 #[.agg (TConfig.arr c)] w fun e w' => ∃ a cap, e = .returned (.tuple #[.slice a (encB c).length cap, .int .i64 0]) ∧ w'.ownsRow w.heap.size 5 1 (.slice a (encB c).length cap) (encB c).length ((encB c).flatMap u8c) ∧ Keeps (fun _ => False) w w' := by
  refine (encode_calls w c hc).mono ?_
  rintro e w' ⟨⟨-, -, a, cap, he, ho⟩ | ⟨-, h, -⟩ | ⟨h, -⟩, hk⟩
  · exact ⟨a, cap, he, ho, hk⟩
  · omega
  · rw [h1] at h; cases h
theorem encode_B (w : World) (c : TConfig) (hc : TConfig.ok Any w c) (h1 : okCf c = true) (h2 : 16384 < (encB c).length) : Calls Try.prog 11 #[.agg (TConfig.arr c)] w fun e w' => e = .returned (.tuple #[.slice none 0 0, .int .i64 2]) ∧ Keeps (fun _ => False) w w' := by
  refine (encode_calls w c hc).mono ?_
  rintro e w' ⟨⟨-, h, -⟩ | ⟨-, -, he⟩ | ⟨h, -⟩, hk⟩
  · omega
  · exact ⟨he, hk⟩
  · rw [h1] at h; cases h
theorem encode_C (w : World) (c : TConfig) (hc : TConfig.ok Any w c) (h1 : okCf c = false) : Calls Try.prog 11 #[.agg (TConfig.arr c)] w fun e w' => e = .returned (.tuple #[.slice none 0 0, .int .i64 112]) ∧ Keeps (fun _ => False) w w' := by
  refine (encode_calls w c hc).mono ?_
  rintro e w' ⟨⟨h, -⟩ | ⟨h, -⟩ | ⟨-, he⟩, hk⟩
  · rw [h1] at h; cases h
  · rw [h1] at h; cases h
  · exact ⟨he, hk⟩

theorem rencode_A (w : World) (c : TConfig) (hc : TConfig.ok Any w c) (h1 : okCf c = true) (h2 : (encB c).length ≤ 16384) : Calls Try.prog 12 #[.agg (TConfig.arr c)] w fun e w' => ∃ a cap, e = .returned (.tuple #[.slice a (encB c).length cap, .int .i64 0]) ∧ w'.ownsRow w.heap.size 5 1 (.slice a (encB c).length cap) (encB c).length ((encB c).flatMap u8c) ∧ Keeps (fun _ => False) w w' := by
  refine (rencode_calls w c hc).mono ?_
  rintro e w' ⟨⟨-, -, a, cap, he, ho⟩ | ⟨-, h, -⟩ | ⟨h, -⟩, hk⟩
  · exact ⟨a, cap, he, ho, hk⟩
  · omega
  · rw [h1] at h; cases h
theorem rencode_B (w : World) (c : TConfig) (hc : TConfig.ok Any w c) (h1 : okCf c = true) (h2 : 16384 < (encB c).length) : Calls Try.prog 12 #[.agg (TConfig.arr c)] w fun e w' => e = .returned (.tuple #[.slice none 0 0, .int .i64 2]) ∧ Keeps (fun _ => False) w w' := by
  refine (rencode_calls w c hc).mono ?_
  rintro e w' ⟨⟨-, h, -⟩ | ⟨-, -, he⟩ | ⟨h, -⟩, hk⟩
  · omega
  · exact ⟨he, hk⟩
  · rw [h1] at h; cases h
theorem rencode_C (w : World) (c : TConfig) (hc : TConfig.ok Any w c) (h1 : okCf c = false) : Calls Try.prog 12 #[.agg (TConfig.arr c)] w fun e w' => e = .returned (.tuple #[.slice none 0 0, .int .i64 112]) ∧ Keeps (fun _ => False) w w' := by
  refine (rencode_calls w c hc).mono ?_
  rintro e w' ⟨⟨h, -⟩ | ⟨h, -⟩ | ⟨-, he⟩, hk⟩
  · rw [h1] at h; cases h
  · rw [h1] at h; cases h
  · exact ⟨he, hk⟩
theorem sameb_calls (w : World) (la lb : Sl Int) (ha : SlAt u8c 1 Any w la) (hb : SlAt u8c 1 Any w lb) (hra : Byt la.xs) (hrb : Byt lb.xs) : Calls Try.prog 13 #[.slice la.a la.xs.length la.cap, .slice lb.a lb.xs.length lb.cap] w fun e w' => e = .returned (.bool (decide (la.xs = lb.xs))) ∧ Keeps (fun _ => False) w w' := by
 obtain ⟨z, hz⟩ : ∃ z, z = w.heap.size := ⟨_, rfl⟩
 refine calls_G (args := [.slice la.a la.xs.length la.cap, .slice lb.a lb.xs.length lb.cap]) 10 ⟨w, z, [(old0 w)]⟩ Try.func13 rfl (by kernel_rfl) (by kernel_rfl) (sat_0 hz) ?_
 refine g_keep [0, 1] [(0, .slice la.a la.xs.length la.cap), (1, .slice lb.a lb.xs.length lb.cap)] ?_
 refine g_seq <| g_region <| l_all 1 [o0] [0, 1] [] [(0, .slice la.a la.xs.length la.cap), (1, .slice lb.a lb.xs.length lb.cap)] ⟨w, z, [(old0 w)]⟩ trivial ?_
 refine e_seq <| g_seq <| g_region <| l_run 1 [o0] [1, 5] [] [(1, .slice lb.a lb.xs.length lb.cap), (5, .slice la.a la.xs.length la.cap)] ⟨w, z, [(old0 w)]⟩ trivial ?_
 refine l_toStr 0 la.xs la.a la.xs.length la.cap (old0 w) (some 6) hra (fun w' hw => sl_mono (fun b k v _ hv => old_cell' hv w' hw) (fun _ h => h) ha) ?_
 refine l_keep [1, 6] [(1, .slice lb.a lb.xs.length lb.cap), (6, .string (strOf la.xs))] ?_
 refine l_run 1 [o0] [6, 7] [] [(6, .string (strOf la.xs)), (7, .slice lb.a lb.xs.length lb.cap)] ⟨w, z, [(old0 w)]⟩ trivial ?_
 refine l_toStr 0 lb.xs lb.a lb.xs.length lb.cap (old0 w) (some 8) hrb (fun w' hw => sl_mono (fun b k v _ hv => old_cell' hv w' hw) (fun _ h => h) hb) ?_
 refine l_keep [6, 8] [(6, .string (strOf la.xs)), (8, .string (strOf lb.xs))] ?_
 by_cases h1 : (strOf la.xs).toList = (strOf lb.xs).toList
 · refine l_all 2 [(ov (.bool true)), o0] [4] [Value.bool (((strOf la.xs).toList == (strOf lb.xs).toList)) = Value.bool true] [(4, .bool true)] ⟨w, z, [(old0 w)]⟩ ⟨by simp [h1], trivial⟩ ?_
   refine e_seq <| g_ret <| e_ret [] [] (.bool true) trivial ?_
   intro w2 hw2
   exact ⟨congrArg (fun b => Ending.returned (Value.bool b)) (Eq.symm (decide_eq_true (strOf_inj hra hrb h1))), hw2.back rfl (show w.heap.size ≤ z by omega) (List.mem_cons_self ..)⟩
 · refine l_all 2 [(ov (.bool false)), o0] [4] [Value.bool (((strOf la.xs).toList == (strOf lb.xs).toList)) = Value.bool false] [(4, .bool false)] ⟨w, z, [(old0 w)]⟩ ⟨by simp [h1], trivial⟩ ?_
   refine e_seq <| g_ret <| e_ret [] [] (.bool false) trivial ?_
   intro w3 hw3
   exact ⟨congrArg (fun b => Ending.returned (Value.bool b)) (Eq.symm (decide_eq_false (fun e => h1 (by rw [e])))), hw3.back rfl (show w.heap.size ≤ z by omega) (List.mem_cons_self ..)⟩

theorem sameb_yes (w : World) (la lb : Sl Int) (ha : SlAt u8c 1 Any w la) (hb : SlAt u8c 1 Any w lb) (hra : Byt la.xs) (hrb : Byt lb.xs) (h : la.xs = lb.xs) : Calls Try.prog 13 #[.slice la.a la.xs.length la.cap, .slice lb.a lb.xs.length lb.cap] w fun e w' => e = .returned (.bool true) ∧ Keeps (fun _ => False) w w' := by
  have := sameb_calls w la lb ha hb hra hrb
  rw [decide_eq_true h] at this
  exact this
abbrev q0gq_0 (z : Nat) (c : TConfig) : Ch := .blk z (.cells (TConfig.arr c) 26 (0, 0)) true
abbrev q0gq_1 (w2 : World) (a7 : Option Addr) (c : TConfig) (cp8 : Nat) : Ch := rowL w2.heap.size 5 1 u8c (.slice a7 ((encB c).length) cp8) (encB c)
abbrev q0gq_2 (z : Nat) (a3 : Option Addr) (c : TConfig) (cp4 : Nat) : Ch := rowL (z + 1) 5 1 u8c (.slice a3 ((encB c).length) cp4) (encB c)
theorem writes_A (w : World) (c : TConfig) (hc : TConfig.ok Any w c) (hk1 : okCf c = true) (hk2 : (encB c).length ≤ 16384) : Calls Try.prog 3 #[.agg (TConfig.arr c)] w fun e w' => e = .returned (.bool true) ∧ Keeps (fun _ => False) w w' := by
 obtain ⟨z, hz⟩ : ∃ z, z = w.heap.size := ⟨_, rfl⟩
 refine calls_G (args := [.agg (TConfig.arr c)]) 25 ⟨w, z, [(old0 w)]⟩ Try.func3 rfl (by kernel_rfl) (by kernel_rfl) (sat_0 hz) ?_
 refine g_keep [0] [(0, .agg (TConfig.arr c))] ?_
 refine g_seq <| g_region <| l_all 2 [o0, o0] [1] [] [(1, .pointer (some ⟨z, 0, none⟩))] ⟨w, z + 1, [(old0 w), (q0gq_0 z c)]⟩ trivial ?_
 refine e_seq <| g_seq <| g_region <| l_run 1 [(oa [.at 1, .at 1, .at 1, .at 1, .at 1, .at 1, .at 1])] [1, 8] [Qb z, Qb z, Qb z, Qb z, Qb z, Qb z, Qb z] [(1, .pointer (some ⟨z, 0, none⟩)), (8, .agg (TConfig.arr c))] ⟨w, z + 1, [(old0 w), (q0gq_0 z c)]⟩ ⟨rfl, rfl, rfl, rfl, rfl, rfl, rfl, trivial⟩ ?_
 refine l_call [] [] 11 #[.agg (TConfig.arr c)] (some 9) trivial ?_
 intro w1 hw1
 refine (encode_A w1 c (hc.ext (hw1.ext rfl) (fun _ h => h)) hk1 hk2).mono ?_
 rintro e w2 ⟨a3, cp4, rfl, how2, hkw2⟩
 have hnw2 : z + 1 ≤ w2.heap.size := by have := hkw2.size; rw [hw1.size] at this; exact this
 rw [hw1.size] at how2
 refine ⟨_, _, rfl, hw1.keeps1 hkw2 (q0gq_2 z a3 c cp4) how2 (row_stable _ _ _ _ _ _) (fun b hb => how2.lt b hb), ?_⟩
 refine l_keep [1, 9] [(1, .pointer (some ⟨z, 0, none⟩)), (9, .tuple #[.slice a3 ((encB c).length) cp4, .int .i64 0])] ?_
 refine l_all 5 [o0, o0, o0, o0, o0] [1, 3, 4] [] [(1, .pointer (some ⟨z, 0, none⟩)), (3, .slice a3 ((encB c).length) cp4), (4, .int .i64 0)] ⟨w, w2.heap.size, [(old0 w), (q0gq_0 z c), (q0gq_2 z a3 c cp4)]⟩ trivial ?_
 refine e_seq <| g_seq <| g_region <| l_run 1 [(oa [.at 1, .at 1, .at 1, .at 1, .at 1, .at 1, .at 1])] [3, 4, 13] [Qb z, Qb z, Qb z, Qb z, Qb z, Qb z, Qb z] [(3, .slice a3 ((encB c).length) cp4), (4, .int .i64 0), (13, .agg (TConfig.arr c))] ⟨w, w2.heap.size, [(old0 w), (q0gq_0 z c), (q0gq_2 z a3 c cp4)]⟩ ⟨rfl, rfl, rfl, rfl, rfl, rfl, rfl, trivial⟩ ?_
 refine l_call [] [] 12 #[.agg (TConfig.arr c)] (some 14) trivial ?_
 intro w5 hw5
 refine (rencode_A w5 c (hc.ext (hw5.ext rfl) (fun _ h => h)) hk1 hk2).mono ?_
 rintro e w6 ⟨a7, cp8, rfl, how6, hkw6⟩
 have hnw6 : w2.heap.size ≤ w6.heap.size := by have := hkw6.size; rw [hw5.size] at this; exact this
 rw [hw5.size] at how6
 refine ⟨_, _, rfl, hw5.keeps1 hkw6 (q0gq_1 w2 a7 c cp8) how6 (row_stable _ _ _ _ _ _) (fun b hb => how6.lt b hb), ?_⟩
 refine l_keep [3, 4, 14] [(3, .slice a3 ((encB c).length) cp4), (4, .int .i64 0), (14, .tuple #[.slice a7 ((encB c).length) cp8, .int .i64 0])] ?_
 refine l_all 5 [o0, o0, o0, o0, o0] [3, 4, 5, 6] [] [(3, .slice a3 ((encB c).length) cp4), (4, .int .i64 0), (5, .slice a7 ((encB c).length) cp8), (6, .int .i64 0)] ⟨w, w6.heap.size, [(old0 w), (q0gq_0 z c), (q0gq_2 z a3 c cp4), (q0gq_1 w2 a7 c cp8)]⟩ trivial ?_
 refine e_seq <| g_seq <| g_region <| l_run 6 [o0, o0, o0, o0, o0, o0] [20, 21, 22] [] [(20, .bool true), (21, .slice a3 ((encB c).length) cp4), (22, .slice a7 ((encB c).length) cp8)] ⟨w, w6.heap.size, [(old0 w), (q0gq_0 z c), (q0gq_2 z a3 c cp4), (q0gq_1 w2 a7 c cp8)]⟩ trivial ?_
 refine l_call [] [] 13 #[.slice a3 ((encB c).length) cp4, .slice a7 ((encB c).length) cp8] (some 23) trivial ?_
 intro w9 hw9
 refine (sameb_yes w9 ⟨a3, cp4, (encB c)⟩ ⟨a7, cp8, (encB c)⟩ (rowU_any hw9 (i := 2) rfl (by omega)) (rowU_any hw9 (i := 3) rfl (by omega)) (encB_byt hk1) (encB_byt hk1) rfl).mono ?_
 rintro e w10 ⟨rfl, hkw10⟩
 have hnw10 : w6.heap.size ≤ w10.heap.size := by have := hkw10.size; rw [hw9.size] at this; exact this
 refine ⟨_, _, rfl, hw9.keeps hkw10, ?_⟩
 refine l_keep [20, 23] [(20, .bool true), (23, .bool true)] ?_
 refine l_all 2 [o0, o0] [2] [] [(2, .bool true)] ⟨w, w10.heap.size, [(old0 w), (q0gq_0 z c), (q0gq_2 z a3 c cp4), (q0gq_1 w2 a7 c cp8)]⟩ trivial ?_
 refine e_seq <| g_ret <| e_ret [] [] (.bool true) trivial ?_
 intro w11 hw11
 exact ⟨rfl, hw11.back rfl (show w.heap.size ≤ w10.heap.size by omega) (List.mem_cons_self ..)⟩
abbrev quu8_0 (z : Nat) (c : TConfig) : Ch := .blk z (.cells (TConfig.arr c) 26 (0, 0)) true
theorem writes_B (w : World) (c : TConfig) (hc : TConfig.ok Any w c) (hk1 : okCf c = true) (hk2 : 16384 < (encB c).length) : Calls Try.prog 3 #[.agg (TConfig.arr c)] w fun e w' => e = .returned (.bool true) ∧ Keeps (fun _ => False) w w' := by
 obtain ⟨z, hz⟩ : ∃ z, z = w.heap.size := ⟨_, rfl⟩
 refine calls_G (args := [.agg (TConfig.arr c)]) 25 ⟨w, z, [(old0 w)]⟩ Try.func3 rfl (by kernel_rfl) (by kernel_rfl) (sat_0 hz) ?_
 refine g_keep [0] [(0, .agg (TConfig.arr c))] ?_
 refine g_seq <| g_region <| l_all 2 [o0, o0] [1] [] [(1, .pointer (some ⟨z, 0, none⟩))] ⟨w, z + 1, [(old0 w), (quu8_0 z c)]⟩ trivial ?_
 refine e_seq <| g_seq <| g_region <| l_run 1 [(oa [.at 1, .at 1, .at 1, .at 1, .at 1, .at 1, .at 1])] [1, 8] [Qb z, Qb z, Qb z, Qb z, Qb z, Qb z, Qb z] [(1, .pointer (some ⟨z, 0, none⟩)), (8, .agg (TConfig.arr c))] ⟨w, z + 1, [(old0 w), (quu8_0 z c)]⟩ ⟨rfl, rfl, rfl, rfl, rfl, rfl, rfl, trivial⟩ ?_
 refine l_call [] [] 11 #[.agg (TConfig.arr c)] (some 9) trivial ?_
 intro w1 hw1
 refine (encode_B w1 c (hc.ext (hw1.ext rfl) (fun _ h => h)) hk1 hk2).mono ?_
 rintro e w2 ⟨rfl, hkw2⟩
 have hnw2 : z + 1 ≤ w2.heap.size := by have := hkw2.size; rw [hw1.size] at this; exact this
 refine ⟨_, _, rfl, hw1.keeps hkw2, ?_⟩
 refine l_keep [1, 9] [(1, .pointer (some ⟨z, 0, none⟩)), (9, .tuple #[.slice none 0 0, .int .i64 2])] ?_
 refine l_all 5 [o0, o0, o0, o0, o0] [1, 3, 4] [] [(1, .pointer (some ⟨z, 0, none⟩)), (3, .slice none 0 0), (4, .int .i64 2)] ⟨w, w2.heap.size, [(old0 w), (quu8_0 z c)]⟩ trivial ?_
 refine e_seq <| g_seq <| g_region <| l_run 1 [(oa [.at 1, .at 1, .at 1, .at 1, .at 1, .at 1, .at 1])] [3, 4, 13] [Qb z, Qb z, Qb z, Qb z, Qb z, Qb z, Qb z] [(3, .slice none 0 0), (4, .int .i64 2), (13, .agg (TConfig.arr c))] ⟨w, w2.heap.size, [(old0 w), (quu8_0 z c)]⟩ ⟨rfl, rfl, rfl, rfl, rfl, rfl, rfl, trivial⟩ ?_
 refine l_call [] [] 12 #[.agg (TConfig.arr c)] (some 14) trivial ?_
 intro w3 hw3
 refine (rencode_B w3 c (hc.ext (hw3.ext rfl) (fun _ h => h)) hk1 hk2).mono ?_
 rintro e w4 ⟨rfl, hkw4⟩
 have hnw4 : w2.heap.size ≤ w4.heap.size := by have := hkw4.size; rw [hw3.size] at this; exact this
 refine ⟨_, _, rfl, hw3.keeps hkw4, ?_⟩
 refine l_keep [3, 4, 14] [(3, .slice none 0 0), (4, .int .i64 2), (14, .tuple #[.slice none 0 0, .int .i64 2])] ?_
 refine l_all 5 [o0, o0, o0, o0, o0] [3, 4, 5, 6] [] [(3, .slice none 0 0), (4, .int .i64 2), (5, .slice none 0 0), (6, .int .i64 2)] ⟨w, w4.heap.size, [(old0 w), (quu8_0 z c)]⟩ trivial ?_
 refine e_seq <| g_seq <| g_region <| l_run 6 [o0, o0, o0, o0, o0, o0] [20, 21, 22] [] [(20, .bool true), (21, .slice none 0 0), (22, .slice none 0 0)] ⟨w, w4.heap.size, [(old0 w), (quu8_0 z c)]⟩ trivial ?_
 refine l_call [] [] 13 #[.slice none 0 0, .slice none 0 0] (some 23) trivial ?_
 intro w5 hw5
 refine (sameb_yes w5 ⟨none, 0, []⟩ ⟨none, 0, []⟩ (nil_sl w5) (nil_sl w5) nil_byt nil_byt rfl).mono ?_
 rintro e w6 ⟨rfl, hkw6⟩
 have hnw6 : w4.heap.size ≤ w6.heap.size := by have := hkw6.size; rw [hw5.size] at this; exact this
 refine ⟨_, _, rfl, hw5.keeps hkw6, ?_⟩
 refine l_keep [20, 23] [(20, .bool true), (23, .bool true)] ?_
 refine l_all 2 [o0, o0] [2] [] [(2, .bool true)] ⟨w, w6.heap.size, [(old0 w), (quu8_0 z c)]⟩ trivial ?_
 refine e_seq <| g_ret <| e_ret [] [] (.bool true) trivial ?_
 intro w7 hw7
 exact ⟨rfl, hw7.back rfl (show w.heap.size ≤ w6.heap.size by omega) (List.mem_cons_self ..)⟩
abbrev qtti_0 (z : Nat) (c : TConfig) : Ch := .blk z (.cells (TConfig.arr c) 26 (0, 0)) true
theorem writes_C (w : World) (c : TConfig) (hc : TConfig.ok Any w c) (hk1 : okCf c = false) : Calls Try.prog 3 #[.agg (TConfig.arr c)] w fun e w' => e = .returned (.bool true) ∧ Keeps (fun _ => False) w w' := by
 obtain ⟨z, hz⟩ : ∃ z, z = w.heap.size := ⟨_, rfl⟩
 refine calls_G (args := [.agg (TConfig.arr c)]) 25 ⟨w, z, [(old0 w)]⟩ Try.func3 rfl (by kernel_rfl) (by kernel_rfl) (sat_0 hz) ?_
 refine g_keep [0] [(0, .agg (TConfig.arr c))] ?_
 refine g_seq <| g_region <| l_all 2 [o0, o0] [1] [] [(1, .pointer (some ⟨z, 0, none⟩))] ⟨w, z + 1, [(old0 w), (qtti_0 z c)]⟩ trivial ?_
 refine e_seq <| g_seq <| g_region <| l_run 1 [(oa [.at 1, .at 1, .at 1, .at 1, .at 1, .at 1, .at 1])] [1, 8] [Qb z, Qb z, Qb z, Qb z, Qb z, Qb z, Qb z] [(1, .pointer (some ⟨z, 0, none⟩)), (8, .agg (TConfig.arr c))] ⟨w, z + 1, [(old0 w), (qtti_0 z c)]⟩ ⟨rfl, rfl, rfl, rfl, rfl, rfl, rfl, trivial⟩ ?_
 refine l_call [] [] 11 #[.agg (TConfig.arr c)] (some 9) trivial ?_
 intro w1 hw1
 refine (encode_C w1 c (hc.ext (hw1.ext rfl) (fun _ h => h)) hk1).mono ?_
 rintro e w2 ⟨rfl, hkw2⟩
 have hnw2 : z + 1 ≤ w2.heap.size := by have := hkw2.size; rw [hw1.size] at this; exact this
 refine ⟨_, _, rfl, hw1.keeps hkw2, ?_⟩
 refine l_keep [1, 9] [(1, .pointer (some ⟨z, 0, none⟩)), (9, .tuple #[.slice none 0 0, .int .i64 112])] ?_
 refine l_all 5 [o0, o0, o0, o0, o0] [1, 3, 4] [] [(1, .pointer (some ⟨z, 0, none⟩)), (3, .slice none 0 0), (4, .int .i64 112)] ⟨w, w2.heap.size, [(old0 w), (qtti_0 z c)]⟩ trivial ?_
 refine e_seq <| g_seq <| g_region <| l_run 1 [(oa [.at 1, .at 1, .at 1, .at 1, .at 1, .at 1, .at 1])] [3, 4, 13] [Qb z, Qb z, Qb z, Qb z, Qb z, Qb z, Qb z] [(3, .slice none 0 0), (4, .int .i64 112), (13, .agg (TConfig.arr c))] ⟨w, w2.heap.size, [(old0 w), (qtti_0 z c)]⟩ ⟨rfl, rfl, rfl, rfl, rfl, rfl, rfl, trivial⟩ ?_
 refine l_call [] [] 12 #[.agg (TConfig.arr c)] (some 14) trivial ?_
 intro w3 hw3
 refine (rencode_C w3 c (hc.ext (hw3.ext rfl) (fun _ h => h)) hk1).mono ?_
 rintro e w4 ⟨rfl, hkw4⟩
 have hnw4 : w2.heap.size ≤ w4.heap.size := by have := hkw4.size; rw [hw3.size] at this; exact this
 refine ⟨_, _, rfl, hw3.keeps hkw4, ?_⟩
 refine l_keep [3, 4, 14] [(3, .slice none 0 0), (4, .int .i64 112), (14, .tuple #[.slice none 0 0, .int .i64 112])] ?_
 refine l_all 5 [o0, o0, o0, o0, o0] [3, 4, 5, 6] [] [(3, .slice none 0 0), (4, .int .i64 112), (5, .slice none 0 0), (6, .int .i64 112)] ⟨w, w4.heap.size, [(old0 w), (qtti_0 z c)]⟩ trivial ?_
 refine e_seq <| g_seq <| g_region <| l_run 6 [o0, o0, o0, o0, o0, o0] [20, 21, 22] [] [(20, .bool true), (21, .slice none 0 0), (22, .slice none 0 0)] ⟨w, w4.heap.size, [(old0 w), (qtti_0 z c)]⟩ trivial ?_
 refine l_call [] [] 13 #[.slice none 0 0, .slice none 0 0] (some 23) trivial ?_
 intro w5 hw5
 refine (sameb_yes w5 ⟨none, 0, []⟩ ⟨none, 0, []⟩ (nil_sl w5) (nil_sl w5) nil_byt nil_byt rfl).mono ?_
 rintro e w6 ⟨rfl, hkw6⟩
 have hnw6 : w4.heap.size ≤ w6.heap.size := by have := hkw6.size; rw [hw5.size] at this; exact this
 refine ⟨_, _, rfl, hw5.keeps hkw6, ?_⟩
 refine l_keep [20, 23] [(20, .bool true), (23, .bool true)] ?_
 refine l_all 2 [o0, o0] [2] [] [(2, .bool true)] ⟨w, w6.heap.size, [(old0 w), (qtti_0 z c)]⟩ trivial ?_
 refine e_seq <| g_ret <| e_ret [] [] (.bool true) trivial ?_
 intro w7 hw7
 exact ⟨rfl, hw7.back rfl (show w.heap.size ≤ w6.heap.size by omega) (List.mem_cons_self ..)⟩

theorem writes_calls (w : World) (c : TConfig) (hc : TConfig.ok Any w c) : Calls Try.prog 3 #[.agg (TConfig.arr c)] w fun e w' => e = .returned (.bool true) ∧ Keeps (fun _ => False) w w' := by
  by_cases h1 : okCf c = true
  · by_cases h2 : (encB c).length ≤ 16384
    · exact writes_A w c hc h1 h2
    · exact writes_B w c hc h1 (by omega)
  · exact writes_C w c hc (Bool.eq_false_iff.2 h1)

end Go.Proofs.Ytmmkacfeocnblaa.Ly
