/- conf: what is laid down. No conditions. -/
import Derived.Test.YtmmkacfeocnblaaWb
namespace Go.Proofs.Ytmmkacfeocnblaa.Ly
open Go Go.Proofs.Ytmmkacfeocnblaa.Eng Go.Proofs.Ytmmkacfeocnblaa.Mem
set_option linter.unusedSimpArgs false
set_option linter.unusedVariables false
set_option maxRecDepth 100000

def wideP : List PanicEntry := [{ v := .iface 52 (.agg #[]), recovered := false }]
def Dt (w : World) (F : Nat → Prop) : Nat → Prop := fun b => b < w.heap.size ∧ ¬ F b
theorem oldD_cell {F : Nat → Prop} {w w2 : World} {b k : Nat} {v : Value} (hF : b < w2.heap.size ∧ ¬ F b) (h : w.cell? ⟨b, k, none⟩ = some v) : ∀ w', (old F w).holds w' → w'.cell? ⟨b, k, none⟩ = some v := old_cell h hF.2
theorem dt_he {A : AW} {w w1 : World} {F : Nat → Prop} (hW : Sat A w1) (h0 : A.σ[0]? = some (old F w)) : Ext (Dt w F) w w1 := fun b k v hb hv => old_cell hv hb.2 w1 (hW.at h0)
theorem dt_hF {A : AW} {w w1 : World} {F : Nat → Prop} {j : Nat} {c : Ch} (hW : Sat A w1) (h0 : A.σ[0]? = some (old F w)) (hn : w.heap.size ≤ A.n) (hj : A.σ[j]? = some c) (hr : c.rw = true) (hj0 : j ≠ 0) : ∀ b, Dt w F b → Dt w1 c.F b := fun b hb => ⟨by rw [hW.size]; exact Nat.lt_of_lt_of_le hb.1 hn, fun hc => hW.two (d := old F w) hj h0 hj0 hr b hc hb⟩
def WrPostP (w : World) (pw : Nat) (F : Nat → Prop) (bs : List Int) (ok : Bool) (ys : List Int) (e : Ending) (w' : World) : Prop :=
  (ok = true ∧ e = .returned (.tuple #[]) ∧ WrIs w' pw (More F w w') (bs ++ ys) ∧ Keeps F w w') ∨ (ok = false ∧ e = .panicked wideP ∧ Keeps F w w')
theorem wrP_sat {A : AW} {w w' : World} {i pw : Nat} {F : Nat → Prop} {bs ys : List Int} {ok : Bool} {e : Ending} {kept : List Ch} (h : Sat A w) (hi : A.σ[i]? = some (wrC pw F bs)) (is : List Nat) (hnd : nodupB is = true) (hp : picks is A.σ = some kept) (hni : is.contains i = false) (hP : WrPostP w pw F bs ok ys e w') :
    (∃ F', ok = true ∧ e = .returned (.tuple #[]) ∧ A.n ≤ w'.heap.size ∧ Sat { A with n := w'.heap.size, σ := A.σ.set i (wrC pw F' (bs ++ ys)) } w') ∨ (ok = false ∧ e = .panicked wideP ∧ A.n ≤ w'.heap.size ∧ Sat { A with n := w'.heap.size, σ := kept } w') := by
  rcases hP with ⟨h1, h2, h3, h4⟩ | ⟨h1, h2, h4⟩
  · exact .inl ⟨_, h1, h2, wr_sat h hi h3 h4⟩
  · right
    have hpk : picks [i] A.σ = some [wrC pw F bs] := by simp [picks, hi]
    have hS := h.turn is [i] (new := []) hnd hp hpk (by
      rw [List.all_eq_true]
      intro q hq
      simp only [List.contains_cons, List.contains_nil, Bool.or_false, Bool.not_eq_true', beq_eq_false_iff_ne]
      intro e; subst e
      rw [List.contains_eq_mem] at hni
      simp [hq] at hni) (fun d hd => by simp only [List.mem_singleton] at hd; subst hd; rfl) (w' := w') (h4.mono (fun b _ hb => ⟨_, List.mem_singleton_self _, hb⟩)) (by simp) (by simp)
    rw [List.append_nil] at hS
    exact ⟨h1, h2, size_of h h4, hS⟩
def okNum (n : Int) : Bool := decide (0 ≤ n) && decide (n ≤ 4294967295)
theorem okNum_yes {n : Int} (h : okNum n = true) : 0 ≤ n ∧ n ≤ 4294967295 := by unfold okNum at h; simpa using h
def okLst {α : Type} (ok : α → Bool) (xs : List α) : Bool := decide (xs.length ≤ 255) && xs.all ok
def encLst {α : Type} (enc : α → List Int) (xs : List α) : List Int := [(xs.length : Int)] ++ xs.flatMap enc
def encName (s : ByteArray) : List Int := leB (s.size : Nat) 4 ++ strB s
def okW (x : TWindow) : Bool := decide (-1 ≤ x.Partition) && okNum (IntKind.i64.wrap (x.Partition + 1)) && okNum x.Usable && okNum x.Slack
def encW (x : TWindow) : List Int := leB (IntKind.i64.wrap (x.Partition + 1)) 4 ++ leB x.Usable 4 ++ leB x.Slack 4
def okR (x : TRegion) : Bool := okNum x.Page && okNum x.Pages && okNum x.Frame && okNum x.Rights
def encR (x : TRegion) : List Int := leB x.Page 4 ++ leB x.Pages 4 ++ leB x.Frame 4 ++ leB x.Rights 4
def okP (x : TPort) : Bool := okNum x.Channel
def encP (x : TPort) : List Int := leB x.Channel 4 ++ [if x.Source then 1 else 0]
def okC (x : TChannel) : Bool := okNum x.Kind && okNum x.Words && okNum x.Depth
def encC (x : TChannel) : List Int := leB x.Kind 4 ++ leB x.Words 4 ++ leB x.Depth 4
def okWs (x : Sl TWindow) : Bool := okLst okW x.xs
def encWs (x : Sl TWindow) : List Int := encLst encW x.xs
def ns5 (x : TPartition) : List Int := [x.Entry, x.Action, x.Restarts, x.Inputs, x.Outputs]
def okPt (x : TPartition) : Bool := decide (x.Name.size ≤ 255) && (ns5 x).all okNum && okLst okR x.Regions.xs && okLst okP x.Ports.xs
def encPt (x : TPartition) : List Int := encName x.Name ++ (ns5 x).flatMap (fun n => leB n 4) ++ encLst encR x.Regions.xs ++ encLst encP x.Ports.xs
theorem encW_len (x : TWindow) : (encW x).length = 12 := by unfold encW; simp only [List.length_append, leB_len]
theorem encR_len (x : TRegion) : (encR x).length = 16 := by unfold encR; simp only [List.length_append, leB_len]
theorem encP_len (x : TPort) : (encP x).length = 5 := by unfold encP; simp only [List.length_append, leB_len, List.length_cons, List.length_nil]
theorem encC_len (x : TChannel) : (encC x).length = 12 := by unfold encC; simp only [List.length_append, leB_len]
theorem take_flat {α β : Type} [Inhabited α] {enc : α → List β} {xs : List α} {i : Nat} (h : i < xs.length) : (xs.take (i + 1)).flatMap enc = (xs.take i).flatMap enc ++ enc (gd xs i) := by
  rw [List.take_succ_eq_append_getElem h, List.flatMap_append, gd_eq h]; simp
theorem flat_le {α β : Type} [Inhabited α] {enc : α → List β} {K : Nat} {xs : List α} : ∀ (i : Nat), i ≤ xs.length → (∀ q, q < i → (enc (gd xs q)).length ≤ K) → ((xs.take i).flatMap enc).length ≤ i * K
  | 0, _, _ => by simp
  | i + 1, hi, h => by
    have h1 := flat_le (enc := enc) i (by omega) (fun q hq => h q (by omega))
    have h2 := h i (by omega)
    rw [take_flat (by omega), List.length_append, Nat.succ_mul]; omega
theorem all_push {p : Nat → Prop} {i : Nat} (h : ∀ q, q < i → p q) (hi : p i) : ∀ q, q < i + 1 → p q := by
  intro q hq
  by_cases e : q = i
  · subst e; exact hi
  · exact h q (by omega)
theorem all_yes {α : Type} [Inhabited α] {ok : α → Bool} {xs : List α} (h : ∀ q, q < xs.length → ok (gd xs q) = true) : xs.all ok = true := by
  rw [List.all_eq_true]
  intro x hx
  obtain ⟨i, hi, rfl⟩ := List.getElem_of_mem hx
  have := h i hi
  rwa [gd_eq hi] at this
theorem all_no {α : Type} [Inhabited α] {ok : α → Bool} {xs : List α} {i : Nat} (hi : i < xs.length) (h : ok (gd xs i) = false) : xs.all ok = false := by
  rw [List.all_eq_false]
  rw [gd_eq hi] at h
  exact ⟨xs[i], List.getElem_mem hi, by simp [h]⟩
theorem lst_yes {α : Type} [Inhabited α] {ok : α → Bool} {xs : List α} (hl : xs.length ≤ 255) (h : ∀ q, q < xs.length → ok (gd xs q) = true) : okLst ok xs = true := by
  unfold okLst; rw [all_yes h]; simpa using hl
theorem lst_no1 {α : Type} {ok : α → Bool} {xs : List α} (hl : ¬ xs.length ≤ 255) : okLst ok xs = false := by
  unfold okLst; rw [decide_eq_false hl]; rfl
theorem lst_no2 {α : Type} [Inhabited α] {ok : α → Bool} {xs : List α} {i : Nat} (hi : i < xs.length) (h : ok (gd xs i) = false) : okLst ok xs = false := by
  unfold okLst; rw [all_no hi h, Bool.and_false]
theorem okLst_len {α : Type} {ok : α → Bool} {xs : List α} (h : okLst ok xs = true) : xs.length ≤ 255 := by
  unfold okLst at h; simp only [Bool.and_eq_true, decide_eq_true_eq] at h; exact h.1
theorem encLst_le {α : Type} [Inhabited α] {enc : α → List Int} {K : Nat} {xs : List α} (h : ∀ q, q < xs.length → (enc (gd xs q)).length ≤ K) : (encLst enc xs).length ≤ 1 + xs.length * K := by
  have := flat_le (enc := enc) xs.length (Nat.le_refl _) h
  rw [List.take_length] at this
  unfold encLst
  rw [List.length_append]
  simp only [List.length_cons, List.length_nil]; omega
theorem encWs_le {x : Sl TWindow} (h : okWs x = true) : (encWs x).length ≤ 3061 := by
  have h1 := okLst_len h
  have h2 := encLst_le (enc := encW) (K := 12) (xs := x.xs) (fun q _ => by rw [encW_len]; exact Nat.le_refl _)
  unfold encWs; omega
theorem encPt_le {x : TPartition} (h : okPt x = true) : (encPt x).length ≤ 6000 := by
  unfold okPt at h
  simp only [Bool.and_eq_true, decide_eq_true_eq] at h
  obtain ⟨⟨⟨h1, -⟩, h3⟩, h4⟩ := h
  have h5 := okLst_len h3
  have h6 := okLst_len h4
  have h7 := encLst_le (enc := encR) (K := 16) (xs := x.Regions.xs) (fun q _ => by rw [encR_len]; exact Nat.le_refl _)
  have h8 := encLst_le (enc := encP) (K := 5) (xs := x.Ports.xs) (fun q _ => by rw [encP_len]; exact Nat.le_refl _)
  unfold encPt encName ns5
  simp only [List.length_append, leB_len, strB_len, List.flatMap_cons, List.flatMap_nil, List.length_nil]
  omega
theorem gd5 {x : TPartition} {i : Nat} (h : i < 5) : (#[Value.int .i64 x.Entry, .int .i64 x.Action, .int .i64 x.Restarts, .int .i64 x.Inputs, .int .i64 x.Outputs] : Array Value)[offs 1 i]? = some (.int .i64 (gd (ns5 x) i)) := by
  rcases (by omega : i = 0 ∨ i = 1 ∨ i = 2 ∨ i = 3 ∨ i = 4) with rfl | rfl | rfl | rfl | rfl <;> rfl
theorem number_calls (w : World) (pw : Nat) (F : Nat → Prop) (bs : List Int) (hw : WrIs w pw F bs) (n : Int) (hl : bs.length + 4 ≤ 2147483647) : Calls Try.prog 26 #[.agg #[.pointer (some ⟨pw, 0, none⟩)], .int .i64 n] w fun e w' => WrPostP w pw F bs (okNum n) (leB n 4) e w' := by
 obtain ⟨z, hz⟩ : ∃ z, z = w.heap.size := ⟨_, rfl⟩
 refine calls_G (args := [.agg #[pt pw], i6 n]) 17 ⟨w, z, [(old F w), (wrC pw F bs)]⟩ Try.func26 rfl (by kernel_rfl) (by kernel_rfl) (hz ▸ sat_wrC hw) ?_
 refine g_keep [0, 1] [(0, .agg #[pt pw]), (1, i6 n)] ?_
 refine q_c 6 0 [] [[o0]] [] [(1, i6 n), (2, pt z)] ⟨w, z + 1, [(old F w), (wrC pw F bs), (bk z #[pt pw] 56)]⟩ rfl trivial ?_
 by_cases h1 : (n : Int) < 0
 · refine q_cS 5 2 [1] [[o0, oT, o0, o0], [o0, o0]] [BT ((n : Int) < 0)] [(1, i6 n), (2, pt z), (11, .iface 52 (.agg #[]))] rfl ⟨bt (by omega), trivial⟩ ?_
   refine l_panic (.iface 52 (.agg #[])) ?_
   refine e_panicR ?_
   intro w2 hw2
   refine .inr ⟨(Bool.eq_false_iff.2 (by unfold okNum; simp only [ne_eq, Bool.and_eq_true, decide_eq_true_eq]; omega)), rfl, back0 hw2⟩
 · by_cases h3 : (4294967295 : Int) < n
   · refine q_cS 5 2 [1] [[o0, oF, o0, o0, oT, o0], [o0, o0]] [BF ((n : Int) < 0), BT ((n : Int) > 4294967295)] [(1, i6 n), (2, pt z), (11, .iface 52 (.agg #[]))] rfl ⟨bf (by omega), bt (by omega), trivial⟩ ?_
     refine l_panic (.iface 52 (.agg #[])) ?_
     refine e_panicR ?_
     intro w4 hw4
     refine .inr ⟨(Bool.eq_false_iff.2 (by unfold okNum; simp only [ne_eq, Bool.and_eq_true, decide_eq_true_eq]; omega)), rfl, back0 hw4⟩
   · refine q_cS 7 4 [0] [[o0, oF, o0, o0, oF, o0], [o0, (a1 2), o0, (ov (.int .u32 n))]] [BF ((n : Int) < 0), BF ((n : Int) > 4294967295), Qb z, Value.int .u32 (IntKind.u32.wrap (n)) = Value.int .u32 (n)] [(13, pt pw), (15, .int .u32 n)] rfl ⟨bf (by omega), bf (by omega), rfl, congrArg (Value.int .u32) (wr_u32 rfl (by omega) (by omega)), trivial⟩ ?_
     refine l_call [] [] 25 #[pt pw, .int .u32 n] (some 16) trivial ?_
     intro w5 hw5
     refine (u32_sat hw5 (i := 1) rfl n (by omega) (by first | omega | (simp only [List.length_append, leB_len, List.length_cons, List.length_nil]; omega))).mono ?_
     rintro e w7 ⟨F6, rfl, hmw7, hSw7⟩; have hnw7 : z + 1 ≤ w7.heap.size := hmw7
     refine ⟨_, _, rfl, hSw7, ?_⟩
     refine l_keep [] [] ?_
     refine l_nil (by kernel_rfl) ?_
     -- the function's end
     refine e_end [] [] (.tuple #[]) trivial ?_
     intro w8 hw8
     have hD := wr_end hw8 rfl (show w.heap.size ≤ w7.heap.size by omega) rfl (j := 1) rfl (by decide) hw
     exact .inl ⟨(by unfold okNum; simp only [Bool.and_eq_true, decide_eq_true_eq]; omega), rfl, hD⟩
theorem number_satP {A : AW} {w : World} {i pw : Nat} {F : Nat → Prop} {bs : List Int} {kept : List Ch} (h : Sat A w) (is : List Nat) (hi : A.σ[i]? = some (wrC pw F bs)) (hnd : nodupB is = true) (hp : picks is A.σ = some kept) (hni : is.contains i = false) (n : Int) (hl : bs.length + 4 ≤ 2147483647) : Calls Try.prog 26 #[.agg #[.pointer (some ⟨pw, 0, none⟩)], .int .i64 n] w fun e w' => (∃ F', okNum n = true ∧ e = .returned (.tuple #[]) ∧ A.n ≤ w'.heap.size ∧ Sat { A with n := w'.heap.size, σ := A.σ.set i (wrC pw F' (bs ++ leB n 4)) } w') ∨ (okNum n = false ∧ e = .panicked wideP ∧ A.n ≤ w'.heap.size ∧ Sat { A with n := w'.heap.size, σ := kept } w') :=
  (number_calls w pw F bs (h.at hi) n hl).mono (fun e w' hP => wrP_sat h hi is hnd hp hni hP)
theorem name_calls (w : World) (pw : Nat) (F : Nat → Prop) (bs : List Int) (hw : WrIs w pw F bs) (t : ByteArray) (hl : bs.length + 300 ≤ 2147483647) : Calls Try.prog 60 #[.agg #[.pointer (some ⟨pw, 0, none⟩)], .string t] w fun e w' => WrPostP w pw F bs (decide (t.size ≤ 255)) (encName t) e w' := by
 obtain ⟨z, hz⟩ : ∃ z, z = w.heap.size := ⟨_, rfl⟩
 refine calls_G (args := [.agg #[pt pw], .string t]) 13 ⟨w, z, [(old F w), (wrC pw F bs)]⟩ Try.func60 rfl (by kernel_rfl) (by kernel_rfl) (hz ▸ sat_wrC hw) ?_
 refine g_keep [0, 1] [(0, .agg #[pt pw]), (1, .string t)] ?_
 refine q_c 6 0 [] [[o0]] [] [(1, .string t), (2, pt z)] ⟨w, z + 1, [(old F w), (wrC pw F bs), (bk z #[pt pw] 56)]⟩ rfl trivial ?_
 by_cases h1 : (255 : Int) < ((t.size : Nat) : Int)
 · refine q_cS 5 2 [1] [[o0, o0, oT], [o0, o0]] [BT ((((t.size : Nat) : Int) : Int) > 255)] [(1, .string t), (2, pt z), (8, .iface 52 (.agg #[]))] rfl ⟨bt (by omega), trivial⟩ ?_
   refine l_panic (.iface 52 (.agg #[])) ?_
   refine e_panicR ?_
   intro w2 hw2
   refine .inr ⟨(decide_eq_false (by omega)), rfl, back0 hw2⟩
 · refine q_cS 7 3 [0] [[o0, o0, oF], [o0, (a1 2), o0]] [BF ((((t.size : Nat) : Int) : Int) > 255), Qb z] [(10, pt pw), (11, .string t)] rfl ⟨bf (by omega), rfl, trivial⟩ ?_
   refine l_call [] [] 85 #[pt pw, .string t] (some 12) trivial ?_
   intro w3 hw3
   refine (text_sat hw3 (i := 1) rfl t (by omega) (by first | omega | (simp only [List.length_append, leB_len, List.length_cons, List.length_nil]; omega))).mono ?_
   rintro e w5 ⟨F4, rfl, hmw5, hSw5⟩; have hnw5 : z + 1 ≤ w5.heap.size := hmw5
   refine ⟨_, _, rfl, hSw5, ?_⟩
   refine l_keep [] [] ?_
   refine l_nil (by kernel_rfl) ?_
   -- the function's end
   refine e_end [] [] (.tuple #[]) trivial ?_
   intro w6 hw6
   have hD := wr_end hw6 rfl (show w.heap.size ≤ w5.heap.size by omega) rfl (j := 1) rfl (by decide) hw
   exact .inl ⟨(decide_eq_true (by omega)), rfl, hD⟩
theorem name_satP {A : AW} {w : World} {i pw : Nat} {F : Nat → Prop} {bs : List Int} {kept : List Ch} (h : Sat A w) (is : List Nat) (hi : A.σ[i]? = some (wrC pw F bs)) (hnd : nodupB is = true) (hp : picks is A.σ = some kept) (hni : is.contains i = false) (t : ByteArray) (hl : bs.length + 300 ≤ 2147483647) : Calls Try.prog 60 #[.agg #[.pointer (some ⟨pw, 0, none⟩)], .string t] w fun e w' => (∃ F', decide (t.size ≤ 255) = true ∧ e = .returned (.tuple #[]) ∧ A.n ≤ w'.heap.size ∧ Sat { A with n := w'.heap.size, σ := A.σ.set i (wrC pw F' (bs ++ encName t)) } w') ∨ (decide (t.size ≤ 255) = false ∧ e = .panicked wideP ∧ A.n ≤ w'.heap.size ∧ Sat { A with n := w'.heap.size, σ := kept } w') :=
  (name_calls w pw F bs (h.at hi) t hl).mono (fun e w' hP => wrP_sat h hi is hnd hp hni hP)
theorem window_calls (w : World) (pw : Nat) (F : Nat → Prop) (bs : List Int) (hw : WrIs w pw F bs) (x : TWindow) (hl : bs.length + 12 ≤ 2147483647) : Calls Try.prog 59 #[.agg #[.pointer (some ⟨pw, 0, none⟩)], .agg (TWindow.arr x)] w fun e w' => WrPostP w pw F bs (okW x) (encW x) e w' := by
 obtain ⟨z, hz⟩ : ∃ z, z = w.heap.size := ⟨_, rfl⟩
 refine calls_G (args := [.agg #[pt pw], .agg (TWindow.arr x)]) 22 ⟨w, z, [(old F w), (wrC pw F bs)]⟩ Try.func59 rfl (by kernel_rfl) (by kernel_rfl) (hz ▸ sat_wrC hw) ?_
 refine g_keep [0, 1] [(0, .agg #[pt pw]), (1, .agg (TWindow.arr x))] ?_
 refine q_c 6 0 [] [[o0, o0]] [] [(2, pt z), (3, pt (z + 1))] ⟨w, z + 2, [(old F w), (wrC pw F bs), (bk z #[pt pw] 56), (bk (z + 1) (TWindow.arr x) 97)]⟩ rfl trivial ?_
 by_cases h1 : (x.Partition : Int) < -1
 · refine q_cS 5 2 [1] [[o0, (a1 3), oT], [o0, o0]] [Qb (z + 1), BT ((x.Partition : Int) < (-1))] [(2, pt z), (3, pt (z + 1)), (8, .iface 52 (.agg #[]))] rfl ⟨rfl, bt (by omega), trivial⟩ ?_
   refine l_panic (.iface 52 (.agg #[])) ?_
   refine e_panicR ?_
   intro w2 hw2
   refine .inr ⟨(by unfold okW; rw [decide_eq_false (by omega : ¬ -1 ≤ x.Partition)]; simp), rfl, back0 hw2⟩
 · refine q_cS 8 4 [0] [[o0, (a1 3), oF], [(a1 2), o0, (a1 3), o0]] [Qb (z + 1), BF ((x.Partition : Int) < (-1)), Qb z, Qb (z + 1)] [(2, pt z), (3, pt (z + 1)), (9, .agg #[pt pw]), (12, i6 (IntKind.i64.wrap (x.Partition + 1)))] rfl ⟨rfl, bf (by omega), rfl, rfl, trivial⟩ ?_
   refine l_callX [] [] 26 #[.agg #[pt pw], i6 (IntKind.i64.wrap (x.Partition + 1))] (some 13) trivial ?_
   intro w3 hw3
   refine (number_satP hw3 (i := 1) [0, 2, 3] rfl rfl rfl rfl (IntKind.i64.wrap (x.Partition + 1)) (by first | omega | (simp only [List.length_append, leB_len, List.length_cons, List.length_nil]; omega))).mono ?_
   rintro e w5 (⟨F4, ho6, rfl, hmw5, hSw5⟩ | ⟨ho6, rfl, hmw5, hSw5⟩)
   · have hnw5 : z + 2 ≤ w5.heap.size := hmw5
     refine .inl ⟨_, _, rfl, hSw5, ?_⟩
     refine q_rS 4 3 [] [[], [(a1 2), o0, (a1 3)]] [Qb z, Qb (z + 1)] [(2, pt z), (3, pt (z + 1)), (14, .agg #[pt pw]), (16, i6 x.Usable)] rfl ⟨rfl, rfl, trivial⟩ ?_
     refine l_callX [] [] 26 #[.agg #[pt pw], i6 x.Usable] (some 17) trivial ?_
     intro w7 hw7
     refine (number_satP hw7 (i := 1) [0, 2, 3] rfl rfl rfl rfl x.Usable (by first | omega | (simp only [List.length_append, leB_len, List.length_cons, List.length_nil]; omega))).mono ?_
     rintro e w9 (⟨F8, ho10, rfl, hmw9, hSw9⟩ | ⟨ho10, rfl, hmw9, hSw9⟩)
     · have hnw9 : w5.heap.size ≤ w9.heap.size := hmw9
       refine .inl ⟨_, _, rfl, hSw9, ?_⟩
       refine q_rS 3 3 [] [[], [(a1 2), o0, (a1 3)]] [Qb z, Qb (z + 1)] [(18, .agg #[pt pw]), (20, i6 x.Slack)] rfl ⟨rfl, rfl, trivial⟩ ?_
       refine l_callX [] [] 26 #[.agg #[pt pw], i6 x.Slack] (some 21) trivial ?_
       intro w11 hw11
       refine (number_satP hw11 (i := 1) [0, 2, 3] rfl rfl rfl rfl x.Slack (by first | omega | (simp only [List.length_append, leB_len, List.length_cons, List.length_nil]; omega))).mono ?_
       rintro e w13 (⟨F12, ho14, rfl, hmw13, hSw13⟩ | ⟨ho14, rfl, hmw13, hSw13⟩)
       · have hnw13 : w9.heap.size ≤ w13.heap.size := hmw13
         refine .inl ⟨_, _, rfl, hSw13, ?_⟩
         refine l_keep [] [] ?_
         refine l_nil (by kernel_rfl) ?_
         -- the function's end
         refine e_end [] [] (.tuple #[]) trivial ?_
         intro w15 hw15
         have hD := wr_end hw15 rfl (show w.heap.size ≤ w13.heap.size by omega) rfl (j := 1) rfl (by decide) hw
         rw [show (((bs ++ leB (IntKind.i64.wrap (x.Partition + 1)) 4) ++ leB x.Usable 4) ++ leB x.Slack 4) = bs ++ encW x from by unfold encW; simp only [List.append_assoc]] at hD
         exact .inl ⟨(by unfold okW; rw [ho6, ho10, ho14, decide_eq_true (by omega : -1 ≤ x.Partition)]; rfl), rfl, hD⟩
       · have hnw13 : w9.heap.size ≤ w13.heap.size := hmw13
         refine .inr ⟨_, _, rfl, hSw13, ?_⟩
         refine e_panicR ?_
         intro w16 hw16
         refine .inr ⟨(by unfold okW; rw [ho14]; simp), rfl, back0 hw16⟩
     · have hnw9 : w5.heap.size ≤ w9.heap.size := hmw9
       refine .inr ⟨_, _, rfl, hSw9, ?_⟩
       refine e_panicR ?_
       intro w17 hw17
       refine .inr ⟨(by unfold okW; rw [ho10]; simp), rfl, back0 hw17⟩
   · have hnw5 : z + 2 ≤ w5.heap.size := hmw5
     refine .inr ⟨_, _, rfl, hSw5, ?_⟩
     refine e_panicR ?_
     intro w18 hw18
     refine .inr ⟨(by unfold okW; rw [ho6]; simp), rfl, back0 hw18⟩
theorem window_satP {A : AW} {w : World} {i pw : Nat} {F : Nat → Prop} {bs : List Int} {kept : List Ch} (h : Sat A w) (is : List Nat) (hi : A.σ[i]? = some (wrC pw F bs)) (hnd : nodupB is = true) (hp : picks is A.σ = some kept) (hni : is.contains i = false) (x : TWindow) (hl : bs.length + 12 ≤ 2147483647) : Calls Try.prog 59 #[.agg #[.pointer (some ⟨pw, 0, none⟩)], .agg (TWindow.arr x)] w fun e w' => (∃ F', okW x = true ∧ e = .returned (.tuple #[]) ∧ A.n ≤ w'.heap.size ∧ Sat { A with n := w'.heap.size, σ := A.σ.set i (wrC pw F' (bs ++ encW x)) } w') ∨ (okW x = false ∧ e = .panicked wideP ∧ A.n ≤ w'.heap.size ∧ Sat { A with n := w'.heap.size, σ := kept } w') :=
  (window_calls w pw F bs (h.at hi) x hl).mono (fun e w' hP => wrP_sat h hi is hnd hp hni hP)
theorem region_calls (w : World) (pw : Nat) (F : Nat → Prop) (bs : List Int) (hw : WrIs w pw F bs) (x : TRegion) (hl : bs.length + 16 ≤ 2147483647) : Calls Try.prog 62 #[.agg #[.pointer (some ⟨pw, 0, none⟩)], .agg (TRegion.arr x)] w fun e w' => WrPostP w pw F bs (okR x) (encR x) e w' := by
 obtain ⟨z, hz⟩ : ∃ z, z = w.heap.size := ⟨_, rfl⟩
 refine calls_G (args := [.agg #[pt pw], .agg (TRegion.arr x)]) 20 ⟨w, z, [(old F w), (wrC pw F bs)]⟩ Try.func62 rfl (by kernel_rfl) (by kernel_rfl) (hz ▸ sat_wrC hw) ?_
 refine g_keep [0, 1] [(0, .agg #[pt pw]), (1, .agg (TRegion.arr x))] ?_
 refine q_c 6 3 [] [[o0, o0], [(a1 2), o0, (a1 3)]] [Qb z, Qb (z + 1)] [(2, pt z), (3, pt (z + 1)), (4, .agg #[pt pw]), (6, i6 x.Page)] ⟨w, z + 2, [(old F w), (wrC pw F bs), (bk z #[pt pw] 56), (bk (z + 1) (TRegion.arr x) 99)]⟩ rfl ⟨rfl, rfl, trivial⟩ ?_
 refine l_callX [] [] 26 #[.agg #[pt pw], i6 x.Page] (some 7) trivial ?_
 intro w1 hw1
 refine (number_satP hw1 (i := 1) [0, 2, 3] rfl rfl rfl rfl x.Page (by first | omega | (simp only [List.length_append, leB_len, List.length_cons, List.length_nil]; omega))).mono ?_
 rintro e w3 (⟨F2, ho4, rfl, hmw3, hSw3⟩ | ⟨ho4, rfl, hmw3, hSw3⟩)
 · have hnw3 : z + 2 ≤ w3.heap.size := hmw3
   refine .inl ⟨_, _, rfl, hSw3, ?_⟩
   refine q_rS 4 3 [] [[], [(a1 2), o0, (a1 3)]] [Qb z, Qb (z + 1)] [(2, pt z), (3, pt (z + 1)), (8, .agg #[pt pw]), (10, i6 x.Pages)] rfl ⟨rfl, rfl, trivial⟩ ?_
   refine l_callX [] [] 26 #[.agg #[pt pw], i6 x.Pages] (some 11) trivial ?_
   intro w5 hw5
   refine (number_satP hw5 (i := 1) [0, 2, 3] rfl rfl rfl rfl x.Pages (by first | omega | (simp only [List.length_append, leB_len, List.length_cons, List.length_nil]; omega))).mono ?_
   rintro e w7 (⟨F6, ho8, rfl, hmw7, hSw7⟩ | ⟨ho8, rfl, hmw7, hSw7⟩)
   · have hnw7 : w3.heap.size ≤ w7.heap.size := hmw7
     refine .inl ⟨_, _, rfl, hSw7, ?_⟩
     refine q_rS 4 3 [] [[], [(a1 2), o0, (a1 3)]] [Qb z, Qb (z + 1)] [(2, pt z), (3, pt (z + 1)), (12, .agg #[pt pw]), (14, i6 x.Frame)] rfl ⟨rfl, rfl, trivial⟩ ?_
     refine l_callX [] [] 26 #[.agg #[pt pw], i6 x.Frame] (some 15) trivial ?_
     intro w9 hw9
     refine (number_satP hw9 (i := 1) [0, 2, 3] rfl rfl rfl rfl x.Frame (by first | omega | (simp only [List.length_append, leB_len, List.length_cons, List.length_nil]; omega))).mono ?_
     rintro e w11 (⟨F10, ho12, rfl, hmw11, hSw11⟩ | ⟨ho12, rfl, hmw11, hSw11⟩)
     · have hnw11 : w7.heap.size ≤ w11.heap.size := hmw11
       refine .inl ⟨_, _, rfl, hSw11, ?_⟩
       refine q_rS 3 3 [] [[], [(a1 2), o0, (a1 3)]] [Qb z, Qb (z + 1)] [(16, .agg #[pt pw]), (18, i6 x.Rights)] rfl ⟨rfl, rfl, trivial⟩ ?_
       refine l_callX [] [] 26 #[.agg #[pt pw], i6 x.Rights] (some 19) trivial ?_
       intro w13 hw13
       refine (number_satP hw13 (i := 1) [0, 2, 3] rfl rfl rfl rfl x.Rights (by first | omega | (simp only [List.length_append, leB_len, List.length_cons, List.length_nil]; omega))).mono ?_
       rintro e w15 (⟨F14, ho16, rfl, hmw15, hSw15⟩ | ⟨ho16, rfl, hmw15, hSw15⟩)
       · have hnw15 : w11.heap.size ≤ w15.heap.size := hmw15
         refine .inl ⟨_, _, rfl, hSw15, ?_⟩
         refine l_keep [] [] ?_
         refine l_nil (by kernel_rfl) ?_
         -- the function's end
         refine e_end [] [] (.tuple #[]) trivial ?_
         intro w17 hw17
         have hD := wr_end hw17 rfl (show w.heap.size ≤ w15.heap.size by omega) rfl (j := 1) rfl (by decide) hw
         rw [show ((((bs ++ leB x.Page 4) ++ leB x.Pages 4) ++ leB x.Frame 4) ++ leB x.Rights 4) = bs ++ encR x from by unfold encR; simp only [List.append_assoc]] at hD
         exact .inl ⟨(by unfold okR; rw [ho4, ho8, ho12, ho16] <;> rfl), rfl, hD⟩
       · have hnw15 : w11.heap.size ≤ w15.heap.size := hmw15
         refine .inr ⟨_, _, rfl, hSw15, ?_⟩
         refine e_panicR ?_
         intro w18 hw18
         refine .inr ⟨(by unfold okR; rw [ho16] <;> simp), rfl, back0 hw18⟩
     · have hnw11 : w7.heap.size ≤ w11.heap.size := hmw11
       refine .inr ⟨_, _, rfl, hSw11, ?_⟩
       refine e_panicR ?_
       intro w19 hw19
       refine .inr ⟨(by unfold okR; rw [ho12] <;> simp), rfl, back0 hw19⟩
   · have hnw7 : w3.heap.size ≤ w7.heap.size := hmw7
     refine .inr ⟨_, _, rfl, hSw7, ?_⟩
     refine e_panicR ?_
     intro w20 hw20
     refine .inr ⟨(by unfold okR; rw [ho8] <;> simp), rfl, back0 hw20⟩
 · have hnw3 : z + 2 ≤ w3.heap.size := hmw3
   refine .inr ⟨_, _, rfl, hSw3, ?_⟩
   refine e_panicR ?_
   intro w21 hw21
   refine .inr ⟨(by unfold okR; rw [ho4] <;> simp), rfl, back0 hw21⟩
theorem region_satP {A : AW} {w : World} {i pw : Nat} {F : Nat → Prop} {bs : List Int} {kept : List Ch} (h : Sat A w) (is : List Nat) (hi : A.σ[i]? = some (wrC pw F bs)) (hnd : nodupB is = true) (hp : picks is A.σ = some kept) (hni : is.contains i = false) (x : TRegion) (hl : bs.length + 16 ≤ 2147483647) : Calls Try.prog 62 #[.agg #[.pointer (some ⟨pw, 0, none⟩)], .agg (TRegion.arr x)] w fun e w' => (∃ F', okR x = true ∧ e = .returned (.tuple #[]) ∧ A.n ≤ w'.heap.size ∧ Sat { A with n := w'.heap.size, σ := A.σ.set i (wrC pw F' (bs ++ encR x)) } w') ∨ (okR x = false ∧ e = .panicked wideP ∧ A.n ≤ w'.heap.size ∧ Sat { A with n := w'.heap.size, σ := kept } w') :=
  (region_calls w pw F bs (h.at hi) x hl).mono (fun e w' hP => wrP_sat h hi is hnd hp hni hP)
theorem port_calls (w : World) (pw : Nat) (F : Nat → Prop) (bs : List Int) (hw : WrIs w pw F bs) (x : TPort) (hl : bs.length + 5 ≤ 2147483647) : Calls Try.prog 64 #[.agg #[.pointer (some ⟨pw, 0, none⟩)], .agg (TPort.arr x)] w fun e w' => WrPostP w pw F bs (okP x) (encP x) e w' := by
 obtain ⟨z, hz⟩ : ∃ z, z = w.heap.size := ⟨_, rfl⟩
 refine calls_G (args := [.agg #[pt pw], .agg (TPort.arr x)]) 16 ⟨w, z, [(old F w), (wrC pw F bs)]⟩ Try.func64 rfl (by kernel_rfl) (by kernel_rfl) (hz ▸ sat_wrC hw) ?_
 refine g_keep [0, 1] [(0, .agg #[pt pw]), (1, .agg (TPort.arr x))] ?_
 refine q_c 6 3 [] [[o0, o0], [(a1 2), o0, (a1 3)]] [Qb z, Qb (z + 1)] [(2, pt z), (3, pt (z + 1)), (4, .agg #[pt pw]), (6, i6 x.Channel)] ⟨w, z + 2, [(old F w), (wrC pw F bs), (bk z #[pt pw] 56), (bk (z + 1) (TPort.arr x) 101)]⟩ rfl ⟨rfl, rfl, trivial⟩ ?_
 refine l_callX [] [] 26 #[.agg #[pt pw], i6 x.Channel] (some 7) trivial ?_
 intro w1 hw1
 refine (number_satP hw1 (i := 1) [0, 2, 3] rfl rfl rfl rfl x.Channel (by first | omega | (simp only [List.length_append, leB_len, List.length_cons, List.length_nil]; omega))).mono ?_
 rintro e w3 (⟨F2, ho4, rfl, hmw3, hSw3⟩ | ⟨ho4, rfl, hmw3, hSw3⟩)
 · have hnw3 : z + 2 ≤ w3.heap.size := hmw3
   refine .inl ⟨_, _, rfl, hSw3, ?_⟩
   refine q_rS 6 0 [] [[], [o0, (a1 3)]] [Qb (z + 1)] [(2, pt z), (9, .bool x.Source)] rfl ⟨rfl, trivial⟩ ?_
   by_cases h5 : x.Source = true
   · refine q_cS 2 2 [3] [[o0, (a1 2)]] [Value.bool x.Source = Value.bool true, Qb z] [(11, pt pw)] rfl ⟨(congrArg Value.bool h5), rfl, trivial⟩ ?_
     refine l_call [] [] 57 #[pt pw, .int .u8 1] (some 12) trivial ?_
     intro w6 hw6
     refine (u8_sat hw6 (i := 1) rfl 1 (by omega) (by first | omega | (simp only [List.length_append, leB_len, List.length_cons, List.length_nil]; omega))).mono ?_
     rintro e w8 ⟨F7, rfl, hmw8, hSw8⟩; have hnw8 : w3.heap.size ≤ w8.heap.size := hmw8
     refine ⟨_, _, rfl, hSw8, ?_⟩
     refine l_keep [] [] ?_
     refine l_nil (by kernel_rfl) ?_
     -- the function's end
     refine e_end [] [] (.tuple #[]) trivial ?_
     intro w9 hw9
     have hD := wr_end hw9 rfl (show w.heap.size ≤ w8.heap.size by omega) rfl (j := 1) rfl (by decide) hw
     rw [show ((bs ++ leB x.Channel 4) ++ [1]) = bs ++ encP x from by unfold encP; rw [h5]; simp only [List.append_assoc]; rfl] at hD
     exact .inl ⟨(by unfold okP; rw [ho4] <;> rfl), rfl, hD⟩
   · refine q_cS 2 2 [2] [[o0, (a1 2)]] [Value.bool x.Source = Value.bool false, Qb z] [(14, pt pw)] rfl ⟨(congrArg Value.bool (Bool.eq_false_iff.2 h5)), rfl, trivial⟩ ?_
     refine l_call [] [] 57 #[pt pw, .int .u8 0] (some 15) trivial ?_
     intro w10 hw10
     refine (u8_sat hw10 (i := 1) rfl 0 (by omega) (by first | omega | (simp only [List.length_append, leB_len, List.length_cons, List.length_nil]; omega))).mono ?_
     rintro e w12 ⟨F11, rfl, hmw12, hSw12⟩; have hnw12 : w3.heap.size ≤ w12.heap.size := hmw12
     refine ⟨_, _, rfl, hSw12, ?_⟩
     refine l_keep [] [] ?_
     refine l_nil (by kernel_rfl) ?_
     -- the function's end
     refine e_end [] [] (.tuple #[]) trivial ?_
     intro w13 hw13
     have hD := wr_end hw13 rfl (show w.heap.size ≤ w12.heap.size by omega) rfl (j := 1) rfl (by decide) hw
     rw [show ((bs ++ leB x.Channel 4) ++ [0]) = bs ++ encP x from by unfold encP; rw [Bool.eq_false_iff.2 h5]; simp only [List.append_assoc]; rfl] at hD
     exact .inl ⟨(by unfold okP; rw [ho4] <;> rfl), rfl, hD⟩
 · have hnw3 : z + 2 ≤ w3.heap.size := hmw3
   refine .inr ⟨_, _, rfl, hSw3, ?_⟩
   refine e_panicR ?_
   intro w14 hw14
   refine .inr ⟨(by unfold okP; rw [ho4] <;> simp), rfl, back0 hw14⟩
theorem port_satP {A : AW} {w : World} {i pw : Nat} {F : Nat → Prop} {bs : List Int} {kept : List Ch} (h : Sat A w) (is : List Nat) (hi : A.σ[i]? = some (wrC pw F bs)) (hnd : nodupB is = true) (hp : picks is A.σ = some kept) (hni : is.contains i = false) (x : TPort) (hl : bs.length + 5 ≤ 2147483647) : Calls Try.prog 64 #[.agg #[.pointer (some ⟨pw, 0, none⟩)], .agg (TPort.arr x)] w fun e w' => (∃ F', okP x = true ∧ e = .returned (.tuple #[]) ∧ A.n ≤ w'.heap.size ∧ Sat { A with n := w'.heap.size, σ := A.σ.set i (wrC pw F' (bs ++ encP x)) } w') ∨ (okP x = false ∧ e = .panicked wideP ∧ A.n ≤ w'.heap.size ∧ Sat { A with n := w'.heap.size, σ := kept } w') :=
  (port_calls w pw F bs (h.at hi) x hl).mono (fun e w' hP => wrP_sat h hi is hnd hp hni hP)
theorem channel_calls (w : World) (pw : Nat) (F : Nat → Prop) (bs : List Int) (hw : WrIs w pw F bs) (x : TChannel) (hl : bs.length + 12 ≤ 2147483647) : Calls Try.prog 32 #[.agg #[.pointer (some ⟨pw, 0, none⟩)], .agg (TChannel.arr x)] w fun e w' => WrPostP w pw F bs (okC x) (encC x) e w' := by
 obtain ⟨z, hz⟩ : ∃ z, z = w.heap.size := ⟨_, rfl⟩
 refine calls_G (args := [.agg #[pt pw], .agg (TChannel.arr x)]) 16 ⟨w, z, [(old F w), (wrC pw F bs)]⟩ Try.func32 rfl (by kernel_rfl) (by kernel_rfl) (hz ▸ sat_wrC hw) ?_
 refine g_keep [0, 1] [(0, .agg #[pt pw]), (1, .agg (TChannel.arr x))] ?_
 refine q_c 6 3 [] [[o0, o0], [(a1 2), o0, (a1 3)]] [Qb z, Qb (z + 1)] [(2, pt z), (3, pt (z + 1)), (4, .agg #[pt pw]), (6, i6 x.Kind)] ⟨w, z + 2, [(old F w), (wrC pw F bs), (bk z #[pt pw] 56), (bk (z + 1) (TChannel.arr x) 74)]⟩ rfl ⟨rfl, rfl, trivial⟩ ?_
 refine l_callX [] [] 26 #[.agg #[pt pw], i6 x.Kind] (some 7) trivial ?_
 intro w1 hw1
 refine (number_satP hw1 (i := 1) [0, 2, 3] rfl rfl rfl rfl x.Kind (by first | omega | (simp only [List.length_append, leB_len, List.length_cons, List.length_nil]; omega))).mono ?_
 rintro e w3 (⟨F2, ho4, rfl, hmw3, hSw3⟩ | ⟨ho4, rfl, hmw3, hSw3⟩)
 · have hnw3 : z + 2 ≤ w3.heap.size := hmw3
   refine .inl ⟨_, _, rfl, hSw3, ?_⟩
   refine q_rS 4 3 [] [[], [(a1 2), o0, (a1 3)]] [Qb z, Qb (z + 1)] [(2, pt z), (3, pt (z + 1)), (8, .agg #[pt pw]), (10, i6 x.Words)] rfl ⟨rfl, rfl, trivial⟩ ?_
   refine l_callX [] [] 26 #[.agg #[pt pw], i6 x.Words] (some 11) trivial ?_
   intro w5 hw5
   refine (number_satP hw5 (i := 1) [0, 2, 3] rfl rfl rfl rfl x.Words (by first | omega | (simp only [List.length_append, leB_len, List.length_cons, List.length_nil]; omega))).mono ?_
   rintro e w7 (⟨F6, ho8, rfl, hmw7, hSw7⟩ | ⟨ho8, rfl, hmw7, hSw7⟩)
   · have hnw7 : w3.heap.size ≤ w7.heap.size := hmw7
     refine .inl ⟨_, _, rfl, hSw7, ?_⟩
     refine q_rS 3 3 [] [[], [(a1 2), o0, (a1 3)]] [Qb z, Qb (z + 1)] [(12, .agg #[pt pw]), (14, i6 x.Depth)] rfl ⟨rfl, rfl, trivial⟩ ?_
     refine l_callX [] [] 26 #[.agg #[pt pw], i6 x.Depth] (some 15) trivial ?_
     intro w9 hw9
     refine (number_satP hw9 (i := 1) [0, 2, 3] rfl rfl rfl rfl x.Depth (by first | omega | (simp only [List.length_append, leB_len, List.length_cons, List.length_nil]; omega))).mono ?_
     rintro e w11 (⟨F10, ho12, rfl, hmw11, hSw11⟩ | ⟨ho12, rfl, hmw11, hSw11⟩)
     · have hnw11 : w7.heap.size ≤ w11.heap.size := hmw11
       refine .inl ⟨_, _, rfl, hSw11, ?_⟩
       refine l_keep [] [] ?_
       refine l_nil (by kernel_rfl) ?_
       -- the function's end
       refine e_end [] [] (.tuple #[]) trivial ?_
       intro w13 hw13
       have hD := wr_end hw13 rfl (show w.heap.size ≤ w11.heap.size by omega) rfl (j := 1) rfl (by decide) hw
       rw [show (((bs ++ leB x.Kind 4) ++ leB x.Words 4) ++ leB x.Depth 4) = bs ++ encC x from by unfold encC; simp only [List.append_assoc]] at hD
       exact .inl ⟨(by unfold okC; rw [ho4, ho8, ho12] <;> rfl), rfl, hD⟩
     · have hnw11 : w7.heap.size ≤ w11.heap.size := hmw11
       refine .inr ⟨_, _, rfl, hSw11, ?_⟩
       refine e_panicR ?_
       intro w14 hw14
       refine .inr ⟨(by unfold okC; rw [ho12] <;> simp), rfl, back0 hw14⟩
   · have hnw7 : w3.heap.size ≤ w7.heap.size := hmw7
     refine .inr ⟨_, _, rfl, hSw7, ?_⟩
     refine e_panicR ?_
     intro w15 hw15
     refine .inr ⟨(by unfold okC; rw [ho8] <;> simp), rfl, back0 hw15⟩
 · have hnw3 : z + 2 ≤ w3.heap.size := hmw3
   refine .inr ⟨_, _, rfl, hSw3, ?_⟩
   refine e_panicR ?_
   intro w16 hw16
   refine .inr ⟨(by unfold okC; rw [ho4] <;> simp), rfl, back0 hw16⟩
theorem channel_satP {A : AW} {w : World} {i pw : Nat} {F : Nat → Prop} {bs : List Int} {kept : List Ch} (h : Sat A w) (is : List Nat) (hi : A.σ[i]? = some (wrC pw F bs)) (hnd : nodupB is = true) (hp : picks is A.σ = some kept) (hni : is.contains i = false) (x : TChannel) (hl : bs.length + 12 ≤ 2147483647) : Calls Try.prog 32 #[.agg #[.pointer (some ⟨pw, 0, none⟩)], .agg (TChannel.arr x)] w fun e w' => (∃ F', okC x = true ∧ e = .returned (.tuple #[]) ∧ A.n ≤ w'.heap.size ∧ Sat { A with n := w'.heap.size, σ := A.σ.set i (wrC pw F' (bs ++ encC x)) } w') ∨ (okC x = false ∧ e = .panicked wideP ∧ A.n ≤ w'.heap.size ∧ Sat { A with n := w'.heap.size, σ := kept } w') :=
  (channel_calls w pw F bs (h.at hi) x hl).mono (fun e w' hP => wrP_sat h hi is hnd hp hni hP)

end Go.Proofs.Ytmmkacfeocnblaa.Ly
