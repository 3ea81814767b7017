/- The cursor's lists. No conditions. -/
import Derived.Test.YtmmkacfeocnblaaYl
namespace Go.Proofs.Ytmmkacfeocnblaa.Ly
open Go Go.Proofs.Ytmmkacfeocnblaa.Eng Go.Proofs.Ytmmkacfeocnblaa.Mem
set_option linter.unusedSimpArgs false
set_option linter.unusedVariables false
set_option maxRecDepth 100000

section
variable {w : World} {pc : Nat} {l : Sl Int} {at0 : Nat} {bad : Bool}
theorem snum_calls (hc : CurIs w pc l at0 bad) (hl : SlAt u8c 1 (fun x => x < w.heap.size ∧ ¬ x = pc) w l) (hB : Byt l.xs) (hlen : l.xs.length ≤ 16384) (hat : at0 ≤ l.xs.length) : Calls Try.prog 47 #[.pointer (some ⟨pc, 0, none⟩), .int .i64 4] w fun e w' => CPost w pc l at0 bad (numAt l.xs at0) (fun v => .int .i64 v) (fun v => 0 ≤ v ∧ v ≤ 4294967295) e w' := by
  cases bad
  · refine (cnum_good w pc l at0 hc hl hB hlen hat 4 ⟨by omega, by omega⟩).mono ?_
    rintro e w' ⟨⟨h1, rfl, h2⟩ | ⟨h1, rfl, h2⟩, hk⟩
    · exact ⟨_, false, _, rfl, .inr (.inl ⟨rfl, rfl, numAt_ok h1⟩), leV_bd hB at0, h1, h2, hk⟩
    · exact ⟨0, true, _, rfl, .inr (.inr ⟨rfl, rfl, numAt_no (by omega)⟩), ⟨by omega, by omega⟩, hat, h2, hk⟩
  · refine (cnum_bad w pc l at0 hc hl hB hlen hat 4 ⟨by omega, by omega⟩).mono ?_
    rintro e w' ⟨rfl, h2, hk⟩
    exact ⟨0, true, _, rfl, .inl ⟨rfl, rfl, rfl⟩, ⟨by omega, by omega⟩, hat, h2, hk⟩
theorem sbyte_calls (hc : CurIs w pc l at0 bad) (hl : SlAt u8c 1 (fun x => x < w.heap.size ∧ ¬ x = pc) w l) (hB : Byt l.xs) (hlen : l.xs.length ≤ 16384) (hat : at0 ≤ l.xs.length) : Calls Try.prog 47 #[.pointer (some ⟨pc, 0, none⟩), .int .i64 1] w fun e w' => CPost w pc l at0 bad (byteAt l.xs at0) (fun v => .int .i64 v) (fun v => (0 ≤ v ∧ v ≤ 255) ∧ (bad = true → v = 0)) e w' := by
  cases bad
  · refine (cnum_good w pc l at0 hc hl hB hlen hat 1 ⟨by omega, by omega⟩).mono ?_
    have h0 := leV_one (b := l.xs) at0
    have h9 := byt_gd hB at0
    rintro e w' ⟨⟨h1, rfl, h2⟩ | ⟨h1, rfl, h2⟩, hk⟩
    · exact ⟨_, false, _, rfl, .inr (.inl ⟨rfl, rfl, by rw [h0]; exact byteAt_ok h1⟩), ⟨by omega, by simp⟩, h1, h2, hk⟩
    · exact ⟨0, true, _, rfl, .inr (.inr ⟨rfl, rfl, byteAt_no (by omega)⟩), ⟨by omega, by simp⟩, hat, h2, hk⟩
  · refine (cnum_bad w pc l at0 hc hl hB hlen hat 1 ⟨by omega, by omega⟩).mono ?_
    rintro e w' ⟨rfl, h2, hk⟩
    exact ⟨0, true, _, rfl, .inl ⟨rfl, rfl, rfl⟩, ⟨by omega, fun _ => rfl⟩, hat, h2, hk⟩
theorem stext_calls (hc : CurIs w pc l at0 bad) (hl : SlAt u8c 1 (fun x => x < w.heap.size ∧ ¬ x = pc) w l) (hB : Byt l.xs) (hlen : l.xs.length ≤ 16384) (hat : at0 ≤ l.xs.length) : Calls Try.prog 98 #[.pointer (some ⟨pc, 0, none⟩)] w fun e w' => CPost w pc l at0 bad (textAt l.xs at0) (fun v => .string v) (fun _ => True) e w' := by
  cases bad
  · refine (ctext_good w pc l at0 hc hl hB hlen hat).mono ?_
    rintro e w' ⟨⟨x, a, h1, rfl, h2, h3⟩ | ⟨h1, rfl, h2⟩, hk⟩
    · exact ⟨_, false, _, rfl, .inr (.inl ⟨rfl, rfl, h1⟩), trivial, h2, h3, hk⟩
    · exact ⟨_, true, _, rfl, .inr (.inr ⟨rfl, rfl, h1⟩), trivial, hat, h2, hk⟩
  · refine (ctext_bad w pc l at0 hc hl hB hlen hat).mono ?_
    rintro e w' ⟨rfl, h2, hk⟩
    exact ⟨_, true, _, rfl, .inl ⟨rfl, rfl, rfl⟩, trivial, hat, h2, hk⟩
theorem ssrc_calls (hc : CurIs w pc l at0 bad) (hl : SlAt u8c 1 (fun x => x < w.heap.size ∧ ¬ x = pc) w l) (hB : Byt l.xs) (hlen : l.xs.length ≤ 16384) (hat : at0 ≤ l.xs.length) : Calls Try.prog 105 #[.pointer (some ⟨pc, 0, none⟩)] w fun e w' => CPost w pc l at0 bad (srcAt l.xs at0) (fun v => .bool v) (fun _ => True) e w' := by
  cases bad
  · refine (csrc_good w pc l at0 hc hl hB hlen hat).mono ?_
    rintro e w' ⟨⟨x, a, h1, rfl, h2, h3⟩ | ⟨h1, rfl, h2⟩, hk⟩
    · exact ⟨_, false, _, rfl, .inr (.inl ⟨rfl, rfl, h1⟩), trivial, h2, h3, hk⟩
    · exact ⟨_, true, _, rfl, .inr (.inr ⟨rfl, rfl, h1⟩), trivial, hat, h2, hk⟩
  · refine (csrc_bad w pc l at0 hc hl hB hlen hat).mono ?_
    rintro e w' ⟨rfl, h2, hk⟩
    exact ⟨_, true, _, rfl, .inl ⟨rfl, rfl, rfl⟩, trivial, hat, h2, hk⟩
end
/-- A list under way: i of them were read, or it has become bad. -/
def LStep {α : Type} (bd1 : Bool) (a1 : Nat) (one : Nat → PR α) (i : Nat) (bd : Bool) (a : Nat) (xs : List α) : Prop := (bd1 = true ∧ bd = true ∧ a = a1) ∨ (bd1 = false ∧ bd = false ∧ many one i a1 = .ok xs a) ∨ (bd1 = false ∧ bd = true ∧ ∀ k, i ≤ k → many one k a1 = .no a)
theorem lstep_zero {α : Type} (bd1 : Bool) (a1 : Nat) (one : Nat → PR α) : LStep bd1 a1 one 0 bd1 a1 [] := by
  cases bd1
  · exact .inr (.inl ⟨rfl, rfl, rfl⟩)
  · exact .inl ⟨rfl, rfl, rfl⟩
theorem LStep.more {α : Type} {bd1 bd : Bool} {a1 a a2 i : Nat} {one : Nat → PR α} {xs : List α} {x : α} (h : LStep bd1 a1 one i false a xs) (hx : Step false a (one a) bd a2 x) : LStep bd1 a1 one (i + 1) bd a2 (xs ++ [x]) := by
  rcases h with ⟨-, e, -⟩ | ⟨e1, -, h⟩ | ⟨-, e, -⟩
  · cases e
  · rcases hx with ⟨e, -⟩ | ⟨-, e, h2⟩ | ⟨-, e, h2⟩
    · cases e
    · exact .inr (.inl ⟨e1, e, many_step h h2⟩)
    · exact .inr (.inr ⟨e1, e, fun k hk => many_stop h h2 k (by omega)⟩)
  · cases e
theorem LStep.done {α : Type} {b : List Int} {bad bd1 bd : Bool} {a0 a1 a i n : Nat} {one : Nat → PR α} {xs : List α} (h1 : Step bad a0 (byteAt b a0) bd1 a1 (n : Int)) (h : LStep bd1 a1 one i bd a xs) (hi : i = n ∨ (bd = true ∧ i ≤ n)) : Step bad a0 (listAt b one a0) bd a xs := by
  unfold listAt
  refine h1.bind ?_
  rw [Int.toNat_natCast]
  rcases h with ⟨e1, e2, e3⟩ | ⟨e1, e2, h⟩ | ⟨e1, e2, h⟩
  · exact .inl ⟨e1, e2, e3⟩
  · rcases hi with hi | ⟨hb, -⟩
    · exact .inr (.inl ⟨e1, e2, by rw [← hi]; exact h⟩)
    · rw [hb] at e2; cases e2
  · exact .inr (.inr ⟨e1, e2, h n (by omega)⟩)
def CLPost {α : Type} (w : World) (pc : Nat) (l : Sl Int) (at' : Nat) (bad : Bool) (r : PR (List α)) (E : TypeId) (sz : Nat) (cells : α → List Value) (e : Ending) (w' : World) : Prop :=
  ∃ xs bd a ad cap, e = .returned (.slice ad xs.length cap) ∧ Step bad at' r bd a xs ∧ xs.length ≤ 255 ∧ a ≤ l.xs.length ∧ CurIs w' pc l a bd ∧ Keeps (fun b => b = pc) w w' ∧ (rowL w.heap.size E sz cells (.slice ad xs.length cap) xs).holds w'
theorem cur_row {α : Type} {A : AW} {w w' : World} {i pc : Nat} {cp cp' : Array Value} {tp : TypeId} {e : TypeId} {sz : Nat} {cells : α → List Value} {v : Value} {xs : List α} (h : Sat A w) (hi : A.σ[i]? = some (.blk pc (.cells cp tp (0, 0)) true)) (hc : At w' pc (.cells cp' tp (0, 0))) (hk : Keeps (fun b => b = pc) w w') (ho : (rowL w.heap.size e sz cells v xs).holds w') (z : Nat) (hz : z ≤ A.n) : A.n ≤ w'.heap.size ∧ Sat { A with n := w'.heap.size, σ := A.σ.set i (.blk pc (.cells cp' tp (0, 0)) true) ++ [rowL z e sz cells v xs] } w' :=
  ⟨size_of h hk, h.turnMade hi rfl rfl hk hc (Ch.stable_blk _ _ _) (fun _ h => h) (sat_one (row_low ho (by rw [h.size]; exact hz)) (row_stable _ _ _ _ _ _) (fun b hb => ((show w'.ownsRow w.heap.size e sz v xs.length (xs.flatMap cells) from ho).lt b hb).2)) (fun d hd b hb => by rw [List.mem_singleton.1 hd] at hb; exact ((show w'.ownsRow w.heap.size e sz v xs.length (xs.flatMap cells) from ho).lt b hb).1)⟩
abbrev q7mt_0 (z : Nat) (aL : Option Addr) (xs : List TWindow) (cL : Nat) : Ch := rowL z 97 3 TWindow.cells (.slice aL xs.length cL) xs
abbrev q7mt_1 (pc : Nat) : Nat × Value := (0, pt pc)
theorem cwins (w : World) (pc : Nat) (l : Sl Int) (at0 : Nat) (bad : Bool) (hc : CurIs w pc l at0 bad) (hl : SlAt u8c 1 (fun x => x < w.heap.size ∧ ¬ x = pc) w l) (hB : Byt l.xs) (hlen : l.xs.length ≤ 16384) (hat : at0 ≤ l.xs.length) : Calls Try.prog 83 #[.pointer (some ⟨pc, 0, none⟩)] w fun e w' => CLPost w pc l at0 bad (listAt l.xs (winAt l.xs) at0) 97 3 TWindow.cells e w' := by
 obtain ⟨z, hz⟩ : ∃ z, z = w.heap.size := ⟨_, rfl⟩
 refine calls_G (args := [pt pc]) 38 ⟨w, z, [(old (fun b => b = pc) w), (bk pc #[.slice l.a l.xs.length l.cap, i6 (at0 : Int), .bool bad] 91)]⟩ Try.func83 rfl (by kernel_rfl) (by kernel_rfl) (hz ▸ sat_cur hc) ?_
 refine g_keep [0] [(q7mt_1 pc)] ?_
 refine q_cS 10 1 [] [[o0], [o0], [o0]] [] [(q7mt_1 pc), (3, .slice none 0 0), (9, pt pc)] rfl trivial ?_
 refine l_call [] [] 47 #[pt pc, i6 1] (some 10) trivial ?_
 intro w1 hw1
 refine (sbyte_calls (hw1.at (i := 1) rfl) (sl_mono (fun x _ _ hx hv => old_cell hv hx.2 _ (hw1.at (i := 0) rfl)) (fun x hx => ⟨Nat.lt_of_lt_of_le hx.1 (by rw [hw1.size]; show w.heap.size ≤ z; omega), hx.2⟩) hl) hB hlen (by omega)).mono ?_
 rintro e w5 ⟨v2, d3, n4, rfl, hstw5, hrxw5, hlaw5, hCw5, hkw5⟩
 obtain ⟨n6, rfl⟩ : ∃ n : Nat, v2 = (n : Int) := ⟨_, (Int.toNat_of_nonneg hrxw5.1.1).symm⟩
 obtain ⟨hnw5, hSw5⟩ := cur_set hw1 (i := 1) rfl hCw5 hkw5; have hnw5' : z ≤ w5.heap.size := hnw5
 refine ⟨_, _, rfl, hSw5, ?_⟩
 refine q_rS 8 0 [] [[o0], [o0]] [] [(q7mt_1 pc), (3, .slice none 0 0), (4, i6 (n6 : Int)), (5, i6 0)] rfl trivial ?_
 refine g_rowL z 97 3 TWindow.cells ?_
 refine g_loop (fun m a w' => ∃ (n8 : Nat) (i : Nat) (xs : List TWindow) (ati : Nat) (bd : Bool) (aL : Option Addr) (cL : Nat), m = n6 - i ∧ w5.heap.size ≤ n8 ∧ (i ≤ n6) ∧ (LStep d3 n4 (winAt l.xs) i bd ati xs) ∧ (xs.length = i) ∧ (ati ≤ l.xs.length) ∧ St 38 [(q7mt_1 pc), (3, .slice aL xs.length cL), (4, i6 (n6 : Int)), (5, i6 (i : Int))] [] ⟨w, n8, [(old (fun b => b = pc) w), (bk pc #[.slice l.a l.xs.length l.cap, i6 (ati : Int), .bool bd] 91), (q7mt_0 z aL xs cL)]⟩ a w') (n6 - 0) ?_ ?_
 · intro a w' hs; exact ⟨w5.heap.size, 0, ([]), n4, d3, none, 0, rfl, Nat.le_refl _, Nat.zero_le _, lstep_zero _ _ _, rfl, by omega, hs⟩
 · rintro m a w' ⟨n8, i, xs, ati, bd, aL, cL, rfl, hn7, hki, hm, hxl, hal, hs⟩
   refine (?_ : G Try.prog 38 [(q7mt_1 pc), (3, .slice aL xs.length cL), (4, i6 (n6 : Int)), (5, i6 (i : Int))] [] ⟨w, n8, [(old (fun b => b = pc) w), (bk pc #[.slice l.a l.xs.length l.cap, i6 (ati : Int), .bool bd] 91), (q7mt_0 z aL xs cL)]⟩ _ _ _) a w' hs
   clear hs a w'
   refine g_seq <| g_seq ?_
   by_cases h9 : ((i : Int) : Int) < (n6 : Int)
   · cases bd
     · refine q_cS 10 1 [1] [[o0, o0, oT, o0, o0, o0, o0, (a1 1), o0, o0], [o0]] [BT (((i : Int) : Int) < (n6 : Int)), Qb pc] [(q7mt_1 pc), (3, .slice aL xs.length cL), (4, i6 (n6 : Int)), (5, i6 (i : Int)), (23, pt pc)] rfl ⟨bt (by omega), rfl, trivial⟩ ?_
       refine l_call [] [] 47 #[pt pc, i6 4] (some 24) trivial ?_
       intro w10 hw10
       refine (snum_calls (hw10.at (i := 1) rfl) (sl_mono (fun x _ _ hx hv => old_cell hv hx.2 _ (hw10.at (i := 0) rfl)) (fun x hx => ⟨Nat.lt_of_lt_of_le hx.1 (by rw [hw10.size]; show w.heap.size ≤ n8; omega), hx.2⟩) hl) hB hlen (by omega)).mono ?_
       rintro e w14 ⟨v11, d12, n13, rfl, hstw14, hrxw14, hlaw14, hCw14, hkw14⟩
       obtain ⟨hnw14, hSw14⟩ := cur_set hw10 (i := 1) rfl hCw14 hkw14; have hnw14' : n8 ≤ w14.heap.size := hnw14
       refine ⟨_, _, rfl, hSw14, ?_⟩
       refine q_rS 4 1 [] [[o0], [o0]] [] [(q7mt_1 pc), (3, .slice aL xs.length cL), (4, i6 (n6 : Int)), (5, i6 (i : Int)), (6, i6 v11), (25, pt pc)] rfl trivial ?_
       refine l_call [] [] 47 #[pt pc, i6 4] (some 26) trivial ?_
       intro w15 hw15
       refine (snum_calls (hw15.at (i := 1) rfl) (sl_mono (fun x _ _ hx hv => old_cell hv hx.2 _ (hw15.at (i := 0) rfl)) (fun x hx => ⟨Nat.lt_of_lt_of_le hx.1 (by rw [hw15.size]; show w.heap.size ≤ w14.heap.size; omega), hx.2⟩) hl) hB hlen (by omega)).mono ?_
       rintro e w19 ⟨v16, d17, n18, rfl, hstw19, hrxw19, hlaw19, hCw19, hkw19⟩
       obtain ⟨hnw19, hSw19⟩ := cur_set hw15 (i := 1) rfl hCw19 hkw19; have hnw19' : w14.heap.size ≤ w19.heap.size := hnw19
       refine ⟨_, _, rfl, hSw19, ?_⟩
       refine q_rS 4 1 [] [[o0], [o0]] [] [(q7mt_1 pc), (3, .slice aL xs.length cL), (4, i6 (n6 : Int)), (5, i6 (i : Int)), (6, i6 v11), (7, i6 v16), (27, pt pc)] rfl trivial ?_
       refine l_call [] [] 47 #[pt pc, i6 4] (some 28) trivial ?_
       intro w20 hw20
       refine (snum_calls (hw20.at (i := 1) rfl) (sl_mono (fun x _ _ hx hv => old_cell hv hx.2 _ (hw20.at (i := 0) rfl)) (fun x hx => ⟨Nat.lt_of_lt_of_le hx.1 (by rw [hw20.size]; show w.heap.size ≤ w19.heap.size; omega), hx.2⟩) hl) hB hlen (by omega)).mono ?_
       rintro e w24 ⟨v21, d22, n23, rfl, hstw24, hrxw24, hlaw24, hCw24, hkw24⟩
       obtain ⟨hnw24, hSw24⟩ := cur_set hw20 (i := 1) rfl hCw24 hkw24; have hnw24' : w19.heap.size ≤ w24.heap.size := hnw24
       refine ⟨_, _, rfl, hSw24, ?_⟩
       refine q_r 3 7 [] [[o0], [o0, o0, (ov (i6 (v11 - 1))), o0, o0, o0, o0]] [Wr ((v11 : Int) - 1) (v11 - 1)] [(q7mt_1 pc), (4, i6 (n6 : Int)), (5, i6 (i : Int)), (29, .slice aL xs.length cL), (35, .slice (some ⟨w24.heap.size, 0, none⟩) 1 1)] ⟨w, w24.heap.size + 1, [(old (fun b => b = pc) w), (bk pc #[.slice l.a l.xs.length l.cap, i6 (n23 : Int), .bool d22] 91), (q7mt_0 z aL xs cL), (.blk w24.heap.size (.cells #[i6 (v11 - 1), i6 v16, i6 v21] 97 (0, 0)) true)]⟩ rfl ⟨wrI, trivial⟩ ?_
       refine l_push z 2 3 xs [(⟨v11 - 1, v16, v21⟩ : TWindow)] TWindow.cells 97 3 24 (.slice aL xs.length cL) w24.heap.size 1 1 #[i6 (v11 - 1), i6 v16, i6 v21] 97 (0, 0) true (some 36) (by simp only [List.length_cons, List.length_nil]; omega) (show z ≤ w24.heap.size + 1 by omega) (fun a25 cp26 n27 (hn28 : w24.heap.size + 1 ≤ n27) => ?_)
       refine q_rS 5 0 [] [[o0], [o0, (ov (i6 ((i + 1 : Nat) : Int))), o0]] [Wr (((i : Int) : Int) + 1) (((i + 1 : Nat) : Int))] [(q7mt_1 pc), (4, i6 (n6 : Int)), (5, i6 ((i + 1 : Nat) : Int)), (3, .slice a25 ((xs ++ [(⟨v11 - 1, v16, v21⟩ : TWindow)]).length) cp26)] rfl ⟨wrI, trivial⟩ ?_
       refine e_pick [0, 1, 2] [(old (fun b => b = pc) w), (bk pc #[.slice l.a l.xs.length l.cap, i6 (n23 : Int), .bool d22] 91), (rowL z 97 3 TWindow.cells (.slice a25 ((xs ++ [(⟨v11 - 1, v16, v21⟩ : TWindow)]).length) cp26) (xs ++ [(⟨v11 - 1, v16, v21⟩ : TWindow)]))] rfl rfl ?_
       refine e_keep [0, 3, 4, 5] [(q7mt_1 pc), (3, .slice a25 ((xs ++ [(⟨v11 - 1, v16, v21⟩ : TWindow)]).length) cp26), (4, i6 (n6 : Int)), (5, i6 ((i + 1 : Nat) : Int))] ?_
       refine e_inv (fun a w' hs => ⟨n6 - (i + 1), by omega, n27, (i + 1), (xs ++ [(⟨v11 - 1, v16, v21⟩ : TWindow)]), n23, d22, a25, cp26, rfl, by omega, by omega, hm.more (by unfold winAt; exact hstw14.bind (hstw19.bind (hstw24.map))), by rw [List.length_append, hxl]; rfl, by omega, hs⟩)
     · refine q_cS 14 0 [0] [[o0, o0, oT, o0, o0, o0, o0, (a1 1), o0, o0], [o0, o0]] [BT (((i : Int) : Int) < (n6 : Int)), Qb pc] [(2, .slice aL xs.length cL)] rfl ⟨bt (by omega), rfl, trivial⟩ ?_
       refine e_ret [] [] (.slice aL xs.length cL) trivial ?_
       intro w29 hw29
       have hrow := hw29.at (i := 2) (c := (q7mt_0 z aL xs cL)) rfl
       exact ⟨xs, _, ati, _, _, rfl, hm.done hstw5 (.inr ⟨rfl, by omega⟩), by omega, hal, hw29.at (i := 1) rfl, back0 hw29, hz ▸ hrow⟩
   · refine q_cS 14 0 [0] [[o0, o0, oF, o0, o0], [o0, o0]] [BF (((i : Int) : Int) < (n6 : Int))] [(2, .slice aL xs.length cL)] rfl ⟨bf (by omega), trivial⟩ ?_
     refine e_ret [] [] (.slice aL xs.length cL) trivial ?_
     intro w30 hw30
     have hrow := hw30.at (i := 2) (c := (q7mt_0 z aL xs cL)) rfl
     exact ⟨xs, _, ati, _, _, rfl, hm.done hstw5 (.inl (by omega)), by omega, hal, hw30.at (i := 1) rfl, back0 hw30, hz ▸ hrow⟩
abbrev qa7u_0 (z : Nat) (aL : Option Addr) (xs : List TRegion) (cL : Nat) : Ch := rowL z 99 4 TRegion.cells (.slice aL xs.length cL) xs
abbrev qa7u_1 (pc : Nat) : Nat × Value := (0, pt pc)
theorem cregs (w : World) (pc : Nat) (l : Sl Int) (at0 : Nat) (bad : Bool) (hc : CurIs w pc l at0 bad) (hl : SlAt u8c 1 (fun x => x < w.heap.size ∧ ¬ x = pc) w l) (hB : Byt l.xs) (hlen : l.xs.length ≤ 16384) (hat : at0 ≤ l.xs.length) : Calls Try.prog 99 #[.pointer (some ⟨pc, 0, none⟩)] w fun e w' => CLPost w pc l at0 bad (listAt l.xs (regAt l.xs) at0) 99 4 TRegion.cells e w' := by
 obtain ⟨z, hz⟩ : ∃ z, z = w.heap.size := ⟨_, rfl⟩
 refine calls_G (args := [pt pc]) 41 ⟨w, z, [(old (fun b => b = pc) w), (bk pc #[.slice l.a l.xs.length l.cap, i6 (at0 : Int), .bool bad] 91)]⟩ Try.func99 rfl (by kernel_rfl) (by kernel_rfl) (hz ▸ sat_cur hc) ?_
 refine g_keep [0] [(qa7u_1 pc)] ?_
 refine q_cS 10 1 [] [[o0], [o0], [o0]] [] [(qa7u_1 pc), (3, .slice none 0 0), (10, pt pc)] rfl trivial ?_
 refine l_call [] [] 47 #[pt pc, i6 1] (some 11) trivial ?_
 intro w1 hw1
 refine (sbyte_calls (hw1.at (i := 1) rfl) (sl_mono (fun x _ _ hx hv => old_cell hv hx.2 _ (hw1.at (i := 0) rfl)) (fun x hx => ⟨Nat.lt_of_lt_of_le hx.1 (by rw [hw1.size]; show w.heap.size ≤ z; omega), hx.2⟩) hl) hB hlen (by omega)).mono ?_
 rintro e w5 ⟨v2, d3, n4, rfl, hstw5, hrxw5, hlaw5, hCw5, hkw5⟩
 obtain ⟨n6, rfl⟩ : ∃ n : Nat, v2 = (n : Int) := ⟨_, (Int.toNat_of_nonneg hrxw5.1.1).symm⟩
 obtain ⟨hnw5, hSw5⟩ := cur_set hw1 (i := 1) rfl hCw5 hkw5; have hnw5' : z ≤ w5.heap.size := hnw5
 refine ⟨_, _, rfl, hSw5, ?_⟩
 refine q_rS 8 0 [] [[o0], [o0]] [] [(qa7u_1 pc), (3, .slice none 0 0), (4, i6 (n6 : Int)), (5, i6 0)] rfl trivial ?_
 refine g_rowL z 99 4 TRegion.cells ?_
 refine g_loop (fun m a w' => ∃ (n8 : Nat) (i : Nat) (xs : List TRegion) (ati : Nat) (bd : Bool) (aL : Option Addr) (cL : Nat), m = n6 - i ∧ w5.heap.size ≤ n8 ∧ (i ≤ n6) ∧ (LStep d3 n4 (regAt l.xs) i bd ati xs) ∧ (xs.length = i) ∧ (ati ≤ l.xs.length) ∧ St 41 [(qa7u_1 pc), (3, .slice aL xs.length cL), (4, i6 (n6 : Int)), (5, i6 (i : Int))] [] ⟨w, n8, [(old (fun b => b = pc) w), (bk pc #[.slice l.a l.xs.length l.cap, i6 (ati : Int), .bool bd] 91), (qa7u_0 z aL xs cL)]⟩ a w') (n6 - 0) ?_ ?_
 · intro a w' hs; exact ⟨w5.heap.size, 0, ([]), n4, d3, none, 0, rfl, Nat.le_refl _, Nat.zero_le _, lstep_zero _ _ _, rfl, by omega, hs⟩
 · rintro m a w' ⟨n8, i, xs, ati, bd, aL, cL, rfl, hn7, hki, hm, hxl, hal, hs⟩
   refine (?_ : G Try.prog 41 [(qa7u_1 pc), (3, .slice aL xs.length cL), (4, i6 (n6 : Int)), (5, i6 (i : Int))] [] ⟨w, n8, [(old (fun b => b = pc) w), (bk pc #[.slice l.a l.xs.length l.cap, i6 (ati : Int), .bool bd] 91), (qa7u_0 z aL xs cL)]⟩ _ _ _) a w' hs
   clear hs a w'
   refine g_seq <| g_seq ?_
   by_cases h9 : ((i : Int) : Int) < (n6 : Int)
   · cases bd
     · refine q_cS 10 1 [1] [[o0, o0, oT, o0, o0, o0, o0, (a1 1), o0, o0], [o0]] [BT (((i : Int) : Int) < (n6 : Int)), Qb pc] [(qa7u_1 pc), (3, .slice aL xs.length cL), (4, i6 (n6 : Int)), (5, i6 (i : Int)), (24, pt pc)] rfl ⟨bt (by omega), rfl, trivial⟩ ?_
       refine l_call [] [] 47 #[pt pc, i6 4] (some 25) trivial ?_
       intro w10 hw10
       refine (snum_calls (hw10.at (i := 1) rfl) (sl_mono (fun x _ _ hx hv => old_cell hv hx.2 _ (hw10.at (i := 0) rfl)) (fun x hx => ⟨Nat.lt_of_lt_of_le hx.1 (by rw [hw10.size]; show w.heap.size ≤ n8; omega), hx.2⟩) hl) hB hlen (by omega)).mono ?_
       rintro e w14 ⟨v11, d12, n13, rfl, hstw14, hrxw14, hlaw14, hCw14, hkw14⟩
       obtain ⟨hnw14, hSw14⟩ := cur_set hw10 (i := 1) rfl hCw14 hkw14; have hnw14' : n8 ≤ w14.heap.size := hnw14
       refine ⟨_, _, rfl, hSw14, ?_⟩
       refine q_rS 4 1 [] [[o0], [o0]] [] [(qa7u_1 pc), (3, .slice aL xs.length cL), (4, i6 (n6 : Int)), (5, i6 (i : Int)), (6, i6 v11), (26, pt pc)] rfl trivial ?_
       refine l_call [] [] 47 #[pt pc, i6 4] (some 27) trivial ?_
       intro w15 hw15
       refine (snum_calls (hw15.at (i := 1) rfl) (sl_mono (fun x _ _ hx hv => old_cell hv hx.2 _ (hw15.at (i := 0) rfl)) (fun x hx => ⟨Nat.lt_of_lt_of_le hx.1 (by rw [hw15.size]; show w.heap.size ≤ w14.heap.size; omega), hx.2⟩) hl) hB hlen (by omega)).mono ?_
       rintro e w19 ⟨v16, d17, n18, rfl, hstw19, hrxw19, hlaw19, hCw19, hkw19⟩
       obtain ⟨hnw19, hSw19⟩ := cur_set hw15 (i := 1) rfl hCw19 hkw19; have hnw19' : w14.heap.size ≤ w19.heap.size := hnw19
       refine ⟨_, _, rfl, hSw19, ?_⟩
       refine q_rS 4 1 [] [[o0], [o0]] [] [(qa7u_1 pc), (3, .slice aL xs.length cL), (4, i6 (n6 : Int)), (5, i6 (i : Int)), (6, i6 v11), (7, i6 v16), (28, pt pc)] rfl trivial ?_
       refine l_call [] [] 47 #[pt pc, i6 4] (some 29) trivial ?_
       intro w20 hw20
       refine (snum_calls (hw20.at (i := 1) rfl) (sl_mono (fun x _ _ hx hv => old_cell hv hx.2 _ (hw20.at (i := 0) rfl)) (fun x hx => ⟨Nat.lt_of_lt_of_le hx.1 (by rw [hw20.size]; show w.heap.size ≤ w19.heap.size; omega), hx.2⟩) hl) hB hlen (by omega)).mono ?_
       rintro e w24 ⟨v21, d22, n23, rfl, hstw24, hrxw24, hlaw24, hCw24, hkw24⟩
       obtain ⟨hnw24, hSw24⟩ := cur_set hw20 (i := 1) rfl hCw24 hkw24; have hnw24' : w19.heap.size ≤ w24.heap.size := hnw24
       refine ⟨_, _, rfl, hSw24, ?_⟩
       refine q_rS 4 1 [] [[o0], [o0]] [] [(qa7u_1 pc), (3, .slice aL xs.length cL), (4, i6 (n6 : Int)), (5, i6 (i : Int)), (6, i6 v11), (7, i6 v16), (8, i6 v21), (30, pt pc)] rfl trivial ?_
       refine l_call [] [] 47 #[pt pc, i6 4] (some 31) trivial ?_
       intro w25 hw25
       refine (snum_calls (hw25.at (i := 1) rfl) (sl_mono (fun x _ _ hx hv => old_cell hv hx.2 _ (hw25.at (i := 0) rfl)) (fun x hx => ⟨Nat.lt_of_lt_of_le hx.1 (by rw [hw25.size]; show w.heap.size ≤ w24.heap.size; omega), hx.2⟩) hl) hB hlen (by omega)).mono ?_
       rintro e w29 ⟨v26, d27, n28, rfl, hstw29, hrxw29, hlaw29, hCw29, hkw29⟩
       obtain ⟨hnw29, hSw29⟩ := cur_set hw25 (i := 1) rfl hCw29 hkw29; have hnw29' : w24.heap.size ≤ w29.heap.size := hnw29
       refine ⟨_, _, rfl, hSw29, ?_⟩
       refine q_r 3 7 [] [[o0], [o0, o0, o0, o0, o0, o0, o0]] [] [(qa7u_1 pc), (4, i6 (n6 : Int)), (5, i6 (i : Int)), (32, .slice aL xs.length cL), (38, .slice (some ⟨w29.heap.size, 0, none⟩) 1 1)] ⟨w, w29.heap.size + 1, [(old (fun b => b = pc) w), (bk pc #[.slice l.a l.xs.length l.cap, i6 (n28 : Int), .bool d27] 91), (qa7u_0 z aL xs cL), (.blk w29.heap.size (.cells #[i6 v11, i6 v16, i6 v21, i6 v26] 99 (0, 0)) true)]⟩ rfl trivial ?_
       refine l_push z 2 3 xs [(⟨v11, v16, v21, v26⟩ : TRegion)] TRegion.cells 99 4 32 (.slice aL xs.length cL) w29.heap.size 1 1 #[i6 v11, i6 v16, i6 v21, i6 v26] 99 (0, 0) true (some 39) (by simp only [List.length_cons, List.length_nil]; omega) (show z ≤ w29.heap.size + 1 by omega) (fun a30 cp31 n32 (hn33 : w29.heap.size + 1 ≤ n32) => ?_)
       refine q_rS 5 0 [] [[o0], [o0, (ov (i6 ((i + 1 : Nat) : Int))), o0]] [Wr (((i : Int) : Int) + 1) (((i + 1 : Nat) : Int))] [(qa7u_1 pc), (4, i6 (n6 : Int)), (5, i6 ((i + 1 : Nat) : Int)), (3, .slice a30 ((xs ++ [(⟨v11, v16, v21, v26⟩ : TRegion)]).length) cp31)] rfl ⟨wrI, trivial⟩ ?_
       refine e_pick [0, 1, 2] [(old (fun b => b = pc) w), (bk pc #[.slice l.a l.xs.length l.cap, i6 (n28 : Int), .bool d27] 91), (rowL z 99 4 TRegion.cells (.slice a30 ((xs ++ [(⟨v11, v16, v21, v26⟩ : TRegion)]).length) cp31) (xs ++ [(⟨v11, v16, v21, v26⟩ : TRegion)]))] rfl rfl ?_
       refine e_keep [0, 3, 4, 5] [(qa7u_1 pc), (3, .slice a30 ((xs ++ [(⟨v11, v16, v21, v26⟩ : TRegion)]).length) cp31), (4, i6 (n6 : Int)), (5, i6 ((i + 1 : Nat) : Int))] ?_
       refine e_inv (fun a w' hs => ⟨n6 - (i + 1), by omega, n32, (i + 1), (xs ++ [(⟨v11, v16, v21, v26⟩ : TRegion)]), n28, d27, a30, cp31, rfl, by omega, by omega, hm.more (by unfold regAt; exact hstw14.bind (hstw19.bind (hstw24.bind (hstw29.map)))), by rw [List.length_append, hxl]; rfl, by omega, hs⟩)
     · refine q_cS 14 0 [0] [[o0, o0, oT, o0, o0, o0, o0, (a1 1), o0, o0], [o0, o0]] [BT (((i : Int) : Int) < (n6 : Int)), Qb pc] [(2, .slice aL xs.length cL)] rfl ⟨bt (by omega), rfl, trivial⟩ ?_
       refine e_ret [] [] (.slice aL xs.length cL) trivial ?_
       intro w34 hw34
       have hrow := hw34.at (i := 2) (c := (qa7u_0 z aL xs cL)) rfl
       exact ⟨xs, _, ati, _, _, rfl, hm.done hstw5 (.inr ⟨rfl, by omega⟩), by omega, hal, hw34.at (i := 1) rfl, back0 hw34, hz ▸ hrow⟩
   · refine q_cS 14 0 [0] [[o0, o0, oF, o0, o0], [o0, o0]] [BF (((i : Int) : Int) < (n6 : Int))] [(2, .slice aL xs.length cL)] rfl ⟨bf (by omega), trivial⟩ ?_
     refine e_ret [] [] (.slice aL xs.length cL) trivial ?_
     intro w35 hw35
     have hrow := hw35.at (i := 2) (c := (qa7u_0 z aL xs cL)) rfl
     exact ⟨xs, _, ati, _, _, rfl, hm.done hstw5 (.inl (by omega)), by omega, hal, hw35.at (i := 1) rfl, back0 hw35, hz ▸ hrow⟩
abbrev qg5j_0 (z : Nat) (aL : Option Addr) (xs : List TPort) (cL : Nat) : Ch := rowL z 101 2 TPort.cells (.slice aL xs.length cL) xs
abbrev qg5j_1 (pc : Nat) : Nat × Value := (0, pt pc)
theorem cports (w : World) (pc : Nat) (l : Sl Int) (at0 : Nat) (bad : Bool) (hc : CurIs w pc l at0 bad) (hl : SlAt u8c 1 (fun x => x < w.heap.size ∧ ¬ x = pc) w l) (hB : Byt l.xs) (hlen : l.xs.length ≤ 16384) (hat : at0 ≤ l.xs.length) : Calls Try.prog 100 #[.pointer (some ⟨pc, 0, none⟩)] w fun e w' => CLPost w pc l at0 bad (listAt l.xs (portAt l.xs) at0) 101 2 TPort.cells e w' := by
 obtain ⟨z, hz⟩ : ∃ z, z = w.heap.size := ⟨_, rfl⟩
 refine calls_G (args := [pt pc]) 33 ⟨w, z, [(old (fun b => b = pc) w), (bk pc #[.slice l.a l.xs.length l.cap, i6 (at0 : Int), .bool bad] 91)]⟩ Try.func100 rfl (by kernel_rfl) (by kernel_rfl) (hz ▸ sat_cur hc) ?_
 refine g_keep [0] [(qg5j_1 pc)] ?_
 refine q_cS 10 1 [] [[o0], [o0], [o0]] [] [(qg5j_1 pc), (3, .slice none 0 0), (8, pt pc)] rfl trivial ?_
 refine l_call [] [] 47 #[pt pc, i6 1] (some 9) trivial ?_
 intro w1 hw1
 refine (sbyte_calls (hw1.at (i := 1) rfl) (sl_mono (fun x _ _ hx hv => old_cell hv hx.2 _ (hw1.at (i := 0) rfl)) (fun x hx => ⟨Nat.lt_of_lt_of_le hx.1 (by rw [hw1.size]; show w.heap.size ≤ z; omega), hx.2⟩) hl) hB hlen (by omega)).mono ?_
 rintro e w5 ⟨v2, d3, n4, rfl, hstw5, hrxw5, hlaw5, hCw5, hkw5⟩
 obtain ⟨n6, rfl⟩ : ∃ n : Nat, v2 = (n : Int) := ⟨_, (Int.toNat_of_nonneg hrxw5.1.1).symm⟩
 obtain ⟨hnw5, hSw5⟩ := cur_set hw1 (i := 1) rfl hCw5 hkw5; have hnw5' : z ≤ w5.heap.size := hnw5
 refine ⟨_, _, rfl, hSw5, ?_⟩
 refine q_rS 8 0 [] [[o0], [o0]] [] [(qg5j_1 pc), (3, .slice none 0 0), (4, i6 (n6 : Int)), (5, i6 0)] rfl trivial ?_
 refine g_rowL z 101 2 TPort.cells ?_
 refine g_loop (fun m a w' => ∃ (n8 : Nat) (i : Nat) (xs : List TPort) (ati : Nat) (bd : Bool) (aL : Option Addr) (cL : Nat), m = n6 - i ∧ w5.heap.size ≤ n8 ∧ (i ≤ n6) ∧ (LStep d3 n4 (portAt l.xs) i bd ati xs) ∧ (xs.length = i) ∧ (ati ≤ l.xs.length) ∧ St 33 [(qg5j_1 pc), (3, .slice aL xs.length cL), (4, i6 (n6 : Int)), (5, i6 (i : Int))] [] ⟨w, n8, [(old (fun b => b = pc) w), (bk pc #[.slice l.a l.xs.length l.cap, i6 (ati : Int), .bool bd] 91), (qg5j_0 z aL xs cL)]⟩ a w') (n6 - 0) ?_ ?_
 · intro a w' hs; exact ⟨w5.heap.size, 0, ([]), n4, d3, none, 0, rfl, Nat.le_refl _, Nat.zero_le _, lstep_zero _ _ _, rfl, by omega, hs⟩
 · rintro m a w' ⟨n8, i, xs, ati, bd, aL, cL, rfl, hn7, hki, hm, hxl, hal, hs⟩
   refine (?_ : G Try.prog 33 [(qg5j_1 pc), (3, .slice aL xs.length cL), (4, i6 (n6 : Int)), (5, i6 (i : Int))] [] ⟨w, n8, [(old (fun b => b = pc) w), (bk pc #[.slice l.a l.xs.length l.cap, i6 (ati : Int), .bool bd] 91), (qg5j_0 z aL xs cL)]⟩ _ _ _) a w' hs
   clear hs a w'
   refine g_seq <| g_seq ?_
   by_cases h9 : ((i : Int) : Int) < (n6 : Int)
   · cases bd
     · refine q_cS 10 1 [1] [[o0, o0, oT, o0, o0, o0, o0, (a1 1), o0, o0], [o0]] [BT (((i : Int) : Int) < (n6 : Int)), Qb pc] [(qg5j_1 pc), (3, .slice aL xs.length cL), (4, i6 (n6 : Int)), (5, i6 (i : Int)), (22, pt pc)] rfl ⟨bt (by omega), rfl, trivial⟩ ?_
       refine l_call [] [] 47 #[pt pc, i6 4] (some 23) trivial ?_
       intro w10 hw10
       refine (snum_calls (hw10.at (i := 1) rfl) (sl_mono (fun x _ _ hx hv => old_cell hv hx.2 _ (hw10.at (i := 0) rfl)) (fun x hx => ⟨Nat.lt_of_lt_of_le hx.1 (by rw [hw10.size]; show w.heap.size ≤ n8; omega), hx.2⟩) hl) hB hlen (by omega)).mono ?_
       rintro e w14 ⟨v11, d12, n13, rfl, hstw14, hrxw14, hlaw14, hCw14, hkw14⟩
       obtain ⟨hnw14, hSw14⟩ := cur_set hw10 (i := 1) rfl hCw14 hkw14; have hnw14' : n8 ≤ w14.heap.size := hnw14
       refine ⟨_, _, rfl, hSw14, ?_⟩
       refine q_rS 4 1 [] [[o0], [o0]] [] [(qg5j_1 pc), (3, .slice aL xs.length cL), (4, i6 (n6 : Int)), (5, i6 (i : Int)), (6, i6 v11), (24, pt pc)] rfl trivial ?_
       refine l_call [] [] 105 #[pt pc] (some 25) trivial ?_
       intro w15 hw15
       refine (ssrc_calls (hw15.at (i := 1) rfl) (sl_mono (fun x _ _ hx hv => old_cell hv hx.2 _ (hw15.at (i := 0) rfl)) (fun x hx => ⟨Nat.lt_of_lt_of_le hx.1 (by rw [hw15.size]; show w.heap.size ≤ w14.heap.size; omega), hx.2⟩) hl) hB hlen (by omega)).mono ?_
       rintro e w19 ⟨u16, d17, n18, rfl, hstw19, hrxw19, hlaw19, hCw19, hkw19⟩
       obtain ⟨hnw19, hSw19⟩ := cur_set hw15 (i := 1) rfl hCw19 hkw19; have hnw19' : w14.heap.size ≤ w19.heap.size := hnw19
       refine ⟨_, _, rfl, hSw19, ?_⟩
       refine q_r 3 5 [] [[o0], [o0, o0, o0, o0, o0]] [] [(qg5j_1 pc), (4, i6 (n6 : Int)), (5, i6 (i : Int)), (26, .slice aL xs.length cL), (30, .slice (some ⟨w19.heap.size, 0, none⟩) 1 1)] ⟨w, w19.heap.size + 1, [(old (fun b => b = pc) w), (bk pc #[.slice l.a l.xs.length l.cap, i6 (n18 : Int), .bool d17] 91), (qg5j_0 z aL xs cL), (.blk w19.heap.size (.cells #[i6 v11, .bool u16] 101 (0, 0)) true)]⟩ rfl trivial ?_
       refine l_push z 2 3 xs [(⟨v11, u16⟩ : TPort)] TPort.cells 101 2 16 (.slice aL xs.length cL) w19.heap.size 1 1 #[i6 v11, .bool u16] 101 (0, 0) true (some 31) (by simp only [List.length_cons, List.length_nil]; omega) (show z ≤ w19.heap.size + 1 by omega) (fun a20 cp21 n22 (hn23 : w19.heap.size + 1 ≤ n22) => ?_)
       refine q_rS 5 0 [] [[o0], [o0, (ov (i6 ((i + 1 : Nat) : Int))), o0]] [Wr (((i : Int) : Int) + 1) (((i + 1 : Nat) : Int))] [(qg5j_1 pc), (4, i6 (n6 : Int)), (5, i6 ((i + 1 : Nat) : Int)), (3, .slice a20 ((xs ++ [(⟨v11, u16⟩ : TPort)]).length) cp21)] rfl ⟨wrI, trivial⟩ ?_
       refine e_pick [0, 1, 2] [(old (fun b => b = pc) w), (bk pc #[.slice l.a l.xs.length l.cap, i6 (n18 : Int), .bool d17] 91), (rowL z 101 2 TPort.cells (.slice a20 ((xs ++ [(⟨v11, u16⟩ : TPort)]).length) cp21) (xs ++ [(⟨v11, u16⟩ : TPort)]))] rfl rfl ?_
       refine e_keep [0, 3, 4, 5] [(qg5j_1 pc), (3, .slice a20 ((xs ++ [(⟨v11, u16⟩ : TPort)]).length) cp21), (4, i6 (n6 : Int)), (5, i6 ((i + 1 : Nat) : Int))] ?_
       refine e_inv (fun a w' hs => ⟨n6 - (i + 1), by omega, n22, (i + 1), (xs ++ [(⟨v11, u16⟩ : TPort)]), n18, d17, a20, cp21, rfl, by omega, by omega, hm.more (by unfold portAt; exact hstw14.bind (hstw19.map)), by rw [List.length_append, hxl]; rfl, by omega, hs⟩)
     · refine q_cS 14 0 [0] [[o0, o0, oT, o0, o0, o0, o0, (a1 1), o0, o0], [o0, o0]] [BT (((i : Int) : Int) < (n6 : Int)), Qb pc] [(2, .slice aL xs.length cL)] rfl ⟨bt (by omega), rfl, trivial⟩ ?_
       refine e_ret [] [] (.slice aL xs.length cL) trivial ?_
       intro w24 hw24
       have hrow := hw24.at (i := 2) (c := (qg5j_0 z aL xs cL)) rfl
       exact ⟨xs, _, ati, _, _, rfl, hm.done hstw5 (.inr ⟨rfl, by omega⟩), by omega, hal, hw24.at (i := 1) rfl, back0 hw24, hz ▸ hrow⟩
   · refine q_cS 14 0 [0] [[o0, o0, oF, o0, o0], [o0, o0]] [BF (((i : Int) : Int) < (n6 : Int))] [(2, .slice aL xs.length cL)] rfl ⟨bf (by omega), trivial⟩ ?_
     refine e_ret [] [] (.slice aL xs.length cL) trivial ?_
     intro w25 hw25
     have hrow := hw25.at (i := 2) (c := (qg5j_0 z aL xs cL)) rfl
     exact ⟨xs, _, ati, _, _, rfl, hm.done hstw5 (.inl (by omega)), by omega, hal, hw25.at (i := 1) rfl, back0 hw25, hz ▸ hrow⟩

end Go.Proofs.Ytmmkacfeocnblaa.Ly
