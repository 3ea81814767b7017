/- The document's TLB. No conditions. -/
import Derived.Test.YtbjcamafaolgiaaRb
namespace Go.Proofs.Ytbjcamafaolgiaa.Ly
open Go Go.Proofs.Ytbjcamafaolgiaa.Eng Go.Proofs.Ytbjcamafaolgiaa.Mem
set_option linter.unusedSimpArgs false
set_option linter.unusedVariables false
set_option maxRecDepth 100000

theorem oldR_cell {F S : Nat → Prop} {w : World} {b k : Nat} {v : Value} (hF : F b ∧ ¬ S b) (h : w.cell? ⟨b, k, none⟩ = some v) : ∀ w', (old S w).holds w' → w'.cell? ⟨b, k, none⟩ = some v := old_cell h hF.2
theorem oldS_cell {S : Nat → Prop} {w : World} {b k : Nat} {v : Value} (hF : ¬ S b) (h : w.cell? ⟨b, k, none⟩ = some v) : ∀ w', (old S w).holds w' → w'.cell? ⟨b, k, none⟩ = some v := old_cell h hF
theorem has_take_calls (w : World) (l : Sl TLeaf) (i : Nat) (page : Int) (hi : i ≤ l.xs.length) (hl : SlAt TLeaf.cells 3 Any w l) : Calls Try.prog 36 #[.slice l.a i l.cap, .int .i64 page] w fun e w' => e = .returned (.int .i64 (hasI (l.xs.take i) page)) ∧ Keeps (fun _ => False) w w' := by
  have h := has_calls w ⟨l.a, l.cap, l.xs.take i⟩ page (sl_take (ys := l.xs.drop i) (by rw [List.take_append_drop]; exact hl))
  have hn : (l.xs.take i).length = i := by rw [List.length_take]; omega
  rw [hn] at h
  exact h
theorem has_neg {xs : List TLeaf} {p : Int} {i : Nat} (h : hasI (xs.take i) p < 0) (hi : i ≤ xs.length) : ∀ j, j < i → (gd xs j).Page ≠ p := by
  intro j hj he
  rcases hasI_or (xs.take i) p with ⟨hb, -⟩ | ⟨-, k, hk, -⟩
  · unfold fB at hb
    rw [Option.isSome_eq_false_iff, Option.isNone_iff_eq_none, List.find?_eq_none] at hb
    rw [gd_eq (by omega)] at he
    exact hb xs[j] (List.mem_iff_getElem.2 ⟨j, by rw [List.length_take]; omega, by simp⟩) (by simpa using he)
  · omega
theorem has_pos {xs : List TLeaf} {p : Int} {i : Nat} (h : ¬ hasI (xs.take i) p < 0) (hi : i ≤ xs.length) : ∃ j, j < i ∧ (gd xs j).Page = p := by
  rcases hasI_or (xs.take i) p with ⟨-, hb⟩ | ⟨-, k, hk, hlt, -, hp⟩
  · omega
  · rw [List.length_take] at hlt
    refine ⟨k, by omega, ?_⟩
    rw [gd_eq (by rw [List.length_take]; omega)] at hp
    rw [gd_eq (by omega)]
    simpa using hp
def RefPost (w : World) (d : Nat) (F : Nat → Prop) (ys : List TLeaf) (w' : World) : Prop :=
  (∃ a' cap', At w' d (.cells #[.slice a' ys.length cap'] 37 (0, 0)) ∧ SlAt TLeaf.cells 3 (fun b => Sh.More F w w' b ∧ ¬ b = d) w' ⟨a', cap', ys⟩) ∧ Keeps (fun b => b = d) w w'
def RefIs (w : World) (d : Nat) (F : Nat → Prop) (xs : List TLeaf) : Prop :=
  ∃ a cap, At w d (.cells #[.slice a xs.length cap] 37 (0, 0)) ∧ SlAt TLeaf.cells 3 (fun b => F b ∧ ¬ b = d) w ⟨a, cap, xs⟩ ∧ xs.length ≤ 4 ∧ F d ∧ (∀ b, F b → b < w.heap.size)
theorem keeps_at {w w' : World} {d : Nat} {o : Obj} (hk : Keeps (fun b => b = d) w w') (h1 : At w d o) (h2 : At w' d o) : Keeps (fun _ => False) w w' :=
  ⟨hk.os, hk.tape, hk.output, hk.size, fun b hb _ => by
    by_cases e : b = d
    · subst e; exact h2.trans h1.symm
    · exact hk.block b hb e⟩
theorem sat_ref {w : World} {d : Nat} {v : Value} (hd : At w d (.cells #[v] 37 (0, 0))) : Sat ⟨w, w.heap.size, [old (fun b => b = d) w, .blk d (.cells #[v] 37 (0, 0)) true]⟩ w :=
  sat_oldS w _ _ (fun c hc => by
    simp only [List.mem_singleton] at hc; subst hc
    exact ⟨hd, Ch.stable_blk _ _ _, fun b hb => by
      have hb' : b = d := hb
      exact ⟨by rw [hb']; exact (Array.getElem?_eq_some_iff.1 hd).1, hb'⟩⟩) (by simp)
section
variable {w w' : World} {d : Nat} {F : Nat → Prop} {A : AW}
theorem ref_same {ad : Option Addr} {cap : Nat} {xs : List TLeaf} (hW : Sat A w') (hw0 : A.w0 = w) (hn : w.heap.size ≤ A.n) (h0 : A.σ[0]? = some (old (fun b => b = d) w)) (h1 : A.σ[1]? = some (.blk d (.cells #[.slice ad xs.length cap] 37 (0, 0)) true)) (hl : SlAt TLeaf.cells 3 (fun b => F b ∧ ¬ b = d) w ⟨ad, cap, xs⟩) : RefPost w d F xs w' :=
  ⟨⟨ad, cap, hW.at h1, ⟨hl.len, hl.le, fun hne => by
    obtain ⟨b, off, ha, hb, hc⟩ := hl.cells hne
    exact ⟨b, off, ha, ⟨.inl hb.1, hb.2⟩, fun i hi k v hv => old_cell (hc i hi k v hv) hb.2 _ (hW.at h0)⟩⟩⟩, hW.back hw0 hn (List.mem_of_getElem? h0)⟩
theorem row_far {base n : Nat} {v : Value} {xs : List TLeaf} (hW : Sat A w') (hw0 : A.w0 = w) (h0 : A.σ[0]? = some (old (fun b => b = d) w)) (hd : d < w.heap.size) (hb : w.heap.size ≤ base) {j : Nat} (hj : A.σ[j]? = some (rowL base 26 3 TLeaf.cells v xs)) : ∀ b, v.ownBlock = some b → Sh.More F w w' b ∧ ¬ b = d := by
  intro b hv
  have ho : w'.ownsRow base 26 3 v xs.length (xs.flatMap TLeaf.cells) := hW.at hj
  have := ho.lt b hv
  exact ⟨.inr ⟨by omega, this.2⟩, by omega⟩
theorem ref_new {base : Nat} {a' : Option Addr} {cap' : Nat} {ys : List TLeaf} (hW : Sat A w') (hw0 : A.w0 = w) (hn : w.heap.size ≤ A.n) (h0 : A.σ[0]? = some (old (fun b => b = d) w)) (h1 : A.σ[1]? = some (.blk d (.cells #[.slice a' ys.length cap'] 37 (0, 0)) true)) {j : Nat} (hj : A.σ[j]? = some (rowL base 26 3 TLeaf.cells (.slice a' ys.length cap') ys)) (hb : w.heap.size ≤ base) (h4 : ys.length ≤ 5) (hd : d < w.heap.size) : RefPost w d F ys w' :=
  ⟨⟨a', cap', hW.at h1, row_slF (fun _ => rfl) (hW.at hj) (by omega) (row_far hW hw0 h0 hd hb (n := 0) hj)⟩, hW.back hw0 hn (List.mem_of_getElem? h0)⟩
theorem ref_tail {base g cap' : Nat} {ys : List TLeaf} (hW : Sat A w') (hw0 : A.w0 = w) (hn : w.heap.size ≤ A.n) (h0 : A.σ[0]? = some (old (fun b => b = d) w)) (h1 : A.σ[1]? = some (.blk d (.cells #[.slice (some ⟨g, 0 + offs 3 1, none⟩) (ys.length - 1) (cap' - 1)] 37 (0, 0)) true)) {j : Nat} (hj : A.σ[j]? = some (rowL base 26 3 TLeaf.cells (.slice (some ⟨g, 0, none⟩) ys.length cap') ys)) (hb : w.heap.size ≤ base) (h4 : ys.length ≤ 5) (h1' : 1 ≤ ys.length) (hd : d < w.heap.size) : RefPost w d F ys.tail w' := by
  refine ⟨⟨some ⟨g, 0 + offs 3 1, none⟩, cap' - 1, ?_, ?_⟩, hW.back hw0 hn (List.mem_of_getElem? h0)⟩
  · rw [List.length_tail]; exact hW.at h1
  · have := row_slF (cells := TLeaf.cells) (fun _ => rfl) (hW.at hj) (by omega) (row_far (F := F) hW hw0 h0 hd hb (n := 0) hj)
    cases ys with
    | nil => simp at h1'
    | cons x xs => exact sl_tail this
theorem ref_nil (hW : Sat A w') (hw0 : A.w0 = w) (hn : w.heap.size ≤ A.n) (h0 : A.σ[0]? = some (old (fun b => b = d) w)) (h1 : A.σ[1]? = some (.blk d (.cells #[.slice none 0 0] 37 (0, 0)) true)) : RefPost w d F [] w' :=
  ⟨⟨none, 0, hW.at h1, ⟨Nat.zero_le _, Nat.zero_le _, fun h => absurd rfl h⟩⟩, hW.back hw0 hn (List.mem_of_getElem? h0)⟩
end
theorem findX_yes {xs : List TLeaf} {p : Int} (h : fB xs p = true) : findX xs p = outX xs p ++ [fV xs p] := by unfold findX; rw [if_pos h]
theorem findX_no {xs : List TLeaf} {p : Int} (h : fB xs p = false) : findX xs p = xs := by unfold findX; rw [h]; rfl
theorem fV_no {xs : List TLeaf} {p : Int} (h : fB xs p = false) : fV xs p = ⟨0, 0, 0⟩ := by
  unfold fB at h
  unfold fV
  rw [Option.isSome_eq_false_iff, Option.isNone_iff_eq_none] at h
  rw [h]; rfl
theorem putX_no {xs : List TLeaf} {y : TLeaf} (h : ¬ lfine y = true) : putX xs y = xs ∧ errP y = 80 := by unfold putX errP; rw [if_neg h, if_neg h]; exact ⟨rfl, rfl⟩
theorem putX_gt {xs : List TLeaf} {y : TLeaf} (h : lfine y = true) (hg : (4 : Int) < ((outX xs y.Page ++ [y]).length : Nat)) : putX xs y = (outX xs y.Page ++ [y]).tail ∧ errP y = 0 := by
  rw [List.length_append, List.length_singleton] at hg
  unfold putX errP; rw [if_pos h, if_pos h, if_neg (by omega)]; exact ⟨rfl, rfl⟩
theorem putX_le {xs : List TLeaf} {y : TLeaf} (h : lfine y = true) (hg : ¬ (4 : Int) < ((outX xs y.Page ++ [y]).length : Nat)) : putX xs y = outX xs y.Page ++ [y] ∧ errP y = 0 := by
  rw [List.length_append, List.length_singleton] at hg
  unfold putX errP; rw [if_pos h, if_pos h, if_pos (by omega)]; exact ⟨rfl, rfl⟩
theorem resX_no {xs ys : List TLeaf} (h : ¬ okL ys) : resX xs ys = xs ∧ errR ys = 81 := by unfold resX errR; rw [if_neg h, if_neg h]; exact ⟨rfl, rfl⟩
theorem resX_yes {xs ys : List TLeaf} (h : okL ys) : resX xs ys = ys ∧ errR ys = 0 := by unfold resX errR; rw [if_pos h, if_pos h]; exact ⟨rfl, rfl⟩
abbrev qgnt_0 (w14 : World) (y12 : TLeaf) : Ch := .blk w14.heap.size (.cells #[.int .i64 y12.Page, .int .i64 y12.Frame, .int .i64 y12.Rights] 26 (0, 0)) true
abbrev qgnt_1 (z : Nat) : Ch := .blk z (.cells #[.int .i64 0, .int .i64 0, .int .i64 0] 26 (0, 0)) true
abbrev qgnt_2 (d : Nat) (ad : Option Addr) (xs : List TLeaf) (cap : Nat) : Ch := .blk d (.cells #[.slice ad xs.length cap] 37 (0, 0)) true
abbrev qgnt_3 (w4 : World) (y12 : TLeaf) : Ch := .blk w4.heap.size (.cells (TLeaf.arr y12) 26 (0, 0)) true
abbrev qgnt_4 (w4 : World) (a17 : Option Addr) (xs : List TLeaf) (page : Int) (y12 : TLeaf) (cp18 : Nat) : Ch := rowL (w4.heap.size + 1) 26 3 TLeaf.cells (.slice a17 (((outX xs page) ++ [(⟨y12.Page, y12.Frame, y12.Rights⟩ : TLeaf)]).length) cp18) ((outX xs page) ++ [(⟨y12.Page, y12.Frame, y12.Rights⟩ : TLeaf)])
abbrev qgnt_5 (w4 : World) : Nat × Value := (7, .pointer (some ⟨w4.heap.size, 0, none⟩))
theorem rfind_calls (w : World) (d : Nat) (F : Nat → Prop) (ad : Option Addr) (cap : Nat) (xs : List TLeaf) (hd : At w d (.cells #[.slice ad xs.length cap] 37 (0, 0))) (hl : SlAt TLeaf.cells 3 (fun b => F b ∧ ¬ b = d) w ⟨ad, cap, xs⟩) (h4 : xs.length ≤ 4) (page : Int) : Calls Try.prog 22 #[.pointer (some ⟨d, 0, none⟩), .int .i64 page] w fun e w' => e = .returned (.tuple #[.agg (TLeaf.arr (fV xs page)), .bool (fB xs page)]) ∧ RefPost w d F (findX xs page) w' := by
 obtain ⟨z, hz⟩ : ∃ z, z = w.heap.size := ⟨_, rfl⟩
 refine calls_G (args := [.pointer (some ⟨d, 0, none⟩), .int .i64 page]) 39 ⟨w, z, [(old (fun b => b = d) w), (qgnt_2 d ad xs cap)]⟩ Try.func22 rfl (by kernel_rfl) (by kernel_rfl) (hz ▸ sat_ref hd) ?_
 have hdl : d < w.heap.size := (Array.getElem?_eq_some_iff.1 hd).1; have hle : xs.length ≤ cap := hl.le
 refine g_keep [0, 1] [(0, .pointer (some ⟨d, 0, none⟩)), (1, .int .i64 page)] ?_
 refine g_seq <| g_region <| l_all 2 [o0, o0] [0, 1, 4] [] [(0, .pointer (some ⟨d, 0, none⟩)), (1, .int .i64 page), (4, .pointer (some ⟨z, 0, none⟩))] ⟨w, z + 1, [(old (fun b => b = d) w), (qgnt_2 d ad xs cap), (qgnt_1 z)]⟩ trivial ?_
 refine e_seq <| g_seq <| g_region <| l_run 5 [o0, o0, o0, (oa [.at 1]), o0] [0, 1, 4, 12, 13] [Qb d] [(0, .pointer (some ⟨d, 0, none⟩)), (1, .int .i64 page), (4, .pointer (some ⟨z, 0, none⟩)), (12, .slice ad xs.length cap), (13, .int .i64 page)] ⟨w, z + 1, [(old (fun b => b = d) w), (qgnt_2 d ad xs cap), (qgnt_1 z)]⟩ ⟨rfl, trivial⟩ ?_
 refine l_call [] [] 36 #[.slice ad xs.length cap, .int .i64 page] (some 14) trivial ?_
 intro w1 hw1
 rcases hasI_or xs page with ⟨hfb, hfi⟩ | ⟨hfb, i1, hfi, hi1, hV, hP1⟩
 · refine (has_calls w1 ⟨ad, cap, xs⟩ page (sl_old hl (fun b h => h.2) w1 (hw1.at (i := 0) (c := (old (fun b => b = d) w)) rfl))).mono ?_
   rw [show hasI xs page = -1 from hfi]
   rintro e w2 ⟨rfl, hkw2⟩
   have hnw2 : z + 1 ≤ w2.heap.size := by have := hkw2.size; rw [hw1.size] at this; exact this
   refine ⟨_, _, rfl, hw1.keeps hkw2, ?_⟩
   refine l_keep [0, 1, 4, 14] [(0, .pointer (some ⟨d, 0, none⟩)), (1, .int .i64 page), (4, .pointer (some ⟨z, 0, none⟩)), (14, .int .i64 (-1))] ?_
   refine l_all 1 [o0] [0, 1, 4, 6] [] [(0, .pointer (some ⟨d, 0, none⟩)), (1, .int .i64 page), (4, .pointer (some ⟨z, 0, none⟩)), (6, .int .i64 (-1))] ⟨w, w2.heap.size, [(old (fun b => b = d) w), (qgnt_2 d ad xs cap), (qgnt_1 z)]⟩ trivial ?_
   refine e_seq <| g_seq <| g_seq <| g_region <| l_all 2 [o0, o0] [0, 1, 4, 6, 16] [] [(0, .pointer (some ⟨d, 0, none⟩)), (1, .int .i64 page), (4, .pointer (some ⟨z, 0, none⟩)), (6, .int .i64 (-1)), (16, .bool true)] ⟨w, w2.heap.size, [(old (fun b => b = d) w), (qgnt_2 d ad xs cap), (qgnt_1 z)]⟩ trivial ?_
   refine e_seq <| g_true <| g_seq <| g_region <| l_all 3 [o0, (oa [.at 2, .at 2, .at 2]), o0] [4, 5] [Qb z, Qb z, Qb z] [(4, .pointer (some ⟨z, 0, none⟩)), (5, .bool false)] ⟨w, w2.heap.size, [(old (fun b => b = d) w), (qgnt_2 d ad xs cap), (qgnt_1 z)]⟩ ⟨rfl, rfl, rfl, trivial⟩ ?_
   refine e_seq <| g_ret <| e_ret [.at 2, .at 2, .at 2] [Qb z, Qb z, Qb z] (.tuple #[.agg #[.int .i64 0, .int .i64 0, .int .i64 0], .bool false]) ⟨rfl, rfl, rfl, trivial⟩ ?_
   intro w3 hw3
   rw [hfb, fV_no hfb, findX_no hfb]
   exact ⟨rfl, ref_same hw3 rfl (show w.heap.size ≤ w2.heap.size by omega) rfl rfl hl⟩
 · refine (has_calls w1 ⟨ad, cap, xs⟩ page (sl_old hl (fun b h => h.2) w1 (hw1.at (i := 0) (c := (old (fun b => b = d) w)) rfl))).mono ?_
   rw [show hasI xs page = (i1 : Int) from hfi]
   rintro e w4 ⟨rfl, hkw4⟩
   have hnw4 : z + 1 ≤ w4.heap.size := by have := hkw4.size; rw [hw1.size] at this; exact this
   refine ⟨_, _, rfl, hw1.keeps hkw4, ?_⟩
   refine l_keep [0, 1, 4, 14] [(0, .pointer (some ⟨d, 0, none⟩)), (1, .int .i64 page), (4, .pointer (some ⟨z, 0, none⟩)), (14, .int .i64 (i1 : Int))] ?_
   refine l_all 1 [o0] [0, 1, 4, 6] [] [(0, .pointer (some ⟨d, 0, none⟩)), (1, .int .i64 page), (4, .pointer (some ⟨z, 0, none⟩)), (6, .int .i64 (i1 : Int))] ⟨w, w4.heap.size, [(old (fun b => b = d) w), (qgnt_2 d ad xs cap), (qgnt_1 z)]⟩ trivial ?_
   refine e_seq <| g_seq <| g_seq <| g_region <| l_all 2 [o0, oF] [0, 1, 4, 6, 16] [BF (((i1 : Int) : Int) < 0)] [(0, .pointer (some ⟨d, 0, none⟩)), (1, .int .i64 page), (4, .pointer (some ⟨z, 0, none⟩)), (6, .int .i64 (i1 : Int)), (16, .bool false)] ⟨w, w4.heap.size, [(old (fun b => b = d) w), (qgnt_2 d ad xs cap), (qgnt_1 z)]⟩ ⟨bf (by omega), trivial⟩ ?_
   refine e_seq <| g_false <| g_skip <| e_seq <| g_seq ?_
   obtain ⟨b5, o6, ha7, hF9, hc8⟩ := ((⟨hl, fun _ _ => trivial⟩ : SlOk TLeaf.cells 3 (fun _ _ _ => True) _ _ _)).1.all (show 0 < xs.length by omega)
   replace ha7 : ad = some ⟨b5, o6, none⟩ := ha7
   have hc10 := hc8 i1 (show i1 < xs.length by omega)
   have he11 := ((⟨hl, fun _ _ => trivial⟩ : SlOk TLeaf.cells 3 (fun _ _ _ => True) _ _ _)).2 i1 (show i1 < xs.length by omega)
   obtain ⟨y12, hy12⟩ : ∃ y_, y_ = gd xs i1 := ⟨_, rfl⟩
   rw [← hy12] at he11 hc10
   refine g_region <| l_all 9 [o0, o0, o0, ⟨.auto [.at 1], some (.slice (some ⟨b5, o6, none⟩) xs.length cap)⟩, o0, (oi i1), (oa [.via 0 (.int .i64 y12.Page), .via 0 (.int .i64 y12.Frame), .via 0 (.int .i64 y12.Rights)]), o0, (oa [.at 3, .at 3, .at 3])] [0, 1, 4, 7] [Qb d, Value.slice ad xs.length cap = Value.slice (some ⟨b5, o6, none⟩) xs.length cap, ((i1 : Int) : Int) = ((i1 : Nat) : Int), i1 < xs.length, (none : Option Nat) = none, ∀ w', Ch.holds (old (fun b => b = d) w) w' → w'.cell? ⟨b5, o6 + i1 * 3, none⟩ = some (.int .i64 y12.Page), ∀ w', Ch.holds (old (fun b => b = d) w) w' → w'.cell? ⟨b5, o6 + i1 * 3 + 1, none⟩ = some (.int .i64 y12.Frame), ∀ w', Ch.holds (old (fun b => b = d) w) w' → w'.cell? ⟨b5, o6 + i1 * 3 + 2, none⟩ = some (.int .i64 y12.Rights), Qb w4.heap.size, Qb w4.heap.size, Qb w4.heap.size] [(0, .pointer (some ⟨d, 0, none⟩)), (1, .int .i64 page), (4, .pointer (some ⟨z, 0, none⟩)), (qgnt_5 w4)] ⟨w, w4.heap.size + 1, [(old (fun b => b = d) w), (qgnt_2 d ad xs cap), (qgnt_1 z), (qgnt_3 w4 y12)]⟩ ⟨rfl, congrArg (fun a => Value.slice a _ _) ha7, rfl, (by omega), rfl, oldR_cell hF9 (hc10 0 _ rfl), oldR_cell hF9 (hc10 1 _ rfl), oldR_cell hF9 (hc10 2 _ rfl), rfl, rfl, rfl, trivial⟩ ?_
   refine e_seq <| g_seq <| g_region <| l_run 5 [o0, o0, o0, ⟨.auto [.at 1], some (.slice (some ⟨b5, o6, none⟩) xs.length cap)⟩, o0] [0, 4, 7, 28, 29] [Qb d, Value.slice ad xs.length cap = Value.slice (some ⟨b5, o6, none⟩) xs.length cap] [(0, .pointer (some ⟨d, 0, none⟩)), (4, .pointer (some ⟨z, 0, none⟩)), (qgnt_5 w4), (28, .slice (some ⟨b5, o6, none⟩) xs.length cap), (29, .int .i64 page)] ⟨w, w4.heap.size + 1, [(old (fun b => b = d) w), (qgnt_2 d ad xs cap), (qgnt_1 z), (qgnt_3 w4 y12)]⟩ ⟨rfl, congrArg (fun a => Value.slice a _ _) ha7, trivial⟩ ?_
   refine l_call [] [] 37 #[.slice (some ⟨b5, o6, none⟩) xs.length cap, .int .i64 page] (some 30) trivial ?_
   intro w13 hw13
   refine (without_calls w13 ⟨(some ⟨b5, o6, none⟩), cap, xs⟩ page ((by rw [← ha7]; exact sl_old hl (fun b h => h.2) w13 (hw13.at (i := 0) (c := (old (fun b => b = d) w)) rfl))) h4).mono ?_
   rintro e w14 ⟨a15, cp16, rfl, how14, hkw14⟩
   have hnw14 : w4.heap.size + 1 ≤ w14.heap.size := by have := hkw14.size; rw [hw13.size] at this; exact this
   rw [hw13.size] at how14
   have hol := outX_le xs page
   refine ⟨_, _, rfl, hw13.keeps1 hkw14 (rowL (w4.heap.size + 1) 26 3 TLeaf.cells (.slice a15 ((outX xs page).length) cp16) (outX xs page)) how14 (row_stable _ _ _ _ _ _) (fun b hb => how14.lt b hb), ?_⟩
   refine l_keep [0, 4, 7, 30] [(0, .pointer (some ⟨d, 0, none⟩)), (4, .pointer (some ⟨z, 0, none⟩)), (qgnt_5 w4), (30, .slice a15 ((outX xs page).length) cp16)] ?_
   refine l_all 1 [o0] [0, 4, 7, 8] [] [(0, .pointer (some ⟨d, 0, none⟩)), (4, .pointer (some ⟨z, 0, none⟩)), (qgnt_5 w4), (8, .slice a15 ((outX xs page).length) cp16)] ⟨w, w14.heap.size, [(old (fun b => b = d) w), (qgnt_2 d ad xs cap), (qgnt_1 z), (qgnt_3 w4 y12), (rowL (w4.heap.size + 1) 26 3 TLeaf.cells (.slice a15 ((outX xs page).length) cp16) (outX xs page))]⟩ trivial ?_
   refine e_seq <| g_seq <| g_region <| l_run 4 [o0, o0, (oa [.at 3, .at 3, .at 3]), o0] [4, 7, 31, 32, 34] [Qb w4.heap.size, Qb w4.heap.size, Qb w4.heap.size] [(4, .pointer (some ⟨z, 0, none⟩)), (qgnt_5 w4), (31, .pointer (some ⟨d, 0, none⟩)), (32, .slice a15 ((outX xs page).length) cp16), (34, .slice (some ⟨w14.heap.size, 0, none⟩) 1 1)] ⟨w, w14.heap.size + 1, [(old (fun b => b = d) w), (qgnt_2 d ad xs cap), (qgnt_1 z), (qgnt_3 w4 y12), (rowL (w4.heap.size + 1) 26 3 TLeaf.cells (.slice a15 ((outX xs page).length) cp16) (outX xs page)), (qgnt_0 w14 y12)]⟩ ⟨rfl, rfl, rfl, trivial⟩ ?_
   refine l_push (w4.heap.size + 1) 4 5 (outX xs page) [(⟨y12.Page, y12.Frame, y12.Rights⟩ : TLeaf)] TLeaf.cells 26 3 24 (.slice a15 ((outX xs page).length) cp16) w14.heap.size 1 1 #[.int .i64 y12.Page, .int .i64 y12.Frame, .int .i64 y12.Rights] 26 (0, 0) true (some 35) (by simp only [List.length_cons, List.length_nil]; omega) (show (w4.heap.size + 1) ≤ w14.heap.size + 1 by omega) (fun a17 cp18 n19 (hn20 : w14.heap.size + 1 ≤ n19) => ?_)
   refine l_keep [4, 7, 31, 35] [(4, .pointer (some ⟨z, 0, none⟩)), (qgnt_5 w4), (31, .pointer (some ⟨d, 0, none⟩)), (35, .slice a17 (((outX xs page) ++ [(⟨y12.Page, y12.Frame, y12.Rights⟩ : TLeaf)]).length) cp18)] ?_
   refine l_all 3 [o0, o0, (oa [.at 1])] [4, 7] [Qb d] [(4, .pointer (some ⟨z, 0, none⟩)), (qgnt_5 w4)] ⟨w, n19, [(old (fun b => b = d) w), (.blk d (.cells #[.slice a17 (((outX xs page) ++ [(⟨y12.Page, y12.Frame, y12.Rights⟩ : TLeaf)]).length) cp18] 37 (0, 0)) true), (qgnt_1 z), (qgnt_3 w4 y12), (qgnt_4 w4 a17 xs page y12 cp18), (qgnt_0 w14 y12)]⟩ ⟨rfl, trivial⟩ ?_
   refine e_seq <| g_seq <| g_region <| l_all 3 [(oa [.at 3, .at 3, .at 3]), (oa [.at 2, .at 2, .at 2]), o0] [4, 5] [Qb w4.heap.size, Qb w4.heap.size, Qb w4.heap.size, Qb z, Qb z, Qb z] [(4, .pointer (some ⟨z, 0, none⟩)), (5, .bool true)] ⟨w, n19, [(old (fun b => b = d) w), (.blk d (.cells #[.slice a17 (((outX xs page) ++ [(⟨y12.Page, y12.Frame, y12.Rights⟩ : TLeaf)]).length) cp18] 37 (0, 0)) true), (.blk z (.cells (TLeaf.arr y12) 26 (0, 0)) true), (qgnt_3 w4 y12), (qgnt_4 w4 a17 xs page y12 cp18), (qgnt_0 w14 y12)]⟩ ⟨rfl, rfl, rfl, rfl, rfl, rfl, trivial⟩ ?_
   refine e_seq <| g_ret <| e_ret [.at 2, .at 2, .at 2] [Qb z, Qb z, Qb z] (.tuple #[.agg #[.int .i64 y12.Page, .int .i64 y12.Frame, .int .i64 y12.Rights], .bool true]) ⟨rfl, rfl, rfl, trivial⟩ ?_
   intro w21 hw21
   rw [hfb, findX_yes hfb, ← hV, ← hy12]
   exact ⟨rfl, ref_new hw21 rfl (show w.heap.size ≤ n19 by omega) rfl rfl (j := 4) rfl (show w.heap.size ≤ (w4.heap.size + 1) by omega) (by simp only [List.length_append, List.length_cons, List.length_nil]; omega) hdl⟩
abbrev q8ai_0 (d : Nat) (b14 : Nat) (xs : List TLeaf) (y : TLeaf) (cp10 : Nat) : Ch := .blk d (.cells #[.slice (some ⟨b14, 0 + offs 3 1, none⟩) ((((outX xs y.Page) ++ [(⟨y.Page, y.Frame, y.Rights⟩ : TLeaf)]).length) - 1) (cp10 - 1)] 37 (0, 0)) true
abbrev q8ai_1 (d : Nat) (a9 : Option Addr) (xs : List TLeaf) (y : TLeaf) (cp10 : Nat) : Ch := .blk d (.cells #[.slice a9 (((outX xs y.Page) ++ [(⟨y.Page, y.Frame, y.Rights⟩ : TLeaf)]).length) cp10] 37 (0, 0)) true
abbrev q8ai_2 (w5 : World) (y : TLeaf) : Ch := .blk w5.heap.size (.cells #[.int .i64 y.Page, .int .i64 y.Frame, .int .i64 y.Rights] 26 (0, 0)) true
abbrev q8ai_3 (d : Nat) (ad : Option Addr) (xs : List TLeaf) (cap : Nat) : Ch := .blk d (.cells #[.slice ad xs.length cap] 37 (0, 0)) true
abbrev q8ai_4 (z : Nat) (y : TLeaf) : Ch := .blk z (.cells (TLeaf.arr y) 26 (0, 0)) true
abbrev q8ai_5 (w2 : World) (b14 : Nat) (xs : List TLeaf) (y : TLeaf) (cp10 : Nat) : Ch := rowL w2.heap.size 26 3 TLeaf.cells (.slice (some ⟨b14, 0, none⟩) (((outX xs y.Page) ++ [(⟨y.Page, y.Frame, y.Rights⟩ : TLeaf)]).length) cp10) ((outX xs y.Page) ++ [(⟨y.Page, y.Frame, y.Rights⟩ : TLeaf)])
abbrev q8ai_6 (w2 : World) (a9 : Option Addr) (xs : List TLeaf) (y : TLeaf) (cp10 : Nat) : Ch := rowL w2.heap.size 26 3 TLeaf.cells (.slice a9 (((outX xs y.Page) ++ [(⟨y.Page, y.Frame, y.Rights⟩ : TLeaf)]).length) cp10) ((outX xs y.Page) ++ [(⟨y.Page, y.Frame, y.Rights⟩ : TLeaf)])
theorem rput_calls (w : World) (d : Nat) (F : Nat → Prop) (ad : Option Addr) (cap : Nat) (xs : List TLeaf) (hd : At w d (.cells #[.slice ad xs.length cap] 37 (0, 0))) (hl : SlAt TLeaf.cells 3 (fun b => F b ∧ ¬ b = d) w ⟨ad, cap, xs⟩) (h4 : xs.length ≤ 4) (y : TLeaf) : Calls Try.prog 23 #[.pointer (some ⟨d, 0, none⟩), .agg (TLeaf.arr y)] w fun e w' => e = .returned (.int .i64 (errP y)) ∧ RefPost w d F (putX xs y) w' := by
 obtain ⟨z, hz⟩ : ∃ z, z = w.heap.size := ⟨_, rfl⟩
 refine calls_G (args := [.pointer (some ⟨d, 0, none⟩), .agg (TLeaf.arr y)]) 37 ⟨w, z, [(old (fun b => b = d) w), (q8ai_3 d ad xs cap)]⟩ Try.func23 rfl (by kernel_rfl) (by kernel_rfl) (hz ▸ sat_ref hd) ?_
 have hdl : d < w.heap.size := (Array.getElem?_eq_some_iff.1 hd).1; have hle : xs.length ≤ cap := hl.le
 refine g_keep [0, 1] [(0, .pointer (some ⟨d, 0, none⟩)), (1, .agg (TLeaf.arr y))] ?_
 refine g_seq <| g_region <| l_all 2 [o0, o0] [0, 3] [] [(0, .pointer (some ⟨d, 0, none⟩)), (3, .pointer (some ⟨z, 0, none⟩))] ⟨w, z + 1, [(old (fun b => b = d) w), (q8ai_3 d ad xs cap), (q8ai_4 z y)]⟩ trivial ?_
 refine e_seq <| g_seq <| g_seq <| g_region <| l_run 1 [(oa [.at 2, .at 2, .at 2])] [0, 3, 6] [Qb z, Qb z, Qb z] [(0, .pointer (some ⟨d, 0, none⟩)), (3, .pointer (some ⟨z, 0, none⟩)), (6, .agg (TLeaf.arr y))] ⟨w, z + 1, [(old (fun b => b = d) w), (q8ai_3 d ad xs cap), (q8ai_4 z y)]⟩ ⟨rfl, rfl, rfl, trivial⟩ ?_
 refine l_call [] [] 38 #[.agg (TLeaf.arr y)] (some 7) trivial ?_
 intro w1 hw1
 refine (maybe2_calls w1 y).mono ?_
 rintro e w2 ⟨rfl, hkw2⟩
 have hnw2 : z + 1 ≤ w2.heap.size := by have := hkw2.size; rw [hw1.size] at this; exact this
 refine ⟨_, _, rfl, hw1.keeps hkw2, ?_⟩
 refine l_keep [0, 3, 7] [(0, .pointer (some ⟨d, 0, none⟩)), (3, .pointer (some ⟨z, 0, none⟩)), (7, .bool (lfine y))] ?_
 by_cases h3 : (lfine y) = true
 · refine l_all 1 [(ov (.bool false))] [0, 3, 8] [Value.bool (!(lfine y)) = Value.bool false] [(0, .pointer (some ⟨d, 0, none⟩)), (3, .pointer (some ⟨z, 0, none⟩)), (8, .bool false)] ⟨w, w2.heap.size, [(old (fun b => b = d) w), (q8ai_3 d ad xs cap), (q8ai_4 z y)]⟩ ⟨by simp [h3], trivial⟩ ?_
   refine e_seq <| g_false <| g_skip <| e_seq <| g_seq <| g_draw 8 [0, 1, 2] [(old (fun b => b = d) w), (q8ai_3 d ad xs cap), (q8ai_4 z y)] rfl rfl ?_
   refine w_take [(0, o0), (1, o0), (2, o0), (3, (oa [.at 1])), (4, o0), (5, (oa [.at 2]))] [0, 3, 12, 14] [Qb d, Qb z] [true, true, true, true, true, true, false, false] [(0, .pointer (some ⟨d, 0, none⟩)), (3, .pointer (some ⟨z, 0, none⟩)), (12, .slice ad xs.length cap), (14, .int .i64 y.Page)] rfl (by as_aux_lemma => kernel_rfl) (by as_aux_lemma => kernel_rfl) ⟨rfl, rfl, trivial⟩ ?_
   refine w_one 6 (by as_aux_lemma => kernel_rfl) rfl ?_
   refine wo_call [] [] 37 #[.slice ad xs.length cap, .int .i64 y.Page] (some 15) (by as_aux_lemma => kernel_rfl) rfl rfl trivial ?_
   intro w4 hw4
   refine (without_calls w4 ⟨ad, cap, xs⟩ y.Page (sl_old hl (fun b h => h.2) w4 (hw4.at (i := 0) (c := (old (fun b => b = d) w)) rfl)) h4).mono ?_
   rintro e w5 ⟨a6, cp7, rfl, how5, hkw5⟩
   have hnw5 : w2.heap.size ≤ w5.heap.size := by have := hkw5.size; rw [hw4.size] at this; exact this
   rw [hw4.size] at how5
   have hol := outX_le xs y.Page
   have hs8 := hw4.keeps1 hkw5 (rowL w2.heap.size 26 3 TLeaf.cells (.slice a6 ((outX xs y.Page).length) cp7) (outX xs y.Page)) how5 (row_stable _ _ _ _ _ _) (fun b hb => how5.lt b hb)
   refine ⟨_, _, rfl, hs8, .inr (fun c hc => hs8.all c (by first | exact hc | exact picks_mem (is := [0, 1, 2]) rfl c hc)), ?_⟩
   refine w_keep [0, 3, 15] [(0, .pointer (some ⟨d, 0, none⟩)), (3, .pointer (some ⟨z, 0, none⟩)), (15, .slice a6 ((outX xs y.Page).length) cp7)] ?_
   refine w_take [(7, o0)] [0, 3, 5] [] [true, true, true, true, true, true, true, true] [(0, .pointer (some ⟨d, 0, none⟩)), (3, .pointer (some ⟨z, 0, none⟩)), (5, .slice a6 ((outX xs y.Page).length) cp7)] rfl (by as_aux_lemma => kernel_rfl) (by as_aux_lemma => kernel_rfl) trivial ?_
   refine w_done (by as_aux_lemma => kernel_rfl) ?_
   refine e_keep [0, 3, 5] [(0, .pointer (some ⟨d, 0, none⟩)), (3, .pointer (some ⟨z, 0, none⟩)), (5, .slice a6 ((outX xs y.Page).length) cp7)] ?_
   refine e_seq <| g_seq <| g_region <| l_run 4 [o0, o0, (oa [.at 2, .at 2, .at 2]), o0] [0, 16, 17, 19] [Qb z, Qb z, Qb z] [(0, .pointer (some ⟨d, 0, none⟩)), (16, .pointer (some ⟨d, 0, none⟩)), (17, .slice a6 ((outX xs y.Page).length) cp7), (19, .slice (some ⟨w5.heap.size, 0, none⟩) 1 1)] ⟨w, w5.heap.size + 1, [(old (fun b => b = d) w), (q8ai_3 d ad xs cap), (q8ai_4 z y), (rowL w2.heap.size 26 3 TLeaf.cells (.slice a6 ((outX xs y.Page).length) cp7) (outX xs y.Page)), (q8ai_2 w5 y)]⟩ ⟨rfl, rfl, rfl, trivial⟩ ?_
   refine l_push w2.heap.size 3 4 (outX xs y.Page) [(⟨y.Page, y.Frame, y.Rights⟩ : TLeaf)] TLeaf.cells 26 3 24 (.slice a6 ((outX xs y.Page).length) cp7) w5.heap.size 1 1 #[.int .i64 y.Page, .int .i64 y.Frame, .int .i64 y.Rights] 26 (0, 0) true (some 20) (by simp only [List.length_cons, List.length_nil]; omega) (show w2.heap.size ≤ w5.heap.size + 1 by omega) (fun a9 cp10 n11 (hn12 : w5.heap.size + 1 ≤ n11) => ?_)
   refine l_keep [0, 16, 20] [(0, .pointer (some ⟨d, 0, none⟩)), (16, .pointer (some ⟨d, 0, none⟩)), (20, .slice a9 (((outX xs y.Page) ++ [(⟨y.Page, y.Frame, y.Rights⟩ : TLeaf)]).length) cp10)] ?_
   refine l_all 3 [o0, o0, (oa [.at 1])] [0] [Qb d] [(0, .pointer (some ⟨d, 0, none⟩))] ⟨w, n11, [(old (fun b => b = d) w), (q8ai_1 d a9 xs y cp10), (q8ai_4 z y), (q8ai_6 w2 a9 xs y cp10), (q8ai_2 w5 y)]⟩ ⟨rfl, trivial⟩ ?_
   refine e_seq <| g_seq <| g_seq ?_
   by_cases h13 : (4 : Int) < ((((outX xs y.Page) ++ [(⟨y.Page, y.Frame, y.Rights⟩ : TLeaf)]).length : Nat) : Int)
   · refine g_region <| l_all 6 [o0, o0, o0, (oa [.at 1]), o0, oT] [0, 28] [Qb d, BT ((((((outX xs y.Page) ++ [(⟨y.Page, y.Frame, y.Rights⟩ : TLeaf)]).length : Nat) : Int) : Int) > 4)] [(0, .pointer (some ⟨d, 0, none⟩)), (28, .bool true)] ⟨w, n11, [(old (fun b => b = d) w), (q8ai_1 d a9 xs y cp10), (q8ai_4 z y), (q8ai_6 w2 a9 xs y cp10), (q8ai_2 w5 y)]⟩ ⟨rfl, bt (by omega), trivial⟩ ?_
     refine e_seq <| g_true <| g_rowcap 3 rfl (fun hcap => ?_)
     refine g_rowat (base := w2.heap.size) (e := 26) (sz := 3) (cells := TLeaf.cells) (a := a9) (n := (((outX xs y.Page) ++ [(⟨y.Page, y.Frame, y.Rights⟩ : TLeaf)]).length)) (cap := cp10) (xs := ((outX xs y.Page) ++ [(⟨y.Page, y.Frame, y.Rights⟩ : TLeaf)])) 3 (by omega) (fun b14 hg15 hb16 => ?_)
     subst hg15
     refine g_region <| l_all 9 [o0, o0, o0, o0, (oa [.at 1]), ⟨.slc 1 (((outX xs y.Page) ++ [(⟨y.Page, y.Frame, y.Rights⟩ : TLeaf)]).length) true, none⟩, o0, o0, (oa [.at 1])] [] [Qb d, (1 : Int) = ((1 : Nat) : Int), (((((outX xs y.Page) ++ [(⟨y.Page, y.Frame, y.Rights⟩ : TLeaf)]).length : Nat) : Int) : Int) = ((((outX xs y.Page) ++ [(⟨y.Page, y.Frame, y.Rights⟩ : TLeaf)]).length : Nat) : Int), 1 ≤ ((outX xs y.Page) ++ [(⟨y.Page, y.Frame, y.Rights⟩ : TLeaf)]).length, ((outX xs y.Page) ++ [(⟨y.Page, y.Frame, y.Rights⟩ : TLeaf)]).length ≤ cp10, cp10 ≠ 1, (none : Option Nat) = none, Qb d] [] ⟨w, n11, [(old (fun b => b = d) w), (q8ai_0 d b14 xs y cp10), (q8ai_4 z y), (q8ai_5 w2 b14 xs y cp10), (q8ai_2 w5 y)]⟩ ⟨rfl, rfl, rfl, (by omega), (by omega), (by omega), rfl, rfl, trivial⟩ ?_
     refine e_seq <| g_seq <| g_region <| l_all 1 [o0] [4] [] [(4, .int .i64 0)] ⟨w, n11, [(old (fun b => b = d) w), (q8ai_0 d b14 xs y cp10), (q8ai_4 z y), (q8ai_5 w2 b14 xs y cp10), (q8ai_2 w5 y)]⟩ trivial ?_
     refine e_seq <| g_ret <| e_ret [] [] (.int .i64 0) trivial ?_
     intro w17 hw17
     rw [(putX_gt (xs := xs) (y := y) h3 h13).1, (putX_gt (xs := xs) (y := y) h3 h13).2]
     exact ⟨rfl, ref_tail hw17 rfl (show w.heap.size ≤ n11 by omega) rfl rfl (j := 3) rfl (show w.heap.size ≤ w2.heap.size by omega) (by simp only [List.length_append, List.length_cons, List.length_nil]; omega) (by simp) hdl⟩
   · refine g_region <| l_all 6 [o0, o0, o0, (oa [.at 1]), o0, oF] [0, 28] [Qb d, BF ((((((outX xs y.Page) ++ [(⟨y.Page, y.Frame, y.Rights⟩ : TLeaf)]).length : Nat) : Int) : Int) > 4)] [(0, .pointer (some ⟨d, 0, none⟩)), (28, .bool false)] ⟨w, n11, [(old (fun b => b = d) w), (q8ai_1 d a9 xs y cp10), (q8ai_4 z y), (q8ai_6 w2 a9 xs y cp10), (q8ai_2 w5 y)]⟩ ⟨rfl, bf (by omega), trivial⟩ ?_
     refine e_seq <| g_false <| g_skip <| e_seq <| g_seq <| g_region <| l_all 1 [o0] [4] [] [(4, .int .i64 0)] ⟨w, n11, [(old (fun b => b = d) w), (q8ai_1 d a9 xs y cp10), (q8ai_4 z y), (q8ai_6 w2 a9 xs y cp10), (q8ai_2 w5 y)]⟩ trivial ?_
     refine e_seq <| g_ret <| e_ret [] [] (.int .i64 0) trivial ?_
     intro w18 hw18
     rw [(putX_le (xs := xs) (y := y) h3 h13).1, (putX_le (xs := xs) (y := y) h3 h13).2]
     exact ⟨rfl, ref_new hw18 rfl (show w.heap.size ≤ n11 by omega) rfl rfl (j := 3) rfl (show w.heap.size ≤ w2.heap.size by omega) (by simp only [List.length_append, List.length_cons, List.length_nil]; omega) hdl⟩
 · refine l_all 1 [(ov (.bool true))] [0, 3, 8] [Value.bool (!(lfine y)) = Value.bool true] [(0, .pointer (some ⟨d, 0, none⟩)), (3, .pointer (some ⟨z, 0, none⟩)), (8, .bool true)] ⟨w, w2.heap.size, [(old (fun b => b = d) w), (q8ai_3 d ad xs cap), (q8ai_4 z y)]⟩ ⟨by simp [h3], trivial⟩ ?_
   refine e_seq <| g_true <| g_seq <| g_region <| l_all 1 [o0] [4] [] [(4, .int .i64 80)] ⟨w, w2.heap.size, [(old (fun b => b = d) w), (q8ai_3 d ad xs cap), (q8ai_4 z y)]⟩ trivial ?_
   refine e_seq <| g_ret <| e_ret [] [] (.int .i64 80) trivial ?_
   intro w19 hw19
   rw [(putX_no (xs := xs) h3).1, (putX_no (xs := xs) h3).2]
   exact ⟨rfl, ref_same hw19 rfl (show w.heap.size ≤ w2.heap.size by omega) rfl rfl hl⟩
theorem rflush_calls (w : World) (d : Nat) (F : Nat → Prop) (ad : Option Addr) (cap : Nat) (xs : List TLeaf) (hd : At w d (.cells #[.slice ad xs.length cap] 37 (0, 0))) (hl : SlAt TLeaf.cells 3 (fun b => F b ∧ ¬ b = d) w ⟨ad, cap, xs⟩) (h4 : xs.length ≤ 4) : Calls Try.prog 24 #[.pointer (some ⟨d, 0, none⟩)] w fun e w' => e = .returned (.tuple #[]) ∧ RefPost w d F [] w' := by
 obtain ⟨z, hz⟩ : ∃ z, z = w.heap.size := ⟨_, rfl⟩
 refine calls_G (args := [.pointer (some ⟨d, 0, none⟩)]) 5 ⟨w, z, [(old (fun b => b = d) w), (.blk d (.cells #[.slice ad xs.length cap] 37 (0, 0)) true)]⟩ Try.func24 rfl (by kernel_rfl) (by kernel_rfl) (hz ▸ sat_ref hd) ?_
 have hdl : d < w.heap.size := (Array.getElem?_eq_some_iff.1 hd).1; have hle : xs.length ≤ cap := hl.le
 refine g_keep [0] [(0, .pointer (some ⟨d, 0, none⟩))] ?_
 refine g_region <| l_all 4 [o0, o0, o0, (oa [.at 1])] [] [Qb d] [] ⟨w, z, [(old (fun b => b = d) w), (.blk d (.cells #[.slice none 0 0] 37 (0, 0)) true)]⟩ ⟨rfl, trivial⟩ ?_
 -- the function's end
 refine e_end [] [] (.tuple #[]) trivial ?_
 intro w1 hw1
 exact ⟨rfl, ref_nil hw1 rfl (show w.heap.size ≤ z by omega) rfl rfl⟩
abbrev qvau_0 (d : Nat) (ad : Option Addr) (xs : List TLeaf) (cap : Nat) : Ch := .blk d (.cells #[.slice ad xs.length cap] 37 (0, 0)) true
theorem rleaves_calls (w : World) (d : Nat) (F : Nat → Prop) (ad : Option Addr) (cap : Nat) (xs : List TLeaf) (hd : At w d (.cells #[.slice ad xs.length cap] 37 (0, 0))) (hl : SlAt TLeaf.cells 3 (fun b => F b ∧ ¬ b = d) w ⟨ad, cap, xs⟩) (h4 : xs.length ≤ 4) : Calls Try.prog 25 #[.pointer (some ⟨d, 0, none⟩)] w fun e w' => ∃ a2 cap2, e = .returned (.slice a2 xs.length cap2) ∧ w'.ownsRow w.heap.size 26 3 (.slice a2 xs.length cap2) xs.length (xs.flatMap TLeaf.cells) ∧ Keeps (fun _ => False) w w' := by
 obtain ⟨z, hz⟩ : ∃ z, z = w.heap.size := ⟨_, rfl⟩
 refine calls_G (args := [.pointer (some ⟨d, 0, none⟩)]) 11 ⟨w, z, [(old (fun b => b = d) w), (qvau_0 d ad xs cap)]⟩ Try.func25 rfl (by kernel_rfl) (by kernel_rfl) (hz ▸ sat_ref hd) ?_
 have hdl : d < w.heap.size := (Array.getElem?_eq_some_iff.1 hd).1; have hle : xs.length ≤ cap := hl.le
 refine g_keep [0] [(0, .pointer (some ⟨d, 0, none⟩))] ?_
 refine g_seq <| g_region <| l_all 1 [o0] [0] [] [(0, .pointer (some ⟨d, 0, none⟩))] ⟨w, z, [(old (fun b => b = d) w), (qvau_0 d ad xs cap)]⟩ trivial ?_
 refine e_seq <| g_seq <| g_region <| l_all 1 [o0] [0, 3] [] [(0, .pointer (some ⟨d, 0, none⟩)), (3, .slice none 0 0)] ⟨w, z, [(old (fun b => b = d) w), (qvau_0 d ad xs cap)]⟩ trivial ?_
 refine e_seq <| g_seq <| g_region <| l_run 5 [o0, o0, o0, o0, (oa [.at 1])] [4, 8] [Qb d] [(4, .slice none 0 0), (8, .slice ad xs.length cap)] ⟨w, z, [(old (fun b => b = d) w), (qvau_0 d ad xs cap)]⟩ ⟨rfl, trivial⟩ ?_
 refine l_rowL z 26 3 TLeaf.cells ?_
 refine l_pushS z 2 0 ([]) xs ad TLeaf.cells 26 3 24 (.slice none 0 0) xs.length cap (old (fun b => b = d) w) (some 9) (by simp only [List.length_nil]; omega) (show z ≤ z by omega) (sl_old hl (fun b h => h.2)) (fun a1 cp2 n3 (hn4 : z ≤ n3) => ?_)
 refine l_keep [9] [(9, .slice a1 (([] ++ xs).length) cp2)] ?_
 refine l_all 1 [o0] [3] [] [(3, .slice a1 (([] ++ xs).length) cp2)] ⟨w, n3, [(old (fun b => b = d) w), (qvau_0 d ad xs cap), (rowL z 26 3 TLeaf.cells (.slice a1 (([] ++ xs).length) cp2) ([] ++ xs))]⟩ trivial ?_
 refine e_seq <| g_seq <| g_region <| l_all 2 [o0, o0] [2] [] [(2, .slice a1 (([] ++ xs).length) cp2)] ⟨w, n3, [(old (fun b => b = d) w), (qvau_0 d ad xs cap), (rowL z 26 3 TLeaf.cells (.slice a1 (([] ++ xs).length) cp2) ([] ++ xs))]⟩ trivial ?_
 refine e_seq <| g_ret <| e_ret [] [] (.slice a1 (([] ++ xs).length) cp2) trivial ?_
 intro w5 hw5
 have hrow := hw5.at (i := 2) rfl
 (try dsimp only [qvau_0] at hrow)
 rw [List.nil_append] at hrow
 exact ⟨_, _, rfl, hz ▸ hrow, keeps_at (hw5.back rfl (show w.heap.size ≤ n3 by omega) (List.mem_cons_self ..)) hd (hw5.at (i := 1) rfl)⟩
abbrev qkoy_0 (d : Nat) (ad : Option Addr) (xs : List TLeaf) (cap : Nat) : Ch := .blk d (.cells #[.slice ad xs.length cap] 37 (0, 0)) true
abbrev qkoy_1 (b6 : Nat) (o7 : Nat) (l : Sl TLeaf) : Nat × Value := (1, .slice (some ⟨b6, o7, none⟩) l.xs.length l.cap)
theorem rrestore_calls (w : World) (d : Nat) (F : Nat → Prop) (ad : Option Addr) (cap : Nat) (xs : List TLeaf) (hd : At w d (.cells #[.slice ad xs.length cap] 37 (0, 0))) (hl : SlAt TLeaf.cells 3 (fun b => F b ∧ ¬ b = d) w ⟨ad, cap, xs⟩) (h4 : xs.length ≤ 4) (l : Sl TLeaf) (hl2 : SlAt TLeaf.cells 3 (fun b => ¬ b = d) w l) : Calls Try.prog 28 #[.pointer (some ⟨d, 0, none⟩), .slice l.a l.xs.length l.cap] w fun e w' => e = .returned (.int .i64 (errR l.xs)) ∧ RefPost w d F (resX xs l.xs) w' := by
 obtain ⟨z, hz⟩ : ∃ z, z = w.heap.size := ⟨_, rfl⟩
 refine calls_G (args := [.pointer (some ⟨d, 0, none⟩), .slice l.a l.xs.length l.cap]) 41 ⟨w, z, [(old (fun b => b = d) w), (qkoy_0 d ad xs cap)]⟩ Try.func28 rfl (by kernel_rfl) (by kernel_rfl) (hz ▸ sat_ref hd) ?_
 have hdl : d < w.heap.size := (Array.getElem?_eq_some_iff.1 hd).1; have hle : xs.length ≤ cap := hl.le; have hll := hl2.len; have hl2e := hl2.le
 refine g_keep [0, 1] [(0, .pointer (some ⟨d, 0, none⟩)), (1, .slice l.a l.xs.length l.cap)] ?_
 refine g_seq <| g_region <| l_all 1 [o0] [0, 1] [] [(0, .pointer (some ⟨d, 0, none⟩)), (1, .slice l.a l.xs.length l.cap)] ⟨w, z, [(old (fun b => b = d) w), (qkoy_0 d ad xs cap)]⟩ trivial ?_
 refine e_seq <| g_seq <| g_seq ?_
 by_cases h1 : (4 : Int) < ((l.xs.length : Nat) : Int)
 · refine g_region <| l_all 3 [o0, o0, oT] [0, 1, 9] [BT ((((l.xs.length : Nat) : Int) : Int) > 4)] [(0, .pointer (some ⟨d, 0, none⟩)), (1, .slice l.a l.xs.length l.cap), (9, .bool true)] ⟨w, z, [(old (fun b => b = d) w), (qkoy_0 d ad xs cap)]⟩ ⟨bt (by omega), trivial⟩ ?_
   refine e_seq <| g_true <| g_seq <| g_region <| l_all 1 [o0] [4] [] [(4, .int .i64 81)] ⟨w, z, [(old (fun b => b = d) w), (qkoy_0 d ad xs cap)]⟩ trivial ?_
   refine e_seq <| g_ret <| e_ret [] [] (.int .i64 81) trivial ?_
   intro w2 hw2
   have hok : ¬ okL l.xs := fun h => absurd h.1 (by omega)
   rw [(resX_no (xs := xs) hok).1, (resX_no (xs := xs) hok).2]
   exact ⟨rfl, ref_same hw2 rfl (show w.heap.size ≤ z by omega) rfl rfl hl⟩
 · refine g_region <| l_all 3 [o0, o0, oF] [0, 1, 9] [BF ((((l.xs.length : Nat) : Int) : Int) > 4)] [(0, .pointer (some ⟨d, 0, none⟩)), (1, .slice l.a l.xs.length l.cap), (9, .bool false)] ⟨w, z, [(old (fun b => b = d) w), (qkoy_0 d ad xs cap)]⟩ ⟨bf (by omega), trivial⟩ ?_
   refine e_seq <| g_false <| g_skip <| e_seq <| g_seq <| g_seq <| g_region <| l_all 1 [o0] [0, 1, 5] [] [(0, .pointer (some ⟨d, 0, none⟩)), (1, .slice l.a l.xs.length l.cap), (5, .int .i64 0)] ⟨w, z, [(old (fun b => b = d) w), (qkoy_0 d ad xs cap)]⟩ trivial ?_
   refine e_seq <| g_block <| g_loop (fun m a w' => ∃ (n4 : Nat) (i : Nat), m = l.xs.length - i ∧ z ≤ n4 ∧ (i ≤ l.xs.length) ∧ (fineL l.xs i) ∧ St 41 [(0, .pointer (some ⟨d, 0, none⟩)), (1, .slice l.a l.xs.length l.cap), (5, .int .i64 (i : Int))] [] ⟨w, n4, [(old (fun b => b = d) w), (qkoy_0 d ad xs cap)]⟩ a w') (l.xs.length - 0) ?_ ?_
   · intro a w' hs; exact ⟨z, 0, rfl, Nat.le_refl _, Nat.zero_le _, fun q hq => absurd hq (Nat.not_lt_zero q), hs⟩
   · rintro m a w' ⟨n4, i, rfl, hn3, hki, hfi, hs⟩
     refine (?_ : G Try.prog 41 [(0, .pointer (some ⟨d, 0, none⟩)), (1, .slice l.a l.xs.length l.cap), (5, .int .i64 (i : Int))] [] ⟨w, n4, [(old (fun b => b = d) w), (qkoy_0 d ad xs cap)]⟩ _ _ _) a w' hs
     clear hs a w'
     refine g_seq <| g_seq ?_
     by_cases h5 : ((i : Int) : Int) < ((l.xs.length : Nat) : Int)
     · refine g_region <| l_all 4 [o0, o0, o0, oT] [0, 1, 5, 13] [BT (((i : Int) : Int) < ((l.xs.length : Nat) : Int))] [(0, .pointer (some ⟨d, 0, none⟩)), (1, .slice l.a l.xs.length l.cap), (5, .int .i64 (i : Int)), (13, .bool true)] ⟨w, n4, [(old (fun b => b = d) w), (qkoy_0 d ad xs cap)]⟩ ⟨bt (by omega), trivial⟩ ?_
       refine e_seq <| g_true <| g_skip <| e_seq <| g_seq <| g_block <| g_seq ?_
       obtain ⟨b6, o7, ha8, hF10, hc9⟩ := ((⟨hl2, fun _ _ => trivial⟩ : SlOk TLeaf.cells 3 (fun _ _ _ => True) _ _ _)).1.all (show 0 < l.xs.length by omega)
       replace ha8 : l.a = some ⟨b6, o7, none⟩ := ha8
       refine g_eq [(0, .pointer (some ⟨d, 0, none⟩)), (qkoy_1 b6 o7 l), (5, .int .i64 (i : Int)), (13, .bool true)] (by (try dsimp only [qkoy_0, qkoy_1]); simp only [ha8]) ?_
       have hc11 := hc9 i (show i < l.xs.length by omega)
       have he12 := ((⟨hl2, fun _ _ => trivial⟩ : SlOk TLeaf.cells 3 (fun _ _ _ => True) _ _ _)).2 i (show i < l.xs.length by omega)
       obtain ⟨y13, hy13⟩ : ∃ y_, y_ = gd l.xs i := ⟨_, rfl⟩
       rw [← hy13] at he12 hc11
       refine g_draw 18 [0, 1] [(old (fun b => b = d) w), (qkoy_0 d ad xs cap)] rfl rfl ?_
       refine w_take [(0, o0), (1, o0), (2, (oi i)), (3, (oa [.via 0 (.int .i64 y13.Page), .via 0 (.int .i64 y13.Frame), .via 0 (.int .i64 y13.Rights)]))] [0, 1, 5, 19] [((i : Int) : Int) = ((i : Nat) : Int), i < l.xs.length, (none : Option Nat) = none, ∀ w', Ch.holds (old (fun b => b = d) w) w' → w'.cell? ⟨b6, o7 + i * 3, none⟩ = some (.int .i64 y13.Page), ∀ w', Ch.holds (old (fun b => b = d) w) w' → w'.cell? ⟨b6, o7 + i * 3 + 1, none⟩ = some (.int .i64 y13.Frame), ∀ w', Ch.holds (old (fun b => b = d) w) w' → w'.cell? ⟨b6, o7 + i * 3 + 2, none⟩ = some (.int .i64 y13.Rights)] [true, true, true, true, false, false, false, false, false, false, false, false, false, false, false, false, false, false] [(0, .pointer (some ⟨d, 0, none⟩)), (qkoy_1 b6 o7 l), (5, .int .i64 (i : Int)), (19, .agg (TLeaf.arr y13))] rfl (by as_aux_lemma => kernel_rfl) (by as_aux_lemma => kernel_rfl) ⟨rfl, (by omega), rfl, oldS_cell hF10 (hc11 0 _ rfl), oldS_cell hF10 (hc11 1 _ rfl), oldS_cell hF10 (hc11 2 _ rfl), trivial⟩ ?_
       refine w_one 4 (by as_aux_lemma => kernel_rfl) rfl ?_
       refine wo_call [] [] 38 #[.agg (TLeaf.arr y13)] (some 20) (by as_aux_lemma => kernel_rfl) rfl rfl trivial ?_
       intro w14 hw14
       refine (maybe2_calls w14 y13).mono ?_
       rintro e w15 ⟨rfl, hkw15⟩
       have hnw15 : n4 ≤ w15.heap.size := by have := hkw15.size; rw [hw14.size] at this; exact this
       have hs16 := hw14.keeps hkw15
       refine ⟨_, _, rfl, hs16, .inr (fun c hc => hs16.all c (by first | exact hc | exact picks_mem (is := [0, 1]) rfl c hc)), ?_⟩
       refine w_keep [0, 1, 5, 20] [(0, .pointer (some ⟨d, 0, none⟩)), (qkoy_1 b6 o7 l), (5, .int .i64 (i : Int)), (20, .bool (lfine y13))] ?_
       by_cases h17 : (lfine y13) = true
       · refine w_take [(5, (ov (.bool false))), (6, o0), (7, o0), (8, o0), (9, ⟨.slc 0 i false, none⟩), (10, o0), (11, o0), (12, (oi i)), (13, o0), (14, (oa [.via 0 (.int .i64 y13.Page)]))] [0, 1, 5, 22, 25, 30] [Value.bool (!(lfine y13)) = Value.bool false, (0 : Int) = ((0 : Nat) : Int), ((i : Int) : Int) = ((i : Nat) : Int), 0 ≤ i, i ≤ l.cap, l.cap = 0 ∨ (0 : Nat) = 0, ((i : Int) : Int) = ((i : Nat) : Int), i < l.xs.length, (none : Option Nat) = none, ∀ w', Ch.holds (old (fun b => b = d) w) w' → w'.cell? ⟨b6, o7 + i * 3, none⟩ = some (.int .i64 y13.Page)] [true, true, true, true, true, true, true, true, true, true, true, true, true, true, true, false, false, false] [(0, .pointer (some ⟨d, 0, none⟩)), (qkoy_1 b6 o7 l), (5, .int .i64 (i : Int)), (22, .bool false), (25, .slice (some ⟨b6, o7, none⟩) (i - 0) (l.cap - 0)), (30, .int .i64 y13.Page)] rfl (by as_aux_lemma => kernel_rfl) (by as_aux_lemma => kernel_rfl) ⟨by simp [h17], rfl, rfl, (by omega), (by omega), .inr rfl, rfl, (by omega), rfl, oldS_cell hF10 (hc11 0 _ rfl), trivial⟩ ?_
         refine w_one 15 (by as_aux_lemma => kernel_rfl) rfl ?_
         refine wo_call [] [] 36 #[.slice (some ⟨b6, o7, none⟩) (i - 0) (l.cap - 0), .int .i64 y13.Page] (some 31) (by as_aux_lemma => kernel_rfl) rfl rfl trivial ?_
         intro w18 hw18
         rw [← ha8]
         refine (has_take_calls w18 l i y13.Page (by omega) (sl_old hl2 (fun b h => h) w18 (hw18.at (i := 0) (c := (old (fun b => b = d) w)) rfl))).mono ?_
         rintro e w19 ⟨rfl, hkw19⟩
         have hnw19 : w15.heap.size ≤ w19.heap.size := by have := hkw19.size; rw [hw18.size] at this; exact this
         have hs20 := hw18.keeps hkw19
         refine ⟨_, _, rfl, hs20, .inr (fun c hc => hs20.all c (by first | exact hc | exact picks_mem (is := [0, 1]) rfl c hc)), ?_⟩
         refine w_keep [0, 1, 5, 22, 31] [(0, .pointer (some ⟨d, 0, none⟩)), (qkoy_1 b6 o7 l), (5, .int .i64 (i : Int)), (22, .bool false), (31, .int .i64 (hasI (l.xs.take i) y13.Page))] ?_
         by_cases h21 : ((hasI (l.xs.take i) y13.Page) : Int) < 0
         · refine w_take [(16, oF), (17, o0)] [0, 1, 5, 33] [BF (((hasI (l.xs.take i) y13.Page) : Int) ≥ 0)] [true, true, true, true, true, true, true, true, true, true, true, true, true, true, true, true, true, true] [(0, .pointer (some ⟨d, 0, none⟩)), (qkoy_1 b6 o7 l), (5, .int .i64 (i : Int)), (33, .bool false)] rfl (by as_aux_lemma => kernel_rfl) (by as_aux_lemma => kernel_rfl) ⟨bf (by omega), trivial⟩ ?_
           refine w_done (by as_aux_lemma => kernel_rfl) ?_
           refine e_keep [0, 1, 5, 33] [(0, .pointer (some ⟨d, 0, none⟩)), (qkoy_1 b6 o7 l), (5, .int .i64 (i : Int)), (33, .bool false)] ?_
           refine e_seq <| g_false <| g_skip <| e_blk <| e_seq <| g_region <| l_all 3 [o0, (ov (.int .i64 ((i + 1 : Nat) : Int))), o0] [0, 1, 5] [Value.int .i64 (IntKind.i64.wrap (((i : Int) : Int) + 1)) = Value.int .i64 (((i + 1 : Nat) : Int))] [(0, .pointer (some ⟨d, 0, none⟩)), (qkoy_1 b6 o7 l), (5, .int .i64 ((i + 1 : Nat) : Int))] ⟨w, w19.heap.size, [(old (fun b => b = d) w), (qkoy_0 d ad xs cap)]⟩ ⟨congrArg (Value.int .i64) (wr_i64 (by omega) (by omega) (by omega)), trivial⟩ ?_
           refine e_eqk [0, 1, 5] [(0, .pointer (some ⟨d, 0, none⟩)), (1, .slice l.a l.xs.length l.cap), (5, .int .i64 ((i + 1 : Nat) : Int))] (by (try dsimp only [qkoy_0, qkoy_1]); simp only [ha8]; rfl) ?_
           refine e_inv (fun a w' hs => ⟨l.xs.length - (i + 1), by omega, w19.heap.size, (i + 1), rfl, by omega, by omega, all_push hfi ⟨by rw [← hy13]; exact h17, by rw [← hy13]; exact has_neg (by omega) (by omega)⟩, hs⟩)
         · refine w_take [(16, oT), (17, o0)] [0, 1, 5, 33] [BT (((hasI (l.xs.take i) y13.Page) : Int) ≥ 0)] [true, true, true, true, true, true, true, true, true, true, true, true, true, true, true, true, true, true] [(0, .pointer (some ⟨d, 0, none⟩)), (qkoy_1 b6 o7 l), (5, .int .i64 (i : Int)), (33, .bool true)] rfl (by as_aux_lemma => kernel_rfl) (by as_aux_lemma => kernel_rfl) ⟨bt (by omega), trivial⟩ ?_
           refine w_done (by as_aux_lemma => kernel_rfl) ?_
           refine e_keep [0, 1, 5, 33] [(0, .pointer (some ⟨d, 0, none⟩)), (qkoy_1 b6 o7 l), (5, .int .i64 (i : Int)), (33, .bool true)] ?_
           refine e_seq <| g_true <| g_seq <| g_region <| l_all 1 [o0] [4] [] [(4, .int .i64 81)] ⟨w, w19.heap.size, [(old (fun b => b = d) w), (qkoy_0 d ad xs cap)]⟩ trivial ?_
           refine e_seq <| g_ret <| e_ret [] [] (.int .i64 81) trivial ?_
           intro w22 hw22
           obtain ⟨j, hj, hjp⟩ := has_pos h21 (by omega)
           have hok : ¬ okL l.xs := fun h => (h.2 i (by omega)).2 j hj (by rw [hjp, ← hy13])
           rw [(resX_no (xs := xs) hok).1, (resX_no (xs := xs) hok).2]
           exact ⟨rfl, ref_same hw22 rfl (show w.heap.size ≤ w19.heap.size by omega) rfl rfl hl⟩
       · refine w_take [(5, (ov (.bool true))), (6, o0), (7, o0), (8, o0), (9, o0), (10, o0), (11, o0), (12, o0), (13, o0), (14, o0), (15, o0), (16, o0), (17, o0)] [0, 1, 5, 33] [Value.bool (!(lfine y13)) = Value.bool true] [true, true, true, true, true, true, true, true, true, true, true, true, true, true, true, true, true, true] [(0, .pointer (some ⟨d, 0, none⟩)), (qkoy_1 b6 o7 l), (5, .int .i64 (i : Int)), (33, .bool true)] rfl (by as_aux_lemma => kernel_rfl) (by as_aux_lemma => kernel_rfl) ⟨by simp [h17], trivial⟩ ?_
         refine w_done (by as_aux_lemma => kernel_rfl) ?_
         refine e_keep [0, 1, 5, 33] [(0, .pointer (some ⟨d, 0, none⟩)), (qkoy_1 b6 o7 l), (5, .int .i64 (i : Int)), (33, .bool true)] ?_
         refine e_seq <| g_true <| g_seq <| g_region <| l_all 1 [o0] [4] [] [(4, .int .i64 81)] ⟨w, w15.heap.size, [(old (fun b => b = d) w), (qkoy_0 d ad xs cap)]⟩ trivial ?_
         refine e_seq <| g_ret <| e_ret [] [] (.int .i64 81) trivial ?_
         intro w23 hw23
         have hok : ¬ okL l.xs := fun h => h17 (by rw [hy13]; exact (h.2 i (by omega)).1)
         rw [(resX_no (xs := xs) hok).1, (resX_no (xs := xs) hok).2]
         exact ⟨rfl, ref_same hw23 rfl (show w.heap.size ≤ w15.heap.size by omega) rfl rfl hl⟩
     · refine g_region <| l_all 4 [o0, o0, o0, oF] [0, 1, 5, 13] [BF (((i : Int) : Int) < ((l.xs.length : Nat) : Int))] [(0, .pointer (some ⟨d, 0, none⟩)), (1, .slice l.a l.xs.length l.cap), (5, .int .i64 (i : Int)), (13, .bool false)] ⟨w, n4, [(old (fun b => b = d) w), (qkoy_0 d ad xs cap)]⟩ ⟨bf (by omega), trivial⟩ ?_
       refine e_seq <| g_false <| g_exit <| e_out <| e_outI <| e_hit <| e_seq <| g_seq <| g_region <| l_all 1 [o0] [0, 1, 6] [] [(0, .pointer (some ⟨d, 0, none⟩)), (1, .slice l.a l.xs.length l.cap), (6, .slice none 0 0)] ⟨w, n4, [(old (fun b => b = d) w), (qkoy_0 d ad xs cap)]⟩ trivial ?_
       refine e_seq <| g_seq <| g_region <| l_run 2 [o0, o0] [0, 34, 35] [] [(0, .pointer (some ⟨d, 0, none⟩)), (34, .slice none 0 0), (35, .slice l.a l.xs.length l.cap)] ⟨w, n4, [(old (fun b => b = d) w), (qkoy_0 d ad xs cap)]⟩ trivial ?_
       refine l_rowL z 26 3 TLeaf.cells ?_
       refine l_pushS z 2 0 ([]) l.xs l.a TLeaf.cells 26 3 24 (.slice none 0 0) l.xs.length l.cap (old (fun b => b = d) w) (some 36) (by simp only [List.length_nil]; omega) (show z ≤ n4 by omega) (sl_old hl2 (fun b h => h)) (fun a24 cp25 n26 (hn27 : n4 ≤ n26) => ?_)
       refine l_keep [0, 36] [(0, .pointer (some ⟨d, 0, none⟩)), (36, .slice a24 (([] ++ l.xs).length) cp25)] ?_
       refine l_all 1 [o0] [0, 6] [] [(0, .pointer (some ⟨d, 0, none⟩)), (6, .slice a24 (([] ++ l.xs).length) cp25)] ⟨w, n26, [(old (fun b => b = d) w), (qkoy_0 d ad xs cap), (rowL z 26 3 TLeaf.cells (.slice a24 (([] ++ l.xs).length) cp25) ([] ++ l.xs))]⟩ trivial ?_
       refine e_seq <| g_seq <| g_region <| l_all 5 [o0, o0, o0, o0, (oa [.at 1])] [] [Qb d] [] ⟨w, n26, [(old (fun b => b = d) w), (.blk d (.cells #[.slice a24 (([] ++ l.xs).length) cp25] 37 (0, 0)) true), (rowL z 26 3 TLeaf.cells (.slice a24 (([] ++ l.xs).length) cp25) ([] ++ l.xs))]⟩ ⟨rfl, trivial⟩ ?_
       refine e_seq <| g_seq <| g_region <| l_all 1 [o0] [4] [] [(4, .int .i64 0)] ⟨w, n26, [(old (fun b => b = d) w), (.blk d (.cells #[.slice a24 (([] ++ l.xs).length) cp25] 37 (0, 0)) true), (rowL z 26 3 TLeaf.cells (.slice a24 (([] ++ l.xs).length) cp25) ([] ++ l.xs))]⟩ trivial ?_
       refine e_seq <| g_ret <| e_ret [] [] (.int .i64 0) trivial ?_
       intro w28 hw28
       have hok : okL l.xs := ⟨by omega, fun q hq => hfi q (by omega)⟩
       rw [(resX_yes (xs := xs) hok).1, (resX_yes (xs := xs) hok).2]
       have hD := ref_new (F := F) hw28 rfl (show w.heap.size ≤ n26 by omega) rfl rfl (j := 2) rfl (show w.heap.size ≤ z by omega) (by simp only [List.length_append, List.length_cons, List.length_nil]; omega) hdl
       rw [List.nil_append] at hD
       exact ⟨rfl, hD⟩

end Go.Proofs.Ytbjcamafaolgiaa.Ly
