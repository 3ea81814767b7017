/- The document's cursor. No conditions. -/
import Derived.Test.YtmmkacfeocnblaaYf
namespace Go.Proofs.Ytmmkacfeocnblaa.Ly
open Go Go.Proofs.Ytmmkacfeocnblaa.Eng Go.Proofs.Ytmmkacfeocnblaa.Mem
set_option linter.unusedSimpArgs false
set_option linter.unusedVariables false
set_option maxRecDepth 100000

theorem strOf_inj {xs ys : List Int} (hx : Byt xs) (hy : Byt ys) (h : (strOf xs).toList = (strOf ys).toList) : xs = ys := by
  have h1 : (xs.map (fun x => UInt8.ofNat x.toNat)) = (ys.map (fun x => UInt8.ofNat x.toNat)) := by
    rw [Go.ByteArray.toList_eq, Go.ByteArray.toList_eq] at h
    exact h
  have hl : xs.length = ys.length := by simpa using congrArg List.length h1
  refine List.ext_getElem hl (fun i h2 h3 => ?_)
  have h4 := congrArg (fun l => l[i]?) h1
  simp only [List.getElem?_map, List.getElem?_eq_getElem h2, List.getElem?_eq_getElem h3, Option.map_some, Option.some.injEq] at h4
  have h5 := congrArg UInt8.toNat h4
  have a := hx xs[i] (List.getElem_mem h2)
  have b := hy ys[i] (List.getElem_mem h3)
  rw [UInt8.toNat_ofNat_of_lt' (by show _ < 256; omega), UInt8.toNat_ofNat_of_lt' (by show _ < 256; omega)] at h5
  omega
abbrev CurIs (w : World) (pc : Nat) (l : Sl Int) (at' : Nat) (bad : Bool) : Prop := At w pc (.cells #[.slice l.a l.xs.length l.cap, .int .i64 (at' : Nat), .bool bad] 91 (0, 0))
theorem sat_cur {w : World} {p : Nat} {cp : Array Value} {tp : TypeId} (hp : At w p (.cells cp tp (0, 0))) : Sat ⟨w, w.heap.size, [old (fun b => b = p) w, .blk p (.cells cp tp (0, 0)) true]⟩ w :=
  sat_oldS w _ _ (fun c hc => by
    simp only [List.mem_cons, List.not_mem_nil, or_false] at hc
    subst hc
    exact ⟨hp, Ch.stable_blk _ _ _, fun b hb => by
        have hb' : b = p := hb
        exact ⟨by rw [hb']; exact (Array.getElem?_eq_some_iff.1 hp).1, hb'⟩⟩) (by simp)
theorem cur_set {A : AW} {w w' : World} {i pc : Nat} {cp cp' : Array Value} {tp : TypeId} (h : Sat A w) (hi : A.σ[i]? = some (.blk pc (.cells cp tp (0, 0)) true)) (hc : At w' pc (.cells cp' tp (0, 0))) (hk : Keeps (fun b => b = pc) w w') : A.n ≤ w'.heap.size ∧ Sat { A with n := w'.heap.size, σ := A.σ.set i (.blk pc (.cells cp' tp (0, 0)) true) } w' :=
  ⟨size_of h hk, h.growN hi rfl rfl hk hc (Ch.stable_blk _ _ _) (fun b hb => .inl hb) (fun b hb => by
    have hb' : b = pc := hb
    rw [hb']; exact (Array.getElem?_eq_some_iff.1 hc).1)⟩
theorem cut_gd {b : List Int} {a n i : Nat} (hi : i < n) (hn : a + n ≤ b.length) : gd (cutB b a n) i = gd b (a + i) := by
  rw [gd_eq (by rw [cutB_len hn]; exact hi), gd_eq (by omega)]
  unfold cutB; simp
def CutPost (w : World) (pc : Nat) (l : Sl Int) (at' n : Nat) (e : Ending) (w' : World) : Prop :=
  ((at' + n ≤ l.xs.length ∧ (∃ a cap, e = .returned (.slice a n cap) ∧ ∀ (F : Nat → Prop) (wz : World), SlAt u8c 1 F wz l → SlAt u8c 1 F wz ⟨a, cap, cutB l.xs at' n⟩) ∧ CurIs w' pc l (at' + n) false) ∨ (l.xs.length < at' + n ∧ e = .returned (.slice none 0 0) ∧ CurIs w' pc l at' true)) ∧ Keeps (fun b => b = pc) w w'
/-- A step of the document's cursor: it was bad and stays; it reads; it becomes bad. -/
def Step {α : Type} (bad : Bool) (a0 : Nat) (r : PR α) (bd : Bool) (a : Nat) (x : α) : Prop := (bad = true ∧ bd = true ∧ a = a0) ∨ (bad = false ∧ bd = false ∧ r = .ok x a) ∨ (bad = false ∧ bd = true ∧ r = .no a)
theorem Step.bind {α β : Type} {bad bd bd2 : Bool} {a0 a a2 : Nat} {r : PR α} {x : α} {f : α → Nat → PR β} {y : β} (h : Step bad a0 r bd a x) (h2 : Step bd a (f x a) bd2 a2 y) : Step bad a0 (r.bind f) bd2 a2 y := by
  rcases h with ⟨e1, e2, e3⟩ | ⟨e1, e2, e3⟩ | ⟨e1, e2, e3⟩ <;> subst e1 <;> subst e2
  · subst e3
    rcases h2 with ⟨-, g2, g3⟩ | ⟨g1, -⟩ | ⟨g1, -⟩
    · exact .inl ⟨rfl, g2, g3⟩
    · cases g1
    · cases g1
  · subst e3
    rcases h2 with ⟨g1, -⟩ | ⟨-, g2, g3⟩ | ⟨-, g2, g3⟩
    · cases g1
    · exact .inr (.inl ⟨rfl, g2, g3⟩)
    · exact .inr (.inr ⟨rfl, g2, g3⟩)
  · subst e3
    rcases h2 with ⟨-, g2, g3⟩ | ⟨g1, -⟩ | ⟨g1, -⟩
    · subst g3; exact .inr (.inr ⟨rfl, g2, rfl⟩)
    · cases g1
    · cases g1
theorem Step.map {α β : Type} {bad bd : Bool} {a0 a : Nat} {r : PR α} {x : α} {g : α → β} (h : Step bad a0 r bd a x) : Step bad a0 (r.bind fun x a => .ok (g x) a) bd a (g x) := h.bind (by
  cases bd
  · exact .inr (.inl ⟨rfl, rfl, rfl⟩)
  · exact .inl ⟨rfl, rfl, rfl⟩)
def CPost {α : Type} (w : World) (pc : Nat) (l : Sl Int) (at' : Nat) (bad : Bool) (r : PR α) (val : α → Value) (R : α → Prop) (e : Ending) (w' : World) : Prop :=
  ∃ x bd a, e = .returned (val x) ∧ Step bad at' r bd a x ∧ R x ∧ a ≤ l.xs.length ∧ CurIs w' pc l a bd ∧ Keeps (fun b => b = pc) w w'
abbrev qju8_0 (pc : Nat) (l : Sl Int) (at0 : Nat) : Ch := bk pc #[.slice l.a l.xs.length l.cap, i6 (at0 : Int), .bool false] 91
abbrev qju8_1 (pc : Nat) : Nat × Value := (0, pt pc)
theorem take_good (w : World) (pc : Nat) (l : Sl Int) (at0 : Nat) (hc : CurIs w pc l at0 false) (hl : SlAt u8c 1 (fun x => x < w.heap.size ∧ ¬ x = pc) w l) (hB : Byt l.xs) (hlen : l.xs.length ≤ 16384) (hat : at0 ≤ l.xs.length) (n : Nat) (hn : n ≤ 4294967295 ∧ (n = 0 → 0 < at0)) : Calls Try.prog 45 #[.pointer (some ⟨pc, 0, none⟩), .int .i64 (n : Int)] w fun e w' => CutPost w pc l at0 n e w' := by
 obtain ⟨z, hz⟩ : ∃ z, z = w.heap.size := ⟨_, rfl⟩
 refine calls_G (args := [pt pc, i6 (n : Int)]) 51 ⟨w, z, [(old (fun b => b = pc) w), (qju8_0 pc l at0)]⟩ Try.func45 rfl (by kernel_rfl) (by kernel_rfl) (hz ▸ sat_cur hc) ?_
 have hcap : l.xs.length ≤ l.cap := hl.le
 refine g_keep [0, 1] [(qju8_1 pc), (1, i6 (n : Int))] ?_
 refine q_cS 6 0 [] [[o0]] [] [(qju8_1 pc), (1, i6 (n : Int))] rfl trivial ?_
 by_cases h1 : (((l.xs.length : Nat) : Int) - (at0 : Int) : Int) < (n : Int)
 · refine g_draw 18 [0, 1] [(old (fun b => b = pc) w), (qju8_0 pc l at0)] rfl rfl ?_
   refine w_take [(0, o0), (1, o0), (2, o0), (3, (a1 1)), (4, o0), (5, o0), (6, o0), (7, o0), (8, o0), (9, (a1 1)), (10, o0), (11, o0), (12, o0), (13, o0), (14, (a1 1)), (15, (ov (i6 (((l.xs.length : Nat) : Int) - (at0 : Int))))), (16, oT), (17, o0)] [0, 1, 23] [Qb pc, Qb pc, Qb pc, Wr ((((l.xs.length : Nat) : Int) : Int) - (at0 : Int)) (((l.xs.length : Nat) : Int) - (at0 : Int)), BT (((n : Int) : Int) > (((l.xs.length : Nat) : Int) - (at0 : Int)))] [true, true, true, true, true, true, true, true, true, true, true, true, true, true, true, true, true, true] [(qju8_1 pc), (1, i6 (n : Int)), (23, .bool true)] rfl (by as_aux_lemma => kernel_rfl) (by as_aux_lemma => kernel_rfl) ⟨rfl, rfl, rfl, wrI, bt (by omega), trivial⟩ ?_
   refine w_done (by as_aux_lemma => kernel_rfl) ?_
   refine q_o 11 0 [1] [[o0, o0, o0, (a1 1)], [o0]] [Qb pc] [(4, .slice none 0 0)] ⟨w, z, [(old (fun b => b = pc) w), (bk pc #[.slice l.a l.xs.length l.cap, i6 (at0 : Int), .bool true] 91)]⟩ rfl ⟨rfl, trivial⟩ ?_
   refine e_ret [] [] (.slice none 0 0) trivial ?_
   intro w2 hw2
   exact ⟨.inr ⟨by omega, rfl, hw2.at (i := 1) rfl⟩, back0 hw2⟩
 · refine g_draw 18 [0, 1] [(old (fun b => b = pc) w), (qju8_0 pc l at0)] rfl rfl ?_
   refine w_take [(0, o0), (1, o0), (2, o0), (3, (a1 1)), (4, o0), (5, o0), (6, o0), (7, o0), (8, o0), (9, (a1 1)), (10, o0), (11, o0), (12, o0), (13, o0), (14, (a1 1)), (15, (ov (i6 (((l.xs.length : Nat) : Int) - (at0 : Int))))), (16, oF), (17, o0)] [0, 1, 23] [Qb pc, Qb pc, Qb pc, Wr ((((l.xs.length : Nat) : Int) : Int) - (at0 : Int)) (((l.xs.length : Nat) : Int) - (at0 : Int)), BF (((n : Int) : Int) > (((l.xs.length : Nat) : Int) - (at0 : Int)))] [true, true, true, true, true, true, true, true, true, true, true, true, true, true, true, true, true, true] [(qju8_1 pc), (1, i6 (n : Int)), (23, .bool false)] rfl (by as_aux_lemma => kernel_rfl) (by as_aux_lemma => kernel_rfl) ⟨rfl, rfl, rfl, wrI, bf (by omega), trivial⟩ ?_
   refine w_done (by as_aux_lemma => kernel_rfl) ?_
   refine e_keep [0, 1, 23] [(qju8_1 pc), (1, i6 (n : Int)), (23, .bool false)] ?_
   refine e_seq <| g_false <| g_skip <| e_seq <| g_seq ?_
   obtain ⟨b3, o4, ha5, hF7, hc6⟩ := ((⟨hl, fun _ _ => trivial⟩ : SlOk u8c 1 (fun _ _ _ => True) _ _ _)).1.all (show 0 < l.xs.length by omega)
   replace ha5 : l.a = some ⟨b3, o4, none⟩ := ha5
   have hc8 := hc6 0 (show 0 < l.xs.length by omega)
   have he9 := ((⟨hl, fun _ _ => trivial⟩ : SlOk u8c 1 (fun _ _ _ => True) _ _ _)).2 0 (show 0 < l.xs.length by omega)
   obtain ⟨y10, hy10⟩ : ∃ y_, y_ = gd l.xs 0 := ⟨_, rfl⟩
   rw [← hy10] at he9 hc8
   by_cases h11 : (l.cap : Nat) = at0
   · refine g_draw 16 [0, 1] [(old (fun b => b = pc) w), (qju8_0 pc l at0)] rfl rfl ?_
     refine w_take [(0, o0), (1, o0), (2, o0), (3, ⟨.auto [.at 1], some (.slice (some ⟨b3, o4, none⟩) l.xs.length l.cap)⟩), (4, o0), (5, o0), (6, o0), (7, (a1 1)), (8, o0), (9, o0), (10, o0), (11, (a1 1)), (12, o0), (13, (ov (i6 ((at0 + n : Nat) : Int)))), (14, ⟨.slc at0 (at0 + n) false, none⟩), (15, o0)] [0, 1, 5] [Qb pc, Value.slice l.a l.xs.length l.cap = Value.slice (some ⟨b3, o4, none⟩) l.xs.length l.cap, Qb pc, Qb pc, Wr (((at0 : Int) : Int) + (n : Int)) (((at0 + n : Nat) : Int)), ((at0 : Int) : Int) = ((at0 : Nat) : Int), (((at0 + n : Nat) : Int) : Int) = ((at0 + n : Nat) : Int), at0 ≤ at0 + n, at0 + n ≤ l.cap, l.cap = at0 ∨ at0 = 0] [true, true, true, true, true, true, true, true, true, true, true, true, true, true, true, true] [(qju8_1 pc), (1, i6 (n : Int)), (5, .slice (some ⟨b3, o4, none⟩) ((at0 + n) - at0) (l.cap - at0))] rfl (by as_aux_lemma => kernel_rfl) (by as_aux_lemma => kernel_rfl) ⟨rfl, congrArg (fun a => Value.slice a _ _) ha5, rfl, rfl, wrI, rfl, rfl, (by omega), (by omega), .inl h11, trivial⟩ ?_
     refine w_done (by as_aux_lemma => kernel_rfl) ?_
     refine q_o 10 0 [] [[o0, o0, o0, (a1 1), o0, (ov (i6 ((at0 + n : Nat) : Int))), o0, o0, (a1 1)], [o0, o0]] [Qb pc, Wr (((at0 : Int) : Int) + (n : Int)) (((at0 + n : Nat) : Int)), Qb pc] [(4, .slice (some ⟨b3, o4, none⟩) ((at0 + n) - at0) (l.cap - at0))] ⟨w, z, [(old (fun b => b = pc) w), (bk pc #[.slice l.a l.xs.length l.cap, i6 ((at0 + n : Nat) : Int), .bool false] 91)]⟩ rfl ⟨rfl, wrI, rfl, trivial⟩ ?_
     refine e_ret [] [] (.slice (some ⟨b3, o4, none⟩) ((at0 + n) - at0) (l.cap - at0)) trivial ?_
     intro w12 hw12
     have hl2 : ∀ (F : Nat → Prop) (wz : World), SlAt u8c 1 F wz l → SlAt u8c 1 F wz ⟨some ⟨b3, o4, none⟩, l.cap, l.xs⟩ := by intro F wz h0; rw [show l = ⟨l.a, l.cap, l.xs⟩ from rfl, ha5] at h0; exact h0
     exact ⟨.inl ⟨by omega, ⟨_, _, by rw [show (at0 + n) - at0 = n from by omega], fun F wz h0 => (by rw [show cutB l.xs at0 n = [] from List.eq_nil_of_length_eq_zero (by rw [cutB_len (by omega)]; omega)]; exact sl_none _ _)⟩, hw12.at (i := 1) rfl⟩, back0 hw12⟩
   · refine g_draw 16 [0, 1] [(old (fun b => b = pc) w), (qju8_0 pc l at0)] rfl rfl ?_
     refine w_take [(0, o0), (1, o0), (2, o0), (3, ⟨.auto [.at 1], some (.slice (some ⟨b3, o4, none⟩) l.xs.length l.cap)⟩), (4, o0), (5, o0), (6, o0), (7, (a1 1)), (8, o0), (9, o0), (10, o0), (11, (a1 1)), (12, o0), (13, (ov (i6 ((at0 + n : Nat) : Int)))), (14, ⟨.slc at0 (at0 + n) true, none⟩), (15, o0)] [0, 1, 5] [Qb pc, Value.slice l.a l.xs.length l.cap = Value.slice (some ⟨b3, o4, none⟩) l.xs.length l.cap, Qb pc, Qb pc, Wr (((at0 : Int) : Int) + (n : Int)) (((at0 + n : Nat) : Int)), ((at0 : Int) : Int) = ((at0 : Nat) : Int), (((at0 + n : Nat) : Int) : Int) = ((at0 + n : Nat) : Int), at0 ≤ at0 + n, at0 + n ≤ l.cap, l.cap ≠ at0, (none : Option Nat) = none] [true, true, true, true, true, true, true, true, true, true, true, true, true, true, true, true] [(qju8_1 pc), (1, i6 (n : Int)), (5, .slice (some ⟨b3, o4 + offs 1 at0, none⟩) ((at0 + n) - at0) (l.cap - at0))] rfl (by as_aux_lemma => kernel_rfl) (by as_aux_lemma => kernel_rfl) ⟨rfl, congrArg (fun a => Value.slice a _ _) ha5, rfl, rfl, wrI, rfl, rfl, (by omega), (by omega), h11, rfl, trivial⟩ ?_
     refine w_done (by as_aux_lemma => kernel_rfl) ?_
     refine q_o 10 0 [] [[o0, o0, o0, (a1 1), o0, (ov (i6 ((at0 + n : Nat) : Int))), o0, o0, (a1 1)], [o0, o0]] [Qb pc, Wr (((at0 : Int) : Int) + (n : Int)) (((at0 + n : Nat) : Int)), Qb pc] [(4, .slice (some ⟨b3, o4 + offs 1 at0, none⟩) ((at0 + n) - at0) (l.cap - at0))] ⟨w, z, [(old (fun b => b = pc) w), (bk pc #[.slice l.a l.xs.length l.cap, i6 ((at0 + n : Nat) : Int), .bool false] 91)]⟩ rfl ⟨rfl, wrI, rfl, trivial⟩ ?_
     refine e_ret [] [] (.slice (some ⟨b3, o4 + offs 1 at0, none⟩) ((at0 + n) - at0) (l.cap - at0)) trivial ?_
     intro w13 hw13
     have hl2 : ∀ (F : Nat → Prop) (wz : World), SlAt u8c 1 F wz l → SlAt u8c 1 F wz ⟨some ⟨b3, o4, none⟩, l.cap, l.xs⟩ := by intro F wz h0; rw [show l = ⟨l.a, l.cap, l.xs⟩ from rfl, ha5] at h0; exact h0
     exact ⟨.inl ⟨by omega, ⟨_, _, by rw [show (at0 + n) - at0 = n from by omega], fun F wz h0 => sl_sub (hl2 F wz h0) (by omega) (by intro h; have h9 := congrArg List.length h; rw [List.length_nil] at h9; omega)⟩, hw13.at (i := 1) rfl⟩, back0 hw13⟩
theorem take_bad (w : World) (pc : Nat) (l : Sl Int) (at0 : Nat) (hc : CurIs w pc l at0 true) (hl : SlAt u8c 1 (fun x => x < w.heap.size ∧ ¬ x = pc) w l) (hB : Byt l.xs) (hlen : l.xs.length ≤ 16384) (hat : at0 ≤ l.xs.length) (n : Nat) : Calls Try.prog 45 #[.pointer (some ⟨pc, 0, none⟩), .int .i64 (n : Int)] w fun e w' => e = .returned (.slice none 0 0) ∧ CurIs w' pc l at0 true ∧ Keeps (fun b => b = pc) w w' := by
 obtain ⟨z, hz⟩ : ∃ z, z = w.heap.size := ⟨_, rfl⟩
 refine calls_G (args := [pt pc, i6 (n : Int)]) 51 ⟨w, z, [(old (fun b => b = pc) w), (bk pc #[.slice l.a l.xs.length l.cap, i6 (at0 : Int), .bool true] 91)]⟩ Try.func45 rfl (by kernel_rfl) (by kernel_rfl) (hz ▸ sat_cur hc) ?_
 have hcap : l.xs.length ≤ l.cap := hl.le
 refine g_keep [0, 1] [(0, pt pc), (1, i6 (n : Int))] ?_
 refine q_cS 6 0 [] [[o0]] [] [(0, pt pc), (1, i6 (n : Int))] rfl trivial ?_
 refine g_draw 18 [0, 1] [(old (fun b => b = pc) w), (bk pc #[.slice l.a l.xs.length l.cap, i6 (at0 : Int), .bool true] 91)] rfl rfl ?_
 refine w_take [(0, o0), (1, o0), (2, o0), (3, (a1 1)), (4, o0), (5, o0), (6, o0), (7, o0), (8, o0), (9, o0), (10, o0), (11, o0), (12, o0), (13, o0), (14, o0), (15, o0), (16, o0), (17, o0)] [0, 1, 23] [Qb pc] [true, true, true, true, true, true, true, true, true, true, true, true, true, true, true, true, true, true] [(0, pt pc), (1, i6 (n : Int)), (23, .bool true)] rfl (by as_aux_lemma => kernel_rfl) (by as_aux_lemma => kernel_rfl) ⟨rfl, trivial⟩ ?_
 refine w_done (by as_aux_lemma => kernel_rfl) ?_
 refine q_oS 11 0 [1] [[o0, o0, o0, (a1 1)], [o0]] [Qb pc] [(4, .slice none 0 0)] rfl ⟨rfl, trivial⟩ ?_
 refine e_ret [] [] (.slice none 0 0) trivial ?_
 intro w1 hw1
 exact ⟨rfl, hw1.at (i := 1) rfl, back0 hw1⟩

end Go.Proofs.Ytmmkacfeocnblaa.Ly
