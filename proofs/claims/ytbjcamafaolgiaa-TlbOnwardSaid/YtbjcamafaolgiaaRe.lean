/- tlb: Restore. No conditions. -/
import Derived.Test.YtbjcamafaolgiaaRc
namespace Go.Proofs.Ytbjcamafaolgiaa.Ly
open Go Go.Proofs.Ytbjcamafaolgiaa.Eng Go.Proofs.Ytbjcamafaolgiaa.Mem
set_option linter.unusedSimpArgs false
set_option linter.unusedVariables false
set_option maxRecDepth 100000

open Go.Proofs.Ytbjcamafaolgiaa.Sh Go.Proofs.Ytbjcamafaolgiaa.Tl
def heldC (s : Nat) (G : Nat → Prop) (L : List (Int × V)) : Ch := .inv G (fun w => Held w s G 4 L ∧ L.length ≤ 4 ∧ ∀ b, G b → b < w.heap.size) true
theorem held_stable (s : Nat) (G : Nat → Prop) (L : List (Int × V)) : (heldC s G L).stable := by
  rintro w w' hb ⟨⟨m, ns, es, hf, hG, hL⟩, hl, hB⟩
  refine ⟨⟨m, ns, es, hf.frame (fun b hb' => hb b (hG b hb')), hG, hL⟩, hl, fun b hGb => ?_⟩
  have h1 := hB b hGb
  have h2 := hb b hGb
  rcases Nat.lt_or_ge b w'.heap.size with h3 | h3
  · exact h3
  · rw [Array.getElem?_eq_none h3, Array.getElem?_eq_getElem h1] at h2; cases h2
section
variable {A : AW} {w : World} {i sh : Nat} {G : Nat → Prop} {L : List (Int × V)}
theorem clear_satH (h : Sat A w) (hi : A.σ[i]? = some (heldC sh G L)) : Calls Try.prog 30 #[.pointer (some ⟨sh, 0, none⟩)] w fun e w' => e = .returned (.tuple #[]) ∧ A.n ≤ w'.heap.size ∧ Sat { A with n := w'.heap.size, σ := A.σ.set i (heldC sh G []) } w' := by
  obtain ⟨hh, hl, hB⟩ : Held w sh G 4 L ∧ L.length ≤ 4 ∧ ∀ b, G b → b < w.heap.size := h.at hi
  refine (hclear w sh G 4 L hh).mono ?_
  rintro e w' ⟨rfl, hh', hk, hz⟩
  have hb : ∀ b, G b → b < w'.heap.size := fun b hb => by rw [hz]; exact hB b hb
  exact ⟨rfl, size_of h hk, h.growN hi rfl rfl hk ⟨hh', by simp, hb⟩ (held_stable _ _ _) (fun b hb => .inl hb) hb⟩
theorem put_satH (h : Sat A w) (hi : A.σ[i]? = some (heldC sh G L)) (k : Int) (v : V) : Calls Try.prog 19 #[.pointer (some ⟨sh, 0, none⟩), .int .i64 k, leafV v] w fun e w' => ∃ x y G', e = .returned (.tuple #[x, y]) ∧ (∀ b, G' b → G b ∨ A.n ≤ b) ∧ A.n ≤ w'.heap.size ∧ Sat { A with n := w'.heap.size, σ := A.σ.set i (heldC sh G' (laidOn L k v)) } w' := by
  obtain ⟨hh, hl, hB⟩ : Held w sh G 4 L ∧ L.length ≤ 4 ∧ ∀ b, G b → b < w.heap.size := h.at hi
  refine (hput_any w sh G L k v hh hl).mono ?_
  rintro e w' ⟨⟨x, y, rfl⟩, hh', hl', hk⟩
  have hb : ∀ b, More G w w' b → b < w'.heap.size := fun b hb => hb.elim (fun x => Nat.lt_of_lt_of_le (hB b x) hk.size) (fun x => x.2)
  exact ⟨x, y, More G w w', rfl, fun b hb => hb.elim .inl (fun x => .inr (by rw [← h.size]; exact x.1)), size_of h hk, h.growN hi rfl rfl hk ⟨hh', hl', hb⟩ (held_stable _ _ _) (fun b hb => hb.elim .inl (fun x => .inr x.1)) hb⟩
end
theorem laid_take {xs : List TLeaf} (hok : okL xs) {k : Nat} (hk : k < xs.length) {y : TLeaf} (hy : y = gd xs k) : laidOn (kvs (xs.take k)) y.Page (y.Page, y.Frame, y.Rights) = kvs (xs.take (k + 1)) := by
  have hno : y.Page ∉ (kvs (xs.take k)).map (·.1) := by
    rw [kvs_keys]
    intro h
    obtain ⟨x, hx, he⟩ := List.mem_map.1 h
    obtain ⟨j, hj, rfl⟩ := List.getElem_of_mem hx
    rw [List.length_take] at hj
    have := (hok.2 k hk).2 j (by omega)
    rw [gd_eq (by omega), ← hy] at this
    rw [List.getElem_take] at he
    exact this he
  unfold laidOn
  rw [if_neg hno, if_neg (by
    have := hok.1
    unfold kvs
    rw [List.length_map, List.length_take]; omega), List.take_succ_eq_append_getElem hk]
  unfold kvs
  rw [List.map_append, ← gd_eq hk, ← hy]; rfl
theorem sat_tlb {w : World} {tt sh : Nat} {G : Nat → Prop} {L : List (Int × V)} (ht : At w tt (.cells #[.pointer (some ⟨sh, 0, none⟩)] 52 (0, 0))) (hh : Held w sh G 4 L) (hl : L.length ≤ 4) (hG : ¬ G tt) (hB : ∀ b, G b → b < w.heap.size) :
    Sat ⟨w, w.heap.size, [old (fun b => b = tt ∨ G b) w, .blk tt (.cells #[.pointer (some ⟨sh, 0, none⟩)] 52 (0, 0)) true, heldC sh G L]⟩ w :=
  sat_oldS w _ _ (fun c hc => by
    simp only [List.mem_cons, List.not_mem_nil, or_false] at hc
    rcases hc with rfl | rfl
    · exact ⟨ht, Ch.stable_blk _ _ _, fun b hb => by
        have hb' : b = tt := hb
        exact ⟨by rw [hb']; exact (Array.getElem?_eq_some_iff.1 ht).1, .inl hb'⟩⟩
    · exact ⟨⟨hh, hl, hB⟩, held_stable _ _ _, fun b hb => ⟨hB b hb, .inr hb⟩⟩) (by
    simp only [List.map_cons, List.map_nil, List.pairwise_cons, List.mem_singleton, forall_eq, List.not_mem_nil, false_imp_iff, implies_true, List.Pairwise.nil, and_true]
    intro _ b hb hb2
    have hb' : b = tt := hb
    exact hG (hb' ▸ hb2))
theorem tlb_done {A : AW} {w w' : World} {tt sh j : Nat} {F G G' : Nat → Prop} {L' : List (Int × V)} (hW : Sat A w') (hw0 : A.w0 = w) (hn : w.heap.size ≤ A.n) (h0 : A.σ[0]? = some (old (fun b => b = tt ∨ G b) w)) (h1 : A.σ[1]? = some (.blk tt (.cells #[.pointer (some ⟨sh, 0, none⟩)] 52 (0, 0)) true)) (hj : A.σ[j]? = some (heldC sh G' L')) (hj1 : j ≠ 1)
    (hF : F tt) (hGF : ∀ b, G b → F b) (hB : ∀ b, F b → b < w.heap.size) (hG' : ∀ b, G' b → G b ∨ w.heap.size ≤ b) : TlbIs w' tt (More F w w') L' ∧ Keeps F w w' := by
  obtain ⟨hh, hl, hB'⟩ : Held w' sh G' 4 L' ∧ L'.length ≤ 4 ∧ ∀ b, G' b → b < w'.heap.size := hW.at hj
  have hsz : w.heap.size ≤ w'.heap.size := by rw [hW.size]; exact hn
  refine ⟨⟨sh, G', hW.at h1, hh, hl, hW.two h1 hj (Ne.symm hj1) rfl tt rfl, .inl hF, fun b hb => (hG' b hb).elim (fun x => .inl (hGF b x)) (fun x => .inr ⟨x, hB' b hb⟩), fun b hb => hb.elim (fun x => Nat.lt_of_lt_of_le (hB b x) hsz) (fun x => x.2)⟩, ?_⟩
  exact (hW.back hw0 hn (List.mem_of_getElem? h0)).mono (fun b _ hb => hb.elim (fun e => e ▸ hF) (hGF b))

def TresPost (w : World) (tt : Nat) (F : Nat → Prop) (xs ys : List TLeaf) (e : Ending) (w' : World) : Prop := e = .returned (.int .i64 (errR ys)) ∧ TlbIs w' tt (More F w w') (kvs (resX xs ys)) ∧ Keeps F w w'
abbrev q3jg_0 (tt : Nat) (sh : Nat) : Ch := .blk tt (.cells #[.pointer (some ⟨sh, 0, none⟩)] 52 (0, 0)) true
abbrev q3jg_1 (n18 : Nat) (y22 : TLeaf) : Ch := .blk n18 (.cells (TLeaf.arr y22) 26 (0, 0)) true
abbrev q3jg_2 (n29 : Nat) (y38 : TLeaf) : Ch := .blk n29 (.cells (TLeaf.arr y38) 26 (0, 0)) true
abbrev q3jg_3 (n4 : Nat) (y13 : TLeaf) : Ch := .blk n4 (.cells (TLeaf.arr y13) 26 (0, 0)) true
abbrev q3jg_4 (b6 : Nat) (o7 : Nat) (i : Nat) (l : Sl TLeaf) : Nat × Value := (28, .slice (some ⟨b6, o7, none⟩) (i - 0) (l.cap - 0))
abbrev q3jg_5 (b31 : Nat) (o32 : Nat) (l : Sl TLeaf) : Nat × Value := (46, .slice (some ⟨b31, o32, none⟩) l.xs.length l.cap)
abbrev q3jg_6 (b6 : Nat) (o7 : Nat) (l : Sl TLeaf) : Nat × Value := (16, .slice (some ⟨b6, o7, none⟩) l.xs.length l.cap)
abbrev q3jg_7 (b6 : Nat) (o7 : Nat) (l : Sl TLeaf) : Nat × Value := (1, .slice (some ⟨b6, o7, none⟩) l.xs.length l.cap)
abbrev q3jg_8 (l : Sl TLeaf) : Nat × Value := (17, .int .i64 ((l.xs.length : Nat) : Int))
abbrev q3jg_9 (l : Sl TLeaf) : Nat × Value := (47, .int .i64 ((l.xs.length : Nat) : Int))
abbrev q3jg_10 (i : Nat) : Nat × Value := (29, .int .i64 ((i - 0 : Nat) : Int))
abbrev q3jg_11 (tt : Nat) : Nat × Value := (0, .pointer (some ⟨tt, 0, none⟩))
abbrev q3jg_12 (l : Sl TLeaf) : Nat × Value := (16, .slice l.a l.xs.length l.cap)
abbrev q3jg_13 (n4 : Nat) : Nat × Value := (6, .pointer (some ⟨n4, 0, none⟩))
abbrev q3jg_14 (l : Sl TLeaf) : Nat × Value := (46, .slice l.a l.xs.length l.cap)
theorem trestore_walk (w : World) (tt sh : Nat) (F GT : Nat → Prop) (xs : List TLeaf) (l : Sl TLeaf) (ht : At w tt (.cells #[.pointer (some ⟨sh, 0, none⟩)] 52 (0, 0))) (hh : Held w sh GT 4 (kvs xs)) (hlx : (kvs xs).length ≤ 4) (hG : ¬ GT tt) (hFt : F tt) (hGF : ∀ b, GT b → F b) (hB : ∀ b, F b → b < w.heap.size) (hl2 : SlAt TLeaf.cells 3 (fun b => ¬ (b = tt ∨ GT b)) w l) : Calls Try.prog 14 #[.pointer (some ⟨tt, 0, none⟩), .slice l.a l.xs.length l.cap] w fun e w' => TresPost w tt F xs l.xs e w' := by
 obtain ⟨z, hz⟩ : ∃ z, z = w.heap.size := ⟨_, rfl⟩
 refine calls_G (args := [.pointer (some ⟨tt, 0, none⟩), .slice l.a l.xs.length l.cap]) 61 ⟨w, z, [(old (fun b => b = tt ∨ GT b) w), (q3jg_0 tt sh), (heldC sh GT (kvs xs))]⟩ Try.func14 rfl (by kernel_rfl) (by kernel_rfl) (hz ▸ sat_tlb ht hh hlx hG (fun b hb => hB b (hGF b hb))) ?_
 have hll := hl2.len; have hl2e := hl2.le
 refine g_keep [0, 1] [(q3jg_11 tt), (1, .slice l.a l.xs.length l.cap)] ?_
 refine g_seq <| g_region <| l_all 1 [o0] [0, 1] [] [(q3jg_11 tt), (1, .slice l.a l.xs.length l.cap)] ⟨w, z, [(old (fun b => b = tt ∨ GT b) w), (q3jg_0 tt sh), (heldC sh GT (kvs xs))]⟩ trivial ?_
 refine e_seq <| g_seq <| g_seq <| g_region <| l_all 2 [o0, o0] [0, 1, 12] [] [(q3jg_11 tt), (1, .slice l.a l.xs.length l.cap), (12, .bool false)] ⟨w, z, [(old (fun b => b = tt ∨ GT b) w), (q3jg_0 tt sh), (heldC sh GT (kvs xs))]⟩ trivial ?_
 refine e_seq <| g_false <| g_skip <| e_seq <| g_seq <| g_seq ?_
 by_cases h1 : (4 : Int) < ((l.xs.length : Nat) : Int)
 · refine g_region <| l_all 3 [o0, o0, oT] [0, 1, 15] [BT ((((l.xs.length : Nat) : Int) : Int) > 4)] [(q3jg_11 tt), (1, .slice l.a l.xs.length l.cap), (15, .bool true)] ⟨w, z, [(old (fun b => b = tt ∨ GT b) w), (q3jg_0 tt sh), (heldC sh GT (kvs xs))]⟩ ⟨bt (by omega), trivial⟩ ?_
   refine e_seq <| g_true <| g_seq <| g_region <| l_all 1 [o0] [4] [] [(4, .int .i64 81)] ⟨w, z, [(old (fun b => b = tt ∨ GT b) w), (q3jg_0 tt sh), (heldC sh GT (kvs xs))]⟩ trivial ?_
   refine e_seq <| g_ret <| e_ret [] [] (.int .i64 81) trivial ?_
   intro w2 hw2
   have hok : ¬ okL l.xs := fun h => absurd h.1 (by omega)
   have hD := tlb_done hw2 rfl (show w.heap.size ≤ z by omega) rfl rfl (j := 2) rfl (by decide) hFt hGF hB (fun b hb => .inl hb)
   unfold TresPost; rw [(resX_no (xs := xs) hok).1, (resX_no (xs := xs) hok).2]
   exact ⟨rfl, hD⟩
 · refine g_region <| l_all 3 [o0, o0, oF] [0, 1, 15] [BF ((((l.xs.length : Nat) : Int) : Int) > 4)] [(q3jg_11 tt), (1, .slice l.a l.xs.length l.cap), (15, .bool false)] ⟨w, z, [(old (fun b => b = tt ∨ GT b) w), (q3jg_0 tt sh), (heldC sh GT (kvs xs))]⟩ ⟨bf (by omega), trivial⟩ ?_
   refine e_seq <| g_false <| g_skip <| e_seq <| g_seq <| g_seq <| g_region <| l_all 3 [o0, o0, o0] [0, 1, 16, 17, 18] [] [(q3jg_11 tt), (1, .slice l.a l.xs.length l.cap), (q3jg_12 l), (q3jg_8 l), (18, .int .i64 0)] ⟨w, z, [(old (fun b => b = tt ∨ GT b) w), (q3jg_0 tt sh), (heldC sh GT (kvs xs))]⟩ trivial ?_
   refine e_seq <| g_block <| g_loop (fun m a w' => ∃ (n4 : Nat) (i : Nat), m = l.xs.length - i ∧ z ≤ n4 ∧ (i ≤ l.xs.length) ∧ (fineL l.xs i) ∧ St 61 [(q3jg_11 tt), (1, .slice l.a l.xs.length l.cap), (q3jg_12 l), (q3jg_8 l), (18, .int .i64 (i : Int))] [] ⟨w, n4, [(old (fun b => b = tt ∨ GT b) w), (q3jg_0 tt sh), (heldC sh GT (kvs xs))]⟩ a w') (l.xs.length - 0) ?_ ?_
   · intro a w' hs; exact ⟨z, 0, rfl, Nat.le_refl _, Nat.zero_le _, fun q hq => absurd hq (Nat.not_lt_zero q), hs⟩
   · rintro m a w' ⟨n4, i, rfl, hn3, hki, hfi, hs⟩
     refine (?_ : G Try.prog 61 [(q3jg_11 tt), (1, .slice l.a l.xs.length l.cap), (q3jg_12 l), (q3jg_8 l), (18, .int .i64 (i : Int))] [] ⟨w, n4, [(old (fun b => b = tt ∨ GT b) w), (q3jg_0 tt sh), (heldC sh GT (kvs xs))]⟩ _ _ _) a w' hs
     clear hs a w'
     refine g_seq ?_
     by_cases h5 : ((i : Int) : Int) < ((l.xs.length : Nat) : Int)
     · refine g_region <| l_all 1 [oT] [0, 1, 16, 17, 18, 19] [BT (((i : Int) : Int) < ((l.xs.length : Nat) : Int))] [(q3jg_11 tt), (1, .slice l.a l.xs.length l.cap), (q3jg_12 l), (q3jg_8 l), (18, .int .i64 (i : Int)), (19, .bool true)] ⟨w, n4, [(old (fun b => b = tt ∨ GT b) w), (q3jg_0 tt sh), (heldC sh GT (kvs xs))]⟩ ⟨bt (by omega), trivial⟩ ?_
       refine e_seq <| g_seq <| g_true <| g_skip <| e_seq <| g_seq <| g_block <| g_seq ?_
       obtain ⟨b6, o7, ha8, hF10, hc9⟩ := ((⟨hl2, fun _ _ => trivial⟩ : SlOk TLeaf.cells 3 (fun _ _ _ => True) _ _ _)).1.all (show 0 < l.xs.length by omega)
       replace ha8 : l.a = some ⟨b6, o7, none⟩ := ha8
       refine g_eq [(q3jg_11 tt), (q3jg_7 b6 o7 l), (q3jg_6 b6 o7 l), (q3jg_8 l), (18, .int .i64 (i : Int)), (19, .bool true)] (by (try dsimp only [q3jg_0, q3jg_1, q3jg_2, q3jg_3, q3jg_4, q3jg_5, q3jg_6, q3jg_7, q3jg_8, q3jg_9, q3jg_10, q3jg_11, q3jg_12, q3jg_13, q3jg_14]); simp only [ha8]) ?_
       have hc11 := hc9 i (show i < l.xs.length by omega)
       have he12 := ((⟨hl2, fun _ _ => trivial⟩ : SlOk TLeaf.cells 3 (fun _ _ _ => True) _ _ _)).2 i (show i < l.xs.length by omega)
       obtain ⟨y13, hy13⟩ : ∃ y_, y_ = gd l.xs i := ⟨_, rfl⟩
       rw [← hy13] at he12 hc11
       refine g_region <| l_all 6 [o0, (oi i), (oa [.via 0 (.int .i64 y13.Page), .via 0 (.int .i64 y13.Frame), .via 0 (.int .i64 y13.Rights)]), o0, o0, (oa [.at 3, .at 3, .at 3])] [0, 1, 16, 17, 18, 6, 5] [((i : Int) : Int) = ((i : Nat) : Int), i < l.xs.length, (none : Option Nat) = none, ∀ w', Ch.holds (old (fun b => b = tt ∨ GT b) w) w' → w'.cell? ⟨b6, o7 + i * 3, none⟩ = some (.int .i64 y13.Page), ∀ w', Ch.holds (old (fun b => b = tt ∨ GT b) w) w' → w'.cell? ⟨b6, o7 + i * 3 + 1, none⟩ = some (.int .i64 y13.Frame), ∀ w', Ch.holds (old (fun b => b = tt ∨ GT b) w) w' → w'.cell? ⟨b6, o7 + i * 3 + 2, none⟩ = some (.int .i64 y13.Rights), Qb n4, Qb n4, Qb n4] [(q3jg_11 tt), (q3jg_7 b6 o7 l), (q3jg_6 b6 o7 l), (q3jg_8 l), (18, .int .i64 (i : Int)), (q3jg_13 n4), (5, .int .i64 (i : Int))] ⟨w, n4 + 1, [(old (fun b => b = tt ∨ GT b) w), (q3jg_0 tt sh), (heldC sh GT (kvs xs)), (q3jg_3 n4 y13)]⟩ ⟨rfl, (by omega), rfl, oldS_cell hF10 (hc11 0 _ rfl), oldS_cell hF10 (hc11 1 _ rfl), oldS_cell hF10 (hc11 2 _ rfl), rfl, rfl, rfl, trivial⟩ ?_
       refine e_seq <| g_seq <| g_seq <| g_region <| l_run 1 [(oa [.at 3, .at 3, .at 3])] [0, 1, 16, 17, 18, 6, 5, 23] [Qb n4, Qb n4, Qb n4] [(q3jg_11 tt), (q3jg_7 b6 o7 l), (q3jg_6 b6 o7 l), (q3jg_8 l), (18, .int .i64 (i : Int)), (q3jg_13 n4), (5, .int .i64 (i : Int)), (23, .agg (TLeaf.arr y13))] ⟨w, n4 + 1, [(old (fun b => b = tt ∨ GT b) w), (q3jg_0 tt sh), (heldC sh GT (kvs xs)), (q3jg_3 n4 y13)]⟩ ⟨rfl, rfl, rfl, trivial⟩ ?_
       refine l_call [] [] 18 #[.agg (TLeaf.arr y13)] (some 24) trivial ?_
       intro w14 hw14
       refine (maybe_calls w14 (y13.Page, y13.Frame, y13.Rights)).mono ?_
       rintro e w15 ⟨rfl, hkw15⟩
       have hnw15 : n4 + 1 ≤ w15.heap.size := by have := hkw15.size; rw [hw14.size] at this; exact this
       refine ⟨_, _, rfl, hw14.keeps hkw15, ?_⟩
       refine l_keep [0, 1, 16, 17, 18, 6, 5, 24] [(q3jg_11 tt), (q3jg_7 b6 o7 l), (q3jg_6 b6 o7 l), (q3jg_8 l), (18, .int .i64 (i : Int)), (q3jg_13 n4), (5, .int .i64 (i : Int)), (24, .bool (lfine y13))] ?_
       by_cases h16 : (lfine y13) = true
       · refine l_all 1 [(ov (.bool false))] [0, 1, 16, 17, 18, 6, 5, 25] [Value.bool (!(lfine y13)) = Value.bool false] [(q3jg_11 tt), (q3jg_7 b6 o7 l), (q3jg_6 b6 o7 l), (q3jg_8 l), (18, .int .i64 (i : Int)), (q3jg_13 n4), (5, .int .i64 (i : Int)), (25, .bool false)] ⟨w, w15.heap.size, [(old (fun b => b = tt ∨ GT b) w), (q3jg_0 tt sh), (heldC sh GT (kvs xs)), (q3jg_3 n4 y13)]⟩ ⟨by simp [h16], trivial⟩ ?_
         refine e_seq <| g_false <| g_skip <| e_seq <| g_seq <| g_region <| l_all 5 [o0, o0, ⟨.slc 0 i false, none⟩, o0, o0] [0, 1, 16, 17, 18, 6, 28, 29, 30] [(0 : Int) = ((0 : Nat) : Int), ((i : Int) : Int) = ((i : Nat) : Int), 0 ≤ i, i ≤ l.cap, l.cap = 0 ∨ (0 : Nat) = 0] [(q3jg_11 tt), (q3jg_7 b6 o7 l), (q3jg_6 b6 o7 l), (q3jg_8 l), (18, .int .i64 (i : Int)), (q3jg_13 n4), (q3jg_4 b6 o7 i l), (q3jg_10 i), (30, .int .i64 0)] ⟨w, w15.heap.size, [(old (fun b => b = tt ∨ GT b) w), (q3jg_0 tt sh), (heldC sh GT (kvs xs)), (q3jg_3 n4 y13)]⟩ ⟨rfl, rfl, (by omega), (by omega), .inr rfl, trivial⟩ ?_
         refine e_seq <| g_block <| g_keep [0, 1, 6, 16, 17, 18, 28, 29, 30] [(q3jg_11 tt), (q3jg_7 b6 o7 l), (q3jg_13 n4), (q3jg_6 b6 o7 l), (q3jg_8 l), (18, .int .i64 (i : Int)), (q3jg_4 b6 o7 i l), (q3jg_10 i), (30, .int .i64 0)] ?_
         refine g_loop (fun m a w' => ∃ (n18 : Nat) (j : Nat), m = i - j ∧ w15.heap.size ≤ n18 ∧ (j ≤ i) ∧ (∀ q, q < j → (gd l.xs q).Page ≠ y13.Page) ∧ St 61 [(q3jg_11 tt), (q3jg_7 b6 o7 l), (q3jg_13 n4), (q3jg_6 b6 o7 l), (q3jg_8 l), (18, .int .i64 (i : Int)), (q3jg_4 b6 o7 i l), (q3jg_10 i), (30, .int .i64 (j : Int))] [] ⟨w, n18, [(old (fun b => b = tt ∨ GT b) w), (q3jg_0 tt sh), (heldC sh GT (kvs xs)), (q3jg_3 n4 y13)]⟩ a w') (i - 0) ?_ ?_
         · intro a w' hs; exact ⟨w15.heap.size, 0, rfl, Nat.le_refl _, Nat.zero_le _, fun q hq => absurd hq (Nat.not_lt_zero q), hs⟩
         · rintro m a w' ⟨n18, j, rfl, hn17, hkj, hne, hs⟩
           refine (?_ : G Try.prog 61 [(q3jg_11 tt), (q3jg_7 b6 o7 l), (q3jg_13 n4), (q3jg_6 b6 o7 l), (q3jg_8 l), (18, .int .i64 (i : Int)), (q3jg_4 b6 o7 i l), (q3jg_10 i), (30, .int .i64 (j : Int))] [] ⟨w, n18, [(old (fun b => b = tt ∨ GT b) w), (q3jg_0 tt sh), (heldC sh GT (kvs xs)), (q3jg_3 n4 y13)]⟩ _ _ _) a w' hs
           clear hs a w'
           refine g_seq ?_
           by_cases h19 : ((j : Int) : Int) < ((i - 0 : Nat) : Int)
           · refine g_region <| l_all 1 [oT] [0, 1, 6, 16, 17, 18, 28, 29, 30, 31] [BT (((j : Int) : Int) < ((i - 0 : Nat) : Int))] [(q3jg_11 tt), (q3jg_7 b6 o7 l), (q3jg_13 n4), (q3jg_6 b6 o7 l), (q3jg_8 l), (18, .int .i64 (i : Int)), (q3jg_4 b6 o7 i l), (q3jg_10 i), (30, .int .i64 (j : Int)), (31, .bool true)] ⟨w, n18, [(old (fun b => b = tt ∨ GT b) w), (q3jg_0 tt sh), (heldC sh GT (kvs xs)), (q3jg_3 n4 y13)]⟩ ⟨bt (by omega), trivial⟩ ?_
             refine e_seq <| g_seq <| g_true <| g_skip <| e_seq <| g_seq <| g_block <| g_seq ?_
             have hc20 := hc9 j (show j < l.xs.length by omega)
             have he21 := ((⟨hl2, fun _ _ => trivial⟩ : SlOk TLeaf.cells 3 (fun _ _ _ => True) _ _ _)).2 j (show j < l.xs.length by omega)
             obtain ⟨y22, hy22⟩ : ∃ y_, y_ = gd l.xs j := ⟨_, rfl⟩
             rw [← hy22] at he21 hc20
             refine g_region <| l_all 4 [(oi j), (oa [.via 0 (.int .i64 y22.Page), .via 0 (.int .i64 y22.Frame), .via 0 (.int .i64 y22.Rights)]), o0, (oa [.at 4, .at 4, .at 4])] [0, 1, 6, 16, 17, 18, 28, 29, 30, 8] [((j : Int) : Int) = ((j : Nat) : Int), j < i - 0, (none : Option Nat) = none, ∀ w', Ch.holds (old (fun b => b = tt ∨ GT b) w) w' → w'.cell? ⟨b6, o7 + j * 3, none⟩ = some (.int .i64 y22.Page), ∀ w', Ch.holds (old (fun b => b = tt ∨ GT b) w) w' → w'.cell? ⟨b6, o7 + j * 3 + 1, none⟩ = some (.int .i64 y22.Frame), ∀ w', Ch.holds (old (fun b => b = tt ∨ GT b) w) w' → w'.cell? ⟨b6, o7 + j * 3 + 2, none⟩ = some (.int .i64 y22.Rights), Qb n18, Qb n18, Qb n18] [(q3jg_11 tt), (q3jg_7 b6 o7 l), (q3jg_13 n4), (q3jg_6 b6 o7 l), (q3jg_8 l), (18, .int .i64 (i : Int)), (q3jg_4 b6 o7 i l), (q3jg_10 i), (30, .int .i64 (j : Int)), (8, .pointer (some ⟨n18, 0, none⟩))] ⟨w, n18 + 1, [(old (fun b => b = tt ∨ GT b) w), (q3jg_0 tt sh), (heldC sh GT (kvs xs)), (q3jg_3 n4 y13), (q3jg_1 n18 y22)]⟩ ⟨rfl, (by omega), rfl, oldS_cell hF10 (hc20 0 _ rfl), oldS_cell hF10 (hc20 1 _ rfl), oldS_cell hF10 (hc20 2 _ rfl), rfl, rfl, rfl, trivial⟩ ?_
             refine e_seq <| g_seq ?_
             by_cases h23 : (y22.Page : Int) = y13.Page
             · refine g_region <| l_all 5 [o0, (oa [.at 4]), o0, (oa [.at 3]), oT] [0, 1, 6, 16, 17, 18, 28, 29, 30, 38] [Qb n18, Qb n4, ET y22.Page y13.Page] [(q3jg_11 tt), (q3jg_7 b6 o7 l), (q3jg_13 n4), (q3jg_6 b6 o7 l), (q3jg_8 l), (18, .int .i64 (i : Int)), (q3jg_4 b6 o7 i l), (q3jg_10 i), (30, .int .i64 (j : Int)), (38, .bool true)] ⟨w, n18 + 1, [(old (fun b => b = tt ∨ GT b) w), (q3jg_0 tt sh), (heldC sh GT (kvs xs)), (q3jg_3 n4 y13), (q3jg_1 n18 y22)]⟩ ⟨rfl, rfl, et (by omega), trivial⟩ ?_
               refine e_seq <| g_true <| g_seq <| g_region <| l_all 1 [o0] [4] [] [(4, .int .i64 81)] ⟨w, n18 + 1, [(old (fun b => b = tt ∨ GT b) w), (q3jg_0 tt sh), (heldC sh GT (kvs xs)), (q3jg_3 n4 y13), (q3jg_1 n18 y22)]⟩ trivial ?_
               refine e_seq <| g_ret <| e_ret [] [] (.int .i64 81) trivial ?_
               intro w24 hw24
               have hok : ¬ okL l.xs := fun h => (h.2 i (by omega)).2 j (by omega) (by rw [← hy22, ← hy13]; omega)
               have hD := tlb_done hw24 rfl (show w.heap.size ≤ n18 + 1 by omega) rfl rfl (j := 2) rfl (by decide) hFt hGF hB (fun b hb => .inl hb)
               unfold TresPost; rw [(resX_no (xs := xs) hok).1, (resX_no (xs := xs) hok).2]
               exact ⟨rfl, hD⟩
             · refine g_region <| l_all 5 [o0, (oa [.at 4]), o0, (oa [.at 3]), oF] [0, 1, 6, 16, 17, 18, 28, 29, 30, 38] [Qb n18, Qb n4, EF y22.Page y13.Page] [(q3jg_11 tt), (q3jg_7 b6 o7 l), (q3jg_13 n4), (q3jg_6 b6 o7 l), (q3jg_8 l), (18, .int .i64 (i : Int)), (q3jg_4 b6 o7 i l), (q3jg_10 i), (30, .int .i64 (j : Int)), (38, .bool false)] ⟨w, n18 + 1, [(old (fun b => b = tt ∨ GT b) w), (q3jg_0 tt sh), (heldC sh GT (kvs xs)), (q3jg_3 n4 y13), (q3jg_1 n18 y22)]⟩ ⟨rfl, rfl, ef (by omega), trivial⟩ ?_
               refine e_seq <| g_false <| g_skip <| e_blk <| e_seq <| g_region <| l_all 2 [(ov (.int .i64 ((j + 1 : Nat) : Int))), o0] [0, 1, 6, 16, 17, 18, 28, 29, 30] [Value.int .i64 (IntKind.i64.wrap (((j : Int) : Int) + 1)) = Value.int .i64 (((j + 1 : Nat) : Int))] [(q3jg_11 tt), (q3jg_7 b6 o7 l), (q3jg_13 n4), (q3jg_6 b6 o7 l), (q3jg_8 l), (18, .int .i64 (i : Int)), (q3jg_4 b6 o7 i l), (q3jg_10 i), (30, .int .i64 ((j + 1 : Nat) : Int))] ⟨w, n18 + 1, [(old (fun b => b = tt ∨ GT b) w), (q3jg_0 tt sh), (heldC sh GT (kvs xs)), (q3jg_3 n4 y13), (q3jg_1 n18 y22)]⟩ ⟨congrArg (Value.int .i64) (wr_i64 (by omega) (by omega) (by omega)), trivial⟩ ?_
               refine e_pick [0, 1, 2, 3] [(old (fun b => b = tt ∨ GT b) w), (q3jg_0 tt sh), (heldC sh GT (kvs xs)), (q3jg_3 n4 y13)] rfl rfl ?_
               refine e_keep [0, 1, 6, 16, 17, 18, 28, 29, 30] [(q3jg_11 tt), (q3jg_7 b6 o7 l), (q3jg_13 n4), (q3jg_6 b6 o7 l), (q3jg_8 l), (18, .int .i64 (i : Int)), (q3jg_4 b6 o7 i l), (q3jg_10 i), (30, .int .i64 ((j + 1 : Nat) : Int))] ?_
               refine e_inv (fun a w' hs => ⟨i - (j + 1), by omega, (n18 + 1), (j + 1), rfl, by omega, by omega, all_push hne (by rw [← hy22]; omega), hs⟩)
           · refine g_region <| l_all 1 [oF] [0, 1, 6, 16, 17, 18, 28, 29, 30, 31] [BF (((j : Int) : Int) < ((i - 0 : Nat) : Int))] [(q3jg_11 tt), (q3jg_7 b6 o7 l), (q3jg_13 n4), (q3jg_6 b6 o7 l), (q3jg_8 l), (18, .int .i64 (i : Int)), (q3jg_4 b6 o7 i l), (q3jg_10 i), (30, .int .i64 (j : Int)), (31, .bool false)] ⟨w, n18, [(old (fun b => b = tt ∨ GT b) w), (q3jg_0 tt sh), (heldC sh GT (kvs xs)), (q3jg_3 n4 y13)]⟩ ⟨bf (by omega), trivial⟩ ?_
             refine e_seq <| g_seq <| g_false <| g_exit <| e_out <| e_outI <| e_hit <| e_blk <| e_seq <| g_region <| l_all 2 [(ov (.int .i64 ((i + 1 : Nat) : Int))), o0] [0, 1, 16, 17, 18] [Value.int .i64 (IntKind.i64.wrap (((i : Int) : Int) + 1)) = Value.int .i64 (((i + 1 : Nat) : Int))] [(q3jg_11 tt), (q3jg_7 b6 o7 l), (q3jg_6 b6 o7 l), (q3jg_8 l), (18, .int .i64 ((i + 1 : Nat) : Int))] ⟨w, n18, [(old (fun b => b = tt ∨ GT b) w), (q3jg_0 tt sh), (heldC sh GT (kvs xs)), (q3jg_3 n4 y13)]⟩ ⟨congrArg (Value.int .i64) (wr_i64 (by omega) (by omega) (by omega)), trivial⟩ ?_
             refine e_pick [0, 1, 2] [(old (fun b => b = tt ∨ GT b) w), (q3jg_0 tt sh), (heldC sh GT (kvs xs))] rfl rfl ?_
             refine e_eqk [0, 1, 16, 17, 18] [(q3jg_11 tt), (1, .slice l.a l.xs.length l.cap), (q3jg_12 l), (q3jg_8 l), (18, .int .i64 ((i + 1 : Nat) : Int))] (by (try dsimp only [q3jg_0, q3jg_1, q3jg_2, q3jg_3, q3jg_4, q3jg_5, q3jg_6, q3jg_7, q3jg_8, q3jg_9, q3jg_10, q3jg_11, q3jg_12, q3jg_13, q3jg_14]); simp only [ha8, ha8]; rfl) ?_
             refine e_inv (fun a w' hs => ⟨l.xs.length - (i + 1), by omega, n18, (i + 1), rfl, by omega, by omega, all_push hfi ⟨by rw [← hy13]; exact h16, by rw [← hy13]; exact fun q hq => hne q (by omega)⟩, hs⟩)
       · refine l_all 1 [(ov (.bool true))] [0, 1, 16, 17, 18, 6, 5, 25] [Value.bool (!(lfine y13)) = Value.bool true] [(q3jg_11 tt), (q3jg_7 b6 o7 l), (q3jg_6 b6 o7 l), (q3jg_8 l), (18, .int .i64 (i : Int)), (q3jg_13 n4), (5, .int .i64 (i : Int)), (25, .bool true)] ⟨w, w15.heap.size, [(old (fun b => b = tt ∨ GT b) w), (q3jg_0 tt sh), (heldC sh GT (kvs xs)), (q3jg_3 n4 y13)]⟩ ⟨by simp [h16], trivial⟩ ?_
         refine e_seq <| g_true <| g_seq <| g_region <| l_all 1 [o0] [4] [] [(4, .int .i64 81)] ⟨w, w15.heap.size, [(old (fun b => b = tt ∨ GT b) w), (q3jg_0 tt sh), (heldC sh GT (kvs xs)), (q3jg_3 n4 y13)]⟩ trivial ?_
         refine e_seq <| g_ret <| e_ret [] [] (.int .i64 81) trivial ?_
         intro w25 hw25
         have hok : ¬ okL l.xs := fun h => h16 (by rw [hy13]; exact (h.2 i (by omega)).1)
         have hD := tlb_done hw25 rfl (show w.heap.size ≤ w15.heap.size by omega) rfl rfl (j := 2) rfl (by decide) hFt hGF hB (fun b hb => .inl hb)
         unfold TresPost; rw [(resX_no (xs := xs) hok).1, (resX_no (xs := xs) hok).2]
         exact ⟨rfl, hD⟩
     · refine g_region <| l_all 1 [oF] [0, 1, 16, 17, 18, 19] [BF (((i : Int) : Int) < ((l.xs.length : Nat) : Int))] [(q3jg_11 tt), (1, .slice l.a l.xs.length l.cap), (q3jg_12 l), (q3jg_8 l), (18, .int .i64 (i : Int)), (19, .bool false)] ⟨w, n4, [(old (fun b => b = tt ∨ GT b) w), (q3jg_0 tt sh), (heldC sh GT (kvs xs))]⟩ ⟨bf (by omega), trivial⟩ ?_
       refine e_seq <| g_seq <| g_false <| g_exit <| e_out <| e_outI <| e_hit <| e_seq <| g_seq <| g_region <| l_run 4 [o0, o0, o0, (oa [.at 1])] [0, 1, 44] [Qb tt] [(q3jg_11 tt), (1, .slice l.a l.xs.length l.cap), (44, .pointer (some ⟨sh, 0, none⟩))] ⟨w, n4, [(old (fun b => b = tt ∨ GT b) w), (q3jg_0 tt sh), (heldC sh GT (kvs xs))]⟩ ⟨rfl, trivial⟩ ?_
       refine l_call [] [] 30 #[.pointer (some ⟨sh, 0, none⟩)] (some 45) trivial ?_
       intro w26 hw26
       refine (clear_satH hw26 (i := 2) rfl).mono ?_
       rintro e w27 ⟨rfl, hmw27, hSw27⟩; have hnw27 : n4 ≤ w27.heap.size := hmw27
       refine ⟨_, _, rfl, hSw27, ?_⟩
       refine l_keep [0, 1] [(q3jg_11 tt), (1, .slice l.a l.xs.length l.cap)] ?_
       refine l_nil (by kernel_rfl) ?_
       refine e_seq <| g_seq <| g_seq <| g_region <| l_all 3 [o0, o0, o0] [0, 46, 47, 48] [] [(q3jg_11 tt), (q3jg_14 l), (q3jg_9 l), (48, .int .i64 0)] ⟨w, w27.heap.size, [(old (fun b => b = tt ∨ GT b) w), (q3jg_0 tt sh), (heldC sh GT ([]))]⟩ trivial ?_
       refine e_seq <| g_block ?_
       have hok : okL l.xs := ⟨by omega, fun q hq => hfi q (by omega)⟩
       refine g_loop (fun m a w' => ∃ (n29 : Nat) (k : Nat) (GG : Nat → Prop), m = l.xs.length - k ∧ w27.heap.size ≤ n29 ∧ (k ≤ l.xs.length) ∧ (∀ b, GG b → GT b ∨ z ≤ b) ∧ St 61 [(q3jg_11 tt), (q3jg_14 l), (q3jg_9 l), (48, .int .i64 (k : Int))] [] ⟨w, n29, [(old (fun b => b = tt ∨ GT b) w), (q3jg_0 tt sh), (heldC sh GG (kvs (l.xs.take k)))]⟩ a w') (l.xs.length - 0) ?_ ?_
       · intro a w' hs; exact ⟨w27.heap.size, 0, GT, rfl, Nat.le_refl _, Nat.zero_le _, fun b hb => .inl hb, hs⟩
       · rintro m a w' ⟨n29, k, GG, rfl, hn28, hkk, hGG, hs⟩
         refine (?_ : G Try.prog 61 [(q3jg_11 tt), (q3jg_14 l), (q3jg_9 l), (48, .int .i64 (k : Int))] [] ⟨w, n29, [(old (fun b => b = tt ∨ GT b) w), (q3jg_0 tt sh), (heldC sh GG (kvs (l.xs.take k)))]⟩ _ _ _) a w' hs
         clear hs a w'
         refine g_seq ?_
         by_cases h30 : ((k : Int) : Int) < ((l.xs.length : Nat) : Int)
         · refine g_region <| l_all 1 [oT] [0, 46, 47, 48, 49] [BT (((k : Int) : Int) < ((l.xs.length : Nat) : Int))] [(q3jg_11 tt), (q3jg_14 l), (q3jg_9 l), (48, .int .i64 (k : Int)), (49, .bool true)] ⟨w, n29, [(old (fun b => b = tt ∨ GT b) w), (q3jg_0 tt sh), (heldC sh GG (kvs (l.xs.take k)))]⟩ ⟨bt (by omega), trivial⟩ ?_
           refine e_seq <| g_seq <| g_true <| g_skip <| e_seq <| g_seq <| g_block <| g_seq ?_
           obtain ⟨b31, o32, ha33, hF35, hc34⟩ := ((⟨hl2, fun _ _ => trivial⟩ : SlOk TLeaf.cells 3 (fun _ _ _ => True) _ _ _)).1.all (show 0 < l.xs.length by omega)
           replace ha33 : l.a = some ⟨b31, o32, none⟩ := ha33
           refine g_eq [(q3jg_11 tt), (q3jg_5 b31 o32 l), (q3jg_9 l), (48, .int .i64 (k : Int)), (49, .bool true)] (by (try dsimp only [q3jg_0, q3jg_1, q3jg_2, q3jg_3, q3jg_4, q3jg_5, q3jg_6, q3jg_7, q3jg_8, q3jg_9, q3jg_10, q3jg_11, q3jg_12, q3jg_13, q3jg_14]); simp only [ha33]) ?_
           have hc36 := hc34 k (show k < l.xs.length by omega)
           have he37 := ((⟨hl2, fun _ _ => trivial⟩ : SlOk TLeaf.cells 3 (fun _ _ _ => True) _ _ _)).2 k (show k < l.xs.length by omega)
           obtain ⟨y38, hy38⟩ : ∃ y_, y_ = gd l.xs k := ⟨_, rfl⟩
           rw [← hy38] at he37 hc36
           refine g_region <| l_all 4 [(oi k), (oa [.via 0 (.int .i64 y38.Page), .via 0 (.int .i64 y38.Frame), .via 0 (.int .i64 y38.Rights)]), o0, (oa [.at 3, .at 3, .at 3])] [0, 46, 47, 48, 10] [((k : Int) : Int) = ((k : Nat) : Int), k < l.xs.length, (none : Option Nat) = none, ∀ w', Ch.holds (old (fun b => b = tt ∨ GT b) w) w' → w'.cell? ⟨b31, o32 + k * 3, none⟩ = some (.int .i64 y38.Page), ∀ w', Ch.holds (old (fun b => b = tt ∨ GT b) w) w' → w'.cell? ⟨b31, o32 + k * 3 + 1, none⟩ = some (.int .i64 y38.Frame), ∀ w', Ch.holds (old (fun b => b = tt ∨ GT b) w) w' → w'.cell? ⟨b31, o32 + k * 3 + 2, none⟩ = some (.int .i64 y38.Rights), Qb n29, Qb n29, Qb n29] [(q3jg_11 tt), (q3jg_5 b31 o32 l), (q3jg_9 l), (48, .int .i64 (k : Int)), (10, .pointer (some ⟨n29, 0, none⟩))] ⟨w, n29 + 1, [(old (fun b => b = tt ∨ GT b) w), (q3jg_0 tt sh), (heldC sh GG (kvs (l.xs.take k))), (q3jg_2 n29 y38)]⟩ ⟨rfl, (by omega), rfl, oldS_cell hF35 (hc36 0 _ rfl), oldS_cell hF35 (hc36 1 _ rfl), oldS_cell hF35 (hc36 2 _ rfl), rfl, rfl, rfl, trivial⟩ ?_
           refine e_seq <| g_draw 7 [0, 1, 2, 3] [(old (fun b => b = tt ∨ GT b) w), (q3jg_0 tt sh), (heldC sh GG (kvs (l.xs.take k))), (q3jg_2 n29 y38)] rfl rfl ?_
           refine w_take [(0, o0), (1, o0), (2, o0), (3, (oa [.at 1])), (4, o0), (5, (oa [.at 3])), (6, (oa [.at 3, .at 3, .at 3]))] [0, 46, 47, 48, 55, 57, 58] [Qb tt, Qb n29, Qb n29, Qb n29, Qb n29] [true, true, true, true, true, true, true, false] [(q3jg_11 tt), (q3jg_5 b31 o32 l), (q3jg_9 l), (48, .int .i64 (k : Int)), (55, .pointer (some ⟨sh, 0, none⟩)), (57, .int .i64 y38.Page), (58, .agg (TLeaf.arr y38))] rfl (by as_aux_lemma => kernel_rfl) (by as_aux_lemma => kernel_rfl) ⟨rfl, rfl, rfl, rfl, rfl, trivial⟩ ?_
           refine w_one 7 (by as_aux_lemma => kernel_rfl) rfl ?_
           refine wo_call [] [] 19 #[.pointer (some ⟨sh, 0, none⟩), .int .i64 y38.Page, .agg (TLeaf.arr y38)] (some 59) (by as_aux_lemma => kernel_rfl) rfl rfl trivial ?_
           intro w39 hw39
           refine (put_satH hw39 (i := 2) rfl y38.Page (y38.Page, y38.Frame, y38.Rights)).mono ?_
           rintro e w40 ⟨v42, v43, F41, rfl, hGn, hmw40, hSw40⟩; have hnw40 : n29 + 1 ≤ w40.heap.size := hmw40
           simp only at hGn
           refine ⟨_, _, rfl, hSw40, .inl rfl, ?_⟩
           refine w_keep [0, 46, 47, 48] [(q3jg_11 tt), (q3jg_5 b31 o32 l), (q3jg_9 l), (48, .int .i64 (k : Int))] ?_
           refine w_free 8 [0, 1, 2, 3] [(old (fun b => b = tt ∨ GT b) w), (q3jg_0 tt sh), (heldC sh F41 (laidOn (kvs (l.xs.take k)) y38.Page (y38.Page, y38.Frame, y38.Rights))), (q3jg_2 n29 y38)] rfl rfl ?_
           refine w_done (by as_aux_lemma => kernel_rfl) ?_
           refine e_keep [0, 46, 47, 48] [(q3jg_11 tt), (q3jg_5 b31 o32 l), (q3jg_9 l), (48, .int .i64 (k : Int))] ?_
           refine e_blk <| e_seq <| g_region <| l_all 2 [(ov (.int .i64 ((k + 1 : Nat) : Int))), o0] [0, 46, 47, 48] [Value.int .i64 (IntKind.i64.wrap (((k : Int) : Int) + 1)) = Value.int .i64 (((k + 1 : Nat) : Int))] [(q3jg_11 tt), (q3jg_5 b31 o32 l), (q3jg_9 l), (48, .int .i64 ((k + 1 : Nat) : Int))] ⟨w, w40.heap.size, [(old (fun b => b = tt ∨ GT b) w), (q3jg_0 tt sh), (heldC sh F41 (laidOn (kvs (l.xs.take k)) y38.Page (y38.Page, y38.Frame, y38.Rights))), (q3jg_2 n29 y38)]⟩ ⟨congrArg (Value.int .i64) (wr_i64 (by omega) (by omega) (by omega)), trivial⟩ ?_
           refine e_pick [0, 1, 2] [(old (fun b => b = tt ∨ GT b) w), (q3jg_0 tt sh), (heldC sh F41 (laidOn (kvs (l.xs.take k)) y38.Page (y38.Page, y38.Frame, y38.Rights)))] rfl rfl ?_
           refine e_eqk [0, 46, 47, 48] [(q3jg_11 tt), (q3jg_14 l), (q3jg_9 l), (48, .int .i64 ((k + 1 : Nat) : Int))] (by (try dsimp only [q3jg_0, q3jg_1, q3jg_2, q3jg_3, q3jg_4, q3jg_5, q3jg_6, q3jg_7, q3jg_8, q3jg_9, q3jg_10, q3jg_11, q3jg_12, q3jg_13, q3jg_14]); simp only [ha33]; rfl) ?_
           refine e_inv (fun a w' hs => ⟨l.xs.length - (k + 1), by omega, w40.heap.size, (k + 1), F41, rfl, by omega, by omega, fun b hb => (hGn b hb).elim (hGG b) (fun x => .inr (by omega)), by (try dsimp only [q3jg_0, q3jg_1, q3jg_2, q3jg_3, q3jg_4, q3jg_5, q3jg_6, q3jg_7, q3jg_8, q3jg_9, q3jg_10, q3jg_11, q3jg_12, q3jg_13, q3jg_14] at hs ⊢); rw [← laid_take hok (by omega) hy38]; exact hs⟩)
         · refine g_region <| l_all 1 [oF] [0, 46, 47, 48, 49] [BF (((k : Int) : Int) < ((l.xs.length : Nat) : Int))] [(q3jg_11 tt), (q3jg_14 l), (q3jg_9 l), (48, .int .i64 (k : Int)), (49, .bool false)] ⟨w, n29, [(old (fun b => b = tt ∨ GT b) w), (q3jg_0 tt sh), (heldC sh GG (kvs (l.xs.take k)))]⟩ ⟨bf (by omega), trivial⟩ ?_
           refine e_seq <| g_seq <| g_false <| g_exit <| e_out <| e_outI <| e_hit <| e_seq <| g_seq <| g_region <| l_all 1 [o0] [4] [] [(4, .int .i64 0)] ⟨w, n29, [(old (fun b => b = tt ∨ GT b) w), (q3jg_0 tt sh), (heldC sh GG (kvs (l.xs.take k)))]⟩ trivial ?_
           refine e_seq <| g_ret <| e_ret [] [] (.int .i64 0) trivial ?_
           intro w44 hw44
           have hke : k = l.xs.length := by omega
           have hD := tlb_done hw44 rfl (show w.heap.size ≤ n29 by omega) rfl rfl (j := 2) rfl (by decide) hFt hGF hB (hz ▸ hGG)
           rw [hke, List.take_length] at hD
           unfold TresPost; rw [(resX_yes (xs := xs) hok).1, (resX_yes (xs := xs) hok).2]
           exact ⟨rfl, hD⟩

theorem trestore_calls (w : World) (t : Nat) (F : Nat → Prop) (xs : List TLeaf) (l : Sl TLeaf) (h : TlbIs w t F (kvs xs)) (hl : SlAt TLeaf.cells 3 (fun b => ¬ F b) w l) : Calls Try.prog 14 #[.pointer (some ⟨t, 0, none⟩), .slice l.a l.xs.length l.cap] w fun e w' => TresPost w t F xs l.xs e w' := by
  obtain ⟨s, G, hh, hd, hl4, hGt, hF, hGF, hB⟩ := h
  refine trestore_walk w t s F G xs l hh hd hl4 hGt hF hGF hB ⟨hl.len, hl.le, fun hne => ?_⟩
  obtain ⟨b, off, ha, hb, hc⟩ := hl.cells hne
  exact ⟨b, off, ha, fun x => x.elim (fun e => hb (e ▸ hF)) (fun e => hb (hGF b e)), hc⟩

end Go.Proofs.Ytbjcamafaolgiaa.Ly
