/- conf.Encode. No conditions. -/
import Derived.Test.YtmmkacfeocnblaaWf
import Derived.Tactics2
namespace Go.Proofs.Ytmmkacfeocnblaa.Ly
open Go Go.Proofs.Ytmmkacfeocnblaa.Eng Go.Proofs.Ytmmkacfeocnblaa.Mem
set_option linter.unusedSimpArgs false
set_option linter.unusedVariables false
set_option maxRecDepth 100000

def ns4 (c : TConfig) : List Int := [c.Frames, c.Major, c.Kernel, c.Room]
def okCf (c : TConfig) : Bool := (ns4 c).all okNum && okLst okWs c.Cores.xs && okLst okPt c.Partitions.xs && okLst okC c.Channels.xs
def formB (c : TConfig) : List Int := leB 826493762 4 ++ (ns4 c).flatMap (fun n => leB n 4) ++ encLst encWs c.Cores.xs ++ encLst encPt c.Partitions.xs ++ encLst encC c.Channels.xs
def encB (c : TConfig) : List Int := formB c ++ leB (sumB (formB c)) 4
theorem gd4 {c : TConfig} {i : Nat} (h : i < 4) : (#[Value.int .i64 c.Frames, .int .i64 c.Major, .int .i64 c.Kernel, .int .i64 c.Room] : Array Value)[offs 1 i]? = some (.int .i64 (gd (ns4 c) i)) := by
  rcases (by omega : i = 0 ∨ i = 1 ∨ i = 2 ∨ i = 3) with rfl | rfl | rfl | rfl <;> rfl
theorem encWs_lst {xs : List (Sl TWindow)} (h : okLst okWs xs = true) : (encLst encWs xs).length ≤ 1 + 255 * 3061 := by
  have h1 := okLst_len h
  unfold okLst at h
  simp only [Bool.and_eq_true, List.all_eq_true] at h
  have := encLst_le (enc := encWs) (K := 3061) (xs := xs) (fun q hq => encWs_le (h.2 _ (by rw [gd_eq hq]; exact List.getElem_mem hq)))
  have h2 : xs.length * 3061 ≤ 255 * 3061 := Nat.mul_le_mul_right _ h1
  omega
theorem encPt_lst {xs : List TPartition} (h : okLst okPt xs = true) : (encLst encPt xs).length ≤ 1 + 255 * 6000 := by
  have h1 := okLst_len h
  unfold okLst at h
  simp only [Bool.and_eq_true, List.all_eq_true] at h
  have := encLst_le (enc := encPt) (K := 6000) (xs := xs) (fun q hq => encPt_le (h.2 _ (by rw [gd_eq hq]; exact List.getElem_mem hq)))
  have h2 : xs.length * 6000 ≤ 255 * 6000 := Nat.mul_le_mul_right _ h1
  omega
theorem encC_lst {xs : List TChannel} (h : okLst okC xs = true) : (encLst encC xs).length ≤ 1 + 255 * 12 := by
  have h1 := okLst_len h
  have := encLst_le (enc := encC) (K := 12) (xs := xs) (fun q _ => by rw [encC_len]; exact Nat.le_refl _)
  have h2 : xs.length * 12 ≤ 255 * 12 := Nat.mul_le_mul_right _ h1
  omega
def EncPost (w : World) (c : TConfig) (e : Ending) (w' : World) : Prop :=
  ((okCf c = true ∧ (encB c).length ≤ 16384 ∧ ∃ a cap, e = .returned (.tuple #[.slice a (encB c).length cap, .int .i64 0]) ∧ w'.ownsRow w.heap.size 5 1 (.slice a (encB c).length cap) (encB c).length ((encB c).flatMap u8c)) ∨
   (okCf c = true ∧ 16384 < (encB c).length ∧ e = .returned (.tuple #[.slice none 0 0, .int .i64 2])) ∨
   (okCf c = false ∧ e = .returned (.tuple #[.slice none 0 0, .int .i64 112]))) ∧ Keeps (fun _ => False) w w'
theorem Sat.pq {A : AW} {w w' : World} {i j p q : Nat} {vp vq : Value} {tp tq : TypeId} {kept : List Ch} (h : Sat A w) (is : List Nat) (hi : A.σ[i]? = some (.blk p (.cells #[vp] tp (0, 0)) true)) (hj : A.σ[j]? = some (.blk q (.cells #[vq] tq (0, 0)) true)) (hne : i ≠ j) (hnd : nodupB is = true) (hp : picks is A.σ = some kept) (hni : is.contains i = false) (hnj : is.contains j = false) {vp' vq' : Value} (h1 : At w' p (.cells #[vp'] tp (0, 0))) (h2 : At w' q (.cells #[vq'] tq (0, 0))) (hk : Keeps (fun b => b = p ∨ b = q) w w') :
    Sat { A with n := w'.heap.size, σ := kept ++ [.blk p (.cells #[vp'] tp (0, 0)) true, .blk q (.cells #[vq'] tq (0, 0)) true] } w' := by
  have hpk : picks [i, j] A.σ = some [.blk p (.cells #[vp] tp (0, 0)) true, .blk q (.cells #[vq] tq (0, 0)) true] := by simp [picks, hi, hj]
  refine h.turn is [i, j] hnd hp hpk (by
    rw [List.all_eq_true]
    intro k hk
    rw [List.contains_eq_mem] at hni hnj
    simp only [decide_eq_false_iff_not] at hni hnj
    simp only [List.contains_cons, List.contains_nil, Bool.or_false, Bool.not_eq_true', Bool.or_eq_false_iff, beq_eq_false_iff_ne]
    exact ⟨fun e => hni (e ▸ hk), fun e => hnj (e ▸ hk)⟩) (fun c hc => by simp only [List.mem_cons, List.not_mem_nil, or_false] at hc; rcases hc with rfl | rfl <;> rfl) (hk.mono (fun b _ hb => hb.elim (fun x => ⟨_, List.mem_cons_self .., x⟩) (fun x => ⟨_, List.mem_cons_of_mem _ (List.mem_cons_self ..), x⟩))) (fun c hc => by
    simp only [List.mem_cons, List.not_mem_nil, or_false] at hc
    rcases hc with rfl | rfl
    · exact ⟨h1, Ch.stable_blk _ _ _, fun b hb => by
        have hb' : b = p := hb
        subst hb'
        exact ⟨(Array.getElem?_eq_some_iff.1 h1).1, .inl ⟨_, List.mem_cons_self .., rfl⟩⟩⟩
    · exact ⟨h2, Ch.stable_blk _ _ _, fun b hb => by
        have hb' : b = q := hb
        subst hb'
        exact ⟨(Array.getElem?_eq_some_iff.1 h2).1, .inl ⟨_, List.mem_cons_of_mem _ (List.mem_cons_self ..), rfl⟩⟩⟩) ?_
  simp only [List.map_cons, List.map_nil, List.pairwise_cons, List.mem_singleton, forall_eq, List.not_mem_nil, false_imp_iff, implies_true, List.Pairwise.nil, and_true]
  intro _ b hb hb2
  exact h.two hi hj hne rfl b hb hb2

theorem own_low {w : World} {base b2 e sz : Nat} {v : Value} {xs : List Int} (h : (rowL base e sz u8c v xs).holds w) (hb : b2 ≤ base) : w.ownsRow b2 e sz v xs.length (xs.flatMap u8c) := by
  have h' : w.ownsRow base e sz v xs.length (xs.flatMap u8c) := h
  refine ⟨h'.1, ?_⟩
  rcases h'.2 with h | ⟨g, cp, cur, e1, hg, h⟩
  · exact .inl h
  · exact .inr ⟨g, cp, cur, e1, Nat.le_trans hb hg, h⟩
abbrev q83g_0 (w4 : World) (b2 : Nat) : Ch := .blk w4.heap.size (.cells #[pt b2] 56 (0, 0)) true
abbrev q83g_1 (z : Nat) : Ch := bk (z + 1) #[.slice none 0 0] 27
abbrev q83g_2 (z : Nat) : Ch := bk (z + 2) #[i6 0] 28
abbrev q83g_3 (z : Nat) (c : TConfig) : Ch := bk z (TConfig.arr c) 26
abbrev q83g_4 (w42 : World) (a48 : Option Addr) (c : TConfig) (i : Nat) (cp49 : Nat) : Ch := rowL w42.heap.size 5 1 u8c (.slice a48 ((((((([] ++ leB 826493762 4) ++ ((ns4 c).take i).flatMap (fun n => leB n 4)) ++ encLst encWs c.Cores.xs) ++ encLst encPt c.Partitions.xs) ++ encLst encC c.Channels.xs) ++ leB (sumB ((((([] ++ leB 826493762 4) ++ ((ns4 c).take i).flatMap (fun n => leB n 4)) ++ encLst encWs c.Cores.xs) ++ encLst encPt c.Partitions.xs) ++ encLst encC c.Channels.xs)) 4).length) cp49) (((((([] ++ leB 826493762 4) ++ ((ns4 c).take i).flatMap (fun n => leB n 4)) ++ encLst encWs c.Cores.xs) ++ encLst encPt c.Partitions.xs) ++ encLst encC c.Channels.xs) ++ leB (sumB ((((([] ++ leB 826493762 4) ++ ((ns4 c).take i).flatMap (fun n => leB n 4)) ++ encLst encWs c.Cores.xs) ++ encLst encPt c.Partitions.xs) ++ encLst encC c.Channels.xs)) 4)
abbrev q83g_5 (w28 : World) (a31 : Option Addr) (c : TConfig) (i : Nat) (cp32 : Nat) : Ch := rowL w28.heap.size 5 1 u8c (.slice a31 (((((([] ++ leB 826493762 4) ++ ((ns4 c).take i).flatMap (fun n => leB n 4)) ++ encLst encWs c.Cores.xs) ++ encLst encPt c.Partitions.xs) ++ encLst encC c.Channels.xs).length) cp32) ((((([] ++ leB 826493762 4) ++ ((ns4 c).take i).flatMap (fun n => leB n 4)) ++ encLst encWs c.Cores.xs) ++ encLst encPt c.Partitions.xs) ++ encLst encC c.Channels.xs)
abbrev q83g_6 (c : TConfig) : Nat × Value := (21, .agg #[i6 c.Frames, i6 c.Major, i6 c.Kernel, i6 c.Room])
abbrev q83g_7 (w4 : World) : Nat × Value := (4, pt w4.heap.size)
abbrev q83g_8 (z : Nat) : Nat × Value := (2, pt (z + 1))
abbrev q83g_9 (z : Nat) : Nat × Value := (3, pt (z + 2))
theorem encode_calls (w : World) (c : TConfig) (hc : TConfig.ok Any w c) : Calls Try.prog 11 #[.agg (TConfig.arr c)] w fun e w' => EncPost w c e w' := by
 obtain ⟨z, hz⟩ : ∃ z, z = w.heap.size := ⟨_, rfl⟩
 refine calls_GD (args := [.agg (TConfig.arr c)]) 55 ⟨w, z, [(old0 w)]⟩ Try.func11 rfl (by kernel_rfl) (by kernel_rfl) (sat_0 hz) ?_
 have hcl := hc.lt
 refine g_keep [0] [(0, .agg (TConfig.arr c))] ?_
 refine q_c 6 1 [] [[o0, o0, o0], [o0]] [] [(1, pt z), (q83g_8 z), (q83g_9 z), (7, .func (.func 23) #[] #[pt (z + 1), pt (z + 2)])] ⟨w, z + 3, [(old0 w), (q83g_3 z c), (q83g_1 z), (q83g_2 z)]⟩ rfl trivial ?_
 refine l_defer ({ target := .fn (.func 23) #[pt (z + 1), pt (z + 2)], args := #[] }) ?_
 refine l_keep [1, 2, 3] [(1, pt z), (q83g_8 z), (q83g_9 z)] ?_
 refine l_nil (by kernel_rfl) ?_
 refine e_seq <| g_seq <| g_region <| l_call [] [] 24 #[] (some 8) trivial ?_
 intro w1 hw1
 refine (newwr_sat hw1).mono ?_
 rintro e w4 ⟨b2, F3, rfl, hmw4, hSw4⟩; have hnw4 : z + 3 ≤ w4.heap.size := hmw4
 refine ⟨_, _, rfl, hSw4, ?_⟩
 refine q_r 4 2 [] [[o0, o0, (a1 5)], [o0, (a1 5)]] [Qb w4.heap.size, Qb w4.heap.size] [(1, pt z), (q83g_8 z), (q83g_9 z), (q83g_7 w4), (11, pt b2)] ⟨w, w4.heap.size + 1, [(old0 w), (q83g_3 z c), (q83g_1 z), (q83g_2 z), (wrC b2 F3 ([])), (q83g_0 w4 b2)]⟩ rfl ⟨rfl, rfl, trivial⟩ ?_
 refine l_call [] [] 25 #[pt b2, .int .u32 826493762] (some 12) trivial ?_
 intro w5 hw5
 refine (u32_sat hw5 (i := 4) rfl 826493762 (by omega) (by first | omega | (simp only [List.length_append, leB_len, List.length_cons, List.length_nil]; omega))).mono ?_
 rintro e w7 ⟨F6, rfl, hmw7, hSw7⟩; have hnw7 : w4.heap.size + 1 ≤ w7.heap.size := hmw7
 refine ⟨_, _, rfl, hSw7, ?_⟩
 refine q_rS 8 0 [] [[], [o0, (a1 1), o0, (a1 1), o0, (a1 1), o0, (a1 1), o0, o0]] [Qb z, Qb z, Qb z, Qb z] [(1, pt z), (q83g_8 z), (q83g_9 z), (q83g_7 w4), (q83g_6 c), (22, i6 0)] rfl ⟨rfl, rfl, rfl, rfl, trivial⟩ ?_
 refine g_loop (fun m a w' => ∃ (n9 : Nat) (i : Nat) (FL : Nat → Prop), m = 4 - i ∧ w7.heap.size ≤ n9 ∧ (i ≤ 4) ∧ (∀ q, q < i → okNum (gd (ns4 c) q) = true) ∧ St 55 [(1, pt z), (q83g_8 z), (q83g_9 z), (q83g_7 w4), (q83g_6 c), (22, i6 (i : Int))] [{ target := .fn (.func 23) #[pt (z + 1), pt (z + 2)], args := #[] }] ⟨w, n9, [(old0 w), (q83g_3 z c), (q83g_1 z), (q83g_2 z), (wrC b2 FL (([] ++ leB 826493762 4) ++ ((ns4 c).take i).flatMap (fun n => leB n 4))), (q83g_0 w4 b2)]⟩ a w') (4 - 0) ?_ ?_
 · intro a w' hs; exact ⟨w7.heap.size, 0, F6, rfl, Nat.le_refl _, Nat.zero_le _, fun q hq => absurd hq (Nat.not_lt_zero q), by (try dsimp only [q83g_0, q83g_1, q83g_2, q83g_3, q83g_4, q83g_5, q83g_6, q83g_7, q83g_8, q83g_9] at hs ⊢); rw [List.take_zero, List.flatMap_nil, List.append_nil]; exact hs⟩
 · rintro m a w' ⟨n9, i, FL, rfl, hn8, hki, hok4, hs⟩
   refine (?_ : G Try.prog 55 [(1, pt z), (q83g_8 z), (q83g_9 z), (q83g_7 w4), (q83g_6 c), (22, i6 (i : Int))] [{ target := .fn (.func 23) #[pt (z + 1), pt (z + 2)], args := #[] }] ⟨w, n9, [(old0 w), (q83g_3 z c), (q83g_1 z), (q83g_2 z), (wrC b2 FL (([] ++ leB 826493762 4) ++ ((ns4 c).take i).flatMap (fun n => leB n 4))), (q83g_0 w4 b2)]⟩ _ _ _) a w' hs
   clear hs a w'
   have hfl := flat_le (enc := fun n => leB n 4) (K := 4) (xs := ns4 c) i (by show i ≤ 4; omega) (fun q hq => by rw [leB_len]; exact Nat.le_refl _)
   refine g_seq ?_
   by_cases h10 : ((i : Int) : Int) < 4
   · refine q_cS 14 2 [1] [[oT], [⟨.aidx i (i6 (gd (ns4 c) i)), none⟩, o0], [(a1 5), o0]] [BT (((i : Int) : Int) < 4), ((i : Int) : Int) = ((i : Nat) : Int), i < 4, (#[i6 c.Frames, i6 c.Major, i6 c.Kernel, i6 c.Room] : Array Value)[offs 1 i]? = some (i6 (gd (ns4 c) i)), Qb w4.heap.size] [(1, pt z), (q83g_8 z), (q83g_9 z), (q83g_7 w4), (q83g_6 c), (22, i6 (i : Int)), (25, .agg #[pt b2]), (26, i6 (gd (ns4 c) i))] rfl ⟨bt (by omega), rfl, (by omega), (gd4 (by omega)), rfl, trivial⟩ ?_
     refine l_callX [] [] 26 #[.agg #[pt b2], i6 (gd (ns4 c) i)] (some 27) trivial ?_
     intro w11 hw11
     refine (number_satP hw11 (i := 4) [0, 1, 2, 3, 5] rfl rfl rfl rfl (gd (ns4 c) i) (by first | omega | (simp only [List.length_append, leB_len, List.length_cons, List.length_nil]; omega))).mono ?_
     rintro e w13 (⟨F12, ho14, rfl, hmw13, hSw13⟩ | ⟨ho14, rfl, hmw13, hSw13⟩)
     · have hnw13 : n9 ≤ w13.heap.size := hmw13
       refine .inl ⟨_, _, rfl, hSw13, ?_⟩
       refine q_rS 5 0 [] [[], [(ov (i6 ((i + 1 : Nat) : Int))), o0]] [Wr (((i : Int) : Int) + 1) (((i + 1 : Nat) : Int))] [(1, pt z), (q83g_8 z), (q83g_9 z), (q83g_7 w4), (q83g_6 c), (22, i6 ((i + 1 : Nat) : Int))] rfl ⟨wrI, trivial⟩ ?_
       refine e_inv (fun a w' hs => ⟨4 - (i + 1), by omega, w13.heap.size, (i + 1), F12, rfl, by omega, by omega, all_push hok4 ho14, by (try dsimp only [q83g_0, q83g_1, q83g_2, q83g_3, q83g_4, q83g_5, q83g_6, q83g_7, q83g_8, q83g_9] at hs ⊢); rw [take_flat (by show i < 4; omega), ← List.append_assoc]; exact hs⟩)
     · have hnw13 : n9 ≤ w13.heap.size := hmw13
       refine .inr ⟨_, _, rfl, hSw13, ?_⟩
       refine e_panicD (f := 23) (args := #[pt (z + 1), pt (z + 2)]) (fun _ => by simp [go_sem]) (fun w15 hw15 => ?_)
       refine (enc1_panic w15 (z + 1) (z + 2) _ _ (hw15.at (i := 2) rfl) (hw15.at (i := 3) rfl) (by omega)).mono ?_
       rintro e u w16 ⟨rfl, hu, hp1, hq1, hkw16⟩
       have hnw16 : w13.heap.size ≤ w16.heap.size := size_of hw15 hkw16
       refine ⟨_, rfl, hu, _, Sat.pq hw15 [0, 1, 4] (i := 2) (j := 3) rfl rfl (by decide) rfl rfl rfl rfl hp1 hq1 hkw16, ?_⟩
       refine e_ret [.at 3, .at 4] [Qb (z + 1), Qb (z + 2)] (.tuple #[.slice none 0 0, i6 112]) ⟨rfl, rfl, trivial⟩ ?_
       intro w17 hw17
       exact ⟨.inr (.inr ⟨(by unfold okCf; rw [all_no (xs := ns4 c) (i := i) (by show i < 4; omega) ho14]; simp), rfl⟩), back0 hw17⟩
   · refine q_cS 12 3 [0] [[oF], [(a1 5), o0, (a1 1)]] [BF (((i : Int) : Int) < 4), Qb w4.heap.size, Qb z] [(1, pt z), (q83g_8 z), (q83g_9 z), (q83g_7 w4), (29, .agg #[pt b2]), (31, .slice c.Cores.a c.Cores.xs.length c.Cores.cap)] rfl ⟨bf (by omega), rfl, rfl, trivial⟩ ?_
     refine l_callX [] [] 27 #[.agg #[pt b2], .slice c.Cores.a c.Cores.xs.length c.Cores.cap, .func (.func 28) #[] #[]] (some 32) trivial ?_
     intro w18 hw18
     have hew18 : Ext (fun b => b < w.heap.size) w w18 := fun b k v _ hv => (hw18.ext rfl) _ _ _ trivial hv; have hFw18 : ∀ b, b < w.heap.size → Dt w18 FL b := fun b hb => ⟨Nat.lt_of_lt_of_le hb (by rw [hw18.size]; show w.heap.size ≤ n9; omega), hw18.far rfl (i := 4) rfl (by decide) rfl b hb⟩
     refine (putWs_satP hw18 (i := 4) [0, 1, 2, 3, 5] rfl rfl rfl rfl c.Cores (slOk_ext hew18 hFw18 hcl.Cores (fun _ h => slOk_ext hew18 hFw18 h (fun _ h => TWindow.ok.ext hew18 hFw18 h))) (by first | omega | (simp only [List.length_append, leB_len, List.length_cons, List.length_nil]; omega))).mono ?_
     rintro e w20 (⟨F19, ho21, rfl, hmw20, hSw20⟩ | ⟨ho21, rfl, hmw20, hSw20⟩)
     · have hnw20 : n9 ≤ w20.heap.size := hmw20
       have hl1 := encWs_lst ho21
       refine .inl ⟨_, _, rfl, hSw20, ?_⟩
       refine q_rS 4 3 [] [[], [(a1 5), o0, (a1 1)]] [Qb w4.heap.size, Qb z] [(1, pt z), (q83g_8 z), (q83g_9 z), (q83g_7 w4), (33, .agg #[pt b2]), (35, .slice c.Partitions.a c.Partitions.xs.length c.Partitions.cap)] rfl ⟨rfl, rfl, trivial⟩ ?_
       refine l_callX [] [] 29 #[.agg #[pt b2], .slice c.Partitions.a c.Partitions.xs.length c.Partitions.cap, .func (.func 30) #[] #[]] (some 36) trivial ?_
       intro w22 hw22
       have hew22 : Ext (fun b => b < w.heap.size) w w22 := fun b k v _ hv => (hw22.ext rfl) _ _ _ trivial hv; have hFw22 : ∀ b, b < w.heap.size → Dt w22 F19 b := fun b hb => ⟨Nat.lt_of_lt_of_le hb (by rw [hw22.size]; show w.heap.size ≤ w20.heap.size; omega), hw22.far rfl (i := 4) rfl (by decide) rfl b hb⟩
       refine (putPt_satP hw22 (i := 4) [0, 1, 2, 3, 5] rfl rfl rfl rfl c.Partitions (slOk_ext hew22 hFw22 hcl.Partitions (fun _ h => TPartition.ok.ext hew22 hFw22 h)) (by first | omega | (simp only [List.length_append, leB_len, List.length_cons, List.length_nil]; omega))).mono ?_
       rintro e w24 (⟨F23, ho25, rfl, hmw24, hSw24⟩ | ⟨ho25, rfl, hmw24, hSw24⟩)
       · have hnw24 : w20.heap.size ≤ w24.heap.size := hmw24
         have hl2 := encPt_lst ho25
         refine .inl ⟨_, _, rfl, hSw24, ?_⟩
         refine q_rS 4 3 [] [[], [(a1 5), o0, (a1 1)]] [Qb w4.heap.size, Qb z] [(q83g_8 z), (q83g_9 z), (q83g_7 w4), (37, .agg #[pt b2]), (39, .slice c.Channels.a c.Channels.xs.length c.Channels.cap)] rfl ⟨rfl, rfl, trivial⟩ ?_
         refine l_callX [] [] 31 #[.agg #[pt b2], .slice c.Channels.a c.Channels.xs.length c.Channels.cap, .func (.func 32) #[] #[]] (some 40) trivial ?_
         intro w26 hw26
         have hew26 : Ext (fun b => b < w.heap.size) w w26 := fun b k v _ hv => (hw26.ext rfl) _ _ _ trivial hv; have hFw26 : ∀ b, b < w.heap.size → Dt w26 F23 b := fun b hb => ⟨Nat.lt_of_lt_of_le hb (by rw [hw26.size]; show w.heap.size ≤ w24.heap.size; omega), hw26.far rfl (i := 4) rfl (by decide) rfl b hb⟩
         refine (putC_satP hw26 (i := 4) [0, 1, 2, 3, 5] rfl rfl rfl rfl c.Channels (slOk_ext hew26 hFw26 hcl.Channels (fun _ h => TChannel.ok.ext hew26 hFw26 h)) (by first | omega | (simp only [List.length_append, leB_len, List.length_cons, List.length_nil]; omega))).mono ?_
         rintro e w28 (⟨F27, ho29, rfl, hmw28, hSw28⟩ | ⟨ho29, rfl, hmw28, hSw28⟩)
         · have hnw28 : w24.heap.size ≤ w28.heap.size := hmw28
           have hl3 := encC_lst ho29
           refine .inl ⟨_, _, rfl, hSw28, ?_⟩
           refine l_keep [2, 3, 4] [(q83g_8 z), (q83g_9 z), (q83g_7 w4)] ?_
           refine l_nil (by kernel_rfl) ?_
           refine e_seq <| g_seq <| g_draw 6 [0, 1, 2, 3, 4, 5] [(old0 w), (q83g_3 z c), (q83g_1 z), (q83g_2 z), (wrC b2 F27 ((((([] ++ leB 826493762 4) ++ ((ns4 c).take i).flatMap (fun n => leB n 4)) ++ encLst encWs c.Cores.xs) ++ encLst encPt c.Partitions.xs) ++ encLst encC c.Channels.xs)), (q83g_0 w4 b2)] rfl rfl ?_
           refine w_take [(0, o0), (1, (a1 5)), (2, o0), (3, (a1 5))] [2, 3, 4, 42, 44] [Qb w4.heap.size, Qb w4.heap.size] [true, true, true, true, false, false, false] [(q83g_8 z), (q83g_9 z), (q83g_7 w4), (42, pt b2), (44, pt b2)] rfl (by as_aux_lemma => kernel_rfl) (by as_aux_lemma => kernel_rfl) ⟨rfl, rfl, trivial⟩ ?_
           refine w_one 4 (by as_aux_lemma => kernel_rfl) rfl ?_
           refine wo_call [] [] 34 #[pt b2] (some 45) (by as_aux_lemma => kernel_rfl) rfl rfl trivial ?_
           intro w30 hw30
           refine (out_satW hw30 (i := 4) rfl (by first | omega | (simp only [List.length_append, leB_len, List.length_cons, List.length_nil]; omega))).mono ?_
           rintro e w33 ⟨a31, cp32, rfl, hmw33, hSw33⟩; have hnw33 : w28.heap.size ≤ w33.heap.size := hmw33
           have hs34 := hSw33
           refine ⟨_, _, rfl, hs34, .inr (fun c hc => hs34.all c (by first | exact hc | exact picks_mem (is := [0, 1, 2, 3, 4, 5]) rfl c hc)), ?_⟩
           refine w_keep [2, 3, 4, 42, 45] [(q83g_8 z), (q83g_9 z), (q83g_7 w4), (42, pt b2), (45, .slice a31 (((((([] ++ leB 826493762 4) ++ ((ns4 c).take i).flatMap (fun n => leB n 4)) ++ encLst encWs c.Cores.xs) ++ encLst encPt c.Partitions.xs) ++ encLst encC c.Channels.xs).length) cp32)] ?_
           refine w_one 5 (by as_aux_lemma => kernel_rfl) rfl ?_
           refine wo_call [] [] 33 #[.slice a31 (((((([] ++ leB 826493762 4) ++ ((ns4 c).take i).flatMap (fun n => leB n 4)) ++ encLst encWs c.Cores.xs) ++ encLst encPt c.Partitions.xs) ++ encLst encC c.Channels.xs).length) cp32] (some 46) (by as_aux_lemma => kernel_rfl) rfl rfl trivial ?_
           intro w35 hw35
           refine (sum_calls w35 ⟨a31, cp32, ((((([] ++ leB 826493762 4) ++ ((ns4 c).take i).flatMap (fun n => leB n 4)) ++ encLst encWs c.Cores.xs) ++ encLst encPt c.Partitions.xs) ++ encLst encC c.Channels.xs)⟩ (rowU_any hw35 (i := 6) rfl (by first | omega | (simp only [List.length_append, leB_len, List.length_cons, List.length_nil]; omega)))).mono ?_
           rintro e w36 ⟨rfl, hkw36⟩
           have hnw36 : w33.heap.size ≤ w36.heap.size := size_of hw35 hkw36
           have hs37 := hw35.keeps hkw36
           refine ⟨_, _, rfl, hs37, .inr (fun c hc => hs37.all c (by first | exact hc | exact picks_mem (is := [0, 1, 2, 3, 4, 5]) rfl c hc)), ?_⟩
           refine w_keep [2, 3, 4, 42, 46] [(q83g_8 z), (q83g_9 z), (q83g_7 w4), (42, pt b2), (46, .int .u32 (sumB ((((([] ++ leB 826493762 4) ++ ((ns4 c).take i).flatMap (fun n => leB n 4)) ++ encLst encWs c.Cores.xs) ++ encLst encPt c.Partitions.xs) ++ encLst encC c.Channels.xs)))] ?_
           refine w_one 6 (by as_aux_lemma => kernel_rfl) rfl ?_
           refine wo_call [] [] 25 #[pt b2, .int .u32 (sumB ((((([] ++ leB 826493762 4) ++ ((ns4 c).take i).flatMap (fun n => leB n 4)) ++ encLst encWs c.Cores.xs) ++ encLst encPt c.Partitions.xs) ++ encLst encC c.Channels.xs))] (some 47) (by as_aux_lemma => kernel_rfl) rfl rfl trivial ?_
           intro w38 hw38
           refine (u32_sat hw38 (i := 4) rfl (sumB ((((([] ++ leB 826493762 4) ++ ((ns4 c).take i).flatMap (fun n => leB n 4)) ++ encLst encWs c.Cores.xs) ++ encLst encPt c.Partitions.xs) ++ encLst encC c.Channels.xs)) (sumB_in _) (by first | omega | (simp only [List.length_append, leB_len, List.length_cons, List.length_nil]; omega))).mono ?_
           rintro e w40 ⟨F39, rfl, hmw40, hSw40⟩; have hnw40 : w36.heap.size ≤ w40.heap.size := hmw40
           refine ⟨_, _, rfl, hSw40, .inl rfl, ?_⟩
           refine w_keep [2, 3, 4] [(q83g_8 z), (q83g_9 z), (q83g_7 w4)] ?_
           refine w_free 7 [0, 1, 2, 3, 4, 5, 6] [(old0 w), (q83g_3 z c), (q83g_1 z), (q83g_2 z), (wrC b2 F39 (((((([] ++ leB 826493762 4) ++ ((ns4 c).take i).flatMap (fun n => leB n 4)) ++ encLst encWs c.Cores.xs) ++ encLst encPt c.Partitions.xs) ++ encLst encC c.Channels.xs) ++ leB (sumB ((((([] ++ leB 826493762 4) ++ ((ns4 c).take i).flatMap (fun n => leB n 4)) ++ encLst encWs c.Cores.xs) ++ encLst encPt c.Partitions.xs) ++ encLst encC c.Channels.xs)) 4)), (q83g_0 w4 b2), (q83g_5 w28 a31 c i cp32)] rfl rfl ?_
           refine w_done (by as_aux_lemma => kernel_rfl) ?_
           refine q_oS 4 2 [] [[o0, (a1 5)]] [Qb w4.heap.size] [(q83g_8 z), (q83g_9 z), (q83g_7 w4), (49, pt b2)] rfl ⟨rfl, trivial⟩ ?_
           refine l_call [] [] 35 #[pt b2] (some 50) trivial ?_
           intro w41 hw41
           refine (len_satW hw41 (i := 4) rfl (by first | omega | (simp only [List.length_append, leB_len, List.length_cons, List.length_nil]; omega))).mono ?_
           rintro e w42 ⟨rfl, hkw42⟩
           have hnw42 : w40.heap.size ≤ w42.heap.size := size_of hw41 hkw42
           refine ⟨_, _, rfl, hw41.keeps hkw42, ?_⟩
           refine l_keep [2, 3, 4, 50] [(q83g_8 z), (q83g_9 z), (q83g_7 w4), (50, i6 (((((((([] ++ leB 826493762 4) ++ ((ns4 c).take i).flatMap (fun n => leB n 4)) ++ encLst encWs c.Cores.xs) ++ encLst encPt c.Partitions.xs) ++ encLst encC c.Channels.xs) ++ leB (sumB ((((([] ++ leB 826493762 4) ++ ((ns4 c).take i).flatMap (fun n => leB n 4)) ++ encLst encWs c.Cores.xs) ++ encLst encPt c.Partitions.xs) ++ encLst encC c.Channels.xs)) 4).length : Nat) : Int))] ?_
           by_cases h43 : (16384 : Int) < (((((((([] ++ leB 826493762 4) ++ ((ns4 c).take i).flatMap (fun n => leB n 4)) ++ encLst encWs c.Cores.xs) ++ encLst encPt c.Partitions.xs) ++ encLst encC c.Channels.xs) ++ leB (sumB ((((([] ++ leB 826493762 4) ++ ((ns4 c).take i).flatMap (fun n => leB n 4)) ++ encLst encWs c.Cores.xs) ++ encLst encPt c.Partitions.xs) ++ encLst encC c.Channels.xs)) 4).length : Nat) : Int)
           · refine q_r 8 0 [1] [[oT], [(a1 2), (a1 3)]] [BT (((((((((([] ++ leB 826493762 4) ++ ((ns4 c).take i).flatMap (fun n => leB n 4)) ++ encLst encWs c.Cores.xs) ++ encLst encPt c.Partitions.xs) ++ encLst encC c.Channels.xs) ++ leB (sumB ((((([] ++ leB 826493762 4) ++ ((ns4 c).take i).flatMap (fun n => leB n 4)) ++ encLst encWs c.Cores.xs) ++ encLst encPt c.Partitions.xs) ++ encLst encC c.Channels.xs)) 4).length : Nat) : Int) : Int) > 16384), Qb (z + 1), Qb (z + 2)] [(q83g_8 z), (q83g_9 z)] ⟨w, w42.heap.size, [(old0 w), (q83g_3 z c), (q83g_1 z), (bk (z + 2) #[i6 2] 28), (wrC b2 F39 (((((([] ++ leB 826493762 4) ++ ((ns4 c).take i).flatMap (fun n => leB n 4)) ++ encLst encWs c.Cores.xs) ++ encLst encPt c.Partitions.xs) ++ encLst encC c.Channels.xs) ++ leB (sumB ((((([] ++ leB 826493762 4) ++ ((ns4 c).take i).flatMap (fun n => leB n 4)) ++ encLst encWs c.Cores.xs) ++ encLst encPt c.Partitions.xs) ++ encLst encC c.Channels.xs)) 4)), (q83g_0 w4 b2), (q83g_5 w28 a31 c i cp32)]⟩ rfl ⟨bt (by omega), rfl, rfl, trivial⟩ ?_
             refine e_retD (f := 23) (args := #[pt (z + 1), pt (z + 2)]) (fun _ => by simp [go_sem]) (fun w44 hw44 => ?_)
             refine (enc1_idle _ _ _).mono ?_
             rintro e u w45 ⟨rfl, rfl, rfl⟩
             refine ⟨_, rfl, rfl, _, hw44, ?_⟩
             refine e_ret [.at 2, .at 3] [Qb (z + 1), Qb (z + 2)] (.tuple #[.slice none 0 0, i6 2]) ⟨rfl, rfl, trivial⟩ ?_
             intro w46 hw46
             have hok : okCf c = true := by unfold okCf; rw [all_yes (xs := ns4 c) (fun q hq => hok4 q (by have : q < 4 := hq; omega)), ho21, ho25, ho29]; rfl
             have hT : (ns4 c).take i = ns4 c := by rw [show i = 4 from by omega]; rfl
             have hE : (((((([] ++ leB 826493762 4) ++ ((ns4 c).take i).flatMap (fun n => leB n 4)) ++ encLst encWs c.Cores.xs) ++ encLst encPt c.Partitions.xs) ++ encLst encC c.Channels.xs) ++ leB (sumB ((((([] ++ leB 826493762 4) ++ ((ns4 c).take i).flatMap (fun n => leB n 4)) ++ encLst encWs c.Cores.xs) ++ encLst encPt c.Partitions.xs) ++ encLst encC c.Channels.xs)) 4) = encB c := by rw [hT]; rfl
             refine ⟨.inr (.inl ⟨hok, ?_, rfl⟩), back0 hw46⟩
             rw [← hE]; omega
           · refine q_rS 7 2 [0] [[oF], [o0, (a1 5)]] [BF (((((((((([] ++ leB 826493762 4) ++ ((ns4 c).take i).flatMap (fun n => leB n 4)) ++ encLst encWs c.Cores.xs) ++ encLst encPt c.Partitions.xs) ++ encLst encC c.Channels.xs) ++ leB (sumB ((((([] ++ leB 826493762 4) ++ ((ns4 c).take i).flatMap (fun n => leB n 4)) ++ encLst encWs c.Cores.xs) ++ encLst encPt c.Partitions.xs) ++ encLst encC c.Channels.xs)) 4).length : Nat) : Int) : Int) > 16384), Qb w4.heap.size] [(q83g_8 z), (q83g_9 z), (53, pt b2)] rfl ⟨bf (by omega), rfl, trivial⟩ ?_
             refine l_call [] [] 34 #[pt b2] (some 54) trivial ?_
             intro w47 hw47
             refine (out_satW hw47 (i := 4) rfl (by first | omega | (simp only [List.length_append, leB_len, List.length_cons, List.length_nil]; omega))).mono ?_
             rintro e w50 ⟨a48, cp49, rfl, hmw50, hSw50⟩; have hnw50 : w42.heap.size ≤ w50.heap.size := hmw50
             refine ⟨_, _, rfl, hSw50, ?_⟩
             refine q_r 3 0 [] [[(a1 2), (a1 3)]] [Qb (z + 1), Qb (z + 2)] [(q83g_8 z), (q83g_9 z)] ⟨w, w50.heap.size, [(old0 w), (q83g_3 z c), (bk (z + 1) #[.slice a48 ((((((([] ++ leB 826493762 4) ++ ((ns4 c).take i).flatMap (fun n => leB n 4)) ++ encLst encWs c.Cores.xs) ++ encLst encPt c.Partitions.xs) ++ encLst encC c.Channels.xs) ++ leB (sumB ((((([] ++ leB 826493762 4) ++ ((ns4 c).take i).flatMap (fun n => leB n 4)) ++ encLst encWs c.Cores.xs) ++ encLst encPt c.Partitions.xs) ++ encLst encC c.Channels.xs)) 4).length) cp49] 27), (q83g_2 z), (wrC b2 F39 (((((([] ++ leB 826493762 4) ++ ((ns4 c).take i).flatMap (fun n => leB n 4)) ++ encLst encWs c.Cores.xs) ++ encLst encPt c.Partitions.xs) ++ encLst encC c.Channels.xs) ++ leB (sumB ((((([] ++ leB 826493762 4) ++ ((ns4 c).take i).flatMap (fun n => leB n 4)) ++ encLst encWs c.Cores.xs) ++ encLst encPt c.Partitions.xs) ++ encLst encC c.Channels.xs)) 4)), (q83g_0 w4 b2), (q83g_5 w28 a31 c i cp32), (q83g_4 w42 a48 c i cp49)]⟩ rfl ⟨rfl, rfl, trivial⟩ ?_
             refine e_retD (f := 23) (args := #[pt (z + 1), pt (z + 2)]) (fun _ => by simp [go_sem]) (fun w51 hw51 => ?_)
             refine (enc1_idle _ _ _).mono ?_
             rintro e u w52 ⟨rfl, rfl, rfl⟩
             refine ⟨_, rfl, rfl, _, hw51, ?_⟩
             refine e_ret [.at 2, .at 3] [Qb (z + 1), Qb (z + 2)] (.tuple #[.slice a48 ((((((([] ++ leB 826493762 4) ++ ((ns4 c).take i).flatMap (fun n => leB n 4)) ++ encLst encWs c.Cores.xs) ++ encLst encPt c.Partitions.xs) ++ encLst encC c.Channels.xs) ++ leB (sumB ((((([] ++ leB 826493762 4) ++ ((ns4 c).take i).flatMap (fun n => leB n 4)) ++ encLst encWs c.Cores.xs) ++ encLst encPt c.Partitions.xs) ++ encLst encC c.Channels.xs)) 4).length) cp49, i6 0]) ⟨rfl, rfl, trivial⟩ ?_
             intro w53 hw53
             have hok : okCf c = true := by unfold okCf; rw [all_yes (xs := ns4 c) (fun q hq => hok4 q (by have : q < 4 := hq; omega)), ho21, ho25, ho29]; rfl
             have hT : (ns4 c).take i = ns4 c := by rw [show i = 4 from by omega]; rfl
             have hE : (((((([] ++ leB 826493762 4) ++ ((ns4 c).take i).flatMap (fun n => leB n 4)) ++ encLst encWs c.Cores.xs) ++ encLst encPt c.Partitions.xs) ++ encLst encC c.Channels.xs) ++ leB (sumB ((((([] ++ leB 826493762 4) ++ ((ns4 c).take i).flatMap (fun n => leB n 4)) ++ encLst encWs c.Cores.xs) ++ encLst encPt c.Partitions.xs) ++ encLst encC c.Channels.xs)) 4) = encB c := by rw [hT]; rfl
             have hrow := hw53.at (i := 7) (c := (q83g_4 w42 a48 c i cp49)) rfl
             (try dsimp only [q83g_0, q83g_1, q83g_2, q83g_3, q83g_4, q83g_5, q83g_6, q83g_7, q83g_8, q83g_9] at hrow)
             rw [hE] at hrow ⊢
             refine ⟨.inl ⟨hok, ?_, _, _, rfl, own_low hrow (by omega)⟩, back0 hw53⟩
             rw [← hE]; omega
         · have hnw28 : w24.heap.size ≤ w28.heap.size := hmw28
           refine .inr ⟨_, _, rfl, hSw28, ?_⟩
           refine e_panicD (f := 23) (args := #[pt (z + 1), pt (z + 2)]) (fun _ => by simp [go_sem]) (fun w54 hw54 => ?_)
           refine (enc1_panic w54 (z + 1) (z + 2) _ _ (hw54.at (i := 2) rfl) (hw54.at (i := 3) rfl) (by omega)).mono ?_
           rintro e u w55 ⟨rfl, hu, hp1, hq1, hkw55⟩
           have hnw55 : w28.heap.size ≤ w55.heap.size := size_of hw54 hkw55
           refine ⟨_, rfl, hu, _, Sat.pq hw54 [0, 1, 4] (i := 2) (j := 3) rfl rfl (by decide) rfl rfl rfl rfl hp1 hq1 hkw55, ?_⟩
           refine e_ret [.at 3, .at 4] [Qb (z + 1), Qb (z + 2)] (.tuple #[.slice none 0 0, i6 112]) ⟨rfl, rfl, trivial⟩ ?_
           intro w56 hw56
           exact ⟨.inr (.inr ⟨(by unfold okCf; rw [ho29]; simp), rfl⟩), back0 hw56⟩
       · have hnw24 : w20.heap.size ≤ w24.heap.size := hmw24
         refine .inr ⟨_, _, rfl, hSw24, ?_⟩
         refine e_panicD (f := 23) (args := #[pt (z + 1), pt (z + 2)]) (fun _ => by simp [go_sem]) (fun w57 hw57 => ?_)
         refine (enc1_panic w57 (z + 1) (z + 2) _ _ (hw57.at (i := 2) rfl) (hw57.at (i := 3) rfl) (by omega)).mono ?_
         rintro e u w58 ⟨rfl, hu, hp1, hq1, hkw58⟩
         have hnw58 : w24.heap.size ≤ w58.heap.size := size_of hw57 hkw58
         refine ⟨_, rfl, hu, _, Sat.pq hw57 [0, 1, 4] (i := 2) (j := 3) rfl rfl (by decide) rfl rfl rfl rfl hp1 hq1 hkw58, ?_⟩
         refine e_ret [.at 3, .at 4] [Qb (z + 1), Qb (z + 2)] (.tuple #[.slice none 0 0, i6 112]) ⟨rfl, rfl, trivial⟩ ?_
         intro w59 hw59
         exact ⟨.inr (.inr ⟨(by unfold okCf; rw [ho25]; simp), rfl⟩), back0 hw59⟩
     · have hnw20 : n9 ≤ w20.heap.size := hmw20
       refine .inr ⟨_, _, rfl, hSw20, ?_⟩
       refine e_panicD (f := 23) (args := #[pt (z + 1), pt (z + 2)]) (fun _ => by simp [go_sem]) (fun w60 hw60 => ?_)
       refine (enc1_panic w60 (z + 1) (z + 2) _ _ (hw60.at (i := 2) rfl) (hw60.at (i := 3) rfl) (by omega)).mono ?_
       rintro e u w61 ⟨rfl, hu, hp1, hq1, hkw61⟩
       have hnw61 : w20.heap.size ≤ w61.heap.size := size_of hw60 hkw61
       refine ⟨_, rfl, hu, _, Sat.pq hw60 [0, 1, 4] (i := 2) (j := 3) rfl rfl (by decide) rfl rfl rfl rfl hp1 hq1 hkw61, ?_⟩
       refine e_ret [.at 3, .at 4] [Qb (z + 1), Qb (z + 2)] (.tuple #[.slice none 0 0, i6 112]) ⟨rfl, rfl, trivial⟩ ?_
       intro w62 hw62
       exact ⟨.inr (.inr ⟨(by unfold okCf; rw [ho21]; simp), rfl⟩), back0 hw62⟩

end Go.Proofs.Ytmmkacfeocnblaa.Ly
