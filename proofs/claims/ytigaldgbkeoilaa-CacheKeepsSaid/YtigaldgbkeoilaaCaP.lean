/- CacheKeeps, walked once. Conditions: the cells of the list, as a row gives them. -/
import Derived.Test.YtigaldgbkeoilaaCaO
namespace Go.Proofs.Ytigaldgbkeoilaa.Ca
open Go.RowKit Go.Proofs.Ytigaldgbkeoilaa.Mem Go.Proofs.Ytigaldgbkeoilaa.Sh Go.Proofs.Ytigaldgbkeoilaa.Rng
set_option linter.unusedSimpArgs false
set_option linter.unusedVariables false

theorem Filled.owned {base bo : Nat} {L : Nat → List Int} {w : World} {cs : Array Value} (h : Filled base L w bo 4 cs) (hb : base ≤ bo) : Owned base w (.slice (some ⟨bo, 0, none⟩) 4 4) [L 0, L 1, L 2, L 3] cs.toList := by
  have ho := own_of_at (base := base) (n := 4) (cap := 4) h.outer (Nat.le_refl _) h.size (by unfold maxLen; omega) hb
  have ht : cs.toList.take 4 = cs.toList := List.take_of_length_le (by have := h.size; simp [this])
  rw [ht] at ho
  have h4 : ∀ (i : Nat) (r : Value), cs.toList[i]? = some r → i < 4 ∧ cs[i]? = some r := by
    intro i r hr
    have := (List.getElem?_eq_some_iff.1 hr).1
    exact ⟨by have := h.size; simp at *; omega, by simpa using hr⟩
  refine ⟨ho, by simp [h.size], fun i r x hr hx => ?_, fun i j r s k hij hr hs hk => ?_⟩
  · obtain ⟨hi, hc⟩ := h4 i r hr
    obtain ⟨v, hv, h2⟩ := h.rows i hi
    rw [hc] at hv; cases hv
    rw [if_pos hi] at h2
    obtain rfl | rfl | rfl | rfl : i = 0 ∨ i = 1 ∨ i = 2 ∨ i = 3 := by omega
    all_goals (simp at hx; subst hx; exact h2)
  · exact h.apart i j r s k (h4 i r hr).1 (h4 j s hs).1 hij (h4 i r hr).2 (h4 j s hs).2 hk

theorem Owned.blocks {base : Nat} {w : World} {v : Value} {xs : List (List Int)} {rows : List Value} (h : Owned base w v xs rows) : ∀ b, Blocks rows b → base ≤ b ∧ b < w.heap.size := by
  rintro b ⟨i, r, hr, hb⟩
  obtain ⟨x, -, hx⟩ := h.off hr
  exact ⟨own_base hx b hb, own_lt hx b hb⟩

def OwnLinesPost (w : World) (L : Nat → List Int) (e : Ending) (w' : World) : Prop :=
  ∃ bo rows, e = .returned (.slice (some ⟨bo, 0, none⟩) 4 4) ∧ Owned w.heap.size w' (.slice (some ⟨bo, 0, none⟩) 4 4) [L 0, L 1, L 2, L 3] rows ∧ Keeps (fun _ => False) w w'

theorem lines_own (w : World) (c : Nat) (F : Nat → Prop) (L : Nat → List Int) (h : CacheIs w c F L) : Calls Try.prog 14 #[.pointer (some ⟨c, 0, none⟩)] w (OwnLinesPost w L) := by
  refine (lines_calls w c F L h).mono ?_
  rintro e w' ⟨bo, cs, rfl, hbo, hfl, hk⟩
  exact ⟨bo, _, rfl, hfl.owned hbo, hk⟩

theorem quads_small {L : Nat → List Int} (h : ∀ i, i < 4 → (L i).length ≤ 2) : ∀ x ∈ [L 0, L 1, L 2, L 3], x.length ≤ 2 := by
  intro x hx
  simp only [List.mem_cons, List.not_mem_nil, or_false] at hx
  rcases hx with rfl | rfl | rfl | rfl
  all_goals (apply h; omega)

set_option maxHeartbeats 4000000 in
theorem cacheKeeps_calls (w : World) (a : Option Addr) (n cap : Nat) (z : Nat → Int) (mark : Int)
    (hc : Cells w a n (fun i => .int .u16 (z i))) (hz : ∀ i, i < n → 0 ≤ z i ∧ z i < 65536) (hn : n ≤ 9223372036854775807) :
    Calls Try.prog 7 #[.slice a n cap, .int .i64 mark] w fun e w' => e = .returned (.bool true) ∧ Keeps (fun _ => False) w w' := by
  go_enter Try.func7, Try.ntmps7
  go_wp2_with fail
  refine (touched_any w a n cap z hc hz hn).mono ?_
  rintro e w1 ⟨ca, L, rfl, ⟨Fa, hCa, hFa, hk01⟩, hG⟩
  have hs2 := fun i hi => (hCa.small i hi).1
  have hq2 := quads_small hs2
  go_wp2_with fail
  refine (lines_own w1 ca Fa L hCa).mono ?_
  rintro e w2 ⟨bo, rows, rfl, hO2, hk12⟩
  have hLs2 := hO2.lists (by simp) (fun x hx => by have := hq2 x hx; omega)
  go_wp2_with fail
  refine (copied_calls w2 _ _ _ hLs2 (by simp) (fun x hx => by have := hq2 x hx; omega)).mono ?_
  rintro e w3 ⟨want, rowsW, rfl, hW3, hk23⟩
  have hLw3 := hW3.lists (by simp) (fun x hx => by have := hq2 x hx; omega)
  clear hW3 hLs2
  go_wp2_with fail
  refine (cnew w3).mono ?_
  rintro e w4 ⟨rfl, hC4, hk34⟩
  go_wp2_with fail
  refine (touch_any w4 _ _ _ 4 hC4 (by omega) (by omega)).mono ?_
  rintro e w5 ⟨rfl, hC5, hk45⟩
  generalize cost _ _ = q5
  generalize put _ _ _ = L5 at hC5
  have hF5 : ∀ b, More (fun b => w3.heap.size ≤ b ∧ b < w4.heap.size) w4 w5 b → w3.heap.size ≤ b := fun b hb => hb.elim (fun x => x.1) (fun x => Nat.le_trans hk34.size x.1)
  have hk35 : Keeps (fun _ => False) w3 w5 := hk34.trans hk45 (fun i hi x => by omega)
  have hLw5 := hLw3.keeps hk35 (fun _ _ => id)
  go_wp2_with fail
  refine (laid_calls w5 _ _ _ L5 L want mark hC5 hLw5 (fun b hb x => by have := hF5 b x; omega) hs2 (fun i hi => (hCa.small i hi).2) hG).mono ?_
  rintro e w6 ⟨rfl, F', hC6, hF6, hk56⟩
  have hF6' : ∀ b, F' b → w3.heap.size ≤ b := fun b hb => (hF6 b hb).elim (hF5 b) (fun x => Nat.le_trans hk35.size x)
  have hk36 : Keeps (fun _ => False) w3 w6 := hk35.trans hk56 (fun i hi x => by have := hF5 i x; omega)
  have hLw6 := hLw3.keeps hk36 (fun _ _ => id)
  have hk26 : Keeps (fun _ => False) w2 w6 := hk23.trans hk36 (fun _ _ x => x)
  have hO6 := hO2.same (w' := w6) (Nat.le_refl _) (fun k _ hk => hk26.block k hk id)
  have hBl := hO2.blocks
  have hCa6 := (hCa.keeps hk12 (fun _ _ => id)).keeps hk26 (fun _ _ => id)
  have hz12 := hk12.size
  have hz23 := hk23.size
  have hz26 := hk26.size
  have hBa : ∀ b, Fa b → b < w1.heap.size := hCa.bound
  clear hk34 hk45 hC4 hC5 hF5 hk35 hLw5 hk56 hF6 hCa hO2 hLw3 hk23
  go_wp2_with fail
  refine (spoil_calls w6 w1.heap.size _ _ rows _ hO6 (by simp) (fun x hx => by have := hq2 x hx; omega)).mono ?_
  rintro e w7 ⟨rfl, ys, hyl, hye, hO7, hk67⟩
  have hy2 : ∀ y ∈ ys, y.length ≤ 2147483647 := by
    intro y hy
    obtain ⟨i, hi, e⟩ := List.mem_iff_getElem.1 hy
    have h1 : [L 0, L 1, L 2, L 3][i]? = some ([L 0, L 1, L 2, L 3][i]'(by omega)) := List.getElem?_eq_getElem (by omega)
    have h2 := hye i y _ (by rw [List.getElem?_eq_getElem hi, e]) h1
    have h3 := hq2 _ (List.mem_of_getElem? h1)
    omega
  go_wp2_with fail
  refine (grown_calls w7 w1.heap.size _ ys rows _ hO7 (by have := hk67.size; omega) (by rw [hyl]; simp) hy2).mono ?_
  rintro e w8 ⟨rfl, hk78⟩
  have hk68 : Keeps (Blocks rows) w6 w8 := hk67.trans hk78 (fun _ _ x => x)
  have hLw8 := hLw6.keeps hk68 (fun b hb x => by have := hBl b x; omega)
  have hCa8 := hCa6.keeps hk68 (fun b hb x => by have := hBl b x; have := hBa b hb; omega)
  have hCb8 := hC6.keeps hk68 (fun b hb x => by have := hBl b x; have := hF6' b hb; omega)
  have hk08 : Keeps (fun _ => False) w w8 := ((hk01.trans hk12 (fun _ _ x => x)).trans hk26 (fun _ _ x => x)).trans hk68 (fun i hi x => by have := hBl i x; have := hk01.size; omega)
  have hz38 := hk36.size
  have hz68 := hk68.size
  clear hO6 hO7 hk67 hk78 hk68 hLw6 hCa6 hC6 hk01 hk12 hk26 hk36 hye hy2 hyl
  go_wp2_with fail
  refine (lines_lists w8 ca Fa L hCa8).mono ?_
  rintro e w9 ⟨b1, rfl, hX9, hk89⟩
  have hLw9 := hLw8.keeps hk89 (fun _ _ => id)
  have hCb9 := hCb8.keeps hk89 (fun _ _ => id)
  have hb10 : ∀ b, F' b → b < w9.heap.size := hCb9.bound
  have hz89 := hk89.size
  go_wp2_with fail
  refine (lines_own w9 _ F' L hCb9).mono ?_
  rintro e w10 ⟨b2, rows2, rfl, hY10, hkA⟩
  have hX10 := hX9.keeps hkA (fun _ _ => id)
  have hLw10 := hLw9.keeps hkA (fun _ _ => id)
  have hCb10 := hCb9.keeps hkA (fun _ _ => id)
  have hYl := hY10.lists (by simp) (fun x hx => by have := hq2 x hx; omega)
  clear hLw8 hCb8 hX9 hLw9 hCb9 hCa8
  go_wp2_with fail
  refine (same_calls w10 _ _ _ _ _ hX10 hLw10).mono ?_
  rintro e w11 ⟨rfl, hkB⟩
  have hYl11 := hYl.keeps hkB (fun _ _ => id)
  have hLw11 := hLw10.keeps hkB (fun _ _ => id)
  go_wp2_with fail
  refine (same_calls w11 _ _ _ _ _ hYl11 hLw11).mono ?_
  rintro e w12 ⟨rfl, hkC⟩
  have hkD : Keeps (fun _ => False) w10 w12 := hkB.trans hkC (fun _ _ x => x)
  have hY12 := hY10.same (w' := w12) (Nat.le_refl _) (fun k _ hk => hkD.block k hk id)
  have hX12 := hX10.keeps hkD (fun _ _ => id)
  have hLw12 := hLw10.keeps hkD (fun _ _ => id)
  have hCb12 := hCb10.keeps hkD (fun _ _ => id)
  have hB2 := hY10.blocks
  have hkE : Keeps (fun _ => False) w w12 := ((hk08.trans hk89 (fun _ _ x => x)).trans hkA (fun _ _ x => x)).trans hkD (fun _ _ x => x)
  clear hY10 hYl hYl11 hLw11 hX10 hLw10 hCb10 hkA hkB hkC hkD
  go_wp2_with fail
  refine (spoil_calls w12 w9.heap.size _ _ rows2 _ hY12 (by simp) (fun x hx => by have := hq2 x hx; omega)).mono ?_
  rintro e w13 ⟨rfl, ys2, -, -, -, hkF⟩
  have hX13 := hX12.keeps hkF (fun b hb x => by have := hB2 b x; omega)
  have hLw13 := hLw12.keeps hkF (fun b hb x => by have := hB2 b x; omega)
  have hCb13 := hCb12.keeps hkF (fun b hb x => by have := hB2 b x; have := hb10 b hb; omega)
  have hz08 := hk08.size
  have hkG : Keeps (fun _ => False) w w13 := hkE.trans hkF (fun i hi x => by have := hB2 i x; omega)
  clear hX12 hLw12 hCb12 hY12 hkE hkF
  go_wp2_with fail
  refine (lines_lists w13 _ F' L hCb13).mono ?_
  rintro e w14 ⟨b3, rfl, hZ14, hkH⟩
  have hLw14 := hLw13.keeps hkH (fun _ _ => id)
  have hX14 := hX13.keeps hkH (fun _ _ => id)
  go_wp2_with fail
  refine (same_calls w14 _ _ _ _ _ hZ14 hLw14).mono ?_
  rintro e w15 ⟨rfl, hkI⟩
  have hLw15 := hLw14.keeps hkI (fun _ _ => id)
  have hX15 := hX14.keeps hkI (fun _ _ => id)
  go_wp2_with fail
  refine (same_calls w15 _ _ _ _ _ hX15 hLw15).mono ?_
  rintro e w16 ⟨rfl, hkJ⟩
  have hfin := ((hkG.trans hkH (fun _ _ x => x)).trans hkI (fun _ _ x => x)).trans hkJ (fun _ _ x => x)
  clear hLw15 hX15 hLw14 hX14 hZ14 hX13 hLw13 hCb13
  go_wp2_with fail
  go_ret
  exact ⟨rfl, hfin⟩
end Go.Proofs.Ytigaldgbkeoilaa.Ca
