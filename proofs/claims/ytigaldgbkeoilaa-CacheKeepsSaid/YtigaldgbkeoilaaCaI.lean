/- CacheAgain, walked once. Conditions: the cells of the lists, as a row gives them. -/
import Derived.Test.YtigaldgbkeoilaaCaH
import Derived.Test.YtigaldgbkeoilaaCaD
import Derived.Test.YtigaldgbkeoilaaCaE
namespace Go.Proofs.Ytigaldgbkeoilaa.Ca
open Go.RowKit Go.Proofs.Ytigaldgbkeoilaa.Mem Go.Proofs.Ytigaldgbkeoilaa.Sh Go.Proofs.Ytigaldgbkeoilaa.Rng
set_option linter.unusedSimpArgs false
set_option linter.unusedVariables false

theorem CacheIs.small {w : World} {c : Nat} {F : Nat → Prop} {L : Nat → List Int} (h : CacheIs w c F L) (i : Nat) (hi : i < 4) : (L i).length ≤ 2 ∧ (L i).Nodup := by
  obtain ⟨ss, G, hp, -, -, -⟩ := h; exact ⟨hp.small i hi, hp.nodup hi⟩

def LinesPost (w : World) (L : Nat → List Int) (e : Ending) (w' : World) : Prop :=
  ∃ bo, e = .returned (.slice (some ⟨bo, 0, none⟩) 4 4) ∧ ListsAt w' (fun b => w.heap.size ≤ b ∧ b < w'.heap.size) (.slice (some ⟨bo, 0, none⟩) 4 4) [L 0, L 1, L 2, L 3] ∧ Keeps (fun _ => False) w w'

theorem lines_lists (w : World) (c : Nat) (F : Nat → Prop) (L : Nat → List Int) (h : CacheIs w c F L) : Calls Try.prog 14 #[.pointer (some ⟨c, 0, none⟩)] w (LinesPost w L) := by
  refine (lines_calls w c F L h).mono ?_
  rintro e w' ⟨bo, cs, rfl, hbo, hfl, hk⟩
  exact ⟨bo, rfl, hfl.lists hbo (fun i hi => by have := (h.small i hi).1; omega), hk⟩

/-- What a cache is restored of, and that cache, behind it. -/
theorem two_restored {w w1 w2 w4 w5 : World} {ca cb : Nat} {Fa F4 : Nat → Prop} {L : Nat → List Int} (hw : Keeps (fun _ => False) w w1) (ha : CacheIs w1 ca Fa L) (hFa : ∀ b, Fa b → w.heap.size ≤ b) (h12 : Keeps (fun _ => False) w1 w2)
    (h24 : Keeps (fun _ => False) w2 w4) (hF4 : ∀ b, F4 b → w2.heap.size ≤ b) (h45 : Filling w4 w5 cb F4 L) : Two w w5 ca cb L L := by
  obtain ⟨F', h5, hF', hk⟩ := h45
  have hz := h24.size
  have h25 : Keeps (fun _ => False) w2 w5 := h24.trans hk (fun i hi x => by have := hF4 i x; omega)
  have h15 : Keeps (fun _ => False) w1 w5 := h12.trans h25 (fun _ _ x => x)
  have hz1 := h12.size
  have hz0 := hw.size
  have hge : ∀ b, F' b → w2.heap.size ≤ b := fun b hb => (hF' b hb).elim (hF4 b) (fun x => by omega)
  exact ⟨Fa, F', ha.keeps h15 (fun _ _ => id), h5, fun b hb hb' => by have := ha.bound b hb; have := hge b hb'; omega, hFa, fun b hb => by have := hge b hb; omega, hw.trans h15 (fun _ _ x => x)⟩

set_option maxHeartbeats 2000000 in
theorem cacheAgain_calls (w : World) (a : Option Addr) (n cap : Nat) (z : Nat → Int) (a' : Option Addr) (n' cap' : Nat) (z' : Nat → Int)
    (hc : Cells w a n (fun i => .int .u16 (z i))) (hz : ∀ i, i < n → 0 ≤ z i ∧ z i < 65536) (hn : n ≤ 9223372036854775807)
    (hc' : Cells w a' n' (fun i => .int .u16 (z' i))) (hz' : ∀ i, i < n' → 0 ≤ z' i ∧ z' i < 65536) (hn' : n' ≤ 9223372036854775807) :
    Calls Try.prog 6 #[.slice a n cap, .slice a' n' cap'] w fun e w' => e = .returned (.bool true) ∧ Keeps (fun _ => False) w w' := by
  go_enter Try.func6, Try.ntmps6
  go_wp2_with fail
  refine (touched_any w a n cap z hc hz hn).mono ?_
  rintro e w1 ⟨ca, L, rfl, ⟨Fa, hCa, hFa, hk1⟩, hG⟩
  go_wp2_with fail
  refine (lines_lists w1 ca Fa L hCa).mono ?_
  rintro e w2 ⟨bo, rfl, hl2, hk2⟩
  go_wp2_with fail
  refine (cnew w2).mono ?_
  rintro e w3 ⟨rfl, hC3, hk3⟩
  go_wp2_with fail
  refine (touch_any w3 _ _ _ 0 hC3 (by omega) (by omega)).mono ?_
  rintro e w4 ⟨rfl, hC4, hk4⟩
  generalize cost _ _ = q4
  generalize put _ _ _ = L4 at hC4
  have hF4 : ∀ b, More (fun b => w2.heap.size ≤ b ∧ b < w3.heap.size) w3 w4 b → w2.heap.size ≤ b := fun b hb => hb.elim (fun x => x.1) (fun x => Nat.le_trans hk3.size x.1)
  have h24 : Keeps (fun _ => False) w2 w4 := hk3.trans hk4 (fun i hi x => by omega)
  have hl4 := hl2.keeps h24 (fun _ _ => id)
  go_wp2_with fail
  refine (restore_yes w4 _ _ _ L4 L _ hC4 hl4 (fun b hb x => by have := hF4 b x; omega) (fun i hi => (hCa.small i hi).1) (fun i hi => (hCa.small i hi).2) hG).mono ?_
  rintro e w5 ⟨rfl, hS⟩
  have hT := two_restored hk1 hCa hFa hk2 h24 hF4 hS
  generalize w2.heap.size = cb at hT
  clear hk1 hCa hFa hk2 h24 hF4 hS hl4 hl2 hC3 hk3 hC4 hk4 hG
  go_wp2
  go_loopg [31] n' (fun g i wr => ∃ (k : Nat) (L : Nat → List Int), g = n' - k ∧ k ≤ n' ∧ i = .int .i64 k ∧ Two w wr ca cb L L)
  case atStart => exact ⟨0, L, rfl, by omega, rfl, hT⟩
  case round =>
    obtain ⟨k, L, rfl, hk, rfl, hT'⟩ := hrel
    by_cases hlt : k < n'
    · obtain ⟨b, off, rfl, hcell⟩ := hc'.keeps hT'.keeps k hlt
      have hb := hz' k hlt
      have hm0 : 0 ≤ z' k % 16384 := by omega
      have hm1 : z' k % 16384 < 16384 := by omega
      go_wp2_with fail
      refine (at_any (z' k) wr hb.1 hb.2).mono ?_
      rintro e _ ⟨rfl, rfl⟩
      go_wp2_with fail
      refine (touch_two w wr _ _ L L _ hT' hm0 hm1).mono ?_
      rintro e w6 ⟨rfl, hT6⟩
      obtain ⟨b2, off2, e2, hcell2⟩ := hc'.keeps hT6.keeps k hlt
      cases e2
      clear hcell hT'
      generalize hq : cost (L (z' k % 16384 / 4 % 4).toNat) (z' k % 16384 / 4) = q
      have HQ := Lib.hid hq
      clear hq
      go_wp2_with fail
      refine (at_any (z' k) w6 hb.1 hb.2).mono ?_
      rintro e _ ⟨rfl, rfl⟩
      go_wp2_with fail
      refine (touch_two w w6 _ _ L _ _ hT6.swap hm0 hm1).mono ?_
      rintro e w7 ⟨rfl, hT7⟩
      rw [HQ.out]
      have hT8 := hT7.swap
      have hqq : (q != q) = false := by simp
      clear hT6 hT7 hcell2 HQ
      generalize put L _ _ = L' at hT8
      go_wp2
      go_roundg (n' - (k + 1))
      case measure => omega
      case rel => exact ⟨k + 1, L', rfl, by omega, rfl, hT8⟩
    · have hno : ¬ (k : Int) < (n' : Int) := by omega
      obtain ⟨F, F', hA, hB, hFF, hF, hF', hK⟩ := hT'
      go_wp2_with fail
      refine (lines_lists wr ca F L hA).mono ?_
      rintro e w6 ⟨b1, rfl, hl6, hk6⟩
      go_wp2_with fail
      refine (lines_lists w6 cb F' L (hB.keeps hk6 (fun _ _ => id))).mono ?_
      rintro e w7 ⟨b2, rfl, hl7, hk7⟩
      have hl67 := hl6.keeps hk7 (fun _ _ => id)
      go_wp2_with fail
      refine (same_calls w7 _ _ _ _ _ hl67 hl7).mono ?_
      rintro e w8 ⟨rfl, hk8⟩
      have hfin := ((hK.trans hk6 (fun _ _ x => x)).trans hk7 (fun _ _ x => x)).trans hk8 (fun _ _ x => x)
      clear hl6 hl7 hl67 hk6 hk7 hk8 hA hB
      go_wp2
      go_ret
      exact ⟨rfl, hfin⟩
end Go.Proofs.Ytigaldgbkeoilaa.Ca
