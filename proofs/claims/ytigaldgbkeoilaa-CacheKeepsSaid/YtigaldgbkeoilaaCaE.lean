/- The law CacheLast, walked once: it returns true, and nothing that was there turns. No conditions. -/
import Derived.Test.YtigaldgbkeoilaaCaD
namespace Go.Proofs.Ytigaldgbkeoilaa.Ca
open Go.RowKit Go.Proofs.Ytigaldgbkeoilaa.Mem Go.Proofs.Ytigaldgbkeoilaa.Sh
set_option linter.unusedSimpArgs false
set_option linter.unusedVariables false

theorem touch_last (l : List Int) (k : Int) : ∃ xs, touch l k = xs ++ [k] := by
  unfold touch; split
  · exact ⟨_, rfl⟩
  · split <;> exact ⟨_, rfl⟩
theorem mem_touch (l : List Int) (k : Int) : k ∈ touch l k := by obtain ⟨xs, e⟩ := touch_last l k; rw [e]; simp

/-- A line goes behind two others of its set. -/
theorem gone {l : List Int} {k0 k1 k2 : Int} (h : l.length ≤ 2) (hn : l.Nodup) (h01 : k0 ≠ k1) (h02 : k0 ≠ k2) (h12 : k1 ≠ k2) : k0 ∉ touch (touch l k1) k2 := by
  have h1 := touch_len (k := k1) h hn
  obtain ⟨xs, e1⟩ := touch_last l k1
  rw [e1] at h1 ⊢
  match xs, h1 with
  | [], _ =>
    have : touch ([] ++ [k1]) k2 = [k1, k2] := by simp [touch, h12, Ne.symm h12]
    rw [this]; simp [h01, h02]
  | [y], _ =>
    by_cases hy : k2 = y
    · subst hy
      have : touch ([k2] ++ [k1]) k2 = [k1, k2] := by simp [touch, h12]
      rw [this]; simp [h01, h02]
    · have : touch ([y] ++ [k1]) k2 = [k1, k2] := by simp [touch, hy, Ne.symm h12]
      rw [this]; simp [h01, h02]
  | _ :: _ :: _, h1 => simp at h1

theorem Mine.small {w wr : World} {c : Nat} {L : Nat → List Int} (h : Mine w wr c L) {i : Nat} (hi : i < 4) : (L i).length ≤ 2 ∧ (L i).Nodup := by
  obtain ⟨F, ⟨ss, G, hp, -, -, -⟩, -, -⟩ := h
  exact ⟨hp.small i hi, hp.nodup hi⟩
theorem Mine.keeps {w wr : World} {c : Nat} {L : Nat → List Int} (h : Mine w wr c L) : Keeps (fun _ => False) w wr := by obtain ⟨F, -, -, h⟩ := h; exact h

def kicks (L : Nat → List Int) (i : Nat) (o : Nat → Int) : Nat → Nat → List Int
  | 0 => L
  | j + 1 => put (kicks L i o j) i (touch (kicks L i o j i) (o j))

theorem kicks_two (L : Nat → List Int) (i : Nat) (o : Nat → Int) : kicks L i o 2 i = touch (touch (L i) (o 0)) (o 1) := by simp [kicks, put_same]

/-- The lines that are touched behind a line of the number q. -/
def other (x st : Int) (j : Nat) : Int := (x / 4 / 4 + st + (j + 1) - 1) % 1024 * 4 + x / 4 % 4

theorem Mine.of_eq {w wr : World} {c : Nat} {L L' : Nat → List Int} (h : Mine w wr c L) (e : L = L') : Mine w wr c L' := e ▸ h

set_option maxHeartbeats 4000000 in
theorem cacheLast_calls (w : World) (a : Option Addr) (n cap : Nat) (z : Nat → Int) (x nx : Int) (hc : Cells w a n (fun i => .int .u16 (z i))) (hz : ∀ i, i < n → 0 ≤ z i ∧ z i < 65536) (hn : n ≤ 9223372036854775807)
    (hx0 : 0 ≤ x) (hx1 : x < 65536) (hn0 : 0 ≤ nx) (hn1 : nx < 65536) :
    Calls Try.prog 5 #[.slice a n cap, .int .u16 x, .int .u16 nx] w fun e w' => e = .returned (.bool true) ∧ Keeps (fun _ => False) w w' := by
  go_enter Try.func5, Try.ntmps5
  go_wp2_with fail
  refine (touched_any w a n cap z hc hz hn).mono ?_
  rintro e w0 ⟨c, L, rfl, hM, -⟩
  clear hc hz
  have hm0 : 0 ≤ x % 16384 := by omega
  have hm1 : x % 16384 < 16384 := by omega
  go_wp2_with fail
  refine (at_any x w0 hx0 hx1).mono ?_
  rintro e _ ⟨rfl, rfl⟩
  obtain ⟨y, hy⟩ : ∃ y, x % 16384 = y := ⟨_, rfl⟩
  rw [hy] at hm0 hm1 ⊢
  have HY := Lib.hid hy
  clear hy
  go_wp2_with fail
  refine (touch_mine w w0 c L y hM hm0 hm1).mono ?_
  rintro e w1 ⟨rfl, hM1⟩
  clear hM
  have hin1 := mem_touch (L (y / 4 % 4).toNat) (y / 4)
  generalize touch (L (y / 4 % 4).toNat) (y / 4) = l1 at hM1 hin1
  generalize cost (L (y / 4 % 4).toNat) (y / 4) = q1
  generalize hL1 : put L (y / 4 % 4).toNat l1 = L1 at hM1
  have e1 : L1 (y / 4 % 4).toNat = l1 := by rw [← hL1, put_same]
  have HI1 : Hid (y / 4 ∈ L1 (y / 4 % 4).toNat) := by rw [e1]; exact hin1
  clear hL1 e1 hin1
  go_wp2_with fail
  refine (at_any x w1 hx0 hx1).mono ?_
  rintro e _ ⟨rfl, rfl⟩
  rw [HY.out]
  go_wp2_with fail
  refine (holds_mine w w1 c L1 y hM1 hm0 hm1).mono ?_
  rintro e w2 ⟨rfl, hM2⟩
  rw [decide_eq_true HI1.out]
  clear hM1
  go_wp2_with fail
  refine (at_any x w2 hx0 hx1).mono ?_
  rintro e _ ⟨rfl, rfl⟩
  rw [HY.out]
  have hy4 : 0 ≤ y / 4 := by omega
  have hy4' : y / 4 < 4096 := by omega
  have e4 : y / 4 * 4 / 4 = y / 4 := by omega
  have hcost : cost (L1 (y / 4 * 4 / 4 % 4).toNat) (y / 4 * 4 / 4) = 1 := by rw [e4]; unfold cost; rw [if_pos HI1.out]
  have HE4 := Lib.hid e4
  have HC := Lib.hid hcost
  clear e4 hcost
  go_wp2_with fail
  refine (touch_mine w w2 c L1 (y / 4 * 4) hM2 (by omega) (by omega)).mono ?_
  rintro e w3 ⟨rfl, hM3⟩
  rw [HC.out]
  clear hM2
  generalize put L1 (y / 4 * 4 / 4 % 4).toNat (touch (L1 (y / 4 * 4 / 4 % 4).toNat) (y / 4 * 4 / 4)) = L3 at hM3
  go_wp2_with fail
  refine (at_any x w3 hx0 hx1).mono ?_
  rintro e _ ⟨rfl, rfl⟩
  rw [HY.out]
  have hs0 : 0 ≤ nx % 1022 := by omega
  have hs1 : nx % 1022 < 1022 := by omega
  go_wp2
  go_loopg [13] 2 (fun g i wr => ∃ j : Nat, g = 2 - j ∧ j ≤ 2 ∧ i = .int .i64 (j + 1 : Nat) ∧ Mine w wr c (kicks L3 (y / 4 % 4).toNat (other y (1 + nx % 1022)) j))
  case atStart => exact ⟨0, rfl, by omega, rfl, hM3⟩
  case round =>
    obtain ⟨j, rfl, hj, rfl, hMj⟩ := hrel
    by_cases hlt : j < 2
    · have ho0 : 0 ≤ other y (1 + nx % 1022) j := by unfold other; omega
      have ho1 : other y (1 + nx % 1022) j < 4096 := by unfold other; omega
      have ho4 : (other y (1 + nx % 1022) j * 4 / 4) = other y (1 + nx % 1022) j := by omega
      have hoi : (other y (1 + nx % 1022) j % 4).toNat = (y / 4 % 4).toNat := by unfold other; omega
      have H4 := Lib.hid ho4
      have HO := Lib.hid hoi
      clear ho4 hoi
      go_wp2_with fail
      refine (touch_mine w wr c _ (other y (1 + nx % 1022) j * 4) hMj (by omega) (by omega)).mono ?_
      rintro e w5 ⟨rfl, hM5⟩
      rw [H4.out, HO.out] at hM5
      clear hMj ho0 ho1
      generalize cost _ _ = q5
      go_wp2
      go_roundg (2 - (j + 1))
      case measure => omega
      case rel => exact ⟨j + 1, rfl, by omega, by go_num, hM5⟩
    · obtain rfl : j = 2 := by omega
      have hsm := hM3.small (i := (y / 4 % 4).toNat) (by omega)
      have hgone : Hid (y / 4 ∉ kicks L3 (y / 4 % 4).toNat (other y (1 + nx % 1022)) 2 (y / 4 % 4).toNat) := by
        rw [kicks_two]
        exact gone hsm.1 hsm.2 (by unfold other; omega) (by unfold other; omega) (by unfold other; omega)
      clear hM3 hsm
      generalize kicks L3 (y / 4 % 4).toNat (other y (1 + nx % 1022)) 2 = L6 at hMj hgone
      go_wp2_with fail
      refine (at_any x wr hx0 hx1).mono ?_
      rintro e _ ⟨rfl, rfl⟩
      rw [HY.out]
      go_wp2_with fail
      refine (holds_mine w wr c L6 y hMj hm0 hm1).mono ?_
      rintro e w7 ⟨rfl, hM7⟩
      rw [decide_eq_false hgone.out]
      clear hMj
      go_wp2_with fail
      refine (at_any x w7 hx0 hx1).mono ?_
      rintro e _ ⟨rfl, rfl⟩
      rw [HY.out]
      have hc7 : cost (L6 (y / 4 % 4).toNat) (y / 4) = 7 := by unfold cost; rw [if_neg hgone.out]
      have HC7 := Lib.hid hc7
      clear hc7
      go_wp2_with fail
      refine (touch_mine w w7 c L6 y hM7 hm0 hm1).mono ?_
      rintro e w8 ⟨rfl, hM8⟩
      rw [HC7.out]
      have hk := hM8.keeps
      clear hM7 hM8
      go_wp2
      go_ret
      exact ⟨rfl, hk⟩
end Go.Proofs.Ytigaldgbkeoilaa.Ca
