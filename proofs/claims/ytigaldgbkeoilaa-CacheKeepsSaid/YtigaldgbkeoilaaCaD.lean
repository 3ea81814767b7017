/- The laws CacheNames, CacheSets and CacheLast, each walked once: they return true, and nothing that was there turns. No conditions. -/
import Derived.Test.YtigaldgbkeoilaaCaC
namespace Go.Proofs.Ytigaldgbkeoilaa.Ca
open Go.RowKit Go.Proofs.Ytigaldgbkeoilaa.Mem Go.Proofs.Ytigaldgbkeoilaa.Sh
set_option linter.unusedSimpArgs false
set_option linter.unusedVariables false

theorem cacheNames_calls (w : World) : Calls Try.prog 4 #[] w fun e w' => e = .returned (.bool true) ∧ Keeps (fun _ => False) w w' := by
  go_enter Try.func4, Try.ntmps4
  go_wp2_with fail
  refine (cnew w).mono ?_
  rintro e w0 ⟨rfl, hC, hk0⟩
  have hM := mine_new hC hk0
  clear hC hk0
  go_wp2_with fail
  refine (touch_mine w w0 _ _ 5 hM (by omega) (by omega)).mono ?_
  rintro e w1 ⟨rfl, ⟨F, -, -, hk⟩⟩
  have hcost : cost ([] : List Int) (5 / 4) = 7 := by decide
  simp only [hcost]
  go_wp2
  go_ret
  exact ⟨rfl, hk⟩

/-- Two caches of the call's own, apart. -/
def Two (w wr : World) (c c' : Nat) (L L' : Nat → List Int) : Prop :=
  ∃ F F', CacheIs wr c F L ∧ CacheIs wr c' F' L' ∧ (∀ b, F b → ¬ F' b) ∧ (∀ b, F b → w.heap.size ≤ b) ∧ (∀ b, F' b → w.heap.size ≤ b) ∧ Keeps (fun _ => False) w wr

theorem Two.swap {w wr : World} {c c' : Nat} {L L' : Nat → List Int} (h : Two w wr c c' L L') : Two w wr c' c L' L := by
  obtain ⟨F, F', h1, h2, h3, h4, h5, h6⟩ := h
  exact ⟨F', F, h2, h1, fun b hb hb' => h3 b hb' hb, h5, h4, h6⟩
theorem Two.keeps {w wr : World} {c c' : Nat} {L L' : Nat → List Int} (h : Two w wr c c' L L') : Keeps (fun _ => False) w wr := by
  obtain ⟨F, F', h1, h2, h3, h4, h5, h6⟩ := h; exact h6
theorem two_new {w w0 w1 : World} {L : Nat → List Int} {c : Nat} (hM : Mine w w0 c L) (h1 : CacheIs w1 w0.heap.size (fun b => w0.heap.size ≤ b ∧ b < w1.heap.size) (fun _ => [])) (hk1 : Keeps (fun _ => False) w0 w1) :
    Two w w1 c w0.heap.size L (fun _ => []) := by
  obtain ⟨F, h, hF, hk⟩ := hM
  refine ⟨F, _, h.keeps hk1 (fun _ _ => id), h1, fun b hb x => ?_, hF, fun b hb => Nat.le_trans hk.size hb.1, hk.trans hk1 (fun _ _ x => x)⟩
  have := h.bound b hb; omega
theorem Two.turn {w wr w' : World} {c c' : Nat} {L L' L1 : Nat → List Int} {F F' : Nat → Prop} (h1 : CacheIs wr c F L) (h2 : CacheIs wr c' F' L') (h3 : ∀ b, F b → ¬ F' b) (h4 : ∀ b, F b → w.heap.size ≤ b) (h5 : ∀ b, F' b → w.heap.size ≤ b)
    (h6 : Keeps (fun _ => False) w wr) (h : CacheIs w' c (More F wr w') L1) (hk : Keeps F wr w') : Two w w' c c' L1 L' := by
  refine ⟨_, F', h, h2.keeps hk (fun b hb hb' => h3 b hb' hb), ?_, fun b hb => hb.elim (h4 b) (fun x => Nat.le_trans h6.size x.1), h5, h6.trans hk (fun i hi x => by have := h4 i x; omega)⟩
  intro b hb hb'
  rcases hb with hb | hb
  · exact h3 b hb hb'
  · have := h2.bound b hb'; omega

theorem touch_two (w wr : World) (c c' : Nat) (L L' : Nat → List Int) (a : Int) (h : Two w wr c c' L L') (h0 : 0 ≤ a) (h1 : a < 16384) :
    Calls Try.prog 11 #[.pointer (some ⟨c, 0, none⟩), .int .i64 a] wr fun e w' => e = .returned (.tuple #[.int .i64 (cost (L (a / 4 % 4).toNat) (a / 4)), .int .i64 0]) ∧
      Two w w' c c' (put L (a / 4 % 4).toNat (touch (L (a / 4 % 4).toNat) (a / 4))) L' := by
  obtain ⟨F, F', h1', h2, h3, h4, h5, h6⟩ := h
  refine (touch_any wr c F L a h1' h0 h1).mono ?_
  rintro e w' ⟨rfl, hC', hk'⟩
  exact ⟨rfl, Two.turn h1' h2 h3 h4 h5 h6 hC' hk'⟩

theorem cost_two (l : List Int) (k : Int) : ∃ q, cost l k = q ∧ (q = 1 ∨ q = 7) ∧ (l = [] → q = 7) := by
  refine ⟨_, rfl, ?_, ?_⟩
  · unfold cost; split <;> simp
  · rintro rfl; simp [cost]

set_option maxHeartbeats 2000000 in
theorem cacheSets_calls (w : World) (a : Option Addr) (n cap : Nat) (z : Nat → Int) (s : Int) (hc : Cells w a n (fun i => .int .u16 (z i))) (hz : ∀ i, i < n → 0 ≤ z i ∧ z i < 65536) (hn : n ≤ 9223372036854775807) (hs0 : 0 ≤ s) (hs1 : s < 256) :
    Calls Try.prog 3 #[.slice a n cap, .int .u8 s] w fun e w' => e = .returned (.bool true) ∧ Keeps (fun _ => False) w w' := by
  go_enter Try.func3, Try.ntmps3
  go_wp2_with fail
  refine (cnew w).mono ?_
  rintro e w0 ⟨rfl, hC, hk0⟩
  have hM := mine_new hC hk0
  clear hC hk0
  go_wp2_with fail
  refine (cnew w0).mono ?_
  rintro e w1 ⟨rfl, hC1, hk1⟩
  have hT := two_new hM hC1 hk1
  generalize w0.heap.size = c' at hT
  clear hM hC1 hk1
  go_wp2
  go_loopg [8, 22] n (fun g f i wr => ∃ (k : Nat) (fb : Bool) (L L' : Nat → List Int), g = n - k ∧ k ≤ n ∧ i = .int .i64 k ∧ f = .bool fb ∧ Two w wr w.heap.size c' L L' ∧ L (s % 4).toNat = L' (s % 4).toNat ∧ (fb = true → L' (s % 4).toNat = []))
  case atStart => exact ⟨0, true, _, _, rfl, by omega, rfl, rfl, hT, rfl, fun _ => rfl⟩
  case round =>
    obtain ⟨k, fb, L, L', rfl, hk, rfl, rfl, hT', hLL, hfb⟩ := hrel
    have HL := Lib.hid hLL
    have HF := Lib.hid hfb
    clear hLL hfb
    by_cases hlt : k < n
    · obtain ⟨b, off, rfl, hcell⟩ := hc.keeps hT'.keeps k hlt
      have hb := hz k hlt
      have hm0 : 0 ≤ z k % 16384 := by omega
      have hm1 : z k % 16384 < 16384 := by omega
      go_wp2_with fail
      refine (at_any (z k) wr hb.1 hb.2).mono ?_
      rintro e _ ⟨rfl, rfl⟩
      generalize z k % 16384 = x at *
      obtain ⟨q, hq, hq17, hq7⟩ := cost_two (L (x / 4 % 4).toNat) (x / 4)
      go_wp2_with fail
      refine (touch_two w wr _ _ L L' x hT' hm0 hm1).mono ?_
      rintro e w2 ⟨rfl, hT2⟩
      rw [hq]
      have HQ := Lib.hid hq
      have HQ7 := Lib.hid hq7
      clear hT' hcell hb hq hq7
      have hx4 : 0 ≤ x / 4 := by omega
      by_cases hset : x / 4 % 4 = s % 4
      · have hsetB : (x / 4 % 4 != s % 4) = false := by simp [hset]
        have HS := Lib.hid hset
        clear hset
        have hi : (x / 4 % 4).toNat = (s % 4).toNat := by rw [HS.out]
        have hq' : Hid (cost (L' (x / 4 % 4).toNat) (x / 4) = q) := by rw [hi, ← HL.out, ← hi]; exact HQ.out
        have hfq : fb = true → q = 7 := fun e => HQ7.out (by rw [hi, HL.out]; exact HF.out e)
        have HI := Lib.hid hi
        clear hi
        have key : ∀ w3, Two w w3 c' w.heap.size (put L' (x / 4 % 4).toNat (touch (L' (x / 4 % 4).toNat) (x / 4))) (put L (x / 4 % 4).toNat (touch (L (x / 4 % 4).toNat) (x / 4))) →
            ∃ (k' : Nat) (fb' : Bool) (M M' : Nat → List Int), n - (k + 1) = n - k' ∧ k' ≤ n ∧ (.int .i64 (k + 1) : Value) = .int .i64 k' ∧ (.bool false : Value) = .bool fb' ∧ Two w w3 w.heap.size c' M M' ∧ M (s % 4).toNat = M' (s % 4).toNat ∧ (fb' = true → M' (s % 4).toNat = []) := by
          intro w3 h3
          refine ⟨k + 1, false, _, _, rfl, by omega, by go_num, rfl, h3.swap, ?_, fun e => by cases e⟩
          rw [HI.out, put_same, put_same, HL.out]
        have KEY := Lib.hid key
        clear key
        cases fb with
        | true =>
          obtain rfl := hfq rfl
          clear hfq hq17
          go_wp2_with fail
          refine (touch_two w w2 _ _ L' _ x hT2.swap hm0 hm1).mono ?_
          rintro e w3 ⟨rfl, hT3⟩
          rw [hq'.out]
          clear hT2
          go_wp2
          go_roundg (n - (k + 1))
          case measure => omega
          case rel => exact KEY.out w3 hT3
        | false =>
          clear hfq
          rcases hq17 with rfl | rfl
          all_goals
            go_wp2_with fail
            refine (touch_two w w2 _ _ L' _ x hT2.swap hm0 hm1).mono ?_
            rintro e w3 ⟨rfl, hT3⟩
            rw [hq'.out]
            clear hT2
            go_wp2
            go_roundg (n - (k + 1))
            case measure => omega
            case rel => exact KEY.out w3 hT3
      · have hsetB : (x / 4 % 4 != s % 4) = true := by simpa using hset
        have HS := Lib.hid hset
        clear hset
        rcases hq17 with rfl | rfl
        all_goals
          go_wp2
          go_roundg (n - (k + 1))
          case measure => omega
          case rel => 
            refine ⟨k + 1, fb, _, _, rfl, by omega, by go_num, rfl, hT2, ?_, HF.out⟩
            rw [put_ne _ _ (by have := HS.out; omega)]; exact HL.out
    · go_wp2
      go_ret
      exact ⟨rfl, hT'.keeps⟩
end Go.Proofs.Ytigaldgbkeoilaa.Ca
