/- cache: Holds; the law's at and touched, each walked once. No conditions. -/
import Derived.Test.YtigaldgbkeoilaaCaB
namespace Go.Proofs.Ytigaldgbkeoilaa.Ca
open Go.RowKit Go.Proofs.Ytigaldgbkeoilaa.Mem Go.Proofs.Ytigaldgbkeoilaa.Sh
set_option linter.unusedSimpArgs false
set_option linter.unusedVariables false

set_option maxHeartbeats 1000000 in
theorem holds_any (w : World) (c : Nat) (F : Nat → Prop) (L : Nat → List Int) (a : Int) (h : CacheIs w c F L) (h0 : 0 ≤ a) (h1 : a < 16384) :
    Calls Try.prog 13 #[.pointer (some ⟨c, 0, none⟩), .int .i64 a] w fun e w' => e = .returned (.bool (decide (a / 4 ∈ L (a / 4 % 4).toNat))) ∧ Keeps (fun _ => False) w w' := by
  obtain ⟨ss, G, hp, hc, hF, hB⟩ := h
  have hq : 0 ≤ a / 4 := by omega
  have hi : (a / 4 % 4).toNat < 4 := by omega
  have hcell : w.cell? ⟨c, (a / 4 % 4).toNat, none⟩ = some (.pointer (some ⟨ss (a / 4 % 4).toNat, 0, none⟩)) := hp.head.cell (four_get ss _ hi)
  have hh := hp.held _ hi
  by_cases hin : a / 4 ∈ L (a / 4 % 4).toNat
  · have hm : (a / 4, ()) ∈ vs (L (a / 4 % 4).toNat) := by simpa [vs] using hin
    have hD : Hid (decide (a / 4 ∈ L (a / 4 % 4).toNat) = true) := decide_eq_true hin
    clear hin
    go_enter Try.func13, Try.ntmps13
    go_wp2_with fail
    refine (line_yes a w h0 h1).mono ?_
    rintro e _ ⟨rfl, rfl⟩
    go_wp2_with fail
    refine (hpeek_yes w _ _ _ _ _ _ hh hm).mono ?_
    rintro e w1 ⟨rfl, hk1⟩
    clear hh hcell hm
    go_wp2
    go_ret
    exact ⟨by rw [hD.out]; rfl, hk1.alloc _⟩
  · have hm : a / 4 ∉ (vs (L (a / 4 % 4).toNat)).map (·.1) := by rw [vs_keys]; exact hin
    have hD : Hid (decide (a / 4 ∈ L (a / 4 % 4).toNat) = false) := decide_eq_false hin
    clear hin
    go_enter Try.func13, Try.ntmps13
    go_wp2_with fail
    refine (line_yes a w h0 h1).mono ?_
    rintro e _ ⟨rfl, rfl⟩
    go_wp2_with fail
    refine (hpeek_no w _ _ _ _ _ hh hm).mono ?_
    rintro e w1 ⟨rfl, hk1⟩
    clear hh hcell hm
    go_wp2
    go_ret
    exact ⟨by rw [hD.out]; rfl, hk1.alloc _⟩

theorem at_any (n : Int) (w : World) (h0 : 0 ≤ n) (h1 : n < 65536) : Calls Try.prog 10 #[.int .u16 n] w fun e w' => e = .returned (.int .i64 (n % 16384)) ∧ w = w' := by
  go_enter Try.func10, Try.ntmps10
  go_wp2
  go_ret
  exact ⟨rfl, rfl⟩

/-- n cells from a on, the i-th holds f i. -/
def Cells (w : World) (a : Option Addr) (n : Nat) (f : Nat → Value) : Prop :=
  ∀ i, i < n → ∃ b off, a = some ⟨b, off, none⟩ ∧ w.cell? ⟨b, off + i, none⟩ = some (f i)
theorem lt_of_cell {w : World} {a : Addr} {v : Value} (h : w.cell? a = some v) : a.block < w.heap.size := World.block_lt_of_cell? w a h
theorem Cells.keeps {w w' : World} {a : Option Addr} {n : Nat} {f : Nat → Value} (h : Cells w a n f) (hk : Keeps (fun _ => False) w w') : Cells w' a n f := by
  intro i hi
  obtain ⟨b, off, e, hc⟩ := h i hi
  exact ⟨b, off, e, (World.cell?_of_block (hk.block b (lt_of_cell hc) id)).trans hc⟩

/-- Lines that a memory has, each in its set. -/
def Good (L : Nat → List Int) : Prop := ∀ i, i < 4 → ∀ x ∈ L i, 0 ≤ x ∧ x < 4096 ∧ x % 4 = i

theorem good_nil : Good (fun _ => []) := by intro i _ x hx; simp at hx
theorem touch_mem {l : List Int} {k x : Int} (h : x ∈ touch l k) : x ∈ l ∨ x = k := by
  unfold touch at h
  split at h
  · simp only [List.mem_append, List.mem_filter, List.mem_cons, List.not_mem_nil, or_false] at h
    rcases h with h | h
    · exact .inl h.1
    · exact .inr h
  · split at h
    · simp only [List.mem_append, List.mem_cons, List.not_mem_nil, or_false] at h
      rcases h with h | h
      · exact .inl (List.mem_of_mem_tail h)
      · exact .inr h
    · simpa using h
theorem good_touch {L : Nat → List Int} (h : Good L) {a : Int} (h0 : 0 ≤ a) (h1 : a < 16384) : Good (put L (a / 4 % 4).toNat (touch (L (a / 4 % 4).toNat) (a / 4))) := by
  intro i hi x hx
  by_cases e : i = (a / 4 % 4).toNat
  · rw [← e, put_same] at hx
    rcases touch_mem hx with hx | hx
    · exact h i hi x hx
    · subst hx; omega
  · rw [put_ne _ _ e] at hx; exact h i hi x hx

/-- A cache of the call's own. -/
def Mine (w wr : World) (c : Nat) (L : Nat → List Int) : Prop := ∃ F, CacheIs wr c F L ∧ (∀ b, F b → w.heap.size ≤ b) ∧ Keeps (fun _ => False) w wr

theorem mine_new {w w' : World} (h : CacheIs w' w.heap.size (fun b => w.heap.size ≤ b ∧ b < w'.heap.size) (fun _ => [])) (hk : Keeps (fun _ => False) w w') : Mine w w' w.heap.size (fun _ => []) :=
  ⟨_, h, fun b hb => hb.1, hk⟩

theorem touch_mine (w wr : World) (c : Nat) (L : Nat → List Int) (a : Int) (h : Mine w wr c L) (h0 : 0 ≤ a) (h1 : a < 16384) :
    Calls Try.prog 11 #[.pointer (some ⟨c, 0, none⟩), .int .i64 a] wr fun e w' => e = .returned (.tuple #[.int .i64 (cost (L (a / 4 % 4).toNat) (a / 4)), .int .i64 0]) ∧
      Mine w w' c (put L (a / 4 % 4).toNat (touch (L (a / 4 % 4).toNat) (a / 4))) := by
  obtain ⟨F, hC, hF, hk⟩ := h
  refine (touch_any wr c F L a hC h0 h1).mono ?_
  rintro e w' ⟨rfl, hC', hk'⟩
  exact ⟨rfl, _, hC', fun b hb => hb.elim (hF b) (fun x => Nat.le_trans hk.size x.1), hk.trans hk' (fun i hi x => by have := hF i x; omega)⟩

theorem holds_mine (w wr : World) (c : Nat) (L : Nat → List Int) (a : Int) (h : Mine w wr c L) (h0 : 0 ≤ a) (h1 : a < 16384) :
    Calls Try.prog 13 #[.pointer (some ⟨c, 0, none⟩), .int .i64 a] wr fun e w' => e = .returned (.bool (decide (a / 4 ∈ L (a / 4 % 4).toNat))) ∧ Mine w w' c L := by
  obtain ⟨F, hC, hF, hk⟩ := h
  refine (holds_any wr c F L a hC h0 h1).mono ?_
  rintro e w' ⟨rfl, hk'⟩
  exact ⟨rfl, F, hC.keeps hk' (fun _ _ => id), hF, hk.trans hk' (fun i hi x => x)⟩

def TouchedPost (w : World) (e : Ending) (w' : World) : Prop := ∃ c L, e = .returned (.pointer (some ⟨c, 0, none⟩)) ∧ Mine w w' c L ∧ Good L

set_option maxHeartbeats 1000000 in
theorem touched_any (w : World) (a : Option Addr) (n cap : Nat) (z : Nat → Int) (hc : Cells w a n (fun i => .int .u16 (z i))) (hz : ∀ i, i < n → 0 ≤ z i ∧ z i < 65536) (hn : n ≤ 9223372036854775807) :
    Calls Try.prog 12 #[.slice a n cap] w (TouchedPost w) := by
  go_enter Try.func12, Try.ntmps12
  go_wp2_with fail
  refine (cnew w).mono ?_
  rintro e w0 ⟨rfl, hC, hk0⟩
  have hM := mine_new hC hk0
  clear hC
  go_wp2
  go_loopg [8] n (fun g i wr => ∃ (k : Nat) (L : Nat → List Int), g = n - k ∧ k ≤ n ∧ i = .int .i64 k ∧ Mine w wr w.heap.size L ∧ Good L)
  case atStart => exact ⟨0, _, rfl, by omega, rfl, hM, good_nil⟩
  case round =>
    obtain ⟨k, L, rfl, hk, rfl, hM', hG⟩ := hrel
    by_cases hlt : k < n
    · obtain ⟨F, hC, hF, hK⟩ := id hM'
      obtain ⟨b, off, rfl, hcell⟩ := hc.keeps hK k hlt
      have hb := hz k hlt
      have hm0 : 0 ≤ z k % 16384 := by omega
      go_wp2_with fail
      refine (at_any (z k) wr hb.1 hb.2).mono ?_
      rintro e _ ⟨rfl, rfl⟩
      go_wp2_with fail
      refine (touch_mine w wr _ L _ hM' hm0 (by omega)).mono ?_
      rintro e w1 ⟨rfl, hM1⟩
      have hG1 := good_touch hG hm0 (by omega)
      clear hM' hC hF hK hcell hG hb hm0
      go_wp2
      go_roundg (n - (k + 1))
      case measure => omega
      case rel => exact ⟨k + 1, _, rfl, by omega, by go_num, hM1, hG1⟩
    · go_wp2
      go_ret
      exact ⟨_, _, rfl, hM', hG⟩
end Go.Proofs.Ytigaldgbkeoilaa.Ca
