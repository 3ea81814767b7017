/- cache: a cache in memory as four lists of lines; New, line, Touch and Holds, each walked once. No conditions. -/
import Derived.Test.YtigaldgbkeoilaaShF
namespace Go.Proofs.Ytigaldgbkeoilaa.Ca
open Go.RowKit Go.Proofs.Ytigaldgbkeoilaa.Mem Go.Proofs.Ytigaldgbkeoilaa.Sh
set_option linter.unusedSimpArgs false
set_option linter.unusedVariables false

/-- A list of lines as a shelf holds it. -/
def vs (l : List Int) : List (Int × V) := l.map fun k => (k, ())
theorem vs_keys (l : List Int) : (vs l).map (·.1) = l := by simp [vs, Function.comp_def]
theorem vs_len (l : List Int) : (vs l).length = l.length := by simp [vs]

def four (ss : Nat → Nat) (n : Nat) : Array Value :=
  #[if 0 < n then .pointer (some ⟨ss 0, 0, none⟩) else .pointer none, if 1 < n then .pointer (some ⟨ss 1, 0, none⟩) else .pointer none,
    if 2 < n then .pointer (some ⟨ss 2, 0, none⟩) else .pointer none, if 3 < n then .pointer (some ⟨ss 3, 0, none⟩) else .pointer none]

/-- The cache at c, its first n sets made. -/
structure Part (w : World) (c : Nat) (n : Nat) (ss : Nat → Nat) (G : Nat → Nat → Prop) (L : Nat → List Int) : Prop where
  head : At w c (.cells (four ss n) 55 (0, 0))
  held : ∀ i, i < n → Held w (ss i) (G i) 2 (vs (L i))
  small : ∀ i, i < n → (L i).length ≤ 2
  apart : ∀ i j b, i < n → j < n → i ≠ j → G i b → ¬ G j b
  own : ∀ i b, i < n → G i b → b ≠ c ∧ b < w.heap.size

/-- The cache at c holds L; its blocks are among F. -/
def CacheIs (w : World) (c : Nat) (F : Nat → Prop) (L : Nat → List Int) : Prop :=
  ∃ ss G, Part w c 4 ss G L ∧ F c ∧ (∀ i b, i < 4 → G i b → F b) ∧ (∀ b, F b → b < w.heap.size)

theorem CacheIs.keeps {w w' : World} {c : Nat} {F S : Nat → Prop} {L : Nat → List Int} (h : CacheIs w c F L) (hk : Keeps S w w') (hS : ∀ b, F b → ¬ S b) : CacheIs w' c F L := by
  obtain ⟨ss, G, hp, hc, hF, hB⟩ := h
  exact ⟨ss, G, ⟨hk.get hp.head (hS c hc), fun i hi => (hp.held i hi).keeps hk (fun b hb => hS b (hF i b hi hb)), hp.small, hp.apart, fun i b hi hb => ⟨(hp.own i b hi hb).1, Nat.lt_of_lt_of_le (hp.own i b hi hb).2 hk.size⟩⟩, hc, hF, fun b hb => Nat.lt_of_lt_of_le (hB b hb) hk.size⟩
theorem CacheIs.bound {w : World} {c : Nat} {F : Nat → Prop} {L : Nat → List Int} (h : CacheIs w c F L) : ∀ b, F b → b < w.heap.size := by
  obtain ⟨ss, G, hp, hc, hF, hB⟩ := h; exact hB
theorem CacheIs.mono {w : World} {c : Nat} {F G : Nat → Prop} {L : Nat → List Int} (h : CacheIs w c F L) (hFG : ∀ b, F b → G b) (hG : ∀ b, G b → b < w.heap.size) : CacheIs w c G L := by
  obtain ⟨ss, G', hp, hc, hF, hB⟩ := h
  exact ⟨ss, G', hp, hFG c hc, fun i b hi hb => hFG b (hF i b hi hb), hG⟩

/-- What a set becomes by a touch of a line; what that costs. -/
def touch (l : List Int) (k : Int) : List Int := if k ∈ l then l.filter (· ≠ k) ++ [k] else if l.length = 2 then l.tail ++ [k] else l ++ [k]
def cost (l : List Int) (k : Int) : Int := if k ∈ l then 1 else 7
def put (L : Nat → List Int) (i : Nat) (l : List Int) : Nat → List Int := fun j => if j = i then l else L j

theorem line_yes (a : Int) (w : World) (h0 : 0 ≤ a) (h1 : a < 16384) : Calls Try.prog 25 #[.int .i64 a] w fun e w' => e = .returned (.tuple #[.int .i64 (a / 4), .bool true]) ∧ w = w' := by
  have b0 : decide (0 ≤ a) = true := decide_eq_true h0
  have b1 : decide (a < 16384) = true := decide_eq_true h1
  go_enter Try.func25, Try.ntmps25
  go_wp2
  go_ret2
  exact ⟨rfl, rfl⟩

theorem four_cell (ss : Nat → Nat) (n k : Nat) (h : k < 4) : ∃ v, (four ss n)[k]? = some v := by
  match k, h with
  | 0, _ => exact ⟨_, rfl⟩
  | 1, _ => exact ⟨_, rfl⟩
  | 2, _ => exact ⟨_, rfl⟩
  | 3, _ => exact ⟨_, rfl⟩
theorem four_set (ss : Nat → Nat) (k : Nat) (h : k < 4) : (four ss k).setIfInBounds k (.pointer (some ⟨ss k, 0, none⟩)) = four ss (k + 1) := by
  match k, h with
  | 0, _ => rfl
  | 1, _ => rfl
  | 2, _ => rfl
  | 3, _ => rfl
theorem four_get (ss : Nat → Nat) (k : Nat) (h : k < 4) : (four ss 4)[k]? = some (.pointer (some ⟨ss k, 0, none⟩)) := by
  match k, h with
  | 0, _ => rfl
  | 1, _ => rfl
  | 2, _ => rfl
  | 3, _ => rfl

/-- k sets have been made. -/
structure Making (w : World) (k : Nat) (wr : World) : Prop where
  part : Part wr w.heap.size k (fun i => w.heap.size + 2 + 2 * i) (fun i b => b = w.heap.size + 1 + 2 * i ∨ b = w.heap.size + 2 + 2 * i) (fun _ => [])
  size : wr.heap.size = w.heap.size + 1 + 2 * k
  keeps : Keeps (fun _ => False) w wr

theorem making_step {w wr w1 w2 : World} {k : Nat} (h : Making w k wr) (hk : k < 4)
    (hh : Held w1 (wr.heap.size + 1) (fun b => b = wr.heap.size ∨ b = wr.heap.size + 1) 2 []) (hk1 : Keeps (fun _ => False) wr w1) (hz : w1.heap.size = wr.heap.size + 2)
    (he : Eqv (w1.setCell ⟨w.heap.size, k, none⟩ (.pointer (some ⟨wr.heap.size + 1, 0, none⟩))) w2) : Making w (k + 1) w2 := by
  obtain ⟨⟨hp, hl, hs, ha, ho⟩, hz0, hk0⟩ := h
  have hk2 : Keeps (fun b => b = w.heap.size) w1 w2 := he.keeps ((Keeps.refl _ _).setCell (.inl rfl))
  have e1 : wr.heap.size + 1 = w.heap.size + 2 + 2 * k := by omega
  refine ⟨⟨?_, ?_, fun i hi => by simp, ?_, ?_⟩, ?_, ?_⟩
  · have h1 := (hk1.get hp id).setCell_same k (.pointer (some ⟨wr.heap.size + 1, 0, none⟩))
    rw [e1] at h1 he
    rw [four_set (fun i => w.heap.size + 2 + 2 * i) k hk] at h1
    exact he.at h1
  · intro i hi
    by_cases e : i = k
    · subst e
      have x := hh.keeps hk2 (fun b hb => by omega)
      rw [e1] at x
      exact x.mono (fun b hb => by omega)
    · exact ((hl i (by omega)).keeps hk1 (fun _ _ => id)).keeps hk2 (fun b hb => by have := (ho i b (by omega) hb).1; omega)
  · intro i j b hi hj hij h1 h2; omega
  · intro i b hi hb
    have : w2.heap.size = w1.heap.size := by rw [he.heap, size_setCell]
    omega
  · have : w2.heap.size = w1.heap.size := by rw [he.heap, size_setCell]
    omega
  · refine ((hk0.trans hk1 (fun _ _ x => x)).trans hk2 (fun i hi x => by omega))

set_option maxHeartbeats 1000000 in
theorem cnew (w : World) : Calls Try.prog 9 #[] w fun e w' => e = .returned (.pointer (some ⟨w.heap.size, 0, none⟩)) ∧
    CacheIs w' w.heap.size (fun b => w.heap.size ≤ b ∧ b < w'.heap.size) (fun _ => []) ∧ Keeps (fun _ => False) w w' := by
  go_enter Try.func9, Try.ntmps9
  go_wp2
  go_loopg [5] 4 (fun g i wr => ∃ k : Nat, g = 4 - k ∧ k ≤ 4 ∧ i = .int .i64 k ∧ Making w k wr)
  case atStart =>
    refine ⟨0, rfl, by omega, rfl, ⟨?_, fun i hi => by omega, fun i hi => by omega, fun i j b hi => by omega, fun i b hi => by omega⟩, by simp, (Keeps.refl _ _).alloc _⟩
    exact At.new w _
  case round =>
    obtain ⟨k, rfl, hk, rfl, hM⟩ := hrel
    by_cases hlt : k < 4
    · go_wp2_with fail
      go_region_with (go_at_call 24; refine (hnew _ 2 (by omega) (by omega)).mono ?_; rintro e w1 ⟨rfl, hh1, hk1, hz1⟩; obtain ⟨v, hv⟩ := four_cell (fun i => w.heap.size + 2 + 2 * i) k k hlt; have hc1 := (hk1.get hM.part.head id).cell hv; have hf1 := (hk1.get hM.part.head id).free k)
      all_goals go_wp2
      all_goals
        go_roundg (4 - (k + 1))
        case measure => omega
        case rel => exact ⟨k + 1, rfl, by omega, by go_num, making_step hM hlt hh1 hk1.of_drew hz1 (Eqv.refl _)⟩
    · obtain rfl : k = 4 := by omega
      go_wp2
      go_ret
      have hz := hM.size
      exact ⟨rfl, ⟨_, _, hM.part, ⟨Nat.le_refl _, by omega⟩, fun i b hi hb => by omega, fun b hb => hb.2⟩, hM.keeps⟩
end Go.Proofs.Ytigaldgbkeoilaa.Ca
