/- layout: where all lies, in plain numbers; the counter. No conditions. -/
import Derived.Test.YtnjhekfgmbpmlaaDoorLg
import Derived.Test.YtnjhekfgmbpmlaaDoorEngG
import Derived.WalkKit
namespace Go.Proofs.YtnjhekfgmbpmlaaDoor.Ly
open Go Go.RowKit Go.Proofs.YtnjhekfgmbpmlaaDoor.Eng Go.Proofs.YtnjhekfgmbpmlaaDoor.Mem
set_option linter.unusedSimpArgs false
set_option linter.unusedVariables false
set_option maxRecDepth 100000

def pAt (c : TConfig) (i : Nat) : Int := c.Kernel * 16 + 2 + 24 * (i : Int)
def placeAt (c : TConfig) (i : Nat) : TPartitionPlace := ⟨pAt c i, pAt c i + 2, pAt c i + 2 + 17, 0, ⟨none, 0, []⟩⟩
def placesUp (c : TConfig) (i : Nat) : List TPartitionPlace := (List.range i).map (placeAt c)
theorem placesUp_succ {c : TConfig} {i : Nat} : placesUp c (i + 1) = placesUp c i ++ [placeAt c i] := by unfold placesUp; rw [List.range_succ, List.map_append]; rfl
theorem placesUp_len {c : TConfig} {i : Nat} : (placesUp c i).length = i := by simp [placesUp]
theorem gd_map {β : Type} [Inhabited β] {f : Nat → β} {n i : Nat} (h : i < n) : gd ((List.range n).map f) i = f i := by
  rw [gd_eq (by simpa using h)]; simp
def nDest (c : TConfig) (k : Nat) : Nat := (endsOf c (k : Int) false).length
def cLen (c : TConfig) (k : Nat) : Int := 2 + stageOf (gd c.Channels.xs k) + (nDest c k : Int) * portOf (gd c.Channels.xs k)
def cAt (c : TConfig) : Nat → Int
  | 0 => pAt c c.Partitions.xs.length
  | k + 1 => cAt c k + cLen c k
def dAt (c : TConfig) (k j : Nat) : Int := cAt c k + 2 + stageOf (gd c.Channels.xs k) + (j : Int) * portOf (gd c.Channels.xs k)
def destAt (c : TConfig) (k d : Nat) : TDestPlace := ⟨(gd (endsOf c (k : Int) false) d).partition, (gd (endsOf c (k : Int) false) d).port, dAt c k d⟩
def destsUp (c : TConfig) (k j : Nat) : List TDestPlace := (List.range j).map (destAt c k)
theorem destsUp_succ {c : TConfig} {k j : Nat} : destsUp c k (j + 1) = destsUp c k j ++ [destAt c k j] := by unfold destsUp; rw [List.range_succ, List.map_append]; rfl
theorem destsUp_len {c : TConfig} {k j : Nat} : (destsUp c k j).length = j := by simp [destsUp]
theorem dAt_succ {c : TConfig} {k j : Nat} : dAt c k (j + 1) = dAt c k j + portOf (gd c.Channels.xs k) := by
  unfold dAt; rw [show ((j + 1 : Nat) : Int) = (j : Int) + 1 from by omega, Int.add_mul]; omega
theorem cAt_succ {c : TConfig} {k : Nat} : cAt c (k + 1) = dAt c k (nDest c k) := by unfold dAt; rw [cAt, cLen]; omega
def chanAt (c : TConfig) (k : Nat) (s : Sl TDestPlace) : TChannelPlace := ⟨cAt c k, cAt c k + 2, (gd (endsOf c (k : Int) true) 0).partition, (gd (endsOf c (k : Int) true) 0).port, s⟩
def frame0 (c : TConfig) : Int := (cAt c c.Channels.xs.length + 16 - 1) / 16
def tAt (c : TConfig) : Nat → Int
  | 0 => frame0 c
  | i + 1 => tAt c i + 1 + (tabsN (gd c.Partitions.xs i) : Int)
def tabsAt (c : TConfig) (i n : Nat) : List Int := (List.range n).map (fun (k : Nat) => tAt c i + 1 + (k : Int))
theorem tabsAt_succ {c : TConfig} {i n : Nat} : tabsAt c i (n + 1) = tabsAt c i n ++ [tAt c i + 1 + (n : Int)] := by unfold tabsAt; rw [List.range_succ, List.map_append]; rfl
theorem tabsAt_len {c : TConfig} {i n : Nat} : (tabsAt c i n).length = n := by simp [tabsAt]
def placeDone (c : TConfig) (i : Nat) (s : Sl Int) : TPartitionPlace := ⟨pAt c i, pAt c i + 2, pAt c i + 2 + 17, tAt c i, s⟩
structure Fine (c : TConfig) : Prop where
  kn : 0 ≤ c.Kernel ∧ c.Kernel < 1024
  pn : c.Partitions.xs.length ≤ 8
  cn : c.Channels.xs.length ≤ 16
  parts : ∀ i, i < c.Partitions.xs.length → partOk c.Channels.xs.length (gd c.Partitions.xs i) = true
  chans : ∀ i, i < c.Channels.xs.length → chanOk c i = true
theorem fine_of {c : TConfig} (h : confOk c = true) : Fine c := by
  unfold confOk at h
  simp only [Bool.and_eq_true, decide_eq_true_eq, List.all_eq_true, List.mem_range] at h
  exact ⟨h.1.1.1.1, h.1.1.1.2, h.1.1.2, fun i hi => h.1.2 _ (by rw [gd_eq hi]; exact List.getElem_mem hi), h.2⟩
theorem Fine.dests {c : TConfig} (h : Fine c) {k : Nat} (hk : k < c.Channels.xs.length) : (endsOf c (k : Int) true).length = 1 ∧ 1 ≤ nDest c k ∧ nDest c k ≤ 4 := by
  have := h.chans k hk
  unfold chanOk at this
  simp only [Bool.and_eq_true, decide_eq_true_eq] at this
  have e1 := endsOf_cnt c k true
  have e2 := endsOf_cnt c k false
  unfold nDest
  omega
theorem cLen_bd {c : TConfig} (h : Fine c) {k : Nat} (hk : k < c.Channels.xs.length) : 2 ≤ cLen c k ∧ cLen c k ≤ 695 := by
  have h1 := stage_bd (gd c.Channels.xs k)
  have h2 := port_bd (gd c.Channels.xs k)
  have h3 := h.dests hk
  unfold cLen
  have h4 := Int.mul_nonneg (show (0 : Int) ≤ (nDest c k : Int) by omega) h2.1
  have h5 := Int.mul_le_mul (show (nDest c k : Int) ≤ 4 by omega) h2.2 h2.1 (by omega)
  omega
theorem cAt_bd {c : TConfig} (h : Fine c) : ∀ (k : Nat), k ≤ c.Channels.xs.length → pAt c c.Partitions.xs.length ≤ cAt c k ∧ cAt c k ≤ pAt c c.Partitions.xs.length + 695 * k
  | 0, _ => by simp [cAt]
  | k + 1, hk => by
    have h1 := cAt_bd h k (by omega)
    have h2 := cLen_bd h (show k < c.Channels.xs.length by omega)
    rw [cAt]; omega
theorem dAt_bd {c : TConfig} (h : Fine c) {k j : Nat} (hk : k < c.Channels.xs.length) (hj : j ≤ 4) : cAt c k ≤ dAt c k j ∧ dAt c k j ≤ cAt c k + 695 := by
  have h1 := stage_bd (gd c.Channels.xs k)
  have h2 := port_bd (gd c.Channels.xs k)
  unfold dAt
  have h4 := Int.mul_nonneg (show (0 : Int) ≤ (j : Int) by omega) h2.1
  have h5 := Int.mul_le_mul (show (j : Int) ≤ 4 by omega) h2.2 h2.1 (by omega)
  omega
theorem frame0_bd {c : TConfig} (h : Fine c) : 0 ≤ frame0 c ∧ frame0 c ≤ 2000 := by
  have h1 := cAt_bd h _ (Nat.le_refl _)
  have h2 := h.kn; have h3 := h.pn; have h4 := h.cn
  unfold frame0
  unfold pAt at h1
  omega
theorem tAt_bd {c : TConfig} (h : Fine c) : ∀ (i : Nat), i ≤ c.Partitions.xs.length → 0 ≤ tAt c i ∧ tAt c i ≤ 2000 + 17 * i
  | 0, _ => by have := frame0_bd h; simp only [tAt]; omega
  | i + 1, hi => by
    have h1 := tAt_bd h i (by omega)
    have h2 := tabsN_le (gd c.Partitions.xs i)
    rw [tAt]; omega
theorem gd_push {α : Type} [Inhabited α] {xs : List α} {y : α} : gd (xs ++ [y]) xs.length = y := by rw [gd_eq (by simp)]; simp
theorem gd_old {α : Type} [Inhabited α] {xs : List α} {y : α} {q : Nat} (h : q < xs.length) : gd (xs ++ [y]) q = gd xs q := by
  rw [gd_eq h, gd_eq (by simp; omega), List.getElem_append_left h]
theorem gd_set {α : Type} [Inhabited α] {xs : List α} {y : α} {q : Nat} (h : q < xs.length) : gd (xs.set q y) q = y := by rw [gd_eq (by simpa using h)]; simp
theorem gd_set_ne {α : Type} [Inhabited α] {xs : List α} {y : α} {q p : Nat} (h : q ≠ p) (hp : p < xs.length) : gd (xs.set q y) p = gd xs p := by rw [gd_eq (by simpa using hp), gd_eq hp, List.getElem_set_ne h]
theorem take_set_succ {α : Type} {xs : List α} {y : α} {i : Nat} (h : i < xs.length) : (xs.set i y).take (i + 1) = xs.take i ++ [y] := by
  rw [List.take_succ_eq_append_getElem (by simpa using h), List.getElem_set_self]
  rw [List.take_set_of_le (Nat.le_refl i)]
theorem chans_push {c : TConfig} {cs : List TChannelPlace} {k : Nat} (hl : cs.length = k) (h : ∀ q, q < k → ∃ a cp, gd cs q = chanAt c q ⟨a, cp, destsUp c q (nDest c q)⟩) {y : TChannelPlace} {a : Option Addr} {cp : Nat} (hy : y = chanAt c k ⟨a, cp, destsUp c k (nDest c k)⟩) :
    ∀ q, q < k + 1 → ∃ a cp, gd (cs ++ [y]) q = chanAt c q ⟨a, cp, destsUp c q (nDest c q)⟩ := by
  intro q hq
  by_cases e : q = k
  · subst e; subst hl; exact ⟨a, cp, by rw [gd_push]; exact hy⟩
  · rw [gd_old (by omega)]; exact h q (by omega)
theorem slok_nil {α : Type} [Inhabited α] {cells : α → List Value} {sz : Nat} {ok : (Nat → Prop) → World → α → Prop} {F : Nat → Prop} {W : World} : SlOk cells sz ok F W ⟨none, 0, []⟩ :=
  ⟨⟨Nat.zero_le _, Nat.le_refl _, fun h => absurd rfl h⟩, fun i hi => absurd hi (Nat.not_lt_zero i)⟩
structure IsLay (c : TConfig) (L : TLayout) : Prop where
  bar : L.Barrier = c.Kernel * 16
  fin : L.End = tAt c c.Partitions.xs.length
  pl : L.Partitions.xs.length = c.Partitions.xs.length
  ps : ∀ p, p < c.Partitions.xs.length → ∃ a cp, gd L.Partitions.xs p = placeDone c p ⟨a, cp, tabsAt c p (tabsN (gd c.Partitions.xs p))⟩
  cl : L.Channels.xs.length = c.Channels.xs.length
  cs : ∀ k, k < c.Channels.xs.length → ∃ a cp, gd L.Channels.xs k = chanAt c k ⟨a, cp, destsUp c k (nDest c k)⟩

theorem counter_calls (w : World) (k : Int) (n : Nat) (hn : w.heap.size = n) : Calls Tryd.prog 57 #[.int .i64 k] w fun e w' => e = .returned (.func (.func 75) #[] #[.pointer (some ⟨n, 0, none⟩)]) ∧ { w with heap := w.heap.push (.cells #[.int .i64 k] 3) } = w' := by
  subst hn
  go_enter Tryd.func57, Tryd.ntmps57
  go_wp2
  go_ret
  exact ⟨rfl, rfl⟩
theorem count_calls (w : World) (b : Nat) (n k k' : Int) (hw : w.heap[b]? = some (.cells #[.int .i64 k] 3 (0, 0))) (hk : wrap64 (k + n) = k') : Calls Tryd.prog 75 #[.int .i64 n, .pointer (some ⟨b, 0, none⟩)] w fun e w' => e = .returned (.int .i64 k) ∧ w.setCell ⟨b, 0, none⟩ (.int .i64 k') = w' := by
  subst hk
  have hc : w.cell? ⟨b, 0, none⟩ = some (.int .i64 k) := by simp [World.cell?, hw]
  have hf : w.frozen? ⟨b, 0, none⟩ = false := by simp [World.frozen?, hw]
  go_enter Tryd.func75, Tryd.ntmps75
  go_wp2
  go_ret
  exact ⟨rfl, rfl⟩

end Go.Proofs.YtnjhekfgmbpmlaaDoor.Ly
