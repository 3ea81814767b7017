/- admit: all questions in their order. No conditions. -/
import Derived.Test.YtnjhekfgmbpmlaaDoorAi
namespace Go.Proofs.YtnjhekfgmbpmlaaDoor.Ad
open Go Go.Proofs.YtnjhekfgmbpmlaaDoor.Eng Go.Proofs.YtnjhekfgmbpmlaaDoor.Mem Go.Proofs.YtnjhekfgmbpmlaaDoor.Ly
set_option linter.unusedSimpArgs false
set_option linter.unusedVariables false
set_option maxRecDepth 100000

abbrev fn1 (f bc : Nat) : Value := .func (.func f) #[] #[.pointer (some ⟨bc, 0, none⟩)]
abbrev fn2 (f bc b : Nat) : Value := .func (.func f) #[] #[.pointer (some ⟨bc, 0, none⟩), .pointer (some ⟨b, 0, none⟩)]
def ask5 (bc : Nat) : List Value := [fn1 40 bc, fn1 43 bc, fn1 44 bc, fn1 45 bc, fn1 46 bc]
def clo (f bc : Nat) (B : List Nat) : List Value := B.map fun b => fn2 f bc b
theorem clo_snoc {f bc b : Nat} {B : List Nat} : clo f bc (B ++ [b]) = clo f bc B ++ [.func (.func f) #[] #[.pointer (some ⟨bc, 0, none⟩), .pointer (some ⟨b, 0, none⟩)]] := List.map_append
theorem clo_len {f bc : Nat} {B : List Nat} : (clo f bc B).length = B.length := List.length_map _
def asks (bc : Nat) (B1 B2 B3 : List Nat) : List Value := ask5 bc ++ clo 47 bc B1 ++ clo 49 bc B2 ++ clo 51 bc B3 ++ [.func (.func 53) #[] #[.pointer (some ⟨bc, 0, none⟩)]]
def answers (c : TConfig) : List Tfound := [whole1 c, whole2 c, whole3 c, whole4 c, whole5 c] ++ (List.range c.Partitions.xs.length).map (partQ c) ++ (List.range c.Channels.xs.length).map (chanQ c) ++ (List.range c.Cores.xs.length).map (coreQ c) ++ [kernQ c]
def checkF (c : TConfig) : Tfound := fstW (answers c)
theorem asks_len {bc : Nat} {B1 B2 B3 : List Nat} : (asks bc B1 B2 B3).length = 6 + B1.length + B2.length + B3.length := by
  simp [asks, ask5, clo]; omega
theorem answers_len {c : TConfig} : (answers c).length = 6 + c.Partitions.xs.length + c.Channels.xs.length + c.Cores.xs.length := by
  simp [answers]; omega
theorem gd_l {α : Type} [Inhabited α] {a b : List α} {k : Nat} (h : k < a.length) : gd (a ++ b) k = gd a k := by
  rw [gd_eq (by rw [List.length_append]; omega), gd_eq h, List.getElem_append_left h]
theorem gd_r {α : Type} [Inhabited α] {a b : List α} {k n : Nat} (h : n = a.length + k) (hk : k < b.length) : gd (a ++ b) n = gd b k := by
  subst h
  rw [gd_eq (by rw [List.length_append]; omega), gd_eq hk, List.getElem_append_right (by omega)]
  congr 1; omega
theorem gd_map_ {β : Type} [Inhabited β] {f : Nat → β} {n i : Nat} (h : i < n) : gd ((List.range n).map f) i = f i := by
  rw [gd_eq (by simpa using h)]; simp
theorem gd_clo {f bc b : Nat} {B : List Nat} {i : Nat} (h : B[i]? = some b) : gd (clo f bc B) i = fn2 f bc b := by
  obtain ⟨hi, e⟩ := List.getElem?_eq_some_iff.1 h
  rw [gd_eq (by rw [clo_len]; exact hi)]
  simp [clo, e]
section
variable {c : TConfig} {bc : Nat} {B1 B2 B3 : List Nat}
theorem ask_lo {k : Nat} (hk : k < 5) : gd (asks bc B1 B2 B3) k = gd (ask5 bc) k := by
  unfold asks
  have h5 : (ask5 bc).length = 5 := rfl
  rw [gd_l (by simp only [List.length_append]; omega), gd_l (by simp only [List.length_append]; omega), gd_l (by simp only [List.length_append]; omega), gd_l (by omega)]
theorem ans_lo {k : Nat} (hk : k < 5) : gd (answers c) k = gd [whole1 c, whole2 c, whole3 c, whole4 c, whole5 c] k := by
  unfold answers
  rw [gd_l (by simp; omega), gd_l (by simp; omega), gd_l (by simp; omega), gd_l (by simpa using hk)]
theorem ans_p {p : Nat} (hp : p < c.Partitions.xs.length) : gd (answers c) (5 + p) = partQ c p := by
  unfold answers
  rw [gd_l (by simp; omega), gd_l (by simp; omega), gd_l (by simp; omega), gd_r (k := p) (by simp) (by simpa using hp), gd_map_ hp]
theorem ans_h {p : Nat} (hp : p < c.Channels.xs.length) : gd (answers c) (5 + c.Partitions.xs.length + p) = chanQ c p := by
  unfold answers
  rw [gd_l (by simp; omega), gd_l (by simp; omega), gd_r (k := p) (by simp; omega) (by simpa using hp), gd_map_ hp]
theorem ans_k {p : Nat} (hp : p < c.Cores.xs.length) : gd (answers c) (5 + c.Partitions.xs.length + c.Channels.xs.length + p) = coreQ c p := by
  unfold answers
  rw [gd_l (by simp; omega), gd_r (k := p) (by simp; omega) (by simpa using hp), gd_map_ hp]
theorem ans_e : gd (answers c) (5 + c.Partitions.xs.length + c.Channels.xs.length + c.Cores.xs.length) = kernQ c := by
  unfold answers
  rw [gd_r (k := 0) (by simp; omega) (by simp)]; rfl
/-- Which question is asked at number k. -/
theorem kinds (h1 : B1.length = c.Partitions.xs.length) (h2 : B2.length = c.Channels.xs.length) (h3 : B3.length = c.Cores.xs.length) {k : Nat} (hk : k < (asks bc B1 B2 B3).length) :
    (k = 0 ∧ gd (asks bc B1 B2 B3) k = .func (.func 40) #[] #[.pointer (some ⟨bc, 0, none⟩)] ∧ gd (answers c) k = whole1 c) ∨ (k = 1 ∧ gd (asks bc B1 B2 B3) k = .func (.func 43) #[] #[.pointer (some ⟨bc, 0, none⟩)] ∧ gd (answers c) k = whole2 c) ∨ (k = 2 ∧ gd (asks bc B1 B2 B3) k = .func (.func 44) #[] #[.pointer (some ⟨bc, 0, none⟩)] ∧ gd (answers c) k = whole3 c) ∨
    (k = 3 ∧ gd (asks bc B1 B2 B3) k = .func (.func 45) #[] #[.pointer (some ⟨bc, 0, none⟩)] ∧ gd (answers c) k = whole4 c) ∨ (k = 4 ∧ gd (asks bc B1 B2 B3) k = .func (.func 46) #[] #[.pointer (some ⟨bc, 0, none⟩)] ∧ gd (answers c) k = whole5 c) ∨
    (∃ p b, k = 5 + p ∧ p < c.Partitions.xs.length ∧ B1[p]? = some b ∧ gd (asks bc B1 B2 B3) k = .func (.func 47) #[] #[.pointer (some ⟨bc, 0, none⟩), .pointer (some ⟨b, 0, none⟩)] ∧ gd (answers c) k = partQ c p) ∨
    (∃ p b, k = 5 + c.Partitions.xs.length + p ∧ p < c.Channels.xs.length ∧ B2[p]? = some b ∧ gd (asks bc B1 B2 B3) k = .func (.func 49) #[] #[.pointer (some ⟨bc, 0, none⟩), .pointer (some ⟨b, 0, none⟩)] ∧ gd (answers c) k = chanQ c p) ∨
    (∃ p b, k = 5 + c.Partitions.xs.length + c.Channels.xs.length + p ∧ p < c.Cores.xs.length ∧ B3[p]? = some b ∧ gd (asks bc B1 B2 B3) k = .func (.func 51) #[] #[.pointer (some ⟨bc, 0, none⟩), .pointer (some ⟨b, 0, none⟩)] ∧ gd (answers c) k = coreQ c p) ∨
    (k = 5 + c.Partitions.xs.length + c.Channels.xs.length + c.Cores.xs.length ∧ gd (asks bc B1 B2 B3) k = .func (.func 53) #[] #[.pointer (some ⟨bc, 0, none⟩)] ∧ gd (answers c) k = kernQ c) := by
  rw [asks_len] at hk
  have l5 : (ask5 bc).length = 5 := rfl
  have hB : ∀ (B : List Nat) (i : Nat), i < B.length → ∃ b, B[i]? = some b := fun B i hi => ⟨B[i], by simp [hi]⟩
  rcases Nat.lt_or_ge k 5 with g | g
  · rw [ask_lo g, ans_lo g]
    rcases (by omega : k = 0 ∨ k = 1 ∨ k = 2 ∨ k = 3 ∨ k = 4) with rfl | rfl | rfl | rfl | rfl
    · exact .inl ⟨rfl, rfl, rfl⟩
    · exact .inr (.inl ⟨rfl, rfl, rfl⟩)
    · exact .inr (.inr (.inl ⟨rfl, rfl, rfl⟩))
    · exact .inr (.inr (.inr (.inl ⟨rfl, rfl, rfl⟩)))
    · exact .inr (.inr (.inr (.inr (.inl ⟨rfl, rfl, rfl⟩))))
  refine .inr (.inr (.inr (.inr (.inr ?_))))
  rcases Nat.lt_or_ge k (5 + c.Partitions.xs.length) with g1 | g1
  · obtain ⟨p, rfl⟩ : ∃ p, k = 5 + p := ⟨k - 5, by omega⟩
    obtain ⟨b, hb⟩ := hB B1 p (by omega)
    refine .inl ⟨p, b, rfl, by omega, hb, ?_, ans_p (by omega)⟩
    unfold asks
    rw [gd_l (by simp only [List.length_append, clo_len]; omega), gd_l (by simp only [List.length_append, clo_len]; omega), gd_l (by simp only [List.length_append, clo_len]; omega), gd_r (k := p) (by omega) (by rw [clo_len]; omega), gd_clo hb]
  rcases Nat.lt_or_ge k (5 + c.Partitions.xs.length + c.Channels.xs.length) with g2 | g2
  · obtain ⟨p, rfl⟩ : ∃ p, k = 5 + c.Partitions.xs.length + p := ⟨k - (5 + c.Partitions.xs.length), by omega⟩
    obtain ⟨b, hb⟩ := hB B2 p (by omega)
    refine .inr (.inl ⟨p, b, rfl, by omega, hb, ?_, ans_h (by omega)⟩)
    unfold asks
    rw [gd_l (by simp only [List.length_append, clo_len]; omega), gd_l (by simp only [List.length_append, clo_len]; omega), gd_r (k := p) (by simp only [List.length_append, clo_len]; omega) (by rw [clo_len]; omega), gd_clo hb]
  rcases Nat.lt_or_ge k (5 + c.Partitions.xs.length + c.Channels.xs.length + c.Cores.xs.length) with g3 | g3
  · obtain ⟨p, rfl⟩ : ∃ p, k = 5 + c.Partitions.xs.length + c.Channels.xs.length + p := ⟨k - (5 + c.Partitions.xs.length + c.Channels.xs.length), by omega⟩
    obtain ⟨b, hb⟩ := hB B3 p (by omega)
    refine .inr (.inr (.inl ⟨p, b, rfl, by omega, hb, ?_, ans_k (by omega)⟩))
    unfold asks
    rw [gd_l (by simp only [List.length_append, clo_len]; omega), gd_r (k := p) (by simp only [List.length_append, clo_len]; omega) (by rw [clo_len]; omega), gd_clo hb]
  · obtain rfl : k = 5 + c.Partitions.xs.length + c.Channels.xs.length + c.Cores.xs.length := by omega
    refine .inr (.inr (.inr ⟨rfl, ?_, ans_e⟩))
    unfold asks
    rw [gd_r (k := 0) (by simp only [List.length_append, clo_len]; omega) (by simp)]; rfl
variable {n : Nat} (hf : ∀ i, i < n → gd (answers c) i = fineF)
theorem frames_of (hf : ∀ i, i < n → gd (answers c) i = fineF) (hn : 1 ≤ n) : 1 ≤ c.Frames ∧ c.Frames ≤ 1024 := by
  have h := hf 0 (by omega)
  rw [ans_lo (by decide)] at h
  exact win_yes ((unl_fine (by decide)).1 (show unl (win c.Frames 1 1024) 400 ⟨-1, -1⟩ = fineF from h))
theorem parts_of (hf : ∀ i, i < n → gd (answers c) i = fineF) (hn : 4 ≤ n) : c.Partitions.xs.length ≤ 1024 := by
  have h := hf 3 (by omega)
  rw [ans_lo (by decide)] at h
  have := win_yes ((unl_fine (by decide)).1 (show unl (win ((c.Partitions.xs.length : Nat) : Int) 1 8) 403 ⟨-1, -1⟩ = fineF from h))
  omega
theorem part_of (hf : ∀ i, i < n → gd (answers c) i = fineF) {q : Nat} (hq : q < c.Partitions.xs.length) (hn : 5 + q < n) : partQ c q = fineF := by
  rw [← ans_p hq]; exact hf _ hn
theorem partQ_E {c : TConfig} {p : Nat} (h : partQ c p = fineF) : thenF (fstW (partE c p)) (portQ c p) (parC c p).Ports.xs.length = fineF := by
  unfold partQ at h
  rw [if_pos (partQ_fine (by unfold partQ; exact h))] at h
  exact h
theorem ports_of (hf : ∀ i, i < n → gd (answers c) i = fineF) (hn : 5 + c.Partitions.xs.length ≤ n) : ∀ p, p < c.Partitions.xs.length → (gd c.Partitions.xs p).Ports.xs.length ≤ 1024 := by
  intro p hp
  have h := (thenF_all (partQ_E (part_of hf hp (by omega)))).1
  have h2 := fst_mem h _ (List.mem_cons_of_mem _ (List.mem_cons_self ..))
  rw [unl_fine (by decide)] at h2
  have := of_decide_eq_true h2
  simp only [parC] at this
  omega
end

end Go.Proofs.YtnjhekfgmbpmlaaDoor.Ad
