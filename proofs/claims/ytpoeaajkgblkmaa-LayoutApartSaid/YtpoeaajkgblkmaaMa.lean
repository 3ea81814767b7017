/- layout: how many words of each kind, in plain numbers. No conditions. -/
import Derived.Test.YtpoeaajkgblkmaaLw
import Derived.Test.YtpoeaajkgblkmaaLt
namespace Go.Proofs.Ytpoeaajkgblkmaa.Ly
open Go Go.Proofs.Ytpoeaajkgblkmaa.Eng Go.Proofs.Ytpoeaajkgblkmaa.Mem
set_option linter.unusedSimpArgs false
set_option linter.unusedVariables false
set_option maxRecDepth 100000
/-- How many of n words, from a on, have a property. -/
def cI (p : Int → Bool) (a : Int) : Nat → Nat
  | 0 => 0
  | n + 1 => cI p a n + if p (a + (n : Int)) then 1 else 0
theorem cI_add (p : Int → Bool) (a : Int) (m : Nat) : ∀ (n : Nat), cI p a (m + n) = cI p a m + cI p (a + (m : Int)) n
  | 0 => rfl
  | n + 1 => by
    show cI p a (m + n) + (if p (a + ((m + n : Nat) : Int)) then 1 else 0) = cI p a m + (cI p (a + (m : Int)) n + if p (a + (m : Int) + (n : Int)) then 1 else 0)
    rw [cI_add p a m n, show a + ((m + n : Nat) : Int) = a + (m : Int) + (n : Int) from by omega]
    omega
theorem cI_congr {p q : Int → Bool} {a : Int} : ∀ {n : Nat}, (∀ j, j < n → p (a + (j : Int)) = q (a + (j : Int))) → cI p a n = cI q a n
  | 0, _ => rfl
  | n + 1, h => by
    show cI p a n + _ = cI q a n + _
    rw [cI_congr (n := n) (fun j hj => h j (by omega)), h n (by omega)]
theorem cI_false (a : Int) : ∀ (n : Nat), cI (fun _ => false) a n = 0
  | 0 => rfl
  | n + 1 => by show cI _ a n + _ = 0; rw [cI_false a n]; rfl
theorem cI_true (a : Int) : ∀ (n : Nat), cI (fun _ => true) a n = n
  | 0 => rfl
  | n + 1 => by show cI _ a n + _ = n + 1; rw [cI_true a n]; rfl
theorem cI_le (p : Int → Bool) (a : Int) : ∀ (n : Nat), cI p a n ≤ n
  | 0 => Nat.le_refl _
  | n + 1 => by
    have := cI_le p a n
    show cI p a n + _ ≤ n + 1
    split <;> omega
theorem cI_sum {p q : Int → Bool} (hpq : ∀ x, (p x && q x) = false) (a : Int) : ∀ (n : Nat), cI p a n + cI q a n = cI (fun x => p x || q x) a n
  | 0 => rfl
  | n + 1 => by
    have ih := cI_sum hpq a n
    have h := hpq (a + (n : Int))
    show cI p a n + _ + (cI q a n + _) = cI _ a n + _
    cases h1 : p (a + (n : Int)) <;> cases h2 : q (a + (n : Int)) <;> simp [h1, h2] at h ⊢ <;> omega
def kindIs (q : Int) (l : List TPiece) (x : Int) : Bool := match l.find? (hit x) with
  | some y => decide (y.Owner.Kind = q)
  | none => false
def noHit (l : List TPiece) (x : Int) : Bool := (l.find? (hit x)).isNone
def szK (q : Int) : List TPiece → Int
  | [] => 0
  | y :: l => (if y.Owner.Kind = q then y.Size else 0) + szK q l
def szA : List TPiece → Int
  | [] => 0
  | y :: l => y.Size + szA l
theorem szK_app (q : Int) : ∀ (l m : List TPiece), szK q (l ++ m) = szK q l + szK q m
  | [], m => by simp [szK]
  | y :: l, m => by show _ + szK q (l ++ m) = _; rw [szK_app q l m]; simp only [szK]; omega
theorem szA_app : ∀ (l m : List TPiece), szA (l ++ m) = szA l + szA m
  | [], m => by simp [szA]
  | y :: l, m => by show _ + szA (l ++ m) = _; rw [szA_app l m]; simp only [szA]; omega
theorem szK_zero {q : Int} : ∀ {l : List TPiece}, (∀ y ∈ l, y.Owner.Kind ≠ q) → szK q l = 0
  | [], _ => rfl
  | y :: l, h => by
    show _ + szK q l = 0
    rw [szK_zero (fun z hz => h z (List.mem_cons_of_mem _ hz)), if_neg (h y (List.mem_cons_self ..))]; rfl
theorem find_cut {z : TPiece} {l : List TPiece} {x : Int} (h : hit x z = false) : (z :: l).find? (hit x) = l.find? (hit x) := List.find?_cons_of_neg (by simp [h])
theorem find_it {z : TPiece} {l : List TPiece} {x : Int} (h : hit x z = true) : (z :: l).find? (hit x) = some z := List.find?_cons_of_pos h
theorem find_low {l : List TPiece} {a b x : Int} (h : SortedIn l a b) (hx : x < a) : l.find? (hit x) = none := by
  rw [List.find?_eq_none]
  intro y hy
  have := h.2.1 y hy
  unfold hit
  simp only [decide_eq_true_eq]
  omega
theorem sorted_tail {z : TPiece} {l : List TPiece} {a b : Int} (h : SortedIn (z :: l) a b) : SortedIn l (z.At + z.Size) b ∧ a ≤ z.At ∧ 0 ≤ z.Size ∧ z.At + z.Size ≤ b := by
  obtain ⟨hp, hall, hab⟩ := h
  rw [List.pairwise_cons] at hp
  have hz := hall z (List.mem_cons_self ..)
  refine ⟨⟨hp.2, fun y hy => ?_, hz.2.2⟩, hz.1, hz.2.1, hz.2.2⟩
  have := hall y (List.mem_cons_of_mem _ hy)
  have := hp.1 y hy
  omega
theorem seg3 {a b : Int} {z : TPiece} (h1 : a ≤ z.At) (h2 : 0 ≤ z.Size) (h3 : z.At + z.Size ≤ b) (p : Int → Bool) : cI p a (b - a).toNat = cI p a (z.At - a).toNat + (cI p z.At z.Size.toNat + cI p (z.At + z.Size) (b - (z.At + z.Size)).toNat) := by
  rw [show (b - a).toNat = (z.At - a).toNat + (z.Size.toNat + (b - (z.At + z.Size)).toNat) from by omega, cI_add, cI_add, show a + ((z.At - a).toNat : Int) = z.At from by omega, show z.At + (z.Size.toNat : Int) = z.At + z.Size from by omega]
theorem hit_at {x : Int} {z : TPiece} (h1 : z.At ≤ x) (h2 : x < z.At + z.Size) : hit x z = true := by unfold hit; exact decide_eq_true ⟨h1, h2⟩
theorem hit_no {x : Int} {z : TPiece} (h : x < z.At ∨ z.At + z.Size ≤ x) : hit x z = false := by unfold hit; exact decide_eq_false (by omega)
theorem count_kind (q : Int) : ∀ (l : List TPiece) (a b : Int), SortedIn l a b → (cI (kindIs q l) a (b - a).toNat : Int) = szK q l
  | [], a, b, _ => by
    have : kindIs q [] = fun _ => false := rfl
    rw [this, cI_false]; rfl
  | z :: l, a, b, h => by
    obtain ⟨ht, h1, h2, h3⟩ := sorted_tail h
    have ih := count_kind q l _ _ ht
    have e1 : cI (kindIs q (z :: l)) a (z.At - a).toNat = 0 := by
      rw [cI_congr (q := fun _ => false), cI_false]
      intro j hj
      unfold kindIs
      rw [find_cut (hit_no (.inl (by omega))), find_low ht (by omega)]
    have e2 : (cI (kindIs q (z :: l)) z.At z.Size.toNat : Int) = if z.Owner.Kind = q then z.Size else 0 := by
      rw [cI_congr (q := fun _ => decide (z.Owner.Kind = q))]
      · by_cases hq : z.Owner.Kind = q
        · rw [decide_eq_true hq, cI_true, if_pos hq]; omega
        · rw [decide_eq_false hq, cI_false, if_neg hq]; rfl
      · intro j hj
        unfold kindIs
        rw [find_it (hit_at (by omega) (by omega))]
    have e3 : cI (kindIs q (z :: l)) (z.At + z.Size) (b - (z.At + z.Size)).toNat = cI (kindIs q l) (z.At + z.Size) (b - (z.At + z.Size)).toNat := by
      refine cI_congr fun j hj => ?_
      unfold kindIs
      rw [find_cut (hit_no (.inr (by omega)))]
    rw [seg3 h1 h2 h3, e1, e3]
    show ((0 + (_ + _) : Nat) : Int) = _ + szK q l
    rw [← e2, ← ih]; omega
theorem count_none : ∀ (l : List TPiece) (a b : Int), SortedIn l a b → (cI (noHit l) a (b - a).toNat : Int) = b - a - szA l
  | [], a, b, h => by
    have : noHit [] = fun _ => true := rfl
    rw [this, cI_true]
    have := h.2.2
    show ((b - a).toNat : Int) = b - a - 0
    omega
  | z :: l, a, b, h => by
    obtain ⟨ht, h1, h2, h3⟩ := sorted_tail h
    have ih := count_none l _ _ ht
    have e1 : cI (noHit (z :: l)) a (z.At - a).toNat = (z.At - a).toNat := by
      rw [cI_congr (q := fun _ => true), cI_true]
      intro j hj
      unfold noHit
      rw [find_cut (hit_no (.inl (by omega))), find_low ht (by omega)]; rfl
    have e2 : cI (noHit (z :: l)) z.At z.Size.toNat = 0 := by
      rw [cI_congr (q := fun _ => false), cI_false]
      intro j hj
      unfold noHit
      rw [find_it (hit_at (by omega) (by omega))]; rfl
    have e3 : cI (noHit (z :: l)) (z.At + z.Size) (b - (z.At + z.Size)).toNat = cI (noHit l) (z.At + z.Size) (b - (z.At + z.Size)).toNat := by
      refine cI_congr fun j hj => ?_
      unfold noHit
      rw [find_cut (hit_no (.inr (by omega)))]
    rw [seg3 h1 h2 h3, e1, e2, e3]
    show _ = b - a - (z.Size + szA l)
    omega
/-- Sizes, kind by kind. -/
theorem kinds_P {c : TConfig} : ∀ (i : Nat), ∀ y ∈ pcP c i, 2 ≤ y.Owner.Kind ∧ y.Owner.Kind ≤ 5
  | 0 => by intro y hy; simp only [pcP, List.range_zero, List.flatMap_nil, List.append_nil, List.mem_singleton] at hy; subst hy; simp
  | i + 1 => by
    intro y hy
    rw [pcP_succ] at hy
    simp only [List.mem_append, List.mem_singleton] at hy
    rcases hy with ((hy | rfl) | rfl) | rfl
    · exact kinds_P i y hy
    all_goals simp
theorem kinds_C {c : TConfig} : ∀ (k : Nat), ∀ y ∈ pcC c k, 6 ≤ y.Owner.Kind ∧ y.Owner.Kind ≤ 8
  | 0 => by intro y hy; exact absurd hy List.not_mem_nil
  | k + 1 => by
    intro y hy
    rw [pcC_succ, pcChan, pcDests] at hy
    simp only [List.mem_append, List.mem_cons, List.not_mem_nil, or_false, List.mem_map] at hy
    rcases hy with hy | (rfl | rfl) | ⟨j, -, rfl⟩
    · exact kinds_C k y hy
    · simp
    · simp
    · simp [pcDest]
theorem kinds_tabs {c : TConfig} {p n : Nat} : ∀ y ∈ pcTabs c p n, y.Owner.Kind = 9 := by
  intro y hy
  unfold pcTabs at hy
  simp only [List.mem_map] at hy
  obtain ⟨u, -, rfl⟩ := hy
  rfl
theorem kinds_T {c : TConfig} : ∀ (p : Nat), ∀ y ∈ pcT c p, y.Owner.Kind = 9
  | 0 => by intro y hy; exact absurd hy List.not_mem_nil
  | p + 1 => by
    intro y hy
    rw [pcT_succ, List.mem_append] at hy
    rcases hy with hy | hy
    · exact kinds_T p y hy
    · exact kinds_tabs y hy
theorem szP_succ (c : TConfig) (i : Nat) : szK 3 (pcP c (i + 1)) = szK 3 (pcP c i) + 2 ∧ szK 4 (pcP c (i + 1)) = szK 4 (pcP c i) + 17 ∧ szK 5 (pcP c (i + 1)) = szK 5 (pcP c i) + 5 ∧ szK 2 (pcP c (i + 1)) = szK 2 (pcP c i) := by
  rw [pcP_succ]
  refine ⟨?_, ?_, ?_, ?_⟩ <;> simp [szK_app, szK]
theorem szP_is (c : TConfig) : ∀ (i : Nat), szK 3 (pcP c i) = 2 * (i : Int) ∧ szK 4 (pcP c i) = 17 * (i : Int) ∧ szK 5 (pcP c i) = 5 * (i : Int) ∧ szK 2 (pcP c i) = 2 ∧ szA (pcP c i) = 2 + 24 * (i : Int)
  | 0 => by simp [pcP, szK, szA]
  | i + 1 => by
    have ih := szP_is c i
    have h := szP_succ c i
    have h2 : szA (pcP c (i + 1)) = szA (pcP c i) + 24 := by rw [pcP_succ, szA_app, szA_app, szA_app]; simp only [szA]; omega
    omega
theorem sz_map {α : Type} (f : α → TPiece) (q s : Int) (hk : ∀ x, (f x).Owner.Kind = q) (hs : ∀ x, (f x).Size = s) : ∀ (l : List α), szK q (l.map f) = s * (l.length : Int) ∧ szA (l.map f) = s * (l.length : Int)
  | [] => by simp [szK, szA]
  | x :: l => by
    have ih := sz_map f q s hk hs l
    simp only [List.map_cons, szK, szA, hk, hs, if_true, ih.1, ih.2, List.length_cons]
    rw [show ((l.length + 1 : Nat) : Int) = (l.length : Int) + 1 from by omega, Int.mul_add]
    omega
theorem szTabs (c : TConfig) (p n : Nat) : szK 9 (pcTabs c p n) = 16 * (n : Int) ∧ szA (pcTabs c p n) = 16 * (n : Int) := by
  unfold pcTabs
  have := sz_map (fun (u : Nat) => (⟨16 * (tAt c p + (u : Int)), 16, ⟨9, (p : Int), 0⟩⟩ : TPiece)) 9 16 (fun _ => rfl) (fun _ => rfl) (List.range n)
  simpa using this
theorem szT_is (c : TConfig) : ∀ (p : Nat), szK 9 (pcT c p) = 16 * (tAt c p - tAt c 0) ∧ szA (pcT c p) = 16 * (tAt c p - tAt c 0)
  | 0 => by simp [pcT, szK, szA]
  | p + 1 => by
    have ih := szT_is c p
    have h := szTabs c p (1 + tabsN (gd c.Partitions.xs p))
    rw [pcT_succ, szK_app, szA_app, tAt_succ, ih.1, ih.2, h.1, h.2]
    omega
theorem szC_succ (c : TConfig) (k : Nat) : szK 6 (pcC c (k + 1)) = szK 6 (pcC c k) + 2 ∧ szK 7 (pcC c (k + 1)) = szK 7 (pcC c k) + stageOf (gd c.Channels.xs k) ∧ szK 8 (pcC c (k + 1)) = szK 8 (pcC c k) + portOf (gd c.Channels.xs k) * (nDest c k : Int) ∧ szA (pcC c (k + 1)) = szA (pcC c k) + cLen c k := by
  have h := sz_map (fun j => pcDest c k (gd (endsOf c (k : Int) false) j) j) 8 (portOf (gd c.Channels.xs k)) (fun _ => rfl) (fun _ => rfl) (List.range (nDest c k))
  have hz : ∀ q : Int, q ≠ 8 → szK q ((List.range (nDest c k)).map (fun j => pcDest c k (gd (endsOf c (k : Int) false) j) j)) = 0 := fun q hq => szK_zero (by
    intro y hy
    simp only [List.mem_map] at hy
    obtain ⟨j, -, rfl⟩ := hy
    exact fun e => hq e.symm)
  rw [List.length_range] at h
  have hp : pcC c (k + 1) = pcC c k ++ ([⟨cAt c k, 2, ⟨6, (k : Int), 0⟩⟩, ⟨cAt c k + 2, stageOf (gd c.Channels.xs k), ⟨7, (k : Int), 0⟩⟩] ++ (List.range (nDest c k)).map (fun j => pcDest c k (gd (endsOf c (k : Int) false) j) j)) := by rw [pcC_succ]; rfl
  rw [hp, szK_app, szK_app, szK_app, szK_app, szK_app, szK_app, szA_app, szA_app, hz 6 (by decide), hz 7 (by decide), h.1, h.2]
  unfold cLen
  rw [Int.mul_comm (nDest c k : Int)]
  refine ⟨?_, ?_, ?_, ?_⟩ <;> simp [szK, szA] <;> omega
theorem szC_bd {c : TConfig} (hf : Fine c) : ∀ (k : Nat), k ≤ c.Channels.xs.length → szK 6 (pcC c k) = 2 * (k : Int) ∧ 0 ≤ szK 7 (pcC c k) ∧ szK 7 (pcC c k) ≤ 137 * (k : Int) ∧ 0 ≤ szK 8 (pcC c k) ∧ szK 8 (pcC c k) ≤ 556 * (k : Int) ∧ szA (pcC c k) = cAt c k - cAt c 0
  | 0, _ => by simp [pcC, szK, szA]
  | k + 1, hk => by
    have ih := szC_bd hf k (by omega)
    have h := szC_succ c k
    have h1 := stage_bd (gd c.Channels.xs k)
    have h2 := port_bd (gd c.Channels.xs k)
    have h3 := hf.dests (show k < c.Channels.xs.length by omega)
    have h4 := Int.mul_nonneg h2.1 (show (0 : Int) ≤ (nDest c k : Int) by omega)
    have h5 := Int.mul_le_mul h2.2 (show (nDest c k : Int) ≤ 4 by omega) (by omega) (by omega)
    have h6 : cAt c (k + 1) = cAt c k + cLen c k := rfl
    omega
/-- How many words of each kind there must be. -/
def wK (c : TConfig) (q : Int) : Int := szK q (piecesOf c)
theorem wK_P {c : TConfig} {q : Int} (h : q ≤ 5) : wK c q = szK q (pcP c c.Partitions.xs.length) := by
  unfold wK piecesOf
  rw [szK_app, szK_app, szK_zero (l := pcC _ _) (fun y hy => by have := kinds_C _ y hy; omega), szK_zero (l := pcT _ _) (fun y hy => by have := kinds_T _ y hy; omega)]; omega
theorem wK_C {c : TConfig} {q : Int} (h : 6 ≤ q) (h2 : q ≤ 8) : wK c q = szK q (pcC c c.Channels.xs.length) := by
  unfold wK piecesOf
  rw [szK_app, szK_app, szK_zero (l := pcP _ _) (fun y hy => by have := kinds_P _ y hy; omega), szK_zero (l := pcT _ _) (fun y hy => by have := kinds_T _ y hy; omega)]; omega
theorem wK_T {c : TConfig} : wK c 9 = szK 9 (pcT c c.Partitions.xs.length) := by
  unfold wK piecesOf
  rw [szK_app, szK_app, szK_zero (l := pcP _ _) (fun y hy => by have := kinds_P _ y hy; omega), szK_zero (l := pcC _ _) (fun y hy => by have := kinds_C _ y hy; omega)]; omega
theorem szA_all {c : TConfig} (hf : Fine c) : 16 * tAt c c.Partitions.xs.length - 16 * c.Kernel - szA (piecesOf c) < 16 := by
  have h1 := szP_is c c.Partitions.xs.length
  have h2 := szC_bd hf c.Channels.xs.length (Nat.le_refl _)
  have h3 := szT_is c c.Partitions.xs.length
  have h4 : cAt c 0 = pAt c c.Partitions.xs.length := rfl
  have h5 : tAt c 0 = (cAt c c.Channels.xs.length + 16 - 1) / 16 := rfl
  have h6 : pAt c c.Partitions.xs.length = c.Kernel * 16 + 2 + 24 * (c.Partitions.xs.length : Int) := rfl
  unfold piecesOf
  rw [szA_app, szA_app]
  omega
/-- Whose the words are, where the memory has all of them. -/
theorem fits_is {c : TConfig} (h : fitsB c = true) : confOk c = true ∧ c.Frames ≤ 1024 ∧ tAt c c.Partitions.xs.length ≤ c.Frames := by
  unfold fitsB at h
  simp only [Bool.and_eq_true, decide_eq_true_eq] at h
  exact ⟨h.1, h.2.1, h.2.2⟩
theorem own_in {c : TConfig} (h : fitsB c = true) {x : Int} (h1 : 16 * c.Kernel ≤ x) (h2 : x < 16 * tAt c c.Partitions.xs.length) : ownR c x = ownOf c x ∧ ownE c x = 0 := by
  obtain ⟨h3, h4, h5⟩ := fits_is h
  have hk := (fine_of h3).kn
  exact ownR_is h3 (by unfold atBad; omega)
theorem own_piece {c : TConfig} (h : fitsB c = true) {y : TPiece} (hy : y ∈ piecesOf c) {x : Int} (h1 : y.At ≤ x) (h2 : x < y.At + y.Size) : ownR c x = y.Owner ∧ ownE c x = 0 := by
  have hs := sorted_all c
  have hb := hs.2.1 y hy
  have ho := own_in h (x := x) (by omega) (by omega)
  refine ⟨?_, ho.2⟩
  rw [ho.1]
  unfold ownOf
  have hh := hit_at h1 h2
  cases hf : (piecesOf c).find? (hit x) with
  | none => rw [List.find?_eq_none] at hf; exact absurd hh (hf y hy)
  | some z => exact congrArg TPiece.Owner (hit_once hs z (List.mem_of_find?_eq_some hf) y hy (List.find?_some hf) hh)
theorem own_kind {c : TConfig} (hf : Fine c) (x q : Int) (hq : 2 ≤ q) : decide ((ownOf c x).Kind = q) = kindIs q (piecesOf c) x := by
  unfold ownOf kindIs
  cases hx : (piecesOf c).find? (hit x) with
  | some y => rfl
  | none => cases regFind c (x / 16) <;> (simp only; exact decide_eq_false (by omega))
theorem own_low {c : TConfig} (hf : Fine c) (x : Int) : (decide ((ownOf c x).Kind = 0) || decide ((ownOf c x).Kind = 1)) = noHit (piecesOf c) x := by
  unfold ownOf noHit
  cases hx : (piecesOf c).find? (hit x) with
  | some y =>
    have := pc_mem hf y (List.mem_of_find?_eq_some hx)
    unfold PcOk at this
    simp only [Option.isNone_some, Bool.or_eq_false_iff]
    exact ⟨decide_eq_false (by omega), decide_eq_false (by omega)⟩
  | none => cases regFind c (x / 16) <;> rfl
theorem own_bd {c : TConfig} (hf : Fine c) (x : Int) : 0 ≤ (ownOf c x).Kind ∧ (ownOf c x).Kind ≤ 9 := by
  unfold ownOf
  cases hx : (piecesOf c).find? (hit x) with
  | some y =>
    have := pc_mem hf y (List.mem_of_find?_eq_some hx)
    unfold PcOk at this
    simp only; omega
  | none => cases regFind c (x / 16) <;> simp
def cN (c : TConfig) (q : Nat) (n : Nat) : Int := (cI (fun x => decide ((ownR c x).Kind = (q : Int))) (16 * c.Kernel) n : Int)
def nAll (c : TConfig) : Nat := (16 * tAt c c.Partitions.xs.length - 16 * c.Kernel).toNat
theorem cN_all {c : TConfig} (h : fitsB c = true) {q : Nat} (hq : 2 ≤ q) : cN c q (nAll c) = wK c (q : Int) := by
  have hf := fine_of (fits_is h).1
  unfold cN nAll wK
  rw [← count_kind _ _ _ _ (sorted_all c), cI_congr (q := kindIs (q : Int) (piecesOf c))]
  intro j hj
  rw [(own_in h (x := 16 * c.Kernel + (j : Int)) (by omega) (by omega)).1]
  exact own_kind hf _ _ (by omega)
theorem cN_low {c : TConfig} (h : fitsB c = true) : cN c 0 (nAll c) + cN c 1 (nAll c) < 16 := by
  have hf := fine_of (fits_is h).1
  have hs := szA_all hf
  have hc := count_none _ _ _ (sorted_all c)
  have he : cI (fun x => decide ((ownR c x).Kind = ((0 : Nat) : Int))) (16 * c.Kernel) (nAll c) + cI (fun x => decide ((ownR c x).Kind = ((1 : Nat) : Int))) (16 * c.Kernel) (nAll c) = cI (noHit (piecesOf c)) (16 * c.Kernel) (nAll c) := by
    rw [cI_sum (fun x => by
      by_cases h0 : (ownR c x).Kind = ((0 : Nat) : Int)
      · rw [decide_eq_true h0, decide_eq_false (by omega)]; rfl
      · rw [decide_eq_false h0]; rfl)]
    refine cI_congr fun j hj => ?_
    unfold nAll at hj
    rw [(own_in h (x := 16 * c.Kernel + (j : Int)) (by omega) (by omega)).1]
    exact own_low hf _
  unfold cN
  unfold nAll at he ⊢
  omega
theorem cN_bd (c : TConfig) (q n : Nat) : 0 ≤ cN c q n ∧ cN c q n ≤ n := by
  have := cI_le (fun x => decide ((ownR c x).Kind = (q : Int))) (16 * c.Kernel) n
  unfold cN; omega
theorem cN_succ (c : TConfig) (q n : Nat) : cN c q (n + 1) = cN c q n + if (ownR c (16 * c.Kernel + (n : Int))).Kind = (q : Int) then 1 else 0 := by
  unfold cN
  show ((_ + _ : Nat) : Int) = _
  by_cases hq : (ownR c (16 * c.Kernel + (n : Int))).Kind = (q : Int)
  · rw [if_pos hq, if_pos (decide_eq_true hq)]; rfl
  · rw [if_neg hq, if_neg (by simp [hq])]; simp

end Go.Proofs.Ytpoeaajkgblkmaa.Ly
