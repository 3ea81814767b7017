/- layout: what the document's Of makes of its pieces, in plain numbers. No conditions. -/
import Derived.Test.YtpoeaajkgblkmaaLn
namespace Go.Proofs.Ytpoeaajkgblkmaa.Ly
open Go Go.Proofs.Ytpoeaajkgblkmaa.Eng Go.Proofs.Ytpoeaajkgblkmaa.Mem
set_option linter.unusedSimpArgs false
set_option linter.unusedVariables false
set_option maxRecDepth 100000
def nP (p : TPartitionPlace) : TPartitionPlace := { p with Tables := ⟨none, 0, p.Tables.xs⟩ }
def nC (p : TChannelPlace) : TChannelPlace := { p with Dests := ⟨none, 0, p.Dests.xs⟩ }
structure Fold where
  bar : Int
  ps : List TPartitionPlace
  cs : List TChannelPlace
  ch : Int
  fin : Int
def tabF (p : TPartitionPlace) (at_ : Int) : TPartitionPlace := if p.Root = 0 then { p with Root := at_ / 16 } else { p with Tables := ⟨none, 0, p.Tables.xs ++ [at_ / 16]⟩ }
def dstF (p : TChannelPlace) (y : TPiece) : TChannelPlace := { p with Dests := ⟨none, 0, p.Dests.xs ++ [⟨y.Owner.Index, y.Owner.Port, y.At⟩]⟩ }
def stepF (F : Fold) (y : TPiece) : Fold :=
  if y.Owner.Kind = 2 then { F with bar := y.At, fin := y.At + y.Size }
  else if y.Owner.Kind = 3 then { F with ps := F.ps.set y.Owner.Index.toNat { gd F.ps y.Owner.Index.toNat with Lock := y.At }, fin := y.At + y.Size }
  else if y.Owner.Kind = 4 then { F with ps := F.ps.set y.Owner.Index.toNat { gd F.ps y.Owner.Index.toNat with Save := y.At }, fin := y.At + y.Size }
  else if y.Owner.Kind = 5 then { F with ps := F.ps.set y.Owner.Index.toNat { gd F.ps y.Owner.Index.toNat with State := y.At }, fin := y.At + y.Size }
  else if y.Owner.Kind = 6 then { F with cs := F.cs.set y.Owner.Index.toNat { gd F.cs y.Owner.Index.toNat with Lock := y.At }, ch := y.Owner.Index, fin := y.At + y.Size }
  else if y.Owner.Kind = 7 then { F with cs := F.cs.set y.Owner.Index.toNat { gd F.cs y.Owner.Index.toNat with Stage := y.At }, fin := y.At + y.Size }
  else if y.Owner.Kind = 8 then { F with cs := F.cs.set F.ch.toNat (dstF (gd F.cs F.ch.toNat) y), fin := y.At + y.Size }
  else { F with ps := F.ps.set y.Owner.Index.toNat (tabF (gd F.ps y.Owner.Index.toNat) y.At), fin := y.At + y.Size }
def chan0 (c : TConfig) (k : Nat) : TChannelPlace := ⟨0, 0, (gd (endsOf c (k : Int) true) 0).partition, (gd (endsOf c (k : Int) true) 0).port, ⟨none, 0, []⟩⟩
def F0 (c : TConfig) : Fold := ⟨0, (List.range c.Partitions.xs.length).map (fun _ => ⟨0, 0, 0, 0, ⟨none, 0, []⟩⟩), (List.range c.Channels.xs.length).map (chan0 c), 0, 16 * c.Kernel⟩
theorem map_set {α : Type} {n k : Nat} {f g : Nat → α} {v : α} (h1 : g k = v) (h2 : ∀ q, q ≠ k → g q = f q) : ((List.range n).map f).set k v = (List.range n).map g := by
  apply List.ext_getElem (by simp)
  intro i hi hi'
  rw [List.getElem_set]
  simp only [List.getElem_map, List.getElem_range]
  split
  · rename_i e; subst e; exact h1.symm
  · rename_i e; exact (h2 i (fun x => e x.symm)).symm
theorem map_gd {α : Type} [Inhabited α] {n k : Nat} {f : Nat → α} (hk : k < n) : gd ((List.range n).map f) k = f k := by rw [gd_eq (by simpa using hk)]; simp
/-- Behind the partitions' words. -/
def psP (c : TConfig) (i : Nat) : Nat → TPartitionPlace := fun p => if p < i then placeAt c p else ⟨0, 0, 0, 0, ⟨none, 0, []⟩⟩
theorem foldP (c : TConfig) : ∀ (i : Nat), i ≤ c.Partitions.xs.length → ∃ fin, (pcP c i).foldl stepF (F0 c) = ⟨16 * c.Kernel, (List.range c.Partitions.xs.length).map (psP c i), (F0 c).cs, 0, fin⟩ ∧ (i = 0 → fin = 16 * c.Kernel + 2)
  | 0, _ => ⟨16 * c.Kernel + 2, rfl, fun _ => rfl⟩
  | i + 1, h => by
    obtain ⟨fin, e, -⟩ := foldP c i (by omega)
    refine ⟨pAt c i + 2 + 17 + 5, ?_, fun h => by omega⟩
    rw [pcP_succ, List.foldl_append, List.foldl_append, List.foldl_append, e]
    have hl : i < ((List.range c.Partitions.xs.length).map (psP c i)).length := by simp; omega
    have hg : gd ((List.range c.Partitions.xs.length).map (psP c i)) i = ⟨0, 0, 0, 0, ⟨none, 0, []⟩⟩ := by rw [map_gd (by omega)]; simp [psP]
    simp only [List.foldl_cons, List.foldl_nil, stepF, Int.toNat_natCast]
    simp only [if_true, if_false, reduceIte, show ¬ ((3 : Int) = 2) by decide, show ¬ ((4 : Int) = 2) by decide, show ¬ ((4 : Int) = 3) by decide, show ¬ ((5 : Int) = 2) by decide, show ¬ ((5 : Int) = 3) by decide, show ¬ ((5 : Int) = 4) by decide]
    rw [hg, gd_set hl, List.set_set, gd_set (by simpa using hl), List.set_set]
    rw [map_set (g := psP c (i + 1)) (by simp [psP, placeAt]) (fun q hq => by unfold psP; by_cases e : q < i <;> simp [e, show (q < i + 1) = (q < i ∨ q = i) by apply propext; omega, hq])]
/-- A channel's words. -/
theorem foldDests (c : TConfig) (k : Nat) (b : Int) (ps : List TPartitionPlace) (cs : List TChannelPlace) (hk : k < cs.length) (hc0 : (gd cs k).Dests = ⟨none, 0, []⟩) (fin : Int) (l : List Tend) (hl : ∀ j, j < l.length → gd l j = gd (endsOf c (k : Int) false) j) : ∀ (j : Nat), j ≤ l.length → ∃ fin', ((List.range j).map (fun j => pcDest c k (gd l j) j)).foldl stepF ⟨b, ps, cs, (k : Int), fin⟩ = ⟨b, ps, cs.set k { gd cs k with Dests := ⟨none, 0, destsUp c k j⟩ }, (k : Int), fin'⟩
  | 0, _ => ⟨fin, by
      show _ = (⟨b, ps, cs.set k { gd cs k with Dests := ⟨none, 0, []⟩ }, (k : Int), fin⟩ : Fold)
      rw [← hc0, show ({ gd cs k with Dests := (gd cs k).Dests } : TChannelPlace) = gd cs k from rfl, gd_eq hk, List.set_getElem_self]; rfl⟩
  | j + 1, h => by
    obtain ⟨fin', e⟩ := foldDests c k b ps cs hk hc0 fin l hl j (by omega)
    refine ⟨dAt c k j + portOf (gd c.Channels.xs k), ?_⟩
    rw [List.range_succ, List.map_append, List.foldl_append, e]
    simp only [List.map_cons, List.map_nil, List.foldl_cons, List.foldl_nil, stepF, pcDest, Int.toNat_natCast]
    simp only [if_true, if_false, reduceIte, show ¬ ((8 : Int) = 2) by decide, show ¬ ((8 : Int) = 3) by decide, show ¬ ((8 : Int) = 4) by decide, show ¬ ((8 : Int) = 5) by decide, show ¬ ((8 : Int) = 6) by decide, show ¬ ((8 : Int) = 7) by decide]
    rw [gd_set hk, List.set_set, dstF, destsUp_succ, hl j (by omega)]
    rfl
def csC (c : TConfig) (k : Nat) : Nat → TChannelPlace := fun q => if q < k then chanAt c q ⟨none, 0, destsUp c q (nDest c q)⟩ else chan0 c q
theorem foldC (c : TConfig) (b : Int) (ps : List TPartitionPlace) (fin : Int) : ∀ (k : Nat), k ≤ c.Channels.xs.length → ∃ ch fin', (pcC c k).foldl stepF ⟨b, ps, (F0 c).cs, 0, fin⟩ = ⟨b, ps, (List.range c.Channels.xs.length).map (csC c k), ch, fin'⟩ ∧ (k = 0 → fin' = fin)
  | 0, _ => ⟨0, fin, rfl, fun _ => rfl⟩
  | k + 1, h => by
    obtain ⟨ch, fin', e, -⟩ := foldC c b ps fin k (by omega)
    have hg : gd ((List.range c.Channels.xs.length).map (csC c k)) k = chan0 c k := by rw [map_gd (by omega)]; simp [csC]
    have hl : k < ((List.range c.Channels.xs.length).map (csC c k)).length := by simp; omega
    rw [pcC_succ, List.foldl_append, e, pcChan, List.foldl_append]
    simp only [List.foldl_cons, List.foldl_nil, stepF, Int.toNat_natCast]
    simp only [if_true, if_false, reduceIte, show ¬ ((6 : Int) = 2) by decide, show ¬ ((6 : Int) = 3) by decide, show ¬ ((6 : Int) = 4) by decide, show ¬ ((6 : Int) = 5) by decide, show ¬ ((7 : Int) = 2) by decide, show ¬ ((7 : Int) = 3) by decide, show ¬ ((7 : Int) = 4) by decide, show ¬ ((7 : Int) = 5) by decide, show ¬ ((7 : Int) = 6) by decide]
    rw [hg, gd_set hl, List.set_set]
    obtain ⟨fin'', e2⟩ := foldDests c k b ps (((List.range c.Channels.xs.length).map (csC c k)).set k { chan0 c k with Lock := cAt c k, Stage := cAt c k + 2 }) (by simpa using hl) (by rw [gd_set hl]; rfl) (cAt c k + 2 + stageOf (gd c.Channels.xs k)) (endsOf c (k : Int) false) (fun j hj => rfl) (endsOf c (k : Int) false).length (Nat.le_refl _)
    refine ⟨(k : Int), fin'', ?_, fun h => by omega⟩
    rw [pcDests, e2, gd_set hl, List.set_set, map_set (g := csC c (k + 1)) (by simp only [csC, Nat.lt_succ_self, if_true]; rfl) (fun q hq => by unfold csC; by_cases e : q < k <;> simp [e, show (q < k + 1) = (q < k ∨ q = k) by apply propext; omega, hq])]
theorem tAt_pos {c : TConfig} (hf : Fine c) : ∀ (p : Nat), 1 ≤ tAt c p
  | 0 => by
    have h1 := (cAt_bd hf _ (Nat.le_refl _)).1
    have h2 := hf.kn
    show 1 ≤ frame0 c
    unfold frame0
    unfold pAt at h1
    omega
  | p + 1 => by have := tAt_pos hf p; rw [tAt_succ]; omega
theorem foldTabs (c : TConfig) (hf : Fine c) (p : Nat) (b ch fin : Int) (ps : List TPartitionPlace) (cs : List TChannelPlace) (hp : p < ps.length) (h0 : gd ps p = placeAt c p) : ∀ (u : Nat), (pcTabs c p (u + 1)).foldl stepF ⟨b, ps, cs, ch, fin⟩ = ⟨b, ps.set p (placeDone c p ⟨none, 0, tabsAt c p u⟩), cs, ch, 16 * (tAt c p + (u : Int)) + 16⟩
  | 0 => by
    rw [pcTabs_succ]
    simp only [pcTabs, List.range_zero, List.map_nil, List.nil_append, List.foldl_cons, List.foldl_nil, stepF, Int.toNat_natCast]
    simp only [if_true, if_false, reduceIte, show ¬ ((9 : Int) = 2) by decide, show ¬ ((9 : Int) = 3) by decide, show ¬ ((9 : Int) = 4) by decide, show ¬ ((9 : Int) = 5) by decide, show ¬ ((9 : Int) = 6) by decide, show ¬ ((9 : Int) = 7) by decide, show ¬ ((9 : Int) = 8) by decide]
    rw [h0]
    have : tabF (placeAt c p) (16 * (tAt c p + ((0 : Nat) : Int))) = placeDone c p ⟨none, 0, tabsAt c p 0⟩ := by
      unfold tabF
      rw [if_pos (show (placeAt c p).Root = 0 from rfl)]
      show (⟨pAt c p, pAt c p + 2, pAt c p + 2 + 17, _, ⟨none, 0, []⟩⟩ : TPartitionPlace) = _
      rw [show 16 * (tAt c p + ((0 : Nat) : Int)) / 16 = tAt c p by omega]; rfl
    rw [this]
  | u + 1 => by
    have ht := tAt_pos hf p
    rw [pcTabs_succ, List.foldl_append, foldTabs c hf p b ch fin ps cs hp h0 u]
    simp only [List.foldl_cons, List.foldl_nil, stepF, Int.toNat_natCast]
    simp only [if_true, if_false, reduceIte, show ¬ ((9 : Int) = 2) by decide, show ¬ ((9 : Int) = 3) by decide, show ¬ ((9 : Int) = 4) by decide, show ¬ ((9 : Int) = 5) by decide, show ¬ ((9 : Int) = 6) by decide, show ¬ ((9 : Int) = 7) by decide, show ¬ ((9 : Int) = 8) by decide]
    rw [gd_set hp, List.set_set]
    have : tabF (placeDone c p ⟨none, 0, tabsAt c p u⟩) (16 * (tAt c p + ((u + 1 : Nat) : Int))) = placeDone c p ⟨none, 0, tabsAt c p (u + 1)⟩ := by
      unfold tabF
      rw [if_neg (show ¬ (placeDone c p ⟨none, 0, tabsAt c p u⟩).Root = 0 by show ¬ tAt c p = 0; omega)]
      rw [tabsAt_succ]
      show (⟨pAt c p, pAt c p + 2, pAt c p + 2 + 17, tAt c p, ⟨none, 0, tabsAt c p u ++ [_]⟩⟩ : TPartitionPlace) = _
      rw [show 16 * (tAt c p + ((u + 1 : Nat) : Int)) / 16 = tAt c p + 1 + (u : Int) by omega]; rfl
    rw [this]
def psT (c : TConfig) (i : Nat) : Nat → TPartitionPlace := fun p => if p < i then placeDone c p ⟨none, 0, tabsAt c p (tabsN (gd c.Partitions.xs p))⟩ else placeAt c p
theorem foldT (c : TConfig) (hf : Fine c) (b ch fin : Int) (cs : List TChannelPlace) : ∀ (i : Nat), i ≤ c.Partitions.xs.length → ∃ fin', (pcT c i).foldl stepF ⟨b, (List.range c.Partitions.xs.length).map (psT c 0), cs, ch, fin⟩ = ⟨b, (List.range c.Partitions.xs.length).map (psT c i), cs, ch, fin'⟩ ∧ (i = 0 → fin' = fin) ∧ (0 < i → fin' = 16 * tAt c i)
  | 0, _ => ⟨fin, rfl, fun _ => rfl, fun h => by omega⟩
  | i + 1, h => by
    obtain ⟨fin', e, -, -⟩ := foldT c hf b ch fin cs i (by omega)
    have hl : i < ((List.range c.Partitions.xs.length).map (psT c i)).length := by simp; omega
    refine ⟨16 * (tAt c i + ((tabsN (gd c.Partitions.xs i) : Nat) : Int)) + 16, ?_, fun h => by omega, fun _ => ?_⟩
    · rw [pcT_succ, List.foldl_append, e, Nat.add_comm 1 (tabsN (gd c.Partitions.xs i)), foldTabs c hf i b ch fin' _ cs hl (by rw [map_gd (by omega)]; simp [psT])]
      rw [map_set (g := psT c (i + 1)) (by simp [psT]) (fun q hq => by unfold psT; by_cases e : q < i <;> simp [e, show (q < i + 1) = (q < i ∨ q = i) by apply propext; omega, hq])]
    · rw [tAt_succ]; omega
/-- All pieces laid out. -/
theorem fold_all (c : TConfig) (hf : Fine c) : ∃ ch fin, (piecesOf c).foldl stepF (F0 c) = ⟨16 * c.Kernel, (List.range c.Partitions.xs.length).map (psT c c.Partitions.xs.length), (List.range c.Channels.xs.length).map (csC c c.Channels.xs.length), ch, fin⟩ ∧ (fin + 16 - 1) / 16 = tAt c c.Partitions.xs.length := by
  obtain ⟨f1, e1, g1⟩ := foldP c _ (Nat.le_refl _)
  obtain ⟨ch, f2, e2, g2⟩ := foldC c (16 * c.Kernel) ((List.range c.Partitions.xs.length).map (psP c c.Partitions.xs.length)) f1 _ (Nat.le_refl _)
  have hpt : (List.range c.Partitions.xs.length).map (psP c c.Partitions.xs.length) = (List.range c.Partitions.xs.length).map (psT c 0) := List.map_congr_left fun p hp => by simp [psP, psT, List.mem_range.1 hp]
  obtain ⟨f3, e3, g3, g4⟩ := foldT c hf (16 * c.Kernel) ch f2 ((List.range c.Channels.xs.length).map (csC c c.Channels.xs.length)) _ (Nat.le_refl _)
  refine ⟨ch, f3, ?_, ?_⟩
  · unfold piecesOf
    rw [List.foldl_append, List.foldl_append, e1, e2, hpt, e3]
  · by_cases h0 : c.Partitions.xs.length = 0
    · have hc0 : c.Channels.xs.length = 0 := by
        rcases Nat.eq_zero_or_pos c.Channels.xs.length with h | h
        · exact h
        · exfalso
          have := (hf.dests h).1
          rw [endsOf_cnt] at this
          unfold nEnds sumN at this
          rw [h0] at this
          simp at this
      have a1 := g1 h0; have a2 := g2 hc0; have a3 := g3 h0
      rw [h0, show tAt c 0 = (cAt c c.Channels.xs.length + 16 - 1) / 16 from rfl, hc0, show cAt c 0 = pAt c c.Partitions.xs.length from rfl, h0, show pAt c 0 = c.Kernel * 16 + 2 + 24 * ((0 : Nat) : Int) from rfl]
      omega
    · have a4 := g4 (by omega)
      omega
theorem gd_mapl {α β : Type} [Inhabited α] [Inhabited β] {f : α → β} {xs : List α} {n : Nat} (h : n < xs.length) : gd (xs.map f) n = f (gd xs n) := by rw [gd_eq (by simpa using h), gd_eq h]; simp
theorem map_keep {α β : Type} [Inhabited α] {f : α → β} {xs : List α} {n : Nat} {T : α} (hn : n < xs.length) (h : f T = f (gd xs n)) : (xs.set n T).map f = xs.map f := by
  rw [List.map_set, h, gd_eq hn, ← List.getElem_map (f := f) (h := by simpa using hn), List.set_getElem_self]
def foldUp (c : TConfig) (m : Nat) : Fold := ((piecesOf c).take m).foldl stepF (F0 c)
theorem foldUp_succ {c : TConfig} {m : Nat} (h : m < (piecesOf c).length) : foldUp c (m + 1) = stepF (foldUp c m) (gd (piecesOf c) m) := by
  unfold foldUp; rw [take_snoc h, List.foldl_append]; rfl
def PcOk (c : TConfig) (y : TPiece) : Prop := 2 ≤ y.Owner.Kind ∧ y.Owner.Kind ≤ 9 ∧ 0 ≤ y.At ∧ y.At ≤ 200000 ∧ 0 ≤ y.Size ∧ y.Size ≤ 1000 ∧ 0 ≤ y.Owner.Index ∧ y.Owner.Index ≤ 1000 ∧ 0 ≤ y.Owner.Port ∧ y.Owner.Port ≤ 1000 ∧
  ((y.Owner.Kind = 3 ∨ y.Owner.Kind = 4 ∨ y.Owner.Kind = 5 ∨ y.Owner.Kind = 9) → y.Owner.Index < (c.Partitions.xs.length : Int)) ∧ ((y.Owner.Kind = 6 ∨ y.Owner.Kind = 7) → y.Owner.Index < (c.Channels.xs.length : Int)) ∧ (y.Owner.Kind = 8 → 1 ≤ c.Channels.xs.length)
theorem pc_mem {c : TConfig} (hf : Fine c) : ∀ y ∈ piecesOf c, PcOk c y := by
  have hkn := hf.kn; have hpn := hf.pn; have hcn := hf.cn
  intro y hy
  unfold piecesOf at hy
  rw [List.mem_append, List.mem_append] at hy
  rcases hy with (hy | hy) | hy
  · unfold pcP at hy
    rw [List.mem_append] at hy
    rcases hy with hy | hy
    · simp only [List.mem_singleton] at hy; subst hy; unfold PcOk; simp only; omega
    · simp only [List.mem_flatMap, List.mem_range] at hy
      obtain ⟨i, hi, hy⟩ := hy
      simp only [pcPart, List.mem_cons, List.not_mem_nil, or_false] at hy
      have hp : pAt c i = c.Kernel * 16 + 2 + 24 * (i : Int) := rfl
      rcases hy with rfl | rfl | rfl <;> (unfold PcOk; simp only; omega)
  · simp only [pcC, List.mem_flatMap, List.mem_range] at hy
    obtain ⟨k, hk, hy⟩ := hy
    have hb := cAt_bd hf k (by omega)
    have hp0 : pAt c c.Partitions.xs.length = c.Kernel * 16 + 2 + 24 * (c.Partitions.xs.length : Int) := rfl
    have hs := stage_bd (gd c.Channels.xs k)
    have hp := port_bd (gd c.Channels.xs k)
    have hd := hf.dests hk
    unfold pcChan at hy
    rw [List.mem_append] at hy
    rcases hy with hy | hy
    · simp only [List.mem_cons, List.not_mem_nil, or_false] at hy
      rcases hy with rfl | rfl <;> (unfold PcOk; simp only; omega)
    · simp only [pcDests, List.mem_map, List.mem_range] at hy
      obtain ⟨j, hj, rfl⟩ := hy
      have hdb := dAt_bd hf hk (show j ≤ 4 by unfold nDest at hd; omega)
      have he := ends_bd (k := (k : Int)) (b := false) (fun i hi => part_ports (hf.parts i hi)) hpn (gd (endsOf c (k : Int) false) j) (by rw [gd_eq hj]; exact List.getElem_mem hj)
      unfold PcOk pcDest; simp only; omega
  · simp only [pcT, List.mem_flatMap, List.mem_range] at hy
    obtain ⟨p, hp, hy⟩ := hy
    simp only [pcTabs, List.mem_map, List.mem_range] at hy
    obtain ⟨u, hu, rfl⟩ := hy
    have ht := tAt_bd hf p (by omega)
    have hn := tabsN_le (gd c.Partitions.xs p)
    unfold PcOk; simp only; omega
theorem pc_in {c : TConfig} (hf : Fine c) {m : Nat} (h : m < (piecesOf c).length) : PcOk c (gd (piecesOf c) m) := pc_mem hf _ (by rw [gd_eq h]; exact List.getElem_mem h)
theorem pc_ink {F : Nat → Prop} {W : World} {c : TConfig} (hf : Fine c) : ∀ i, i < (piecesOf c).length → TPiece.ok F W (gd (piecesOf c) i) := fun i hi => by
  obtain ⟨a1, a2, a3, a4, a5, a6, a7, a8, a9, a10, -⟩ := pc_in hf hi
  exact ⟨ink a3 (by omega), ink a5 (by omega), ⟨ink (by omega) (by omega), ink a7 (by omega), ink a9 (by omega)⟩⟩
theorem st2 (F : Fold) (y : TPiece) (h : y.Owner.Kind = 2) : stepF F y = ⟨y.At, F.ps, F.cs, F.ch, y.At + y.Size⟩ := by unfold stepF; rw [if_pos h]
theorem st3 (F : Fold) (y : TPiece) (h : y.Owner.Kind = 3) : stepF F y = ⟨F.bar, F.ps.set y.Owner.Index.toNat { gd F.ps y.Owner.Index.toNat with Lock := y.At }, F.cs, F.ch, y.At + y.Size⟩ := by unfold stepF; rw [if_neg (by omega), if_pos h]
theorem st4 (F : Fold) (y : TPiece) (h : y.Owner.Kind = 4) : stepF F y = ⟨F.bar, F.ps.set y.Owner.Index.toNat { gd F.ps y.Owner.Index.toNat with Save := y.At }, F.cs, F.ch, y.At + y.Size⟩ := by unfold stepF; rw [if_neg (by omega), if_neg (by omega), if_pos h]
theorem st5 (F : Fold) (y : TPiece) (h : y.Owner.Kind = 5) : stepF F y = ⟨F.bar, F.ps.set y.Owner.Index.toNat { gd F.ps y.Owner.Index.toNat with State := y.At }, F.cs, F.ch, y.At + y.Size⟩ := by unfold stepF; rw [if_neg (by omega), if_neg (by omega), if_neg (by omega), if_pos h]
theorem st6 (F : Fold) (y : TPiece) (h : y.Owner.Kind = 6) : stepF F y = ⟨F.bar, F.ps, F.cs.set y.Owner.Index.toNat { gd F.cs y.Owner.Index.toNat with Lock := y.At }, y.Owner.Index, y.At + y.Size⟩ := by unfold stepF; rw [if_neg (by omega), if_neg (by omega), if_neg (by omega), if_neg (by omega), if_pos h]
theorem st7 (F : Fold) (y : TPiece) (h : y.Owner.Kind = 7) : stepF F y = ⟨F.bar, F.ps, F.cs.set y.Owner.Index.toNat { gd F.cs y.Owner.Index.toNat with Stage := y.At }, F.ch, y.At + y.Size⟩ := by unfold stepF; rw [if_neg (by omega), if_neg (by omega), if_neg (by omega), if_neg (by omega), if_neg (by omega), if_pos h]
theorem st8 (F : Fold) (y : TPiece) (h : y.Owner.Kind = 8) : stepF F y = ⟨F.bar, F.ps, F.cs.set F.ch.toNat (dstF (gd F.cs F.ch.toNat) y), F.ch, y.At + y.Size⟩ := by unfold stepF; rw [if_neg (by omega), if_neg (by omega), if_neg (by omega), if_neg (by omega), if_neg (by omega), if_neg (by omega), if_pos h]
theorem st9 (F : Fold) (y : TPiece) (h : y.Owner.Kind = 9) : stepF F y = ⟨F.bar, F.ps.set y.Owner.Index.toNat (tabF (gd F.ps y.Owner.Index.toNat) y.At), F.cs, F.ch, y.At + y.Size⟩ := by unfold stepF; rw [if_neg (by omega), if_neg (by omega), if_neg (by omega), if_neg (by omega), if_neg (by omega), if_neg (by omega), if_neg (by omega)]
theorem foldUp_ch {c : TConfig} (hf : Fine c) : ∀ (m : Nat), m ≤ (piecesOf c).length → 0 ≤ (foldUp c m).ch ∧ ((foldUp c m).ch < (c.Channels.xs.length : Int) ∨ (foldUp c m).ch = 0)
  | 0, _ => ⟨Int.le_refl _, .inr rfl⟩
  | m + 1, h => by
    have ih := foldUp_ch hf m (by omega)
    obtain ⟨a1, a2, a3, a4, a5, a6, a7, a8, a9, a10, a11, a12, a13⟩ := pc_in hf (show m < (piecesOf c).length by omega)
    rw [foldUp_succ (by omega)]
    generalize gd (piecesOf c) m = y at *
    have hk : y.Owner.Kind = 2 ∨ y.Owner.Kind = 3 ∨ y.Owner.Kind = 4 ∨ y.Owner.Kind = 5 ∨ y.Owner.Kind = 6 ∨ y.Owner.Kind = 7 ∨ y.Owner.Kind = 8 ∨ y.Owner.Kind = 9 := by omega
    rcases hk with h | h | h | h | h | h | h | h
    · rw [st2 _ _ h]; exact ih
    · rw [st3 _ _ h]; exact ih
    · rw [st4 _ _ h]; exact ih
    · rw [st5 _ _ h]; exact ih
    · rw [st6 _ _ h]; exact ⟨a7, .inl (a12 (.inl h))⟩
    · rw [st7 _ _ h]; exact ih
    · rw [st8 _ _ h]; exact ih
    · rw [st9 _ _ h]; exact ih
theorem foldUp_all {c : TConfig} (hf : Fine c) : (foldUp c (piecesOf c).length).bar = 16 * c.Kernel ∧ (foldUp c (piecesOf c).length).ps = (List.range c.Partitions.xs.length).map (psT c c.Partitions.xs.length) ∧ (foldUp c (piecesOf c).length).cs = (List.range c.Channels.xs.length).map (csC c c.Channels.xs.length) ∧ ((foldUp c (piecesOf c).length).fin + 16 - 1) / 16 = tAt c c.Partitions.xs.length := by
  obtain ⟨ch, fin, e, h⟩ := fold_all c hf
  unfold foldUp
  rw [List.take_length, e]
  exact ⟨rfl, rfl, rfl, h⟩
def csUp (c : TConfig) (k : Nat) : List TChannelPlace := (List.range c.Channels.xs.length).map (fun q => if q < k then chan0 c q else ⟨0, 0, 0, 0, ⟨none, 0, []⟩⟩)
theorem csUp_zero {c : TConfig} : csUp c 0 = List.replicate c.Channels.xs.length ⟨0, 0, 0, 0, ⟨none, 0, []⟩⟩ := by
  unfold csUp; apply List.ext_getElem (by simp); intro i h1 h2; simp
theorem csUp_len {c : TConfig} {k : Nat} : (csUp c k).length = c.Channels.xs.length := by simp [csUp]
theorem csUp_at {c : TConfig} {k : Nat} (h : k < c.Channels.xs.length) : gd (csUp c k) k = ⟨0, 0, 0, 0, ⟨none, 0, []⟩⟩ := by unfold csUp; rw [map_gd h]; simp
theorem csUp_succ {c : TConfig} {k : Nat} : (csUp c k).set k (chan0 c k) = csUp c (k + 1) := by
  unfold csUp
  rw [map_set (g := fun q => if q < k + 1 then chan0 c q else ⟨0, 0, 0, 0, ⟨none, 0, []⟩⟩) (by simp) (fun q hq => by by_cases e : q < k <;> simp [e, show (q < k + 1) = (q < k ∨ q = k) by apply propext; omega, hq])]
theorem csUp_all {c : TConfig} : csUp c c.Channels.xs.length = (F0 c).cs := List.map_congr_left fun q hq => by simp [List.mem_range.1 hq]
theorem csUp_nil {c : TConfig} {k : Nat} : (csUp c k).map TChannelPlace.Dests = List.replicate c.Channels.xs.length ⟨none, 0, []⟩ := by
  apply List.ext_getElem (by simp [csUp])
  intro i h1 h2
  simp only [csUp, List.getElem_map, List.getElem_range, List.getElem_replicate]
  split <;> rfl
theorem un_nP {c : TConfig} {p : Nat} {x : TPartitionPlace} {l : List Int} (h : nP x = placeDone c p ⟨none, 0, l⟩) : ∃ a cp, x = placeDone c p ⟨a, cp, l⟩ := by
  obtain ⟨x1, x2, x3, x4, a, cp, xs⟩ := x
  simp only [nP, placeDone, TPartitionPlace.mk.injEq, Sl.mk.injEq, true_and] at h
  obtain ⟨rfl, rfl, rfl, rfl, rfl⟩ := h
  exact ⟨a, cp, rfl⟩
theorem un_nC {c : TConfig} {k : Nat} {x : TChannelPlace} {l : List TDestPlace} (h : nC x = chanAt c k ⟨none, 0, l⟩) : ∃ a cp, x = chanAt c k ⟨a, cp, l⟩ := by
  obtain ⟨x1, x2, x3, x4, a, cp, xs⟩ := x
  simp only [nC, chanAt, TChannelPlace.mk.injEq, Sl.mk.injEq, true_and] at h
  obtain ⟨rfl, rfl, rfl, rfl, rfl⟩ := h
  exact ⟨a, cp, rfl⟩
theorem lay_of {c : TConfig} (hf : Fine c) {ps : List TPartitionPlace} {cs : List TChannelPlace} {a b : Option Addr} {n k : Nat} (h1 : ps.map nP = (foldUp c (piecesOf c).length).ps) (h2 : cs.map nC = (foldUp c (piecesOf c).length).cs) : IsLay c ⟨(foldUp c (piecesOf c).length).bar, ⟨a, n, ps⟩, ⟨b, k, cs⟩, ((foldUp c (piecesOf c).length).fin + 16 - 1) / 16⟩ := by
  obtain ⟨e1, e2, e3, e4⟩ := foldUp_all hf
  rw [e2] at h1
  rw [e3] at h2
  have hl1 : ps.length = c.Partitions.xs.length := by have := congrArg List.length h1; simpa using this
  have hl2 : cs.length = c.Channels.xs.length := by have := congrArg List.length h2; simpa using this
  refine ⟨by show (foldUp c (piecesOf c).length).bar = c.Kernel * 16; rw [e1]; omega, e4, hl1, ?_, hl2, ?_⟩
  · intro p hp
    refine un_nP (x := gd ps p) ?_
    rw [← gd_mapl (f := nP) (by omega), h1, map_gd hp]; simp [psT, hp]
  · intro k hk
    refine un_nC (x := gd cs k) ?_
    rw [← gd_mapl (f := nC) (by omega), h2, map_gd hk]; simp [csC, hk]
theorem set_all {α : Type} {p : α → Prop} {xs : List α} {n : Nat} {v : α} (h : ∀ x ∈ xs, p x) (hv : n < xs.length → p v) : ∀ x ∈ xs.set n v, p x := by
  by_cases hn : n < xs.length
  · intro x hx
    rcases List.mem_or_eq_of_mem_set hx with hx | rfl
    · exact h x hx
    · exact hv hn
  · rw [List.set_eq_of_length_le (by omega)]; exact h
theorem gd_mem {α : Type} [Inhabited α] {xs : List α} {n : Nat} (h : n < xs.length) : gd xs n ∈ xs := by rw [gd_eq h]; exact List.getElem_mem h
theorem fold_lens {c : TConfig} (hf : Fine c) : ∀ (m : Nat), m ≤ (piecesOf c).length → (∀ x ∈ (foldUp c m).ps, x.Tables.xs.length ≤ m) ∧ (∀ x ∈ (foldUp c m).cs, x.Dests.xs.length ≤ m)
  | 0, _ => by
    constructor
    · intro x hx
      simp only [foldUp, List.take_zero, List.foldl_nil, F0, List.mem_map] at hx
      obtain ⟨_, _, rfl⟩ := hx; exact Nat.le_refl _
    · intro x hx
      simp only [foldUp, List.take_zero, List.foldl_nil, F0, List.mem_map] at hx
      obtain ⟨_, _, rfl⟩ := hx; exact Nat.le_refl _
  | m + 1, h => by
    obtain ⟨i1, i2⟩ := fold_lens hf m (by omega)
    have j1 : ∀ x ∈ (foldUp c m).ps, x.Tables.xs.length ≤ m + 1 := fun x hx => Nat.le_succ_of_le (i1 x hx)
    have j2 : ∀ x ∈ (foldUp c m).cs, x.Dests.xs.length ≤ m + 1 := fun x hx => Nat.le_succ_of_le (i2 x hx)
    obtain ⟨a1, a2, -⟩ := pc_in hf (show m < (piecesOf c).length by omega)
    rw [foldUp_succ (by omega)]
    generalize gd (piecesOf c) m = y at *
    have hk : y.Owner.Kind = 2 ∨ y.Owner.Kind = 3 ∨ y.Owner.Kind = 4 ∨ y.Owner.Kind = 5 ∨ y.Owner.Kind = 6 ∨ y.Owner.Kind = 7 ∨ y.Owner.Kind = 8 ∨ y.Owner.Kind = 9 := by omega
    rcases hk with h | h | h | h | h | h | h | h
    · rw [st2 _ _ h]; exact ⟨j1, j2⟩
    · rw [st3 _ _ h]; exact ⟨set_all j1 (fun hn => show (gd (foldUp c m).ps y.Owner.Index.toNat).Tables.xs.length ≤ m + 1 from j1 _ (gd_mem hn)), j2⟩
    · rw [st4 _ _ h]; exact ⟨set_all j1 (fun hn => show (gd (foldUp c m).ps y.Owner.Index.toNat).Tables.xs.length ≤ m + 1 from j1 _ (gd_mem hn)), j2⟩
    · rw [st5 _ _ h]; exact ⟨set_all j1 (fun hn => show (gd (foldUp c m).ps y.Owner.Index.toNat).Tables.xs.length ≤ m + 1 from j1 _ (gd_mem hn)), j2⟩
    · rw [st6 _ _ h]; exact ⟨j1, set_all j2 (fun hn => show (gd (foldUp c m).cs y.Owner.Index.toNat).Dests.xs.length ≤ m + 1 from j2 _ (gd_mem hn))⟩
    · rw [st7 _ _ h]; exact ⟨j1, set_all j2 (fun hn => show (gd (foldUp c m).cs y.Owner.Index.toNat).Dests.xs.length ≤ m + 1 from j2 _ (gd_mem hn))⟩
    · rw [st8 _ _ h]
      refine ⟨j1, set_all j2 (fun hn => ?_)⟩
      have := i2 _ (gd_mem hn)
      simp only [dstF, List.length_append, List.length_singleton]; omega
    · rw [st9 _ _ h]
      refine ⟨set_all j1 (fun hn => ?_), j2⟩
      have := i1 _ (gd_mem hn)
      unfold tabF
      split
      · exact Nat.le_succ_of_le this
      · simp only [List.length_append, List.length_singleton]; omega
theorem tabF_pos {p : TPartitionPlace} {a : Int} (h : p.Root = 0) : tabF p a = { p with Root := a / 16 } := by unfold tabF; rw [if_pos h]
theorem tabF_neg {p : TPartitionPlace} {a : Int} (h : ¬ p.Root = 0) : tabF p a = { p with Tables := ⟨none, 0, p.Tables.xs ++ [a / 16]⟩ } := by unfold tabF; rw [if_neg h]

end Go.Proofs.Ytpoeaajkgblkmaa.Ly
