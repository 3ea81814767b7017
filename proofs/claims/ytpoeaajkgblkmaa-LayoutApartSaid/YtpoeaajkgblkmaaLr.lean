/- layout: whose a word is, plain; region. No conditions. -/
import Derived.Test.YtpoeaajkgblkmaaLo
namespace Go.Proofs.Ytpoeaajkgblkmaa.Ly
open Go Go.Proofs.Ytpoeaajkgblkmaa.Eng Go.Proofs.Ytpoeaajkgblkmaa.Mem
set_option linter.unusedSimpArgs false
set_option linter.unusedVariables false
set_option maxRecDepth 100000
/-- Pieces in their order, between two words. -/
def SortedIn (l : List TPiece) (a b : Int) : Prop := l.Pairwise (fun x y => x.At + x.Size ≤ y.At) ∧ (∀ y ∈ l, a ≤ y.At ∧ 0 ≤ y.Size ∧ y.At + y.Size ≤ b) ∧ a ≤ b
theorem SortedIn.nil {a b : Int} (h : a ≤ b) : SortedIn [] a b := ⟨List.Pairwise.nil, fun y hy => absurd hy List.not_mem_nil, h⟩
theorem SortedIn.one {y : TPiece} {a b : Int} (h1 : a ≤ y.At) (h2 : 0 ≤ y.Size) (h3 : y.At + y.Size ≤ b) : SortedIn [y] a b := ⟨List.pairwise_singleton _ _, fun x hx => by simp only [List.mem_singleton] at hx; subst hx; exact ⟨h1, h2, h3⟩, by omega⟩
theorem SortedIn.app {l m : List TPiece} {a b c : Int} (h : SortedIn l a b) (k : SortedIn m b c) : SortedIn (l ++ m) a c := by
  refine ⟨List.pairwise_append.2 ⟨h.1, k.1, fun x hx y hy => ?_⟩, fun y hy => ?_, Int.le_trans h.2.2 k.2.2⟩
  · have := h.2.1 x hx; have := k.2.1 y hy; omega
  · have h1 := h.2.2; have h2 := k.2.2
    rcases List.mem_append.1 hy with hy | hy
    · have := h.2.1 y hy; omega
    · have := k.2.1 y hy; omega
theorem SortedIn.weaken {l : List TPiece} {a b b' : Int} (h : SortedIn l a b) (hb : b ≤ b') : SortedIn l a b' := ⟨h.1, fun y hy => by have := h.2.1 y hy; omega, by have := h.2.2; omega⟩
theorem sorted_P (c : TConfig) : ∀ (i : Nat), SortedIn (pcP c i) (16 * c.Kernel) (pAt c i)
  | 0 => SortedIn.one (y := ⟨16 * c.Kernel, 2, ⟨2, 0, 0⟩⟩) (Int.le_refl _) (by simp only; decide) (by unfold pAt; simp only; omega)
  | i + 1 => by
    rw [pcP_succ]
    refine (((sorted_P c i).app (SortedIn.one (b := pAt c i + 2) (Int.le_refl _) (by simp only; decide) (Int.le_refl _))).app (SortedIn.one (b := pAt c i + 2 + 17) (Int.le_refl _) (by simp only; decide) (Int.le_refl _))).app (SortedIn.one (Int.le_refl _) (by simp only; decide) ?_)
    unfold pAt; simp only; omega
theorem sorted_dests (c : TConfig) (k : Nat) (l : List Tend) : ∀ (j : Nat), SortedIn ((List.range j).map (fun j => pcDest c k (gd l j) j)) (dAt c k 0) (dAt c k j)
  | 0 => SortedIn.nil (Int.le_refl _)
  | j + 1 => by
    have hp := port_bd (gd c.Channels.xs k)
    rw [List.range_succ, List.map_append]
    exact (sorted_dests c k l j).app (SortedIn.one (Int.le_refl _) hp.1 (by rw [dAt_succ]; exact Int.le_refl _))
theorem sorted_C (c : TConfig) : ∀ (k : Nat), SortedIn (pcC c k) (cAt c 0) (cAt c k)
  | 0 => SortedIn.nil (Int.le_refl _)
  | k + 1 => by
    have hs := stage_bd (gd c.Channels.xs k)
    rw [pcC_succ, pcChan, cAt_succ]
    have h2 : SortedIn ([⟨cAt c k, 2, ⟨6, (k : Int), 0⟩⟩] ++ [⟨cAt c k + 2, stageOf (gd c.Channels.xs k), ⟨7, (k : Int), 0⟩⟩]) (cAt c k) (dAt c k 0) :=
      (SortedIn.one (b := cAt c k + 2) (Int.le_refl _) (by simp only; decide) (Int.le_refl _)).app (SortedIn.one (Int.le_refl _) hs.1 (by unfold dAt; simp only; omega))
    exact (sorted_C c k).app (h2.app (sorted_dests c k _ _))
theorem sorted_tabs (c : TConfig) (p : Nat) : ∀ (n : Nat), SortedIn (pcTabs c p n) (16 * tAt c p) (16 * (tAt c p + (n : Int)))
  | 0 => SortedIn.nil (by omega)
  | n + 1 => by
    rw [pcTabs_succ]
    exact (sorted_tabs c p n).app (SortedIn.one (Int.le_refl _) (by simp only; decide) (by simp only; omega))
theorem sorted_T (c : TConfig) : ∀ (p : Nat), SortedIn (pcT c p) (16 * tAt c 0) (16 * tAt c p)
  | 0 => SortedIn.nil (Int.le_refl _)
  | p + 1 => by
    rw [pcT_succ]
    exact (sorted_T c p).app ((sorted_tabs c p _).weaken (by rw [tAt_succ]; omega))
theorem sorted_all (c : TConfig) : SortedIn (piecesOf c) (16 * c.Kernel) (16 * tAt c c.Partitions.xs.length) := by
  unfold piecesOf
  refine ((sorted_P c _).app (sorted_C c _)).weaken (b' := 16 * tAt c 0) ?_ |>.app (sorted_T c _)
  show cAt c c.Channels.xs.length ≤ 16 * frame0 c
  unfold frame0; omega
/-- Whose a word is, by a list of pieces. -/
def hit (at_ : Int) (y : TPiece) : Bool := decide (y.At ≤ at_ ∧ at_ < y.At + y.Size)
theorem hit_once {l : List TPiece} {a b at_ : Int} (h : SortedIn l a b) : ∀ x ∈ l, ∀ y ∈ l, hit at_ x = true → hit at_ y = true → x = y := by
  have hp := h.1
  have hall := h.2.1
  clear h
  induction l with
  | nil => intro x hx; cases hx
  | cons z l ih =>
    rw [List.pairwise_cons] at hp
    intro x hx y hy h1 h2
    unfold hit at h1 h2
    rw [decide_eq_true_eq] at h1 h2
    rcases List.mem_cons.1 hx with rfl | hx' <;> rcases List.mem_cons.1 hy with rfl | hy'
    · rfl
    · have := hp.1 y hy'; omega
    · have := hp.1 x hx'; omega
    · exact ih hp.2 (fun q hq => hall q (List.mem_cons_of_mem _ hq)) x hx' y hy' (by unfold hit; exact decide_eq_true h1) (by unfold hit; exact decide_eq_true h2)
theorem find_perm {α : Type} {p : α → Bool} {l m : List α} (hlm : l.Perm m) (h : ∀ x ∈ l, ∀ y ∈ l, p x = true → p y = true → x = y) : l.find? p = m.find? p := by
  cases h1 : l.find? p with
  | none =>
    rw [List.find?_eq_none] at h1
    symm; rw [List.find?_eq_none]
    exact fun x hx => h1 x (hlm.mem_iff.2 hx)
  | some x =>
    have hx := List.mem_of_find?_eq_some h1
    have hpx := List.find?_some h1
    cases h2 : m.find? p with
    | none => rw [List.find?_eq_none] at h2; exact absurd hpx (h2 x (hlm.mem_iff.1 hx))
    | some y =>
      have hy := hlm.mem_iff.2 (List.mem_of_find?_eq_some h2)
      rw [h x hx y hy hpx (List.find?_some h2)]
theorem flat_perm {α : Type} (A B : Nat → List α) : ∀ (n : Nat), ((List.range n).flatMap (fun i => A i ++ B i)).Perm ((List.range n).flatMap A ++ (List.range n).flatMap B)
  | 0 => by simp
  | n + 1 => by
    rw [List.range_succ, List.flatMap_append, List.flatMap_append, List.flatMap_append]
    simp only [List.flatMap_cons, List.flatMap_nil, List.append_nil]
    refine ((flat_perm A B n).append_right _).trans ?_
    rw [List.append_assoc, List.append_assoc]
    refine List.Perm.append_left _ ?_
    rw [← List.append_assoc, ← List.append_assoc]
    exact List.Perm.append_right _ List.perm_append_comm
/-- The pieces as layout tells them. -/
def layPcs (c : TConfig) : List TPiece := [⟨16 * c.Kernel, 2, ⟨2, 0, 0⟩⟩] ++ (List.range c.Partitions.xs.length).flatMap (fun i => pcPart c i ++ pcTabs c i (1 + tabsN (gd c.Partitions.xs i))) ++ pcC c c.Channels.xs.length
theorem lay_perm (c : TConfig) : (piecesOf c).Perm (layPcs c) := by
  unfold piecesOf layPcs pcP pcT
  rw [List.append_assoc, List.append_assoc, List.append_assoc]
  refine List.Perm.append_left _ (List.Perm.symm ?_)
  refine ((flat_perm _ _ _).append_right _).trans ?_
  rw [List.append_assoc]
  exact List.Perm.append_left _ List.perm_append_comm
theorem own_same (c : TConfig) (at_ : Int) : (piecesOf c).find? (hit at_) = (layPcs c).find? (hit at_) := find_perm (lay_perm c) (hit_once (sorted_all c))

def hasF (fr : Int) (g : TRegion) : Bool := decide (0 ≤ g.Frame ∧ g.Frame ≤ 1024 ∧ g.Frame ≤ fr ∧ fr < g.Frame + g.Pages)
def regPart (fr : Int) (x : TPartition) : Bool := x.Regions.xs.any (hasF fr)
def regFind (c : TConfig) (fr : Int) : Option Nat := (List.range c.Partitions.xs.length).find? (fun p => regPart fr (gd c.Partitions.xs p))
def regI (c : TConfig) (fr : Int) : Int := (((regFind c fr).getD 0 : Nat) : Int)
theorem find_first {f : Nat → Bool} {n i : Nat} (hi : i < n) (h1 : ∀ p, p < i → f p = false) (h2 : f i = true) : (List.range n).find? f = some i := by
  rw [List.find?_range_eq_some]
  exact ⟨h2, List.mem_range.2 hi, fun j hj => by simp [h1 j hj]⟩
theorem find_none {f : Nat → Bool} {n : Nat} (h : ∀ p, p < n → f p = false) : (List.range n).find? f = none := by
  rw [List.find?_eq_none]
  intro x hx
  simp [h x (List.mem_range.1 hx)]
abbrev q9ef_0 (n2 : Nat) (y11 : TPartition) : Ch := .blk n2 (.cells (TPartition.arr y11) 76 (0, 0)) true
abbrev q9ef_1 (n13 : Nat) (y22 : TRegion) : Ch := .blk n13 (.cells (TRegion.arr y22) 78 (0, 0)) true
abbrev q9ef_2 (z : Nat) (c : TConfig) : Ch := .blk z (.cells (TConfig.arr c) 30 (0, 0)) true
theorem region_calls (w : World) (c : TConfig) (fr : Int) (hc : TConfig.ok Any w c) (hok : confOk c = true) : Calls Try.prog 44 #[.agg (TConfig.arr c), .int .i64 fr] w fun e w' => e = .returned (.tuple #[.int .i64 (regI c fr), .bool (regFind c fr).isSome]) ∧ Keeps (fun _ => False) w w' := by
 obtain ⟨z, hz⟩ : ∃ z, z = w.heap.size := ⟨_, rfl⟩
 refine calls_G (args := [.agg (TConfig.arr c), .int .i64 fr]) 51 ⟨w, z, [(old0 w)]⟩ Try.func44 rfl (by kernel_rfl) (by kernel_rfl) (sat_0 hz) ?_
 have hfine := fine_of hok; have hkn := hfine.kn; have hpn := hfine.pn; have hcn := hfine.cn
 refine g_keep [0, 1] [(0, .agg (TConfig.arr c)), (1, .int .i64 fr)] ?_
 refine g_seq <| g_region <| l_all 3 [o0, o0, o0] [1, 2] [] [(1, .int .i64 fr), (2, .pointer (some ⟨z, 0, none⟩))] ⟨w, z + 1, [(old0 w), (q9ef_2 z c)]⟩ trivial ?_
 refine e_seq <| g_seq <| g_seq <| g_region <| l_all 4 [o0, (oa [.at 1]), o0, o0] [1, 11, 12, 13] [Qb z] [(1, .int .i64 fr), (11, .slice c.Partitions.a c.Partitions.xs.length c.Partitions.cap), (12, .int .i64 ((c.Partitions.xs.length : Nat) : Int)), (13, .int .i64 0)] ⟨w, z + 1, [(old0 w), (q9ef_2 z c)]⟩ ⟨rfl, trivial⟩ ?_
 refine e_seq <| g_block <| g_loop (fun m a w' => ∃ (n2 : Nat) (i : Nat), m = c.Partitions.xs.length - i ∧ z + 1 ≤ n2 ∧ (i ≤ c.Partitions.xs.length) ∧ (∀ p, p < i → regPart fr (gd c.Partitions.xs p) = false) ∧ St 51 [(1, .int .i64 fr), (11, .slice c.Partitions.a c.Partitions.xs.length c.Partitions.cap), (12, .int .i64 ((c.Partitions.xs.length : Nat) : Int)), (13, .int .i64 (i : Int))] [] ⟨w, n2, [(old0 w), (q9ef_2 z c)]⟩ a w') (c.Partitions.xs.length - 0) ?_ ?_
 · intro a w' hs; exact ⟨(z + 1), 0, rfl, Nat.le_refl _, Nat.zero_le _, fun q hq => absurd hq (Nat.not_lt_zero q), hs⟩
 · rintro m a w' ⟨n2, i, rfl, hn1, hki, hi0, hs⟩
   refine (?_ : G Try.prog 51 [(1, .int .i64 fr), (11, .slice c.Partitions.a c.Partitions.xs.length c.Partitions.cap), (12, .int .i64 ((c.Partitions.xs.length : Nat) : Int)), (13, .int .i64 (i : Int))] [] ⟨w, n2, [(old0 w), (q9ef_2 z c)]⟩ _ _ _) a w' hs
   clear hs a w'
   refine g_seq ?_
   by_cases h3 : ((i : Int) : Int) < ((c.Partitions.xs.length : Nat) : Int)
   · refine g_region <| l_all 1 [oT] [1, 11, 12, 13, 14] [BT (((i : Int) : Int) < ((c.Partitions.xs.length : Nat) : Int))] [(1, .int .i64 fr), (11, .slice c.Partitions.a c.Partitions.xs.length c.Partitions.cap), (12, .int .i64 ((c.Partitions.xs.length : Nat) : Int)), (13, .int .i64 (i : Int)), (14, .bool true)] ⟨w, n2, [(old0 w), (q9ef_2 z c)]⟩ ⟨bt (by omega), trivial⟩ ?_
     refine e_seq <| g_seq <| g_true <| g_skip <| e_seq <| g_seq <| g_block <| g_seq ?_
     obtain ⟨b4, o5, ha6, hF8, hc7⟩ := (hc.Partitions).1.all (show 0 < c.Partitions.xs.length by omega)
     replace ha6 : c.Partitions.a = some ⟨b4, o5, none⟩ := ha6
     refine g_eq [(1, .int .i64 fr), (11, .slice (some ⟨b4, o5, none⟩) c.Partitions.xs.length c.Partitions.cap), (12, .int .i64 ((c.Partitions.xs.length : Nat) : Int)), (13, .int .i64 (i : Int)), (14, .bool true)] (by simp only [ha6]) ?_
     have hc9 := hc7 i (show i < c.Partitions.xs.length by omega)
     have he10 := (hc.Partitions).2 i (show i < c.Partitions.xs.length by omega)
     obtain ⟨y11, hy11⟩ : ∃ y_, y_ = gd c.Partitions.xs i := ⟨_, rfl⟩
     rw [← hy11] at he10 hc9
     have hpt := hfine.parts i (by omega); rw [← hy11] at hpt; have hrr := regs_ok hpt; have hlr := he10.Regions.1.len
     refine g_region <| l_all 6 [o0, (oi i), (ol 0 (TPartition.arr y11)), o0, o0, (oa [.at 2, .at 2, .at 2, .at 2, .at 2, .at 2, .at 2, .at 2])] [1, 11, 12, 13, 7, 6] [((i : Int) : Int) = ((i : Nat) : Int), i < c.Partitions.xs.length, (none : Option Nat) = none, OldR w b4 (o5 + i * 8) (TPartition.arr y11), Qb n2, Qb n2, Qb n2, Qb n2, Qb n2, Qb n2, Qb n2, Qb n2] [(1, .int .i64 fr), (11, .slice (some ⟨b4, o5, none⟩) c.Partitions.xs.length c.Partitions.cap), (12, .int .i64 ((c.Partitions.xs.length : Nat) : Int)), (13, .int .i64 (i : Int)), (7, .pointer (some ⟨n2, 0, none⟩)), (6, .int .i64 (i : Int))] ⟨w, n2 + 1, [(old0 w), (q9ef_2 z c), (q9ef_0 n2 y11)]⟩ ⟨rfl, (by omega), rfl, old_row hc9, rfl, rfl, rfl, rfl, rfl, rfl, rfl, rfl, trivial⟩ ?_
     refine e_seq <| g_seq <| g_region <| l_all 4 [o0, (oa [.at 2]), o0, o0] [1, 11, 12, 13, 6, 19, 20, 21] [Qb n2] [(1, .int .i64 fr), (11, .slice (some ⟨b4, o5, none⟩) c.Partitions.xs.length c.Partitions.cap), (12, .int .i64 ((c.Partitions.xs.length : Nat) : Int)), (13, .int .i64 (i : Int)), (6, .int .i64 (i : Int)), (19, .slice y11.Regions.a y11.Regions.xs.length y11.Regions.cap), (20, .int .i64 ((y11.Regions.xs.length : Nat) : Int)), (21, .int .i64 0)] ⟨w, n2 + 1, [(old0 w), (q9ef_2 z c), (q9ef_0 n2 y11)]⟩ ⟨rfl, trivial⟩ ?_
     refine e_seq <| g_block <| g_keep [1, 6, 11, 12, 13, 19, 20, 21] [(1, .int .i64 fr), (6, .int .i64 (i : Int)), (11, .slice (some ⟨b4, o5, none⟩) c.Partitions.xs.length c.Partitions.cap), (12, .int .i64 ((c.Partitions.xs.length : Nat) : Int)), (13, .int .i64 (i : Int)), (19, .slice y11.Regions.a y11.Regions.xs.length y11.Regions.cap), (20, .int .i64 ((y11.Regions.xs.length : Nat) : Int)), (21, .int .i64 0)] ?_
     refine g_loop (fun m a w' => ∃ (n13 : Nat) (j : Nat), m = y11.Regions.xs.length - j ∧ n2 + 1 ≤ n13 ∧ (j ≤ y11.Regions.xs.length) ∧ (∀ q, q < j → hasF fr (gd y11.Regions.xs q) = false) ∧ St 51 [(1, .int .i64 fr), (6, .int .i64 (i : Int)), (11, .slice (some ⟨b4, o5, none⟩) c.Partitions.xs.length c.Partitions.cap), (12, .int .i64 ((c.Partitions.xs.length : Nat) : Int)), (13, .int .i64 (i : Int)), (19, .slice y11.Regions.a y11.Regions.xs.length y11.Regions.cap), (20, .int .i64 ((y11.Regions.xs.length : Nat) : Int)), (21, .int .i64 (j : Int))] [] ⟨w, n13, [(old0 w), (q9ef_2 z c), (q9ef_0 n2 y11)]⟩ a w') (y11.Regions.xs.length - 0) ?_ ?_
     · intro a w' hs; exact ⟨(n2 + 1), 0, rfl, Nat.le_refl _, Nat.zero_le _, fun q hq => absurd hq (Nat.not_lt_zero q), hs⟩
     · rintro m a w' ⟨n13, j, rfl, hn12, hkj, hj0, hs⟩
       refine (?_ : G Try.prog 51 [(1, .int .i64 fr), (6, .int .i64 (i : Int)), (11, .slice (some ⟨b4, o5, none⟩) c.Partitions.xs.length c.Partitions.cap), (12, .int .i64 ((c.Partitions.xs.length : Nat) : Int)), (13, .int .i64 (i : Int)), (19, .slice y11.Regions.a y11.Regions.xs.length y11.Regions.cap), (20, .int .i64 ((y11.Regions.xs.length : Nat) : Int)), (21, .int .i64 (j : Int))] [] ⟨w, n13, [(old0 w), (q9ef_2 z c), (q9ef_0 n2 y11)]⟩ _ _ _) a w' hs
       clear hs a w'
       refine g_seq ?_
       by_cases h14 : ((j : Int) : Int) < ((y11.Regions.xs.length : Nat) : Int)
       · refine g_region <| l_all 1 [oT] [1, 6, 11, 12, 13, 19, 20, 21, 22] [BT (((j : Int) : Int) < ((y11.Regions.xs.length : Nat) : Int))] [(1, .int .i64 fr), (6, .int .i64 (i : Int)), (11, .slice (some ⟨b4, o5, none⟩) c.Partitions.xs.length c.Partitions.cap), (12, .int .i64 ((c.Partitions.xs.length : Nat) : Int)), (13, .int .i64 (i : Int)), (19, .slice y11.Regions.a y11.Regions.xs.length y11.Regions.cap), (20, .int .i64 ((y11.Regions.xs.length : Nat) : Int)), (21, .int .i64 (j : Int)), (22, .bool true)] ⟨w, n13, [(old0 w), (q9ef_2 z c), (q9ef_0 n2 y11)]⟩ ⟨bt (by omega), trivial⟩ ?_
         refine e_seq <| g_seq <| g_true <| g_skip <| e_seq <| g_seq <| g_block <| g_seq ?_
         obtain ⟨b15, o16, ha17, hF19, hc18⟩ := (he10.Regions).1.all (show 0 < y11.Regions.xs.length by omega)
         replace ha17 : y11.Regions.a = some ⟨b15, o16, none⟩ := ha17
         refine g_eq [(1, .int .i64 fr), (6, .int .i64 (i : Int)), (11, .slice (some ⟨b4, o5, none⟩) c.Partitions.xs.length c.Partitions.cap), (12, .int .i64 ((c.Partitions.xs.length : Nat) : Int)), (13, .int .i64 (i : Int)), (19, .slice (some ⟨b15, o16, none⟩) y11.Regions.xs.length y11.Regions.cap), (20, .int .i64 ((y11.Regions.xs.length : Nat) : Int)), (21, .int .i64 (j : Int)), (22, .bool true)] (by simp only [ha17]) ?_
         have hc20 := hc18 j (show j < y11.Regions.xs.length by omega)
         have he21 := (he10.Regions).2 j (show j < y11.Regions.xs.length by omega)
         obtain ⟨y22, hy22⟩ : ∃ y_, y_ = gd y11.Regions.xs j := ⟨_, rfl⟩
         rw [← hy22] at he21 hc20
         have hrg := hrr j (by omega); rw [← hy22] at hrg; unfold regOk at hrg; rw [decide_eq_true_eq] at hrg
         refine g_region <| l_all 4 [(oi j), (ol 0 (TRegion.arr y22)), o0, (oa [.at 3, .at 3, .at 3, .at 3])] [1, 6, 11, 12, 13, 19, 20, 21, 9] [((j : Int) : Int) = ((j : Nat) : Int), j < y11.Regions.xs.length, (none : Option Nat) = none, OldR w b15 (o16 + j * 4) (TRegion.arr y22), Qb n13, Qb n13, Qb n13, Qb n13] [(1, .int .i64 fr), (6, .int .i64 (i : Int)), (11, .slice (some ⟨b4, o5, none⟩) c.Partitions.xs.length c.Partitions.cap), (12, .int .i64 ((c.Partitions.xs.length : Nat) : Int)), (13, .int .i64 (i : Int)), (19, .slice (some ⟨b15, o16, none⟩) y11.Regions.xs.length y11.Regions.cap), (20, .int .i64 ((y11.Regions.xs.length : Nat) : Int)), (21, .int .i64 (j : Int)), (9, .pointer (some ⟨n13, 0, none⟩))] ⟨w, n13 + 1, [(old0 w), (q9ef_2 z c), (q9ef_0 n2 y11), (q9ef_1 n13 y22)]⟩ ⟨rfl, (by omega), rfl, old_row hc20, rfl, rfl, rfl, rfl, trivial⟩ ?_
         refine e_seq <| g_seq ?_
         by_cases h23 : (y22.Frame : Int) < 0
         · refine g_region <| l_all 23 [o0, (oa [.at 3]), oF, o0, o0, o0, o0, o0, o0] [1, 6, 11, 12, 13, 19, 20, 21, 47] [Qb n13, BF ((y22.Frame : Int) ≥ 0)] [(1, .int .i64 fr), (6, .int .i64 (i : Int)), (11, .slice (some ⟨b4, o5, none⟩) c.Partitions.xs.length c.Partitions.cap), (12, .int .i64 ((c.Partitions.xs.length : Nat) : Int)), (13, .int .i64 (i : Int)), (19, .slice (some ⟨b15, o16, none⟩) y11.Regions.xs.length y11.Regions.cap), (20, .int .i64 ((y11.Regions.xs.length : Nat) : Int)), (21, .int .i64 (j : Int)), (47, .bool false)] ⟨w, n13 + 1, [(old0 w), (q9ef_2 z c), (q9ef_0 n2 y11), (q9ef_1 n13 y22)]⟩ ⟨rfl, bf (by omega), trivial⟩ ?_
           refine e_seq <| g_false <| g_skip <| e_blk <| e_seq <| g_region <| l_all 2 [(ov (.int .i64 ((j + 1 : Nat) : Int))), o0] [1, 6, 11, 12, 13, 19, 20, 21] [Value.int .i64 (IntKind.i64.wrap (((j : Int) : Int) + 1)) = Value.int .i64 (((j + 1 : Nat) : Int))] [(1, .int .i64 fr), (6, .int .i64 (i : Int)), (11, .slice (some ⟨b4, o5, none⟩) c.Partitions.xs.length c.Partitions.cap), (12, .int .i64 ((c.Partitions.xs.length : Nat) : Int)), (13, .int .i64 (i : Int)), (19, .slice (some ⟨b15, o16, none⟩) y11.Regions.xs.length y11.Regions.cap), (20, .int .i64 ((y11.Regions.xs.length : Nat) : Int)), (21, .int .i64 ((j + 1 : Nat) : Int))] ⟨w, n13 + 1, [(old0 w), (q9ef_2 z c), (q9ef_0 n2 y11), (q9ef_1 n13 y22)]⟩ ⟨congrArg (Value.int .i64) (wr_i64 (by omega) (by omega) (by omega)), trivial⟩ ?_
           refine e_pick [0, 1, 2] [(old0 w), (q9ef_2 z c), (q9ef_0 n2 y11)] rfl rfl ?_
           refine e_eqk [1, 6, 11, 12, 13, 19, 20, 21] [(1, .int .i64 fr), (6, .int .i64 (i : Int)), (11, .slice (some ⟨b4, o5, none⟩) c.Partitions.xs.length c.Partitions.cap), (12, .int .i64 ((c.Partitions.xs.length : Nat) : Int)), (13, .int .i64 (i : Int)), (19, .slice y11.Regions.a y11.Regions.xs.length y11.Regions.cap), (20, .int .i64 ((y11.Regions.xs.length : Nat) : Int)), (21, .int .i64 ((j + 1 : Nat) : Int))] (by simp only [ha17]; rfl) ?_
           refine e_inv (fun a w' hs => ⟨y11.Regions.xs.length - (j + 1), by omega, (n13 + 1), (j + 1), rfl, by omega, by omega, upto hj0 (by rw [← hy22]; exact decide_eq_false (by omega)), hs⟩)
         · by_cases h24 : (1024 : Int) < y22.Frame
           · refine g_region <| l_all 23 [o0, (oa [.at 3]), oT, o0, o0, (oa [.at 3]), oF, o0, o0, o0, o0, o0] [1, 6, 11, 12, 13, 19, 20, 21, 47] [Qb n13, BT ((y22.Frame : Int) ≥ 0), Qb n13, BF ((y22.Frame : Int) ≤ 1024)] [(1, .int .i64 fr), (6, .int .i64 (i : Int)), (11, .slice (some ⟨b4, o5, none⟩) c.Partitions.xs.length c.Partitions.cap), (12, .int .i64 ((c.Partitions.xs.length : Nat) : Int)), (13, .int .i64 (i : Int)), (19, .slice (some ⟨b15, o16, none⟩) y11.Regions.xs.length y11.Regions.cap), (20, .int .i64 ((y11.Regions.xs.length : Nat) : Int)), (21, .int .i64 (j : Int)), (47, .bool false)] ⟨w, n13 + 1, [(old0 w), (q9ef_2 z c), (q9ef_0 n2 y11), (q9ef_1 n13 y22)]⟩ ⟨rfl, bt (by omega), rfl, bf (by omega), trivial⟩ ?_
             refine e_seq <| g_false <| g_skip <| e_blk <| e_seq <| g_region <| l_all 2 [(ov (.int .i64 ((j + 1 : Nat) : Int))), o0] [1, 6, 11, 12, 13, 19, 20, 21] [Value.int .i64 (IntKind.i64.wrap (((j : Int) : Int) + 1)) = Value.int .i64 (((j + 1 : Nat) : Int))] [(1, .int .i64 fr), (6, .int .i64 (i : Int)), (11, .slice (some ⟨b4, o5, none⟩) c.Partitions.xs.length c.Partitions.cap), (12, .int .i64 ((c.Partitions.xs.length : Nat) : Int)), (13, .int .i64 (i : Int)), (19, .slice (some ⟨b15, o16, none⟩) y11.Regions.xs.length y11.Regions.cap), (20, .int .i64 ((y11.Regions.xs.length : Nat) : Int)), (21, .int .i64 ((j + 1 : Nat) : Int))] ⟨w, n13 + 1, [(old0 w), (q9ef_2 z c), (q9ef_0 n2 y11), (q9ef_1 n13 y22)]⟩ ⟨congrArg (Value.int .i64) (wr_i64 (by omega) (by omega) (by omega)), trivial⟩ ?_
             refine e_pick [0, 1, 2] [(old0 w), (q9ef_2 z c), (q9ef_0 n2 y11)] rfl rfl ?_
             refine e_eqk [1, 6, 11, 12, 13, 19, 20, 21] [(1, .int .i64 fr), (6, .int .i64 (i : Int)), (11, .slice (some ⟨b4, o5, none⟩) c.Partitions.xs.length c.Partitions.cap), (12, .int .i64 ((c.Partitions.xs.length : Nat) : Int)), (13, .int .i64 (i : Int)), (19, .slice y11.Regions.a y11.Regions.xs.length y11.Regions.cap), (20, .int .i64 ((y11.Regions.xs.length : Nat) : Int)), (21, .int .i64 ((j + 1 : Nat) : Int))] (by simp only [ha17]; rfl) ?_
             refine e_inv (fun a w' hs => ⟨y11.Regions.xs.length - (j + 1), by omega, (n13 + 1), (j + 1), rfl, by omega, by omega, upto hj0 (by rw [← hy22]; exact decide_eq_false (by omega)), hs⟩)
           · by_cases h25 : (fr : Int) < y22.Frame
             · refine g_region <| l_all 23 [o0, (oa [.at 3]), oT, o0, o0, (oa [.at 3]), oT, o0, o0, o0, o0, (oa [.at 3]), oF, o0, o0, o0] [1, 6, 11, 12, 13, 19, 20, 21, 47] [Qb n13, BT ((y22.Frame : Int) ≥ 0), Qb n13, BT ((y22.Frame : Int) ≤ 1024), Qb n13, BF ((fr : Int) ≥ y22.Frame)] [(1, .int .i64 fr), (6, .int .i64 (i : Int)), (11, .slice (some ⟨b4, o5, none⟩) c.Partitions.xs.length c.Partitions.cap), (12, .int .i64 ((c.Partitions.xs.length : Nat) : Int)), (13, .int .i64 (i : Int)), (19, .slice (some ⟨b15, o16, none⟩) y11.Regions.xs.length y11.Regions.cap), (20, .int .i64 ((y11.Regions.xs.length : Nat) : Int)), (21, .int .i64 (j : Int)), (47, .bool false)] ⟨w, n13 + 1, [(old0 w), (q9ef_2 z c), (q9ef_0 n2 y11), (q9ef_1 n13 y22)]⟩ ⟨rfl, bt (by omega), rfl, bt (by omega), rfl, bf (by omega), trivial⟩ ?_
               refine e_seq <| g_false <| g_skip <| e_blk <| e_seq <| g_region <| l_all 2 [(ov (.int .i64 ((j + 1 : Nat) : Int))), o0] [1, 6, 11, 12, 13, 19, 20, 21] [Value.int .i64 (IntKind.i64.wrap (((j : Int) : Int) + 1)) = Value.int .i64 (((j + 1 : Nat) : Int))] [(1, .int .i64 fr), (6, .int .i64 (i : Int)), (11, .slice (some ⟨b4, o5, none⟩) c.Partitions.xs.length c.Partitions.cap), (12, .int .i64 ((c.Partitions.xs.length : Nat) : Int)), (13, .int .i64 (i : Int)), (19, .slice (some ⟨b15, o16, none⟩) y11.Regions.xs.length y11.Regions.cap), (20, .int .i64 ((y11.Regions.xs.length : Nat) : Int)), (21, .int .i64 ((j + 1 : Nat) : Int))] ⟨w, n13 + 1, [(old0 w), (q9ef_2 z c), (q9ef_0 n2 y11), (q9ef_1 n13 y22)]⟩ ⟨congrArg (Value.int .i64) (wr_i64 (by omega) (by omega) (by omega)), trivial⟩ ?_
               refine e_pick [0, 1, 2] [(old0 w), (q9ef_2 z c), (q9ef_0 n2 y11)] rfl rfl ?_
               refine e_eqk [1, 6, 11, 12, 13, 19, 20, 21] [(1, .int .i64 fr), (6, .int .i64 (i : Int)), (11, .slice (some ⟨b4, o5, none⟩) c.Partitions.xs.length c.Partitions.cap), (12, .int .i64 ((c.Partitions.xs.length : Nat) : Int)), (13, .int .i64 (i : Int)), (19, .slice y11.Regions.a y11.Regions.xs.length y11.Regions.cap), (20, .int .i64 ((y11.Regions.xs.length : Nat) : Int)), (21, .int .i64 ((j + 1 : Nat) : Int))] (by simp only [ha17]; rfl) ?_
               refine e_inv (fun a w' hs => ⟨y11.Regions.xs.length - (j + 1), by omega, (n13 + 1), (j + 1), rfl, by omega, by omega, upto hj0 (by rw [← hy22]; exact decide_eq_false (by omega)), hs⟩)
             · by_cases h26 : (fr : Int) < y22.Frame + y22.Pages
               · refine g_region <| l_all 23 [o0, (oa [.at 3]), oT, o0, o0, (oa [.at 3]), oT, o0, o0, o0, o0, (oa [.at 3]), oT, o0, o0, o0, o0, (oa [.at 3]), o0, (oa [.at 3]), (ov (.int .i64 (y22.Frame + y22.Pages))), oT, o0] [1, 6, 11, 12, 13, 19, 20, 21, 47] [Qb n13, BT ((y22.Frame : Int) ≥ 0), Qb n13, BT ((y22.Frame : Int) ≤ 1024), Qb n13, BT ((fr : Int) ≥ y22.Frame), Qb n13, Qb n13, Value.int .i64 (IntKind.i64.wrap ((y22.Frame : Int) + y22.Pages)) = Value.int .i64 (y22.Frame + y22.Pages), BT ((fr : Int) < (y22.Frame + y22.Pages))] [(1, .int .i64 fr), (6, .int .i64 (i : Int)), (11, .slice (some ⟨b4, o5, none⟩) c.Partitions.xs.length c.Partitions.cap), (12, .int .i64 ((c.Partitions.xs.length : Nat) : Int)), (13, .int .i64 (i : Int)), (19, .slice (some ⟨b15, o16, none⟩) y11.Regions.xs.length y11.Regions.cap), (20, .int .i64 ((y11.Regions.xs.length : Nat) : Int)), (21, .int .i64 (j : Int)), (47, .bool true)] ⟨w, n13 + 1, [(old0 w), (q9ef_2 z c), (q9ef_0 n2 y11), (q9ef_1 n13 y22)]⟩ ⟨rfl, bt (by omega), rfl, bt (by omega), rfl, bt (by omega), rfl, rfl, congrArg (Value.int .i64) (wr_i64 (by omega) (by omega) (by omega)), bt (by omega), trivial⟩ ?_
                 refine e_seq <| g_true <| g_seq <| g_region <| l_all 3 [o0, o0, o0] [4, 5] [] [(4, .int .i64 (i : Int)), (5, .bool true)] ⟨w, n13 + 1, [(old0 w), (q9ef_2 z c), (q9ef_0 n2 y11), (q9ef_1 n13 y22)]⟩ trivial ?_
                 refine e_seq <| g_ret <| e_ret [] [] (.tuple #[.int .i64 (i : Int), .bool true]) trivial ?_
                 intro w27 hw27
                 have hF : regFind c fr = some i := find_first (by omega) hi0 (by rw [← hy11]; exact any_yes (k := j) (by omega) (by rw [← hy22]; exact decide_eq_true ⟨by omega, by omega, by omega, by omega⟩))
                 refine ⟨?_, hw27.back rfl (show w.heap.size ≤ n13 + 1 by omega) (List.mem_cons_self ..)⟩
                 unfold regI; rw [hF]; rfl
               · refine g_region <| l_all 23 [o0, (oa [.at 3]), oT, o0, o0, (oa [.at 3]), oT, o0, o0, o0, o0, (oa [.at 3]), oT, o0, o0, o0, o0, (oa [.at 3]), o0, (oa [.at 3]), (ov (.int .i64 (y22.Frame + y22.Pages))), oF, o0] [1, 6, 11, 12, 13, 19, 20, 21, 47] [Qb n13, BT ((y22.Frame : Int) ≥ 0), Qb n13, BT ((y22.Frame : Int) ≤ 1024), Qb n13, BT ((fr : Int) ≥ y22.Frame), Qb n13, Qb n13, Value.int .i64 (IntKind.i64.wrap ((y22.Frame : Int) + y22.Pages)) = Value.int .i64 (y22.Frame + y22.Pages), BF ((fr : Int) < (y22.Frame + y22.Pages))] [(1, .int .i64 fr), (6, .int .i64 (i : Int)), (11, .slice (some ⟨b4, o5, none⟩) c.Partitions.xs.length c.Partitions.cap), (12, .int .i64 ((c.Partitions.xs.length : Nat) : Int)), (13, .int .i64 (i : Int)), (19, .slice (some ⟨b15, o16, none⟩) y11.Regions.xs.length y11.Regions.cap), (20, .int .i64 ((y11.Regions.xs.length : Nat) : Int)), (21, .int .i64 (j : Int)), (47, .bool false)] ⟨w, n13 + 1, [(old0 w), (q9ef_2 z c), (q9ef_0 n2 y11), (q9ef_1 n13 y22)]⟩ ⟨rfl, bt (by omega), rfl, bt (by omega), rfl, bt (by omega), rfl, rfl, congrArg (Value.int .i64) (wr_i64 (by omega) (by omega) (by omega)), bf (by omega), trivial⟩ ?_
                 refine e_seq <| g_false <| g_skip <| e_blk <| e_seq <| g_region <| l_all 2 [(ov (.int .i64 ((j + 1 : Nat) : Int))), o0] [1, 6, 11, 12, 13, 19, 20, 21] [Value.int .i64 (IntKind.i64.wrap (((j : Int) : Int) + 1)) = Value.int .i64 (((j + 1 : Nat) : Int))] [(1, .int .i64 fr), (6, .int .i64 (i : Int)), (11, .slice (some ⟨b4, o5, none⟩) c.Partitions.xs.length c.Partitions.cap), (12, .int .i64 ((c.Partitions.xs.length : Nat) : Int)), (13, .int .i64 (i : Int)), (19, .slice (some ⟨b15, o16, none⟩) y11.Regions.xs.length y11.Regions.cap), (20, .int .i64 ((y11.Regions.xs.length : Nat) : Int)), (21, .int .i64 ((j + 1 : Nat) : Int))] ⟨w, n13 + 1, [(old0 w), (q9ef_2 z c), (q9ef_0 n2 y11), (q9ef_1 n13 y22)]⟩ ⟨congrArg (Value.int .i64) (wr_i64 (by omega) (by omega) (by omega)), trivial⟩ ?_
                 refine e_pick [0, 1, 2] [(old0 w), (q9ef_2 z c), (q9ef_0 n2 y11)] rfl rfl ?_
                 refine e_eqk [1, 6, 11, 12, 13, 19, 20, 21] [(1, .int .i64 fr), (6, .int .i64 (i : Int)), (11, .slice (some ⟨b4, o5, none⟩) c.Partitions.xs.length c.Partitions.cap), (12, .int .i64 ((c.Partitions.xs.length : Nat) : Int)), (13, .int .i64 (i : Int)), (19, .slice y11.Regions.a y11.Regions.xs.length y11.Regions.cap), (20, .int .i64 ((y11.Regions.xs.length : Nat) : Int)), (21, .int .i64 ((j + 1 : Nat) : Int))] (by simp only [ha17]; rfl) ?_
                 refine e_inv (fun a w' hs => ⟨y11.Regions.xs.length - (j + 1), by omega, (n13 + 1), (j + 1), rfl, by omega, by omega, upto hj0 (by rw [← hy22]; exact decide_eq_false (by omega)), hs⟩)
       · refine g_region <| l_all 1 [oF] [1, 6, 11, 12, 13, 19, 20, 21, 22] [BF (((j : Int) : Int) < ((y11.Regions.xs.length : Nat) : Int))] [(1, .int .i64 fr), (6, .int .i64 (i : Int)), (11, .slice (some ⟨b4, o5, none⟩) c.Partitions.xs.length c.Partitions.cap), (12, .int .i64 ((c.Partitions.xs.length : Nat) : Int)), (13, .int .i64 (i : Int)), (19, .slice y11.Regions.a y11.Regions.xs.length y11.Regions.cap), (20, .int .i64 ((y11.Regions.xs.length : Nat) : Int)), (21, .int .i64 (j : Int)), (22, .bool false)] ⟨w, n13, [(old0 w), (q9ef_2 z c), (q9ef_0 n2 y11)]⟩ ⟨bf (by omega), trivial⟩ ?_
         refine e_seq <| g_seq <| g_false <| g_exit <| e_out <| e_outI <| e_hit <| e_blk <| e_seq <| g_region <| l_all 2 [(ov (.int .i64 ((i + 1 : Nat) : Int))), o0] [1, 11, 12, 13] [Value.int .i64 (IntKind.i64.wrap (((i : Int) : Int) + 1)) = Value.int .i64 (((i + 1 : Nat) : Int))] [(1, .int .i64 fr), (11, .slice (some ⟨b4, o5, none⟩) c.Partitions.xs.length c.Partitions.cap), (12, .int .i64 ((c.Partitions.xs.length : Nat) : Int)), (13, .int .i64 ((i + 1 : Nat) : Int))] ⟨w, n13, [(old0 w), (q9ef_2 z c), (q9ef_0 n2 y11)]⟩ ⟨congrArg (Value.int .i64) (wr_i64 (by omega) (by omega) (by omega)), trivial⟩ ?_
         refine e_pick [0, 1] [(old0 w), (q9ef_2 z c)] rfl rfl ?_
         refine e_eqk [1, 11, 12, 13] [(1, .int .i64 fr), (11, .slice c.Partitions.a c.Partitions.xs.length c.Partitions.cap), (12, .int .i64 ((c.Partitions.xs.length : Nat) : Int)), (13, .int .i64 ((i + 1 : Nat) : Int))] (by simp only [ha6]; rfl) ?_
         refine e_inv (fun a w' hs => ⟨c.Partitions.xs.length - (i + 1), by omega, n13, (i + 1), rfl, by omega, by omega, upto hi0 (by rw [← hy11]; exact any_no (fun q hq => hj0 q (by omega))), hs⟩)
   · refine g_region <| l_all 1 [oF] [1, 11, 12, 13, 14] [BF (((i : Int) : Int) < ((c.Partitions.xs.length : Nat) : Int))] [(1, .int .i64 fr), (11, .slice c.Partitions.a c.Partitions.xs.length c.Partitions.cap), (12, .int .i64 ((c.Partitions.xs.length : Nat) : Int)), (13, .int .i64 (i : Int)), (14, .bool false)] ⟨w, n2, [(old0 w), (q9ef_2 z c)]⟩ ⟨bf (by omega), trivial⟩ ?_
     refine e_seq <| g_seq <| g_false <| g_exit <| e_out <| e_outI <| e_hit <| e_seq <| g_seq <| g_region <| l_all 2 [o0, o0] [4, 5] [] [(4, .int .i64 0), (5, .bool false)] ⟨w, n2, [(old0 w), (q9ef_2 z c)]⟩ trivial ?_
     refine e_seq <| g_ret <| e_ret [] [] (.tuple #[.int .i64 0, .bool false]) trivial ?_
     intro w28 hw28
     have hF : regFind c fr = none := find_none (fun p hp => hi0 p (by omega))
     refine ⟨?_, hw28.back rfl (show w.heap.size ≤ n2 by omega) (List.mem_cons_self ..)⟩
     unfold regI; rw [hF]; rfl

end Go.Proofs.Ytpoeaajkgblkmaa.Ly
