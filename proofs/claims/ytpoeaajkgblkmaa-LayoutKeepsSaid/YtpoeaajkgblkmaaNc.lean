/- LayoutKeeps: plain. No conditions. -/
import Derived.Test.YtpoeaajkgblkmaaNb
import Derived.Test.YtpoeaajkgblkmaaLq
import Derived.Test.YtpoeaajkgblkmaaEngL
namespace Go.Proofs.Ytpoeaajkgblkmaa.Ly
open Go Go.Proofs.Ytpoeaajkgblkmaa.Eng Go.Proofs.Ytpoeaajkgblkmaa.Mem
set_option linter.unusedSimpArgs false
set_option linter.unusedVariables false
set_option maxRecDepth 100000

def LayOr (c : TConfig) (L : TLayout) : Prop := (confOk c = true ∧ IsLay c L) ∨ (¬ confOk c = true ∧ L = noLay)
theorem LayOr.same {c : TConfig} {a b : TLayout} (ha : LayOr c a) (hb : LayOr c b) : SameL a b := by
  rcases ha with ⟨h1, ha⟩ | ⟨h1, rfl⟩ <;> rcases hb with ⟨h2, hb⟩ | ⟨h2, rfl⟩
  · exact same_of ha hb
  · exact absurd h1 h2
  · exact absurd h2 h1
  · exact same_no
theorem LayOr.bd {c : TConfig} {L : TLayout} (h : LayOr c L) : L.Partitions.xs.length ≤ 8 ∧ L.Channels.xs.length ≤ 16 ∧ (∀ p, p < L.Partitions.xs.length → (gd L.Partitions.xs p).Tables.xs.length ≤ 16) ∧ (∀ p, p < L.Channels.xs.length → (gd L.Channels.xs p).Dests.xs.length ≤ 4) := by
  rcases h with ⟨h1, hI⟩ | ⟨-, rfl⟩
  · have hf := fine_of h1
    refine ⟨by rw [hI.pl]; exact hf.pn, by rw [hI.cl]; exact hf.cn, fun p hp => ?_, fun k hk => ?_⟩
    · obtain ⟨a, q, e⟩ := hI.ps p (by rw [← hI.pl]; exact hp)
      have := tabsN_le (gd c.Partitions.xs p)
      rw [e]; simp only [placeDone, tabsAt_len]; omega
    · obtain ⟨a, q, e⟩ := hI.cs k (by rw [← hI.cl]; exact hk)
      have := hf.dests (show k < c.Channels.xs.length by rw [← hI.cl]; exact hk)
      rw [e]; simp only [chanAt, destsUp_len]; omega
  · exact ⟨by decide, by decide, fun p hp => absurd hp (Nat.not_lt_zero p), fun p hp => absurd hp (Nat.not_lt_zero p)⟩
theorem LayOr.ok {c : TConfig} {n : Nat} {W : World} {L : TLayout} (h : LayOr c L) (ho : LayOwn n W L) : TLayout.ok (New n) W L := by
  rcases h with ⟨h1, hI⟩ | ⟨-, rfl⟩
  · exact lay_ok (fine_of h1) hI ho
  · exact noLay_ok
theorem lay_none (n : Nat) (w : World) : LayOwn n w noLay := by
  have h0 : Sat ⟨w, w.heap.size, []⟩ w := ⟨rfl, rfl, rfl, rfl, by simp, by simp, by simp, by simp⟩
  have h1 := (h0.row n 42 5).row n 45 5
  have h2 := h1.more (famC n 47 3 TDestPlace.cells []) ⟨by simp, List.Pairwise.nil⟩ (fam_stable _ _ _ _ _) (by rintro b ⟨s, hs, -⟩; cases hs)
  have h3 := h2.more (famC n 3 1 (fun x : Int => [Value.int .i64 x]) []) ⟨by simp, List.Pairwise.nil⟩ (fam_stable _ _ _ _ _) (by rintro b ⟨s, hs, -⟩; cases hs)
  exact ⟨w, h3⟩
theorem of_any (w : World) (c : TConfig) (hc : TConfig.ok Any w c) : Calls Try.prog 15 #[.agg (TConfig.arr c)] w fun e w' => ∃ L : TLayout, e = .returned (.tuple #[.agg (TLayout.arr L), .int .i64 (errOf c)]) ∧ LayOr c L ∧ LayOwn w.heap.size w' L ∧ Keeps (fun _ => False) w w' := by
  by_cases h : confOk c = true
  · refine (of_yes w c hc h).mono ?_
    rintro e w' ⟨L, rfl, hI, -, hO, hk⟩
    exact ⟨L, by unfold errOf; rw [if_pos h], .inl ⟨h, hI⟩, hO, hk⟩
  · refine (of_no w c hc (Bool.eq_false_iff.2 h)).mono ?_
    rintro e w' ⟨rfl, hk⟩
    exact ⟨noLay, by unfold errOf; rw [if_neg h]; rfl, .inr ⟨h, rfl⟩, lay_none _ _, hk⟩
theorem rof_any (w : World) (c : TConfig) (hc : TConfig.ok Any w c) : Calls Try.prog 17 #[.agg (TConfig.arr c)] w fun e w' => ∃ L : TLayout, e = .returned (.tuple #[.agg (TLayout.arr L), .int .i64 (errOf c)]) ∧ LayOr c L ∧ LayOwn w.heap.size w' L ∧ Keeps (fun _ => False) w w' := by
  by_cases h : confOk c = true
  · refine (rof_yes w c hc h).mono ?_
    rintro e w' ⟨L, rfl, hI, -, hO, hk⟩
    exact ⟨L, by unfold errOf; rw [if_pos h], .inl ⟨h, hI⟩, hO, hk⟩
  · refine (rof_no w c hc (Bool.eq_false_iff.2 h)).mono ?_
    rintro e w' ⟨rfl, hk⟩
    exact ⟨noLay, by unfold errOf; rw [if_neg h]; rfl, .inr ⟨h, rfl⟩, lay_none _ _, hk⟩
theorem lay_new {w0 w : World} {m n : Nat} {L : TLayout} (h : Sat ⟨w0, m, layS n L⟩ w) : ∀ c ∈ layS n L, ∀ b, c.F b → n ≤ b := by
  have h0 := row_new (h.at (i := 0) rfl)
  have h1 := row_new (h.at (i := 1) rfl)
  have h2 := fam_new (h.at (i := 2) rfl)
  have h3 := fam_new (h.at (i := 3) rfl)
  intro c hc
  simp only [layS, List.mem_cons, List.not_mem_nil, or_false] at hc
  rcases hc with rfl | rfl | rfl | rfl
  · exact h0
  · exact h1
  · exact h2
  · exact h3
theorem own_at {w0 w : World} {m n : Nat} {L : TLayout} (h : Sat ⟨w0, m, layS n L⟩ w) : LayOwn n w L := ⟨w0, by rw [show w.heap.size = m from h.size]; exact h⟩
theorem lay_ok2 {n : Nat} {F : Nat → Prop} {Wb W : World} {L : TLayout} (h0 : TLayout.ok F Wb L) (hP : SlAt TPartitionPlace.cells 5 Any W L.Partitions) (hC : SlAt TChannelPlace.cells 5 Any W L.Channels) (hD : (famC n 47 3 TDestPlace.cells (L.Channels.xs.map TChannelPlace.Dests)).holds W) (hT : (famC n 3 1 (fun x : Int => [Value.int .i64 x]) (L.Partitions.xs.map TPartitionPlace.Tables)).holds W) : TLayout.ok Any W L := by
  refine ⟨h0.Barrier, ⟨hP, fun i hi => ?_⟩, ⟨hC, fun i hi => ?_⟩, h0.End⟩
  · have o := h0.Partitions.2 i hi
    exact ⟨o.Lock, o.Save, o.State, o.Root, sl_mono (Ext.refl _ _) (fun _ _ => trivial) (fam_sl (by intro _; rfl) hT (List.mem_map_of_mem (by rw [gd_eq hi]; exact List.getElem_mem hi)) o.Tables.1.len), o.Tables.2⟩
  · have o := h0.Channels.2 i hi
    exact ⟨o.Lock, o.Stage, o.Partition, o.Port, sl_mono (Ext.refl _ _) (fun _ _ => trivial) (fam_sl (by intro _; rfl) hD (List.mem_map_of_mem (by rw [gd_eq hi]; exact List.getElem_mem hi)) o.Dests.1.len), fun k hk => ⟨(o.Dests.2 k hk).Partition, (o.Dests.2 k hk).Port, (o.Dests.2 k hk).At⟩⟩
/-- Lists that are marked, thing by thing. -/
def markUp {α : Type} [Inhabited α] (mk : Nat → α) (xs : List α) (k : Nat) : List α := (List.range xs.length).map (fun q => if q < k then mk q else gd xs q)
theorem markUp_len {α : Type} [Inhabited α] {mk : Nat → α} {xs : List α} {k : Nat} : (markUp mk xs k).length = xs.length := by simp [markUp]
theorem gd_range {β : Type} [Inhabited β] {f : Nat → β} {n i : Nat} (h : i < n) : gd ((List.range n).map f) i = f i := gd_map h
theorem markUp_zero {α : Type} [Inhabited α] {mk : Nat → α} {xs : List α} : markUp mk xs 0 = xs := by
  unfold markUp
  apply List.ext_getElem (by simp)
  intro i h1 h2
  simp only [List.getElem_map, List.getElem_range, Nat.not_lt_zero, if_false]
  exact gd_eq h2
theorem map_setN {α : Type} {n k : Nat} {f g : Nat → α} {v : α} (h1 : g k = v) (h2 : ∀ q, q ≠ k → g q = f q) : ((List.range n).map f).set k v = (List.range n).map g := map_set h1 h2
theorem markUp_set {α : Type} [Inhabited α] {mk : Nat → α} {xs : List α} {k : Nat} : (markUp mk xs k).set k (mk k) = markUp mk xs (k + 1) := by
  unfold markUp
  refine map_setN (by rw [if_pos (Nat.lt_succ_self k)]) (fun q hq => ?_)
  by_cases h : q < k
  · rw [if_pos h, if_pos (by omega)]
  · rw [if_neg h, if_neg (by omega)]
def mkS {α : Type} [Inhabited α] (s : Sl α) (mk : Nat → α) : Sl α := ⟨s.a, s.cap, markUp mk s.xs s.xs.length⟩
def hsG {α β : Type} [Inhabited α] [Inhabited β] (f : α → Sl β) (mk : Nat → Nat → β) (xs : List α) (i : Nat) : List (Sl β) := (List.range xs.length).map (fun p => if p < i then mkS (f (gd xs p)) (mk p) else f (gd xs p))
theorem hsG_len {α β : Type} [Inhabited α] [Inhabited β] {f : α → Sl β} {mk : Nat → Nat → β} {xs : List α} {i : Nat} : (hsG f mk xs i).length = xs.length := by simp [hsG]
theorem hsG_zero {α β : Type} [Inhabited α] [Inhabited β] {f : α → Sl β} {mk : Nat → Nat → β} {xs : List α} : hsG f mk xs 0 = xs.map f := by
  unfold hsG
  apply List.ext_getElem (by simp)
  intro i h1 h2
  simp only [List.getElem_map, List.getElem_range, Nat.not_lt_zero, if_false]
  rw [gd_eq]
theorem hsG_at {α β : Type} [Inhabited α] [Inhabited β] {f : α → Sl β} {mk : Nat → Nat → β} {xs : List α} {i : Nat} (h : i < xs.length) {y : α} (hy : y = gd xs i) : f y = gd (hsG f mk xs i) i := by
  unfold hsG
  rw [gd_range h, if_neg (Nat.lt_irrefl i), hy]
theorem hsG_set {α β : Type} [Inhabited α] [Inhabited β] {f : α → Sl β} {mk : Nat → Nat → β} {xs : List α} {i : Nat} {y : α} (hy : y = gd xs i) {a : Option Addr} (ha : a = (f y).a) {k : Nat} (hk : k = (f y).xs.length) : (hsG f mk xs i).set i ⟨a, (f y).cap, markUp (mk i) (f y).xs k⟩ = hsG f mk xs (i + 1) := by
  subst hy; subst ha; subst hk
  unfold hsG
  refine map_setN (by rw [if_pos (Nat.lt_succ_self i)]; rfl) (fun q hq => ?_)
  by_cases h : q < i
  · rw [if_pos h, if_pos (by omega)]
  · rw [if_neg h, if_neg (by omega)]
def mkI (c q : Nat) : Int := -((c + q + 1 : Nat) : Int)
def mkP3 (c q : Nat) : TDestPlace := ⟨-((c + q + 1 : Nat) : Int), 0, 0⟩
def psM (la : TLayout) : List TPartitionPlace := (List.range la.Partitions.xs.length).map (fun p => { gd la.Partitions.xs p with Tables := mkS (gd la.Partitions.xs p).Tables (mkI (cntT la p)) })
def csM (la : TLayout) : List TChannelPlace := (List.range la.Channels.xs.length).map (fun p => { gd la.Channels.xs p with Dests := mkS (gd la.Channels.xs p).Dests (mkP3 (cntT la la.Partitions.xs.length + cntD la p)) })
abbrev markL (la : TLayout) (aP : Option Addr) (cP : Nat) (aC : Option Addr) (cC : Nat) : TLayout := ⟨la.Barrier, ⟨aP, cP, psM la⟩, ⟨aC, cC, csM la⟩, la.End⟩
theorem psM_len {la : TLayout} : (psM la).length = la.Partitions.xs.length := by simp [psM]
theorem csM_len {la : TLayout} : (csM la).length = la.Channels.xs.length := by simp [csM]
theorem psM_at {la : TLayout} {p : Nat} (h : p < la.Partitions.xs.length) : gd (psM la) p = { gd la.Partitions.xs p with Tables := mkS (gd la.Partitions.xs p).Tables (mkI (cntT la p)) } := gd_range h
theorem csM_at {la : TLayout} {p : Nat} (h : p < la.Channels.xs.length) : gd (csM la) p = { gd la.Channels.xs p with Dests := mkS (gd la.Channels.xs p).Dests (mkP3 (cntT la la.Partitions.xs.length + cntD la p)) } := gd_range h
theorem psM_fam {la : TLayout} : (psM la).map TPartitionPlace.Tables = hsG TPartitionPlace.Tables (fun p => mkI (cntT la p)) la.Partitions.xs la.Partitions.xs.length := by
  unfold psM hsG
  rw [List.map_map]
  refine List.map_congr_left fun p hp => ?_
  rw [if_pos (List.mem_range.1 hp)]; rfl
theorem csM_fam {la : TLayout} : (csM la).map TChannelPlace.Dests = hsG TChannelPlace.Dests (fun p => mkP3 (cntT la la.Partitions.xs.length + cntD la p)) la.Channels.xs la.Channels.xs.length := by
  unfold csM hsG
  rw [List.map_map]
  refine List.map_congr_left fun p hp => ?_
  rw [if_pos (List.mem_range.1 hp)]; rfl
theorem cntT_eq {la : TLayout} {aP : Option Addr} {cP : Nat} {aC : Option Addr} {cC : Nat} : ∀ (p : Nat), p ≤ la.Partitions.xs.length → cntT (markL la aP cP aC cC) p = cntT la p
  | 0, _ => rfl
  | p + 1, h => by
    show cntT (markL la aP cP aC cC) p + (gd (psM la) p).Tables.xs.length = cntT la p + _
    rw [cntT_eq p (by omega), psM_at (by omega)]
    show _ + (markUp _ _ _).length = _
    rw [markUp_len]
theorem cntD_eq {la : TLayout} {aP : Option Addr} {cP : Nat} {aC : Option Addr} {cC : Nat} : ∀ (p : Nat), p ≤ la.Channels.xs.length → cntD (markL la aP cP aC cC) p = cntD la p
  | 0, _ => rfl
  | p + 1, h => by
    show cntD (markL la aP cP aC cC) p + (gd (csM la) p).Dests.xs.length = cntD la p + _
    rw [cntD_eq p (by omega), csM_at (by omega)]
    show _ + (markUp _ _ _).length = _
    rw [markUp_len]
theorem markUp_at {α : Type} [Inhabited α] {mk : Nat → α} {xs : List α} {k : Nat} (h : k < xs.length) : gd (markUp mk xs xs.length) k = mk k := by
  unfold markUp
  rw [gd_range h, if_pos h]
theorem markL_is {c : TConfig} {la : TLayout} (hI : LayOr c la) {aP : Option Addr} {cP : Nat} {aC : Option Addr} {cC : Nat} : MarkL (markL la aP cP aC cC) := by
  obtain ⟨h1, h2, h3, h4⟩ := hI.bd
  have lp : (markL la aP cP aC cC).Partitions.xs.length = la.Partitions.xs.length := psM_len
  have lc : (markL la aP cP aC cC).Channels.xs.length = la.Channels.xs.length := csM_len
  refine ⟨by rw [lp]; exact h1, by rw [lc]; exact h2, fun p hp => ?_, fun p hp => ?_, fun p hp k hk => ?_, fun p hp k hk => ?_⟩
  · rw [lp] at hp
    show (gd (psM la) p).Tables.xs.length ≤ 16
    rw [psM_at hp]
    show (markUp _ _ _).length ≤ 16
    rw [markUp_len]; exact h3 p hp
  · rw [lc] at hp
    show (gd (csM la) p).Dests.xs.length ≤ 4
    rw [csM_at hp]
    show (markUp _ _ _).length ≤ 4
    rw [markUp_len]; exact h4 p hp
  · rw [lp] at hp
    rw [cntT_eq p (by omega)]
    have hk' : k < (gd (psM la) p).Tables.xs.length := hk
    show gd (gd (psM la) p).Tables.xs k = _
    rw [psM_at hp] at hk' ⊢
    have hk2 : k < (markUp (mkI (cntT la p)) (gd la.Partitions.xs p).Tables.xs (gd la.Partitions.xs p).Tables.xs.length).length := hk'
    rw [markUp_len] at hk2
    exact markUp_at (mk := mkI (cntT la p)) hk2
  · rw [lc] at hp
    rw [lp, cntT_eq _ (Nat.le_refl _), cntD_eq p (by omega)]
    have hk' : k < (gd (csM la) p).Dests.xs.length := hk
    show (gd (gd (csM la) p).Dests.xs k).Partition = _
    rw [csM_at hp] at hk' ⊢
    have hk2 : k < (markUp (mkP3 (cntT la la.Partitions.xs.length + cntD la p)) (gd la.Channels.xs p).Dests.xs (gd la.Channels.xs p).Dests.xs.length).length := hk'
    rw [markUp_len] at hk2
    exact congrArg TDestPlace.Partition (markUp_at (mk := mkP3 (cntT la la.Partitions.xs.length + cntD la p)) hk2)
theorem sl_cells {α : Type} [Inhabited α] {cells : α → List Value} {sz : Nat} {F : Nat → Prop} {W : World} {a : Option Addr} {cap : Nat} {xs ys : List α} (h : SlAt cells sz F W ⟨a, cap, xs⟩) (hl : ys.length = xs.length) (hc : ∀ i, i < xs.length → cells (gd ys i) = cells (gd xs i)) : SlAt cells sz F W ⟨a, cap, ys⟩ :=
  ⟨by rw [hl]; exact h.len, by rw [hl]; exact h.le, fun hne => by
    obtain ⟨b, off, ha, hb, hh⟩ := h.cells (fun e => hne (List.eq_nil_of_length_eq_zero (by rw [hl]; simp only at e; rw [e]; rfl)))
    refine ⟨b, off, ha, hb, fun i hi k v hv => ?_⟩
    have hi' : i < xs.length := by rw [← hl]; exact hi
    have := hc i hi'
    rw [gd_eq hi, gd_eq hi'] at this
    exact hh i hi' k v (by rw [← this]; exact hv)⟩
theorem psM_sl {la : TLayout} {F : Nat → Prop} {W : World} {a : Option Addr} {cap : Nat} (h : SlAt TPartitionPlace.cells 5 F W ⟨a, cap, la.Partitions.xs⟩) : SlAt TPartitionPlace.cells 5 F W ⟨a, cap, psM la⟩ :=
  sl_cells h psM_len (fun i hi => by rw [psM_at hi]; simp [TPartitionPlace.cells, Sl.val, mkS, markUp_len])
theorem csM_sl {la : TLayout} {F : Nat → Prop} {W : World} {a : Option Addr} {cap : Nat} (h : SlAt TChannelPlace.cells 5 F W ⟨a, cap, la.Channels.xs⟩) : SlAt TChannelPlace.cells 5 F W ⟨a, cap, csM la⟩ :=
  sl_cells h csM_len (fun i hi => by rw [csM_at hi]; simp [TChannelPlace.cells, Sl.val, mkS, markUp_len])
theorem e_eqA {P : Program} {N : Nat} {env : Env} {ds : List Deferred} {A : AW} {s : List Kt} {Q : Exit → Act → World → Prop} {x : Exit} (A' : AW) (h : A = A') (K : E P N env ds A' x s Q) : E P N env ds A x s Q := by subst h; exact K
theorem row_apart {A : AW} {w : World} (h : Sat A w) (i : Nat) (js : List Nat) {c : Ch} {cs : List Ch} (hi : A.σ[i]? = some c) (hr : c.rw = true) (hjs : picks js A.σ = some cs) (hij : js.contains i = false) : ∀ b, c.F b → ¬ Blocks cs b := by
  rintro b hb ⟨d, hd, hdb⟩
  obtain ⟨q, hq, hqs⟩ := picks_at hjs d hd
  exact apart_of h.dis (i := i) (j := q) (by rw [List.getElem?_map, hi]; rfl) (by rw [List.getElem?_map, hqs]; rfl) (fun e => by subst e; simp [hq] at hij) hr b hb hdb

end Go.Proofs.Ytpoeaajkgblkmaa.Ly
