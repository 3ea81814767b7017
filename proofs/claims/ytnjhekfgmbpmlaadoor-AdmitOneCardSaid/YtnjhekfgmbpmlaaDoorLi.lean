/- layout: Of. No conditions. -/
import Derived.Test.YtnjhekfgmbpmlaaDoorLh
namespace Go.Proofs.YtnjhekfgmbpmlaaDoor.Ly
open Go Go.Proofs.YtnjhekfgmbpmlaaDoor.Eng Go.Proofs.YtnjhekfgmbpmlaaDoor.Mem
set_option linter.unusedSimpArgs false
set_option linter.unusedVariables false
set_option maxRecDepth 100000

theorem tAt_succ {c : TConfig} {i : Nat} : tAt c (i + 1) = tAt c i + 1 + (tabsN (gd c.Partitions.xs i) : Int) := rfl
theorem tAt_zero {c : TConfig} : tAt c 0 = (cAt c c.Channels.xs.length + 16 - 1) / 16 := rfl
theorem regs_ok {n : Nat} {x : TPartition} (h : partOk n x = true) : ∀ i, i < x.Regions.xs.length → regOk (gd x.Regions.xs i) = true := fun i hi => by
  rw [gd_eq hi]; exact List.all_eq_true.1 (part_regs h).2 _ (List.getElem_mem hi)
theorem can_yes (w : World) (c : TConfig) (hc : TConfig.ok Any w c) (h : confOk c = true) : Calls Tryd.prog 56 #[.agg (TConfig.arr c)] w fun e w' => e = .returned (.bool true) ∧ Keeps (fun _ => False) w w' := by
  have := can_calls w c hc
  rwa [h] at this
theorem can_no (w : World) (c : TConfig) (hc : TConfig.ok Any w c) (h : confOk c = false) : Calls Tryd.prog 56 #[.agg (TConfig.arr c)] w fun e w' => e = .returned (.bool false) ∧ Keeps (fun _ => False) w w' := by
  have := can_calls w c hc
  rwa [h] at this
/-- The lists of an answer: rows that lie apart. -/
def layS (n : Nat) (L : TLayout) : List Ch := [rowL n 95 5 TPartitionPlace.cells L.Partitions.val L.Partitions.xs, rowL n 104 5 TChannelPlace.cells L.Channels.val L.Channels.xs, famC n 106 3 TDestPlace.cells (L.Channels.xs.map TChannelPlace.Dests), famC n 3 1 (fun x : Int => [Value.int .i64 x]) (L.Partitions.xs.map TPartitionPlace.Tables)]
def LayOwn (n : Nat) (W : World) (L : TLayout) : Prop := ∃ w0, Sat ⟨w0, W.heap.size, layS n L⟩ W
theorem ends_bd {c : TConfig} {k : Int} {b : Bool} (hp : ∀ i, i < c.Partitions.xs.length → (gd c.Partitions.xs i).Ports.xs.length ≤ 8) (h8 : c.Partitions.xs.length ≤ 8) : ∀ y ∈ endsOf c k b, 0 ≤ y.partition ∧ y.partition < 8 ∧ 0 ≤ y.port ∧ y.port < 8 := by
  intro y hy
  unfold endsOf endsUp at hy
  simp only [List.mem_flatMap, List.mem_range] at hy
  obtain ⟨p, hpl, hy⟩ := hy
  unfold partEnds at hy
  simp only [List.mem_map, List.mem_filter, List.mem_range] at hy
  obtain ⟨q, ⟨hq, -⟩, rfl⟩ := hy
  have := hp p hpl
  simp only
  omega
theorem ink {x : Int} (h : 0 ≤ x) (h2 : x ≤ 1000000) : InK .i64 x := ⟨by omega, by omega⟩
theorem ends_ink {F : Nat → Prop} {W : World} {c : TConfig} {k : Int} {b : Bool} (hf : Fine c) : ∀ i, i < (endsOf c k b).length → Tend.ok F W (gd (endsOf c k b) i) := fun i hi => by
  have := ends_bd (k := k) (b := b) (fun i hi => part_ports (hf.parts i hi)) hf.pn (gd (endsOf c k b) i) (by rw [gd_eq hi]; exact List.getElem_mem _)
  exact ⟨ink (by omega) (by omega), ink (by omega) (by omega)⟩
theorem fam_sl {α : Type} {base : Nat} {e : TypeId} {sz : Nat} {cells : α → List Value} {hs : List (Sl α)} {W : World} (hsz : ∀ x, (cells x).length = sz) (h : (famC base e sz cells hs).holds W) {s : Sl α} (hs' : s ∈ hs) (hl : s.xs.length ≤ 140737488351232) : SlAt cells sz (New base) W s := row_sl hsz (h.1 s hs') hl
theorem lay_ok {c : TConfig} {n : Nat} {W : World} {L : TLayout} (hf : Fine c) (hL : IsLay c L) (ho : LayOwn n W L) : TLayout.ok (New n) W L := by
  obtain ⟨w0, hs⟩ := ho
  have h0 : W.ownsRow n 95 5 L.Partitions.val L.Partitions.xs.length (L.Partitions.xs.flatMap TPartitionPlace.cells) := hs.at (i := 0) rfl
  have h1 : W.ownsRow n 104 5 L.Channels.val L.Channels.xs.length (L.Channels.xs.flatMap TChannelPlace.cells) := hs.at (i := 1) rfl
  have h2 : (famC n 106 3 TDestPlace.cells (L.Channels.xs.map TChannelPlace.Dests)).holds W := hs.at (i := 2) rfl
  have h3 : (famC n 3 1 (fun x : Int => [Value.int .i64 x]) (L.Partitions.xs.map TPartitionPlace.Tables)).holds W := hs.at (i := 3) rfl
  have hkn := hf.kn; have hpn := hf.pn; have hcn := hf.cn
  refine ⟨ink (by rw [hL.bar]; omega) (by rw [hL.bar]; omega), ⟨row_sl (fun _ => rfl) h0 (by rw [hL.pl]; omega), ?_⟩, ⟨row_sl (fun _ => rfl) h1 (by rw [hL.cl]; omega), ?_⟩, ?_⟩
  · intro i hi
    have hi' : i < c.Partitions.xs.length := by rw [← hL.pl]; exact hi
    obtain ⟨a, cp, e⟩ := hL.ps i hi'
    have ht := tAt_bd hf i (by omega)
    have hn := tabsN_le (gd c.Partitions.xs i)
    have hm : (gd L.Partitions.xs i).Tables ∈ L.Partitions.xs.map TPartitionPlace.Tables := List.mem_map_of_mem (by rw [gd_eq hi]; exact List.getElem_mem hi)
    have hsl := fam_sl (by intro _; rfl) h3 hm (by rw [e]; simp only [placeDone, tabsAt_len]; omega)
    rw [e] at hsl ⊢
    refine ⟨ink (by simp only [placeDone, pAt]; omega) (by simp only [placeDone, pAt]; omega), ink (by simp only [placeDone, pAt]; omega) (by simp only [placeDone, pAt]; omega), ink (by simp only [placeDone, pAt]; omega) (by simp only [placeDone, pAt]; omega), ink (by simp only [placeDone]; omega) (by simp only [placeDone]; omega), hsl, ?_⟩
    intro q hq
    have hq' : q < tabsN (gd c.Partitions.xs i) := by simpa only [placeDone, tabsAt_len] using hq
    show InK .i64 (gd _ _)
    have : gd (placeDone c i ⟨a, cp, tabsAt c i (tabsN (gd c.Partitions.xs i))⟩).Tables.xs q = tAt c i + 1 + (q : Int) := gd_map hq'
    rw [this]
    exact ink (by omega) (by omega)
  · intro k hk
    have hk' : k < c.Channels.xs.length := by rw [← hL.cl]; exact hk
    obtain ⟨a, cp, e⟩ := hL.cs k hk'
    have hb := cAt_bd hf k (by omega)
    have hd := hf.dests hk'
    have hp0 : pAt c c.Partitions.xs.length = c.Kernel * 16 + 2 + 24 * (c.Partitions.xs.length : Int) := rfl
    have hpp : ∀ i, i < c.Partitions.xs.length → (gd c.Partitions.xs i).Ports.xs.length ≤ 8 := fun i hi => part_ports (hf.parts i hi)
    have hm : (gd L.Channels.xs k).Dests ∈ L.Channels.xs.map TChannelPlace.Dests := List.mem_map_of_mem (by rw [gd_eq hk]; exact List.getElem_mem hk)
    have hsl := fam_sl (by intro _; rfl) h2 hm (by rw [e]; simp only [chanAt, destsUp_len]; omega)
    have h1p : 0 < (endsOf c (k : Int) true).length := by omega
    have hsrc := ends_bd (k := (k : Int)) (b := true) hpp hpn (gd (endsOf c (k : Int) true) 0) (by rw [gd_eq h1p]; exact List.getElem_mem _)
    rw [e] at hsl ⊢
    refine ⟨ink (by simp only [chanAt]; omega) (by simp only [chanAt]; omega), ink (by simp only [chanAt]; omega) (by simp only [chanAt]; omega), ink (by simp only [chanAt]; omega) (by simp only [chanAt]; omega), ink (by simp only [chanAt]; omega) (by simp only [chanAt]; omega), hsl, ?_⟩
    intro q hq
    have hq' : q < nDest c k := by simpa only [chanAt, destsUp_len] using hq
    have e2 : gd (chanAt c k ⟨a, cp, destsUp c k (nDest c k)⟩).Dests.xs q = destAt c k q := gd_map hq'
    have hdst := ends_bd (k := (k : Int)) (b := false) hpp hpn (gd (endsOf c (k : Int) false) q) (by rw [gd_eq hq']; exact List.getElem_mem _)
    have hdb := dAt_bd hf hk' (show q ≤ 4 by omega)
    rw [e2]
    exact ⟨ink (by simp only [destAt]; omega) (by simp only [destAt]; omega), ink (by simp only [destAt]; omega) (by simp only [destAt]; omega), ink (by simp only [destAt]; omega) (by simp only [destAt]; omega)⟩
  · have := tAt_bd hf _ (Nat.le_refl _)
    exact ink (by rw [hL.fin]; omega) (by rw [hL.fin]; omega)
theorem of_no (w : World) (c : TConfig) (hc : TConfig.ok Any w c) (hok : confOk c = false) : Calls Tryd.prog 31 #[.agg (TConfig.arr c)] w fun e w' => e = .returned (.tuple #[.agg #[.int .i64 0, .slice none 0 0, .slice none 0 0, .int .i64 0], .int .i64 150]) ∧ Keeps (fun _ => False) w w' := by
 obtain ⟨z, hz⟩ : ∃ z, z = w.heap.size := ⟨_, rfl⟩
 refine calls_G (args := [.agg (TConfig.arr c)]) 148 ⟨w, z, [(old0 w)]⟩ Tryd.func31 rfl (by kernel_rfl) (by kernel_rfl) (sat_0 hz) ?_
 refine g_keep [0] [(0, .agg (TConfig.arr c))] ?_
 refine q_c 7 1 [] [[o0, o0, o0], [(an 7 1)]] [Qb z, Qb z, Qb z, Qb z, Qb z, Qb z, Qb z] [(1, pt z), (2, pt (z + 1)), (16, .agg (TConfig.arr c))] ⟨w, z + 2, [(old0 w), (bk z (TConfig.arr c) 26), (bk (z + 1) #[i6 0, .slice none 0 0, .slice none 0 0, i6 0] 79)]⟩ rfl ⟨rfl, rfl, rfl, rfl, rfl, rfl, rfl, trivial⟩ ?_
 refine l_call [] [] 56 #[.agg (TConfig.arr c)] (some 17) trivial ?_
 intro w1 hw1
 refine (can_no w1 c (hc.ext (hw1.ext rfl) (fun _ h => h)) hok).mono ?_
 rintro e w2 ⟨rfl, hkw2⟩
 have hnw2 : z + 2 ≤ w2.heap.size := size_of hw1 hkw2
 refine ⟨_, _, rfl, hw1.keeps hkw2, ?_⟩
 refine q_rS 8 0 [1] [[o0], [o0, (an 4 2), o0]] [Qb (z + 1), Qb (z + 1), Qb (z + 1), Qb (z + 1)] [(2, pt (z + 1)), (3, i6 150)] rfl ⟨rfl, rfl, rfl, rfl, trivial⟩ ?_
 refine e_ret [.at 2, .at 2, .at 2, .at 2] [Qb (z + 1), Qb (z + 1), Qb (z + 1), Qb (z + 1)] (.tuple #[.agg #[i6 0, .slice none 0 0, .slice none 0 0, i6 0], i6 150]) ⟨rfl, rfl, rfl, rfl, trivial⟩ ?_
 intro w3 hw3
 exact ⟨rfl, back0 hw3⟩
abbrev qzm6_0 (w2 : World) (c : TConfig) (aP : Option Addr) (i : Nat) (cP : Nat) (ax99 : Option Addr) (csG : List TChannelPlace) (k : Nat) (y47 : Tend) (aD : Option Addr) (cD : Nat) (j : Nat) (cp100 : Nat) : Ch := bk (w2.heap.size + 1) #[i6 (c.Kernel * 16), .slice aP ((placesUp c i).length) cP, .slice ax99 ((csG ++ [(⟨cAt c k, (cAt c k) + 2, y47.partition, y47.port, (⟨aD, cD, destsUp c k j⟩ : Sl TDestPlace)⟩ : TChannelPlace)]).length) cp100, i6 0] 79
abbrev qzm6_1 (w2 : World) (c : TConfig) (ax19 : Option Addr) (i : Nat) (cp20 : Nat) : Ch := .blk (w2.heap.size + 1) (.cells #[i6 (c.Kernel * 16), .slice ax19 ((placesUp c i ++ [(⟨pAt c i, (pAt c i) + 2, ((pAt c i) + 2) + 17, 0, (⟨none, 0, []⟩ : Sl Int)⟩ : TPartitionPlace)]).length) cp20, .slice none 0 0, i6 0] 79 (0, 0)) true
abbrev qzm6_2 (b49 : Nat) (c : TConfig) (k : Nat) (y47 : Tend) (ax95 : Option Addr) (j : Nat) (y88 : Tend) (cp96 : Nat) : Ch := bk b49 #[i6 (cAt c k), i6 ((cAt c k) + 2), i6 y47.partition, i6 y47.port, .slice ax95 ((destsUp c k j ++ [(⟨y88.partition, y88.port, dAt c k j⟩ : TDestPlace)]).length) cp96] 104
abbrev qzm6_3 (b49 : Nat) (c : TConfig) (k : Nat) (y47 : Tend) (aD : Option Addr) (j : Nat) (cD : Nat) : Ch := bk b49 #[i6 (cAt c k), i6 ((cAt c k) + 2), i6 y47.partition, i6 y47.port, .slice aD ((destsUp c k j).length) cD] 104
abbrev qzm6_4 (n79 : Nat) (c : TConfig) (k : Nat) (y47 : Tend) (aD : Option Addr) (j : Nat) (cD : Nat) : Ch := bk n79 #[i6 (cAt c k), i6 ((cAt c k) + 2), i6 y47.partition, i6 y47.port, .slice aD ((destsUp c k j).length) cD] 104
abbrev qzm6_5 (w2 : World) (c : TConfig) (b118 : Nat) (psG : List TPartitionPlace) (cP2 : Nat) (aC : Option Addr) (csG : List TChannelPlace) (cC : Nat) : Ch := bk (w2.heap.size + 1) #[i6 (c.Kernel * 16), .slice (some ⟨b118, 0, none⟩) psG.length cP2, .slice aC csG.length cC, i6 0] 79
abbrev qzm6_6 (w54 : World) (c : TConfig) (k : Nat) (y47 : Tend) : Ch := .blk w54.heap.size (.cells #[i6 (cAt c k), i6 ((cAt c k) + 2), i6 y47.partition, i6 y47.port, .slice none 0 0] 104 (0, 0)) true
abbrev qzm6_7 (w35 : World) (c : TConfig) (k : Nat) (y47 : Tend) : Ch := .blk w35.heap.size (.cells #[i6 (cAt c k), i6 ((cAt c k) + 2), i6 y47.partition, i6 y47.port, .slice none 0 0] 104 (0, 0)) true
abbrev qzm6_8 (w2 : World) (c : TConfig) (aP : Option Addr) (i : Nat) (cP : Nat) (aC : Option Addr) (csG : List TChannelPlace) (cC : Nat) : Ch := bk (w2.heap.size + 1) #[i6 (c.Kernel * 16), .slice aP ((placesUp c i).length) cP, .slice aC csG.length cC, i6 0] 79
abbrev qzm6_9 (n8 : Nat) (c : TConfig) (i : Nat) : Ch := bk n8 #[i6 (pAt c i), i6 ((pAt c i) + 2), i6 (((pAt c i) + 2) + 17), i6 0, .slice none 0 0] 95
abbrev qzm6_10 (w2 : World) (c : TConfig) (aP : Option Addr) (i : Nat) (cP : Nat) : Ch := bk (w2.heap.size + 1) #[i6 (c.Kernel * 16), .slice aP ((placesUp c i).length) cP, .slice none 0 0, i6 0] 79
abbrev qzm6_11 (w2 : World) (c : TConfig) (aP2 : Option Addr) (psG : List TPartitionPlace) (cP2 : Nat) (aC : Option Addr) (csG : List TChannelPlace) (cC : Nat) : Ch := bk (w2.heap.size + 1) #[i6 (c.Kernel * 16), .slice aP2 psG.length cP2, .slice aC csG.length cC, i6 0] 79
abbrev qzm6_12 (w54 : World) : Ch := .blk w54.heap.size (.cells #[i6 0, i6 0, i6 0, i6 0, .slice none 0 0] 104 (0, 0)) true
abbrev qzm6_13 (w35 : World) : Ch := .blk w35.heap.size (.cells #[i6 0, i6 0, i6 0, i6 0, .slice none 0 0] 104 (0, 0)) true
abbrev qzm6_14 (w90 : World) (y88 : Tend) (c : TConfig) (k : Nat) (j : Nat) : Ch := .blk w90.heap.size (.cells #[i6 y88.partition, i6 y88.port, i6 (dAt c k j)] 106 (0, 0)) true
abbrev qzm6_15 (z : Nat) : Ch := bk (z + 1) #[i6 0, .slice none 0 0, .slice none 0 0, i6 0] 79
abbrev qzm6_16 (w2 : World) (c : TConfig) (k : Nat) (y33 : TChannel) : Ch := .blk w2.heap.size (.cells #[i6 (((cAt c k) + 2) + (stageOf y33))] 3 (0, 0)) true
abbrev qzm6_17 (w2 : World) (c : TConfig) (i : Nat) : Ch := .blk w2.heap.size (.cells #[i6 ((((pAt c i) + 2) + 17) + 5)] 3 (0, 0)) true
abbrev qzm6_18 (w2 : World) (c : TConfig) (k : Nat) (j : Nat) (y33 : TChannel) : Ch := .blk w2.heap.size (.cells #[i6 ((dAt c k j) + (portOf y33))] 3 (0, 0)) true
abbrev qzm6_19 (n24 : Nat) (c : TConfig) (p : Nat) (t : Nat) : Ch := bk n24 #[i6 ((tAt c p + 1 + (t : Int)) + 1)] 3
abbrev qzm6_20 (n24 : Nat) (c : TConfig) (p : Nat) (t : Nat) : Ch := bk n24 #[i6 (tAt c p + 1 + (t : Int))] 3
abbrev qzm6_21 (w2 : World) (c : TConfig) (k : Nat) : Ch := .blk w2.heap.size (.cells #[i6 ((cAt c k) + 2)] 3 (0, 0)) true
abbrev qzm6_22 (w2 : World) (c : TConfig) (k : Nat) (j : Nat) : Ch := .blk w2.heap.size (.cells #[i6 (dAt c k j)] 3 (0, 0)) true
abbrev qzm6_23 (w2 : World) (c : TConfig) (k : Nat) : Ch := .blk w2.heap.size (.cells #[i6 (cAt c k)] 3 (0, 0)) true
abbrev qzm6_24 (n108 : Nat) (y117 : TPartition) : Ch := bk n108 (TPartition.arr y117) 41
abbrev qzm6_25 (n24 : Nat) (c : TConfig) (p : Nat) : Ch := bk n24 #[i6 (tAt c p)] 3
abbrev qzm6_26 (n24 : Nat) (y33 : TChannel) : Ch := bk n24 (TChannel.arr y33) 55
abbrev qzm6_27 (n79 : Nat) (y88 : Tend) : Ch := bk n79 (Tend.arr y88) 101
abbrev qzm6_28 (z : Nat) (c : TConfig) : Ch := bk z (TConfig.arr c) 26
abbrev qzm6_29 (z : Nat) (b118 : Nat) (psG : List TPartitionPlace) (cP2 : Nat) (p : Nat) (c : TConfig) (aT : Option Addr) (cT : Nat) (t : Nat) (ax132 : Option Addr) (cp133 : Nat) : Ch := rowL z 95 5 TPartitionPlace.cells (.slice (some ⟨b118, 0, none⟩) psG.length cP2) ((psG.set p (⟨pAt c p, pAt c p + 2, pAt c p + 2 + 17, tAt c p, (⟨aT, cT, tabsAt c p t⟩ : Sl Int)⟩ : TPartitionPlace)).set p (⟨pAt c p, pAt c p + 2, pAt c p + 2 + 17, tAt c p, (⟨ax132, cp133, ((tabsAt c p t) ++ [tAt c p + 1 + (t : Int)])⟩ : Sl Int)⟩ : TPartitionPlace))
abbrev qzm6_30 (z : Nat) (ax99 : Option Addr) (csG : List TChannelPlace) (c : TConfig) (k : Nat) (y47 : Tend) (aD : Option Addr) (cD : Nat) (j : Nat) (cp100 : Nat) : Ch := rowL z 104 5 TChannelPlace.cells (.slice ax99 ((csG ++ [(⟨cAt c k, (cAt c k) + 2, y47.partition, y47.port, (⟨aD, cD, destsUp c k j⟩ : Sl TDestPlace)⟩ : TChannelPlace)]).length) cp100) (csG ++ [(⟨cAt c k, (cAt c k) + 2, y47.partition, y47.port, (⟨aD, cD, destsUp c k j⟩ : Sl TDestPlace)⟩ : TChannelPlace)])
abbrev qzm6_31 (z : Nat) (ax19 : Option Addr) (c : TConfig) (i : Nat) (cp20 : Nat) : Ch := rowL z 95 5 TPartitionPlace.cells (.slice ax19 ((placesUp c i ++ [(⟨pAt c i, (pAt c i) + 2, ((pAt c i) + 2) + 17, 0, (⟨none, 0, []⟩ : Sl Int)⟩ : TPartitionPlace)]).length) cp20) (placesUp c i ++ [(⟨pAt c i, (pAt c i) + 2, ((pAt c i) + 2) + 17, 0, (⟨none, 0, []⟩ : Sl Int)⟩ : TPartitionPlace)])
abbrev qzm6_32 (z : Nat) (ax95 : Option Addr) (c : TConfig) (k : Nat) (j : Nat) (y88 : Tend) (cp96 : Nat) : Ch := rowL z 106 3 TDestPlace.cells (.slice ax95 ((destsUp c k j ++ [(⟨y88.partition, y88.port, dAt c k j⟩ : TDestPlace)]).length) cp96) (destsUp c k j ++ [(⟨y88.partition, y88.port, dAt c k j⟩ : TDestPlace)])
abbrev qzm6_33 (z : Nat) (b118 : Nat) (psG : List TPartitionPlace) (cP2 : Nat) (p : Nat) (c : TConfig) (aT : Option Addr) (cT : Nat) (t : Nat) : Ch := rowL z 95 5 TPartitionPlace.cells (.slice (some ⟨b118, 0, none⟩) psG.length cP2) (psG.set p (⟨pAt c p, pAt c p + 2, pAt c p + 2 + 17, tAt c p, (⟨aT, cT, tabsAt c p t⟩ : Sl Int)⟩ : TPartitionPlace))
abbrev qzm6_34 (z : Nat) (aT : Option Addr) (c : TConfig) (p : Nat) (t : Nat) (cT : Nat) : Ch := rowL z 3 1 (fun x : Int => [i6 x]) (.slice aT ((tabsAt c p t).length) cT) (tabsAt c p t)
abbrev qzm6_35 (z : Nat) (psG : List TPartitionPlace) (p : Nat) : Ch := famC z 3 1 (fun x : Int => [i6 x]) ((psG.take p).map TPartitionPlace.Tables)
abbrev qzm6_36 (z : Nat) (aP : Option Addr) (c : TConfig) (i : Nat) (cP : Nat) : Ch := rowL z 95 5 TPartitionPlace.cells (.slice aP ((placesUp c i).length) cP) (placesUp c i)
abbrev qzm6_37 (z : Nat) (aD : Option Addr) (c : TConfig) (k : Nat) (j : Nat) (cD : Nat) : Ch := rowL z 106 3 TDestPlace.cells (.slice aD ((destsUp c k j).length) cD) (destsUp c k j)
abbrev qzm6_38 (z : Nat) (aP2 : Option Addr) (psG : List TPartitionPlace) (cP2 : Nat) : Ch := rowL z 95 5 TPartitionPlace.cells (.slice aP2 psG.length cP2) psG
abbrev qzm6_39 (z : Nat) (aC : Option Addr) (csG : List TChannelPlace) (cC : Nat) : Ch := rowL z 104 5 TChannelPlace.cells (.slice aC csG.length cC) csG
abbrev qzm6_40 (z : Nat) (csG : List TChannelPlace) : Ch := famC z 106 3 TDestPlace.cells (csG.map TChannelPlace.Dests)
abbrev qzm6_41 (ax19 : Option Addr) (c : TConfig) (i : Nat) (cp20 : Nat) : Nat × Value := (42, .slice ax19 ((placesUp c i ++ [(⟨pAt c i, (pAt c i) + 2, ((pAt c i) + 2) + 17, 0, (⟨none, 0, []⟩ : Sl Int)⟩ : TPartitionPlace)]).length) cp20)
abbrev qzm6_42 (c : TConfig) (k : Nat) (y47 : Tend) : Nat × Value := (73, .agg #[i6 (cAt c k), i6 ((cAt c k) + 2), i6 y47.partition, i6 y47.port, .slice none 0 0])
abbrev qzm6_43 (b110 : Nat) (o111 : Nat) (c : TConfig) : Nat × Value := (109, .slice (some ⟨b110, o111, none⟩) c.Partitions.xs.length c.Partitions.cap)
abbrev qzm6_44 (b81 : Nat) (o82 : Nat) (c : TConfig) (k : Nat) (cp39 : Nat) : Nat × Value := (74, .slice (some ⟨b81, o82, none⟩) ((endsOf c (k : Int) false).length) cp39)
abbrev qzm6_45 (b26 : Nat) (o27 : Nat) (c : TConfig) : Nat × Value := (46, .slice (some ⟨b26, o27, none⟩) c.Channels.xs.length c.Channels.cap)
abbrev qzm6_46 (w2 : World) : Nat × Value := (38, .func (.func 75) #[] #[pt w2.heap.size])
abbrev qzm6_47 (w2 : World) : Nat × Value := (61, .func (.func 75) #[] #[pt w2.heap.size])
abbrev qzm6_48 (w2 : World) : Nat × Value := (4, .func (.func 75) #[] #[pt w2.heap.size])
abbrev qzm6_49 (c : TConfig) : Nat × Value := (109, .slice c.Partitions.a c.Partitions.xs.length c.Partitions.cap)
abbrev qzm6_50 (c : TConfig) (k : Nat) : Nat × Value := (75, i6 (((endsOf c (k : Int) false).length : Nat) : Int))
abbrev qzm6_51 (c : TConfig) : Nat × Value := (46, .slice c.Channels.a c.Channels.xs.length c.Channels.cap)
abbrev qzm6_52 (n24 : Nat) : Nat × Value := (13, .func (.func 75) #[] #[pt n24])
abbrev qzm6_53 (ax38 : Option Addr) (c : TConfig) (k : Nat) (cp39 : Nat) : Nat × Value := (74, .slice ax38 ((endsOf c (k : Int) false).length) cp39)
abbrev qzm6_54 (ax38 : Option Addr) (c : TConfig) (k : Nat) (cp39 : Nat) : Nat × Value := (9, .slice ax38 ((endsOf c (k : Int) false).length) cp39)
abbrev qzm6_55 (c : TConfig) : Nat × Value := (110, i6 ((c.Partitions.xs.length : Nat) : Int))
abbrev qzm6_56 (c : TConfig) : Nat × Value := (29, i6 ((c.Partitions.xs.length : Nat) : Int))
abbrev qzm6_57 (c : TConfig) : Nat × Value := (47, i6 ((c.Channels.xs.length : Nat) : Int))
abbrev qzm6_58 (w2 : World) : Nat × Value := (5, pt (w2.heap.size + 1))
abbrev qzm6_59 (w54 : World) : Nat × Value := (10, pt w54.heap.size)
abbrev qzm6_60 (w35 : World) : Nat × Value := (10, pt w35.heap.size)
abbrev qzm6_61 (y117 : TPartition) : Nat × Value := (124, i6 ((tabsN y117 : Nat) : Int))
abbrev qzm6_62 (aP : Option Addr) (c : TConfig) (i : Nat) (cP : Nat) : Nat × Value := (33, .slice aP ((placesUp c i).length) cP)
abbrev qzm6_63 (z : Nat) : Nat × Value := (2, pt (z + 1))
abbrev qzm6_64 (b49 : Nat) : Nat × Value := (10, pt b49)
abbrev qzm6_65 (n24 : Nat) : Nat × Value := (7, pt n24)
abbrev qzm6_66 (w : World) (z : Nat) (c : TConfig) (w2 : World) (k : Nat) (b118 : Nat) (psG : List TPartitionPlace) (cP2 : Nat) (aC : Option Addr) (csG : List TChannelPlace) (cC : Nat) (p : Nat) (aT : Option Addr) (cT : Nat) (t : Nat) (n24 : Nat) (n108 : Nat) (y117 : TPartition) : List Ch := [(old0 w), (qzm6_28 z c), (qzm6_15 z), (qzm6_23 w2 c k), (qzm6_5 w2 c b118 psG cP2 aC csG cC), (qzm6_33 z b118 psG cP2 p c aT cT t), (qzm6_40 z csG), (qzm6_39 z aC csG cC), (qzm6_20 n24 c p t), (qzm6_35 z psG p), (qzm6_24 n108 y117), (qzm6_34 z aT c p t cT)]
abbrev qzm6_67 (w : World) (z : Nat) (c : TConfig) (w2 : World) (k : Nat) (y33 : TChannel) (aP : Option Addr) (i : Nat) (cP : Nat) (aC : Option Addr) (csG : List TChannelPlace) (cC : Nat) (n24 : Nat) (w35 : World) (w54 : World) (y47 : Tend) : List Ch := [(old0 w), (qzm6_28 z c), (qzm6_15 z), (qzm6_16 w2 c k y33), (qzm6_8 w2 c aP i cP aC csG cC), (qzm6_36 z aP c i cP), (qzm6_40 z csG), (qzm6_39 z aC csG cC), (qzm6_26 n24 y33), (mid (n24 + 1) w35), (qzm6_6 w54 c k y47)]
abbrev qzm6_68 (w : World) (z : Nat) (c : TConfig) (w2 : World) (k : Nat) (y33 : TChannel) (aP : Option Addr) (i : Nat) (cP : Nat) (aC : Option Addr) (csG : List TChannelPlace) (cC : Nat) (n24 : Nat) (w35 : World) (y47 : Tend) : List Ch := [(old0 w), (qzm6_28 z c), (qzm6_15 z), (qzm6_16 w2 c k y33), (qzm6_8 w2 c aP i cP aC csG cC), (qzm6_36 z aP c i cP), (qzm6_40 z csG), (qzm6_39 z aC csG cC), (qzm6_26 n24 y33), (mid (n24 + 1) w35), (qzm6_7 w35 c k y47)]
abbrev qzm6_69 (w : World) (z : Nat) (c : TConfig) (w2 : World) (k : Nat) (aP : Option Addr) (i : Nat) (cP : Nat) (aC : Option Addr) (csG : List TChannelPlace) (cC : Nat) (n24 : Nat) (y33 : TChannel) (w35 : World) : List Ch := [(old0 w), (qzm6_28 z c), (qzm6_15 z), (qzm6_21 w2 c k), (qzm6_8 w2 c aP i cP aC csG cC), (qzm6_36 z aP c i cP), (qzm6_40 z csG), (qzm6_39 z aC csG cC), (qzm6_26 n24 y33), (mid (n24 + 1) w35), (qzm6_13 w35)]
abbrev qzm6_70 (w : World) (z : Nat) (c : TConfig) (w2 : World) (k : Nat) (aP2 : Option Addr) (psG : List TPartitionPlace) (cP2 : Nat) (aC : Option Addr) (csG : List TChannelPlace) (cC : Nat) (n24 : Nat) (p : Nat) : List Ch := [(old0 w), (qzm6_28 z c), (qzm6_15 z), (qzm6_23 w2 c k), (qzm6_11 w2 c aP2 psG cP2 aC csG cC), (qzm6_38 z aP2 psG cP2), (qzm6_40 z csG), (qzm6_39 z aC csG cC), (qzm6_25 n24 c p), (qzm6_35 z psG p)]
abbrev qzm6_71 (w : World) (z : Nat) (c : TConfig) (w2 : World) (i : Nat) (aP : Option Addr) (cP : Nat) : List Ch := [(old0 w), (qzm6_28 z c), (qzm6_15 z), (.blk w2.heap.size (.cells #[i6 (pAt c i)] 3 (0, 0)) true), (qzm6_10 w2 c aP i cP), (qzm6_36 z aP c i cP)]
abbrev qzm6_72 (w : World) (z : Nat) (c : TConfig) (w2 : World) (k : Nat) (aP : Option Addr) (i : Nat) (cP : Nat) (aC : Option Addr) (csG : List TChannelPlace) (cC : Nat) : List Ch := [(old0 w), (qzm6_28 z c), (qzm6_15 z), (qzm6_23 w2 c k), (qzm6_8 w2 c aP i cP aC csG cC), (qzm6_36 z aP c i cP), (qzm6_40 z csG), (qzm6_39 z aC csG cC)]
theorem of_yes (w : World) (c : TConfig) (hc : TConfig.ok Any w c) (hok : confOk c = true) : Calls Tryd.prog 31 #[.agg (TConfig.arr c)] w fun e w' => ∃ L : TLayout, e = .returned (.tuple #[.agg (TLayout.arr L), .int .i64 0]) ∧ IsLay c L ∧ TLayout.ok (New w.heap.size) w' L ∧ LayOwn w.heap.size w' L ∧ Keeps (fun _ => False) w w' := by
 obtain ⟨z, hz⟩ : ∃ z, z = w.heap.size := ⟨_, rfl⟩
 refine calls_G (args := [.agg (TConfig.arr c)]) 148 ⟨w, z, [(old0 w)]⟩ Tryd.func31 rfl (by kernel_rfl) (by kernel_rfl) (sat_0 hz) ?_
 have hfine := fine_of hok; have hkn := hfine.kn; have hpn := hfine.pn; have hcn := hfine.cn
 refine g_keep [0] [(0, .agg (TConfig.arr c))] ?_
 refine q_c 7 1 [] [[o0, o0, o0], [(an 7 1)]] [Qb z, Qb z, Qb z, Qb z, Qb z, Qb z, Qb z] [(1, pt z), (qzm6_63 z), (16, .agg (TConfig.arr c))] ⟨w, z + 2, [(old0 w), (qzm6_28 z c), (qzm6_15 z)]⟩ rfl ⟨rfl, rfl, rfl, rfl, rfl, rfl, rfl, trivial⟩ ?_
 refine l_call [] [] 56 #[.agg (TConfig.arr c)] (some 17) trivial ?_
 intro w1 hw1
 refine (can_yes w1 c (hc.ext (hw1.ext rfl) (fun _ h => h)) hok).mono ?_
 rintro e w2 ⟨rfl, hkw2⟩
 have hnw2 : z + 2 ≤ w2.heap.size := size_of hw1 hkw2
 refine ⟨_, _, rfl, hw1.keeps hkw2, ?_⟩
 refine q_rS 7 3 [0] [[o0], [o0, (a1 1), (ov (i6 (c.Kernel * 16)))]] [Qb z, Wr ((c.Kernel : Int) * 16) (c.Kernel * 16)] [(1, pt z), (qzm6_63 z), (22, i6 (c.Kernel * 16))] rfl ⟨rfl, wrI, trivial⟩ ?_
 refine l_call [] [] 57 #[i6 (c.Kernel * 16)] (some 23) trivial ?_
 intro w3 hw3
 refine calls_G (args := [i6 (c.Kernel * 16)]) 4 ⟨w, w2.heap.size, [(old0 w), (qzm6_28 z c), (qzm6_15 z)]⟩ Tryd.func57 rfl (by kernel_rfl) (by kernel_rfl) hw3 ?_
 refine q_c 9 0 [] [[o0, o0], [o0, o0]] [] [(2, .func (.func 75) #[] #[pt w2.heap.size])] ⟨w, w2.heap.size + 1, [(old0 w), (qzm6_28 z c), (qzm6_15 z), (.blk w2.heap.size (.cells #[i6 (c.Kernel * 16)] 3 (0, 0)) true)]⟩ rfl trivial ?_
 refine e_ret [] [] (.func (.func 75) #[] #[pt w2.heap.size]) trivial ?_
 intro w4 hw4
 refine ⟨_, _, rfl, hw4, ?_⟩
 refine q_rS 4 1 [] [[o0], [o0]] [] [(1, pt z), (qzm6_63 z), (qzm6_48 w2), (24, .func (.func 75) #[] #[pt w2.heap.size])] rfl trivial ?_
 refine l_call [] [] 75 #[i6 2, pt w2.heap.size] (some 25) trivial ?_
 intro w5 hw5
 refine calls_G (args := [i6 2, pt w2.heap.size]) 10 ⟨w, w2.heap.size + 1, [(old0 w), (qzm6_28 z c), (qzm6_15 z), (.blk w2.heap.size (.cells #[i6 (c.Kernel * 16)] 3 (0, 0)) true)]⟩ Tryd.func75 rfl (by kernel_rfl) (by kernel_rfl) hw5 ?_
 refine q_c 17 0 [] [[o0], [(a1 3), o0], [(a1 3), o0, (ov (i6 ((c.Kernel * 16) + 2))), (a1 3)], [o0, o0]] [Qb w2.heap.size, Qb w2.heap.size, Wr ((c.Kernel * 16 : Int) + 2) ((c.Kernel * 16) + 2), Qb w2.heap.size] [(3, i6 (c.Kernel * 16))] ⟨w, w2.heap.size + 1, [(old0 w), (qzm6_28 z c), (qzm6_15 z), (.blk w2.heap.size (.cells #[i6 ((c.Kernel * 16) + 2)] 3 (0, 0)) true)]⟩ rfl ⟨rfl, rfl, wrI, rfl, trivial⟩ ?_
 refine e_ret [] [] (i6 (c.Kernel * 16)) trivial ?_
 intro w6 hw6
 refine ⟨_, _, rfl, hw6, ?_⟩
 refine q_r 8 0 [] [[o0, o0, (an 4 4)], [o0, (a1 1), o0, o0]] [Qb (w2.heap.size + 1), Qb (w2.heap.size + 1), Qb (w2.heap.size + 1), Qb (w2.heap.size + 1), Qb z] [(1, pt z), (qzm6_63 z), (qzm6_48 w2), (qzm6_58 w2), (qzm6_56 c), (30, i6 0)] ⟨w, w2.heap.size + 2, [(old0 w), (qzm6_28 z c), (qzm6_15 z), (.blk w2.heap.size (.cells #[i6 ((c.Kernel * 16) + 2)] 3 (0, 0)) true), (bk (w2.heap.size + 1) #[i6 (c.Kernel * 16), .slice none 0 0, .slice none 0 0, i6 0] 79)]⟩ rfl ⟨rfl, rfl, rfl, rfl, rfl, trivial⟩ ?_
 refine g_rowL z 95 5 TPartitionPlace.cells ?_
 refine g_loop (fun m a w' => ∃ (n8 : Nat) (i : Nat) (aP : Option Addr) (cP : Nat), m = c.Partitions.xs.length - i ∧ w2.heap.size + 2 ≤ n8 ∧ (i ≤ c.Partitions.xs.length) ∧ St 148 [(1, pt z), (qzm6_63 z), (qzm6_48 w2), (qzm6_58 w2), (qzm6_56 c), (30, i6 (i : Int))] [] ⟨w, n8, (qzm6_71 w z c w2 i aP cP)⟩ a w') (c.Partitions.xs.length - 0) ?_ ?_
 · intro a w' hs; exact ⟨(w2.heap.size + 2), 0, none, 0, rfl, Nat.le_refl _, Nat.zero_le _, by (try dsimp only [qzm6_0, qzm6_1, qzm6_2, qzm6_3, qzm6_4, qzm6_5, qzm6_6, qzm6_7, qzm6_8, qzm6_9, qzm6_10, qzm6_11, qzm6_12, qzm6_13, qzm6_14, qzm6_15, qzm6_16, qzm6_17, qzm6_18, qzm6_19, qzm6_20, qzm6_21, qzm6_22, qzm6_23, qzm6_24, qzm6_25, qzm6_26, qzm6_27, qzm6_28, qzm6_29, qzm6_30, qzm6_31, qzm6_32, qzm6_33, qzm6_34, qzm6_35, qzm6_36, qzm6_37, qzm6_38, qzm6_39, qzm6_40, qzm6_41, qzm6_42, qzm6_43, qzm6_44, qzm6_45, qzm6_46, qzm6_47, qzm6_48, qzm6_49, qzm6_50, qzm6_51, qzm6_52, qzm6_53, qzm6_54, qzm6_55, qzm6_56, qzm6_57, qzm6_58, qzm6_59, qzm6_60, qzm6_61, qzm6_62, qzm6_63, qzm6_64, qzm6_65, qzm6_66, qzm6_67, qzm6_68, qzm6_69, qzm6_70, qzm6_71, qzm6_72] at hs ⊢); rw [show pAt c 0 = (c.Kernel * 16) + 2 from by unfold pAt; omega]; exact hs⟩
 · rintro m a w' ⟨n8, i, aP, cP, rfl, hn7, hki, hs⟩
   refine (?_ : G Tryd.prog 148 [(1, pt z), (qzm6_63 z), (qzm6_48 w2), (qzm6_58 w2), (qzm6_56 c), (30, i6 (i : Int))] [] ⟨w, n8, (qzm6_71 w z c w2 i aP cP)⟩ _ _ _) a w' hs
   clear hs a w'
   have hpA : pAt c i = c.Kernel * 16 + 2 + 24 * (i : Int) := rfl
   have hpl0 : (placesUp c i).length = i := placesUp_len
   refine g_seq ?_
   by_cases h9 : ((i : Int) : Int) < ((c.Partitions.xs.length : Nat) : Int)
   · refine q_cS 9 0 [1] [[oT]] [BT (((i : Int) : Int) < ((c.Partitions.xs.length : Nat) : Int))] [(1, pt z), (qzm6_63 z), (qzm6_48 w2), (qzm6_58 w2), (qzm6_56 c), (30, i6 (i : Int)), (31, .bool true)] rfl ⟨bt (by omega), trivial⟩ ?_
     refine g_draw 12 [0, 1, 2, 4] [(old0 w), (qzm6_28 z c), (qzm6_15 z), (qzm6_10 w2 c aP i cP)] rfl rfl ?_
     refine w_take [(0, o0), (1, (a1 3)), (2, o0), (4, o0), (6, o0)] [1, 2, 4, 5, 29, 30, 33, 34, 36, 38] [Qb (w2.heap.size + 1)] [true, true, true, false, true, false, true, false, false, false, false, false, false] [(1, pt z), (qzm6_63 z), (qzm6_48 w2), (qzm6_58 w2), (qzm6_56 c), (30, i6 (i : Int)), (qzm6_62 aP c i cP), (34, .func (.func 75) #[] #[pt w2.heap.size]), (36, .func (.func 75) #[] #[pt w2.heap.size]), (qzm6_46 w2)] rfl (by as_aux_lemma => kernel_rfl) (by as_aux_lemma => kernel_rfl) ⟨rfl, trivial⟩ ?_
     refine w_one 3 (by as_aux_lemma => kernel_rfl) rfl ?_
     refine wo_call [] [] 75 #[i6 2, pt w2.heap.size] (some 35) (by as_aux_lemma => kernel_rfl) rfl rfl trivial ?_
     intro w10 hw10
     refine calls_G (args := [i6 2, pt w2.heap.size]) 10 ⟨w, n8, (qzm6_71 w z c w2 i aP cP)⟩ Tryd.func75 rfl (by kernel_rfl) (by kernel_rfl) hw10 ?_
     refine q_c 17 0 [] [[o0], [(a1 3), o0], [(a1 3), o0, (ov (i6 ((pAt c i) + 2))), (a1 3)], [o0, o0]] [Qb w2.heap.size, Qb w2.heap.size, Wr ((pAt c i : Int) + 2) ((pAt c i) + 2), Qb w2.heap.size] [(3, i6 (pAt c i))] ⟨w, n8, [(old0 w), (qzm6_28 z c), (qzm6_15 z), (.blk w2.heap.size (.cells #[i6 ((pAt c i) + 2)] 3 (0, 0)) true), (qzm6_10 w2 c aP i cP), (qzm6_36 z aP c i cP)]⟩ rfl ⟨rfl, rfl, wrI, rfl, trivial⟩ ?_
     refine e_ret [] [] (i6 (pAt c i)) trivial ?_
     intro w11 hw11
     have hs12 := hw11
     refine ⟨_, _, rfl, hs12, .inr (fun c hc => hs12.all c (by first | exact hc | exact picks_mem (is := [0, 1, 2, 4]) rfl c hc)), ?_⟩
     refine w_keep [1, 2, 4, 5, 29, 30, 33, 36, 38, 35] [(1, pt z), (qzm6_63 z), (qzm6_48 w2), (qzm6_58 w2), (qzm6_56 c), (30, i6 (i : Int)), (qzm6_62 aP c i cP), (36, .func (.func 75) #[] #[pt w2.heap.size]), (qzm6_46 w2), (35, i6 (pAt c i))] ?_
     refine w_one 5 (by as_aux_lemma => kernel_rfl) rfl ?_
     refine wo_call [] [] 75 #[i6 17, pt w2.heap.size] (some 37) (by as_aux_lemma => kernel_rfl) rfl rfl trivial ?_
     intro w13 hw13
     refine calls_G (args := [i6 17, pt w2.heap.size]) 10 ⟨w, n8, [(old0 w), (qzm6_28 z c), (qzm6_15 z), (.blk w2.heap.size (.cells #[i6 ((pAt c i) + 2)] 3 (0, 0)) true), (qzm6_10 w2 c aP i cP), (qzm6_36 z aP c i cP)]⟩ Tryd.func75 rfl (by kernel_rfl) (by kernel_rfl) hw13 ?_
     refine q_c 17 0 [] [[o0], [(a1 3), o0], [(a1 3), o0, (ov (i6 (((pAt c i) + 2) + 17))), (a1 3)], [o0, o0]] [Qb w2.heap.size, Qb w2.heap.size, Wr (((pAt c i) + 2 : Int) + 17) (((pAt c i) + 2) + 17), Qb w2.heap.size] [(3, i6 ((pAt c i) + 2))] ⟨w, n8, [(old0 w), (qzm6_28 z c), (qzm6_15 z), (.blk w2.heap.size (.cells #[i6 (((pAt c i) + 2) + 17)] 3 (0, 0)) true), (qzm6_10 w2 c aP i cP), (qzm6_36 z aP c i cP)]⟩ rfl ⟨rfl, rfl, wrI, rfl, trivial⟩ ?_
     refine e_ret [] [] (i6 ((pAt c i) + 2)) trivial ?_
     intro w14 hw14
     have hs15 := hw14
     refine ⟨_, _, rfl, hs15, .inr (fun c hc => hs15.all c (by first | exact hc | exact picks_mem (is := [0, 1, 2, 4]) rfl c hc)), ?_⟩
     refine w_keep [1, 2, 4, 5, 29, 30, 33, 38, 35, 37] [(1, pt z), (qzm6_63 z), (qzm6_48 w2), (qzm6_58 w2), (qzm6_56 c), (30, i6 (i : Int)), (qzm6_62 aP c i cP), (qzm6_46 w2), (35, i6 (pAt c i)), (37, i6 ((pAt c i) + 2))] ?_
     refine w_one 7 (by as_aux_lemma => kernel_rfl) rfl ?_
     refine wo_call [] [] 75 #[i6 5, pt w2.heap.size] (some 39) (by as_aux_lemma => kernel_rfl) rfl rfl trivial ?_
     intro w16 hw16
     refine calls_G (args := [i6 5, pt w2.heap.size]) 10 ⟨w, n8, [(old0 w), (qzm6_28 z c), (qzm6_15 z), (.blk w2.heap.size (.cells #[i6 (((pAt c i) + 2) + 17)] 3 (0, 0)) true), (qzm6_10 w2 c aP i cP), (qzm6_36 z aP c i cP)]⟩ Tryd.func75 rfl (by kernel_rfl) (by kernel_rfl) hw16 ?_
     refine q_c 17 0 [] [[o0], [(a1 3), o0], [(a1 3), o0, (ov (i6 ((((pAt c i) + 2) + 17) + 5))), (a1 3)], [o0, o0]] [Qb w2.heap.size, Qb w2.heap.size, Wr ((((pAt c i) + 2) + 17 : Int) + 5) ((((pAt c i) + 2) + 17) + 5), Qb w2.heap.size] [(3, i6 (((pAt c i) + 2) + 17))] ⟨w, n8, [(old0 w), (qzm6_28 z c), (qzm6_15 z), (qzm6_17 w2 c i), (qzm6_10 w2 c aP i cP), (qzm6_36 z aP c i cP)]⟩ rfl ⟨rfl, rfl, wrI, rfl, trivial⟩ ?_
     refine e_ret [] [] (i6 (((pAt c i) + 2) + 17)) trivial ?_
     intro w17 hw17
     have hs18 := hw17
     refine ⟨_, _, rfl, hs18, .inr (fun c hc => hs18.all c (by first | exact hc | exact picks_mem (is := [0, 1, 2, 4]) rfl c hc)), ?_⟩
     refine w_keep [1, 2, 4, 5, 29, 30, 33, 35, 37, 39] [(1, pt z), (qzm6_63 z), (qzm6_48 w2), (qzm6_58 w2), (qzm6_56 c), (30, i6 (i : Int)), (qzm6_62 aP c i cP), (35, i6 (pAt c i)), (37, i6 ((pAt c i) + 2)), (39, i6 (((pAt c i) + 2) + 17))] ?_
     refine w_take [(8, o0)] [1, 2, 4, 5, 29, 30, 33, 40] [] [true, true, true, true, true, true, true, true, true, false, false, false, false] [(1, pt z), (qzm6_63 z), (qzm6_48 w2), (qzm6_58 w2), (qzm6_56 c), (30, i6 (i : Int)), (qzm6_62 aP c i cP), (40, .agg #[i6 (pAt c i), i6 ((pAt c i) + 2), i6 (((pAt c i) + 2) + 17), i6 0, .slice none 0 0])] rfl (by as_aux_lemma => kernel_rfl) (by as_aux_lemma => kernel_rfl) trivial ?_
     refine w_one 9 (by as_aux_lemma => kernel_rfl) rfl ?_
     refine wo_eff o0 [1, 2, 4, 5, 29, 30, 33, 41] [] [(1, pt z), (qzm6_63 z), (qzm6_48 w2), (qzm6_58 w2), (qzm6_56 c), (30, i6 (i : Int)), (qzm6_62 aP c i cP), (41, .slice (some ⟨n8, 0, none⟩) 1 1)] ⟨w, n8 + 1, [(old0 w), (qzm6_28 z c), (qzm6_15 z), (qzm6_17 w2 c i), (qzm6_10 w2 c aP i cP), (qzm6_36 z aP c i cP), (qzm6_9 n8 c i)]⟩ [0, 1, 2, 4] (by as_aux_lemma => kernel_rfl) rfl trivial (.inr rfl) ?_
     refine w_one 10 (by as_aux_lemma => kernel_rfl) rfl ?_
     refine wo_push z 5 6 (placesUp c i) [(⟨pAt c i, (pAt c i) + 2, ((pAt c i) + 2) + 17, 0, (⟨none, 0, []⟩ : Sl Int)⟩ : TPartitionPlace)] TPartitionPlace.cells 95 5 56 (.slice aP ((placesUp c i).length) cP) n8 1 1 #[i6 (pAt c i), i6 ((pAt c i) + 2), i6 (((pAt c i) + 2) + 17), i6 0, .slice none 0 0] 95 (0, 0) true (some 42) [0, 1, 2, 4] (by simp only [List.length_cons, List.length_nil]; omega) (show z ≤ n8 + 1 by omega) (.inr ⟨rfl, rfl⟩) (fun ax19 cp20 n21 (hn22 : n8 + 1 ≤ n21) => ?_)
     refine w_keep [1, 2, 4, 5, 29, 30, 42] [(1, pt z), (qzm6_63 z), (qzm6_48 w2), (qzm6_58 w2), (qzm6_56 c), (30, i6 (i : Int)), (qzm6_41 ax19 c i cp20)] ?_
     refine w_take [(11, o0)] [1, 2, 4, 5, 29, 30, 42, 43] [] [true, true, true, true, true, true, true, true, true, true, true, true, false] [(1, pt z), (qzm6_63 z), (qzm6_48 w2), (qzm6_58 w2), (qzm6_56 c), (30, i6 (i : Int)), (qzm6_41 ax19 c i cp20), (43, .pointer (some ⟨w2.heap.size + 1, 1, none⟩))] rfl (by as_aux_lemma => kernel_rfl) (by as_aux_lemma => kernel_rfl) trivial ?_
     refine w_one 12 (by as_aux_lemma => kernel_rfl) rfl ?_
     refine wo_eff (a1 4) [1, 2, 4, 5, 29, 30] [Qb (w2.heap.size + 1)] [(1, pt z), (qzm6_63 z), (qzm6_48 w2), (qzm6_58 w2), (qzm6_56 c), (30, i6 (i : Int))] ⟨w, n21, [(old0 w), (qzm6_28 z c), (qzm6_15 z), (qzm6_17 w2 c i), (qzm6_1 w2 c ax19 i cp20), (qzm6_31 z ax19 c i cp20), (qzm6_9 n8 c i)]⟩ [] (by as_aux_lemma => kernel_rfl) rfl ⟨rfl, trivial⟩ (.inl rfl) ?_
     refine w_free 13 [0, 1, 2, 3, 4, 5, 6] [(old0 w), (qzm6_28 z c), (qzm6_15 z), (qzm6_17 w2 c i), (qzm6_1 w2 c ax19 i cp20), (qzm6_31 z ax19 c i cp20), (qzm6_9 n8 c i)] rfl rfl ?_
     refine w_done (by as_aux_lemma => kernel_rfl) ?_
     refine q_oS 4 0 [] [[(ov (i6 ((i + 1 : Nat) : Int))), o0]] [Wr (((i : Int) : Int) + 1) (((i + 1 : Nat) : Int))] [(1, pt z), (qzm6_63 z), (qzm6_48 w2), (qzm6_58 w2), (qzm6_56 c), (30, i6 ((i + 1 : Nat) : Int))] rfl ⟨wrI, trivial⟩ ?_
     refine e_pick [0, 1, 2, 3, 4, 5] [(old0 w), (qzm6_28 z c), (qzm6_15 z), (qzm6_17 w2 c i), (qzm6_1 w2 c ax19 i cp20), (qzm6_31 z ax19 c i cp20)] rfl rfl ?_
     refine e_keep [1, 2, 4, 5, 29, 30] [(1, pt z), (qzm6_63 z), (qzm6_48 w2), (qzm6_58 w2), (qzm6_56 c), (30, i6 ((i + 1 : Nat) : Int))] ?_
     refine e_inv (fun a w' hs => ⟨c.Partitions.xs.length - (i + 1), by omega, n21, (i + 1), ax19, cp20, rfl, by omega, by omega, by (try dsimp only [qzm6_0, qzm6_1, qzm6_2, qzm6_3, qzm6_4, qzm6_5, qzm6_6, qzm6_7, qzm6_8, qzm6_9, qzm6_10, qzm6_11, qzm6_12, qzm6_13, qzm6_14, qzm6_15, qzm6_16, qzm6_17, qzm6_18, qzm6_19, qzm6_20, qzm6_21, qzm6_22, qzm6_23, qzm6_24, qzm6_25, qzm6_26, qzm6_27, qzm6_28, qzm6_29, qzm6_30, qzm6_31, qzm6_32, qzm6_33, qzm6_34, qzm6_35, qzm6_36, qzm6_37, qzm6_38, qzm6_39, qzm6_40, qzm6_41, qzm6_42, qzm6_43, qzm6_44, qzm6_45, qzm6_46, qzm6_47, qzm6_48, qzm6_49, qzm6_50, qzm6_51, qzm6_52, qzm6_53, qzm6_54, qzm6_55, qzm6_56, qzm6_57, qzm6_58, qzm6_59, qzm6_60, qzm6_61, qzm6_62, qzm6_63, qzm6_64, qzm6_65, qzm6_66, qzm6_67, qzm6_68, qzm6_69, qzm6_70, qzm6_71, qzm6_72] at hs ⊢); rw [show pAt c (i + 1) = (((pAt c i) + 2) + 17) + 5 from by unfold pAt; omega, placesUp_succ]; exact hs⟩)
   · refine q_cS 16 0 [0] [[oF], [o0, (a1 1), o0, o0]] [BF (((i : Int) : Int) < ((c.Partitions.xs.length : Nat) : Int)), Qb z] [(1, pt z), (qzm6_63 z), (qzm6_48 w2), (qzm6_58 w2), (qzm6_51 c), (qzm6_57 c), (48, i6 0)] rfl ⟨bf (by omega), rfl, trivial⟩ ?_
     refine g_fam0 z 106 3 TDestPlace.cells ?_
     refine g_rowL z 104 5 TChannelPlace.cells ?_
     refine g_loop (fun m a w' => ∃ (n24 : Nat) (k : Nat) (csG : List TChannelPlace) (aC : Option Addr) (cC : Nat), m = c.Channels.xs.length - k ∧ n8 ≤ n24 ∧ (k ≤ c.Channels.xs.length) ∧ (csG.length = k) ∧ (∀ q, q < k → ∃ a cp, gd csG q = chanAt c q ⟨a, cp, destsUp c q (nDest c q)⟩) ∧ St 148 [(1, pt z), (qzm6_63 z), (qzm6_48 w2), (qzm6_58 w2), (qzm6_51 c), (qzm6_57 c), (48, i6 (k : Int))] [] ⟨w, n24, (qzm6_72 w z c w2 k aP i cP aC csG cC)⟩ a w') (c.Channels.xs.length - 0) ?_ ?_
     · intro a w' hs; exact ⟨n8, 0, ([]), none, 0, rfl, Nat.le_refl _, Nat.zero_le _, rfl, fun q hq => absurd hq (Nat.not_lt_zero q), by (try dsimp only [qzm6_0, qzm6_1, qzm6_2, qzm6_3, qzm6_4, qzm6_5, qzm6_6, qzm6_7, qzm6_8, qzm6_9, qzm6_10, qzm6_11, qzm6_12, qzm6_13, qzm6_14, qzm6_15, qzm6_16, qzm6_17, qzm6_18, qzm6_19, qzm6_20, qzm6_21, qzm6_22, qzm6_23, qzm6_24, qzm6_25, qzm6_26, qzm6_27, qzm6_28, qzm6_29, qzm6_30, qzm6_31, qzm6_32, qzm6_33, qzm6_34, qzm6_35, qzm6_36, qzm6_37, qzm6_38, qzm6_39, qzm6_40, qzm6_41, qzm6_42, qzm6_43, qzm6_44, qzm6_45, qzm6_46, qzm6_47, qzm6_48, qzm6_49, qzm6_50, qzm6_51, qzm6_52, qzm6_53, qzm6_54, qzm6_55, qzm6_56, qzm6_57, qzm6_58, qzm6_59, qzm6_60, qzm6_61, qzm6_62, qzm6_63, qzm6_64, qzm6_65, qzm6_66, qzm6_67, qzm6_68, qzm6_69, qzm6_70, qzm6_71, qzm6_72] at hs ⊢); rw [show cAt c 0 = pAt c i from by rw [show i = c.Partitions.xs.length by omega]; rfl]; exact hs⟩
     · rintro m a w' ⟨n24, k, csG, aC, cC, rfl, hn23, hkk, hcl, hcs, hs⟩
       refine (?_ : G Tryd.prog 148 [(1, pt z), (qzm6_63 z), (qzm6_48 w2), (qzm6_58 w2), (qzm6_51 c), (qzm6_57 c), (48, i6 (k : Int))] [] ⟨w, n24, (qzm6_72 w z c w2 k aP i cP aC csG cC)⟩ _ _ _) a w' hs
       clear hs a w'
       have hcb := cAt_bd hfine k (by omega)
       have hp0 : pAt c c.Partitions.xs.length = c.Kernel * 16 + 2 + 24 * (c.Partitions.xs.length : Int) := rfl
       refine g_seq ?_
       by_cases h25 : ((k : Int) : Int) < ((c.Channels.xs.length : Nat) : Int)
       · refine q_cS 10 0 [1] [[oT]] [BT (((k : Int) : Int) < ((c.Channels.xs.length : Nat) : Int))] [(1, pt z), (qzm6_63 z), (qzm6_48 w2), (qzm6_58 w2), (qzm6_51 c), (qzm6_57 c), (48, i6 (k : Int)), (49, .bool true)] rfl ⟨bt (by omega), trivial⟩ ?_
         obtain ⟨b26, o27, ha28, hF30, hc29⟩ := (hc.Channels).1.all (show 0 < c.Channels.xs.length by omega)
         replace ha28 : c.Channels.a = some ⟨b26, o27, none⟩ := ha28
         refine g_eq [(1, pt z), (qzm6_63 z), (qzm6_48 w2), (qzm6_58 w2), (qzm6_45 b26 o27 c), (qzm6_57 c), (48, i6 (k : Int)), (49, .bool true)] (by (try dsimp only [qzm6_0, qzm6_1, qzm6_2, qzm6_3, qzm6_4, qzm6_5, qzm6_6, qzm6_7, qzm6_8, qzm6_9, qzm6_10, qzm6_11, qzm6_12, qzm6_13, qzm6_14, qzm6_15, qzm6_16, qzm6_17, qzm6_18, qzm6_19, qzm6_20, qzm6_21, qzm6_22, qzm6_23, qzm6_24, qzm6_25, qzm6_26, qzm6_27, qzm6_28, qzm6_29, qzm6_30, qzm6_31, qzm6_32, qzm6_33, qzm6_34, qzm6_35, qzm6_36, qzm6_37, qzm6_38, qzm6_39, qzm6_40, qzm6_41, qzm6_42, qzm6_43, qzm6_44, qzm6_45, qzm6_46, qzm6_47, qzm6_48, qzm6_49, qzm6_50, qzm6_51, qzm6_52, qzm6_53, qzm6_54, qzm6_55, qzm6_56, qzm6_57, qzm6_58, qzm6_59, qzm6_60, qzm6_61, qzm6_62, qzm6_63, qzm6_64, qzm6_65, qzm6_66, qzm6_67, qzm6_68, qzm6_69, qzm6_70, qzm6_71, qzm6_72]); simp only [ha28]) ?_
         have hc31 := hc29 k (show k < c.Channels.xs.length by omega)
         have he32 := (hc.Channels).2 k (show k < c.Channels.xs.length by omega)
         obtain ⟨y33, hy33⟩ : ∃ y_, y_ = gd c.Channels.xs k := ⟨_, rfl⟩
         rw [← hy33] at he32 hc31
         have hEd := hfine.dests (k := k) (by omega); have hsb := stage_bd y33; have hpb := port_bd y33; have hlb := cLen_bd hfine (show k < c.Channels.xs.length by omega); have hEn : nDest c k = (endsOf c (k : Int) false).length := rfl
         refine q_c 5 2 [] [[o0, (oi k), (ol 0 (TChannel.arr y33)), o0, o0, (an 3 8)], [(an 7 1), o0]] [((k : Int) : Int) = ((k : Nat) : Int), k < c.Channels.xs.length, (none : Option Nat) = none, OldR w b26 (o27 + k * 3) (TChannel.arr y33), Qb n24, Qb n24, Qb n24, Qb z, Qb z, Qb z, Qb z, Qb z, Qb z, Qb z] [(1, pt z), (qzm6_63 z), (qzm6_48 w2), (qzm6_58 w2), (qzm6_45 b26 o27 c), (qzm6_57 c), (48, i6 (k : Int)), (qzm6_65 n24), (54, .agg (TConfig.arr c)), (55, i6 (k : Int))] ⟨w, n24 + 1, [(old0 w), (qzm6_28 z c), (qzm6_15 z), (qzm6_23 w2 c k), (qzm6_8 w2 c aP i cP aC csG cC), (qzm6_36 z aP c i cP), (qzm6_40 z csG), (qzm6_39 z aC csG cC), (qzm6_26 n24 y33)]⟩ rfl ⟨rfl, (by omega), rfl, old_row hc31, rfl, rfl, rfl, rfl, rfl, rfl, rfl, rfl, rfl, rfl, trivial⟩ ?_
         refine l_call [] [] 58 #[.agg (TConfig.arr c), i6 (k : Int)] (some 56) trivial ?_
         intro w34 hw34
         refine (ends_calls w34 c (k : Int) (hc.ext (hw34.ext rfl) (fun _ h => h)) (by omega) (fun i hi => part_ports (hfine.parts i hi))).mono ?_
         rintro e w35 ⟨ax36, cp37, ax38, cp39, rfl, hSw35, hDw35, hkw35⟩
         have hnw35 : n24 + 1 ≤ w35.heap.size := size_of hw34 hkw35
         rw [hw34.size] at hSw35 hDw35
         refine ⟨_, _, rfl, hw34.keepsM hkw35, ?_⟩
         refine q_rS 3 0 [] [[o0, o0, o0, o0, o0]] [] [(1, pt z), (qzm6_63 z), (qzm6_48 w2), (qzm6_58 w2), (qzm6_45 b26 o27 c), (qzm6_57 c), (48, i6 (k : Int)), (qzm6_65 n24), (8, .slice ax36 ((endsOf c (k : Int) true).length) cp37), (qzm6_54 ax38 c k cp39)] rfl trivial ?_
         obtain ⟨b40, o41, ha42, hF44, hc43⟩ := ((⟨hSw35, ends_ink hfine⟩ : SlOk Tend.cells 2 Tend.ok _ _ _)).1.all (show 0 < (endsOf c (k : Int) true).length by omega)
         replace ha42 : ax36 = some ⟨b40, o41, none⟩ := ha42
         refine g_eq [(1, pt z), (qzm6_63 z), (qzm6_48 w2), (qzm6_58 w2), (qzm6_45 b26 o27 c), (qzm6_57 c), (48, i6 (k : Int)), (qzm6_65 n24), (8, .slice (some ⟨b40, o41, none⟩) ((endsOf c (k : Int) true).length) cp37), (qzm6_54 ax38 c k cp39)] (by (try dsimp only [qzm6_0, qzm6_1, qzm6_2, qzm6_3, qzm6_4, qzm6_5, qzm6_6, qzm6_7, qzm6_8, qzm6_9, qzm6_10, qzm6_11, qzm6_12, qzm6_13, qzm6_14, qzm6_15, qzm6_16, qzm6_17, qzm6_18, qzm6_19, qzm6_20, qzm6_21, qzm6_22, qzm6_23, qzm6_24, qzm6_25, qzm6_26, qzm6_27, qzm6_28, qzm6_29, qzm6_30, qzm6_31, qzm6_32, qzm6_33, qzm6_34, qzm6_35, qzm6_36, qzm6_37, qzm6_38, qzm6_39, qzm6_40, qzm6_41, qzm6_42, qzm6_43, qzm6_44, qzm6_45, qzm6_46, qzm6_47, qzm6_48, qzm6_49, qzm6_50, qzm6_51, qzm6_52, qzm6_53, qzm6_54, qzm6_55, qzm6_56, qzm6_57, qzm6_58, qzm6_59, qzm6_60, qzm6_61, qzm6_62, qzm6_63, qzm6_64, qzm6_65, qzm6_66, qzm6_67, qzm6_68, qzm6_69, qzm6_70, qzm6_71, qzm6_72]); simp only [ha42]) ?_
         have hc45 := hc43 0 (show 0 < (endsOf c (k : Int) true).length by omega)
         have he46 := ((⟨hSw35, ends_ink hfine⟩ : SlOk Tend.cells 2 Tend.ok _ _ _)).2 0 (show 0 < (endsOf c (k : Int) true).length by omega)
         obtain ⟨y47, hy47⟩ : ∃ y_, y_ = gd (⟨ax36, cp37, endsOf c (k : Int) true⟩ : Sl Tend).xs 0 := ⟨_, rfl⟩
         rw [← hy47] at he46 hc45
         refine g_draw 16 [0, 1, 2, 4, 5, 6, 7, 8, 9] [(old0 w), (qzm6_28 z c), (qzm6_15 z), (qzm6_8 w2 c aP i cP aC csG cC), (qzm6_36 z aP c i cP), (qzm6_40 z csG), (qzm6_39 z aC csG cC), (qzm6_26 n24 y33), (mid (n24 + 1) w35)] rfl rfl ?_
         refine w_take [(0, o0), (2, o0), (3, (an 3 7)), (6, o0), (7, (oi 0)), (8, o0), (9, (oa [.via 8 (i6 y47.partition)])), (10, o0), (11, (oi 0)), (12, o0), (13, (oa [.via 8 (i6 y47.port)]))] [1, 2, 4, 5, 46, 47, 48, 7, 9, 59, 61, 62, 68, 72] [Qb n24, Qb n24, Qb n24, (0 : Int) = ((0 : Nat) : Int), 0 < (endsOf c (k : Int) true).length, (none : Option Nat) = none, ∀ w', Ch.holds (mid (n24 + 1) w35) w' → w'.cell? ⟨b40, o41, none⟩ = some (i6 y47.partition), (0 : Int) = ((0 : Nat) : Int), 0 < (endsOf c (k : Int) true).length, (none : Option Nat) = none, ∀ w', Ch.holds (mid (n24 + 1) w35) w' → w'.cell? ⟨b40, o41 + 1, none⟩ = some (i6 y47.port)] [true, false, true, true, false, false, true, true, true, true, true, true, true, true, false, false, false] [(1, pt z), (qzm6_63 z), (qzm6_48 w2), (qzm6_58 w2), (qzm6_45 b26 o27 c), (qzm6_57 c), (48, i6 (k : Int)), (qzm6_65 n24), (qzm6_54 ax38 c k cp39), (59, .func (.func 75) #[] #[pt w2.heap.size]), (qzm6_47 w2), (62, .agg (TChannel.arr y33)), (68, i6 y47.partition), (72, i6 y47.port)] rfl (by as_aux_lemma => kernel_rfl) (by as_aux_lemma => kernel_rfl) ⟨rfl, rfl, rfl, rfl, (by omega), rfl, mid_cell hF44 (hc45 0 _ rfl), rfl, (by omega), rfl, mid_cell hF44 (hc45 1 _ rfl), trivial⟩ ?_
         refine w_join (fun x : {p : Nat × Nat // w35.heap.size ≤ p.1 ∧ w35.heap.size ≤ p.2} => ([(1, pt z), (qzm6_63 z), (qzm6_48 w2), (qzm6_58 w2), (qzm6_45 b26 o27 c), (qzm6_57 c), (48, i6 (k : Int)), (qzm6_65 n24), (qzm6_54 ax38 c k cp39), (10, pt x.1.2)], ⟨w, x.1.1, [(old0 w), (qzm6_28 z c), (qzm6_15 z), (qzm6_16 w2 c k y33), (qzm6_8 w2 c aP i cP aC csG cC), (qzm6_36 z aP c i cP), (qzm6_40 z csG), (qzm6_39 z aC csG cC), (qzm6_26 n24 y33), (mid (n24 + 1) w35), (.blk x.1.2 (.cells #[i6 (cAt c k), i6 ((cAt c k) + 2), i6 y47.partition, i6 y47.port, .slice none 0 0] 104 (0, 0)) true)]⟩)) (fun hK => ?_) ?_
         · refine w_all [1, 15] (by as_aux_lemma => kernel_rfl) rfl rfl ?_
           refine List.forall_mem_cons.2 ⟨?_, List.forall_mem_cons.2 ⟨?_, fun _ h => absurd h List.not_mem_nil⟩⟩
           · refine wo_call [] [] 75 #[i6 2, pt w2.heap.size] (some 60) (by as_aux_lemma => kernel_rfl) rfl rfl trivial ?_
             intro w50 hw50
             refine calls_G (args := [i6 2, pt w2.heap.size]) 10 ⟨w, w35.heap.size, [(old0 w), (qzm6_28 z c), (qzm6_15 z), (qzm6_23 w2 c k), (qzm6_8 w2 c aP i cP aC csG cC), (qzm6_36 z aP c i cP), (qzm6_40 z csG), (qzm6_39 z aC csG cC), (qzm6_26 n24 y33), (mid (n24 + 1) w35)]⟩ Tryd.func75 rfl (by kernel_rfl) (by kernel_rfl) hw50 ?_
             refine q_c 17 0 [] [[o0], [(a1 3), o0], [(a1 3), o0, (ov (i6 ((cAt c k) + 2))), (a1 3)], [o0, o0]] [Qb w2.heap.size, Qb w2.heap.size, Wr ((cAt c k : Int) + 2) ((cAt c k) + 2), Qb w2.heap.size] [(3, i6 (cAt c k))] ⟨w, w35.heap.size, [(old0 w), (qzm6_28 z c), (qzm6_15 z), (qzm6_21 w2 c k), (qzm6_8 w2 c aP i cP aC csG cC), (qzm6_36 z aP c i cP), (qzm6_40 z csG), (qzm6_39 z aC csG cC), (qzm6_26 n24 y33), (mid (n24 + 1) w35)]⟩ rfl ⟨rfl, rfl, wrI, rfl, trivial⟩ ?_
             refine e_ret [] [] (i6 (cAt c k)) trivial ?_
             intro w51 hw51
             have hs52 := hw51
             refine ⟨_, _, rfl, hs52, .inr (fun c hc => hs52.all c (by first | exact hc | exact picks_mem (is := [0, 1, 2, 4, 5, 6, 7, 8, 9]) rfl c hc)), ?_⟩
             refine w_keep [1, 2, 4, 5, 46, 47, 48, 7, 9, 61, 62, 68, 72, 60] [(1, pt z), (qzm6_63 z), (qzm6_48 w2), (qzm6_58 w2), (qzm6_45 b26 o27 c), (qzm6_57 c), (48, i6 (k : Int)), (qzm6_65 n24), (qzm6_54 ax38 c k cp39), (qzm6_47 w2), (62, .agg (TChannel.arr y33)), (68, i6 y47.partition), (72, i6 y47.port), (60, i6 (cAt c k))] ?_
             refine w_all [4, 15] (by as_aux_lemma => kernel_rfl) rfl rfl ?_
             refine List.forall_mem_cons.2 ⟨?_, List.forall_mem_cons.2 ⟨?_, fun _ h => absurd h List.not_mem_nil⟩⟩
             · refine wo_call [] [] 59 #[.agg (TChannel.arr y33)] (some 63) (by as_aux_lemma => kernel_rfl) rfl rfl trivial ?_
               intro w53 hw53
               refine (stage_calls w53 y33 (he32.ext (hw53.ext rfl) (fun _ h => h))).mono ?_
               rintro e w54 ⟨rfl, hkw54⟩
               have hnw54 : w35.heap.size ≤ w54.heap.size := size_of hw53 hkw54
               have hs55 := hw53.keeps hkw54
               refine ⟨_, _, rfl, hs55, .inr (fun c hc => hs55.all c (by first | exact hc | exact picks_mem (is := [0, 1, 2, 4, 5, 6, 7, 8, 9]) rfl c hc)), ?_⟩
               refine w_keep [1, 2, 4, 5, 46, 47, 48, 7, 9, 61, 68, 72, 60, 63] [(1, pt z), (qzm6_63 z), (qzm6_48 w2), (qzm6_58 w2), (qzm6_45 b26 o27 c), (qzm6_57 c), (48, i6 (k : Int)), (qzm6_65 n24), (qzm6_54 ax38 c k cp39), (qzm6_47 w2), (68, i6 y47.partition), (72, i6 y47.port), (60, i6 (cAt c k)), (63, i6 (stageOf y33))] ?_
               refine w_all [5, 15] (by as_aux_lemma => kernel_rfl) rfl rfl ?_
               refine List.forall_mem_cons.2 ⟨?_, List.forall_mem_cons.2 ⟨?_, fun _ h => absurd h List.not_mem_nil⟩⟩
               · refine wo_call [] [] 75 #[i6 (stageOf y33), pt w2.heap.size] (some 64) (by as_aux_lemma => kernel_rfl) rfl rfl trivial ?_
                 intro w56 hw56
                 refine calls_G (args := [i6 (stageOf y33), pt w2.heap.size]) 10 ⟨w, w54.heap.size, [(old0 w), (qzm6_28 z c), (qzm6_15 z), (qzm6_21 w2 c k), (qzm6_8 w2 c aP i cP aC csG cC), (qzm6_36 z aP c i cP), (qzm6_40 z csG), (qzm6_39 z aC csG cC), (qzm6_26 n24 y33), (mid (n24 + 1) w35)]⟩ Tryd.func75 rfl (by kernel_rfl) (by kernel_rfl) hw56 ?_
                 refine q_c 17 0 [] [[o0], [(a1 3), o0], [(a1 3), o0, (ov (i6 (((cAt c k) + 2) + (stageOf y33)))), (a1 3)], [o0, o0]] [Qb w2.heap.size, Qb w2.heap.size, Wr (((cAt c k) + 2 : Int) + (stageOf y33)) (((cAt c k) + 2) + (stageOf y33)), Qb w2.heap.size] [(3, i6 ((cAt c k) + 2))] ⟨w, w54.heap.size, [(old0 w), (qzm6_28 z c), (qzm6_15 z), (qzm6_16 w2 c k y33), (qzm6_8 w2 c aP i cP aC csG cC), (qzm6_36 z aP c i cP), (qzm6_40 z csG), (qzm6_39 z aC csG cC), (qzm6_26 n24 y33), (mid (n24 + 1) w35)]⟩ rfl ⟨rfl, rfl, wrI, rfl, trivial⟩ ?_
                 refine e_ret [] [] (i6 ((cAt c k) + 2)) trivial ?_
                 intro w57 hw57
                 have hs58 := hw57
                 refine ⟨_, _, rfl, hs58, .inr (fun c hc => hs58.all c (by first | exact hc | exact picks_mem (is := [0, 1, 2, 4, 5, 6, 7, 8, 9]) rfl c hc)), ?_⟩
                 refine w_keep [1, 2, 4, 5, 46, 47, 48, 7, 9, 68, 72, 60, 64] [(1, pt z), (qzm6_63 z), (qzm6_48 w2), (qzm6_58 w2), (qzm6_45 b26 o27 c), (qzm6_57 c), (48, i6 (k : Int)), (qzm6_65 n24), (qzm6_54 ax38 c k cp39), (68, i6 y47.partition), (72, i6 y47.port), (60, i6 (cAt c k)), (64, i6 ((cAt c k) + 2))] ?_
                 refine w_take [(14, o0)] [1, 2, 4, 5, 46, 47, 48, 7, 9, 73] [] [true, true, true, true, true, true, true, true, true, true, true, true, true, true, true, false, false] [(1, pt z), (qzm6_63 z), (qzm6_48 w2), (qzm6_58 w2), (qzm6_45 b26 o27 c), (qzm6_57 c), (48, i6 (k : Int)), (qzm6_65 n24), (qzm6_54 ax38 c k cp39), (qzm6_42 c k y47)] rfl (by as_aux_lemma => kernel_rfl) (by as_aux_lemma => kernel_rfl) trivial ?_
                 refine w_one 15 (by as_aux_lemma => kernel_rfl) rfl ?_
                 refine wo_eff o0 [1, 2, 4, 5, 46, 47, 48, 7, 9, 73, 10] [] [(1, pt z), (qzm6_63 z), (qzm6_48 w2), (qzm6_58 w2), (qzm6_45 b26 o27 c), (qzm6_57 c), (48, i6 (k : Int)), (qzm6_65 n24), (qzm6_54 ax38 c k cp39), (qzm6_42 c k y47), (qzm6_59 w54)] ⟨w, w54.heap.size + 1, [(old0 w), (qzm6_28 z c), (qzm6_15 z), (qzm6_16 w2 c k y33), (qzm6_8 w2 c aP i cP aC csG cC), (qzm6_36 z aP c i cP), (qzm6_40 z csG), (qzm6_39 z aC csG cC), (qzm6_26 n24 y33), (mid (n24 + 1) w35), (qzm6_12 w54)]⟩ [0, 1, 2, 4, 5, 6, 7, 8, 9] (by as_aux_lemma => kernel_rfl) rfl trivial (.inr rfl) ?_
                 refine w_one 16 (by as_aux_lemma => kernel_rfl) rfl ?_
                 refine wo_eff (an 5 10) [1, 2, 4, 5, 46, 47, 48, 7, 9, 10] [Qb w54.heap.size, Qb w54.heap.size, Qb w54.heap.size, Qb w54.heap.size, Qb w54.heap.size] [(1, pt z), (qzm6_63 z), (qzm6_48 w2), (qzm6_58 w2), (qzm6_45 b26 o27 c), (qzm6_57 c), (48, i6 (k : Int)), (qzm6_65 n24), (qzm6_54 ax38 c k cp39), (qzm6_59 w54)] ⟨w, w54.heap.size + 1, (qzm6_67 w z c w2 k y33 aP i cP aC csG cC n24 w35 w54 y47)⟩ [] (by as_aux_lemma => kernel_rfl) rfl ⟨rfl, rfl, rfl, rfl, rfl, trivial⟩ (.inl rfl) ?_
                 refine w_free 17 [0, 1, 2, 3, 4, 5, 6, 7, 8, 9, 10] (qzm6_67 w z c w2 k y33 aP i cP aC csG cC n24 w35 w54 y47) rfl rfl ?_
                 refine w_done (by as_aux_lemma => kernel_rfl) ?_
                 refine e_keep [1, 2, 4, 5, 46, 47, 48, 7, 9, 10] [(1, pt z), (qzm6_63 z), (qzm6_48 w2), (qzm6_58 w2), (qzm6_45 b26 o27 c), (qzm6_57 c), (48, i6 (k : Int)), (qzm6_65 n24), (qzm6_54 ax38 c k cp39), (qzm6_59 w54)] ?_
                 refine e_pick [0, 1, 2, 3, 4, 5, 6, 7, 8, 9, 10] (qzm6_67 w z c w2 k y33 aP i cP aC csG cC n24 w35 w54 y47) rfl rfl ?_
                 exact hK ⟨(w54.heap.size + 1, w54.heap.size), by first | omega | (dsimp only; omega)⟩
               · refine wo_eff o0 [1, 2, 4, 5, 46, 47, 48, 7, 9, 61, 68, 72, 60, 63, 10] [] [(1, pt z), (qzm6_63 z), (qzm6_48 w2), (qzm6_58 w2), (qzm6_45 b26 o27 c), (qzm6_57 c), (48, i6 (k : Int)), (qzm6_65 n24), (qzm6_54 ax38 c k cp39), (qzm6_47 w2), (68, i6 y47.partition), (72, i6 y47.port), (60, i6 (cAt c k)), (63, i6 (stageOf y33)), (qzm6_59 w54)] ⟨w, w54.heap.size + 1, [(old0 w), (qzm6_28 z c), (qzm6_15 z), (qzm6_21 w2 c k), (qzm6_8 w2 c aP i cP aC csG cC), (qzm6_36 z aP c i cP), (qzm6_40 z csG), (qzm6_39 z aC csG cC), (qzm6_26 n24 y33), (mid (n24 + 1) w35), (qzm6_12 w54)]⟩ [0, 1, 2, 4, 5, 6, 7, 8, 9] (by as_aux_lemma => kernel_rfl) rfl trivial (.inr rfl) ?_
                 refine w_one 5 (by as_aux_lemma => kernel_rfl) rfl ?_
                 refine wo_call [] [] 75 #[i6 (stageOf y33), pt w2.heap.size] (some 64) (by as_aux_lemma => kernel_rfl) rfl rfl trivial ?_
                 intro w59 hw59
                 refine calls_G (args := [i6 (stageOf y33), pt w2.heap.size]) 10 ⟨w, w54.heap.size + 1, [(old0 w), (qzm6_28 z c), (qzm6_15 z), (qzm6_21 w2 c k), (qzm6_8 w2 c aP i cP aC csG cC), (qzm6_36 z aP c i cP), (qzm6_40 z csG), (qzm6_39 z aC csG cC), (qzm6_26 n24 y33), (mid (n24 + 1) w35), (qzm6_12 w54)]⟩ Tryd.func75 rfl (by kernel_rfl) (by kernel_rfl) hw59 ?_
                 refine q_c 17 0 [] [[o0], [(a1 3), o0], [(a1 3), o0, (ov (i6 (((cAt c k) + 2) + (stageOf y33)))), (a1 3)], [o0, o0]] [Qb w2.heap.size, Qb w2.heap.size, Wr (((cAt c k) + 2 : Int) + (stageOf y33)) (((cAt c k) + 2) + (stageOf y33)), Qb w2.heap.size] [(3, i6 ((cAt c k) + 2))] ⟨w, w54.heap.size + 1, [(old0 w), (qzm6_28 z c), (qzm6_15 z), (qzm6_16 w2 c k y33), (qzm6_8 w2 c aP i cP aC csG cC), (qzm6_36 z aP c i cP), (qzm6_40 z csG), (qzm6_39 z aC csG cC), (qzm6_26 n24 y33), (mid (n24 + 1) w35), (qzm6_12 w54)]⟩ rfl ⟨rfl, rfl, wrI, rfl, trivial⟩ ?_
                 refine e_ret [] [] (i6 ((cAt c k) + 2)) trivial ?_
                 intro w60 hw60
                 have hs61 := hw60
                 refine ⟨_, _, rfl, hs61, .inr (fun c hc => hs61.all c (by first | exact hc | exact picks_mem (is := [0, 1, 2, 4, 5, 6, 7, 8, 9]) rfl c hc)), ?_⟩
                 refine w_keep [1, 2, 4, 5, 46, 47, 48, 7, 9, 68, 72, 60, 10, 64] [(1, pt z), (qzm6_63 z), (qzm6_48 w2), (qzm6_58 w2), (qzm6_45 b26 o27 c), (qzm6_57 c), (48, i6 (k : Int)), (qzm6_65 n24), (qzm6_54 ax38 c k cp39), (68, i6 y47.partition), (72, i6 y47.port), (60, i6 (cAt c k)), (qzm6_59 w54), (64, i6 ((cAt c k) + 2))] ?_
                 refine w_take [(14, o0)] [1, 2, 4, 5, 46, 47, 48, 7, 9, 10, 73] [] [true, true, true, true, true, true, true, true, true, true, true, true, true, true, true, true, false] [(1, pt z), (qzm6_63 z), (qzm6_48 w2), (qzm6_58 w2), (qzm6_45 b26 o27 c), (qzm6_57 c), (48, i6 (k : Int)), (qzm6_65 n24), (qzm6_54 ax38 c k cp39), (qzm6_59 w54), (qzm6_42 c k y47)] rfl (by as_aux_lemma => kernel_rfl) (by as_aux_lemma => kernel_rfl) trivial ?_
                 refine w_one 16 (by as_aux_lemma => kernel_rfl) rfl ?_
                 refine wo_eff (an 5 10) [1, 2, 4, 5, 46, 47, 48, 7, 9, 10] [Qb w54.heap.size, Qb w54.heap.size, Qb w54.heap.size, Qb w54.heap.size, Qb w54.heap.size] [(1, pt z), (qzm6_63 z), (qzm6_48 w2), (qzm6_58 w2), (qzm6_45 b26 o27 c), (qzm6_57 c), (48, i6 (k : Int)), (qzm6_65 n24), (qzm6_54 ax38 c k cp39), (qzm6_59 w54)] ⟨w, w54.heap.size + 1, (qzm6_67 w z c w2 k y33 aP i cP aC csG cC n24 w35 w54 y47)⟩ [] (by as_aux_lemma => kernel_rfl) rfl ⟨rfl, rfl, rfl, rfl, rfl, trivial⟩ (.inl rfl) ?_
                 refine w_free 17 [0, 1, 2, 3, 4, 5, 6, 7, 8, 9, 10] (qzm6_67 w z c w2 k y33 aP i cP aC csG cC n24 w35 w54 y47) rfl rfl ?_
                 refine w_done (by as_aux_lemma => kernel_rfl) ?_
                 refine e_keep [1, 2, 4, 5, 46, 47, 48, 7, 9, 10] [(1, pt z), (qzm6_63 z), (qzm6_48 w2), (qzm6_58 w2), (qzm6_45 b26 o27 c), (qzm6_57 c), (48, i6 (k : Int)), (qzm6_65 n24), (qzm6_54 ax38 c k cp39), (qzm6_59 w54)] ?_
                 refine e_pick [0, 1, 2, 3, 4, 5, 6, 7, 8, 9, 10] (qzm6_67 w z c w2 k y33 aP i cP aC csG cC n24 w35 w54 y47) rfl rfl ?_
                 exact hK ⟨(w54.heap.size + 1, w54.heap.size), by first | omega | (dsimp only; omega)⟩
             · refine wo_eff o0 [1, 2, 4, 5, 46, 47, 48, 7, 9, 61, 62, 68, 72, 60, 10] [] [(1, pt z), (qzm6_63 z), (qzm6_48 w2), (qzm6_58 w2), (qzm6_45 b26 o27 c), (qzm6_57 c), (48, i6 (k : Int)), (qzm6_65 n24), (qzm6_54 ax38 c k cp39), (qzm6_47 w2), (62, .agg (TChannel.arr y33)), (68, i6 y47.partition), (72, i6 y47.port), (60, i6 (cAt c k)), (qzm6_60 w35)] ⟨w, w35.heap.size + 1, (qzm6_69 w z c w2 k aP i cP aC csG cC n24 y33 w35)⟩ [0, 1, 2, 4, 5, 6, 7, 8, 9] (by as_aux_lemma => kernel_rfl) rfl trivial (.inr rfl) ?_
               refine w_one 4 (by as_aux_lemma => kernel_rfl) rfl ?_
               refine wo_call [] [] 59 #[.agg (TChannel.arr y33)] (some 63) (by as_aux_lemma => kernel_rfl) rfl rfl trivial ?_
               intro w62 hw62
               refine (stage_calls w62 y33 (he32.ext (hw62.ext rfl) (fun _ h => h))).mono ?_
               rintro e w63 ⟨rfl, hkw63⟩
               have hnw63 : w35.heap.size + 1 ≤ w63.heap.size := size_of hw62 hkw63
               have hs64 := hw62.keeps hkw63
               refine ⟨_, _, rfl, hs64, .inr (fun c hc => hs64.all c (by first | exact hc | exact picks_mem (is := [0, 1, 2, 4, 5, 6, 7, 8, 9]) rfl c hc)), ?_⟩
               refine w_keep [1, 2, 4, 5, 46, 47, 48, 7, 9, 61, 68, 72, 60, 10, 63] [(1, pt z), (qzm6_63 z), (qzm6_48 w2), (qzm6_58 w2), (qzm6_45 b26 o27 c), (qzm6_57 c), (48, i6 (k : Int)), (qzm6_65 n24), (qzm6_54 ax38 c k cp39), (qzm6_47 w2), (68, i6 y47.partition), (72, i6 y47.port), (60, i6 (cAt c k)), (qzm6_60 w35), (63, i6 (stageOf y33))] ?_
               refine w_one 5 (by as_aux_lemma => kernel_rfl) rfl ?_
               refine wo_call [] [] 75 #[i6 (stageOf y33), pt w2.heap.size] (some 64) (by as_aux_lemma => kernel_rfl) rfl rfl trivial ?_
               intro w65 hw65
               refine calls_G (args := [i6 (stageOf y33), pt w2.heap.size]) 10 ⟨w, w63.heap.size, (qzm6_69 w z c w2 k aP i cP aC csG cC n24 y33 w35)⟩ Tryd.func75 rfl (by kernel_rfl) (by kernel_rfl) hw65 ?_
               refine q_c 17 0 [] [[o0], [(a1 3), o0], [(a1 3), o0, (ov (i6 (((cAt c k) + 2) + (stageOf y33)))), (a1 3)], [o0, o0]] [Qb w2.heap.size, Qb w2.heap.size, Wr (((cAt c k) + 2 : Int) + (stageOf y33)) (((cAt c k) + 2) + (stageOf y33)), Qb w2.heap.size] [(3, i6 ((cAt c k) + 2))] ⟨w, w63.heap.size, [(old0 w), (qzm6_28 z c), (qzm6_15 z), (qzm6_16 w2 c k y33), (qzm6_8 w2 c aP i cP aC csG cC), (qzm6_36 z aP c i cP), (qzm6_40 z csG), (qzm6_39 z aC csG cC), (qzm6_26 n24 y33), (mid (n24 + 1) w35), (qzm6_13 w35)]⟩ rfl ⟨rfl, rfl, wrI, rfl, trivial⟩ ?_
               refine e_ret [] [] (i6 ((cAt c k) + 2)) trivial ?_
               intro w66 hw66
               have hs67 := hw66
               refine ⟨_, _, rfl, hs67, .inr (fun c hc => hs67.all c (by first | exact hc | exact picks_mem (is := [0, 1, 2, 4, 5, 6, 7, 8, 9]) rfl c hc)), ?_⟩
               refine w_keep [1, 2, 4, 5, 46, 47, 48, 7, 9, 68, 72, 60, 10, 64] [(1, pt z), (qzm6_63 z), (qzm6_48 w2), (qzm6_58 w2), (qzm6_45 b26 o27 c), (qzm6_57 c), (48, i6 (k : Int)), (qzm6_65 n24), (qzm6_54 ax38 c k cp39), (68, i6 y47.partition), (72, i6 y47.port), (60, i6 (cAt c k)), (qzm6_60 w35), (64, i6 ((cAt c k) + 2))] ?_
               refine w_take [(14, o0)] [1, 2, 4, 5, 46, 47, 48, 7, 9, 10, 73] [] [true, true, true, true, true, true, true, true, true, true, true, true, true, true, true, true, false] [(1, pt z), (qzm6_63 z), (qzm6_48 w2), (qzm6_58 w2), (qzm6_45 b26 o27 c), (qzm6_57 c), (48, i6 (k : Int)), (qzm6_65 n24), (qzm6_54 ax38 c k cp39), (qzm6_60 w35), (qzm6_42 c k y47)] rfl (by as_aux_lemma => kernel_rfl) (by as_aux_lemma => kernel_rfl) trivial ?_
               refine w_one 16 (by as_aux_lemma => kernel_rfl) rfl ?_
               refine wo_eff (an 5 10) [1, 2, 4, 5, 46, 47, 48, 7, 9, 10] [Qb w35.heap.size, Qb w35.heap.size, Qb w35.heap.size, Qb w35.heap.size, Qb w35.heap.size] [(1, pt z), (qzm6_63 z), (qzm6_48 w2), (qzm6_58 w2), (qzm6_45 b26 o27 c), (qzm6_57 c), (48, i6 (k : Int)), (qzm6_65 n24), (qzm6_54 ax38 c k cp39), (qzm6_60 w35)] ⟨w, w63.heap.size, (qzm6_68 w z c w2 k y33 aP i cP aC csG cC n24 w35 y47)⟩ [] (by as_aux_lemma => kernel_rfl) rfl ⟨rfl, rfl, rfl, rfl, rfl, trivial⟩ (.inl rfl) ?_
               refine w_free 17 [0, 1, 2, 3, 4, 5, 6, 7, 8, 9, 10] (qzm6_68 w z c w2 k y33 aP i cP aC csG cC n24 w35 y47) rfl rfl ?_
               refine w_done (by as_aux_lemma => kernel_rfl) ?_
               refine e_keep [1, 2, 4, 5, 46, 47, 48, 7, 9, 10] [(1, pt z), (qzm6_63 z), (qzm6_48 w2), (qzm6_58 w2), (qzm6_45 b26 o27 c), (qzm6_57 c), (48, i6 (k : Int)), (qzm6_65 n24), (qzm6_54 ax38 c k cp39), (qzm6_60 w35)] ?_
               refine e_pick [0, 1, 2, 3, 4, 5, 6, 7, 8, 9, 10] (qzm6_68 w z c w2 k y33 aP i cP aC csG cC n24 w35 y47) rfl rfl ?_
               exact hK ⟨(w63.heap.size, w35.heap.size), by first | omega | (dsimp only; omega)⟩
           · refine wo_eff o0 [1, 2, 4, 5, 46, 47, 48, 7, 9, 59, 61, 62, 68, 72, 10] [] [(1, pt z), (qzm6_63 z), (qzm6_48 w2), (qzm6_58 w2), (qzm6_45 b26 o27 c), (qzm6_57 c), (48, i6 (k : Int)), (qzm6_65 n24), (qzm6_54 ax38 c k cp39), (59, .func (.func 75) #[] #[pt w2.heap.size]), (qzm6_47 w2), (62, .agg (TChannel.arr y33)), (68, i6 y47.partition), (72, i6 y47.port), (qzm6_60 w35)] ⟨w, w35.heap.size + 1, [(old0 w), (qzm6_28 z c), (qzm6_15 z), (qzm6_23 w2 c k), (qzm6_8 w2 c aP i cP aC csG cC), (qzm6_36 z aP c i cP), (qzm6_40 z csG), (qzm6_39 z aC csG cC), (qzm6_26 n24 y33), (mid (n24 + 1) w35), (qzm6_13 w35)]⟩ [0, 1, 2, 4, 5, 6, 7, 8, 9] (by as_aux_lemma => kernel_rfl) rfl trivial (.inr rfl) ?_
             refine w_one 1 (by as_aux_lemma => kernel_rfl) rfl ?_
             refine wo_call [] [] 75 #[i6 2, pt w2.heap.size] (some 60) (by as_aux_lemma => kernel_rfl) rfl rfl trivial ?_
             intro w68 hw68
             refine calls_G (args := [i6 2, pt w2.heap.size]) 10 ⟨w, w35.heap.size + 1, [(old0 w), (qzm6_28 z c), (qzm6_15 z), (qzm6_23 w2 c k), (qzm6_8 w2 c aP i cP aC csG cC), (qzm6_36 z aP c i cP), (qzm6_40 z csG), (qzm6_39 z aC csG cC), (qzm6_26 n24 y33), (mid (n24 + 1) w35), (qzm6_13 w35)]⟩ Tryd.func75 rfl (by kernel_rfl) (by kernel_rfl) hw68 ?_
             refine q_c 17 0 [] [[o0], [(a1 3), o0], [(a1 3), o0, (ov (i6 ((cAt c k) + 2))), (a1 3)], [o0, o0]] [Qb w2.heap.size, Qb w2.heap.size, Wr ((cAt c k : Int) + 2) ((cAt c k) + 2), Qb w2.heap.size] [(3, i6 (cAt c k))] ⟨w, w35.heap.size + 1, (qzm6_69 w z c w2 k aP i cP aC csG cC n24 y33 w35)⟩ rfl ⟨rfl, rfl, wrI, rfl, trivial⟩ ?_
             refine e_ret [] [] (i6 (cAt c k)) trivial ?_
             intro w69 hw69
             have hs70 := hw69
             refine ⟨_, _, rfl, hs70, .inr (fun c hc => hs70.all c (by first | exact hc | exact picks_mem (is := [0, 1, 2, 4, 5, 6, 7, 8, 9]) rfl c hc)), ?_⟩
             refine w_keep [1, 2, 4, 5, 46, 47, 48, 7, 9, 61, 62, 68, 72, 10, 60] [(1, pt z), (qzm6_63 z), (qzm6_48 w2), (qzm6_58 w2), (qzm6_45 b26 o27 c), (qzm6_57 c), (48, i6 (k : Int)), (qzm6_65 n24), (qzm6_54 ax38 c k cp39), (qzm6_47 w2), (62, .agg (TChannel.arr y33)), (68, i6 y47.partition), (72, i6 y47.port), (qzm6_60 w35), (60, i6 (cAt c k))] ?_
             refine w_one 4 (by as_aux_lemma => kernel_rfl) rfl ?_
             refine wo_call [] [] 59 #[.agg (TChannel.arr y33)] (some 63) (by as_aux_lemma => kernel_rfl) rfl rfl trivial ?_
             intro w71 hw71
             refine (stage_calls w71 y33 (he32.ext (hw71.ext rfl) (fun _ h => h))).mono ?_
             rintro e w72 ⟨rfl, hkw72⟩
             have hnw72 : w35.heap.size + 1 ≤ w72.heap.size := size_of hw71 hkw72
             have hs73 := hw71.keeps hkw72
             refine ⟨_, _, rfl, hs73, .inr (fun c hc => hs73.all c (by first | exact hc | exact picks_mem (is := [0, 1, 2, 4, 5, 6, 7, 8, 9]) rfl c hc)), ?_⟩
             refine w_keep [1, 2, 4, 5, 46, 47, 48, 7, 9, 61, 68, 72, 10, 60, 63] [(1, pt z), (qzm6_63 z), (qzm6_48 w2), (qzm6_58 w2), (qzm6_45 b26 o27 c), (qzm6_57 c), (48, i6 (k : Int)), (qzm6_65 n24), (qzm6_54 ax38 c k cp39), (qzm6_47 w2), (68, i6 y47.partition), (72, i6 y47.port), (qzm6_60 w35), (60, i6 (cAt c k)), (63, i6 (stageOf y33))] ?_
             refine w_one 5 (by as_aux_lemma => kernel_rfl) rfl ?_
             refine wo_call [] [] 75 #[i6 (stageOf y33), pt w2.heap.size] (some 64) (by as_aux_lemma => kernel_rfl) rfl rfl trivial ?_
             intro w74 hw74
             refine calls_G (args := [i6 (stageOf y33), pt w2.heap.size]) 10 ⟨w, w72.heap.size, (qzm6_69 w z c w2 k aP i cP aC csG cC n24 y33 w35)⟩ Tryd.func75 rfl (by kernel_rfl) (by kernel_rfl) hw74 ?_
             refine q_c 17 0 [] [[o0], [(a1 3), o0], [(a1 3), o0, (ov (i6 (((cAt c k) + 2) + (stageOf y33)))), (a1 3)], [o0, o0]] [Qb w2.heap.size, Qb w2.heap.size, Wr (((cAt c k) + 2 : Int) + (stageOf y33)) (((cAt c k) + 2) + (stageOf y33)), Qb w2.heap.size] [(3, i6 ((cAt c k) + 2))] ⟨w, w72.heap.size, [(old0 w), (qzm6_28 z c), (qzm6_15 z), (qzm6_16 w2 c k y33), (qzm6_8 w2 c aP i cP aC csG cC), (qzm6_36 z aP c i cP), (qzm6_40 z csG), (qzm6_39 z aC csG cC), (qzm6_26 n24 y33), (mid (n24 + 1) w35), (qzm6_13 w35)]⟩ rfl ⟨rfl, rfl, wrI, rfl, trivial⟩ ?_
             refine e_ret [] [] (i6 ((cAt c k) + 2)) trivial ?_
             intro w75 hw75
             have hs76 := hw75
             refine ⟨_, _, rfl, hs76, .inr (fun c hc => hs76.all c (by first | exact hc | exact picks_mem (is := [0, 1, 2, 4, 5, 6, 7, 8, 9]) rfl c hc)), ?_⟩
             refine w_keep [1, 2, 4, 5, 46, 47, 48, 7, 9, 68, 72, 10, 60, 64] [(1, pt z), (qzm6_63 z), (qzm6_48 w2), (qzm6_58 w2), (qzm6_45 b26 o27 c), (qzm6_57 c), (48, i6 (k : Int)), (qzm6_65 n24), (qzm6_54 ax38 c k cp39), (68, i6 y47.partition), (72, i6 y47.port), (qzm6_60 w35), (60, i6 (cAt c k)), (64, i6 ((cAt c k) + 2))] ?_
             refine w_take [(14, o0)] [1, 2, 4, 5, 46, 47, 48, 7, 9, 10, 73] [] [true, true, true, true, true, true, true, true, true, true, true, true, true, true, true, true, false] [(1, pt z), (qzm6_63 z), (qzm6_48 w2), (qzm6_58 w2), (qzm6_45 b26 o27 c), (qzm6_57 c), (48, i6 (k : Int)), (qzm6_65 n24), (qzm6_54 ax38 c k cp39), (qzm6_60 w35), (qzm6_42 c k y47)] rfl (by as_aux_lemma => kernel_rfl) (by as_aux_lemma => kernel_rfl) trivial ?_
             refine w_one 16 (by as_aux_lemma => kernel_rfl) rfl ?_
             refine wo_eff (an 5 10) [1, 2, 4, 5, 46, 47, 48, 7, 9, 10] [Qb w35.heap.size, Qb w35.heap.size, Qb w35.heap.size, Qb w35.heap.size, Qb w35.heap.size] [(1, pt z), (qzm6_63 z), (qzm6_48 w2), (qzm6_58 w2), (qzm6_45 b26 o27 c), (qzm6_57 c), (48, i6 (k : Int)), (qzm6_65 n24), (qzm6_54 ax38 c k cp39), (qzm6_60 w35)] ⟨w, w72.heap.size, (qzm6_68 w z c w2 k y33 aP i cP aC csG cC n24 w35 y47)⟩ [] (by as_aux_lemma => kernel_rfl) rfl ⟨rfl, rfl, rfl, rfl, rfl, trivial⟩ (.inl rfl) ?_
             refine w_free 17 [0, 1, 2, 3, 4, 5, 6, 7, 8, 9, 10] (qzm6_68 w z c w2 k y33 aP i cP aC csG cC n24 w35 y47) rfl rfl ?_
             refine w_done (by as_aux_lemma => kernel_rfl) ?_
             refine e_keep [1, 2, 4, 5, 46, 47, 48, 7, 9, 10] [(1, pt z), (qzm6_63 z), (qzm6_48 w2), (qzm6_58 w2), (qzm6_45 b26 o27 c), (qzm6_57 c), (48, i6 (k : Int)), (qzm6_65 n24), (qzm6_54 ax38 c k cp39), (qzm6_60 w35)] ?_
             refine e_pick [0, 1, 2, 3, 4, 5, 6, 7, 8, 9, 10] (qzm6_68 w z c w2 k y33 aP i cP aC csG cC n24 w35 y47) rfl rfl ?_
             exact hK ⟨(w72.heap.size, w35.heap.size), by first | omega | (dsimp only; omega)⟩
         rintro ⟨⟨n48, b49⟩, hJ77⟩
         simp only at hJ77
         show E _ _ [(1, pt z), (qzm6_63 z), (qzm6_48 w2), (qzm6_58 w2), (qzm6_45 b26 o27 c), (qzm6_57 c), (48, i6 (k : Int)), (qzm6_65 n24), (qzm6_54 ax38 c k cp39), (qzm6_64 b49)] _ ⟨w, n48, [(old0 w), (qzm6_28 z c), (qzm6_15 z), (qzm6_16 w2 c k y33), (qzm6_8 w2 c aP i cP aC csG cC), (qzm6_36 z aP c i cP), (qzm6_40 z csG), (qzm6_39 z aC csG cC), (qzm6_26 n24 y33), (mid (n24 + 1) w35), (bk b49 #[i6 (cAt c k), i6 ((cAt c k) + 2), i6 y47.partition, i6 y47.port, .slice none 0 0] 104)]⟩ _ _ _
         refine q_oS 7 0 [] [[o0, o0, o0]] [] [(1, pt z), (qzm6_63 z), (qzm6_48 w2), (qzm6_58 w2), (qzm6_45 b26 o27 c), (qzm6_57 c), (48, i6 (k : Int)), (qzm6_65 n24), (qzm6_64 b49), (qzm6_53 ax38 c k cp39), (qzm6_50 c k), (76, i6 0)] rfl trivial ?_
         refine g_rowL z 106 3 TDestPlace.cells ?_
         refine g_keep [1, 2, 4, 5, 7, 10, 46, 47, 48, 74, 75, 76] [(1, pt z), (qzm6_63 z), (qzm6_48 w2), (qzm6_58 w2), (qzm6_65 n24), (qzm6_64 b49), (qzm6_45 b26 o27 c), (qzm6_57 c), (48, i6 (k : Int)), (qzm6_53 ax38 c k cp39), (qzm6_50 c k), (76, i6 0)] ?_
         refine g_loop (fun m a w' => ∃ (n79 : Nat) (j : Nat) (aD : Option Addr) (cD : Nat), m = (endsOf c (k : Int) false).length - j ∧ n48 ≤ n79 ∧ (j ≤ (endsOf c (k : Int) false).length) ∧ St 148 [(1, pt z), (qzm6_63 z), (qzm6_48 w2), (qzm6_58 w2), (qzm6_65 n24), (qzm6_64 b49), (qzm6_45 b26 o27 c), (qzm6_57 c), (48, i6 (k : Int)), (qzm6_53 ax38 c k cp39), (qzm6_50 c k), (76, i6 (j : Int))] [] ⟨w, n79, [(old0 w), (qzm6_28 z c), (qzm6_15 z), (qzm6_22 w2 c k j), (qzm6_8 w2 c aP i cP aC csG cC), (qzm6_36 z aP c i cP), (qzm6_40 z csG), (qzm6_39 z aC csG cC), (qzm6_26 n24 y33), (mid (n24 + 1) w35), (qzm6_3 b49 c k y47 aD j cD), (qzm6_37 z aD c k j cD)]⟩ a w') ((endsOf c (k : Int) false).length - 0) ?_ ?_
         · intro a w' hs; exact ⟨n48, 0, none, 0, rfl, Nat.le_refl _, Nat.zero_le _, by (try dsimp only [qzm6_0, qzm6_1, qzm6_2, qzm6_3, qzm6_4, qzm6_5, qzm6_6, qzm6_7, qzm6_8, qzm6_9, qzm6_10, qzm6_11, qzm6_12, qzm6_13, qzm6_14, qzm6_15, qzm6_16, qzm6_17, qzm6_18, qzm6_19, qzm6_20, qzm6_21, qzm6_22, qzm6_23, qzm6_24, qzm6_25, qzm6_26, qzm6_27, qzm6_28, qzm6_29, qzm6_30, qzm6_31, qzm6_32, qzm6_33, qzm6_34, qzm6_35, qzm6_36, qzm6_37, qzm6_38, qzm6_39, qzm6_40, qzm6_41, qzm6_42, qzm6_43, qzm6_44, qzm6_45, qzm6_46, qzm6_47, qzm6_48, qzm6_49, qzm6_50, qzm6_51, qzm6_52, qzm6_53, qzm6_54, qzm6_55, qzm6_56, qzm6_57, qzm6_58, qzm6_59, qzm6_60, qzm6_61, qzm6_62, qzm6_63, qzm6_64, qzm6_65, qzm6_66, qzm6_67, qzm6_68, qzm6_69, qzm6_70, qzm6_71, qzm6_72] at hs ⊢); rw [show dAt c k 0 = ((cAt c k) + 2) + (stageOf y33) from by unfold dAt; rw [← hy33]; omega]; exact hs⟩
         · rintro m a w' ⟨n79, j, aD, cD, rfl, hn78, hkj, hs⟩
           refine (?_ : G Tryd.prog 148 [(1, pt z), (qzm6_63 z), (qzm6_48 w2), (qzm6_58 w2), (qzm6_65 n24), (qzm6_64 b49), (qzm6_45 b26 o27 c), (qzm6_57 c), (48, i6 (k : Int)), (qzm6_53 ax38 c k cp39), (qzm6_50 c k), (76, i6 (j : Int))] [] ⟨w, n79, [(old0 w), (qzm6_28 z c), (qzm6_15 z), (qzm6_22 w2 c k j), (qzm6_8 w2 c aP i cP aC csG cC), (qzm6_36 z aP c i cP), (qzm6_40 z csG), (qzm6_39 z aC csG cC), (qzm6_26 n24 y33), (mid (n24 + 1) w35), (qzm6_3 b49 c k y47 aD j cD), (qzm6_37 z aD c k j cD)]⟩ _ _ _) a w' hs
           clear hs a w'
           have hdb := dAt_bd hfine (show k < c.Channels.xs.length by omega) (show j ≤ 4 by unfold nDest at hEd; omega)
           have hdl : (destsUp c k j).length = j := destsUp_len
           refine g_seq ?_
           by_cases h80 : ((j : Int) : Int) < (((endsOf c (k : Int) false).length : Nat) : Int)
           · refine q_cS 10 0 [1] [[oT]] [BT (((j : Int) : Int) < (((endsOf c (k : Int) false).length : Nat) : Int))] [(1, pt z), (qzm6_63 z), (qzm6_48 w2), (qzm6_58 w2), (qzm6_65 n24), (qzm6_64 b49), (qzm6_45 b26 o27 c), (qzm6_57 c), (48, i6 (k : Int)), (qzm6_53 ax38 c k cp39), (qzm6_50 c k), (76, i6 (j : Int)), (77, .bool true)] rfl ⟨bt (by omega), trivial⟩ ?_
             obtain ⟨b81, o82, ha83, hF85, hc84⟩ := ((⟨hDw35, ends_ink hfine⟩ : SlOk Tend.cells 2 Tend.ok _ _ _)).1.all (show 0 < (endsOf c (k : Int) false).length by omega)
             replace ha83 : ax38 = some ⟨b81, o82, none⟩ := ha83
             refine g_eq [(1, pt z), (qzm6_63 z), (qzm6_48 w2), (qzm6_58 w2), (qzm6_65 n24), (qzm6_64 b49), (qzm6_45 b26 o27 c), (qzm6_57 c), (48, i6 (k : Int)), (qzm6_44 b81 o82 c k cp39), (qzm6_50 c k), (76, i6 (j : Int)), (77, .bool true)] (by (try dsimp only [qzm6_0, qzm6_1, qzm6_2, qzm6_3, qzm6_4, qzm6_5, qzm6_6, qzm6_7, qzm6_8, qzm6_9, qzm6_10, qzm6_11, qzm6_12, qzm6_13, qzm6_14, qzm6_15, qzm6_16, qzm6_17, qzm6_18, qzm6_19, qzm6_20, qzm6_21, qzm6_22, qzm6_23, qzm6_24, qzm6_25, qzm6_26, qzm6_27, qzm6_28, qzm6_29, qzm6_30, qzm6_31, qzm6_32, qzm6_33, qzm6_34, qzm6_35, qzm6_36, qzm6_37, qzm6_38, qzm6_39, qzm6_40, qzm6_41, qzm6_42, qzm6_43, qzm6_44, qzm6_45, qzm6_46, qzm6_47, qzm6_48, qzm6_49, qzm6_50, qzm6_51, qzm6_52, qzm6_53, qzm6_54, qzm6_55, qzm6_56, qzm6_57, qzm6_58, qzm6_59, qzm6_60, qzm6_61, qzm6_62, qzm6_63, qzm6_64, qzm6_65, qzm6_66, qzm6_67, qzm6_68, qzm6_69, qzm6_70, qzm6_71, qzm6_72]); simp only [ha83]) ?_
             have hc86 := hc84 j (show j < (endsOf c (k : Int) false).length by omega)
             have he87 := ((⟨hDw35, ends_ink hfine⟩ : SlOk Tend.cells 2 Tend.ok _ _ _)).2 j (show j < (endsOf c (k : Int) false).length by omega)
             obtain ⟨y88, hy88⟩ : ∃ y_, y_ = gd (⟨ax38, cp39, endsOf c (k : Int) false⟩ : Sl Tend).xs j := ⟨_, rfl⟩
             rw [← hy88] at he87 hc86
             refine q_c 3 0 [] [[(oi j), (oa [.via 9 (i6 y88.partition), .via 9 (i6 y88.port)]), o0, (an 2 12)]] [((j : Int) : Int) = ((j : Nat) : Int), j < (endsOf c (k : Int) false).length, (none : Option Nat) = none, ∀ w', Ch.holds (mid (n24 + 1) w35) w' → w'.cell? ⟨b81, o82 + j * 2, none⟩ = some (i6 y88.partition), ∀ w', Ch.holds (mid (n24 + 1) w35) w' → w'.cell? ⟨b81, o82 + j * 2 + 1, none⟩ = some (i6 y88.port), Qb n79, Qb n79] [(1, pt z), (qzm6_63 z), (qzm6_48 w2), (qzm6_58 w2), (qzm6_65 n24), (qzm6_64 b49), (qzm6_45 b26 o27 c), (qzm6_57 c), (48, i6 (k : Int)), (qzm6_44 b81 o82 c k cp39), (qzm6_50 c k), (76, i6 (j : Int)), (12, pt n79)] ⟨w, n79 + 1, [(old0 w), (qzm6_28 z c), (qzm6_15 z), (qzm6_22 w2 c k j), (qzm6_8 w2 c aP i cP aC csG cC), (qzm6_36 z aP c i cP), (qzm6_40 z csG), (qzm6_39 z aC csG cC), (qzm6_26 n24 y33), (mid (n24 + 1) w35), (qzm6_3 b49 c k y47 aD j cD), (qzm6_37 z aD c k j cD), (qzm6_27 n79 y88)]⟩ rfl ⟨rfl, (by omega), rfl, mid_cell hF85 (hc86 0 _ rfl), mid_cell hF85 (hc86 1 _ rfl), rfl, rfl, trivial⟩ ?_
             refine g_draw 14 [0, 1, 2, 4, 5, 6, 7, 8, 9, 10, 12] [(old0 w), (qzm6_28 z c), (qzm6_15 z), (qzm6_8 w2 c aP i cP aC csG cC), (qzm6_36 z aP c i cP), (qzm6_40 z csG), (qzm6_39 z aC csG cC), (qzm6_26 n24 y33), (mid (n24 + 1) w35), (qzm6_3 b49 c k y47 aD j cD), (qzm6_27 n79 y88)] rfl rfl ?_
             refine w_take [(0, o0), (1, (a1 9)), (2, o0), (3, (a1 10)), (4, o0), (5, (a1 10)), (6, o0), (7, (an 3 7))] [1, 2, 4, 5, 7, 10, 46, 47, 48, 74, 75, 76, 81, 83, 85, 86, 87] [Qb b49, Qb n79, Qb n79, Qb n24, Qb n24, Qb n24] [true, true, true, true, true, true, true, true, false, false, false, false, false, false, false] [(1, pt z), (qzm6_63 z), (qzm6_48 w2), (qzm6_58 w2), (qzm6_65 n24), (qzm6_64 b49), (qzm6_45 b26 o27 c), (qzm6_57 c), (48, i6 (k : Int)), (qzm6_44 b81 o82 c k cp39), (qzm6_50 c k), (76, i6 (j : Int)), (81, .slice aD ((destsUp c k j).length) cD), (83, i6 y88.partition), (85, i6 y88.port), (86, .func (.func 75) #[] #[pt w2.heap.size]), (87, .agg (TChannel.arr y33))] rfl (by as_aux_lemma => kernel_rfl) (by as_aux_lemma => kernel_rfl) ⟨rfl, rfl, rfl, rfl, rfl, rfl, trivial⟩ ?_
             refine w_one 8 (by as_aux_lemma => kernel_rfl) rfl ?_
             refine wo_call [] [] 60 #[.agg (TChannel.arr y33)] (some 88) (by as_aux_lemma => kernel_rfl) rfl rfl trivial ?_
             intro w89 hw89
             refine (port_calls w89 y33 (he32.ext (hw89.ext rfl) (fun _ h => h))).mono ?_
             rintro e w90 ⟨rfl, hkw90⟩
             have hnw90 : n79 + 1 ≤ w90.heap.size := size_of hw89 hkw90
             have hs91 := hw89.keeps hkw90
             refine ⟨_, _, rfl, hs91, .inr (fun c hc => hs91.all c (by first | exact hc | exact picks_mem (is := [0, 1, 2, 4, 5, 6, 7, 8, 9, 10, 12]) rfl c hc)), ?_⟩
             refine w_keep [1, 2, 4, 5, 7, 10, 46, 47, 48, 74, 75, 76, 81, 83, 85, 86, 88] [(1, pt z), (qzm6_63 z), (qzm6_48 w2), (qzm6_58 w2), (qzm6_65 n24), (qzm6_64 b49), (qzm6_45 b26 o27 c), (qzm6_57 c), (48, i6 (k : Int)), (qzm6_44 b81 o82 c k cp39), (qzm6_50 c k), (76, i6 (j : Int)), (81, .slice aD ((destsUp c k j).length) cD), (83, i6 y88.partition), (85, i6 y88.port), (86, .func (.func 75) #[] #[pt w2.heap.size]), (88, i6 (portOf y33))] ?_
             refine w_one 9 (by as_aux_lemma => kernel_rfl) rfl ?_
             refine wo_call [] [] 75 #[i6 (portOf y33), pt w2.heap.size] (some 89) (by as_aux_lemma => kernel_rfl) rfl rfl trivial ?_
             intro w92 hw92
             refine calls_G (args := [i6 (portOf y33), pt w2.heap.size]) 10 ⟨w, w90.heap.size, [(old0 w), (qzm6_28 z c), (qzm6_15 z), (qzm6_22 w2 c k j), (qzm6_8 w2 c aP i cP aC csG cC), (qzm6_36 z aP c i cP), (qzm6_40 z csG), (qzm6_39 z aC csG cC), (qzm6_26 n24 y33), (mid (n24 + 1) w35), (qzm6_3 b49 c k y47 aD j cD), (qzm6_37 z aD c k j cD), (qzm6_27 n79 y88)]⟩ Tryd.func75 rfl (by kernel_rfl) (by kernel_rfl) hw92 ?_
             refine q_c 17 0 [] [[o0], [(a1 3), o0], [(a1 3), o0, (ov (i6 ((dAt c k j) + (portOf y33)))), (a1 3)], [o0, o0]] [Qb w2.heap.size, Qb w2.heap.size, Wr ((dAt c k j : Int) + (portOf y33)) ((dAt c k j) + (portOf y33)), Qb w2.heap.size] [(3, i6 (dAt c k j))] ⟨w, w90.heap.size, [(old0 w), (qzm6_28 z c), (qzm6_15 z), (qzm6_18 w2 c k j y33), (qzm6_8 w2 c aP i cP aC csG cC), (qzm6_36 z aP c i cP), (qzm6_40 z csG), (qzm6_39 z aC csG cC), (qzm6_26 n24 y33), (mid (n24 + 1) w35), (qzm6_3 b49 c k y47 aD j cD), (qzm6_37 z aD c k j cD), (qzm6_27 n79 y88)]⟩ rfl ⟨rfl, rfl, wrI, rfl, trivial⟩ ?_
             refine e_ret [] [] (i6 (dAt c k j)) trivial ?_
             intro w93 hw93
             have hs94 := hw93
             refine ⟨_, _, rfl, hs94, .inr (fun c hc => hs94.all c (by first | exact hc | exact picks_mem (is := [0, 1, 2, 4, 5, 6, 7, 8, 9, 10, 12]) rfl c hc)), ?_⟩
             refine w_keep [1, 2, 4, 5, 7, 10, 46, 47, 48, 74, 75, 76, 81, 83, 85, 89] [(1, pt z), (qzm6_63 z), (qzm6_48 w2), (qzm6_58 w2), (qzm6_65 n24), (qzm6_64 b49), (qzm6_45 b26 o27 c), (qzm6_57 c), (48, i6 (k : Int)), (qzm6_44 b81 o82 c k cp39), (qzm6_50 c k), (76, i6 (j : Int)), (81, .slice aD ((destsUp c k j).length) cD), (83, i6 y88.partition), (85, i6 y88.port), (89, i6 (dAt c k j))] ?_
             refine w_take [(10, o0)] [1, 2, 4, 5, 7, 10, 46, 47, 48, 74, 75, 76, 81, 90] [] [true, true, true, true, true, true, true, true, true, true, true, false, false, false, false] [(1, pt z), (qzm6_63 z), (qzm6_48 w2), (qzm6_58 w2), (qzm6_65 n24), (qzm6_64 b49), (qzm6_45 b26 o27 c), (qzm6_57 c), (48, i6 (k : Int)), (qzm6_44 b81 o82 c k cp39), (qzm6_50 c k), (76, i6 (j : Int)), (81, .slice aD ((destsUp c k j).length) cD), (90, .agg #[i6 y88.partition, i6 y88.port, i6 (dAt c k j)])] rfl (by as_aux_lemma => kernel_rfl) (by as_aux_lemma => kernel_rfl) trivial ?_
             refine w_one 11 (by as_aux_lemma => kernel_rfl) rfl ?_
             refine wo_eff o0 [1, 2, 4, 5, 7, 10, 46, 47, 48, 74, 75, 76, 81, 91] [] [(1, pt z), (qzm6_63 z), (qzm6_48 w2), (qzm6_58 w2), (qzm6_65 n24), (qzm6_64 b49), (qzm6_45 b26 o27 c), (qzm6_57 c), (48, i6 (k : Int)), (qzm6_44 b81 o82 c k cp39), (qzm6_50 c k), (76, i6 (j : Int)), (81, .slice aD ((destsUp c k j).length) cD), (91, .slice (some ⟨w90.heap.size, 0, none⟩) 1 1)] ⟨w, w90.heap.size + 1, [(old0 w), (qzm6_28 z c), (qzm6_15 z), (qzm6_18 w2 c k j y33), (qzm6_8 w2 c aP i cP aC csG cC), (qzm6_36 z aP c i cP), (qzm6_40 z csG), (qzm6_39 z aC csG cC), (qzm6_26 n24 y33), (mid (n24 + 1) w35), (qzm6_3 b49 c k y47 aD j cD), (qzm6_37 z aD c k j cD), (qzm6_27 n79 y88), (qzm6_14 w90 y88 c k j)]⟩ [0, 1, 2, 4, 5, 6, 7, 8, 9, 10, 12] (by as_aux_lemma => kernel_rfl) rfl trivial (.inr rfl) ?_
             refine w_one 12 (by as_aux_lemma => kernel_rfl) rfl ?_
             refine wo_push z 11 13 (destsUp c k j) [(⟨y88.partition, y88.port, dAt c k j⟩ : TDestPlace)] TDestPlace.cells 106 3 24 (.slice aD ((destsUp c k j).length) cD) w90.heap.size 1 1 #[i6 y88.partition, i6 y88.port, i6 (dAt c k j)] 106 (0, 0) true (some 92) [0, 1, 2, 4, 5, 6, 7, 8, 9, 10, 12] (by simp only [List.length_cons, List.length_nil]; omega) (show z ≤ w90.heap.size + 1 by omega) (.inr ⟨rfl, rfl⟩) (fun ax95 cp96 n97 (hn98 : w90.heap.size + 1 ≤ n97) => ?_)
             refine w_keep [1, 2, 4, 5, 7, 10, 46, 47, 48, 74, 75, 76, 92] [(1, pt z), (qzm6_63 z), (qzm6_48 w2), (qzm6_58 w2), (qzm6_65 n24), (qzm6_64 b49), (qzm6_45 b26 o27 c), (qzm6_57 c), (48, i6 (k : Int)), (qzm6_44 b81 o82 c k cp39), (qzm6_50 c k), (76, i6 (j : Int)), (92, .slice ax95 ((destsUp c k j ++ [(⟨y88.partition, y88.port, dAt c k j⟩ : TDestPlace)]).length) cp96)] ?_
             refine w_take [(13, o0)] [1, 2, 4, 5, 7, 10, 46, 47, 48, 74, 75, 76, 92, 93] [] [true, true, true, true, true, true, true, true, true, true, true, true, true, true, false] [(1, pt z), (qzm6_63 z), (qzm6_48 w2), (qzm6_58 w2), (qzm6_65 n24), (qzm6_64 b49), (qzm6_45 b26 o27 c), (qzm6_57 c), (48, i6 (k : Int)), (qzm6_44 b81 o82 c k cp39), (qzm6_50 c k), (76, i6 (j : Int)), (92, .slice ax95 ((destsUp c k j ++ [(⟨y88.partition, y88.port, dAt c k j⟩ : TDestPlace)]).length) cp96), (93, .pointer (some ⟨b49, 4, none⟩))] rfl (by as_aux_lemma => kernel_rfl) (by as_aux_lemma => kernel_rfl) trivial ?_
             refine w_one 14 (by as_aux_lemma => kernel_rfl) rfl ?_
             refine wo_eff (a1 10) [1, 2, 4, 5, 7, 10, 46, 47, 48, 74, 75, 76] [Qb b49] [(1, pt z), (qzm6_63 z), (qzm6_48 w2), (qzm6_58 w2), (qzm6_65 n24), (qzm6_64 b49), (qzm6_45 b26 o27 c), (qzm6_57 c), (48, i6 (k : Int)), (qzm6_44 b81 o82 c k cp39), (qzm6_50 c k), (76, i6 (j : Int))] ⟨w, n97, [(old0 w), (qzm6_28 z c), (qzm6_15 z), (qzm6_18 w2 c k j y33), (qzm6_8 w2 c aP i cP aC csG cC), (qzm6_36 z aP c i cP), (qzm6_40 z csG), (qzm6_39 z aC csG cC), (qzm6_26 n24 y33), (mid (n24 + 1) w35), (qzm6_2 b49 c k y47 ax95 j y88 cp96), (qzm6_32 z ax95 c k j y88 cp96), (qzm6_27 n79 y88), (qzm6_14 w90 y88 c k j)]⟩ [] (by as_aux_lemma => kernel_rfl) rfl ⟨rfl, trivial⟩ (.inl rfl) ?_
             refine w_free 15 [0, 1, 2, 3, 4, 5, 6, 7, 8, 9, 10, 11, 12, 13] [(old0 w), (qzm6_28 z c), (qzm6_15 z), (qzm6_18 w2 c k j y33), (qzm6_8 w2 c aP i cP aC csG cC), (qzm6_36 z aP c i cP), (qzm6_40 z csG), (qzm6_39 z aC csG cC), (qzm6_26 n24 y33), (mid (n24 + 1) w35), (qzm6_2 b49 c k y47 ax95 j y88 cp96), (qzm6_32 z ax95 c k j y88 cp96), (qzm6_27 n79 y88), (qzm6_14 w90 y88 c k j)] rfl rfl ?_
             refine w_done (by as_aux_lemma => kernel_rfl) ?_
             refine q_oS 4 0 [] [[(ov (i6 ((j + 1 : Nat) : Int))), o0]] [Wr (((j : Int) : Int) + 1) (((j + 1 : Nat) : Int))] [(1, pt z), (qzm6_63 z), (qzm6_48 w2), (qzm6_58 w2), (qzm6_65 n24), (qzm6_64 b49), (qzm6_45 b26 o27 c), (qzm6_57 c), (48, i6 (k : Int)), (qzm6_44 b81 o82 c k cp39), (qzm6_50 c k), (76, i6 ((j + 1 : Nat) : Int))] rfl ⟨wrI, trivial⟩ ?_
             refine e_pick [0, 1, 2, 3, 4, 5, 6, 7, 8, 9, 10, 11] [(old0 w), (qzm6_28 z c), (qzm6_15 z), (qzm6_18 w2 c k j y33), (qzm6_8 w2 c aP i cP aC csG cC), (qzm6_36 z aP c i cP), (qzm6_40 z csG), (qzm6_39 z aC csG cC), (qzm6_26 n24 y33), (mid (n24 + 1) w35), (qzm6_2 b49 c k y47 ax95 j y88 cp96), (qzm6_32 z ax95 c k j y88 cp96)] rfl rfl ?_
             refine e_eqk [1, 2, 4, 5, 7, 10, 46, 47, 48, 74, 75, 76] [(1, pt z), (qzm6_63 z), (qzm6_48 w2), (qzm6_58 w2), (qzm6_65 n24), (qzm6_64 b49), (qzm6_45 b26 o27 c), (qzm6_57 c), (48, i6 (k : Int)), (qzm6_53 ax38 c k cp39), (qzm6_50 c k), (76, i6 ((j + 1 : Nat) : Int))] (by (try dsimp only [qzm6_0, qzm6_1, qzm6_2, qzm6_3, qzm6_4, qzm6_5, qzm6_6, qzm6_7, qzm6_8, qzm6_9, qzm6_10, qzm6_11, qzm6_12, qzm6_13, qzm6_14, qzm6_15, qzm6_16, qzm6_17, qzm6_18, qzm6_19, qzm6_20, qzm6_21, qzm6_22, qzm6_23, qzm6_24, qzm6_25, qzm6_26, qzm6_27, qzm6_28, qzm6_29, qzm6_30, qzm6_31, qzm6_32, qzm6_33, qzm6_34, qzm6_35, qzm6_36, qzm6_37, qzm6_38, qzm6_39, qzm6_40, qzm6_41, qzm6_42, qzm6_43, qzm6_44, qzm6_45, qzm6_46, qzm6_47, qzm6_48, qzm6_49, qzm6_50, qzm6_51, qzm6_52, qzm6_53, qzm6_54, qzm6_55, qzm6_56, qzm6_57, qzm6_58, qzm6_59, qzm6_60, qzm6_61, qzm6_62, qzm6_63, qzm6_64, qzm6_65, qzm6_66, qzm6_67, qzm6_68, qzm6_69, qzm6_70, qzm6_71, qzm6_72]); simp only [ha83]; rfl) ?_
             refine e_inv (fun a w' hs => ⟨(endsOf c (k : Int) false).length - (j + 1), by omega, n97, (j + 1), ax95, cp96, rfl, by omega, by omega, by (try dsimp only [qzm6_0, qzm6_1, qzm6_2, qzm6_3, qzm6_4, qzm6_5, qzm6_6, qzm6_7, qzm6_8, qzm6_9, qzm6_10, qzm6_11, qzm6_12, qzm6_13, qzm6_14, qzm6_15, qzm6_16, qzm6_17, qzm6_18, qzm6_19, qzm6_20, qzm6_21, qzm6_22, qzm6_23, qzm6_24, qzm6_25, qzm6_26, qzm6_27, qzm6_28, qzm6_29, qzm6_30, qzm6_31, qzm6_32, qzm6_33, qzm6_34, qzm6_35, qzm6_36, qzm6_37, qzm6_38, qzm6_39, qzm6_40, qzm6_41, qzm6_42, qzm6_43, qzm6_44, qzm6_45, qzm6_46, qzm6_47, qzm6_48, qzm6_49, qzm6_50, qzm6_51, qzm6_52, qzm6_53, qzm6_54, qzm6_55, qzm6_56, qzm6_57, qzm6_58, qzm6_59, qzm6_60, qzm6_61, qzm6_62, qzm6_63, qzm6_64, qzm6_65, qzm6_66, qzm6_67, qzm6_68, qzm6_69, qzm6_70, qzm6_71, qzm6_72] at hs ⊢); rw [dAt_succ, destsUp_succ, ← hy33, show destAt c k j = ⟨y88.partition, y88.port, dAt c k j⟩ from by rw [hy88]; rfl]; exact hs⟩)
           · refine q_c 11 4 [0] [[oF], [o0, (a1 4), (an 5 10), o0]] [BF (((j : Int) : Int) < (((endsOf c (k : Int) false).length : Nat) : Int)), Qb (w2.heap.size + 1), Qb b49, Qb b49, Qb b49, Qb b49, Qb b49] [(1, pt z), (qzm6_63 z), (qzm6_48 w2), (qzm6_58 w2), (qzm6_45 b26 o27 c), (qzm6_57 c), (48, i6 (k : Int)), (96, .slice aC csG.length cC), (98, .slice (some ⟨n79, 0, none⟩) 1 1)] ⟨w, n79 + 1, [(old0 w), (qzm6_28 z c), (qzm6_15 z), (qzm6_22 w2 c k j), (qzm6_8 w2 c aP i cP aC csG cC), (qzm6_36 z aP c i cP), (qzm6_40 z csG), (qzm6_39 z aC csG cC), (qzm6_26 n24 y33), (mid (n24 + 1) w35), (qzm6_3 b49 c k y47 aD j cD), (qzm6_37 z aD c k j cD), (qzm6_4 n79 c k y47 aD j cD)]⟩ rfl ⟨bf (by omega), rfl, rfl, rfl, rfl, rfl, rfl, trivial⟩ ?_
             refine l_push z 7 12 csG [(⟨cAt c k, (cAt c k) + 2, y47.partition, y47.port, (⟨aD, cD, destsUp c k j⟩ : Sl TDestPlace)⟩ : TChannelPlace)] TChannelPlace.cells 104 5 56 (.slice aC csG.length cC) n79 1 1 #[i6 (cAt c k), i6 ((cAt c k) + 2), i6 y47.partition, i6 y47.port, .slice aD ((destsUp c k j).length) cD] 104 (0, 0) true (some 99) (by simp only [List.length_cons, List.length_nil]; omega) (show z ≤ n79 + 1 by omega) (fun ax99 cp100 n101 (hn102 : n79 + 1 ≤ n101) => ?_)
             refine q_r 5 0 [] [[o0, (a1 4)], [(ov (i6 ((k + 1 : Nat) : Int))), o0]] [Qb (w2.heap.size + 1), Wr (((k : Int) : Int) + 1) (((k + 1 : Nat) : Int))] [(1, pt z), (qzm6_63 z), (qzm6_48 w2), (qzm6_58 w2), (qzm6_45 b26 o27 c), (qzm6_57 c), (48, i6 ((k + 1 : Nat) : Int))] ⟨w, n101, [(old0 w), (qzm6_28 z c), (qzm6_15 z), (qzm6_22 w2 c k j), (qzm6_0 w2 c aP i cP ax99 csG k y47 aD cD j cp100), (qzm6_36 z aP c i cP), (qzm6_40 z csG), (qzm6_30 z ax99 csG c k y47 aD cD j cp100), (qzm6_26 n24 y33), (mid (n24 + 1) w35), (qzm6_3 b49 c k y47 aD j cD), (qzm6_37 z aD c k j cD), (qzm6_4 n79 c k y47 aD j cD)]⟩ rfl ⟨rfl, wrI, trivial⟩ ?_
             refine e_fam 6 11 [0, 1, 2, 3, 4, 5, 7, 8, 9, 10, 12] [(old0 w), (qzm6_28 z c), (qzm6_15 z), (qzm6_22 w2 c k j), (qzm6_0 w2 c aP i cP ax99 csG k y47 aD cD j cp100), (qzm6_36 z aP c i cP), (qzm6_30 z ax99 csG c k y47 aD cD j cp100), (qzm6_26 n24 y33), (mid (n24 + 1) w35), (qzm6_3 b49 c k y47 aD j cD), (qzm6_4 n79 c k y47 aD j cD)] ?_
             refine e_pick [0, 1, 2, 3, 4, 5, 11, 6] [(old0 w), (qzm6_28 z c), (qzm6_15 z), (qzm6_22 w2 c k j), (qzm6_0 w2 c aP i cP ax99 csG k y47 aD cD j cp100), (qzm6_36 z aP c i cP), (famC z 106 3 TDestPlace.cells (csG.map TChannelPlace.Dests ++ [⟨aD, cD, destsUp c k j⟩])), (qzm6_30 z ax99 csG c k y47 aD cD j cp100)] rfl rfl ?_
             refine e_eqk [1, 2, 4, 5, 46, 47, 48] [(1, pt z), (qzm6_63 z), (qzm6_48 w2), (qzm6_58 w2), (qzm6_51 c), (qzm6_57 c), (48, i6 ((k + 1 : Nat) : Int))] (by (try dsimp only [qzm6_0, qzm6_1, qzm6_2, qzm6_3, qzm6_4, qzm6_5, qzm6_6, qzm6_7, qzm6_8, qzm6_9, qzm6_10, qzm6_11, qzm6_12, qzm6_13, qzm6_14, qzm6_15, qzm6_16, qzm6_17, qzm6_18, qzm6_19, qzm6_20, qzm6_21, qzm6_22, qzm6_23, qzm6_24, qzm6_25, qzm6_26, qzm6_27, qzm6_28, qzm6_29, qzm6_30, qzm6_31, qzm6_32, qzm6_33, qzm6_34, qzm6_35, qzm6_36, qzm6_37, qzm6_38, qzm6_39, qzm6_40, qzm6_41, qzm6_42, qzm6_43, qzm6_44, qzm6_45, qzm6_46, qzm6_47, qzm6_48, qzm6_49, qzm6_50, qzm6_51, qzm6_52, qzm6_53, qzm6_54, qzm6_55, qzm6_56, qzm6_57, qzm6_58, qzm6_59, qzm6_60, qzm6_61, qzm6_62, qzm6_63, qzm6_64, qzm6_65, qzm6_66, qzm6_67, qzm6_68, qzm6_69, qzm6_70, qzm6_71, qzm6_72]); simp only [ha28]; rfl) ?_
             refine e_inv (fun a w' hs => ⟨c.Channels.xs.length - (k + 1), by omega, n101, (k + 1), (csG ++ [(⟨cAt c k, (cAt c k) + 2, y47.partition, y47.port, (⟨aD, cD, destsUp c k j⟩ : Sl TDestPlace)⟩ : TChannelPlace)]), ax99, cp100, rfl, by omega, by omega, by rw [List.length_append, hcl]; rfl, chans_push hcl hcs (a := aD) (cp := cD) (by unfold chanAt; rw [← hy47, show nDest c k = j from by unfold nDest; omega]), by (try dsimp only [qzm6_0, qzm6_1, qzm6_2, qzm6_3, qzm6_4, qzm6_5, qzm6_6, qzm6_7, qzm6_8, qzm6_9, qzm6_10, qzm6_11, qzm6_12, qzm6_13, qzm6_14, qzm6_15, qzm6_16, qzm6_17, qzm6_18, qzm6_19, qzm6_20, qzm6_21, qzm6_22, qzm6_23, qzm6_24, qzm6_25, qzm6_26, qzm6_27, qzm6_28, qzm6_29, qzm6_30, qzm6_31, qzm6_32, qzm6_33, qzm6_34, qzm6_35, qzm6_36, qzm6_37, qzm6_38, qzm6_39, qzm6_40, qzm6_41, qzm6_42, qzm6_43, qzm6_44, qzm6_45, qzm6_46, qzm6_47, qzm6_48, qzm6_49, qzm6_50, qzm6_51, qzm6_52, qzm6_53, qzm6_54, qzm6_55, qzm6_56, qzm6_57, qzm6_58, qzm6_59, qzm6_60, qzm6_61, qzm6_62, qzm6_63, qzm6_64, qzm6_65, qzm6_66, qzm6_67, qzm6_68, qzm6_69, qzm6_70, qzm6_71, qzm6_72] at hs ⊢); rw [List.map_append, cAt_succ, show nDest c k = j from by unfold nDest; omega]; exact hs⟩)
       · refine q_cS 12 1 [0] [[oF], [o0]] [BF (((k : Int) : Int) < ((c.Channels.xs.length : Nat) : Int))] [(1, pt z), (qzm6_63 z), (qzm6_58 w2), (102, .func (.func 75) #[] #[pt w2.heap.size])] rfl ⟨bf (by omega), trivial⟩ ?_
         refine l_call [] [] 75 #[i6 0, pt w2.heap.size] (some 103) trivial ?_
         intro w103 hw103
         refine calls_G (args := [i6 0, pt w2.heap.size]) 10 ⟨w, n24, (qzm6_72 w z c w2 k aP i cP aC csG cC)⟩ Tryd.func75 rfl (by kernel_rfl) (by kernel_rfl) hw103 ?_
         refine q_cS 17 0 [] [[o0], [(a1 3), o0], [(a1 3), o0, (ov (i6 (cAt c k))), (a1 3)], [o0, o0]] [Qb w2.heap.size, Qb w2.heap.size, Wr ((cAt c k : Int) + 0) (cAt c k), Qb w2.heap.size] [(3, i6 (cAt c k))] rfl ⟨rfl, rfl, wrI, rfl, trivial⟩ ?_
         refine e_ret [] [] (i6 (cAt c k)) trivial ?_
         intro w104 hw104
         refine ⟨_, _, rfl, hw104, ?_⟩
         refine q_rS 0 3 [] [[(ov (i6 ((cAt c k) + 16))), (ov (i6 (((cAt c k) + 16) - 1))), (ov (i6 ((((cAt c k) + 16) - 1) / 16)))]] [Wr ((cAt c k : Int) + 16) ((cAt c k) + 16), Wr (((cAt c k) + 16 : Int) - 1) (((cAt c k) + 16) - 1), Wr (Int.tdiv (((cAt c k) + 16) - 1) 16) ((((cAt c k) + 16) - 1) / 16)] [(1, pt z), (qzm6_63 z), (qzm6_58 w2), (106, i6 ((((cAt c k) + 16) - 1) / 16))] rfl ⟨wrI, wrI, congrArg (Value.int .i64) (wr_div (by omega) (by omega) (by omega)), trivial⟩ ?_
         refine l_call [] [] 57 #[i6 ((((cAt c k) + 16) - 1) / 16)] (some 107) trivial ?_
         intro w105 hw105
         refine calls_G (args := [i6 ((((cAt c k) + 16) - 1) / 16)]) 4 ⟨w, n24, (qzm6_72 w z c w2 k aP i cP aC csG cC)⟩ Tryd.func57 rfl (by kernel_rfl) (by kernel_rfl) hw105 ?_
         refine q_c 9 0 [] [[o0, o0], [o0, o0]] [] [(2, .func (.func 75) #[] #[pt n24])] ⟨w, n24 + 1, [(old0 w), (qzm6_28 z c), (qzm6_15 z), (qzm6_23 w2 c k), (qzm6_8 w2 c aP i cP aC csG cC), (qzm6_36 z aP c i cP), (qzm6_40 z csG), (qzm6_39 z aC csG cC), (bk n24 #[i6 ((((cAt c k) + 16) - 1) / 16)] 3)]⟩ rfl trivial ?_
         refine e_ret [] [] (.func (.func 75) #[] #[pt n24]) trivial ?_
         intro w106 hw106
         refine ⟨_, _, rfl, hw106, ?_⟩
         refine q_rS 8 0 [] [[o0], [o0, (a1 1), o0, o0]] [Qb z] [(qzm6_63 z), (qzm6_58 w2), (qzm6_52 n24), (qzm6_49 c), (qzm6_55 c), (111, i6 0)] rfl ⟨rfl, trivial⟩ ?_
         refine g_fam0 z 3 1 (fun x : Int => [i6 x]) ?_
         refine g_loop (fun m a w' => ∃ (n108 : Nat) (p : Nat) (psG : List TPartitionPlace) (aP2 : Option Addr) (cP2 : Nat), m = c.Partitions.xs.length - p ∧ n24 + 1 ≤ n108 ∧ (p ≤ c.Partitions.xs.length) ∧ (psG.length = c.Partitions.xs.length) ∧ (∀ q, p ≤ q → q < c.Partitions.xs.length → gd psG q = placeAt c q) ∧ (∀ q, q < p → ∃ a cp, gd psG q = placeDone c q ⟨a, cp, tabsAt c q (tabsN (gd c.Partitions.xs q))⟩) ∧ St 148 [(qzm6_63 z), (qzm6_58 w2), (qzm6_52 n24), (qzm6_49 c), (qzm6_55 c), (111, i6 (p : Int))] [] ⟨w, n108, (qzm6_70 w z c w2 k aP2 psG cP2 aC csG cC n24 p)⟩ a w') (c.Partitions.xs.length - 0) ?_ ?_
         · intro a w' hs; exact ⟨(n24 + 1), 0, (placesUp c i), aP, cP, rfl, Nat.le_refl _, Nat.zero_le _, (by rw [placesUp_len]; omega), (fun q _ hq => gd_map (show q < i by omega)), fun q hq => absurd hq (Nat.not_lt_zero q), by (try dsimp only [qzm6_0, qzm6_1, qzm6_2, qzm6_3, qzm6_4, qzm6_5, qzm6_6, qzm6_7, qzm6_8, qzm6_9, qzm6_10, qzm6_11, qzm6_12, qzm6_13, qzm6_14, qzm6_15, qzm6_16, qzm6_17, qzm6_18, qzm6_19, qzm6_20, qzm6_21, qzm6_22, qzm6_23, qzm6_24, qzm6_25, qzm6_26, qzm6_27, qzm6_28, qzm6_29, qzm6_30, qzm6_31, qzm6_32, qzm6_33, qzm6_34, qzm6_35, qzm6_36, qzm6_37, qzm6_38, qzm6_39, qzm6_40, qzm6_41, qzm6_42, qzm6_43, qzm6_44, qzm6_45, qzm6_46, qzm6_47, qzm6_48, qzm6_49, qzm6_50, qzm6_51, qzm6_52, qzm6_53, qzm6_54, qzm6_55, qzm6_56, qzm6_57, qzm6_58, qzm6_59, qzm6_60, qzm6_61, qzm6_62, qzm6_63, qzm6_64, qzm6_65, qzm6_66, qzm6_67, qzm6_68, qzm6_69, qzm6_70, qzm6_71, qzm6_72] at hs ⊢); rw [show tAt c 0 = (((cAt c k) + 16) - 1) / 16 from by rw [tAt_zero, show k = c.Channels.xs.length by omega]]; exact hs⟩
         · rintro m a w' ⟨n108, p, psG, aP2, cP2, rfl, hn107, hkp, hpl, hp1, hp2, hs⟩
           refine (?_ : G Tryd.prog 148 [(qzm6_63 z), (qzm6_58 w2), (qzm6_52 n24), (qzm6_49 c), (qzm6_55 c), (111, i6 (p : Int))] [] ⟨w, n108, (qzm6_70 w z c w2 k aP2 psG cP2 aC csG cC n24 p)⟩ _ _ _) a w' hs
           clear hs a w'
           have htb := tAt_bd hfine p (by omega)
           refine g_seq ?_
           by_cases h109 : ((p : Int) : Int) < ((c.Partitions.xs.length : Nat) : Int)
           · refine q_cS 10 0 [1] [[oT]] [BT (((p : Int) : Int) < ((c.Partitions.xs.length : Nat) : Int))] [(qzm6_63 z), (qzm6_58 w2), (qzm6_52 n24), (qzm6_49 c), (qzm6_55 c), (111, i6 (p : Int)), (112, .bool true)] rfl ⟨bt (by omega), trivial⟩ ?_
             obtain ⟨b110, o111, ha112, hF114, hc113⟩ := (hc.Partitions).1.all (show 0 < c.Partitions.xs.length by omega)
             replace ha112 : c.Partitions.a = some ⟨b110, o111, none⟩ := ha112
             refine g_eq [(qzm6_63 z), (qzm6_58 w2), (qzm6_52 n24), (qzm6_43 b110 o111 c), (qzm6_55 c), (111, i6 (p : Int)), (112, .bool true)] (by (try dsimp only [qzm6_0, qzm6_1, qzm6_2, qzm6_3, qzm6_4, qzm6_5, qzm6_6, qzm6_7, qzm6_8, qzm6_9, qzm6_10, qzm6_11, qzm6_12, qzm6_13, qzm6_14, qzm6_15, qzm6_16, qzm6_17, qzm6_18, qzm6_19, qzm6_20, qzm6_21, qzm6_22, qzm6_23, qzm6_24, qzm6_25, qzm6_26, qzm6_27, qzm6_28, qzm6_29, qzm6_30, qzm6_31, qzm6_32, qzm6_33, qzm6_34, qzm6_35, qzm6_36, qzm6_37, qzm6_38, qzm6_39, qzm6_40, qzm6_41, qzm6_42, qzm6_43, qzm6_44, qzm6_45, qzm6_46, qzm6_47, qzm6_48, qzm6_49, qzm6_50, qzm6_51, qzm6_52, qzm6_53, qzm6_54, qzm6_55, qzm6_56, qzm6_57, qzm6_58, qzm6_59, qzm6_60, qzm6_61, qzm6_62, qzm6_63, qzm6_64, qzm6_65, qzm6_66, qzm6_67, qzm6_68, qzm6_69, qzm6_70, qzm6_71, qzm6_72]); simp only [ha112]) ?_
             have hc115 := hc113 p (show p < c.Partitions.xs.length by omega)
             have he116 := (hc.Partitions).2 p (show p < c.Partitions.xs.length by omega)
             obtain ⟨y117, hy117⟩ : ∃ y_, y_ = gd c.Partitions.xs p := ⟨_, rfl⟩
             rw [← hy117] at he116 hc115
             have htn := tabsN_le y117
             refine q_c 4 0 [] [[o0, (oi p), (ol 0 (TPartition.arr y117)), o0, o0, (an 8 10)]] [((p : Int) : Int) = ((p : Nat) : Int), p < c.Partitions.xs.length, (none : Option Nat) = none, OldR w b110 (o111 + p * 8) (TPartition.arr y117), Qb n108, Qb n108, Qb n108, Qb n108, Qb n108, Qb n108, Qb n108, Qb n108] [(qzm6_63 z), (qzm6_58 w2), (qzm6_52 n24), (qzm6_43 b110 o111 c), (qzm6_55 c), (111, i6 (p : Int)), (15, pt n108), (14, i6 (p : Int))] ⟨w, n108 + 1, [(old0 w), (qzm6_28 z c), (qzm6_15 z), (qzm6_23 w2 c k), (qzm6_11 w2 c aP2 psG cP2 aC csG cC), (qzm6_38 z aP2 psG cP2), (qzm6_40 z csG), (qzm6_39 z aC csG cC), (qzm6_25 n24 c p), (qzm6_35 z psG p), (qzm6_24 n108 y117)]⟩ rfl ⟨rfl, (by omega), rfl, old_row hc115, rfl, rfl, rfl, rfl, rfl, rfl, rfl, rfl, trivial⟩ ?_
             refine g_rowat (base := z) (e := 95) (sz := 5) (cells := TPartitionPlace.cells) (a := aP2) (n := psG.length) (cap := cP2) (xs := psG) 5 (by omega) (fun b118 hg119 hb120 => ?_)
             subst hg119
             refine g_draw 7 [0, 1, 2, 3, 4, 5, 6, 7, 9, 10] [(old0 w), (qzm6_28 z c), (qzm6_15 z), (qzm6_23 w2 c k), (qzm6_5 w2 c b118 psG cP2 aC csG cC), (rowL z 95 5 TPartitionPlace.cells (.slice (some ⟨b118, 0, none⟩) psG.length cP2) psG), (qzm6_40 z csG), (qzm6_39 z aC csG cC), (qzm6_35 z psG p), (qzm6_24 n108 y117)] rfl rfl ?_
             refine w_take [(0, o0), (1, (a1 4)), (2, o0), (3, o0)] [2, 5, 13, 109, 110, 111, 15, 14, 117, 118, 119] [Qb (w2.heap.size + 1)] [true, true, true, true, false, false, false, false] [(qzm6_63 z), (qzm6_58 w2), (qzm6_52 n24), (qzm6_43 b110 o111 c), (qzm6_55 c), (111, i6 (p : Int)), (15, pt n108), (14, i6 (p : Int)), (117, .slice (some ⟨b118, 0, none⟩) psG.length cP2), (118, i6 (p : Int)), (119, .func (.func 75) #[] #[pt n24])] rfl (by as_aux_lemma => kernel_rfl) (by as_aux_lemma => kernel_rfl) ⟨rfl, trivial⟩ ?_
             refine w_one 4 (by as_aux_lemma => kernel_rfl) rfl ?_
             refine wo_call [] [] 75 #[i6 1, pt n24] (some 120) (by as_aux_lemma => kernel_rfl) rfl rfl trivial ?_
             intro w121 hw121
             refine calls_G (args := [i6 1, pt n24]) 10 ⟨w, n108 + 1, [(old0 w), (qzm6_28 z c), (qzm6_15 z), (qzm6_23 w2 c k), (qzm6_5 w2 c b118 psG cP2 aC csG cC), (rowL z 95 5 TPartitionPlace.cells (.slice (some ⟨b118, 0, none⟩) psG.length cP2) psG), (qzm6_40 z csG), (qzm6_39 z aC csG cC), (qzm6_25 n24 c p), (qzm6_35 z psG p), (qzm6_24 n108 y117)]⟩ Tryd.func75 rfl (by kernel_rfl) (by kernel_rfl) hw121 ?_
             refine q_c 17 0 [] [[o0], [(a1 8), o0], [(a1 8), o0, (ov (i6 ((tAt c p) + 1))), (a1 8)], [o0, o0]] [Qb n24, Qb n24, Wr ((tAt c p : Int) + 1) ((tAt c p) + 1), Qb n24] [(3, i6 (tAt c p))] ⟨w, n108 + 1, [(old0 w), (qzm6_28 z c), (qzm6_15 z), (qzm6_23 w2 c k), (qzm6_5 w2 c b118 psG cP2 aC csG cC), (rowL z 95 5 TPartitionPlace.cells (.slice (some ⟨b118, 0, none⟩) psG.length cP2) psG), (qzm6_40 z csG), (qzm6_39 z aC csG cC), (bk n24 #[i6 ((tAt c p) + 1)] 3), (qzm6_35 z psG p), (qzm6_24 n108 y117)]⟩ rfl ⟨rfl, rfl, wrI, rfl, trivial⟩ ?_
             refine e_ret [] [] (i6 (tAt c p)) trivial ?_
             intro w122 hw122
             have hs123 := hw122
             refine ⟨_, _, rfl, hs123, .inr (fun c hc => hs123.all c (by first | exact hc | exact picks_mem (is := [0, 1, 2, 3, 4, 5, 6, 7, 9, 10]) rfl c hc)), ?_⟩
             refine w_keep [2, 5, 13, 109, 110, 111, 15, 14, 117, 118, 120] [(qzm6_63 z), (qzm6_58 w2), (qzm6_52 n24), (qzm6_43 b110 o111 c), (qzm6_55 c), (111, i6 (p : Int)), (15, pt n108), (14, i6 (p : Int)), (117, .slice (some ⟨b118, 0, none⟩) psG.length cP2), (118, i6 (p : Int)), (120, i6 (tAt c p))] ?_
             refine w_take [(5, (oi p)), (6, o0)] [2, 5, 13, 109, 110, 111, 15, 14, 120, 122] [((p : Int) : Int) = ((p : Nat) : Int), p < psG.length, (none : Option Nat) = none] [true, true, true, true, true, true, true, false] [(qzm6_63 z), (qzm6_58 w2), (qzm6_52 n24), (qzm6_43 b110 o111 c), (qzm6_55 c), (111, i6 (p : Int)), (15, pt n108), (14, i6 (p : Int)), (120, i6 (tAt c p)), (122, .pointer (some ⟨b118, 0 + offs 5 p + 3, none⟩))] rfl (by as_aux_lemma => kernel_rfl) (by as_aux_lemma => kernel_rfl) ⟨rfl, (by omega), rfl, trivial⟩ ?_
             refine w_one 7 (by as_aux_lemma => kernel_rfl) rfl ?_
             refine wo_rowset 5 p 3 psG (⟨pAt c p, pAt c p + 2, pAt c p + 2 + 17, tAt c p, (⟨none, 0, []⟩ : Sl Int)⟩ : TPartitionPlace) TPartitionPlace.cells z 95 5 b118 psG.length cP2 (i6 (tAt c p)) none [] (by first | omega | (rw [List.length_set]; omega)) (by first | (rw [hp1 p (Nat.le_refl _) (by omega)]; rfl) | (rw [gd_set (by omega)]; rfl)) (.inl rfl) ?_
             refine w_keep [2, 5, 13, 109, 110, 111, 15, 14] [(qzm6_63 z), (qzm6_58 w2), (qzm6_52 n24), (qzm6_43 b110 o111 c), (qzm6_55 c), (111, i6 (p : Int)), (15, pt n108), (14, i6 (p : Int))] ?_
             refine w_free 8 [0, 1, 2, 3, 4, 5, 6, 7, 8, 9, 10] [(old0 w), (qzm6_28 z c), (qzm6_15 z), (qzm6_23 w2 c k), (qzm6_5 w2 c b118 psG cP2 aC csG cC), (rowL z 95 5 TPartitionPlace.cells (.slice (some ⟨b118, 0, none⟩) psG.length cP2) (psG.set p (⟨pAt c p, pAt c p + 2, pAt c p + 2 + 17, tAt c p, (⟨none, 0, []⟩ : Sl Int)⟩ : TPartitionPlace))), (qzm6_40 z csG), (qzm6_39 z aC csG cC), (bk n24 #[i6 ((tAt c p) + 1)] 3), (qzm6_35 z psG p), (qzm6_24 n108 y117)] rfl rfl ?_
             refine w_done (by as_aux_lemma => kernel_rfl) ?_
             refine q_oS 3 1 [] [[(an 8 10)]] [Qb n108, Qb n108, Qb n108, Qb n108, Qb n108, Qb n108, Qb n108, Qb n108] [(qzm6_63 z), (qzm6_58 w2), (qzm6_52 n24), (qzm6_43 b110 o111 c), (qzm6_55 c), (111, i6 (p : Int)), (14, i6 (p : Int)), (123, .agg (TPartition.arr y117))] rfl ⟨rfl, rfl, rfl, rfl, rfl, rfl, rfl, rfl, trivial⟩ ?_
             refine l_call [] [] 61 #[.agg (TPartition.arr y117)] (some 124) trivial ?_
             intro w124 hw124
             refine (tables_calls w124 y117 (he116.ext (hw124.ext rfl) (fun _ h => h)) (regs_ok (by rw [hy117]; exact hfine.parts p (by omega)))).mono ?_
             rintro e w125 ⟨rfl, hkw125⟩
             have hnw125 : n108 + 1 ≤ w125.heap.size := size_of hw124 hkw125
             refine ⟨_, _, rfl, hw124.keeps hkw125, ?_⟩
             refine q_rS 3 0 [] [[o0]] [] [(qzm6_63 z), (qzm6_58 w2), (qzm6_52 n24), (qzm6_43 b110 o111 c), (qzm6_55 c), (111, i6 (p : Int)), (14, i6 (p : Int)), (qzm6_61 y117), (125, i6 0)] rfl trivial ?_
             refine g_rowL z 3 1 (fun x : Int => [i6 x]) ?_
             refine g_keep [2, 5, 13, 14, 109, 110, 111, 124, 125] [(qzm6_63 z), (qzm6_58 w2), (qzm6_52 n24), (14, i6 (p : Int)), (qzm6_43 b110 o111 c), (qzm6_55 c), (111, i6 (p : Int)), (qzm6_61 y117), (125, i6 0)] ?_
             refine g_loop (fun m a w' => ∃ (n127 : Nat) (t : Nat) (aT : Option Addr) (cT : Nat), m = (tabsN y117) - t ∧ w125.heap.size ≤ n127 ∧ (t ≤ (tabsN y117)) ∧ St 148 [(qzm6_63 z), (qzm6_58 w2), (qzm6_52 n24), (14, i6 (p : Int)), (qzm6_43 b110 o111 c), (qzm6_55 c), (111, i6 (p : Int)), (qzm6_61 y117), (125, i6 (t : Int))] [] ⟨w, n127, (qzm6_66 w z c w2 k b118 psG cP2 aC csG cC p aT cT t n24 n108 y117)⟩ a w') ((tabsN y117) - 0) ?_ ?_
             · intro a w' hs; exact ⟨w125.heap.size, 0, none, 0, rfl, Nat.le_refl _, Nat.zero_le _, by (try dsimp only [qzm6_0, qzm6_1, qzm6_2, qzm6_3, qzm6_4, qzm6_5, qzm6_6, qzm6_7, qzm6_8, qzm6_9, qzm6_10, qzm6_11, qzm6_12, qzm6_13, qzm6_14, qzm6_15, qzm6_16, qzm6_17, qzm6_18, qzm6_19, qzm6_20, qzm6_21, qzm6_22, qzm6_23, qzm6_24, qzm6_25, qzm6_26, qzm6_27, qzm6_28, qzm6_29, qzm6_30, qzm6_31, qzm6_32, qzm6_33, qzm6_34, qzm6_35, qzm6_36, qzm6_37, qzm6_38, qzm6_39, qzm6_40, qzm6_41, qzm6_42, qzm6_43, qzm6_44, qzm6_45, qzm6_46, qzm6_47, qzm6_48, qzm6_49, qzm6_50, qzm6_51, qzm6_52, qzm6_53, qzm6_54, qzm6_55, qzm6_56, qzm6_57, qzm6_58, qzm6_59, qzm6_60, qzm6_61, qzm6_62, qzm6_63, qzm6_64, qzm6_65, qzm6_66, qzm6_67, qzm6_68, qzm6_69, qzm6_70, qzm6_71, qzm6_72] at hs ⊢); rw [show tAt c p + 1 + ((0 : Nat) : Int) = tAt c p + 1 from by omega]; exact hs⟩
             · rintro m a w' ⟨n127, t, aT, cT, rfl, hn126, hkt, hs⟩
               refine (?_ : G Tryd.prog 148 [(qzm6_63 z), (qzm6_58 w2), (qzm6_52 n24), (14, i6 (p : Int)), (qzm6_43 b110 o111 c), (qzm6_55 c), (111, i6 (p : Int)), (qzm6_61 y117), (125, i6 (t : Int))] [] ⟨w, n127, (qzm6_66 w z c w2 k b118 psG cP2 aC csG cC p aT cT t n24 n108 y117)⟩ _ _ _) a w' hs
               clear hs a w'
               have htl : (tabsAt c p t).length = t := tabsAt_len
               refine g_seq ?_
               by_cases h128 : ((t : Int) : Int) < ((tabsN y117 : Nat) : Int)
               · refine q_cS 9 0 [1] [[oT]] [BT (((t : Int) : Int) < ((tabsN y117 : Nat) : Int))] [(qzm6_63 z), (qzm6_58 w2), (qzm6_52 n24), (14, i6 (p : Int)), (qzm6_43 b110 o111 c), (qzm6_55 c), (111, i6 (p : Int)), (qzm6_61 y117), (125, i6 (t : Int)), (126, .bool true)] rfl ⟨bt (by omega), trivial⟩ ?_
                 refine g_draw 15 [0, 1, 2, 3, 4, 5, 6, 7, 9, 10] [(old0 w), (qzm6_28 z c), (qzm6_15 z), (qzm6_23 w2 c k), (qzm6_5 w2 c b118 psG cP2 aC csG cC), (qzm6_33 z b118 psG cP2 p c aT cT t), (qzm6_40 z csG), (qzm6_39 z aC csG cC), (qzm6_35 z psG p), (qzm6_24 n108 y117)] rfl rfl ?_
                 refine w_take [(0, o0), (1, (a1 4)), (2, o0), (3, o0), (4, (a1 4)), (5, o0), (6, (oi p)), (7, o0), (8, (oa [.via 5 (.slice aT ((tabsAt c p t).length) cT)])), (9, o0)] [2, 5, 13, 14, 109, 110, 111, 124, 125, 128, 129, 135, 136] [Qb (w2.heap.size + 1), Qb (w2.heap.size + 1), ((p : Int) : Int) = ((p : Nat) : Int), p < psG.length, (none : Option Nat) = none, ∀ w', Ch.holds (qzm6_33 z b118 psG cP2 p c aT cT t) w' → w'.cell? ⟨b118, 0 + offs 5 p + 4, none⟩ = some (.slice aT ((tabsAt c p t).length) cT)] [true, true, true, true, true, true, true, true, true, true, false, false, false, false, false, false] [(qzm6_63 z), (qzm6_58 w2), (qzm6_52 n24), (14, i6 (p : Int)), (qzm6_43 b110 o111 c), (qzm6_55 c), (111, i6 (p : Int)), (qzm6_61 y117), (125, i6 (t : Int)), (128, .slice (some ⟨b118, 0, none⟩) psG.length cP2), (129, i6 (p : Int)), (135, .slice aT ((tabsAt c p t).length) cT), (136, .func (.func 75) #[] #[pt n24])] rfl (by as_aux_lemma => kernel_rfl) (by as_aux_lemma => kernel_rfl) ⟨rfl, rfl, rfl, (by omega), rfl, rowL_cell (sz := 5) (j := p) (k := 4) (fun _ => rfl) (by first | omega | (rw [List.length_set]; omega)) (by rw [gd_set (by omega)]; rfl), trivial⟩ ?_
                 refine w_one 10 (by as_aux_lemma => kernel_rfl) rfl ?_
                 refine wo_call [] [] 75 #[i6 1, pt n24] (some 137) (by as_aux_lemma => kernel_rfl) rfl rfl trivial ?_
                 intro w129 hw129
                 refine calls_G (args := [i6 1, pt n24]) 10 ⟨w, n127, (qzm6_66 w z c w2 k b118 psG cP2 aC csG cC p aT cT t n24 n108 y117)⟩ Tryd.func75 rfl (by kernel_rfl) (by kernel_rfl) hw129 ?_
                 refine q_c 17 0 [] [[o0], [(a1 8), o0], [(a1 8), o0, (ov (i6 ((tAt c p + 1 + (t : Int)) + 1))), (a1 8)], [o0, o0]] [Qb n24, Qb n24, Wr ((tAt c p + 1 + (t : Int) : Int) + 1) ((tAt c p + 1 + (t : Int)) + 1), Qb n24] [(3, i6 (tAt c p + 1 + (t : Int)))] ⟨w, n127, [(old0 w), (qzm6_28 z c), (qzm6_15 z), (qzm6_23 w2 c k), (qzm6_5 w2 c b118 psG cP2 aC csG cC), (qzm6_33 z b118 psG cP2 p c aT cT t), (qzm6_40 z csG), (qzm6_39 z aC csG cC), (qzm6_19 n24 c p t), (qzm6_35 z psG p), (qzm6_24 n108 y117), (qzm6_34 z aT c p t cT)]⟩ rfl ⟨rfl, rfl, wrI, rfl, trivial⟩ ?_
                 refine e_ret [] [] (i6 (tAt c p + 1 + (t : Int))) trivial ?_
                 intro w130 hw130
                 have hs131 := hw130
                 refine ⟨_, _, rfl, hs131, .inr (fun c hc => hs131.all c (by first | exact hc | exact picks_mem (is := [0, 1, 2, 3, 4, 5, 6, 7, 9, 10]) rfl c hc)), ?_⟩
                 refine w_keep [2, 5, 13, 14, 109, 110, 111, 124, 125, 128, 129, 135, 137] [(qzm6_63 z), (qzm6_58 w2), (qzm6_52 n24), (14, i6 (p : Int)), (qzm6_43 b110 o111 c), (qzm6_55 c), (111, i6 (p : Int)), (qzm6_61 y117), (125, i6 (t : Int)), (128, .slice (some ⟨b118, 0, none⟩) psG.length cP2), (129, i6 (p : Int)), (135, .slice aT ((tabsAt c p t).length) cT), (137, i6 (tAt c p + 1 + (t : Int)))] ?_
                 refine w_one 11 (by as_aux_lemma => kernel_rfl) rfl ?_
                 refine wo_eff o0 [2, 5, 13, 14, 109, 110, 111, 124, 125, 128, 129, 135, 138] [] [(qzm6_63 z), (qzm6_58 w2), (qzm6_52 n24), (14, i6 (p : Int)), (qzm6_43 b110 o111 c), (qzm6_55 c), (111, i6 (p : Int)), (qzm6_61 y117), (125, i6 (t : Int)), (128, .slice (some ⟨b118, 0, none⟩) psG.length cP2), (129, i6 (p : Int)), (135, .slice aT ((tabsAt c p t).length) cT), (138, .slice (some ⟨n127, 0, none⟩) 1 1)] ⟨w, n127 + 1, [(old0 w), (qzm6_28 z c), (qzm6_15 z), (qzm6_23 w2 c k), (qzm6_5 w2 c b118 psG cP2 aC csG cC), (qzm6_33 z b118 psG cP2 p c aT cT t), (qzm6_40 z csG), (qzm6_39 z aC csG cC), (qzm6_19 n24 c p t), (qzm6_35 z psG p), (qzm6_24 n108 y117), (qzm6_34 z aT c p t cT), (bk n127 #[i6 (tAt c p + 1 + (t : Int))] 3)]⟩ [0, 1, 2, 3, 4, 5, 6, 7, 9, 10] (by as_aux_lemma => kernel_rfl) rfl trivial (.inr rfl) ?_
                 refine w_one 12 (by as_aux_lemma => kernel_rfl) rfl ?_
                 refine wo_push z 11 12 (tabsAt c p t) [tAt c p + 1 + (t : Int)] (fun x : Int => [i6 x]) 3 1 8 (.slice aT ((tabsAt c p t).length) cT) n127 1 1 #[i6 (tAt c p + 1 + (t : Int))] 3 (0, 0) true (some 139) [0, 1, 2, 3, 4, 5, 6, 7, 9, 10] (by simp only [List.length_cons, List.length_nil]; omega) (show z ≤ n127 + 1 by omega) (.inr ⟨rfl, rfl⟩) (fun ax132 cp133 n134 (hn135 : n127 + 1 ≤ n134) => ?_)
                 refine w_keep [2, 5, 13, 14, 109, 110, 111, 124, 125, 128, 129, 139] [(qzm6_63 z), (qzm6_58 w2), (qzm6_52 n24), (14, i6 (p : Int)), (qzm6_43 b110 o111 c), (qzm6_55 c), (111, i6 (p : Int)), (qzm6_61 y117), (125, i6 (t : Int)), (128, .slice (some ⟨b118, 0, none⟩) psG.length cP2), (129, i6 (p : Int)), (139, .slice ax132 (((tabsAt c p t) ++ [tAt c p + 1 + (t : Int)]).length) cp133)] ?_
                 refine w_take [(13, (oi p)), (14, o0)] [2, 5, 13, 14, 109, 110, 111, 124, 125, 139, 141] [((p : Int) : Int) = ((p : Nat) : Int), p < psG.length, (none : Option Nat) = none] [true, true, true, true, true, true, true, true, true, true, true, true, true, true, true, false] [(qzm6_63 z), (qzm6_58 w2), (qzm6_52 n24), (14, i6 (p : Int)), (qzm6_43 b110 o111 c), (qzm6_55 c), (111, i6 (p : Int)), (qzm6_61 y117), (125, i6 (t : Int)), (139, .slice ax132 (((tabsAt c p t) ++ [tAt c p + 1 + (t : Int)]).length) cp133), (141, .pointer (some ⟨b118, 0 + offs 5 p + 4, none⟩))] rfl (by as_aux_lemma => kernel_rfl) (by as_aux_lemma => kernel_rfl) ⟨rfl, (by omega), rfl, trivial⟩ ?_
                 refine w_one 15 (by as_aux_lemma => kernel_rfl) rfl ?_
                 refine wo_rowset 5 p 4 (psG.set p (⟨pAt c p, pAt c p + 2, pAt c p + 2 + 17, tAt c p, (⟨aT, cT, tabsAt c p t⟩ : Sl Int)⟩ : TPartitionPlace)) (⟨pAt c p, pAt c p + 2, pAt c p + 2 + 17, tAt c p, (⟨ax132, cp133, ((tabsAt c p t) ++ [tAt c p + 1 + (t : Int)])⟩ : Sl Int)⟩ : TPartitionPlace) TPartitionPlace.cells z 95 5 b118 psG.length cP2 (.slice ax132 (((tabsAt c p t) ++ [tAt c p + 1 + (t : Int)]).length) cp133) none [] (by first | omega | (rw [List.length_set]; omega)) (by first | (rw [hp1 p (Nat.le_refl _) (by omega)]; rfl) | (rw [gd_set (by omega)]; rfl)) (.inl rfl) ?_
                 refine w_keep [2, 5, 13, 14, 109, 110, 111, 124, 125] [(qzm6_63 z), (qzm6_58 w2), (qzm6_52 n24), (14, i6 (p : Int)), (qzm6_43 b110 o111 c), (qzm6_55 c), (111, i6 (p : Int)), (qzm6_61 y117), (125, i6 (t : Int))] ?_
                 refine w_free 16 [0, 1, 2, 3, 4, 5, 6, 7, 8, 9, 10, 11, 12] [(old0 w), (qzm6_28 z c), (qzm6_15 z), (qzm6_23 w2 c k), (qzm6_5 w2 c b118 psG cP2 aC csG cC), (qzm6_29 z b118 psG cP2 p c aT cT t ax132 cp133), (qzm6_40 z csG), (qzm6_39 z aC csG cC), (qzm6_19 n24 c p t), (qzm6_35 z psG p), (qzm6_24 n108 y117), (rowL z 3 1 (fun x : Int => [i6 x]) (.slice ax132 (((tabsAt c p t) ++ [tAt c p + 1 + (t : Int)]).length) cp133) ((tabsAt c p t) ++ [tAt c p + 1 + (t : Int)])), (bk n127 #[i6 (tAt c p + 1 + (t : Int))] 3)] rfl rfl ?_
                 refine w_done (by as_aux_lemma => kernel_rfl) ?_
                 refine q_oS 4 0 [] [[(ov (i6 ((t + 1 : Nat) : Int))), o0]] [Wr (((t : Int) : Int) + 1) (((t + 1 : Nat) : Int))] [(qzm6_63 z), (qzm6_58 w2), (qzm6_52 n24), (14, i6 (p : Int)), (qzm6_43 b110 o111 c), (qzm6_55 c), (111, i6 (p : Int)), (qzm6_61 y117), (125, i6 ((t + 1 : Nat) : Int))] rfl ⟨wrI, trivial⟩ ?_
                 refine e_pick [0, 1, 2, 3, 4, 5, 6, 7, 8, 9, 10, 11] [(old0 w), (qzm6_28 z c), (qzm6_15 z), (qzm6_23 w2 c k), (qzm6_5 w2 c b118 psG cP2 aC csG cC), (qzm6_29 z b118 psG cP2 p c aT cT t ax132 cp133), (qzm6_40 z csG), (qzm6_39 z aC csG cC), (qzm6_19 n24 c p t), (qzm6_35 z psG p), (qzm6_24 n108 y117), (rowL z 3 1 (fun x : Int => [i6 x]) (.slice ax132 (((tabsAt c p t) ++ [tAt c p + 1 + (t : Int)]).length) cp133) ((tabsAt c p t) ++ [tAt c p + 1 + (t : Int)]))] rfl rfl ?_
                 refine e_keep [2, 5, 13, 14, 109, 110, 111, 124, 125] [(qzm6_63 z), (qzm6_58 w2), (qzm6_52 n24), (14, i6 (p : Int)), (qzm6_43 b110 o111 c), (qzm6_55 c), (111, i6 (p : Int)), (qzm6_61 y117), (125, i6 ((t + 1 : Nat) : Int))] ?_
                 refine e_inv (fun a w' hs => ⟨(tabsN y117) - (t + 1), by omega, n134, (t + 1), ax132, cp133, rfl, by omega, by omega, by (try dsimp only [qzm6_0, qzm6_1, qzm6_2, qzm6_3, qzm6_4, qzm6_5, qzm6_6, qzm6_7, qzm6_8, qzm6_9, qzm6_10, qzm6_11, qzm6_12, qzm6_13, qzm6_14, qzm6_15, qzm6_16, qzm6_17, qzm6_18, qzm6_19, qzm6_20, qzm6_21, qzm6_22, qzm6_23, qzm6_24, qzm6_25, qzm6_26, qzm6_27, qzm6_28, qzm6_29, qzm6_30, qzm6_31, qzm6_32, qzm6_33, qzm6_34, qzm6_35, qzm6_36, qzm6_37, qzm6_38, qzm6_39, qzm6_40, qzm6_41, qzm6_42, qzm6_43, qzm6_44, qzm6_45, qzm6_46, qzm6_47, qzm6_48, qzm6_49, qzm6_50, qzm6_51, qzm6_52, qzm6_53, qzm6_54, qzm6_55, qzm6_56, qzm6_57, qzm6_58, qzm6_59, qzm6_60, qzm6_61, qzm6_62, qzm6_63, qzm6_64, qzm6_65, qzm6_66, qzm6_67, qzm6_68, qzm6_69, qzm6_70, qzm6_71, qzm6_72] at hs ⊢); simp only [List.set_set] at hs; rw [show tAt c p + 1 + ((t + 1 : Nat) : Int) = tAt c p + 1 + (t : Int) + 1 from by omega, tabsAt_succ]; exact hs⟩)
               · refine q_cS 13 0 [0] [[oF], [(ov (i6 ((p + 1 : Nat) : Int))), o0]] [BF (((t : Int) : Int) < ((tabsN y117 : Nat) : Int)), Wr (((p : Int) : Int) + 1) (((p + 1 : Nat) : Int))] [(qzm6_63 z), (qzm6_58 w2), (qzm6_52 n24), (qzm6_43 b110 o111 c), (qzm6_55 c), (111, i6 ((p + 1 : Nat) : Int))] rfl ⟨bf (by omega), wrI, trivial⟩ ?_
                 refine e_fam 9 11 [0, 1, 2, 3, 4, 5, 6, 7, 8, 10] [(old0 w), (qzm6_28 z c), (qzm6_15 z), (qzm6_23 w2 c k), (qzm6_5 w2 c b118 psG cP2 aC csG cC), (qzm6_33 z b118 psG cP2 p c aT cT t), (qzm6_40 z csG), (qzm6_39 z aC csG cC), (qzm6_20 n24 c p t), (qzm6_24 n108 y117)] ?_
                 refine e_pick [0, 1, 2, 3, 4, 5, 6, 7, 8, 10] [(old0 w), (qzm6_28 z c), (qzm6_15 z), (qzm6_23 w2 c k), (qzm6_5 w2 c b118 psG cP2 aC csG cC), (qzm6_33 z b118 psG cP2 p c aT cT t), (qzm6_40 z csG), (qzm6_39 z aC csG cC), (qzm6_20 n24 c p t), (famC z 3 1 (fun x : Int => [i6 x]) ((psG.take p).map TPartitionPlace.Tables ++ [⟨aT, cT, (tabsAt c p t)⟩]))] rfl rfl ?_
                 refine e_eqk [2, 5, 13, 109, 110, 111] [(qzm6_63 z), (qzm6_58 w2), (qzm6_52 n24), (qzm6_49 c), (qzm6_55 c), (111, i6 ((p + 1 : Nat) : Int))] (by (try dsimp only [qzm6_0, qzm6_1, qzm6_2, qzm6_3, qzm6_4, qzm6_5, qzm6_6, qzm6_7, qzm6_8, qzm6_9, qzm6_10, qzm6_11, qzm6_12, qzm6_13, qzm6_14, qzm6_15, qzm6_16, qzm6_17, qzm6_18, qzm6_19, qzm6_20, qzm6_21, qzm6_22, qzm6_23, qzm6_24, qzm6_25, qzm6_26, qzm6_27, qzm6_28, qzm6_29, qzm6_30, qzm6_31, qzm6_32, qzm6_33, qzm6_34, qzm6_35, qzm6_36, qzm6_37, qzm6_38, qzm6_39, qzm6_40, qzm6_41, qzm6_42, qzm6_43, qzm6_44, qzm6_45, qzm6_46, qzm6_47, qzm6_48, qzm6_49, qzm6_50, qzm6_51, qzm6_52, qzm6_53, qzm6_54, qzm6_55, qzm6_56, qzm6_57, qzm6_58, qzm6_59, qzm6_60, qzm6_61, qzm6_62, qzm6_63, qzm6_64, qzm6_65, qzm6_66, qzm6_67, qzm6_68, qzm6_69, qzm6_70, qzm6_71, qzm6_72]); simp only [ha112]; rfl) ?_
                 refine e_inv (fun a w' hs => ⟨c.Partitions.xs.length - (p + 1), by omega, n127, (p + 1), (psG.set p (⟨pAt c p, pAt c p + 2, pAt c p + 2 + 17, tAt c p, (⟨aT, cT, tabsAt c p t⟩ : Sl Int)⟩ : TPartitionPlace)), (some ⟨b118, 0, none⟩), cP2, rfl, by omega, by omega, by rw [List.length_set]; exact hpl, fun q h1 h2 => by rw [gd_set_ne (by omega) (by omega)]; exact hp1 q (by omega) h2, fun q hq => if e : q = p then (by rw [e]; exact ⟨aT, cT, by rw [gd_set (by omega), ← hy117, show tabsN y117 = t by omega]; rfl⟩) else (by rw [gd_set_ne (fun e2 => e e2.symm) (by omega)]; exact hp2 q (by omega)), by (try dsimp only [qzm6_0, qzm6_1, qzm6_2, qzm6_3, qzm6_4, qzm6_5, qzm6_6, qzm6_7, qzm6_8, qzm6_9, qzm6_10, qzm6_11, qzm6_12, qzm6_13, qzm6_14, qzm6_15, qzm6_16, qzm6_17, qzm6_18, qzm6_19, qzm6_20, qzm6_21, qzm6_22, qzm6_23, qzm6_24, qzm6_25, qzm6_26, qzm6_27, qzm6_28, qzm6_29, qzm6_30, qzm6_31, qzm6_32, qzm6_33, qzm6_34, qzm6_35, qzm6_36, qzm6_37, qzm6_38, qzm6_39, qzm6_40, qzm6_41, qzm6_42, qzm6_43, qzm6_44, qzm6_45, qzm6_46, qzm6_47, qzm6_48, qzm6_49, qzm6_50, qzm6_51, qzm6_52, qzm6_53, qzm6_54, qzm6_55, qzm6_56, qzm6_57, qzm6_58, qzm6_59, qzm6_60, qzm6_61, qzm6_62, qzm6_63, qzm6_64, qzm6_65, qzm6_66, qzm6_67, qzm6_68, qzm6_69, qzm6_70, qzm6_71, qzm6_72] at hs ⊢); rw [take_set_succ (by omega), List.map_append, List.length_set, show tAt c (p + 1) = tAt c p + 1 + (t : Int) from by rw [tAt_succ, ← hy117]; omega]; exact hs⟩)
           · refine q_cS 12 1 [0] [[oF], [o0]] [BF (((p : Int) : Int) < ((c.Partitions.xs.length : Nat) : Int))] [(qzm6_63 z), (qzm6_58 w2), (144, .func (.func 75) #[] #[pt n24])] rfl ⟨bf (by omega), trivial⟩ ?_
             refine l_call [] [] 75 #[i6 0, pt n24] (some 145) trivial ?_
             intro w136 hw136
             refine calls_G (args := [i6 0, pt n24]) 10 ⟨w, n108, (qzm6_70 w z c w2 k aP2 psG cP2 aC csG cC n24 p)⟩ Tryd.func75 rfl (by kernel_rfl) (by kernel_rfl) hw136 ?_
             refine q_cS 17 0 [] [[o0], [(a1 8), o0], [(a1 8), o0, (ov (i6 (tAt c p))), (a1 8)], [o0, o0]] [Qb n24, Qb n24, Wr ((tAt c p : Int) + 0) (tAt c p), Qb n24] [(3, i6 (tAt c p))] rfl ⟨rfl, rfl, wrI, rfl, trivial⟩ ?_
             refine e_ret [] [] (i6 (tAt c p)) trivial ?_
             intro w137 hw137
             refine ⟨_, _, rfl, hw137, ?_⟩
             refine q_r 7 0 [] [[o0, (a1 4)], [(an 4 4), (an 4 2), o0]] [Qb (w2.heap.size + 1), Qb (w2.heap.size + 1), Qb (w2.heap.size + 1), Qb (w2.heap.size + 1), Qb (w2.heap.size + 1), Qb (z + 1), Qb (z + 1), Qb (z + 1), Qb (z + 1)] [(qzm6_63 z), (3, i6 0)] ⟨w, n108, [(old0 w), (qzm6_28 z c), (bk (z + 1) #[i6 (c.Kernel * 16), .slice aP2 psG.length cP2, .slice aC csG.length cC, i6 (tAt c p)] 79), (qzm6_23 w2 c k), (bk (w2.heap.size + 1) #[i6 (c.Kernel * 16), .slice aP2 psG.length cP2, .slice aC csG.length cC, i6 (tAt c p)] 79), (qzm6_38 z aP2 psG cP2), (qzm6_40 z csG), (qzm6_39 z aC csG cC), (qzm6_25 n24 c p), (qzm6_35 z psG p)]⟩ rfl ⟨rfl, rfl, rfl, rfl, rfl, rfl, rfl, rfl, rfl, trivial⟩ ?_
             refine e_ret [.at 2, .at 2, .at 2, .at 2] [Qb (z + 1), Qb (z + 1), Qb (z + 1), Qb (z + 1)] (.tuple #[.agg #[i6 (c.Kernel * 16), .slice aP2 psG.length cP2, .slice aC csG.length cC, i6 (tAt c p)], i6 0]) ⟨rfl, rfl, rfl, rfl, trivial⟩ ?_
             intro w138 hw138
             have hL : IsLay c ⟨c.Kernel * 16, ⟨aP2, cP2, psG⟩, ⟨aC, cC, csG⟩, tAt c p⟩ := ⟨rfl, by rw [show p = c.Partitions.xs.length by omega], hpl, fun q hq => hp2 q (by omega), by simp only; omega, fun q hq => hcs q (by omega)⟩
             have hO : LayOwn z w138 ⟨c.Kernel * 16, ⟨aP2, cP2, psG⟩, ⟨aC, cC, csG⟩, tAt c p⟩ := ⟨w, by
               have h4 := hw138.pick [5, 7, 6, 9] rfl rfl
               rw [hw138.size]
               unfold layS
               (try dsimp only [qzm6_0, qzm6_1, qzm6_2, qzm6_3, qzm6_4, qzm6_5, qzm6_6, qzm6_7, qzm6_8, qzm6_9, qzm6_10, qzm6_11, qzm6_12, qzm6_13, qzm6_14, qzm6_15, qzm6_16, qzm6_17, qzm6_18, qzm6_19, qzm6_20, qzm6_21, qzm6_22, qzm6_23, qzm6_24, qzm6_25, qzm6_26, qzm6_27, qzm6_28, qzm6_29, qzm6_30, qzm6_31, qzm6_32, qzm6_33, qzm6_34, qzm6_35, qzm6_36, qzm6_37, qzm6_38, qzm6_39, qzm6_40, qzm6_41, qzm6_42, qzm6_43, qzm6_44, qzm6_45, qzm6_46, qzm6_47, qzm6_48, qzm6_49, qzm6_50, qzm6_51, qzm6_52, qzm6_53, qzm6_54, qzm6_55, qzm6_56, qzm6_57, qzm6_58, qzm6_59, qzm6_60, qzm6_61, qzm6_62, qzm6_63, qzm6_64, qzm6_65, qzm6_66, qzm6_67, qzm6_68, qzm6_69, qzm6_70, qzm6_71, qzm6_72] at h4)
               rw [List.take_of_length_le (by omega)] at h4
               exact h4⟩
             exact ⟨_, rfl, hL, hz ▸ lay_ok hfine hL hO, hz ▸ hO, back0 hw138⟩

end Go.Proofs.YtnjhekfgmbpmlaaDoor.Ly
