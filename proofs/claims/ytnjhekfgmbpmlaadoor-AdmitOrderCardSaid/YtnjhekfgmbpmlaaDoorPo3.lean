/- Packed: Af, Ag, La, Lb, Lc. No conditions. -/
import Derived.Test.YtnjhekfgmbpmlaaDoorPo2
namespace Go.Proofs.YtnjhekfgmbpmlaaDoor.Ad
open Go Go.Proofs.YtnjhekfgmbpmlaaDoor.Eng Go.Proofs.YtnjhekfgmbpmlaaDoor.Mem Go.Proofs.YtnjhekfgmbpmlaaDoor.Ly
set_option linter.unusedSimpArgs false
set_option linter.unusedVariables false
set_option maxRecDepth 100000
abbrev chaC (c : TConfig) (h : Nat) : TChannel := gd c.Channels.xs h
def depB (x : TChannel) : Bool := if x.Kind = 2 then win x.Depth 1 8 else decide (x.Depth = 0)
def mostI (x : TChannel) : Int := if x.Kind = 2 then 1 else 4
def chanQ (c : TConfig) (h : Nat) : Tfound := fstW [unl (win (chaC c h).Kind 1 2 && win (chaC c h).Words 1 16 && depB (chaC c h)) 415 ⟨(h : Int), -1⟩, unl (decide ((srcC c h : Nat) = (1 : Int))) 416 ⟨(h : Int), -1⟩, unl (win (dstC c h : Nat) 1 (mostI (chaC c h))) 417 ⟨(h : Int), -1⟩]
abbrev qt5j_0 (w162 : World) (y8 : TChannel) (h : Nat) (c : TConfig) : Ch := .blk w162.heap.size (.cells #[i6 ((unl (depB y8) 415 ⟨(h : Int), -1⟩).e), i6 ((unl (depB y8) 415 ⟨(h : Int), -1⟩).where_.First), i6 ((unl (depB y8) 415 ⟨(h : Int), -1⟩).where_.Second), i6 ((unl false 416 ⟨(h : Int), -1⟩).e), i6 ((unl false 416 ⟨(h : Int), -1⟩).where_.First), i6 ((unl false 416 ⟨(h : Int), -1⟩).where_.Second), i6 ((unl (win ((dstC c (h : Int) : Nat) : Int) 1 (mostI y8)) 417 ⟨(h : Int), -1⟩).e), i6 ((unl (win ((dstC c (h : Int) : Nat) : Int) 1 (mostI y8)) 417 ⟨(h : Int), -1⟩).where_.First), i6 ((unl (win ((dstC c (h : Int) : Nat) : Int) 1 (mostI y8)) 417 ⟨(h : Int), -1⟩).where_.Second)] 73 (0, 0)) true
abbrev qt5j_1 (w52 : World) (y8 : TChannel) (h : Nat) (c : TConfig) : Ch := .blk w52.heap.size (.cells #[i6 ((unl (depB y8) 415 ⟨(h : Int), -1⟩).e), i6 ((unl (depB y8) 415 ⟨(h : Int), -1⟩).where_.First), i6 ((unl (depB y8) 415 ⟨(h : Int), -1⟩).where_.Second), i6 ((unl false 416 ⟨(h : Int), -1⟩).e), i6 ((unl false 416 ⟨(h : Int), -1⟩).where_.First), i6 ((unl false 416 ⟨(h : Int), -1⟩).where_.Second), i6 ((unl (win ((dstC c (h : Int) : Nat) : Int) 1 (mostI y8)) 417 ⟨(h : Int), -1⟩).e), i6 ((unl (win ((dstC c (h : Int) : Nat) : Int) 1 (mostI y8)) 417 ⟨(h : Int), -1⟩).where_.First), i6 ((unl (win ((dstC c (h : Int) : Nat) : Int) 1 (mostI y8)) 417 ⟨(h : Int), -1⟩).where_.Second)] 73 (0, 0)) true
abbrev qt5j_2 (w149 : World) (y8 : TChannel) (h : Nat) (c : TConfig) : Ch := .blk w149.heap.size (.cells #[i6 ((unl (depB y8) 415 ⟨(h : Int), -1⟩).e), i6 ((unl (depB y8) 415 ⟨(h : Int), -1⟩).where_.First), i6 ((unl (depB y8) 415 ⟨(h : Int), -1⟩).where_.Second), i6 ((unl true 416 ⟨(h : Int), -1⟩).e), i6 ((unl true 416 ⟨(h : Int), -1⟩).where_.First), i6 ((unl true 416 ⟨(h : Int), -1⟩).where_.Second), i6 ((unl (win ((dstC c (h : Int) : Nat) : Int) 1 (mostI y8)) 417 ⟨(h : Int), -1⟩).e), i6 ((unl (win ((dstC c (h : Int) : Nat) : Int) 1 (mostI y8)) 417 ⟨(h : Int), -1⟩).where_.First), i6 ((unl (win ((dstC c (h : Int) : Nat) : Int) 1 (mostI y8)) 417 ⟨(h : Int), -1⟩).where_.Second)] 73 (0, 0)) true
abbrev qt5j_3 (w39 : World) (y8 : TChannel) (h : Nat) (c : TConfig) : Ch := .blk w39.heap.size (.cells #[i6 ((unl (depB y8) 415 ⟨(h : Int), -1⟩).e), i6 ((unl (depB y8) 415 ⟨(h : Int), -1⟩).where_.First), i6 ((unl (depB y8) 415 ⟨(h : Int), -1⟩).where_.Second), i6 ((unl true 416 ⟨(h : Int), -1⟩).e), i6 ((unl true 416 ⟨(h : Int), -1⟩).where_.First), i6 ((unl true 416 ⟨(h : Int), -1⟩).where_.Second), i6 ((unl (win ((dstC c (h : Int) : Nat) : Int) 1 (mostI y8)) 417 ⟨(h : Int), -1⟩).e), i6 ((unl (win ((dstC c (h : Int) : Nat) : Int) 1 (mostI y8)) 417 ⟨(h : Int), -1⟩).where_.First), i6 ((unl (win ((dstC c (h : Int) : Nat) : Int) 1 (mostI y8)) 417 ⟨(h : Int), -1⟩).where_.Second)] 73 (0, 0)) true
abbrev qt5j_4 (w116 : World) (h : Nat) (c : TConfig) (y8 : TChannel) : Ch := .blk w116.heap.size (.cells #[i6 ((unl false 415 ⟨(h : Int), -1⟩).e), i6 ((unl false 415 ⟨(h : Int), -1⟩).where_.First), i6 ((unl false 415 ⟨(h : Int), -1⟩).where_.Second), i6 ((unl false 416 ⟨(h : Int), -1⟩).e), i6 ((unl false 416 ⟨(h : Int), -1⟩).where_.First), i6 ((unl false 416 ⟨(h : Int), -1⟩).where_.Second), i6 ((unl (win ((dstC c (h : Int) : Nat) : Int) 1 (mostI y8)) 417 ⟨(h : Int), -1⟩).e), i6 ((unl (win ((dstC c (h : Int) : Nat) : Int) 1 (mostI y8)) 417 ⟨(h : Int), -1⟩).where_.First), i6 ((unl (win ((dstC c (h : Int) : Nat) : Int) 1 (mostI y8)) 417 ⟨(h : Int), -1⟩).where_.Second)] 73 (0, 0)) true
abbrev qt5j_5 (w194 : World) (h : Nat) (c : TConfig) (y8 : TChannel) : Ch := .blk w194.heap.size (.cells #[i6 ((unl false 415 ⟨(h : Int), -1⟩).e), i6 ((unl false 415 ⟨(h : Int), -1⟩).where_.First), i6 ((unl false 415 ⟨(h : Int), -1⟩).where_.Second), i6 ((unl false 416 ⟨(h : Int), -1⟩).e), i6 ((unl false 416 ⟨(h : Int), -1⟩).where_.First), i6 ((unl false 416 ⟨(h : Int), -1⟩).where_.Second), i6 ((unl (win ((dstC c (h : Int) : Nat) : Int) 1 (mostI y8)) 417 ⟨(h : Int), -1⟩).e), i6 ((unl (win ((dstC c (h : Int) : Nat) : Int) 1 (mostI y8)) 417 ⟨(h : Int), -1⟩).where_.First), i6 ((unl (win ((dstC c (h : Int) : Nat) : Int) 1 (mostI y8)) 417 ⟨(h : Int), -1⟩).where_.Second)] 73 (0, 0)) true
abbrev qt5j_6 (w226 : World) (h : Nat) (c : TConfig) (y8 : TChannel) : Ch := .blk w226.heap.size (.cells #[i6 ((unl false 415 ⟨(h : Int), -1⟩).e), i6 ((unl false 415 ⟨(h : Int), -1⟩).where_.First), i6 ((unl false 415 ⟨(h : Int), -1⟩).where_.Second), i6 ((unl false 416 ⟨(h : Int), -1⟩).e), i6 ((unl false 416 ⟨(h : Int), -1⟩).where_.First), i6 ((unl false 416 ⟨(h : Int), -1⟩).where_.Second), i6 ((unl (win ((dstC c (h : Int) : Nat) : Int) 1 (mostI y8)) 417 ⟨(h : Int), -1⟩).e), i6 ((unl (win ((dstC c (h : Int) : Nat) : Int) 1 (mostI y8)) 417 ⟨(h : Int), -1⟩).where_.First), i6 ((unl (win ((dstC c (h : Int) : Nat) : Int) 1 (mostI y8)) 417 ⟨(h : Int), -1⟩).where_.Second)] 73 (0, 0)) true
abbrev qt5j_7 (w84 : World) (h : Nat) (c : TConfig) (y8 : TChannel) : Ch := .blk w84.heap.size (.cells #[i6 ((unl false 415 ⟨(h : Int), -1⟩).e), i6 ((unl false 415 ⟨(h : Int), -1⟩).where_.First), i6 ((unl false 415 ⟨(h : Int), -1⟩).where_.Second), i6 ((unl false 416 ⟨(h : Int), -1⟩).e), i6 ((unl false 416 ⟨(h : Int), -1⟩).where_.First), i6 ((unl false 416 ⟨(h : Int), -1⟩).where_.Second), i6 ((unl (win ((dstC c (h : Int) : Nat) : Int) 1 (mostI y8)) 417 ⟨(h : Int), -1⟩).e), i6 ((unl (win ((dstC c (h : Int) : Nat) : Int) 1 (mostI y8)) 417 ⟨(h : Int), -1⟩).where_.First), i6 ((unl (win ((dstC c (h : Int) : Nat) : Int) 1 (mostI y8)) 417 ⟨(h : Int), -1⟩).where_.Second)] 73 (0, 0)) true
abbrev qt5j_8 (w103 : World) (h : Nat) (c : TConfig) (y8 : TChannel) : Ch := .blk w103.heap.size (.cells #[i6 ((unl false 415 ⟨(h : Int), -1⟩).e), i6 ((unl false 415 ⟨(h : Int), -1⟩).where_.First), i6 ((unl false 415 ⟨(h : Int), -1⟩).where_.Second), i6 ((unl true 416 ⟨(h : Int), -1⟩).e), i6 ((unl true 416 ⟨(h : Int), -1⟩).where_.First), i6 ((unl true 416 ⟨(h : Int), -1⟩).where_.Second), i6 ((unl (win ((dstC c (h : Int) : Nat) : Int) 1 (mostI y8)) 417 ⟨(h : Int), -1⟩).e), i6 ((unl (win ((dstC c (h : Int) : Nat) : Int) 1 (mostI y8)) 417 ⟨(h : Int), -1⟩).where_.First), i6 ((unl (win ((dstC c (h : Int) : Nat) : Int) 1 (mostI y8)) 417 ⟨(h : Int), -1⟩).where_.Second)] 73 (0, 0)) true
abbrev qt5j_9 (w181 : World) (h : Nat) (c : TConfig) (y8 : TChannel) : Ch := .blk w181.heap.size (.cells #[i6 ((unl false 415 ⟨(h : Int), -1⟩).e), i6 ((unl false 415 ⟨(h : Int), -1⟩).where_.First), i6 ((unl false 415 ⟨(h : Int), -1⟩).where_.Second), i6 ((unl true 416 ⟨(h : Int), -1⟩).e), i6 ((unl true 416 ⟨(h : Int), -1⟩).where_.First), i6 ((unl true 416 ⟨(h : Int), -1⟩).where_.Second), i6 ((unl (win ((dstC c (h : Int) : Nat) : Int) 1 (mostI y8)) 417 ⟨(h : Int), -1⟩).e), i6 ((unl (win ((dstC c (h : Int) : Nat) : Int) 1 (mostI y8)) 417 ⟨(h : Int), -1⟩).where_.First), i6 ((unl (win ((dstC c (h : Int) : Nat) : Int) 1 (mostI y8)) 417 ⟨(h : Int), -1⟩).where_.Second)] 73 (0, 0)) true
abbrev qt5j_10 (w213 : World) (h : Nat) (c : TConfig) (y8 : TChannel) : Ch := .blk w213.heap.size (.cells #[i6 ((unl false 415 ⟨(h : Int), -1⟩).e), i6 ((unl false 415 ⟨(h : Int), -1⟩).where_.First), i6 ((unl false 415 ⟨(h : Int), -1⟩).where_.Second), i6 ((unl true 416 ⟨(h : Int), -1⟩).e), i6 ((unl true 416 ⟨(h : Int), -1⟩).where_.First), i6 ((unl true 416 ⟨(h : Int), -1⟩).where_.Second), i6 ((unl (win ((dstC c (h : Int) : Nat) : Int) 1 (mostI y8)) 417 ⟨(h : Int), -1⟩).e), i6 ((unl (win ((dstC c (h : Int) : Nat) : Int) 1 (mostI y8)) 417 ⟨(h : Int), -1⟩).where_.First), i6 ((unl (win ((dstC c (h : Int) : Nat) : Int) 1 (mostI y8)) 417 ⟨(h : Int), -1⟩).where_.Second)] 73 (0, 0)) true
abbrev qt5j_11 (w71 : World) (h : Nat) (c : TConfig) (y8 : TChannel) : Ch := .blk w71.heap.size (.cells #[i6 ((unl false 415 ⟨(h : Int), -1⟩).e), i6 ((unl false 415 ⟨(h : Int), -1⟩).where_.First), i6 ((unl false 415 ⟨(h : Int), -1⟩).where_.Second), i6 ((unl true 416 ⟨(h : Int), -1⟩).e), i6 ((unl true 416 ⟨(h : Int), -1⟩).where_.First), i6 ((unl true 416 ⟨(h : Int), -1⟩).where_.Second), i6 ((unl (win ((dstC c (h : Int) : Nat) : Int) 1 (mostI y8)) 417 ⟨(h : Int), -1⟩).e), i6 ((unl (win ((dstC c (h : Int) : Nat) : Int) 1 (mostI y8)) 417 ⟨(h : Int), -1⟩).where_.First), i6 ((unl (win ((dstC c (h : Int) : Nat) : Int) 1 (mostI y8)) 417 ⟨(h : Int), -1⟩).where_.Second)] 73 (0, 0)) true
abbrev qt5j_12 (z : Nat) (y8 : TChannel) (h : Nat) (c : TConfig) : Ch := .blk (z + 1) (.cells (Tfound.arr (fstW [(unl (depB y8) 415 ⟨(h : Int), -1⟩), (unl false 416 ⟨(h : Int), -1⟩), (unl (win ((dstC c (h : Int) : Nat) : Int) 1 (mostI y8)) 417 ⟨(h : Int), -1⟩)])) 73 (0, 0)) true
abbrev qt5j_13 (z : Nat) (y8 : TChannel) (h : Nat) (c : TConfig) : Ch := .blk (z + 1) (.cells (Tfound.arr (fstW [(unl (depB y8) 415 ⟨(h : Int), -1⟩), (unl true 416 ⟨(h : Int), -1⟩), (unl (win ((dstC c (h : Int) : Nat) : Int) 1 (mostI y8)) 417 ⟨(h : Int), -1⟩)])) 73 (0, 0)) true
abbrev qt5j_14 (z : Nat) (h : Nat) (c : TConfig) (y8 : TChannel) : Ch := .blk (z + 1) (.cells (Tfound.arr (fstW [(unl false 415 ⟨(h : Int), -1⟩), (unl false 416 ⟨(h : Int), -1⟩), (unl (win ((dstC c (h : Int) : Nat) : Int) 1 (mostI y8)) 417 ⟨(h : Int), -1⟩)])) 73 (0, 0)) true
abbrev qt5j_15 (z : Nat) (h : Nat) (c : TConfig) (y8 : TChannel) : Ch := .blk (z + 1) (.cells (Tfound.arr (fstW [(unl false 415 ⟨(h : Int), -1⟩), (unl true 416 ⟨(h : Int), -1⟩), (unl (win ((dstC c (h : Int) : Nat) : Int) 1 (mostI y8)) 417 ⟨(h : Int), -1⟩)])) 73 (0, 0)) true
abbrev qt5j_16 (z : Nat) : Ch := bk (z + 1) #[i6 0, i6 0, i6 0] 73
abbrev qt5j_17 (z : Nat) (y8 : TChannel) : Ch := bk (z + 2) (TChannel.arr y8) 55
abbrev qt5j_18 (z : Nat) (c : TConfig) : Ch := bk z (TConfig.arr c) 26
abbrev qt5j_19 (c : TConfig) (h : Nat) (y8 : TChannel) : Nat × Value := (51, .bool (win ((dstC c (h : Int) : Nat) : Int) 1 (mostI y8)))
abbrev qt5j_20 (y8 : TChannel) (h : Nat) : Nat × Value := (43, .agg (Tfound.arr (unl (depB y8) 415 ⟨(h : Int), -1⟩)))
abbrev qt5j_21 (h : Nat) : Nat × Value := (48, .agg (Tfound.arr (unl false 416 ⟨(h : Int), -1⟩)))
abbrev qt5j_22 (h : Nat) : Nat × Value := (43, .agg (Tfound.arr (unl false 415 ⟨(h : Int), -1⟩)))
abbrev qt5j_23 (h : Nat) : Nat × Value := (48, .agg (Tfound.arr (unl true 416 ⟨(h : Int), -1⟩)))
abbrev qt5j_24 (h : Nat) : Nat × Value := (42, .agg #[i6 (h : Int), i6 (-1)])
abbrev qt5j_25 (h : Nat) : Nat × Value := (47, .agg #[i6 (h : Int), i6 (-1)])
abbrev qt5j_26 (h : Nat) : Nat × Value := (53, .agg #[i6 (h : Int), i6 (-1)])
abbrev qt5j_27 (c : TConfig) (h : Nat) : Nat × Value := (49, i6 ((dstC c (h : Int) : Nat) : Int))
abbrev qt5j_28 (c : TConfig) (h : Nat) : Nat × Value := (8, i6 ((srcC c (h : Int) : Nat) : Int))
abbrev qt5j_29 (c : TConfig) (h : Nat) : Nat × Value := (9, i6 ((dstC c (h : Int) : Nat) : Int))
abbrev qt5j_30 (z : Nat) : Nat × Value := (4, pt (z + 1))
abbrev qt5j_31 (z : Nat) : Nat × Value := (5, pt (z + 2))
theorem channel_calls (w : World) (hL : LaidAt w) (c : TConfig) (hc : TConfig.ok Any w c) (h : Nat) (hh : h < c.Channels.xs.length) (hm : c.Partitions.xs.length ≤ 1024) (hq : ∀ p, p < c.Partitions.xs.length → (gd c.Partitions.xs p).Ports.xs.length ≤ 1024) : Calls Tryd.prog 50 #[.agg (TConfig.arr c), .int .i64 (h : Int)] w fun e w' => e = .returned (.agg (Tfound.arr (chanQ c h))) ∧ Keeps (fun _ => False) w w' := by
 obtain ⟨z, hz⟩ : ∃ z, z = w.heap.size := ⟨_, rfl⟩
 refine calls_G (args := [.agg (TConfig.arr c), i6 (h : Int)]) 57 ⟨w, z, [(old0 w)]⟩ Tryd.func50 rfl (by kernel_rfl) (by kernel_rfl) (sat_0 hz) ?_
 have hpl := hc.Channels.1.len
 refine g_keep [0, 1] [(0, .agg (TConfig.arr c)), (1, i6 (h : Int))] ?_
 refine q_c 5 0 [] [[o0, o0]] [] [(1, i6 (h : Int)), (2, pt z), (qt5j_30 z)] ⟨w, z + 2, [(old0 w), (qt5j_18 z c), (qt5j_16 z)]⟩ rfl trivial ?_
 obtain ⟨b1, o2, ha3, hF5, hc4⟩ := (hc.Channels).1.all (show 0 < c.Channels.xs.length by omega)
 replace ha3 : c.Channels.a = some ⟨b1, o2, none⟩ := ha3
 have hc6 := hc4 h (show h < c.Channels.xs.length by omega)
 have he7 := (hc.Channels).2 h (show h < c.Channels.xs.length by omega)
 obtain ⟨y8, hy8⟩ : ∃ y_, y_ = gd c.Channels.xs h := ⟨_, rfl⟩
 rw [← hy8] at he7 hc6
 refine q_c 4 0 [] [[o0, ⟨.auto [.at 1], some (.slice (some ⟨b1, o2, none⟩) c.Channels.xs.length c.Channels.cap)⟩, o0, (oi h), (ol 0 (TChannel.arr y8)), o0, (an 3 3)]] [Qb z, Value.slice c.Channels.a c.Channels.xs.length c.Channels.cap = Value.slice (some ⟨b1, o2, none⟩) c.Channels.xs.length c.Channels.cap, ((h : Int) : Int) = ((h : Nat) : Int), h < c.Channels.xs.length, (none : Option Nat) = none, OldR w b1 (o2 + h * 3) (TChannel.arr y8), Qb (z + 2), Qb (z + 2), Qb (z + 2)] [(1, i6 (h : Int)), (2, pt z), (qt5j_30 z), (qt5j_31 z)] ⟨w, z + 3, [(old0 w), (qt5j_18 z c), (qt5j_16 z), (qt5j_17 z y8)]⟩ rfl ⟨rfl, congrArg (fun a => Value.slice a _ _) ha3, rfl, (by omega), rfl, old_row hc6, rfl, rfl, rfl, trivial⟩ ?_
 by_cases h9 : (y8.Depth : Int) = 0
 · refine q_cS 3 0 [] [[o0, (a1 3), oT, o0, o0]] [Qb (z + 2), ET y8.Depth 0] [(1, i6 (h : Int)), (2, pt z), (qt5j_30 z), (qt5j_31 z), (6, .bool true), (7, i6 4)] rfl ⟨rfl, et (by omega), trivial⟩ ?_
   refine g_cut (fun a w' => ∃ (n10 : Nat), z + 3 ≤ n10 ∧ St 57 [(1, i6 (h : Int)), (2, pt z), (qt5j_30 z), (qt5j_31 z), (6, .bool (depB y8)), (7, i6 (mostI y8))] [] ⟨w, n10, [(old0 w), (qt5j_18 z c), (qt5j_16 z), (qt5j_17 z y8)]⟩ a w') ?_ ?_
   · refine g_seq ?_
     by_cases h12 : (y8.Kind : Int) = 2
     · refine q_cS 5 2 [1] [[o0, (a1 3), oT], [o0, (a1 3)]] [Qb (z + 2), ET y8.Kind 2, Qb (z + 2)] [(1, i6 (h : Int)), (2, pt z), (qt5j_30 z), (qt5j_31 z), (22, i6 y8.Depth)] rfl ⟨rfl, et (by omega), rfl, trivial⟩ ?_
       refine l_call [] [] 42 #[i6 y8.Depth, i6 1, i6 8] (some 23) trivial ?_
       intro w13 hw13
       refine (within_calls w13 y8.Depth 1 8).mono ?_
       rintro e w14 ⟨rfl, hkw14⟩
       have hnw14 : z + 3 ≤ w14.heap.size := size_of hw13 hkw14
       refine ⟨_, _, rfl, hw13.keeps hkw14, ?_⟩
       refine q_rS 1 0 [] [[o0, o0]] [] [(1, i6 (h : Int)), (2, pt z), (qt5j_30 z), (qt5j_31 z), (6, .bool (win y8.Depth 1 8)), (7, i6 1)] rfl trivial ?_
       have e6 : depB y8 = win y8.Depth 1 8 := (if_pos h12).trans (by first | rfl | exact decide_eq_true (by assumption) | exact decide_eq_false (by assumption))
       have e7 : mostI y8 = 1 := if_pos h12
       refine e_keep [1, 2, 4, 5, 6, 7] [(1, i6 (h : Int)), (2, pt z), (qt5j_30 z), (qt5j_31 z), (6, .bool (win y8.Depth 1 8)), (7, i6 1)] ?_
       refine e_inv (fun a w' hs => ⟨w14.heap.size, by omega, (by (try dsimp only [qt5j_0, qt5j_1, qt5j_2, qt5j_3, qt5j_4, qt5j_5, qt5j_6, qt5j_7, qt5j_8, qt5j_9, qt5j_10, qt5j_11, qt5j_12, qt5j_13, qt5j_14, qt5j_15, qt5j_16, qt5j_17, qt5j_18, qt5j_19, qt5j_20, qt5j_21, qt5j_22, qt5j_23, qt5j_24, qt5j_25, qt5j_26, qt5j_27, qt5j_28, qt5j_29, qt5j_30, qt5j_31] at hs ⊢); rw [e6, e7]; exact hs)⟩)
     · refine q_cS 5 0 [0] [[o0, (a1 3), oF]] [Qb (z + 2), EF y8.Kind 2] [(1, i6 (h : Int)), (2, pt z), (qt5j_30 z), (qt5j_31 z), (6, .bool true), (7, i6 4), (20, .bool false)] rfl ⟨rfl, ef (by omega), trivial⟩ ?_
       have e6 : depB y8 = true := (if_neg h12).trans (by first | rfl | exact decide_eq_true (by assumption) | exact decide_eq_false (by assumption))
       have e7 : mostI y8 = 4 := if_neg h12
       refine e_keep [1, 2, 4, 5, 6, 7] [(1, i6 (h : Int)), (2, pt z), (qt5j_30 z), (qt5j_31 z), (6, .bool true), (7, i6 4)] ?_
       refine e_inv (fun a w' hs => ⟨(z + 3), by omega, (by (try dsimp only [qt5j_0, qt5j_1, qt5j_2, qt5j_3, qt5j_4, qt5j_5, qt5j_6, qt5j_7, qt5j_8, qt5j_9, qt5j_10, qt5j_11, qt5j_12, qt5j_13, qt5j_14, qt5j_15, qt5j_16, qt5j_17, qt5j_18, qt5j_19, qt5j_20, qt5j_21, qt5j_22, qt5j_23, qt5j_24, qt5j_25, qt5j_26, qt5j_27, qt5j_28, qt5j_29, qt5j_30, qt5j_31] at hs ⊢); rw [e6, e7]; exact hs)⟩)
   · rintro a w' ⟨n10, hn11, hs⟩
     refine (?_ : G Tryd.prog 57 [(1, i6 (h : Int)), (2, pt z), (qt5j_30 z), (qt5j_31 z), (6, .bool (depB y8)), (7, i6 (mostI y8))] [] ⟨w, n10, [(old0 w), (qt5j_18 z c), (qt5j_16 z), (qt5j_17 z y8)]⟩ _ _ _) a w' hs
     clear hs a w'
     refine q_cS 2 2 [] [[(an 7 1), o0]] [Qb z, Qb z, Qb z, Qb z, Qb z, Qb z, Qb z] [(1, i6 (h : Int)), (qt5j_30 z), (qt5j_31 z), (6, .bool (depB y8)), (7, i6 (mostI y8)), (25, .agg (TConfig.arr c)), (26, i6 (h : Int))] rfl ⟨rfl, rfl, rfl, rfl, rfl, rfl, rfl, trivial⟩ ?_
     refine l_call [] [] 71 #[.agg (TConfig.arr c), i6 (h : Int)] (some 27) trivial ?_
     intro w15 hw15
     refine (ends_calls w15 c (hc.ext (hw15.ext rfl) (fun _ h => h)) (h : Int) hm hq).mono ?_
     rintro e w16 ⟨rfl, hkw16⟩
     have hnw16 : n10 ≤ w16.heap.size := size_of hw15 hkw16
     refine ⟨_, _, rfl, hw15.keeps hkw16, ?_⟩
     refine q_rS 4 2 [] [[o0, o0, o0, o0, o0], [o0, (a1 3)]] [Qb (z + 2)] [(1, i6 (h : Int)), (qt5j_30 z), (qt5j_31 z), (6, .bool (depB y8)), (7, i6 (mostI y8)), (qt5j_28 c h), (qt5j_29 c h), (31, i6 y8.Kind)] rfl ⟨rfl, trivial⟩ ?_
     refine l_call [] [] 42 #[i6 y8.Kind, i6 1, i6 2] (some 32) trivial ?_
     intro w17 hw17
     refine (within_calls w17 y8.Kind 1 2).mono ?_
     rintro e w18 ⟨rfl, hkw18⟩
     have hnw18 : w16.heap.size ≤ w18.heap.size := size_of hw17 hkw18
     refine ⟨_, _, rfl, hw17.keeps hkw18, ?_⟩
     refine l_keep [1, 4, 5, 6, 7, 8, 9, 32] [(1, i6 (h : Int)), (qt5j_30 z), (qt5j_31 z), (6, .bool (depB y8)), (7, i6 (mostI y8)), (qt5j_28 c h), (qt5j_29 c h), (32, .bool (win y8.Kind 1 2))] ?_
     by_cases h19 : (win y8.Kind 1 2) = true
     · have hd20 := win_yes h19
       refine q_rS 0 3 [] [[(ov (.bool true)), o0, (a1 3)]] [Value.bool (win y8.Kind 1 2) = Value.bool true, Qb (z + 2)] [(1, i6 (h : Int)), (qt5j_30 z), (6, .bool (depB y8)), (7, i6 (mostI y8)), (qt5j_28 c h), (qt5j_29 c h), (33, .bool true), (35, i6 y8.Words)] rfl ⟨(congrArg Value.bool h19), rfl, trivial⟩ ?_
       refine l_call [] [] 42 #[i6 y8.Words, i6 1, i6 16] (some 36) trivial ?_
       intro w21 hw21
       refine (within_calls w21 y8.Words 1 16).mono ?_
       rintro e w22 ⟨rfl, hkw22⟩
       have hnw22 : w18.heap.size ≤ w22.heap.size := size_of hw21 hkw22
       refine ⟨_, _, rfl, hw21.keeps hkw22, ?_⟩
       refine l_keep [1, 4, 6, 7, 8, 9, 33, 36] [(1, i6 (h : Int)), (qt5j_30 z), (6, .bool (depB y8)), (7, i6 (mostI y8)), (qt5j_28 c h), (qt5j_29 c h), (33, .bool true), (36, .bool (win y8.Words 1 16))] ?_
       by_cases h23 : (win y8.Words 1 16) = true
       · have hd24 := win_yes h23
         refine q_rS 0 5 [] [[o0, (ov (.bool true)), o0, o0, o0]] [Value.bool (win y8.Words 1 16) = Value.bool true] [(1, i6 (h : Int)), (qt5j_30 z), (7, i6 (mostI y8)), (qt5j_28 c h), (qt5j_29 c h), (40, .bool (depB y8)), (41, i6 (h : Int))] rfl ⟨(congrArg Value.bool h23), trivial⟩ ?_
         refine l_call [] [] 67 #[i6 (h : Int)] (some 42) trivial ?_
         intro w25 hw25
         refine (at_calls w25 (h : Int)).mono ?_
         rintro e w26 ⟨rfl, hkw26⟩
         have hnw26 : w22.heap.size ≤ w26.heap.size := size_of hw25 hkw26
         refine ⟨_, _, rfl, hw25.keeps hkw26, ?_⟩
         refine l_keep [1, 4, 7, 8, 9, 40, 42] [(1, i6 (h : Int)), (qt5j_30 z), (7, i6 (mostI y8)), (qt5j_28 c h), (qt5j_29 c h), (40, .bool (depB y8)), (qt5j_24 h)] ?_
         refine l_call [] [] 41 #[.bool (depB y8), i6 415, .agg #[i6 (h : Int), i6 (-1)]] (some 43) trivial ?_
         intro w27 hw27
         refine (unless_calls w27 (hL.ext (hw27.ext rfl)) (depB y8) 415 (h : Int) (-1)).mono ?_
         rintro e w28 ⟨rfl, hkw28⟩
         have hnw28 : w26.heap.size ≤ w28.heap.size := size_of hw27 hkw28
         refine ⟨_, _, rfl, hw27.keeps hkw28, ?_⟩
         refine l_keep [1, 4, 7, 8, 9, 43] [(1, i6 (h : Int)), (qt5j_30 z), (7, i6 (mostI y8)), (qt5j_28 c h), (qt5j_29 c h), (qt5j_20 y8 h)] ?_
         by_cases h29 : (((srcC c (h : Int) : Nat) : Int) : Int) = 1
         · refine q_rS 0 3 [] [[o0, oT, o0]] [ET ((srcC c (h : Int) : Nat) : Int) 1] [(1, i6 (h : Int)), (qt5j_30 z), (7, i6 (mostI y8)), (qt5j_29 c h), (qt5j_20 y8 h), (45, .bool true), (46, i6 (h : Int))] rfl ⟨et (by omega), trivial⟩ ?_
           refine l_call [] [] 67 #[i6 (h : Int)] (some 47) trivial ?_
           intro w30 hw30
           refine (at_calls w30 (h : Int)).mono ?_
           rintro e w31 ⟨rfl, hkw31⟩
           have hnw31 : w28.heap.size ≤ w31.heap.size := size_of hw30 hkw31
           refine ⟨_, _, rfl, hw30.keeps hkw31, ?_⟩
           refine l_keep [1, 4, 7, 9, 43, 45, 47] [(1, i6 (h : Int)), (qt5j_30 z), (7, i6 (mostI y8)), (qt5j_29 c h), (qt5j_20 y8 h), (45, .bool true), (qt5j_25 h)] ?_
           refine l_call [] [] 41 #[.bool true, i6 416, .agg #[i6 (h : Int), i6 (-1)]] (some 48) trivial ?_
           intro w32 hw32
           refine (unless_calls w32 (hL.ext (hw32.ext rfl)) true 416 (h : Int) (-1)).mono ?_
           rintro e w33 ⟨rfl, hkw33⟩
           have hnw33 : w31.heap.size ≤ w33.heap.size := size_of hw32 hkw33
           refine ⟨_, _, rfl, hw32.keeps hkw33, ?_⟩
           refine q_rS 0 2 [] [[o0, o0]] [] [(1, i6 (h : Int)), (qt5j_30 z), (qt5j_20 y8 h), (qt5j_23 h), (qt5j_27 c h), (50, i6 (mostI y8))] rfl trivial ?_
           refine l_call [] [] 42 #[i6 ((dstC c (h : Int) : Nat) : Int), i6 1, i6 (mostI y8)] (some 51) trivial ?_
           intro w34 hw34
           refine (within_calls w34 ((dstC c (h : Int) : Nat) : Int) 1 (mostI y8)).mono ?_
           rintro e w35 ⟨rfl, hkw35⟩
           have hnw35 : w33.heap.size ≤ w35.heap.size := size_of hw34 hkw35
           refine ⟨_, _, rfl, hw34.keeps hkw35, ?_⟩
           refine q_rS 0 1 [] [[o0]] [] [(qt5j_30 z), (qt5j_20 y8 h), (qt5j_23 h), (qt5j_19 c h y8), (52, i6 (h : Int))] rfl trivial ?_
           refine l_call [] [] 67 #[i6 (h : Int)] (some 53) trivial ?_
           intro w36 hw36
           refine (at_calls w36 (h : Int)).mono ?_
           rintro e w37 ⟨rfl, hkw37⟩
           have hnw37 : w35.heap.size ≤ w37.heap.size := size_of hw36 hkw37
           refine ⟨_, _, rfl, hw36.keeps hkw37, ?_⟩
           refine l_keep [4, 43, 48, 51, 53] [(qt5j_30 z), (qt5j_20 y8 h), (qt5j_23 h), (qt5j_19 c h y8), (qt5j_26 h)] ?_
           refine l_call [] [] 41 #[.bool (win ((dstC c (h : Int) : Nat) : Int) 1 (mostI y8)), i6 417, .agg #[i6 (h : Int), i6 (-1)]] (some 54) trivial ?_
           intro w38 hw38
           refine (unless_calls w38 (hL.ext (hw38.ext rfl)) (win ((dstC c (h : Int) : Nat) : Int) 1 (mostI y8)) 417 (h : Int) (-1)).mono ?_
           rintro e w39 ⟨rfl, hkw39⟩
           have hnw39 : w37.heap.size ≤ w39.heap.size := size_of hw38 hkw39
           refine ⟨_, _, rfl, hw38.keeps hkw39, ?_⟩
           refine q_r 0 1 [] [[o0]] [] [(qt5j_30 z), (55, .slice (some ⟨w39.heap.size, 0, none⟩) 3 3)] ⟨w, w39.heap.size + 1, [(old0 w), (qt5j_18 z c), (qt5j_16 z), (qt5j_17 z y8), (qt5j_3 w39 y8 h c)]⟩ rfl trivial ?_
           refine l_call [] [] 65 #[.slice (some ⟨w39.heap.size, 0, none⟩) 3 3] (some 56) trivial ?_
           intro w40 hw40
           refine (first_calls w40 (hL.ext (hw40.ext rfl)) ⟨some ⟨w39.heap.size, 0, none⟩, 3, [(unl (depB y8) 415 ⟨(h : Int), -1⟩), (unl true 416 ⟨(h : Int), -1⟩), (unl (win ((dstC c (h : Int) : Nat) : Int) 1 (mostI y8)) 417 ⟨(h : Int), -1⟩)]⟩ (slok_blk hw40 (i := 4) [(unl (depB y8) 415 ⟨(h : Int), -1⟩), (unl true 416 ⟨(h : Int), -1⟩), (unl (win ((dstC c (h : Int) : Nat) : Int) 1 (mostI y8)) 417 ⟨(h : Int), -1⟩)]) (show 3 ≤ 1000 by decide)).mono ?_
           rintro e w41 ⟨rfl, hkw41⟩
           have hnw41 : w39.heap.size + 1 ≤ w41.heap.size := size_of hw40 hkw41
           refine ⟨_, _, rfl, hw40.keeps hkw41, ?_⟩
           refine q_r 3 0 [] [[(an 3 2)]] [Qb (z + 1), Qb (z + 1), Qb (z + 1)] [(qt5j_30 z)] ⟨w, w41.heap.size, [(old0 w), (qt5j_18 z c), (qt5j_13 z y8 h c), (qt5j_17 z y8), (qt5j_3 w39 y8 h c)]⟩ rfl ⟨rfl, rfl, rfl, trivial⟩ ?_
           refine e_ret [.at 2, .at 2, .at 2] [Qb (z + 1), Qb (z + 1), Qb (z + 1)] (.agg #[i6 ((fstW [(unl (depB y8) 415 ⟨(h : Int), -1⟩), (unl true 416 ⟨(h : Int), -1⟩), (unl (win ((dstC c (h : Int) : Nat) : Int) 1 (mostI y8)) 417 ⟨(h : Int), -1⟩)]).e), i6 ((fstW [(unl (depB y8) 415 ⟨(h : Int), -1⟩), (unl true 416 ⟨(h : Int), -1⟩), (unl (win ((dstC c (h : Int) : Nat) : Int) 1 (mostI y8)) 417 ⟨(h : Int), -1⟩)]).where_.First), i6 ((fstW [(unl (depB y8) 415 ⟨(h : Int), -1⟩), (unl true 416 ⟨(h : Int), -1⟩), (unl (win ((dstC c (h : Int) : Nat) : Int) 1 (mostI y8)) 417 ⟨(h : Int), -1⟩)]).where_.Second)]) ⟨rfl, rfl, rfl, trivial⟩ ?_
           intro w42 hw42
           have e0 : chaC c h = y8 := hy8.symm
           have eC : chanQ c h = (fstW [(unl (depB y8) 415 ⟨(h : Int), -1⟩), (unl true 416 ⟨(h : Int), -1⟩), (unl (win ((dstC c (h : Int) : Nat) : Int) 1 (mostI y8)) 417 ⟨(h : Int), -1⟩)]) := by unfold chanQ; simp only [e0]; simp [h19, h23, h29]
           exact ⟨congrArg (fun t => Ending.returned (Value.agg (Tfound.arr t))) eC.symm, back0 hw42⟩
         · refine q_rS 0 3 [] [[o0, oF, o0]] [EF ((srcC c (h : Int) : Nat) : Int) 1] [(1, i6 (h : Int)), (qt5j_30 z), (7, i6 (mostI y8)), (qt5j_29 c h), (qt5j_20 y8 h), (45, .bool false), (46, i6 (h : Int))] rfl ⟨ef (by omega), trivial⟩ ?_
           refine l_call [] [] 67 #[i6 (h : Int)] (some 47) trivial ?_
           intro w43 hw43
           refine (at_calls w43 (h : Int)).mono ?_
           rintro e w44 ⟨rfl, hkw44⟩
           have hnw44 : w28.heap.size ≤ w44.heap.size := size_of hw43 hkw44
           refine ⟨_, _, rfl, hw43.keeps hkw44, ?_⟩
           refine l_keep [1, 4, 7, 9, 43, 45, 47] [(1, i6 (h : Int)), (qt5j_30 z), (7, i6 (mostI y8)), (qt5j_29 c h), (qt5j_20 y8 h), (45, .bool false), (qt5j_25 h)] ?_
           refine l_call [] [] 41 #[.bool false, i6 416, .agg #[i6 (h : Int), i6 (-1)]] (some 48) trivial ?_
           intro w45 hw45
           refine (unless_calls w45 (hL.ext (hw45.ext rfl)) false 416 (h : Int) (-1)).mono ?_
           rintro e w46 ⟨rfl, hkw46⟩
           have hnw46 : w44.heap.size ≤ w46.heap.size := size_of hw45 hkw46
           refine ⟨_, _, rfl, hw45.keeps hkw46, ?_⟩
           refine q_rS 0 2 [] [[o0, o0]] [] [(1, i6 (h : Int)), (qt5j_30 z), (qt5j_20 y8 h), (qt5j_21 h), (qt5j_27 c h), (50, i6 (mostI y8))] rfl trivial ?_
           refine l_call [] [] 42 #[i6 ((dstC c (h : Int) : Nat) : Int), i6 1, i6 (mostI y8)] (some 51) trivial ?_
           intro w47 hw47
           refine (within_calls w47 ((dstC c (h : Int) : Nat) : Int) 1 (mostI y8)).mono ?_
           rintro e w48 ⟨rfl, hkw48⟩
           have hnw48 : w46.heap.size ≤ w48.heap.size := size_of hw47 hkw48
           refine ⟨_, _, rfl, hw47.keeps hkw48, ?_⟩
           refine q_rS 0 1 [] [[o0]] [] [(qt5j_30 z), (qt5j_20 y8 h), (qt5j_21 h), (qt5j_19 c h y8), (52, i6 (h : Int))] rfl trivial ?_
           refine l_call [] [] 67 #[i6 (h : Int)] (some 53) trivial ?_
           intro w49 hw49
           refine (at_calls w49 (h : Int)).mono ?_
           rintro e w50 ⟨rfl, hkw50⟩
           have hnw50 : w48.heap.size ≤ w50.heap.size := size_of hw49 hkw50
           refine ⟨_, _, rfl, hw49.keeps hkw50, ?_⟩
           refine l_keep [4, 43, 48, 51, 53] [(qt5j_30 z), (qt5j_20 y8 h), (qt5j_21 h), (qt5j_19 c h y8), (qt5j_26 h)] ?_
           refine l_call [] [] 41 #[.bool (win ((dstC c (h : Int) : Nat) : Int) 1 (mostI y8)), i6 417, .agg #[i6 (h : Int), i6 (-1)]] (some 54) trivial ?_
           intro w51 hw51
           refine (unless_calls w51 (hL.ext (hw51.ext rfl)) (win ((dstC c (h : Int) : Nat) : Int) 1 (mostI y8)) 417 (h : Int) (-1)).mono ?_
           rintro e w52 ⟨rfl, hkw52⟩
           have hnw52 : w50.heap.size ≤ w52.heap.size := size_of hw51 hkw52
           refine ⟨_, _, rfl, hw51.keeps hkw52, ?_⟩
           refine q_r 0 1 [] [[o0]] [] [(qt5j_30 z), (55, .slice (some ⟨w52.heap.size, 0, none⟩) 3 3)] ⟨w, w52.heap.size + 1, [(old0 w), (qt5j_18 z c), (qt5j_16 z), (qt5j_17 z y8), (qt5j_1 w52 y8 h c)]⟩ rfl trivial ?_
           refine l_call [] [] 65 #[.slice (some ⟨w52.heap.size, 0, none⟩) 3 3] (some 56) trivial ?_
           intro w53 hw53
           refine (first_calls w53 (hL.ext (hw53.ext rfl)) ⟨some ⟨w52.heap.size, 0, none⟩, 3, [(unl (depB y8) 415 ⟨(h : Int), -1⟩), (unl false 416 ⟨(h : Int), -1⟩), (unl (win ((dstC c (h : Int) : Nat) : Int) 1 (mostI y8)) 417 ⟨(h : Int), -1⟩)]⟩ (slok_blk hw53 (i := 4) [(unl (depB y8) 415 ⟨(h : Int), -1⟩), (unl false 416 ⟨(h : Int), -1⟩), (unl (win ((dstC c (h : Int) : Nat) : Int) 1 (mostI y8)) 417 ⟨(h : Int), -1⟩)]) (show 3 ≤ 1000 by decide)).mono ?_
           rintro e w54 ⟨rfl, hkw54⟩
           have hnw54 : w52.heap.size + 1 ≤ w54.heap.size := size_of hw53 hkw54
           refine ⟨_, _, rfl, hw53.keeps hkw54, ?_⟩
           refine q_r 3 0 [] [[(an 3 2)]] [Qb (z + 1), Qb (z + 1), Qb (z + 1)] [(qt5j_30 z)] ⟨w, w54.heap.size, [(old0 w), (qt5j_18 z c), (qt5j_12 z y8 h c), (qt5j_17 z y8), (qt5j_1 w52 y8 h c)]⟩ rfl ⟨rfl, rfl, rfl, trivial⟩ ?_
           refine e_ret [.at 2, .at 2, .at 2] [Qb (z + 1), Qb (z + 1), Qb (z + 1)] (.agg #[i6 ((fstW [(unl (depB y8) 415 ⟨(h : Int), -1⟩), (unl false 416 ⟨(h : Int), -1⟩), (unl (win ((dstC c (h : Int) : Nat) : Int) 1 (mostI y8)) 417 ⟨(h : Int), -1⟩)]).e), i6 ((fstW [(unl (depB y8) 415 ⟨(h : Int), -1⟩), (unl false 416 ⟨(h : Int), -1⟩), (unl (win ((dstC c (h : Int) : Nat) : Int) 1 (mostI y8)) 417 ⟨(h : Int), -1⟩)]).where_.First), i6 ((fstW [(unl (depB y8) 415 ⟨(h : Int), -1⟩), (unl false 416 ⟨(h : Int), -1⟩), (unl (win ((dstC c (h : Int) : Nat) : Int) 1 (mostI y8)) 417 ⟨(h : Int), -1⟩)]).where_.Second)]) ⟨rfl, rfl, rfl, trivial⟩ ?_
           intro w55 hw55
           have e0 : chaC c h = y8 := hy8.symm
           have eC : chanQ c h = (fstW [(unl (depB y8) 415 ⟨(h : Int), -1⟩), (unl false 416 ⟨(h : Int), -1⟩), (unl (win ((dstC c (h : Int) : Nat) : Int) 1 (mostI y8)) 417 ⟨(h : Int), -1⟩)]) := by unfold chanQ; simp only [e0]; simp [h19, h23, h29]
           exact ⟨congrArg (fun t => Ending.returned (Value.agg (Tfound.arr t))) eC.symm, back0 hw55⟩
       · have hd56 := win_no h23
         refine q_rS 0 5 [] [[o0, (ov (.bool false)), o0, o0]] [Value.bool (win y8.Words 1 16) = Value.bool false] [(1, i6 (h : Int)), (qt5j_30 z), (7, i6 (mostI y8)), (qt5j_28 c h), (qt5j_29 c h), (40, .bool false), (41, i6 (h : Int))] rfl ⟨(congrArg Value.bool (Bool.eq_false_iff.2 h23)), trivial⟩ ?_
         refine l_call [] [] 67 #[i6 (h : Int)] (some 42) trivial ?_
         intro w57 hw57
         refine (at_calls w57 (h : Int)).mono ?_
         rintro e w58 ⟨rfl, hkw58⟩
         have hnw58 : w22.heap.size ≤ w58.heap.size := size_of hw57 hkw58
         refine ⟨_, _, rfl, hw57.keeps hkw58, ?_⟩
         refine l_keep [1, 4, 7, 8, 9, 40, 42] [(1, i6 (h : Int)), (qt5j_30 z), (7, i6 (mostI y8)), (qt5j_28 c h), (qt5j_29 c h), (40, .bool false), (qt5j_24 h)] ?_
         refine l_call [] [] 41 #[.bool false, i6 415, .agg #[i6 (h : Int), i6 (-1)]] (some 43) trivial ?_
         intro w59 hw59
         refine (unless_calls w59 (hL.ext (hw59.ext rfl)) false 415 (h : Int) (-1)).mono ?_
         rintro e w60 ⟨rfl, hkw60⟩
         have hnw60 : w58.heap.size ≤ w60.heap.size := size_of hw59 hkw60
         refine ⟨_, _, rfl, hw59.keeps hkw60, ?_⟩
         refine l_keep [1, 4, 7, 8, 9, 43] [(1, i6 (h : Int)), (qt5j_30 z), (7, i6 (mostI y8)), (qt5j_28 c h), (qt5j_29 c h), (qt5j_22 h)] ?_
         by_cases h61 : (((srcC c (h : Int) : Nat) : Int) : Int) = 1
         · refine q_rS 0 3 [] [[o0, oT, o0]] [ET ((srcC c (h : Int) : Nat) : Int) 1] [(1, i6 (h : Int)), (qt5j_30 z), (7, i6 (mostI y8)), (qt5j_29 c h), (qt5j_22 h), (45, .bool true), (46, i6 (h : Int))] rfl ⟨et (by omega), trivial⟩ ?_
           refine l_call [] [] 67 #[i6 (h : Int)] (some 47) trivial ?_
           intro w62 hw62
           refine (at_calls w62 (h : Int)).mono ?_
           rintro e w63 ⟨rfl, hkw63⟩
           have hnw63 : w60.heap.size ≤ w63.heap.size := size_of hw62 hkw63
           refine ⟨_, _, rfl, hw62.keeps hkw63, ?_⟩
           refine l_keep [1, 4, 7, 9, 43, 45, 47] [(1, i6 (h : Int)), (qt5j_30 z), (7, i6 (mostI y8)), (qt5j_29 c h), (qt5j_22 h), (45, .bool true), (qt5j_25 h)] ?_
           refine l_call [] [] 41 #[.bool true, i6 416, .agg #[i6 (h : Int), i6 (-1)]] (some 48) trivial ?_
           intro w64 hw64
           refine (unless_calls w64 (hL.ext (hw64.ext rfl)) true 416 (h : Int) (-1)).mono ?_
           rintro e w65 ⟨rfl, hkw65⟩
           have hnw65 : w63.heap.size ≤ w65.heap.size := size_of hw64 hkw65
           refine ⟨_, _, rfl, hw64.keeps hkw65, ?_⟩
           refine q_rS 0 2 [] [[o0, o0]] [] [(1, i6 (h : Int)), (qt5j_30 z), (qt5j_22 h), (qt5j_23 h), (qt5j_27 c h), (50, i6 (mostI y8))] rfl trivial ?_
           refine l_call [] [] 42 #[i6 ((dstC c (h : Int) : Nat) : Int), i6 1, i6 (mostI y8)] (some 51) trivial ?_
           intro w66 hw66
           refine (within_calls w66 ((dstC c (h : Int) : Nat) : Int) 1 (mostI y8)).mono ?_
           rintro e w67 ⟨rfl, hkw67⟩
           have hnw67 : w65.heap.size ≤ w67.heap.size := size_of hw66 hkw67
           refine ⟨_, _, rfl, hw66.keeps hkw67, ?_⟩
           refine q_rS 0 1 [] [[o0]] [] [(qt5j_30 z), (qt5j_22 h), (qt5j_23 h), (qt5j_19 c h y8), (52, i6 (h : Int))] rfl trivial ?_
           refine l_call [] [] 67 #[i6 (h : Int)] (some 53) trivial ?_
           intro w68 hw68
           refine (at_calls w68 (h : Int)).mono ?_
           rintro e w69 ⟨rfl, hkw69⟩
           have hnw69 : w67.heap.size ≤ w69.heap.size := size_of hw68 hkw69
           refine ⟨_, _, rfl, hw68.keeps hkw69, ?_⟩
           refine l_keep [4, 43, 48, 51, 53] [(qt5j_30 z), (qt5j_22 h), (qt5j_23 h), (qt5j_19 c h y8), (qt5j_26 h)] ?_
           refine l_call [] [] 41 #[.bool (win ((dstC c (h : Int) : Nat) : Int) 1 (mostI y8)), i6 417, .agg #[i6 (h : Int), i6 (-1)]] (some 54) trivial ?_
           intro w70 hw70
           refine (unless_calls w70 (hL.ext (hw70.ext rfl)) (win ((dstC c (h : Int) : Nat) : Int) 1 (mostI y8)) 417 (h : Int) (-1)).mono ?_
           rintro e w71 ⟨rfl, hkw71⟩
           have hnw71 : w69.heap.size ≤ w71.heap.size := size_of hw70 hkw71
           refine ⟨_, _, rfl, hw70.keeps hkw71, ?_⟩
           refine q_r 0 1 [] [[o0]] [] [(qt5j_30 z), (55, .slice (some ⟨w71.heap.size, 0, none⟩) 3 3)] ⟨w, w71.heap.size + 1, [(old0 w), (qt5j_18 z c), (qt5j_16 z), (qt5j_17 z y8), (qt5j_11 w71 h c y8)]⟩ rfl trivial ?_
           refine l_call [] [] 65 #[.slice (some ⟨w71.heap.size, 0, none⟩) 3 3] (some 56) trivial ?_
           intro w72 hw72
           refine (first_calls w72 (hL.ext (hw72.ext rfl)) ⟨some ⟨w71.heap.size, 0, none⟩, 3, [(unl false 415 ⟨(h : Int), -1⟩), (unl true 416 ⟨(h : Int), -1⟩), (unl (win ((dstC c (h : Int) : Nat) : Int) 1 (mostI y8)) 417 ⟨(h : Int), -1⟩)]⟩ (slok_blk hw72 (i := 4) [(unl false 415 ⟨(h : Int), -1⟩), (unl true 416 ⟨(h : Int), -1⟩), (unl (win ((dstC c (h : Int) : Nat) : Int) 1 (mostI y8)) 417 ⟨(h : Int), -1⟩)]) (show 3 ≤ 1000 by decide)).mono ?_
           rintro e w73 ⟨rfl, hkw73⟩
           have hnw73 : w71.heap.size + 1 ≤ w73.heap.size := size_of hw72 hkw73
           refine ⟨_, _, rfl, hw72.keeps hkw73, ?_⟩
           refine q_r 3 0 [] [[(an 3 2)]] [Qb (z + 1), Qb (z + 1), Qb (z + 1)] [(qt5j_30 z)] ⟨w, w73.heap.size, [(old0 w), (qt5j_18 z c), (qt5j_15 z h c y8), (qt5j_17 z y8), (qt5j_11 w71 h c y8)]⟩ rfl ⟨rfl, rfl, rfl, trivial⟩ ?_
           refine e_ret [.at 2, .at 2, .at 2] [Qb (z + 1), Qb (z + 1), Qb (z + 1)] (.agg #[i6 ((fstW [(unl false 415 ⟨(h : Int), -1⟩), (unl true 416 ⟨(h : Int), -1⟩), (unl (win ((dstC c (h : Int) : Nat) : Int) 1 (mostI y8)) 417 ⟨(h : Int), -1⟩)]).e), i6 ((fstW [(unl false 415 ⟨(h : Int), -1⟩), (unl true 416 ⟨(h : Int), -1⟩), (unl (win ((dstC c (h : Int) : Nat) : Int) 1 (mostI y8)) 417 ⟨(h : Int), -1⟩)]).where_.First), i6 ((fstW [(unl false 415 ⟨(h : Int), -1⟩), (unl true 416 ⟨(h : Int), -1⟩), (unl (win ((dstC c (h : Int) : Nat) : Int) 1 (mostI y8)) 417 ⟨(h : Int), -1⟩)]).where_.Second)]) ⟨rfl, rfl, rfl, trivial⟩ ?_
           intro w74 hw74
           have e0 : chaC c h = y8 := hy8.symm
           have eC : chanQ c h = (fstW [(unl false 415 ⟨(h : Int), -1⟩), (unl true 416 ⟨(h : Int), -1⟩), (unl (win ((dstC c (h : Int) : Nat) : Int) 1 (mostI y8)) 417 ⟨(h : Int), -1⟩)]) := by unfold chanQ; simp only [e0]; simp [h19, h23, h61]
           exact ⟨congrArg (fun t => Ending.returned (Value.agg (Tfound.arr t))) eC.symm, back0 hw74⟩
         · refine q_rS 0 3 [] [[o0, oF, o0]] [EF ((srcC c (h : Int) : Nat) : Int) 1] [(1, i6 (h : Int)), (qt5j_30 z), (7, i6 (mostI y8)), (qt5j_29 c h), (qt5j_22 h), (45, .bool false), (46, i6 (h : Int))] rfl ⟨ef (by omega), trivial⟩ ?_
           refine l_call [] [] 67 #[i6 (h : Int)] (some 47) trivial ?_
           intro w75 hw75
           refine (at_calls w75 (h : Int)).mono ?_
           rintro e w76 ⟨rfl, hkw76⟩
           have hnw76 : w60.heap.size ≤ w76.heap.size := size_of hw75 hkw76
           refine ⟨_, _, rfl, hw75.keeps hkw76, ?_⟩
           refine l_keep [1, 4, 7, 9, 43, 45, 47] [(1, i6 (h : Int)), (qt5j_30 z), (7, i6 (mostI y8)), (qt5j_29 c h), (qt5j_22 h), (45, .bool false), (qt5j_25 h)] ?_
           refine l_call [] [] 41 #[.bool false, i6 416, .agg #[i6 (h : Int), i6 (-1)]] (some 48) trivial ?_
           intro w77 hw77
           refine (unless_calls w77 (hL.ext (hw77.ext rfl)) false 416 (h : Int) (-1)).mono ?_
           rintro e w78 ⟨rfl, hkw78⟩
           have hnw78 : w76.heap.size ≤ w78.heap.size := size_of hw77 hkw78
           refine ⟨_, _, rfl, hw77.keeps hkw78, ?_⟩
           refine q_rS 0 2 [] [[o0, o0]] [] [(1, i6 (h : Int)), (qt5j_30 z), (qt5j_22 h), (qt5j_21 h), (qt5j_27 c h), (50, i6 (mostI y8))] rfl trivial ?_
           refine l_call [] [] 42 #[i6 ((dstC c (h : Int) : Nat) : Int), i6 1, i6 (mostI y8)] (some 51) trivial ?_
           intro w79 hw79
           refine (within_calls w79 ((dstC c (h : Int) : Nat) : Int) 1 (mostI y8)).mono ?_
           rintro e w80 ⟨rfl, hkw80⟩
           have hnw80 : w78.heap.size ≤ w80.heap.size := size_of hw79 hkw80
           refine ⟨_, _, rfl, hw79.keeps hkw80, ?_⟩
           refine q_rS 0 1 [] [[o0]] [] [(qt5j_30 z), (qt5j_22 h), (qt5j_21 h), (qt5j_19 c h y8), (52, i6 (h : Int))] rfl trivial ?_
           refine l_call [] [] 67 #[i6 (h : Int)] (some 53) trivial ?_
           intro w81 hw81
           refine (at_calls w81 (h : Int)).mono ?_
           rintro e w82 ⟨rfl, hkw82⟩
           have hnw82 : w80.heap.size ≤ w82.heap.size := size_of hw81 hkw82
           refine ⟨_, _, rfl, hw81.keeps hkw82, ?_⟩
           refine l_keep [4, 43, 48, 51, 53] [(qt5j_30 z), (qt5j_22 h), (qt5j_21 h), (qt5j_19 c h y8), (qt5j_26 h)] ?_
           refine l_call [] [] 41 #[.bool (win ((dstC c (h : Int) : Nat) : Int) 1 (mostI y8)), i6 417, .agg #[i6 (h : Int), i6 (-1)]] (some 54) trivial ?_
           intro w83 hw83
           refine (unless_calls w83 (hL.ext (hw83.ext rfl)) (win ((dstC c (h : Int) : Nat) : Int) 1 (mostI y8)) 417 (h : Int) (-1)).mono ?_
           rintro e w84 ⟨rfl, hkw84⟩
           have hnw84 : w82.heap.size ≤ w84.heap.size := size_of hw83 hkw84
           refine ⟨_, _, rfl, hw83.keeps hkw84, ?_⟩
           refine q_r 0 1 [] [[o0]] [] [(qt5j_30 z), (55, .slice (some ⟨w84.heap.size, 0, none⟩) 3 3)] ⟨w, w84.heap.size + 1, [(old0 w), (qt5j_18 z c), (qt5j_16 z), (qt5j_17 z y8), (qt5j_7 w84 h c y8)]⟩ rfl trivial ?_
           refine l_call [] [] 65 #[.slice (some ⟨w84.heap.size, 0, none⟩) 3 3] (some 56) trivial ?_
           intro w85 hw85
           refine (first_calls w85 (hL.ext (hw85.ext rfl)) ⟨some ⟨w84.heap.size, 0, none⟩, 3, [(unl false 415 ⟨(h : Int), -1⟩), (unl false 416 ⟨(h : Int), -1⟩), (unl (win ((dstC c (h : Int) : Nat) : Int) 1 (mostI y8)) 417 ⟨(h : Int), -1⟩)]⟩ (slok_blk hw85 (i := 4) [(unl false 415 ⟨(h : Int), -1⟩), (unl false 416 ⟨(h : Int), -1⟩), (unl (win ((dstC c (h : Int) : Nat) : Int) 1 (mostI y8)) 417 ⟨(h : Int), -1⟩)]) (show 3 ≤ 1000 by decide)).mono ?_
           rintro e w86 ⟨rfl, hkw86⟩
           have hnw86 : w84.heap.size + 1 ≤ w86.heap.size := size_of hw85 hkw86
           refine ⟨_, _, rfl, hw85.keeps hkw86, ?_⟩
           refine q_r 3 0 [] [[(an 3 2)]] [Qb (z + 1), Qb (z + 1), Qb (z + 1)] [(qt5j_30 z)] ⟨w, w86.heap.size, [(old0 w), (qt5j_18 z c), (qt5j_14 z h c y8), (qt5j_17 z y8), (qt5j_7 w84 h c y8)]⟩ rfl ⟨rfl, rfl, rfl, trivial⟩ ?_
           refine e_ret [.at 2, .at 2, .at 2] [Qb (z + 1), Qb (z + 1), Qb (z + 1)] (.agg #[i6 ((fstW [(unl false 415 ⟨(h : Int), -1⟩), (unl false 416 ⟨(h : Int), -1⟩), (unl (win ((dstC c (h : Int) : Nat) : Int) 1 (mostI y8)) 417 ⟨(h : Int), -1⟩)]).e), i6 ((fstW [(unl false 415 ⟨(h : Int), -1⟩), (unl false 416 ⟨(h : Int), -1⟩), (unl (win ((dstC c (h : Int) : Nat) : Int) 1 (mostI y8)) 417 ⟨(h : Int), -1⟩)]).where_.First), i6 ((fstW [(unl false 415 ⟨(h : Int), -1⟩), (unl false 416 ⟨(h : Int), -1⟩), (unl (win ((dstC c (h : Int) : Nat) : Int) 1 (mostI y8)) 417 ⟨(h : Int), -1⟩)]).where_.Second)]) ⟨rfl, rfl, rfl, trivial⟩ ?_
           intro w87 hw87
           have e0 : chaC c h = y8 := hy8.symm
           have eC : chanQ c h = (fstW [(unl false 415 ⟨(h : Int), -1⟩), (unl false 416 ⟨(h : Int), -1⟩), (unl (win ((dstC c (h : Int) : Nat) : Int) 1 (mostI y8)) 417 ⟨(h : Int), -1⟩)]) := by unfold chanQ; simp only [e0]; simp [h19, h23, h61]
           exact ⟨congrArg (fun t => Ending.returned (Value.agg (Tfound.arr t))) eC.symm, back0 hw87⟩
     · have hd88 := win_no h19
       refine q_rS 0 9 [] [[(ov (.bool false)), o0, o0, o0, o0]] [Value.bool (win y8.Kind 1 2) = Value.bool false] [(1, i6 (h : Int)), (qt5j_30 z), (7, i6 (mostI y8)), (qt5j_28 c h), (qt5j_29 c h), (40, .bool false), (41, i6 (h : Int))] rfl ⟨(congrArg Value.bool (Bool.eq_false_iff.2 h19)), trivial⟩ ?_
       refine l_call [] [] 67 #[i6 (h : Int)] (some 42) trivial ?_
       intro w89 hw89
       refine (at_calls w89 (h : Int)).mono ?_
       rintro e w90 ⟨rfl, hkw90⟩
       have hnw90 : w18.heap.size ≤ w90.heap.size := size_of hw89 hkw90
       refine ⟨_, _, rfl, hw89.keeps hkw90, ?_⟩
       refine l_keep [1, 4, 7, 8, 9, 40, 42] [(1, i6 (h : Int)), (qt5j_30 z), (7, i6 (mostI y8)), (qt5j_28 c h), (qt5j_29 c h), (40, .bool false), (qt5j_24 h)] ?_
       refine l_call [] [] 41 #[.bool false, i6 415, .agg #[i6 (h : Int), i6 (-1)]] (some 43) trivial ?_
       intro w91 hw91
       refine (unless_calls w91 (hL.ext (hw91.ext rfl)) false 415 (h : Int) (-1)).mono ?_
       rintro e w92 ⟨rfl, hkw92⟩
       have hnw92 : w90.heap.size ≤ w92.heap.size := size_of hw91 hkw92
       refine ⟨_, _, rfl, hw91.keeps hkw92, ?_⟩
       refine l_keep [1, 4, 7, 8, 9, 43] [(1, i6 (h : Int)), (qt5j_30 z), (7, i6 (mostI y8)), (qt5j_28 c h), (qt5j_29 c h), (qt5j_22 h)] ?_
       by_cases h93 : (((srcC c (h : Int) : Nat) : Int) : Int) = 1
       · refine q_rS 0 3 [] [[o0, oT, o0]] [ET ((srcC c (h : Int) : Nat) : Int) 1] [(1, i6 (h : Int)), (qt5j_30 z), (7, i6 (mostI y8)), (qt5j_29 c h), (qt5j_22 h), (45, .bool true), (46, i6 (h : Int))] rfl ⟨et (by omega), trivial⟩ ?_
         refine l_call [] [] 67 #[i6 (h : Int)] (some 47) trivial ?_
         intro w94 hw94
         refine (at_calls w94 (h : Int)).mono ?_
         rintro e w95 ⟨rfl, hkw95⟩
         have hnw95 : w92.heap.size ≤ w95.heap.size := size_of hw94 hkw95
         refine ⟨_, _, rfl, hw94.keeps hkw95, ?_⟩
         refine l_keep [1, 4, 7, 9, 43, 45, 47] [(1, i6 (h : Int)), (qt5j_30 z), (7, i6 (mostI y8)), (qt5j_29 c h), (qt5j_22 h), (45, .bool true), (qt5j_25 h)] ?_
         refine l_call [] [] 41 #[.bool true, i6 416, .agg #[i6 (h : Int), i6 (-1)]] (some 48) trivial ?_
         intro w96 hw96
         refine (unless_calls w96 (hL.ext (hw96.ext rfl)) true 416 (h : Int) (-1)).mono ?_
         rintro e w97 ⟨rfl, hkw97⟩
         have hnw97 : w95.heap.size ≤ w97.heap.size := size_of hw96 hkw97
         refine ⟨_, _, rfl, hw96.keeps hkw97, ?_⟩
         refine q_rS 0 2 [] [[o0, o0]] [] [(1, i6 (h : Int)), (qt5j_30 z), (qt5j_22 h), (qt5j_23 h), (qt5j_27 c h), (50, i6 (mostI y8))] rfl trivial ?_
         refine l_call [] [] 42 #[i6 ((dstC c (h : Int) : Nat) : Int), i6 1, i6 (mostI y8)] (some 51) trivial ?_
         intro w98 hw98
         refine (within_calls w98 ((dstC c (h : Int) : Nat) : Int) 1 (mostI y8)).mono ?_
         rintro e w99 ⟨rfl, hkw99⟩
         have hnw99 : w97.heap.size ≤ w99.heap.size := size_of hw98 hkw99
         refine ⟨_, _, rfl, hw98.keeps hkw99, ?_⟩
         refine q_rS 0 1 [] [[o0]] [] [(qt5j_30 z), (qt5j_22 h), (qt5j_23 h), (qt5j_19 c h y8), (52, i6 (h : Int))] rfl trivial ?_
         refine l_call [] [] 67 #[i6 (h : Int)] (some 53) trivial ?_
         intro w100 hw100
         refine (at_calls w100 (h : Int)).mono ?_
         rintro e w101 ⟨rfl, hkw101⟩
         have hnw101 : w99.heap.size ≤ w101.heap.size := size_of hw100 hkw101
         refine ⟨_, _, rfl, hw100.keeps hkw101, ?_⟩
         refine l_keep [4, 43, 48, 51, 53] [(qt5j_30 z), (qt5j_22 h), (qt5j_23 h), (qt5j_19 c h y8), (qt5j_26 h)] ?_
         refine l_call [] [] 41 #[.bool (win ((dstC c (h : Int) : Nat) : Int) 1 (mostI y8)), i6 417, .agg #[i6 (h : Int), i6 (-1)]] (some 54) trivial ?_
         intro w102 hw102
         refine (unless_calls w102 (hL.ext (hw102.ext rfl)) (win ((dstC c (h : Int) : Nat) : Int) 1 (mostI y8)) 417 (h : Int) (-1)).mono ?_
         rintro e w103 ⟨rfl, hkw103⟩
         have hnw103 : w101.heap.size ≤ w103.heap.size := size_of hw102 hkw103
         refine ⟨_, _, rfl, hw102.keeps hkw103, ?_⟩
         refine q_r 0 1 [] [[o0]] [] [(qt5j_30 z), (55, .slice (some ⟨w103.heap.size, 0, none⟩) 3 3)] ⟨w, w103.heap.size + 1, [(old0 w), (qt5j_18 z c), (qt5j_16 z), (qt5j_17 z y8), (qt5j_8 w103 h c y8)]⟩ rfl trivial ?_
         refine l_call [] [] 65 #[.slice (some ⟨w103.heap.size, 0, none⟩) 3 3] (some 56) trivial ?_
         intro w104 hw104
         refine (first_calls w104 (hL.ext (hw104.ext rfl)) ⟨some ⟨w103.heap.size, 0, none⟩, 3, [(unl false 415 ⟨(h : Int), -1⟩), (unl true 416 ⟨(h : Int), -1⟩), (unl (win ((dstC c (h : Int) : Nat) : Int) 1 (mostI y8)) 417 ⟨(h : Int), -1⟩)]⟩ (slok_blk hw104 (i := 4) [(unl false 415 ⟨(h : Int), -1⟩), (unl true 416 ⟨(h : Int), -1⟩), (unl (win ((dstC c (h : Int) : Nat) : Int) 1 (mostI y8)) 417 ⟨(h : Int), -1⟩)]) (show 3 ≤ 1000 by decide)).mono ?_
         rintro e w105 ⟨rfl, hkw105⟩
         have hnw105 : w103.heap.size + 1 ≤ w105.heap.size := size_of hw104 hkw105
         refine ⟨_, _, rfl, hw104.keeps hkw105, ?_⟩
         refine q_r 3 0 [] [[(an 3 2)]] [Qb (z + 1), Qb (z + 1), Qb (z + 1)] [(qt5j_30 z)] ⟨w, w105.heap.size, [(old0 w), (qt5j_18 z c), (qt5j_15 z h c y8), (qt5j_17 z y8), (qt5j_8 w103 h c y8)]⟩ rfl ⟨rfl, rfl, rfl, trivial⟩ ?_
         refine e_ret [.at 2, .at 2, .at 2] [Qb (z + 1), Qb (z + 1), Qb (z + 1)] (.agg #[i6 ((fstW [(unl false 415 ⟨(h : Int), -1⟩), (unl true 416 ⟨(h : Int), -1⟩), (unl (win ((dstC c (h : Int) : Nat) : Int) 1 (mostI y8)) 417 ⟨(h : Int), -1⟩)]).e), i6 ((fstW [(unl false 415 ⟨(h : Int), -1⟩), (unl true 416 ⟨(h : Int), -1⟩), (unl (win ((dstC c (h : Int) : Nat) : Int) 1 (mostI y8)) 417 ⟨(h : Int), -1⟩)]).where_.First), i6 ((fstW [(unl false 415 ⟨(h : Int), -1⟩), (unl true 416 ⟨(h : Int), -1⟩), (unl (win ((dstC c (h : Int) : Nat) : Int) 1 (mostI y8)) 417 ⟨(h : Int), -1⟩)]).where_.Second)]) ⟨rfl, rfl, rfl, trivial⟩ ?_
         intro w106 hw106
         have e0 : chaC c h = y8 := hy8.symm
         have eC : chanQ c h = (fstW [(unl false 415 ⟨(h : Int), -1⟩), (unl true 416 ⟨(h : Int), -1⟩), (unl (win ((dstC c (h : Int) : Nat) : Int) 1 (mostI y8)) 417 ⟨(h : Int), -1⟩)]) := by unfold chanQ; simp only [e0]; simp [h19, h93]
         exact ⟨congrArg (fun t => Ending.returned (Value.agg (Tfound.arr t))) eC.symm, back0 hw106⟩
       · refine q_rS 0 3 [] [[o0, oF, o0]] [EF ((srcC c (h : Int) : Nat) : Int) 1] [(1, i6 (h : Int)), (qt5j_30 z), (7, i6 (mostI y8)), (qt5j_29 c h), (qt5j_22 h), (45, .bool false), (46, i6 (h : Int))] rfl ⟨ef (by omega), trivial⟩ ?_
         refine l_call [] [] 67 #[i6 (h : Int)] (some 47) trivial ?_
         intro w107 hw107
         refine (at_calls w107 (h : Int)).mono ?_
         rintro e w108 ⟨rfl, hkw108⟩
         have hnw108 : w92.heap.size ≤ w108.heap.size := size_of hw107 hkw108
         refine ⟨_, _, rfl, hw107.keeps hkw108, ?_⟩
         refine l_keep [1, 4, 7, 9, 43, 45, 47] [(1, i6 (h : Int)), (qt5j_30 z), (7, i6 (mostI y8)), (qt5j_29 c h), (qt5j_22 h), (45, .bool false), (qt5j_25 h)] ?_
         refine l_call [] [] 41 #[.bool false, i6 416, .agg #[i6 (h : Int), i6 (-1)]] (some 48) trivial ?_
         intro w109 hw109
         refine (unless_calls w109 (hL.ext (hw109.ext rfl)) false 416 (h : Int) (-1)).mono ?_
         rintro e w110 ⟨rfl, hkw110⟩
         have hnw110 : w108.heap.size ≤ w110.heap.size := size_of hw109 hkw110
         refine ⟨_, _, rfl, hw109.keeps hkw110, ?_⟩
         refine q_rS 0 2 [] [[o0, o0]] [] [(1, i6 (h : Int)), (qt5j_30 z), (qt5j_22 h), (qt5j_21 h), (qt5j_27 c h), (50, i6 (mostI y8))] rfl trivial ?_
         refine l_call [] [] 42 #[i6 ((dstC c (h : Int) : Nat) : Int), i6 1, i6 (mostI y8)] (some 51) trivial ?_
         intro w111 hw111
         refine (within_calls w111 ((dstC c (h : Int) : Nat) : Int) 1 (mostI y8)).mono ?_
         rintro e w112 ⟨rfl, hkw112⟩
         have hnw112 : w110.heap.size ≤ w112.heap.size := size_of hw111 hkw112
         refine ⟨_, _, rfl, hw111.keeps hkw112, ?_⟩
         refine q_rS 0 1 [] [[o0]] [] [(qt5j_30 z), (qt5j_22 h), (qt5j_21 h), (qt5j_19 c h y8), (52, i6 (h : Int))] rfl trivial ?_
         refine l_call [] [] 67 #[i6 (h : Int)] (some 53) trivial ?_
         intro w113 hw113
         refine (at_calls w113 (h : Int)).mono ?_
         rintro e w114 ⟨rfl, hkw114⟩
         have hnw114 : w112.heap.size ≤ w114.heap.size := size_of hw113 hkw114
         refine ⟨_, _, rfl, hw113.keeps hkw114, ?_⟩
         refine l_keep [4, 43, 48, 51, 53] [(qt5j_30 z), (qt5j_22 h), (qt5j_21 h), (qt5j_19 c h y8), (qt5j_26 h)] ?_
         refine l_call [] [] 41 #[.bool (win ((dstC c (h : Int) : Nat) : Int) 1 (mostI y8)), i6 417, .agg #[i6 (h : Int), i6 (-1)]] (some 54) trivial ?_
         intro w115 hw115
         refine (unless_calls w115 (hL.ext (hw115.ext rfl)) (win ((dstC c (h : Int) : Nat) : Int) 1 (mostI y8)) 417 (h : Int) (-1)).mono ?_
         rintro e w116 ⟨rfl, hkw116⟩
         have hnw116 : w114.heap.size ≤ w116.heap.size := size_of hw115 hkw116
         refine ⟨_, _, rfl, hw115.keeps hkw116, ?_⟩
         refine q_r 0 1 [] [[o0]] [] [(qt5j_30 z), (55, .slice (some ⟨w116.heap.size, 0, none⟩) 3 3)] ⟨w, w116.heap.size + 1, [(old0 w), (qt5j_18 z c), (qt5j_16 z), (qt5j_17 z y8), (qt5j_4 w116 h c y8)]⟩ rfl trivial ?_
         refine l_call [] [] 65 #[.slice (some ⟨w116.heap.size, 0, none⟩) 3 3] (some 56) trivial ?_
         intro w117 hw117
         refine (first_calls w117 (hL.ext (hw117.ext rfl)) ⟨some ⟨w116.heap.size, 0, none⟩, 3, [(unl false 415 ⟨(h : Int), -1⟩), (unl false 416 ⟨(h : Int), -1⟩), (unl (win ((dstC c (h : Int) : Nat) : Int) 1 (mostI y8)) 417 ⟨(h : Int), -1⟩)]⟩ (slok_blk hw117 (i := 4) [(unl false 415 ⟨(h : Int), -1⟩), (unl false 416 ⟨(h : Int), -1⟩), (unl (win ((dstC c (h : Int) : Nat) : Int) 1 (mostI y8)) 417 ⟨(h : Int), -1⟩)]) (show 3 ≤ 1000 by decide)).mono ?_
         rintro e w118 ⟨rfl, hkw118⟩
         have hnw118 : w116.heap.size + 1 ≤ w118.heap.size := size_of hw117 hkw118
         refine ⟨_, _, rfl, hw117.keeps hkw118, ?_⟩
         refine q_r 3 0 [] [[(an 3 2)]] [Qb (z + 1), Qb (z + 1), Qb (z + 1)] [(qt5j_30 z)] ⟨w, w118.heap.size, [(old0 w), (qt5j_18 z c), (qt5j_14 z h c y8), (qt5j_17 z y8), (qt5j_4 w116 h c y8)]⟩ rfl ⟨rfl, rfl, rfl, trivial⟩ ?_
         refine e_ret [.at 2, .at 2, .at 2] [Qb (z + 1), Qb (z + 1), Qb (z + 1)] (.agg #[i6 ((fstW [(unl false 415 ⟨(h : Int), -1⟩), (unl false 416 ⟨(h : Int), -1⟩), (unl (win ((dstC c (h : Int) : Nat) : Int) 1 (mostI y8)) 417 ⟨(h : Int), -1⟩)]).e), i6 ((fstW [(unl false 415 ⟨(h : Int), -1⟩), (unl false 416 ⟨(h : Int), -1⟩), (unl (win ((dstC c (h : Int) : Nat) : Int) 1 (mostI y8)) 417 ⟨(h : Int), -1⟩)]).where_.First), i6 ((fstW [(unl false 415 ⟨(h : Int), -1⟩), (unl false 416 ⟨(h : Int), -1⟩), (unl (win ((dstC c (h : Int) : Nat) : Int) 1 (mostI y8)) 417 ⟨(h : Int), -1⟩)]).where_.Second)]) ⟨rfl, rfl, rfl, trivial⟩ ?_
         intro w119 hw119
         have e0 : chaC c h = y8 := hy8.symm
         have eC : chanQ c h = (fstW [(unl false 415 ⟨(h : Int), -1⟩), (unl false 416 ⟨(h : Int), -1⟩), (unl (win ((dstC c (h : Int) : Nat) : Int) 1 (mostI y8)) 417 ⟨(h : Int), -1⟩)]) := by unfold chanQ; simp only [e0]; simp [h19, h93]
         exact ⟨congrArg (fun t => Ending.returned (Value.agg (Tfound.arr t))) eC.symm, back0 hw119⟩
 · refine q_cS 3 0 [] [[o0, (a1 3), oF, o0, o0]] [Qb (z + 2), EF y8.Depth 0] [(1, i6 (h : Int)), (2, pt z), (qt5j_30 z), (qt5j_31 z), (6, .bool false), (7, i6 4)] rfl ⟨rfl, ef (by omega), trivial⟩ ?_
   refine g_cut (fun a w' => ∃ (n120 : Nat), z + 3 ≤ n120 ∧ St 57 [(1, i6 (h : Int)), (2, pt z), (qt5j_30 z), (qt5j_31 z), (6, .bool (depB y8)), (7, i6 (mostI y8))] [] ⟨w, n120, [(old0 w), (qt5j_18 z c), (qt5j_16 z), (qt5j_17 z y8)]⟩ a w') ?_ ?_
   · refine g_seq ?_
     by_cases h122 : (y8.Kind : Int) = 2
     · refine q_cS 5 2 [1] [[o0, (a1 3), oT], [o0, (a1 3)]] [Qb (z + 2), ET y8.Kind 2, Qb (z + 2)] [(1, i6 (h : Int)), (2, pt z), (qt5j_30 z), (qt5j_31 z), (22, i6 y8.Depth)] rfl ⟨rfl, et (by omega), rfl, trivial⟩ ?_
       refine l_call [] [] 42 #[i6 y8.Depth, i6 1, i6 8] (some 23) trivial ?_
       intro w123 hw123
       refine (within_calls w123 y8.Depth 1 8).mono ?_
       rintro e w124 ⟨rfl, hkw124⟩
       have hnw124 : z + 3 ≤ w124.heap.size := size_of hw123 hkw124
       refine ⟨_, _, rfl, hw123.keeps hkw124, ?_⟩
       refine q_rS 1 0 [] [[o0, o0]] [] [(1, i6 (h : Int)), (2, pt z), (qt5j_30 z), (qt5j_31 z), (6, .bool (win y8.Depth 1 8)), (7, i6 1)] rfl trivial ?_
       have e6 : depB y8 = win y8.Depth 1 8 := (if_pos h122).trans (by first | rfl | exact decide_eq_true (by assumption) | exact decide_eq_false (by assumption))
       have e7 : mostI y8 = 1 := if_pos h122
       refine e_keep [1, 2, 4, 5, 6, 7] [(1, i6 (h : Int)), (2, pt z), (qt5j_30 z), (qt5j_31 z), (6, .bool (win y8.Depth 1 8)), (7, i6 1)] ?_
       refine e_inv (fun a w' hs => ⟨w124.heap.size, by omega, (by (try dsimp only [qt5j_0, qt5j_1, qt5j_2, qt5j_3, qt5j_4, qt5j_5, qt5j_6, qt5j_7, qt5j_8, qt5j_9, qt5j_10, qt5j_11, qt5j_12, qt5j_13, qt5j_14, qt5j_15, qt5j_16, qt5j_17, qt5j_18, qt5j_19, qt5j_20, qt5j_21, qt5j_22, qt5j_23, qt5j_24, qt5j_25, qt5j_26, qt5j_27, qt5j_28, qt5j_29, qt5j_30, qt5j_31] at hs ⊢); rw [e6, e7]; exact hs)⟩)
     · refine q_cS 5 0 [0] [[o0, (a1 3), oF]] [Qb (z + 2), EF y8.Kind 2] [(1, i6 (h : Int)), (2, pt z), (qt5j_30 z), (qt5j_31 z), (6, .bool false), (7, i6 4), (20, .bool false)] rfl ⟨rfl, ef (by omega), trivial⟩ ?_
       have e6 : depB y8 = false := (if_neg h122).trans (by first | rfl | exact decide_eq_true (by assumption) | exact decide_eq_false (by assumption))
       have e7 : mostI y8 = 4 := if_neg h122
       refine e_keep [1, 2, 4, 5, 6, 7] [(1, i6 (h : Int)), (2, pt z), (qt5j_30 z), (qt5j_31 z), (6, .bool false), (7, i6 4)] ?_
       refine e_inv (fun a w' hs => ⟨(z + 3), by omega, (by (try dsimp only [qt5j_0, qt5j_1, qt5j_2, qt5j_3, qt5j_4, qt5j_5, qt5j_6, qt5j_7, qt5j_8, qt5j_9, qt5j_10, qt5j_11, qt5j_12, qt5j_13, qt5j_14, qt5j_15, qt5j_16, qt5j_17, qt5j_18, qt5j_19, qt5j_20, qt5j_21, qt5j_22, qt5j_23, qt5j_24, qt5j_25, qt5j_26, qt5j_27, qt5j_28, qt5j_29, qt5j_30, qt5j_31] at hs ⊢); rw [e6, e7]; exact hs)⟩)
   · rintro a w' ⟨n120, hn121, hs⟩
     refine (?_ : G Tryd.prog 57 [(1, i6 (h : Int)), (2, pt z), (qt5j_30 z), (qt5j_31 z), (6, .bool (depB y8)), (7, i6 (mostI y8))] [] ⟨w, n120, [(old0 w), (qt5j_18 z c), (qt5j_16 z), (qt5j_17 z y8)]⟩ _ _ _) a w' hs
     clear hs a w'
     refine q_cS 2 2 [] [[(an 7 1), o0]] [Qb z, Qb z, Qb z, Qb z, Qb z, Qb z, Qb z] [(1, i6 (h : Int)), (qt5j_30 z), (qt5j_31 z), (6, .bool (depB y8)), (7, i6 (mostI y8)), (25, .agg (TConfig.arr c)), (26, i6 (h : Int))] rfl ⟨rfl, rfl, rfl, rfl, rfl, rfl, rfl, trivial⟩ ?_
     refine l_call [] [] 71 #[.agg (TConfig.arr c), i6 (h : Int)] (some 27) trivial ?_
     intro w125 hw125
     refine (ends_calls w125 c (hc.ext (hw125.ext rfl) (fun _ h => h)) (h : Int) hm hq).mono ?_
     rintro e w126 ⟨rfl, hkw126⟩
     have hnw126 : n120 ≤ w126.heap.size := size_of hw125 hkw126
     refine ⟨_, _, rfl, hw125.keeps hkw126, ?_⟩
     refine q_rS 4 2 [] [[o0, o0, o0, o0, o0], [o0, (a1 3)]] [Qb (z + 2)] [(1, i6 (h : Int)), (qt5j_30 z), (qt5j_31 z), (6, .bool (depB y8)), (7, i6 (mostI y8)), (qt5j_28 c h), (qt5j_29 c h), (31, i6 y8.Kind)] rfl ⟨rfl, trivial⟩ ?_
     refine l_call [] [] 42 #[i6 y8.Kind, i6 1, i6 2] (some 32) trivial ?_
     intro w127 hw127
     refine (within_calls w127 y8.Kind 1 2).mono ?_
     rintro e w128 ⟨rfl, hkw128⟩
     have hnw128 : w126.heap.size ≤ w128.heap.size := size_of hw127 hkw128
     refine ⟨_, _, rfl, hw127.keeps hkw128, ?_⟩
     refine l_keep [1, 4, 5, 6, 7, 8, 9, 32] [(1, i6 (h : Int)), (qt5j_30 z), (qt5j_31 z), (6, .bool (depB y8)), (7, i6 (mostI y8)), (qt5j_28 c h), (qt5j_29 c h), (32, .bool (win y8.Kind 1 2))] ?_
     by_cases h129 : (win y8.Kind 1 2) = true
     · have hd130 := win_yes h129
       refine q_rS 0 3 [] [[(ov (.bool true)), o0, (a1 3)]] [Value.bool (win y8.Kind 1 2) = Value.bool true, Qb (z + 2)] [(1, i6 (h : Int)), (qt5j_30 z), (6, .bool (depB y8)), (7, i6 (mostI y8)), (qt5j_28 c h), (qt5j_29 c h), (33, .bool true), (35, i6 y8.Words)] rfl ⟨(congrArg Value.bool h129), rfl, trivial⟩ ?_
       refine l_call [] [] 42 #[i6 y8.Words, i6 1, i6 16] (some 36) trivial ?_
       intro w131 hw131
       refine (within_calls w131 y8.Words 1 16).mono ?_
       rintro e w132 ⟨rfl, hkw132⟩
       have hnw132 : w128.heap.size ≤ w132.heap.size := size_of hw131 hkw132
       refine ⟨_, _, rfl, hw131.keeps hkw132, ?_⟩
       refine l_keep [1, 4, 6, 7, 8, 9, 33, 36] [(1, i6 (h : Int)), (qt5j_30 z), (6, .bool (depB y8)), (7, i6 (mostI y8)), (qt5j_28 c h), (qt5j_29 c h), (33, .bool true), (36, .bool (win y8.Words 1 16))] ?_
       by_cases h133 : (win y8.Words 1 16) = true
       · have hd134 := win_yes h133
         refine q_rS 0 5 [] [[o0, (ov (.bool true)), o0, o0, o0]] [Value.bool (win y8.Words 1 16) = Value.bool true] [(1, i6 (h : Int)), (qt5j_30 z), (7, i6 (mostI y8)), (qt5j_28 c h), (qt5j_29 c h), (40, .bool (depB y8)), (41, i6 (h : Int))] rfl ⟨(congrArg Value.bool h133), trivial⟩ ?_
         refine l_call [] [] 67 #[i6 (h : Int)] (some 42) trivial ?_
         intro w135 hw135
         refine (at_calls w135 (h : Int)).mono ?_
         rintro e w136 ⟨rfl, hkw136⟩
         have hnw136 : w132.heap.size ≤ w136.heap.size := size_of hw135 hkw136
         refine ⟨_, _, rfl, hw135.keeps hkw136, ?_⟩
         refine l_keep [1, 4, 7, 8, 9, 40, 42] [(1, i6 (h : Int)), (qt5j_30 z), (7, i6 (mostI y8)), (qt5j_28 c h), (qt5j_29 c h), (40, .bool (depB y8)), (qt5j_24 h)] ?_
         refine l_call [] [] 41 #[.bool (depB y8), i6 415, .agg #[i6 (h : Int), i6 (-1)]] (some 43) trivial ?_
         intro w137 hw137
         refine (unless_calls w137 (hL.ext (hw137.ext rfl)) (depB y8) 415 (h : Int) (-1)).mono ?_
         rintro e w138 ⟨rfl, hkw138⟩
         have hnw138 : w136.heap.size ≤ w138.heap.size := size_of hw137 hkw138
         refine ⟨_, _, rfl, hw137.keeps hkw138, ?_⟩
         refine l_keep [1, 4, 7, 8, 9, 43] [(1, i6 (h : Int)), (qt5j_30 z), (7, i6 (mostI y8)), (qt5j_28 c h), (qt5j_29 c h), (qt5j_20 y8 h)] ?_
         by_cases h139 : (((srcC c (h : Int) : Nat) : Int) : Int) = 1
         · refine q_rS 0 3 [] [[o0, oT, o0]] [ET ((srcC c (h : Int) : Nat) : Int) 1] [(1, i6 (h : Int)), (qt5j_30 z), (7, i6 (mostI y8)), (qt5j_29 c h), (qt5j_20 y8 h), (45, .bool true), (46, i6 (h : Int))] rfl ⟨et (by omega), trivial⟩ ?_
           refine l_call [] [] 67 #[i6 (h : Int)] (some 47) trivial ?_
           intro w140 hw140
           refine (at_calls w140 (h : Int)).mono ?_
           rintro e w141 ⟨rfl, hkw141⟩
           have hnw141 : w138.heap.size ≤ w141.heap.size := size_of hw140 hkw141
           refine ⟨_, _, rfl, hw140.keeps hkw141, ?_⟩
           refine l_keep [1, 4, 7, 9, 43, 45, 47] [(1, i6 (h : Int)), (qt5j_30 z), (7, i6 (mostI y8)), (qt5j_29 c h), (qt5j_20 y8 h), (45, .bool true), (qt5j_25 h)] ?_
           refine l_call [] [] 41 #[.bool true, i6 416, .agg #[i6 (h : Int), i6 (-1)]] (some 48) trivial ?_
           intro w142 hw142
           refine (unless_calls w142 (hL.ext (hw142.ext rfl)) true 416 (h : Int) (-1)).mono ?_
           rintro e w143 ⟨rfl, hkw143⟩
           have hnw143 : w141.heap.size ≤ w143.heap.size := size_of hw142 hkw143
           refine ⟨_, _, rfl, hw142.keeps hkw143, ?_⟩
           refine q_rS 0 2 [] [[o0, o0]] [] [(1, i6 (h : Int)), (qt5j_30 z), (qt5j_20 y8 h), (qt5j_23 h), (qt5j_27 c h), (50, i6 (mostI y8))] rfl trivial ?_
           refine l_call [] [] 42 #[i6 ((dstC c (h : Int) : Nat) : Int), i6 1, i6 (mostI y8)] (some 51) trivial ?_
           intro w144 hw144
           refine (within_calls w144 ((dstC c (h : Int) : Nat) : Int) 1 (mostI y8)).mono ?_
           rintro e w145 ⟨rfl, hkw145⟩
           have hnw145 : w143.heap.size ≤ w145.heap.size := size_of hw144 hkw145
           refine ⟨_, _, rfl, hw144.keeps hkw145, ?_⟩
           refine q_rS 0 1 [] [[o0]] [] [(qt5j_30 z), (qt5j_20 y8 h), (qt5j_23 h), (qt5j_19 c h y8), (52, i6 (h : Int))] rfl trivial ?_
           refine l_call [] [] 67 #[i6 (h : Int)] (some 53) trivial ?_
           intro w146 hw146
           refine (at_calls w146 (h : Int)).mono ?_
           rintro e w147 ⟨rfl, hkw147⟩
           have hnw147 : w145.heap.size ≤ w147.heap.size := size_of hw146 hkw147
           refine ⟨_, _, rfl, hw146.keeps hkw147, ?_⟩
           refine l_keep [4, 43, 48, 51, 53] [(qt5j_30 z), (qt5j_20 y8 h), (qt5j_23 h), (qt5j_19 c h y8), (qt5j_26 h)] ?_
           refine l_call [] [] 41 #[.bool (win ((dstC c (h : Int) : Nat) : Int) 1 (mostI y8)), i6 417, .agg #[i6 (h : Int), i6 (-1)]] (some 54) trivial ?_
           intro w148 hw148
           refine (unless_calls w148 (hL.ext (hw148.ext rfl)) (win ((dstC c (h : Int) : Nat) : Int) 1 (mostI y8)) 417 (h : Int) (-1)).mono ?_
           rintro e w149 ⟨rfl, hkw149⟩
           have hnw149 : w147.heap.size ≤ w149.heap.size := size_of hw148 hkw149
           refine ⟨_, _, rfl, hw148.keeps hkw149, ?_⟩
           refine q_r 0 1 [] [[o0]] [] [(qt5j_30 z), (55, .slice (some ⟨w149.heap.size, 0, none⟩) 3 3)] ⟨w, w149.heap.size + 1, [(old0 w), (qt5j_18 z c), (qt5j_16 z), (qt5j_17 z y8), (qt5j_2 w149 y8 h c)]⟩ rfl trivial ?_
           refine l_call [] [] 65 #[.slice (some ⟨w149.heap.size, 0, none⟩) 3 3] (some 56) trivial ?_
           intro w150 hw150
           refine (first_calls w150 (hL.ext (hw150.ext rfl)) ⟨some ⟨w149.heap.size, 0, none⟩, 3, [(unl (depB y8) 415 ⟨(h : Int), -1⟩), (unl true 416 ⟨(h : Int), -1⟩), (unl (win ((dstC c (h : Int) : Nat) : Int) 1 (mostI y8)) 417 ⟨(h : Int), -1⟩)]⟩ (slok_blk hw150 (i := 4) [(unl (depB y8) 415 ⟨(h : Int), -1⟩), (unl true 416 ⟨(h : Int), -1⟩), (unl (win ((dstC c (h : Int) : Nat) : Int) 1 (mostI y8)) 417 ⟨(h : Int), -1⟩)]) (show 3 ≤ 1000 by decide)).mono ?_
           rintro e w151 ⟨rfl, hkw151⟩
           have hnw151 : w149.heap.size + 1 ≤ w151.heap.size := size_of hw150 hkw151
           refine ⟨_, _, rfl, hw150.keeps hkw151, ?_⟩
           refine q_r 3 0 [] [[(an 3 2)]] [Qb (z + 1), Qb (z + 1), Qb (z + 1)] [(qt5j_30 z)] ⟨w, w151.heap.size, [(old0 w), (qt5j_18 z c), (qt5j_13 z y8 h c), (qt5j_17 z y8), (qt5j_2 w149 y8 h c)]⟩ rfl ⟨rfl, rfl, rfl, trivial⟩ ?_
           refine e_ret [.at 2, .at 2, .at 2] [Qb (z + 1), Qb (z + 1), Qb (z + 1)] (.agg #[i6 ((fstW [(unl (depB y8) 415 ⟨(h : Int), -1⟩), (unl true 416 ⟨(h : Int), -1⟩), (unl (win ((dstC c (h : Int) : Nat) : Int) 1 (mostI y8)) 417 ⟨(h : Int), -1⟩)]).e), i6 ((fstW [(unl (depB y8) 415 ⟨(h : Int), -1⟩), (unl true 416 ⟨(h : Int), -1⟩), (unl (win ((dstC c (h : Int) : Nat) : Int) 1 (mostI y8)) 417 ⟨(h : Int), -1⟩)]).where_.First), i6 ((fstW [(unl (depB y8) 415 ⟨(h : Int), -1⟩), (unl true 416 ⟨(h : Int), -1⟩), (unl (win ((dstC c (h : Int) : Nat) : Int) 1 (mostI y8)) 417 ⟨(h : Int), -1⟩)]).where_.Second)]) ⟨rfl, rfl, rfl, trivial⟩ ?_
           intro w152 hw152
           have e0 : chaC c h = y8 := hy8.symm
           have eC : chanQ c h = (fstW [(unl (depB y8) 415 ⟨(h : Int), -1⟩), (unl true 416 ⟨(h : Int), -1⟩), (unl (win ((dstC c (h : Int) : Nat) : Int) 1 (mostI y8)) 417 ⟨(h : Int), -1⟩)]) := by unfold chanQ; simp only [e0]; simp [h129, h133, h139]
           exact ⟨congrArg (fun t => Ending.returned (Value.agg (Tfound.arr t))) eC.symm, back0 hw152⟩
         · refine q_rS 0 3 [] [[o0, oF, o0]] [EF ((srcC c (h : Int) : Nat) : Int) 1] [(1, i6 (h : Int)), (qt5j_30 z), (7, i6 (mostI y8)), (qt5j_29 c h), (qt5j_20 y8 h), (45, .bool false), (46, i6 (h : Int))] rfl ⟨ef (by omega), trivial⟩ ?_
           refine l_call [] [] 67 #[i6 (h : Int)] (some 47) trivial ?_
           intro w153 hw153
           refine (at_calls w153 (h : Int)).mono ?_
           rintro e w154 ⟨rfl, hkw154⟩
           have hnw154 : w138.heap.size ≤ w154.heap.size := size_of hw153 hkw154
           refine ⟨_, _, rfl, hw153.keeps hkw154, ?_⟩
           refine l_keep [1, 4, 7, 9, 43, 45, 47] [(1, i6 (h : Int)), (qt5j_30 z), (7, i6 (mostI y8)), (qt5j_29 c h), (qt5j_20 y8 h), (45, .bool false), (qt5j_25 h)] ?_
           refine l_call [] [] 41 #[.bool false, i6 416, .agg #[i6 (h : Int), i6 (-1)]] (some 48) trivial ?_
           intro w155 hw155
           refine (unless_calls w155 (hL.ext (hw155.ext rfl)) false 416 (h : Int) (-1)).mono ?_
           rintro e w156 ⟨rfl, hkw156⟩
           have hnw156 : w154.heap.size ≤ w156.heap.size := size_of hw155 hkw156
           refine ⟨_, _, rfl, hw155.keeps hkw156, ?_⟩
           refine q_rS 0 2 [] [[o0, o0]] [] [(1, i6 (h : Int)), (qt5j_30 z), (qt5j_20 y8 h), (qt5j_21 h), (qt5j_27 c h), (50, i6 (mostI y8))] rfl trivial ?_
           refine l_call [] [] 42 #[i6 ((dstC c (h : Int) : Nat) : Int), i6 1, i6 (mostI y8)] (some 51) trivial ?_
           intro w157 hw157
           refine (within_calls w157 ((dstC c (h : Int) : Nat) : Int) 1 (mostI y8)).mono ?_
           rintro e w158 ⟨rfl, hkw158⟩
           have hnw158 : w156.heap.size ≤ w158.heap.size := size_of hw157 hkw158
           refine ⟨_, _, rfl, hw157.keeps hkw158, ?_⟩
           refine q_rS 0 1 [] [[o0]] [] [(qt5j_30 z), (qt5j_20 y8 h), (qt5j_21 h), (qt5j_19 c h y8), (52, i6 (h : Int))] rfl trivial ?_
           refine l_call [] [] 67 #[i6 (h : Int)] (some 53) trivial ?_
           intro w159 hw159
           refine (at_calls w159 (h : Int)).mono ?_
           rintro e w160 ⟨rfl, hkw160⟩
           have hnw160 : w158.heap.size ≤ w160.heap.size := size_of hw159 hkw160
           refine ⟨_, _, rfl, hw159.keeps hkw160, ?_⟩
           refine l_keep [4, 43, 48, 51, 53] [(qt5j_30 z), (qt5j_20 y8 h), (qt5j_21 h), (qt5j_19 c h y8), (qt5j_26 h)] ?_
           refine l_call [] [] 41 #[.bool (win ((dstC c (h : Int) : Nat) : Int) 1 (mostI y8)), i6 417, .agg #[i6 (h : Int), i6 (-1)]] (some 54) trivial ?_
           intro w161 hw161
           refine (unless_calls w161 (hL.ext (hw161.ext rfl)) (win ((dstC c (h : Int) : Nat) : Int) 1 (mostI y8)) 417 (h : Int) (-1)).mono ?_
           rintro e w162 ⟨rfl, hkw162⟩
           have hnw162 : w160.heap.size ≤ w162.heap.size := size_of hw161 hkw162
           refine ⟨_, _, rfl, hw161.keeps hkw162, ?_⟩
           refine q_r 0 1 [] [[o0]] [] [(qt5j_30 z), (55, .slice (some ⟨w162.heap.size, 0, none⟩) 3 3)] ⟨w, w162.heap.size + 1, [(old0 w), (qt5j_18 z c), (qt5j_16 z), (qt5j_17 z y8), (qt5j_0 w162 y8 h c)]⟩ rfl trivial ?_
           refine l_call [] [] 65 #[.slice (some ⟨w162.heap.size, 0, none⟩) 3 3] (some 56) trivial ?_
           intro w163 hw163
           refine (first_calls w163 (hL.ext (hw163.ext rfl)) ⟨some ⟨w162.heap.size, 0, none⟩, 3, [(unl (depB y8) 415 ⟨(h : Int), -1⟩), (unl false 416 ⟨(h : Int), -1⟩), (unl (win ((dstC c (h : Int) : Nat) : Int) 1 (mostI y8)) 417 ⟨(h : Int), -1⟩)]⟩ (slok_blk hw163 (i := 4) [(unl (depB y8) 415 ⟨(h : Int), -1⟩), (unl false 416 ⟨(h : Int), -1⟩), (unl (win ((dstC c (h : Int) : Nat) : Int) 1 (mostI y8)) 417 ⟨(h : Int), -1⟩)]) (show 3 ≤ 1000 by decide)).mono ?_
           rintro e w164 ⟨rfl, hkw164⟩
           have hnw164 : w162.heap.size + 1 ≤ w164.heap.size := size_of hw163 hkw164
           refine ⟨_, _, rfl, hw163.keeps hkw164, ?_⟩
           refine q_r 3 0 [] [[(an 3 2)]] [Qb (z + 1), Qb (z + 1), Qb (z + 1)] [(qt5j_30 z)] ⟨w, w164.heap.size, [(old0 w), (qt5j_18 z c), (qt5j_12 z y8 h c), (qt5j_17 z y8), (qt5j_0 w162 y8 h c)]⟩ rfl ⟨rfl, rfl, rfl, trivial⟩ ?_
           refine e_ret [.at 2, .at 2, .at 2] [Qb (z + 1), Qb (z + 1), Qb (z + 1)] (.agg #[i6 ((fstW [(unl (depB y8) 415 ⟨(h : Int), -1⟩), (unl false 416 ⟨(h : Int), -1⟩), (unl (win ((dstC c (h : Int) : Nat) : Int) 1 (mostI y8)) 417 ⟨(h : Int), -1⟩)]).e), i6 ((fstW [(unl (depB y8) 415 ⟨(h : Int), -1⟩), (unl false 416 ⟨(h : Int), -1⟩), (unl (win ((dstC c (h : Int) : Nat) : Int) 1 (mostI y8)) 417 ⟨(h : Int), -1⟩)]).where_.First), i6 ((fstW [(unl (depB y8) 415 ⟨(h : Int), -1⟩), (unl false 416 ⟨(h : Int), -1⟩), (unl (win ((dstC c (h : Int) : Nat) : Int) 1 (mostI y8)) 417 ⟨(h : Int), -1⟩)]).where_.Second)]) ⟨rfl, rfl, rfl, trivial⟩ ?_
           intro w165 hw165
           have e0 : chaC c h = y8 := hy8.symm
           have eC : chanQ c h = (fstW [(unl (depB y8) 415 ⟨(h : Int), -1⟩), (unl false 416 ⟨(h : Int), -1⟩), (unl (win ((dstC c (h : Int) : Nat) : Int) 1 (mostI y8)) 417 ⟨(h : Int), -1⟩)]) := by unfold chanQ; simp only [e0]; simp [h129, h133, h139]
           exact ⟨congrArg (fun t => Ending.returned (Value.agg (Tfound.arr t))) eC.symm, back0 hw165⟩
       · have hd166 := win_no h133
         refine q_rS 0 5 [] [[o0, (ov (.bool false)), o0, o0]] [Value.bool (win y8.Words 1 16) = Value.bool false] [(1, i6 (h : Int)), (qt5j_30 z), (7, i6 (mostI y8)), (qt5j_28 c h), (qt5j_29 c h), (40, .bool false), (41, i6 (h : Int))] rfl ⟨(congrArg Value.bool (Bool.eq_false_iff.2 h133)), trivial⟩ ?_
         refine l_call [] [] 67 #[i6 (h : Int)] (some 42) trivial ?_
         intro w167 hw167
         refine (at_calls w167 (h : Int)).mono ?_
         rintro e w168 ⟨rfl, hkw168⟩
         have hnw168 : w132.heap.size ≤ w168.heap.size := size_of hw167 hkw168
         refine ⟨_, _, rfl, hw167.keeps hkw168, ?_⟩
         refine l_keep [1, 4, 7, 8, 9, 40, 42] [(1, i6 (h : Int)), (qt5j_30 z), (7, i6 (mostI y8)), (qt5j_28 c h), (qt5j_29 c h), (40, .bool false), (qt5j_24 h)] ?_
         refine l_call [] [] 41 #[.bool false, i6 415, .agg #[i6 (h : Int), i6 (-1)]] (some 43) trivial ?_
         intro w169 hw169
         refine (unless_calls w169 (hL.ext (hw169.ext rfl)) false 415 (h : Int) (-1)).mono ?_
         rintro e w170 ⟨rfl, hkw170⟩
         have hnw170 : w168.heap.size ≤ w170.heap.size := size_of hw169 hkw170
         refine ⟨_, _, rfl, hw169.keeps hkw170, ?_⟩
         refine l_keep [1, 4, 7, 8, 9, 43] [(1, i6 (h : Int)), (qt5j_30 z), (7, i6 (mostI y8)), (qt5j_28 c h), (qt5j_29 c h), (qt5j_22 h)] ?_
         by_cases h171 : (((srcC c (h : Int) : Nat) : Int) : Int) = 1
         · refine q_rS 0 3 [] [[o0, oT, o0]] [ET ((srcC c (h : Int) : Nat) : Int) 1] [(1, i6 (h : Int)), (qt5j_30 z), (7, i6 (mostI y8)), (qt5j_29 c h), (qt5j_22 h), (45, .bool true), (46, i6 (h : Int))] rfl ⟨et (by omega), trivial⟩ ?_
           refine l_call [] [] 67 #[i6 (h : Int)] (some 47) trivial ?_
           intro w172 hw172
           refine (at_calls w172 (h : Int)).mono ?_
           rintro e w173 ⟨rfl, hkw173⟩
           have hnw173 : w170.heap.size ≤ w173.heap.size := size_of hw172 hkw173
           refine ⟨_, _, rfl, hw172.keeps hkw173, ?_⟩
           refine l_keep [1, 4, 7, 9, 43, 45, 47] [(1, i6 (h : Int)), (qt5j_30 z), (7, i6 (mostI y8)), (qt5j_29 c h), (qt5j_22 h), (45, .bool true), (qt5j_25 h)] ?_
           refine l_call [] [] 41 #[.bool true, i6 416, .agg #[i6 (h : Int), i6 (-1)]] (some 48) trivial ?_
           intro w174 hw174
           refine (unless_calls w174 (hL.ext (hw174.ext rfl)) true 416 (h : Int) (-1)).mono ?_
           rintro e w175 ⟨rfl, hkw175⟩
           have hnw175 : w173.heap.size ≤ w175.heap.size := size_of hw174 hkw175
           refine ⟨_, _, rfl, hw174.keeps hkw175, ?_⟩
           refine q_rS 0 2 [] [[o0, o0]] [] [(1, i6 (h : Int)), (qt5j_30 z), (qt5j_22 h), (qt5j_23 h), (qt5j_27 c h), (50, i6 (mostI y8))] rfl trivial ?_
           refine l_call [] [] 42 #[i6 ((dstC c (h : Int) : Nat) : Int), i6 1, i6 (mostI y8)] (some 51) trivial ?_
           intro w176 hw176
           refine (within_calls w176 ((dstC c (h : Int) : Nat) : Int) 1 (mostI y8)).mono ?_
           rintro e w177 ⟨rfl, hkw177⟩
           have hnw177 : w175.heap.size ≤ w177.heap.size := size_of hw176 hkw177
           refine ⟨_, _, rfl, hw176.keeps hkw177, ?_⟩
           refine q_rS 0 1 [] [[o0]] [] [(qt5j_30 z), (qt5j_22 h), (qt5j_23 h), (qt5j_19 c h y8), (52, i6 (h : Int))] rfl trivial ?_
           refine l_call [] [] 67 #[i6 (h : Int)] (some 53) trivial ?_
           intro w178 hw178
           refine (at_calls w178 (h : Int)).mono ?_
           rintro e w179 ⟨rfl, hkw179⟩
           have hnw179 : w177.heap.size ≤ w179.heap.size := size_of hw178 hkw179
           refine ⟨_, _, rfl, hw178.keeps hkw179, ?_⟩
           refine l_keep [4, 43, 48, 51, 53] [(qt5j_30 z), (qt5j_22 h), (qt5j_23 h), (qt5j_19 c h y8), (qt5j_26 h)] ?_
           refine l_call [] [] 41 #[.bool (win ((dstC c (h : Int) : Nat) : Int) 1 (mostI y8)), i6 417, .agg #[i6 (h : Int), i6 (-1)]] (some 54) trivial ?_
           intro w180 hw180
           refine (unless_calls w180 (hL.ext (hw180.ext rfl)) (win ((dstC c (h : Int) : Nat) : Int) 1 (mostI y8)) 417 (h : Int) (-1)).mono ?_
           rintro e w181 ⟨rfl, hkw181⟩
           have hnw181 : w179.heap.size ≤ w181.heap.size := size_of hw180 hkw181
           refine ⟨_, _, rfl, hw180.keeps hkw181, ?_⟩
           refine q_r 0 1 [] [[o0]] [] [(qt5j_30 z), (55, .slice (some ⟨w181.heap.size, 0, none⟩) 3 3)] ⟨w, w181.heap.size + 1, [(old0 w), (qt5j_18 z c), (qt5j_16 z), (qt5j_17 z y8), (qt5j_9 w181 h c y8)]⟩ rfl trivial ?_
           refine l_call [] [] 65 #[.slice (some ⟨w181.heap.size, 0, none⟩) 3 3] (some 56) trivial ?_
           intro w182 hw182
           refine (first_calls w182 (hL.ext (hw182.ext rfl)) ⟨some ⟨w181.heap.size, 0, none⟩, 3, [(unl false 415 ⟨(h : Int), -1⟩), (unl true 416 ⟨(h : Int), -1⟩), (unl (win ((dstC c (h : Int) : Nat) : Int) 1 (mostI y8)) 417 ⟨(h : Int), -1⟩)]⟩ (slok_blk hw182 (i := 4) [(unl false 415 ⟨(h : Int), -1⟩), (unl true 416 ⟨(h : Int), -1⟩), (unl (win ((dstC c (h : Int) : Nat) : Int) 1 (mostI y8)) 417 ⟨(h : Int), -1⟩)]) (show 3 ≤ 1000 by decide)).mono ?_
           rintro e w183 ⟨rfl, hkw183⟩
           have hnw183 : w181.heap.size + 1 ≤ w183.heap.size := size_of hw182 hkw183
           refine ⟨_, _, rfl, hw182.keeps hkw183, ?_⟩
           refine q_r 3 0 [] [[(an 3 2)]] [Qb (z + 1), Qb (z + 1), Qb (z + 1)] [(qt5j_30 z)] ⟨w, w183.heap.size, [(old0 w), (qt5j_18 z c), (qt5j_15 z h c y8), (qt5j_17 z y8), (qt5j_9 w181 h c y8)]⟩ rfl ⟨rfl, rfl, rfl, trivial⟩ ?_
           refine e_ret [.at 2, .at 2, .at 2] [Qb (z + 1), Qb (z + 1), Qb (z + 1)] (.agg #[i6 ((fstW [(unl false 415 ⟨(h : Int), -1⟩), (unl true 416 ⟨(h : Int), -1⟩), (unl (win ((dstC c (h : Int) : Nat) : Int) 1 (mostI y8)) 417 ⟨(h : Int), -1⟩)]).e), i6 ((fstW [(unl false 415 ⟨(h : Int), -1⟩), (unl true 416 ⟨(h : Int), -1⟩), (unl (win ((dstC c (h : Int) : Nat) : Int) 1 (mostI y8)) 417 ⟨(h : Int), -1⟩)]).where_.First), i6 ((fstW [(unl false 415 ⟨(h : Int), -1⟩), (unl true 416 ⟨(h : Int), -1⟩), (unl (win ((dstC c (h : Int) : Nat) : Int) 1 (mostI y8)) 417 ⟨(h : Int), -1⟩)]).where_.Second)]) ⟨rfl, rfl, rfl, trivial⟩ ?_
           intro w184 hw184
           have e0 : chaC c h = y8 := hy8.symm
           have eC : chanQ c h = (fstW [(unl false 415 ⟨(h : Int), -1⟩), (unl true 416 ⟨(h : Int), -1⟩), (unl (win ((dstC c (h : Int) : Nat) : Int) 1 (mostI y8)) 417 ⟨(h : Int), -1⟩)]) := by unfold chanQ; simp only [e0]; simp [h129, h133, h171]
           exact ⟨congrArg (fun t => Ending.returned (Value.agg (Tfound.arr t))) eC.symm, back0 hw184⟩
         · refine q_rS 0 3 [] [[o0, oF, o0]] [EF ((srcC c (h : Int) : Nat) : Int) 1] [(1, i6 (h : Int)), (qt5j_30 z), (7, i6 (mostI y8)), (qt5j_29 c h), (qt5j_22 h), (45, .bool false), (46, i6 (h : Int))] rfl ⟨ef (by omega), trivial⟩ ?_
           refine l_call [] [] 67 #[i6 (h : Int)] (some 47) trivial ?_
           intro w185 hw185
           refine (at_calls w185 (h : Int)).mono ?_
           rintro e w186 ⟨rfl, hkw186⟩
           have hnw186 : w170.heap.size ≤ w186.heap.size := size_of hw185 hkw186
           refine ⟨_, _, rfl, hw185.keeps hkw186, ?_⟩
           refine l_keep [1, 4, 7, 9, 43, 45, 47] [(1, i6 (h : Int)), (qt5j_30 z), (7, i6 (mostI y8)), (qt5j_29 c h), (qt5j_22 h), (45, .bool false), (qt5j_25 h)] ?_
           refine l_call [] [] 41 #[.bool false, i6 416, .agg #[i6 (h : Int), i6 (-1)]] (some 48) trivial ?_
           intro w187 hw187
           refine (unless_calls w187 (hL.ext (hw187.ext rfl)) false 416 (h : Int) (-1)).mono ?_
           rintro e w188 ⟨rfl, hkw188⟩
           have hnw188 : w186.heap.size ≤ w188.heap.size := size_of hw187 hkw188
           refine ⟨_, _, rfl, hw187.keeps hkw188, ?_⟩
           refine q_rS 0 2 [] [[o0, o0]] [] [(1, i6 (h : Int)), (qt5j_30 z), (qt5j_22 h), (qt5j_21 h), (qt5j_27 c h), (50, i6 (mostI y8))] rfl trivial ?_
           refine l_call [] [] 42 #[i6 ((dstC c (h : Int) : Nat) : Int), i6 1, i6 (mostI y8)] (some 51) trivial ?_
           intro w189 hw189
           refine (within_calls w189 ((dstC c (h : Int) : Nat) : Int) 1 (mostI y8)).mono ?_
           rintro e w190 ⟨rfl, hkw190⟩
           have hnw190 : w188.heap.size ≤ w190.heap.size := size_of hw189 hkw190
           refine ⟨_, _, rfl, hw189.keeps hkw190, ?_⟩
           refine q_rS 0 1 [] [[o0]] [] [(qt5j_30 z), (qt5j_22 h), (qt5j_21 h), (qt5j_19 c h y8), (52, i6 (h : Int))] rfl trivial ?_
           refine l_call [] [] 67 #[i6 (h : Int)] (some 53) trivial ?_
           intro w191 hw191
           refine (at_calls w191 (h : Int)).mono ?_
           rintro e w192 ⟨rfl, hkw192⟩
           have hnw192 : w190.heap.size ≤ w192.heap.size := size_of hw191 hkw192
           refine ⟨_, _, rfl, hw191.keeps hkw192, ?_⟩
           refine l_keep [4, 43, 48, 51, 53] [(qt5j_30 z), (qt5j_22 h), (qt5j_21 h), (qt5j_19 c h y8), (qt5j_26 h)] ?_
           refine l_call [] [] 41 #[.bool (win ((dstC c (h : Int) : Nat) : Int) 1 (mostI y8)), i6 417, .agg #[i6 (h : Int), i6 (-1)]] (some 54) trivial ?_
           intro w193 hw193
           refine (unless_calls w193 (hL.ext (hw193.ext rfl)) (win ((dstC c (h : Int) : Nat) : Int) 1 (mostI y8)) 417 (h : Int) (-1)).mono ?_
           rintro e w194 ⟨rfl, hkw194⟩
           have hnw194 : w192.heap.size ≤ w194.heap.size := size_of hw193 hkw194
           refine ⟨_, _, rfl, hw193.keeps hkw194, ?_⟩
           refine q_r 0 1 [] [[o0]] [] [(qt5j_30 z), (55, .slice (some ⟨w194.heap.size, 0, none⟩) 3 3)] ⟨w, w194.heap.size + 1, [(old0 w), (qt5j_18 z c), (qt5j_16 z), (qt5j_17 z y8), (qt5j_5 w194 h c y8)]⟩ rfl trivial ?_
           refine l_call [] [] 65 #[.slice (some ⟨w194.heap.size, 0, none⟩) 3 3] (some 56) trivial ?_
           intro w195 hw195
           refine (first_calls w195 (hL.ext (hw195.ext rfl)) ⟨some ⟨w194.heap.size, 0, none⟩, 3, [(unl false 415 ⟨(h : Int), -1⟩), (unl false 416 ⟨(h : Int), -1⟩), (unl (win ((dstC c (h : Int) : Nat) : Int) 1 (mostI y8)) 417 ⟨(h : Int), -1⟩)]⟩ (slok_blk hw195 (i := 4) [(unl false 415 ⟨(h : Int), -1⟩), (unl false 416 ⟨(h : Int), -1⟩), (unl (win ((dstC c (h : Int) : Nat) : Int) 1 (mostI y8)) 417 ⟨(h : Int), -1⟩)]) (show 3 ≤ 1000 by decide)).mono ?_
           rintro e w196 ⟨rfl, hkw196⟩
           have hnw196 : w194.heap.size + 1 ≤ w196.heap.size := size_of hw195 hkw196
           refine ⟨_, _, rfl, hw195.keeps hkw196, ?_⟩
           refine q_r 3 0 [] [[(an 3 2)]] [Qb (z + 1), Qb (z + 1), Qb (z + 1)] [(qt5j_30 z)] ⟨w, w196.heap.size, [(old0 w), (qt5j_18 z c), (qt5j_14 z h c y8), (qt5j_17 z y8), (qt5j_5 w194 h c y8)]⟩ rfl ⟨rfl, rfl, rfl, trivial⟩ ?_
           refine e_ret [.at 2, .at 2, .at 2] [Qb (z + 1), Qb (z + 1), Qb (z + 1)] (.agg #[i6 ((fstW [(unl false 415 ⟨(h : Int), -1⟩), (unl false 416 ⟨(h : Int), -1⟩), (unl (win ((dstC c (h : Int) : Nat) : Int) 1 (mostI y8)) 417 ⟨(h : Int), -1⟩)]).e), i6 ((fstW [(unl false 415 ⟨(h : Int), -1⟩), (unl false 416 ⟨(h : Int), -1⟩), (unl (win ((dstC c (h : Int) : Nat) : Int) 1 (mostI y8)) 417 ⟨(h : Int), -1⟩)]).where_.First), i6 ((fstW [(unl false 415 ⟨(h : Int), -1⟩), (unl false 416 ⟨(h : Int), -1⟩), (unl (win ((dstC c (h : Int) : Nat) : Int) 1 (mostI y8)) 417 ⟨(h : Int), -1⟩)]).where_.Second)]) ⟨rfl, rfl, rfl, trivial⟩ ?_
           intro w197 hw197
           have e0 : chaC c h = y8 := hy8.symm
           have eC : chanQ c h = (fstW [(unl false 415 ⟨(h : Int), -1⟩), (unl false 416 ⟨(h : Int), -1⟩), (unl (win ((dstC c (h : Int) : Nat) : Int) 1 (mostI y8)) 417 ⟨(h : Int), -1⟩)]) := by unfold chanQ; simp only [e0]; simp [h129, h133, h171]
           exact ⟨congrArg (fun t => Ending.returned (Value.agg (Tfound.arr t))) eC.symm, back0 hw197⟩
     · have hd198 := win_no h129
       refine q_rS 0 9 [] [[(ov (.bool false)), o0, o0, o0, o0]] [Value.bool (win y8.Kind 1 2) = Value.bool false] [(1, i6 (h : Int)), (qt5j_30 z), (7, i6 (mostI y8)), (qt5j_28 c h), (qt5j_29 c h), (40, .bool false), (41, i6 (h : Int))] rfl ⟨(congrArg Value.bool (Bool.eq_false_iff.2 h129)), trivial⟩ ?_
       refine l_call [] [] 67 #[i6 (h : Int)] (some 42) trivial ?_
       intro w199 hw199
       refine (at_calls w199 (h : Int)).mono ?_
       rintro e w200 ⟨rfl, hkw200⟩
       have hnw200 : w128.heap.size ≤ w200.heap.size := size_of hw199 hkw200
       refine ⟨_, _, rfl, hw199.keeps hkw200, ?_⟩
       refine l_keep [1, 4, 7, 8, 9, 40, 42] [(1, i6 (h : Int)), (qt5j_30 z), (7, i6 (mostI y8)), (qt5j_28 c h), (qt5j_29 c h), (40, .bool false), (qt5j_24 h)] ?_
       refine l_call [] [] 41 #[.bool false, i6 415, .agg #[i6 (h : Int), i6 (-1)]] (some 43) trivial ?_
       intro w201 hw201
       refine (unless_calls w201 (hL.ext (hw201.ext rfl)) false 415 (h : Int) (-1)).mono ?_
       rintro e w202 ⟨rfl, hkw202⟩
       have hnw202 : w200.heap.size ≤ w202.heap.size := size_of hw201 hkw202
       refine ⟨_, _, rfl, hw201.keeps hkw202, ?_⟩
       refine l_keep [1, 4, 7, 8, 9, 43] [(1, i6 (h : Int)), (qt5j_30 z), (7, i6 (mostI y8)), (qt5j_28 c h), (qt5j_29 c h), (qt5j_22 h)] ?_
       by_cases h203 : (((srcC c (h : Int) : Nat) : Int) : Int) = 1
       · refine q_rS 0 3 [] [[o0, oT, o0]] [ET ((srcC c (h : Int) : Nat) : Int) 1] [(1, i6 (h : Int)), (qt5j_30 z), (7, i6 (mostI y8)), (qt5j_29 c h), (qt5j_22 h), (45, .bool true), (46, i6 (h : Int))] rfl ⟨et (by omega), trivial⟩ ?_
         refine l_call [] [] 67 #[i6 (h : Int)] (some 47) trivial ?_
         intro w204 hw204
         refine (at_calls w204 (h : Int)).mono ?_
         rintro e w205 ⟨rfl, hkw205⟩
         have hnw205 : w202.heap.size ≤ w205.heap.size := size_of hw204 hkw205
         refine ⟨_, _, rfl, hw204.keeps hkw205, ?_⟩
         refine l_keep [1, 4, 7, 9, 43, 45, 47] [(1, i6 (h : Int)), (qt5j_30 z), (7, i6 (mostI y8)), (qt5j_29 c h), (qt5j_22 h), (45, .bool true), (qt5j_25 h)] ?_
         refine l_call [] [] 41 #[.bool true, i6 416, .agg #[i6 (h : Int), i6 (-1)]] (some 48) trivial ?_
         intro w206 hw206
         refine (unless_calls w206 (hL.ext (hw206.ext rfl)) true 416 (h : Int) (-1)).mono ?_
         rintro e w207 ⟨rfl, hkw207⟩
         have hnw207 : w205.heap.size ≤ w207.heap.size := size_of hw206 hkw207
         refine ⟨_, _, rfl, hw206.keeps hkw207, ?_⟩
         refine q_rS 0 2 [] [[o0, o0]] [] [(1, i6 (h : Int)), (qt5j_30 z), (qt5j_22 h), (qt5j_23 h), (qt5j_27 c h), (50, i6 (mostI y8))] rfl trivial ?_
         refine l_call [] [] 42 #[i6 ((dstC c (h : Int) : Nat) : Int), i6 1, i6 (mostI y8)] (some 51) trivial ?_
         intro w208 hw208
         refine (within_calls w208 ((dstC c (h : Int) : Nat) : Int) 1 (mostI y8)).mono ?_
         rintro e w209 ⟨rfl, hkw209⟩
         have hnw209 : w207.heap.size ≤ w209.heap.size := size_of hw208 hkw209
         refine ⟨_, _, rfl, hw208.keeps hkw209, ?_⟩
         refine q_rS 0 1 [] [[o0]] [] [(qt5j_30 z), (qt5j_22 h), (qt5j_23 h), (qt5j_19 c h y8), (52, i6 (h : Int))] rfl trivial ?_
         refine l_call [] [] 67 #[i6 (h : Int)] (some 53) trivial ?_
         intro w210 hw210
         refine (at_calls w210 (h : Int)).mono ?_
         rintro e w211 ⟨rfl, hkw211⟩
         have hnw211 : w209.heap.size ≤ w211.heap.size := size_of hw210 hkw211
         refine ⟨_, _, rfl, hw210.keeps hkw211, ?_⟩
         refine l_keep [4, 43, 48, 51, 53] [(qt5j_30 z), (qt5j_22 h), (qt5j_23 h), (qt5j_19 c h y8), (qt5j_26 h)] ?_
         refine l_call [] [] 41 #[.bool (win ((dstC c (h : Int) : Nat) : Int) 1 (mostI y8)), i6 417, .agg #[i6 (h : Int), i6 (-1)]] (some 54) trivial ?_
         intro w212 hw212
         refine (unless_calls w212 (hL.ext (hw212.ext rfl)) (win ((dstC c (h : Int) : Nat) : Int) 1 (mostI y8)) 417 (h : Int) (-1)).mono ?_
         rintro e w213 ⟨rfl, hkw213⟩
         have hnw213 : w211.heap.size ≤ w213.heap.size := size_of hw212 hkw213
         refine ⟨_, _, rfl, hw212.keeps hkw213, ?_⟩
         refine q_r 0 1 [] [[o0]] [] [(qt5j_30 z), (55, .slice (some ⟨w213.heap.size, 0, none⟩) 3 3)] ⟨w, w213.heap.size + 1, [(old0 w), (qt5j_18 z c), (qt5j_16 z), (qt5j_17 z y8), (qt5j_10 w213 h c y8)]⟩ rfl trivial ?_
         refine l_call [] [] 65 #[.slice (some ⟨w213.heap.size, 0, none⟩) 3 3] (some 56) trivial ?_
         intro w214 hw214
         refine (first_calls w214 (hL.ext (hw214.ext rfl)) ⟨some ⟨w213.heap.size, 0, none⟩, 3, [(unl false 415 ⟨(h : Int), -1⟩), (unl true 416 ⟨(h : Int), -1⟩), (unl (win ((dstC c (h : Int) : Nat) : Int) 1 (mostI y8)) 417 ⟨(h : Int), -1⟩)]⟩ (slok_blk hw214 (i := 4) [(unl false 415 ⟨(h : Int), -1⟩), (unl true 416 ⟨(h : Int), -1⟩), (unl (win ((dstC c (h : Int) : Nat) : Int) 1 (mostI y8)) 417 ⟨(h : Int), -1⟩)]) (show 3 ≤ 1000 by decide)).mono ?_
         rintro e w215 ⟨rfl, hkw215⟩
         have hnw215 : w213.heap.size + 1 ≤ w215.heap.size := size_of hw214 hkw215
         refine ⟨_, _, rfl, hw214.keeps hkw215, ?_⟩
         refine q_r 3 0 [] [[(an 3 2)]] [Qb (z + 1), Qb (z + 1), Qb (z + 1)] [(qt5j_30 z)] ⟨w, w215.heap.size, [(old0 w), (qt5j_18 z c), (qt5j_15 z h c y8), (qt5j_17 z y8), (qt5j_10 w213 h c y8)]⟩ rfl ⟨rfl, rfl, rfl, trivial⟩ ?_
         refine e_ret [.at 2, .at 2, .at 2] [Qb (z + 1), Qb (z + 1), Qb (z + 1)] (.agg #[i6 ((fstW [(unl false 415 ⟨(h : Int), -1⟩), (unl true 416 ⟨(h : Int), -1⟩), (unl (win ((dstC c (h : Int) : Nat) : Int) 1 (mostI y8)) 417 ⟨(h : Int), -1⟩)]).e), i6 ((fstW [(unl false 415 ⟨(h : Int), -1⟩), (unl true 416 ⟨(h : Int), -1⟩), (unl (win ((dstC c (h : Int) : Nat) : Int) 1 (mostI y8)) 417 ⟨(h : Int), -1⟩)]).where_.First), i6 ((fstW [(unl false 415 ⟨(h : Int), -1⟩), (unl true 416 ⟨(h : Int), -1⟩), (unl (win ((dstC c (h : Int) : Nat) : Int) 1 (mostI y8)) 417 ⟨(h : Int), -1⟩)]).where_.Second)]) ⟨rfl, rfl, rfl, trivial⟩ ?_
         intro w216 hw216
         have e0 : chaC c h = y8 := hy8.symm
         have eC : chanQ c h = (fstW [(unl false 415 ⟨(h : Int), -1⟩), (unl true 416 ⟨(h : Int), -1⟩), (unl (win ((dstC c (h : Int) : Nat) : Int) 1 (mostI y8)) 417 ⟨(h : Int), -1⟩)]) := by unfold chanQ; simp only [e0]; simp [h129, h203]
         exact ⟨congrArg (fun t => Ending.returned (Value.agg (Tfound.arr t))) eC.symm, back0 hw216⟩
       · refine q_rS 0 3 [] [[o0, oF, o0]] [EF ((srcC c (h : Int) : Nat) : Int) 1] [(1, i6 (h : Int)), (qt5j_30 z), (7, i6 (mostI y8)), (qt5j_29 c h), (qt5j_22 h), (45, .bool false), (46, i6 (h : Int))] rfl ⟨ef (by omega), trivial⟩ ?_
         refine l_call [] [] 67 #[i6 (h : Int)] (some 47) trivial ?_
         intro w217 hw217
         refine (at_calls w217 (h : Int)).mono ?_
         rintro e w218 ⟨rfl, hkw218⟩
         have hnw218 : w202.heap.size ≤ w218.heap.size := size_of hw217 hkw218
         refine ⟨_, _, rfl, hw217.keeps hkw218, ?_⟩
         refine l_keep [1, 4, 7, 9, 43, 45, 47] [(1, i6 (h : Int)), (qt5j_30 z), (7, i6 (mostI y8)), (qt5j_29 c h), (qt5j_22 h), (45, .bool false), (qt5j_25 h)] ?_
         refine l_call [] [] 41 #[.bool false, i6 416, .agg #[i6 (h : Int), i6 (-1)]] (some 48) trivial ?_
         intro w219 hw219
         refine (unless_calls w219 (hL.ext (hw219.ext rfl)) false 416 (h : Int) (-1)).mono ?_
         rintro e w220 ⟨rfl, hkw220⟩
         have hnw220 : w218.heap.size ≤ w220.heap.size := size_of hw219 hkw220
         refine ⟨_, _, rfl, hw219.keeps hkw220, ?_⟩
         refine q_rS 0 2 [] [[o0, o0]] [] [(1, i6 (h : Int)), (qt5j_30 z), (qt5j_22 h), (qt5j_21 h), (qt5j_27 c h), (50, i6 (mostI y8))] rfl trivial ?_
         refine l_call [] [] 42 #[i6 ((dstC c (h : Int) : Nat) : Int), i6 1, i6 (mostI y8)] (some 51) trivial ?_
         intro w221 hw221
         refine (within_calls w221 ((dstC c (h : Int) : Nat) : Int) 1 (mostI y8)).mono ?_
         rintro e w222 ⟨rfl, hkw222⟩
         have hnw222 : w220.heap.size ≤ w222.heap.size := size_of hw221 hkw222
         refine ⟨_, _, rfl, hw221.keeps hkw222, ?_⟩
         refine q_rS 0 1 [] [[o0]] [] [(qt5j_30 z), (qt5j_22 h), (qt5j_21 h), (qt5j_19 c h y8), (52, i6 (h : Int))] rfl trivial ?_
         refine l_call [] [] 67 #[i6 (h : Int)] (some 53) trivial ?_
         intro w223 hw223
         refine (at_calls w223 (h : Int)).mono ?_
         rintro e w224 ⟨rfl, hkw224⟩
         have hnw224 : w222.heap.size ≤ w224.heap.size := size_of hw223 hkw224
         refine ⟨_, _, rfl, hw223.keeps hkw224, ?_⟩
         refine l_keep [4, 43, 48, 51, 53] [(qt5j_30 z), (qt5j_22 h), (qt5j_21 h), (qt5j_19 c h y8), (qt5j_26 h)] ?_
         refine l_call [] [] 41 #[.bool (win ((dstC c (h : Int) : Nat) : Int) 1 (mostI y8)), i6 417, .agg #[i6 (h : Int), i6 (-1)]] (some 54) trivial ?_
         intro w225 hw225
         refine (unless_calls w225 (hL.ext (hw225.ext rfl)) (win ((dstC c (h : Int) : Nat) : Int) 1 (mostI y8)) 417 (h : Int) (-1)).mono ?_
         rintro e w226 ⟨rfl, hkw226⟩
         have hnw226 : w224.heap.size ≤ w226.heap.size := size_of hw225 hkw226
         refine ⟨_, _, rfl, hw225.keeps hkw226, ?_⟩
         refine q_r 0 1 [] [[o0]] [] [(qt5j_30 z), (55, .slice (some ⟨w226.heap.size, 0, none⟩) 3 3)] ⟨w, w226.heap.size + 1, [(old0 w), (qt5j_18 z c), (qt5j_16 z), (qt5j_17 z y8), (qt5j_6 w226 h c y8)]⟩ rfl trivial ?_
         refine l_call [] [] 65 #[.slice (some ⟨w226.heap.size, 0, none⟩) 3 3] (some 56) trivial ?_
         intro w227 hw227
         refine (first_calls w227 (hL.ext (hw227.ext rfl)) ⟨some ⟨w226.heap.size, 0, none⟩, 3, [(unl false 415 ⟨(h : Int), -1⟩), (unl false 416 ⟨(h : Int), -1⟩), (unl (win ((dstC c (h : Int) : Nat) : Int) 1 (mostI y8)) 417 ⟨(h : Int), -1⟩)]⟩ (slok_blk hw227 (i := 4) [(unl false 415 ⟨(h : Int), -1⟩), (unl false 416 ⟨(h : Int), -1⟩), (unl (win ((dstC c (h : Int) : Nat) : Int) 1 (mostI y8)) 417 ⟨(h : Int), -1⟩)]) (show 3 ≤ 1000 by decide)).mono ?_
         rintro e w228 ⟨rfl, hkw228⟩
         have hnw228 : w226.heap.size + 1 ≤ w228.heap.size := size_of hw227 hkw228
         refine ⟨_, _, rfl, hw227.keeps hkw228, ?_⟩
         refine q_r 3 0 [] [[(an 3 2)]] [Qb (z + 1), Qb (z + 1), Qb (z + 1)] [(qt5j_30 z)] ⟨w, w228.heap.size, [(old0 w), (qt5j_18 z c), (qt5j_14 z h c y8), (qt5j_17 z y8), (qt5j_6 w226 h c y8)]⟩ rfl ⟨rfl, rfl, rfl, trivial⟩ ?_
         refine e_ret [.at 2, .at 2, .at 2] [Qb (z + 1), Qb (z + 1), Qb (z + 1)] (.agg #[i6 ((fstW [(unl false 415 ⟨(h : Int), -1⟩), (unl false 416 ⟨(h : Int), -1⟩), (unl (win ((dstC c (h : Int) : Nat) : Int) 1 (mostI y8)) 417 ⟨(h : Int), -1⟩)]).e), i6 ((fstW [(unl false 415 ⟨(h : Int), -1⟩), (unl false 416 ⟨(h : Int), -1⟩), (unl (win ((dstC c (h : Int) : Nat) : Int) 1 (mostI y8)) 417 ⟨(h : Int), -1⟩)]).where_.First), i6 ((fstW [(unl false 415 ⟨(h : Int), -1⟩), (unl false 416 ⟨(h : Int), -1⟩), (unl (win ((dstC c (h : Int) : Nat) : Int) 1 (mostI y8)) 417 ⟨(h : Int), -1⟩)]).where_.Second)]) ⟨rfl, rfl, rfl, trivial⟩ ?_
         intro w229 hw229
         have e0 : chaC c h = y8 := hy8.symm
         have eC : chanQ c h = (fstW [(unl false 415 ⟨(h : Int), -1⟩), (unl false 416 ⟨(h : Int), -1⟩), (unl (win ((dstC c (h : Int) : Nat) : Int) 1 (mostI y8)) 417 ⟨(h : Int), -1⟩)]) := by unfold chanQ; simp only [e0]; simp [h129, h203]
         exact ⟨congrArg (fun t => Ending.returned (Value.agg (Tfound.arr t))) eC.symm, back0 hw229⟩
end Go.Proofs.YtnjhekfgmbpmlaaDoor.Ad
namespace Go.Proofs.YtnjhekfgmbpmlaaDoor.Ad
open Go Go.Proofs.YtnjhekfgmbpmlaaDoor.Eng Go.Proofs.YtnjhekfgmbpmlaaDoor.Mem Go.Proofs.YtnjhekfgmbpmlaaDoor.Ly
set_option linter.unusedSimpArgs false
set_option linter.unusedVariables false
set_option maxRecDepth 100000
def coreA (c : TConfig) (k n : Nat) (x : TWindow) : List Tfound := [unl (win x.Partition (-1) ((c.Partitions.xs.length : Nat) - 1) && win x.Usable 1 16384) 419 ⟨(k : Int), (n : Int)⟩, unl (win x.Slack 82 16384) 420 ⟨(k : Int), (n : Int)⟩, unl (!splitP c k x.Partition) 422 ⟨(k : Int), (n : Int)⟩]
def coreW (c : TConfig) (k n : Nat) : Tfound := fstW (coreA c k n (gd (corC c k).xs n))
def sumW (xs : List TWindow) (n : Nat) : Int := (List.range n).foldl (fun s i => s + ((gd xs i).Usable + (gd xs i).Slack)) 0
theorem sumW_succ (xs : List TWindow) (n : Nat) : sumW xs (n + 1) = sumW xs n + ((gd xs n).Usable + (gd xs n).Slack) := by unfold sumW; rw [List.range_succ, List.foldl_append]; rfl
theorem fst_mem {l : List Tfound} (h : fstW l = fineF) : ∀ x ∈ l, x = fineF := by
  induction l with
  | nil => intro x hx; cases hx
  | cons a r ih =>
    unfold fstW at h
    by_cases e : a = fineF
    · rw [if_pos e] at h
      intro x hx
      rcases List.mem_cons.1 hx with rfl | hx
      · exact e
      · exact ih h x hx
    · rw [if_neg e] at h; exact absurd h e
theorem coreW_fine {c : TConfig} {k n : Nat} (h : coreW c k n = fineF) : (1 ≤ (gd (corC c k).xs n).Usable ∧ (gd (corC c k).xs n).Usable ≤ 16384) ∧ (82 ≤ (gd (corC c k).xs n).Slack ∧ (gd (corC c k).xs n).Slack ≤ 16384) := by
  unfold coreW coreA at h
  have h1 := fst_mem h _ (List.mem_cons_self ..)
  have h2 := fst_mem h _ (List.mem_cons_of_mem _ (List.mem_cons_self ..))
  rw [unl_fine (by decide)] at h1 h2
  rw [Bool.and_eq_true] at h1
  exact ⟨win_yes h1.2, win_yes h2⟩
def coreQ (c : TConfig) (k : Nat) : Tfound := if win ((corC c k).xs.length : Nat) 1 16 = false then ⟨418, ⟨(k : Int), -1⟩⟩ else if thenF fineF (coreW c k) (corC c k).xs.length = fineF then unl (decide (sumW (corC c k).xs (corC c k).xs.length = c.Major)) 421 ⟨(k : Int), -1⟩ else thenF fineF (coreW c k) (corC c k).xs.length
theorem thenF_fine {f : Nat → Tfound} : ∀ {n : Nat}, (∀ a, a < n → f a = fineF) → thenF fineF f n = fineF
  | 0, _ => thenF_zero _ _
  | n + 1, h => (thenF_succ (thenF_fine (fun a ha => h a (by omega)))).trans (h n (by omega))
theorem coreQ_a {c : TConfig} {k : Nat} (h : ¬ win ((corC c k).xs.length : Nat) 1 16 = true) : coreQ c k = ⟨418, ⟨(k : Int), -1⟩⟩ := if_pos (by simpa using h)
theorem coreQ_b {c : TConfig} {k n : Nat} (h : win ((corC c k).xs.length : Nat) 1 16 = true) (hf : ∀ a, a < n → coreW c k a = fineF) (hn : n < (corC c k).xs.length) (hne : coreW c k n ≠ fineF) : coreQ c k = coreW c k n := by
  have h1 := thenF_succ (thenF_fine hf)
  have h2 := thenF_stop (k := n + 1) (by rw [h1]; exact hne) (show n + 1 ≤ (corC c k).xs.length by omega)
  rw [h1] at h2
  unfold coreQ
  rw [if_neg (by rw [h]; simp), h2, if_neg hne]
theorem coreQ_c {c : TConfig} {k n : Nat} (h : win ((corC c k).xs.length : Nat) 1 16 = true) (hf : ∀ a, a < n → coreW c k a = fineF) (hn : n = (corC c k).xs.length) : coreQ c k = unl (decide (sumW (corC c k).xs n = c.Major)) 421 ⟨(k : Int), -1⟩ := by
  subst hn
  unfold coreQ
  rw [if_neg (by rw [h]; simp), if_pos (thenF_fine hf)]
abbrev qlnz_0 (n45 : Nat) (y23 : TWindow) (k : Nat) (n : Nat) : Ch := bk n45 #[i6 ((unl (win y23.Usable 1 16384) 419 ⟨(k : Int), (n : Int)⟩).e), i6 ((unl (win y23.Usable 1 16384) 419 ⟨(k : Int), (n : Int)⟩).where_.First), i6 ((unl (win y23.Usable 1 16384) 419 ⟨(k : Int), (n : Int)⟩).where_.Second), i6 ((unl (win y23.Slack 82 16384) 420 ⟨(k : Int), (n : Int)⟩).e), i6 ((unl (win y23.Slack 82 16384) 420 ⟨(k : Int), (n : Int)⟩).where_.First), i6 ((unl (win y23.Slack 82 16384) 420 ⟨(k : Int), (n : Int)⟩).where_.Second), i6 ((unl false 422 ⟨(k : Int), (n : Int)⟩).e), i6 ((unl false 422 ⟨(k : Int), (n : Int)⟩).where_.First), i6 ((unl false 422 ⟨(k : Int), (n : Int)⟩).where_.Second)] 73
abbrev qlnz_1 (b53 : Nat) (y23 : TWindow) (k : Nat) (n : Nat) : Ch := bk b53 #[i6 ((unl (win y23.Usable 1 16384) 419 ⟨(k : Int), (n : Int)⟩).e), i6 ((unl (win y23.Usable 1 16384) 419 ⟨(k : Int), (n : Int)⟩).where_.First), i6 ((unl (win y23.Usable 1 16384) 419 ⟨(k : Int), (n : Int)⟩).where_.Second), i6 ((unl (win y23.Slack 82 16384) 420 ⟨(k : Int), (n : Int)⟩).e), i6 ((unl (win y23.Slack 82 16384) 420 ⟨(k : Int), (n : Int)⟩).where_.First), i6 ((unl (win y23.Slack 82 16384) 420 ⟨(k : Int), (n : Int)⟩).where_.Second), i6 ((unl false 422 ⟨(k : Int), (n : Int)⟩).e), i6 ((unl false 422 ⟨(k : Int), (n : Int)⟩).where_.First), i6 ((unl false 422 ⟨(k : Int), (n : Int)⟩).where_.Second)] 73
abbrev qlnz_2 (n42 : Nat) (y23 : TWindow) (k : Nat) (n : Nat) : Ch := bk n42 #[i6 ((unl (win y23.Usable 1 16384) 419 ⟨(k : Int), (n : Int)⟩).e), i6 ((unl (win y23.Usable 1 16384) 419 ⟨(k : Int), (n : Int)⟩).where_.First), i6 ((unl (win y23.Usable 1 16384) 419 ⟨(k : Int), (n : Int)⟩).where_.Second), i6 ((unl (win y23.Slack 82 16384) 420 ⟨(k : Int), (n : Int)⟩).e), i6 ((unl (win y23.Slack 82 16384) 420 ⟨(k : Int), (n : Int)⟩).where_.First), i6 ((unl (win y23.Slack 82 16384) 420 ⟨(k : Int), (n : Int)⟩).where_.Second), i6 ((unl false 422 ⟨(k : Int), (n : Int)⟩).e), i6 ((unl false 422 ⟨(k : Int), (n : Int)⟩).where_.First), i6 ((unl false 422 ⟨(k : Int), (n : Int)⟩).where_.Second)] 73
abbrev qlnz_3 (n84 : Nat) (y23 : TWindow) (k : Nat) (n : Nat) : Ch := bk n84 #[i6 ((unl (win y23.Usable 1 16384) 419 ⟨(k : Int), (n : Int)⟩).e), i6 ((unl (win y23.Usable 1 16384) 419 ⟨(k : Int), (n : Int)⟩).where_.First), i6 ((unl (win y23.Usable 1 16384) 419 ⟨(k : Int), (n : Int)⟩).where_.Second), i6 ((unl (win y23.Slack 82 16384) 420 ⟨(k : Int), (n : Int)⟩).e), i6 ((unl (win y23.Slack 82 16384) 420 ⟨(k : Int), (n : Int)⟩).where_.First), i6 ((unl (win y23.Slack 82 16384) 420 ⟨(k : Int), (n : Int)⟩).where_.Second), i6 ((unl true 422 ⟨(k : Int), (n : Int)⟩).e), i6 ((unl true 422 ⟨(k : Int), (n : Int)⟩).where_.First), i6 ((unl true 422 ⟨(k : Int), (n : Int)⟩).where_.Second)] 73
abbrev qlnz_4 (b92 : Nat) (y23 : TWindow) (k : Nat) (n : Nat) : Ch := bk b92 #[i6 ((unl (win y23.Usable 1 16384) 419 ⟨(k : Int), (n : Int)⟩).e), i6 ((unl (win y23.Usable 1 16384) 419 ⟨(k : Int), (n : Int)⟩).where_.First), i6 ((unl (win y23.Usable 1 16384) 419 ⟨(k : Int), (n : Int)⟩).where_.Second), i6 ((unl (win y23.Slack 82 16384) 420 ⟨(k : Int), (n : Int)⟩).e), i6 ((unl (win y23.Slack 82 16384) 420 ⟨(k : Int), (n : Int)⟩).where_.First), i6 ((unl (win y23.Slack 82 16384) 420 ⟨(k : Int), (n : Int)⟩).where_.Second), i6 ((unl true 422 ⟨(k : Int), (n : Int)⟩).e), i6 ((unl true 422 ⟨(k : Int), (n : Int)⟩).where_.First), i6 ((unl true 422 ⟨(k : Int), (n : Int)⟩).where_.Second)] 73
abbrev qlnz_5 (n81 : Nat) (y23 : TWindow) (k : Nat) (n : Nat) : Ch := bk n81 #[i6 ((unl (win y23.Usable 1 16384) 419 ⟨(k : Int), (n : Int)⟩).e), i6 ((unl (win y23.Usable 1 16384) 419 ⟨(k : Int), (n : Int)⟩).where_.First), i6 ((unl (win y23.Usable 1 16384) 419 ⟨(k : Int), (n : Int)⟩).where_.Second), i6 ((unl (win y23.Slack 82 16384) 420 ⟨(k : Int), (n : Int)⟩).e), i6 ((unl (win y23.Slack 82 16384) 420 ⟨(k : Int), (n : Int)⟩).where_.First), i6 ((unl (win y23.Slack 82 16384) 420 ⟨(k : Int), (n : Int)⟩).where_.Second), i6 ((unl true 422 ⟨(k : Int), (n : Int)⟩).e), i6 ((unl true 422 ⟨(k : Int), (n : Int)⟩).where_.First), i6 ((unl true 422 ⟨(k : Int), (n : Int)⟩).where_.Second)] 73
abbrev qlnz_6 (n124 : Nat) (k : Nat) (n : Nat) (y23 : TWindow) : Ch := bk n124 #[i6 ((unl false 419 ⟨(k : Int), (n : Int)⟩).e), i6 ((unl false 419 ⟨(k : Int), (n : Int)⟩).where_.First), i6 ((unl false 419 ⟨(k : Int), (n : Int)⟩).where_.Second), i6 ((unl (win y23.Slack 82 16384) 420 ⟨(k : Int), (n : Int)⟩).e), i6 ((unl (win y23.Slack 82 16384) 420 ⟨(k : Int), (n : Int)⟩).where_.First), i6 ((unl (win y23.Slack 82 16384) 420 ⟨(k : Int), (n : Int)⟩).where_.Second), i6 ((unl false 422 ⟨(k : Int), (n : Int)⟩).e), i6 ((unl false 422 ⟨(k : Int), (n : Int)⟩).where_.First), i6 ((unl false 422 ⟨(k : Int), (n : Int)⟩).where_.Second)] 73
abbrev qlnz_7 (b132 : Nat) (k : Nat) (n : Nat) (y23 : TWindow) : Ch := bk b132 #[i6 ((unl false 419 ⟨(k : Int), (n : Int)⟩).e), i6 ((unl false 419 ⟨(k : Int), (n : Int)⟩).where_.First), i6 ((unl false 419 ⟨(k : Int), (n : Int)⟩).where_.Second), i6 ((unl (win y23.Slack 82 16384) 420 ⟨(k : Int), (n : Int)⟩).e), i6 ((unl (win y23.Slack 82 16384) 420 ⟨(k : Int), (n : Int)⟩).where_.First), i6 ((unl (win y23.Slack 82 16384) 420 ⟨(k : Int), (n : Int)⟩).where_.Second), i6 ((unl false 422 ⟨(k : Int), (n : Int)⟩).e), i6 ((unl false 422 ⟨(k : Int), (n : Int)⟩).where_.First), i6 ((unl false 422 ⟨(k : Int), (n : Int)⟩).where_.Second)] 73
abbrev qlnz_8 (n121 : Nat) (k : Nat) (n : Nat) (y23 : TWindow) : Ch := bk n121 #[i6 ((unl false 419 ⟨(k : Int), (n : Int)⟩).e), i6 ((unl false 419 ⟨(k : Int), (n : Int)⟩).where_.First), i6 ((unl false 419 ⟨(k : Int), (n : Int)⟩).where_.Second), i6 ((unl (win y23.Slack 82 16384) 420 ⟨(k : Int), (n : Int)⟩).e), i6 ((unl (win y23.Slack 82 16384) 420 ⟨(k : Int), (n : Int)⟩).where_.First), i6 ((unl (win y23.Slack 82 16384) 420 ⟨(k : Int), (n : Int)⟩).where_.Second), i6 ((unl false 422 ⟨(k : Int), (n : Int)⟩).e), i6 ((unl false 422 ⟨(k : Int), (n : Int)⟩).where_.First), i6 ((unl false 422 ⟨(k : Int), (n : Int)⟩).where_.Second)] 73
abbrev qlnz_9 (n162 : Nat) (k : Nat) (n : Nat) (y23 : TWindow) : Ch := bk n162 #[i6 ((unl false 419 ⟨(k : Int), (n : Int)⟩).e), i6 ((unl false 419 ⟨(k : Int), (n : Int)⟩).where_.First), i6 ((unl false 419 ⟨(k : Int), (n : Int)⟩).where_.Second), i6 ((unl (win y23.Slack 82 16384) 420 ⟨(k : Int), (n : Int)⟩).e), i6 ((unl (win y23.Slack 82 16384) 420 ⟨(k : Int), (n : Int)⟩).where_.First), i6 ((unl (win y23.Slack 82 16384) 420 ⟨(k : Int), (n : Int)⟩).where_.Second), i6 ((unl true 422 ⟨(k : Int), (n : Int)⟩).e), i6 ((unl true 422 ⟨(k : Int), (n : Int)⟩).where_.First), i6 ((unl true 422 ⟨(k : Int), (n : Int)⟩).where_.Second)] 73
abbrev qlnz_10 (b170 : Nat) (k : Nat) (n : Nat) (y23 : TWindow) : Ch := bk b170 #[i6 ((unl false 419 ⟨(k : Int), (n : Int)⟩).e), i6 ((unl false 419 ⟨(k : Int), (n : Int)⟩).where_.First), i6 ((unl false 419 ⟨(k : Int), (n : Int)⟩).where_.Second), i6 ((unl (win y23.Slack 82 16384) 420 ⟨(k : Int), (n : Int)⟩).e), i6 ((unl (win y23.Slack 82 16384) 420 ⟨(k : Int), (n : Int)⟩).where_.First), i6 ((unl (win y23.Slack 82 16384) 420 ⟨(k : Int), (n : Int)⟩).where_.Second), i6 ((unl true 422 ⟨(k : Int), (n : Int)⟩).e), i6 ((unl true 422 ⟨(k : Int), (n : Int)⟩).where_.First), i6 ((unl true 422 ⟨(k : Int), (n : Int)⟩).where_.Second)] 73
abbrev qlnz_11 (n159 : Nat) (k : Nat) (n : Nat) (y23 : TWindow) : Ch := bk n159 #[i6 ((unl false 419 ⟨(k : Int), (n : Int)⟩).e), i6 ((unl false 419 ⟨(k : Int), (n : Int)⟩).where_.First), i6 ((unl false 419 ⟨(k : Int), (n : Int)⟩).where_.Second), i6 ((unl (win y23.Slack 82 16384) 420 ⟨(k : Int), (n : Int)⟩).e), i6 ((unl (win y23.Slack 82 16384) 420 ⟨(k : Int), (n : Int)⟩).where_.First), i6 ((unl (win y23.Slack 82 16384) 420 ⟨(k : Int), (n : Int)⟩).where_.Second), i6 ((unl true 422 ⟨(k : Int), (n : Int)⟩).e), i6 ((unl true 422 ⟨(k : Int), (n : Int)⟩).where_.First), i6 ((unl true 422 ⟨(k : Int), (n : Int)⟩).where_.Second)] 73
abbrev qlnz_12 (b46 : Nat) (y23 : TWindow) (k : Nat) (n : Nat) : Ch := .blk b46 (.cells (Tfound.arr (fstW [(unl (win y23.Usable 1 16384) 419 ⟨(k : Int), (n : Int)⟩), (unl (win y23.Slack 82 16384) 420 ⟨(k : Int), (n : Int)⟩), (unl false 422 ⟨(k : Int), (n : Int)⟩)])) 73 (0, 0)) true
abbrev qlnz_13 (b52 : Nat) (y23 : TWindow) (k : Nat) (n : Nat) : Ch := .blk b52 (.cells (Tfound.arr (fstW [(unl (win y23.Usable 1 16384) 419 ⟨(k : Int), (n : Int)⟩), (unl (win y23.Slack 82 16384) 420 ⟨(k : Int), (n : Int)⟩), (unl false 422 ⟨(k : Int), (n : Int)⟩)])) 73 (0, 0)) true
abbrev qlnz_14 (b31 : Nat) (y23 : TWindow) (k : Nat) (n : Nat) : Ch := .blk b31 (.cells (Tfound.arr (fstW [(unl (win y23.Usable 1 16384) 419 ⟨(k : Int), (n : Int)⟩), (unl (win y23.Slack 82 16384) 420 ⟨(k : Int), (n : Int)⟩), (unl false 422 ⟨(k : Int), (n : Int)⟩)])) 73 (0, 0)) true
abbrev qlnz_15 (b85 : Nat) (y23 : TWindow) (k : Nat) (n : Nat) : Ch := .blk b85 (.cells (Tfound.arr (fstW [(unl (win y23.Usable 1 16384) 419 ⟨(k : Int), (n : Int)⟩), (unl (win y23.Slack 82 16384) 420 ⟨(k : Int), (n : Int)⟩), (unl true 422 ⟨(k : Int), (n : Int)⟩)])) 73 (0, 0)) true
abbrev qlnz_16 (b91 : Nat) (y23 : TWindow) (k : Nat) (n : Nat) : Ch := .blk b91 (.cells (Tfound.arr (fstW [(unl (win y23.Usable 1 16384) 419 ⟨(k : Int), (n : Int)⟩), (unl (win y23.Slack 82 16384) 420 ⟨(k : Int), (n : Int)⟩), (unl true 422 ⟨(k : Int), (n : Int)⟩)])) 73 (0, 0)) true
abbrev qlnz_17 (b70 : Nat) (y23 : TWindow) (k : Nat) (n : Nat) : Ch := .blk b70 (.cells (Tfound.arr (fstW [(unl (win y23.Usable 1 16384) 419 ⟨(k : Int), (n : Int)⟩), (unl (win y23.Slack 82 16384) 420 ⟨(k : Int), (n : Int)⟩), (unl true 422 ⟨(k : Int), (n : Int)⟩)])) 73 (0, 0)) true
abbrev qlnz_18 (b125 : Nat) (k : Nat) (n : Nat) (y23 : TWindow) : Ch := .blk b125 (.cells (Tfound.arr (fstW [(unl false 419 ⟨(k : Int), (n : Int)⟩), (unl (win y23.Slack 82 16384) 420 ⟨(k : Int), (n : Int)⟩), (unl false 422 ⟨(k : Int), (n : Int)⟩)])) 73 (0, 0)) true
abbrev qlnz_19 (b131 : Nat) (k : Nat) (n : Nat) (y23 : TWindow) : Ch := .blk b131 (.cells (Tfound.arr (fstW [(unl false 419 ⟨(k : Int), (n : Int)⟩), (unl (win y23.Slack 82 16384) 420 ⟨(k : Int), (n : Int)⟩), (unl false 422 ⟨(k : Int), (n : Int)⟩)])) 73 (0, 0)) true
abbrev qlnz_20 (b111 : Nat) (k : Nat) (n : Nat) (y23 : TWindow) : Ch := .blk b111 (.cells (Tfound.arr (fstW [(unl false 419 ⟨(k : Int), (n : Int)⟩), (unl (win y23.Slack 82 16384) 420 ⟨(k : Int), (n : Int)⟩), (unl false 422 ⟨(k : Int), (n : Int)⟩)])) 73 (0, 0)) true
abbrev qlnz_21 (b163 : Nat) (k : Nat) (n : Nat) (y23 : TWindow) : Ch := .blk b163 (.cells (Tfound.arr (fstW [(unl false 419 ⟨(k : Int), (n : Int)⟩), (unl (win y23.Slack 82 16384) 420 ⟨(k : Int), (n : Int)⟩), (unl true 422 ⟨(k : Int), (n : Int)⟩)])) 73 (0, 0)) true
abbrev qlnz_22 (b169 : Nat) (k : Nat) (n : Nat) (y23 : TWindow) : Ch := .blk b169 (.cells (Tfound.arr (fstW [(unl false 419 ⟨(k : Int), (n : Int)⟩), (unl (win y23.Slack 82 16384) 420 ⟨(k : Int), (n : Int)⟩), (unl true 422 ⟨(k : Int), (n : Int)⟩)])) 73 (0, 0)) true
abbrev qlnz_23 (b149 : Nat) (k : Nat) (n : Nat) (y23 : TWindow) : Ch := .blk b149 (.cells (Tfound.arr (fstW [(unl false 419 ⟨(k : Int), (n : Int)⟩), (unl (win y23.Slack 82 16384) 420 ⟨(k : Int), (n : Int)⟩), (unl true 422 ⟨(k : Int), (n : Int)⟩)])) 73 (0, 0)) true
abbrev qlnz_24 (z : Nat) : Ch := bk (z + 1) #[i6 0, i6 0, i6 0] 73
abbrev qlnz_25 (n14 : Nat) (y23 : TWindow) : Ch := bk n14 (TWindow.arr y23) 44
abbrev qlnz_26 (z : Nat) (c : TConfig) : Ch := bk z (TConfig.arr c) 26
abbrev qlnz_27 (y23 : TWindow) (k : Nat) (n : Nat) : Nat × Value := (65, .agg (Tfound.arr (fstW [(unl (win y23.Usable 1 16384) 419 ⟨(k : Int), (n : Int)⟩), (unl (win y23.Slack 82 16384) 420 ⟨(k : Int), (n : Int)⟩), (unl false 422 ⟨(k : Int), (n : Int)⟩)])))
abbrev qlnz_28 (y23 : TWindow) (k : Nat) (n : Nat) : Nat × Value := (65, .agg (Tfound.arr (fstW [(unl (win y23.Usable 1 16384) 419 ⟨(k : Int), (n : Int)⟩), (unl (win y23.Slack 82 16384) 420 ⟨(k : Int), (n : Int)⟩), (unl true 422 ⟨(k : Int), (n : Int)⟩)])))
abbrev qlnz_29 (k : Nat) (n : Nat) (y23 : TWindow) : Nat × Value := (65, .agg (Tfound.arr (fstW [(unl false 419 ⟨(k : Int), (n : Int)⟩), (unl (win y23.Slack 82 16384) 420 ⟨(k : Int), (n : Int)⟩), (unl false 422 ⟨(k : Int), (n : Int)⟩)])))
abbrev qlnz_30 (k : Nat) (n : Nat) (y23 : TWindow) : Nat × Value := (65, .agg (Tfound.arr (fstW [(unl false 419 ⟨(k : Int), (n : Int)⟩), (unl (win y23.Slack 82 16384) 420 ⟨(k : Int), (n : Int)⟩), (unl true 422 ⟨(k : Int), (n : Int)⟩)])))
abbrev qlnz_31 (y23 : TWindow) (k : Nat) (n : Nat) : Nat × Value := (46, .agg (Tfound.arr (unl (win y23.Usable 1 16384) 419 ⟨(k : Int), (n : Int)⟩)))
abbrev qlnz_32 (y23 : TWindow) (k : Nat) (n : Nat) : Nat × Value := (53, .agg (Tfound.arr (unl (win y23.Slack 82 16384) 420 ⟨(k : Int), (n : Int)⟩)))
abbrev qlnz_33 (k : Nat) (n : Nat) : Nat × Value := (63, .agg (Tfound.arr (unl false 422 ⟨(k : Int), (n : Int)⟩)))
abbrev qlnz_34 (k : Nat) (n : Nat) : Nat × Value := (46, .agg (Tfound.arr (unl false 419 ⟨(k : Int), (n : Int)⟩)))
abbrev qlnz_35 (k : Nat) (n : Nat) : Nat × Value := (63, .agg (Tfound.arr (unl true 422 ⟨(k : Int), (n : Int)⟩)))
abbrev qlnz_36 (c : TConfig) : Nat × Value := (36, i6 (((c.Partitions.xs.length : Nat) : Int) - 1))
abbrev qlnz_37 (b16 : Nat) (o17 : Nat) (y8 : Sl TWindow) : Nat × Value := (24, .slice (some ⟨b16, o17, none⟩) y8.xs.length y8.cap)
abbrev qlnz_38 (y8 : Sl TWindow) : Nat × Value := (25, i6 ((y8.xs.length : Nat) : Int))
abbrev qlnz_39 (z : Nat) : Nat × Value := (4, pt (z + 1))
abbrev qlnz_40 (y8 : Sl TWindow) : Nat × Value := (24, .slice y8.a y8.xs.length y8.cap)
abbrev qlnz_41 (c : TConfig) (k : Nat) (n : Nat) : Nat × Value := (5, i6 (sumW (corC c k).xs n))
abbrev qlnz_42 (n14 : Nat) : Nat × Value := (7, pt n14)
set_option maxHeartbeats 2000000 in
theorem core_calls (w : World) (hL : LaidAt w) (c : TConfig) (hc : TConfig.ok Any w c) (k : Nat) (hk : k < c.Cores.xs.length) : Calls Tryd.prog 52 #[.agg (TConfig.arr c), .int .i64 (k : Int)] w fun e w' => e = .returned (.agg (Tfound.arr (coreQ c k))) ∧ Keeps (fun _ => False) w w' := by
 obtain ⟨z, hz⟩ : ∃ z, z = w.heap.size := ⟨_, rfl⟩
 refine calls_G (args := [.agg (TConfig.arr c), i6 (k : Int)]) 85 ⟨w, z, [(old0 w)]⟩ Tryd.func52 rfl (by kernel_rfl) (by kernel_rfl) (sat_0 hz) ?_
 have hpl := hc.Cores.1.len; have hpp := hc.Partitions.1.len
 refine g_keep [0, 1] [(0, .agg (TConfig.arr c)), (1, i6 (k : Int))] ?_
 refine q_c 6 0 [] [[o0, o0]] [] [(1, i6 (k : Int)), (2, pt z), (qlnz_39 z)] ⟨w, z + 2, [(old0 w), (qlnz_26 z c), (qlnz_24 z)]⟩ rfl trivial ?_
 obtain ⟨b1, o2, ha3, hF5, hc4⟩ := (hc.Cores).1.all (show 0 < c.Cores.xs.length by omega)
 replace ha3 : c.Cores.a = some ⟨b1, o2, none⟩ := ha3
 have hc6 := hc4 k (show k < c.Cores.xs.length by omega)
 have he7 := (hc.Cores).2 k (show k < c.Cores.xs.length by omega)
 obtain ⟨y8, hy8⟩ : ∃ y_, y_ = gd c.Cores.xs k := ⟨_, rfl⟩
 rw [← hy8] at he7 hc6
 have hyly8 := he7.1.len
 refine q_cS 1 6 [] [[o0, ⟨.auto [.at 1], some (.slice (some ⟨b1, o2, none⟩) c.Cores.xs.length c.Cores.cap)⟩, o0, (oi k), (oa [.via 0 (.slice y8.a y8.xs.length y8.cap)]), o0]] [Qb z, Value.slice c.Cores.a c.Cores.xs.length c.Cores.cap = Value.slice (some ⟨b1, o2, none⟩) c.Cores.xs.length c.Cores.cap, ((k : Int) : Int) = ((k : Nat) : Int), k < c.Cores.xs.length, (none : Option Nat) = none, Old w b1 (o2 + k) (.slice y8.a y8.xs.length y8.cap)] [(1, i6 (k : Int)), (2, pt z), (qlnz_39 z), (14, i6 ((y8.xs.length : Nat) : Int))] rfl ⟨rfl, congrArg (fun a => Value.slice a _ _) ha3, rfl, (by omega), rfl, old_cell' (hc6 0 _ rfl), trivial⟩ ?_
 refine l_call [] [] 42 #[i6 ((y8.xs.length : Nat) : Int), i6 1, i6 16] (some 15) trivial ?_
 intro w9 hw9
 refine (within_calls w9 ((y8.xs.length : Nat) : Int) 1 16).mono ?_
 rintro e w10 ⟨rfl, hkw10⟩
 have hnw10 : z + 2 ≤ w10.heap.size := size_of hw9 hkw10
 refine ⟨_, _, rfl, hw9.keeps hkw10, ?_⟩
 refine l_keep [1, 2, 4, 15] [(1, i6 (k : Int)), (2, pt z), (qlnz_39 z), (15, .bool (win ((y8.xs.length : Nat) : Int) 1 16))] ?_
 by_cases h11 : (win ((y8.xs.length : Nat) : Int) 1 16) = true
 · have hd12 := win_yes h11
   refine q_rS 15 0 [0] [[(ov (.bool false))], [o0], [o0, ⟨.auto [.at 1], some (.slice (some ⟨b1, o2, none⟩) c.Cores.xs.length c.Cores.cap)⟩, o0, (oi k), (oa [.via 0 (.slice y8.a y8.xs.length y8.cap)]), o0, o0]] [Value.bool (!(win ((y8.xs.length : Nat) : Int) 1 16)) = Value.bool false, Qb z, Value.slice c.Cores.a c.Cores.xs.length c.Cores.cap = Value.slice (some ⟨b1, o2, none⟩) c.Cores.xs.length c.Cores.cap, ((k : Int) : Int) = ((k : Nat) : Int), k < c.Cores.xs.length, (none : Option Nat) = none, Old w b1 (o2 + k) (.slice y8.a y8.xs.length y8.cap)] [(1, i6 (k : Int)), (2, pt z), (qlnz_39 z), (5, i6 0), (qlnz_40 y8), (qlnz_38 y8), (26, i6 0)] rfl ⟨by simp [h11], rfl, congrArg (fun a => Value.slice a _ _) ha3, rfl, (by omega), rfl, old_cell' (hc6 0 _ rfl), trivial⟩ ?_
   refine g_loop (fun m a w' => ∃ (n14 : Nat) (n : Nat), m = y8.xs.length - n ∧ w10.heap.size ≤ n14 ∧ (n ≤ y8.xs.length) ∧ (∀ a, a < n → coreW c k a = fineF) ∧ (0 ≤ sumW (corC c k).xs n ∧ sumW (corC c k).xs n ≤ n * 32768) ∧ St 85 [(1, i6 (k : Int)), (2, pt z), (qlnz_39 z), (qlnz_41 c k n), (qlnz_40 y8), (qlnz_38 y8), (26, i6 (n : Int))] [] ⟨w, n14, [(old0 w), (qlnz_26 z c), (qlnz_24 z)]⟩ a w') (y8.xs.length - 0) ?_ ?_
   · intro a w' hs; exact ⟨w10.heap.size, 0, rfl, Nat.le_refl _, Nat.zero_le _, fun i hi => absurd hi (Nat.not_lt_zero i), by simp [sumW], hs⟩
   · rintro m a w' ⟨n14, n, rfl, hn13, hkn, hf, hsu, hs⟩
     refine (?_ : G Tryd.prog 85 [(1, i6 (k : Int)), (2, pt z), (qlnz_39 z), (qlnz_41 c k n), (qlnz_40 y8), (qlnz_38 y8), (26, i6 (n : Int))] [] ⟨w, n14, [(old0 w), (qlnz_26 z c), (qlnz_24 z)]⟩ _ _ _) a w' hs
     clear hs a w'
     refine g_seq ?_
     by_cases h15 : ((n : Int) : Int) < ((y8.xs.length : Nat) : Int)
     · refine q_cS 10 0 [1] [[oT]] [BT (((n : Int) : Int) < ((y8.xs.length : Nat) : Int))] [(1, i6 (k : Int)), (2, pt z), (qlnz_39 z), (qlnz_41 c k n), (qlnz_40 y8), (qlnz_38 y8), (26, i6 (n : Int)), (27, .bool true)] rfl ⟨bt (by omega), trivial⟩ ?_
       obtain ⟨b16, o17, ha18, hF20, hc19⟩ := (he7).1.all (show 0 < y8.xs.length by omega)
       replace ha18 : y8.a = some ⟨b16, o17, none⟩ := ha18
       refine g_eq [(1, i6 (k : Int)), (2, pt z), (qlnz_39 z), (qlnz_41 c k n), (qlnz_37 b16 o17 y8), (qlnz_38 y8), (26, i6 (n : Int)), (27, .bool true)] (by (try dsimp only [qlnz_0, qlnz_1, qlnz_2, qlnz_3, qlnz_4, qlnz_5, qlnz_6, qlnz_7, qlnz_8, qlnz_9, qlnz_10, qlnz_11, qlnz_12, qlnz_13, qlnz_14, qlnz_15, qlnz_16, qlnz_17, qlnz_18, qlnz_19, qlnz_20, qlnz_21, qlnz_22, qlnz_23, qlnz_24, qlnz_25, qlnz_26, qlnz_27, qlnz_28, qlnz_29, qlnz_30, qlnz_31, qlnz_32, qlnz_33, qlnz_34, qlnz_35, qlnz_36, qlnz_37, qlnz_38, qlnz_39, qlnz_40, qlnz_41, qlnz_42]); simp only [ha18]) ?_
       have hc21 := hc19 n (show n < y8.xs.length by omega)
       have he22 := (he7).2 n (show n < y8.xs.length by omega)
       obtain ⟨y23, hy23⟩ : ∃ y_, y_ = gd y8.xs n := ⟨_, rfl⟩
       rw [← hy23] at he22 hc21
       refine q_c 3 0 [] [[o0, (oi n), (ol 0 (TWindow.arr y23)), o0, o0, (an 3 3)]] [((n : Int) : Int) = ((n : Nat) : Int), n < y8.xs.length, (none : Option Nat) = none, OldR w b16 (o17 + n * 3) (TWindow.arr y23), Qb n14, Qb n14, Qb n14] [(1, i6 (k : Int)), (2, pt z), (qlnz_39 z), (qlnz_41 c k n), (qlnz_37 b16 o17 y8), (qlnz_38 y8), (26, i6 (n : Int)), (qlnz_42 n14), (6, i6 (n : Int))] ⟨w, n14 + 1, [(old0 w), (qlnz_26 z c), (qlnz_24 z), (qlnz_25 n14 y23)]⟩ rfl ⟨rfl, (by omega), rfl, old_row hc21, rfl, rfl, rfl, trivial⟩ ?_
       refine g_cut (fun a w' => ∃ (n24 : Nat) (b8 : Nat), n14 + 1 ≤ n24 ∧ St 85 [(1, i6 (k : Int)), (2, pt z), (qlnz_39 z), (qlnz_41 c k n), (qlnz_42 n14), (8, pt b8), (qlnz_37 b16 o17 y8), (qlnz_38 y8), (26, i6 (n : Int))] [] ⟨w, n24, [(old0 w), (qlnz_26 z c), (qlnz_24 z), (qlnz_25 n14 y23), (bk b8 (Tfound.arr (coreW c k n)) 73)]⟩ a w') ?_ ?_
       · by_cases h26 : (win y23.Partition (-1) (((c.Partitions.xs.length : Nat) : Int) - 1)) = true
         · have hd27 := win_yes h26
           by_cases h28 : (splitP c k y23.Partition) = true
           · refine g_draw 36 [0, 1, 2, 3] [(old0 w), (qlnz_26 z c), (qlnz_24 z), (qlnz_25 n14 y23)] rfl rfl ?_
             refine w_take [(0, o0), (1, (a1 3)), (2, o0), (3, (a1 1)), (4, o0), (5, (ov (i6 (((c.Partitions.xs.length : Nat) : Int) - 1)))), (12, o0), (13, o0), (16, o0), (17, (a1 3)), (19, o0), (20, o0), (23, (an 7 1)), (24, o0), (25, o0), (26, (a1 3)), (29, o0), (30, o0)] [1, 2, 4, 5, 24, 25, 26, 7, 32, 36, 43, 44, 48, 50, 51, 54, 55, 57, 60, 61] [Qb n14, Qb z, Wr ((((c.Partitions.xs.length : Nat) : Int) : Int) - 1) (((c.Partitions.xs.length : Nat) : Int) - 1), Qb n14, Qb z, Qb z, Qb z, Qb z, Qb z, Qb z, Qb z, Qb n14] [true, true, true, true, true, true, false, false, false, false, false, false, true, true, false, false, true, true, false, true, true, false, false, true, true, true, true, false, false, true, true, false, false, false, false, false, false] [(1, i6 (k : Int)), (2, pt z), (qlnz_39 z), (qlnz_41 c k n), (qlnz_37 b16 o17 y8), (qlnz_38 y8), (26, i6 (n : Int)), (qlnz_42 n14), (32, i6 y23.Partition), (qlnz_36 c), (43, i6 (k : Int)), (44, i6 (n : Int)), (48, i6 y23.Slack), (50, i6 (k : Int)), (51, i6 (n : Int)), (54, .agg (TConfig.arr c)), (55, i6 (k : Int)), (57, i6 y23.Partition), (60, i6 (k : Int)), (61, i6 (n : Int))] rfl (by as_aux_lemma => kernel_rfl) (by as_aux_lemma => kernel_rfl) ⟨rfl, rfl, wrI, rfl, rfl, rfl, rfl, rfl, rfl, rfl, rfl, rfl, trivial⟩ ?_
             refine w_join (fun x : {p : Nat × Nat × Nat // n14 + 1 ≤ p.1 ∧ n14 + 1 ≤ p.2.1 ∧ n14 + 1 ≤ p.2.2} => ([(1, i6 (k : Int)), (2, pt z), (qlnz_39 z), (qlnz_41 c k n), (qlnz_37 b16 o17 y8), (qlnz_38 y8), (26, i6 (n : Int)), (qlnz_42 n14), (8, pt x.1.2.2)], ⟨w, x.1.1, [(old0 w), (qlnz_26 z c), (qlnz_24 z), (qlnz_25 n14 y23), (.blk x.1.2.1 (.cells #[i6 ((unl (win y23.Usable 1 16384) 419 ⟨(k : Int), (n : Int)⟩).e), i6 ((unl (win y23.Usable 1 16384) 419 ⟨(k : Int), (n : Int)⟩).where_.First), i6 ((unl (win y23.Usable 1 16384) 419 ⟨(k : Int), (n : Int)⟩).where_.Second), i6 ((unl (win y23.Slack 82 16384) 420 ⟨(k : Int), (n : Int)⟩).e), i6 ((unl (win y23.Slack 82 16384) 420 ⟨(k : Int), (n : Int)⟩).where_.First), i6 ((unl (win y23.Slack 82 16384) 420 ⟨(k : Int), (n : Int)⟩).where_.Second), i6 ((unl false 422 ⟨(k : Int), (n : Int)⟩).e), i6 ((unl false 422 ⟨(k : Int), (n : Int)⟩).where_.First), i6 ((unl false 422 ⟨(k : Int), (n : Int)⟩).where_.Second)] 73 (0, 0)) true), (.blk x.1.2.2 (.cells (Tfound.arr (fstW [(unl (win y23.Usable 1 16384) 419 ⟨(k : Int), (n : Int)⟩), (unl (win y23.Slack 82 16384) 420 ⟨(k : Int), (n : Int)⟩), (unl false 422 ⟨(k : Int), (n : Int)⟩)])) 73 (0, 0)) true)]⟩)) (fun hK => ?_) ?_
             · refine w_chainF 35 8 [.cl 6 (.bool (win y23.Partition (-1) (((c.Partitions.xs.length : Nat) : Int) - 1))), .tk 7 (ov (.bool true)), .tk 8 o0, .tk 9 (a1 3), .cl 10 (.bool (win y23.Usable 1 16384)), .tk 11 o0, .cl 14 (.agg #[i6 (k : Int), i6 (n : Int)]), .cl 15 (.agg (Tfound.arr (unl (win y23.Usable 1 16384) 419 ⟨(k : Int), (n : Int)⟩))), .cl 18 (.bool (win y23.Slack 82 16384)), .cl 21 (.agg #[i6 (k : Int), i6 (n : Int)]), .cl 22 (.agg (Tfound.arr (unl (win y23.Slack 82 16384) 420 ⟨(k : Int), (n : Int)⟩))), .cl 27 (.bool (splitP c k y23.Partition)), .tk 28 (ov (.bool false)), .cl 31 (.agg #[i6 (k : Int), i6 (n : Int)]), .cl 32 (.agg (Tfound.arr (unl false 422 ⟨(k : Int), (n : Int)⟩)))] [1, 2, 4, 5, 24, 25, 26, 7, 46, 53, 63] [(42, #[i6 y23.Partition, i6 (-1), i6 (((c.Partitions.xs.length : Nat) : Int) - 1)], .bool (win y23.Partition (-1) (((c.Partitions.xs.length : Nat) : Int) - 1))), (42, #[i6 y23.Usable, i6 1, i6 16384], .bool (win y23.Usable 1 16384)), (70, #[i6 (k : Int), i6 (n : Int)], .agg #[i6 (k : Int), i6 (n : Int)]), (41, #[.bool (win y23.Usable 1 16384), i6 419, .agg #[i6 (k : Int), i6 (n : Int)]], .agg (Tfound.arr (unl (win y23.Usable 1 16384) 419 ⟨(k : Int), (n : Int)⟩))), (42, #[i6 y23.Slack, i6 82, i6 16384], .bool (win y23.Slack 82 16384)), (70, #[i6 (k : Int), i6 (n : Int)], .agg #[i6 (k : Int), i6 (n : Int)]), (41, #[.bool (win y23.Slack 82 16384), i6 420, .agg #[i6 (k : Int), i6 (n : Int)]], .agg (Tfound.arr (unl (win y23.Slack 82 16384) 420 ⟨(k : Int), (n : Int)⟩))), (72, #[.agg (TConfig.arr c), i6 (k : Int), i6 y23.Partition], .bool (splitP c k y23.Partition)), (70, #[i6 (k : Int), i6 (n : Int)], .agg #[i6 (k : Int), i6 (n : Int)]), (41, #[.bool false, i6 422, .agg #[i6 (k : Int), i6 (n : Int)]], .agg (Tfound.arr (unl false 422 ⟨(k : Int), (n : Int)⟩)))] [true, true, true, true, true, true, true, true, true, true, true, true, true, true, true, true, true, true, true, true, true, true, true, true, true, true, true, true, true, true, true, true, true, false, false, false, false] [Value.bool (win y23.Partition (-1) (((c.Partitions.xs.length : Nat) : Int) - 1)) = Value.bool true, Qb n14, Value.bool (!(splitP c k y23.Partition)) = Value.bool false] [(1, i6 (k : Int)), (2, pt z), (qlnz_39 z), (qlnz_41 c k n), (qlnz_37 b16 o17 y8), (qlnz_38 y8), (26, i6 (n : Int)), (qlnz_42 n14), (qlnz_31 y23 k n), (qlnz_32 y23 k n), (qlnz_33 k n)] (.cells #[i6 0, i6 0, i6 0] 73 (0, 0)) [0, 1, 2, 3] ⟨(congrArg Value.bool h26), rfl, by simp [h28], trivial⟩ ⟨fun w32 hw32 => within_calls w32 y23.Partition (-1) (((c.Partitions.xs.length : Nat) : Int) - 1), fun w33 hw33 => within_calls w33 y23.Usable 1 16384, fun w34 hw34 => both_calls w34 (k : Int) (n : Int), fun w35 hw35 => unless_calls w35 (hL.ext (hw35.ext rfl)) (win y23.Usable 1 16384) 419 (k : Int) (n : Int), fun w36 hw36 => within_calls w36 y23.Slack 82 16384, fun w37 hw37 => both_calls w37 (k : Int) (n : Int), fun w38 hw38 => unless_calls w38 (hL.ext (hw38.ext rfl)) (win y23.Slack 82 16384) 420 (k : Int) (n : Int), fun w39 hw39 => split_calls w39 c (hc.ext (hw39.ext rfl) (fun _ h => h)) k hk y23.Partition, fun w40 hw40 => both_calls w40 (k : Int) (n : Int), fun w41 hw41 => unless_calls w41 (hL.ext (hw41.ext rfl)) false 422 (k : Int) (n : Int), trivial⟩ ?_ (fun hv44 n42 hn43 => ?_)
               · rintro ⟨⟨n45, b46⟩, hb47⟩
                 simp only at hb47
                 refine w_one 33 (by as_aux_lemma => kernel_rfl) rfl ?_
                 refine wo_eff o0 [8, 1, 2, 4, 5, 24, 25, 26, 7, 64] [] [(8, pt b46), (1, i6 (k : Int)), (2, pt z), (qlnz_39 z), (qlnz_41 c k n), (qlnz_37 b16 o17 y8), (qlnz_38 y8), (26, i6 (n : Int)), (qlnz_42 n14), (64, .slice (some ⟨n45, 0, none⟩) 3 3)] ⟨w, n45 + 1, [(old0 w), (qlnz_26 z c), (qlnz_24 z), (qlnz_25 n14 y23), (bk b46 #[i6 0, i6 0, i6 0] 73), (qlnz_0 n45 y23 k n)]⟩ [0, 1, 2, 3] (by as_aux_lemma => kernel_rfl) rfl trivial (.inr rfl) ?_
                 refine w_one 34 (by as_aux_lemma => kernel_rfl) rfl ?_
                 refine wo_con 65 #[.slice (some ⟨n45, 0, none⟩) 3 3] (some 65) (.agg (Tfound.arr (fstW [(unl (win y23.Usable 1 16384) 419 ⟨(k : Int), (n : Int)⟩), (unl (win y23.Slack 82 16384) 420 ⟨(k : Int), (n : Int)⟩), (unl false 422 ⟨(k : Int), (n : Int)⟩)]))) [8, 1, 2, 4, 5, 24, 25, 26, 7, 65] [(8, pt b46), (1, i6 (k : Int)), (2, pt z), (qlnz_39 z), (qlnz_41 c k n), (qlnz_37 b16 o17 y8), (qlnz_38 y8), (26, i6 (n : Int)), (qlnz_42 n14), (qlnz_27 y23 k n)] [0, 1, 2, 3] (by as_aux_lemma => kernel_rfl) rfl rfl rfl (fun w48 hw48 => first_calls w48 (hL.ext (hw48.ext rfl)) ⟨some ⟨n45, 0, none⟩, 3, [(unl (win y23.Usable 1 16384) 419 ⟨(k : Int), (n : Int)⟩), (unl (win y23.Slack 82 16384) 420 ⟨(k : Int), (n : Int)⟩), (unl false 422 ⟨(k : Int), (n : Int)⟩)]⟩ (slok_blk hw48 (i := 5) [(unl (win y23.Usable 1 16384) 419 ⟨(k : Int), (n : Int)⟩), (unl (win y23.Slack 82 16384) 420 ⟨(k : Int), (n : Int)⟩), (unl false 422 ⟨(k : Int), (n : Int)⟩)]) (show 3 ≤ 1000 by decide)) (fun n49 hn50 => ?_)
                 replace hn50 : n45 + 1 ≤ n49 := hn50
                 refine w_one 36 (by as_aux_lemma => kernel_rfl) rfl ?_
                 refine wo_eff (an 3 4) [8, 1, 2, 4, 5, 24, 25, 26, 7] [Qb b46, Qb b46, Qb b46] [(8, pt b46), (1, i6 (k : Int)), (2, pt z), (qlnz_39 z), (qlnz_41 c k n), (qlnz_37 b16 o17 y8), (qlnz_38 y8), (26, i6 (n : Int)), (qlnz_42 n14)] ⟨w, n49, [(old0 w), (qlnz_26 z c), (qlnz_24 z), (qlnz_25 n14 y23), (qlnz_12 b46 y23 k n), (qlnz_0 n45 y23 k n)]⟩ [] (by as_aux_lemma => kernel_rfl) rfl ⟨rfl, rfl, rfl, trivial⟩ (.inl rfl) ?_
                 refine w_free 37 [0, 1, 2, 3, 4, 5] [(old0 w), (qlnz_26 z c), (qlnz_24 z), (qlnz_25 n14 y23), (qlnz_12 b46 y23 k n), (qlnz_0 n45 y23 k n)] rfl rfl ?_
                 refine w_done (by as_aux_lemma => kernel_rfl) ?_
                 refine e_keep [1, 2, 4, 5, 24, 25, 26, 7, 8] [(1, i6 (k : Int)), (2, pt z), (qlnz_39 z), (qlnz_41 c k n), (qlnz_37 b16 o17 y8), (qlnz_38 y8), (26, i6 (n : Int)), (qlnz_42 n14), (8, pt b46)] ?_
                 refine e_pick [0, 1, 2, 3, 5, 4] [(old0 w), (qlnz_26 z c), (qlnz_24 z), (qlnz_25 n14 y23), (qlnz_0 n45 y23 k n), (qlnz_12 b46 y23 k n)] rfl rfl ?_
                 exact hK ⟨(n49, n45, b46), by first | omega | (dsimp only; omega)⟩
               replace hn43 : n14 + 1 ≤ n42 := hn43
               refine w_via (fun x : {p : Nat × Nat × Nat // n42 ≤ p.1 ∧ n42 ≤ p.2.1 ∧ n42 ≤ p.2.2} => [(1, i6 (k : Int)), (2, pt z), (qlnz_39 z), (qlnz_41 c k n), (qlnz_37 b16 o17 y8), (qlnz_38 y8), (26, i6 (n : Int)), (qlnz_42 n14), (8, pt x.1.2.1), (qlnz_27 y23 k n)]) (fun x => ⟨w, x.1.1, [(old0 w), (qlnz_26 z c), (qlnz_24 z), (qlnz_25 n14 y23), (.blk x.1.2.1 (.cells #[i6 0, i6 0, i6 0] 73 (0, 0)) true), (.blk x.1.2.2 (.cells #[i6 ((unl (win y23.Usable 1 16384) 419 ⟨(k : Int), (n : Int)⟩).e), i6 ((unl (win y23.Usable 1 16384) 419 ⟨(k : Int), (n : Int)⟩).where_.First), i6 ((unl (win y23.Usable 1 16384) 419 ⟨(k : Int), (n : Int)⟩).where_.Second), i6 ((unl (win y23.Slack 82 16384) 420 ⟨(k : Int), (n : Int)⟩).e), i6 ((unl (win y23.Slack 82 16384) 420 ⟨(k : Int), (n : Int)⟩).where_.First), i6 ((unl (win y23.Slack 82 16384) 420 ⟨(k : Int), (n : Int)⟩).where_.Second), i6 ((unl false 422 ⟨(k : Int), (n : Int)⟩).e), i6 ((unl false 422 ⟨(k : Int), (n : Int)⟩).where_.First), i6 ((unl false 422 ⟨(k : Int), (n : Int)⟩).where_.Second)] 73 (0, 0)) true)]⟩) 1 [true, true, true, true, true, true, true, true, true, true, true, true, true, true, true, true, true, true, true, true, true, true, true, true, true, true, true, true, true, true, true, true, true, true, true, true, false] ?_ (fun hv54 => ?_)
               · rintro ⟨⟨n51, b52, b53⟩, hb55⟩
                 simp only at hb55
                 show Wg _ _ [(1, i6 (k : Int)), (2, pt z), (qlnz_39 z), (qlnz_41 c k n), (qlnz_37 b16 o17 y8), (qlnz_38 y8), (26, i6 (n : Int)), (qlnz_42 n14), (8, pt b52), (qlnz_27 y23 k n)] _ ⟨w, n51, [(old0 w), (qlnz_26 z c), (qlnz_24 z), (qlnz_25 n14 y23), (bk b52 #[i6 0, i6 0, i6 0] 73), (qlnz_1 b53 y23 k n)]⟩ _ _ _ _ _ _ _
                 refine w_one 36 (by as_aux_lemma => kernel_rfl) rfl ?_
                 refine wo_eff (an 3 4) [1, 2, 4, 5, 24, 25, 26, 7, 8] [Qb b52, Qb b52, Qb b52] [(1, i6 (k : Int)), (2, pt z), (qlnz_39 z), (qlnz_41 c k n), (qlnz_37 b16 o17 y8), (qlnz_38 y8), (26, i6 (n : Int)), (qlnz_42 n14), (8, pt b52)] ⟨w, n51, [(old0 w), (qlnz_26 z c), (qlnz_24 z), (qlnz_25 n14 y23), (qlnz_13 b52 y23 k n), (qlnz_1 b53 y23 k n)]⟩ [] (by as_aux_lemma => kernel_rfl) rfl ⟨rfl, rfl, rfl, trivial⟩ (.inl rfl) ?_
                 refine w_free 37 [0, 1, 2, 3, 4, 5] [(old0 w), (qlnz_26 z c), (qlnz_24 z), (qlnz_25 n14 y23), (qlnz_13 b52 y23 k n), (qlnz_1 b53 y23 k n)] rfl rfl ?_
                 refine w_done (by as_aux_lemma => kernel_rfl) ?_
                 refine e_keep [1, 2, 4, 5, 24, 25, 26, 7, 8] [(1, i6 (k : Int)), (2, pt z), (qlnz_39 z), (qlnz_41 c k n), (qlnz_37 b16 o17 y8), (qlnz_38 y8), (26, i6 (n : Int)), (qlnz_42 n14), (8, pt b52)] ?_
                 refine e_pick [0, 1, 2, 3, 5, 4] [(old0 w), (qlnz_26 z c), (qlnz_24 z), (qlnz_25 n14 y23), (qlnz_1 b53 y23 k n), (qlnz_13 b52 y23 k n)] rfl rfl ?_
                 exact hK ⟨(n51, b53, b52), by first | omega | (dsimp only; omega)⟩
               refine w_via (fun x : {p : Nat × Nat × Nat // n42 ≤ p.1 ∧ n42 ≤ p.2.1 ∧ n42 ≤ p.2.2} => [(1, i6 (k : Int)), (2, pt z), (qlnz_39 z), (qlnz_41 c k n), (qlnz_37 b16 o17 y8), (qlnz_38 y8), (26, i6 (n : Int)), (qlnz_42 n14), (8, pt x.1.2.1), (64, .slice (some ⟨x.1.2.2, 0, none⟩) 3 3)]) (fun x => ⟨w, x.1.1, [(old0 w), (qlnz_26 z c), (qlnz_24 z), (qlnz_25 n14 y23), (.blk x.1.2.1 (.cells #[i6 0, i6 0, i6 0] 73 (0, 0)) true), (.blk x.1.2.2 (.cells #[i6 ((unl (win y23.Usable 1 16384) 419 ⟨(k : Int), (n : Int)⟩).e), i6 ((unl (win y23.Usable 1 16384) 419 ⟨(k : Int), (n : Int)⟩).where_.First), i6 ((unl (win y23.Usable 1 16384) 419 ⟨(k : Int), (n : Int)⟩).where_.Second), i6 ((unl (win y23.Slack 82 16384) 420 ⟨(k : Int), (n : Int)⟩).e), i6 ((unl (win y23.Slack 82 16384) 420 ⟨(k : Int), (n : Int)⟩).where_.First), i6 ((unl (win y23.Slack 82 16384) 420 ⟨(k : Int), (n : Int)⟩).where_.Second), i6 ((unl false 422 ⟨(k : Int), (n : Int)⟩).e), i6 ((unl false 422 ⟨(k : Int), (n : Int)⟩).where_.First), i6 ((unl false 422 ⟨(k : Int), (n : Int)⟩).where_.Second)] 73 (0, 0)) true)]⟩) 2 [true, true, true, true, true, true, true, true, true, true, true, true, true, true, true, true, true, true, true, true, true, true, true, true, true, true, true, true, true, true, true, true, true, true, false, true, false] ?_ (fun hv59 => ?_)
               · rintro ⟨⟨n56, b57, b58⟩, hb60⟩
                 simp only at hb60
                 show Wg _ _ [(1, i6 (k : Int)), (2, pt z), (qlnz_39 z), (qlnz_41 c k n), (qlnz_37 b16 o17 y8), (qlnz_38 y8), (26, i6 (n : Int)), (qlnz_42 n14), (8, pt b57), (64, .slice (some ⟨b58, 0, none⟩) 3 3)] _ ⟨w, n56, [(old0 w), (qlnz_26 z c), (qlnz_24 z), (qlnz_25 n14 y23), (bk b57 #[i6 0, i6 0, i6 0] 73), (bk b58 #[i6 ((unl (win y23.Usable 1 16384) 419 ⟨(k : Int), (n : Int)⟩).e), i6 ((unl (win y23.Usable 1 16384) 419 ⟨(k : Int), (n : Int)⟩).where_.First), i6 ((unl (win y23.Usable 1 16384) 419 ⟨(k : Int), (n : Int)⟩).where_.Second), i6 ((unl (win y23.Slack 82 16384) 420 ⟨(k : Int), (n : Int)⟩).e), i6 ((unl (win y23.Slack 82 16384) 420 ⟨(k : Int), (n : Int)⟩).where_.First), i6 ((unl (win y23.Slack 82 16384) 420 ⟨(k : Int), (n : Int)⟩).where_.Second), i6 ((unl false 422 ⟨(k : Int), (n : Int)⟩).e), i6 ((unl false 422 ⟨(k : Int), (n : Int)⟩).where_.First), i6 ((unl false 422 ⟨(k : Int), (n : Int)⟩).where_.Second)] 73)]⟩ _ _ _ _ _ _ _
                 refine w_one 34 (by as_aux_lemma => kernel_rfl) rfl ?_
                 refine wo_con 65 #[.slice (some ⟨b58, 0, none⟩) 3 3] (some 65) (.agg (Tfound.arr (fstW [(unl (win y23.Usable 1 16384) 419 ⟨(k : Int), (n : Int)⟩), (unl (win y23.Slack 82 16384) 420 ⟨(k : Int), (n : Int)⟩), (unl false 422 ⟨(k : Int), (n : Int)⟩)]))) [1, 2, 4, 5, 24, 25, 26, 7, 8, 65] [(1, i6 (k : Int)), (2, pt z), (qlnz_39 z), (qlnz_41 c k n), (qlnz_37 b16 o17 y8), (qlnz_38 y8), (26, i6 (n : Int)), (qlnz_42 n14), (8, pt b57), (qlnz_27 y23 k n)] [0, 1, 2, 3] (by as_aux_lemma => kernel_rfl) rfl rfl rfl (fun w61 hw61 => first_calls w61 (hL.ext (hw61.ext rfl)) ⟨some ⟨b58, 0, none⟩, 3, [(unl (win y23.Usable 1 16384) 419 ⟨(k : Int), (n : Int)⟩), (unl (win y23.Slack 82 16384) 420 ⟨(k : Int), (n : Int)⟩), (unl false 422 ⟨(k : Int), (n : Int)⟩)]⟩ (slok_blk hw61 (i := 5) [(unl (win y23.Usable 1 16384) 419 ⟨(k : Int), (n : Int)⟩), (unl (win y23.Slack 82 16384) 420 ⟨(k : Int), (n : Int)⟩), (unl false 422 ⟨(k : Int), (n : Int)⟩)]) (show 3 ≤ 1000 by decide)) (fun n62 hn63 => ?_)
                 replace hn63 : n56 ≤ n62 := hn63
                 refine w_keep [1, 2, 4, 5, 24, 25, 26, 7, 8, 65] [(1, i6 (k : Int)), (2, pt z), (qlnz_39 z), (qlnz_41 c k n), (qlnz_37 b16 o17 y8), (qlnz_38 y8), (26, i6 (n : Int)), (qlnz_42 n14), (8, pt b57), (qlnz_27 y23 k n)] ?_
                 exact hv54 ⟨(n62, b57, b58), by first | omega | (dsimp only; omega)⟩
               refine w_all [33, 35] (by as_aux_lemma => kernel_rfl) rfl rfl ?_
               refine List.forall_mem_cons.2 ⟨?_, List.forall_mem_cons.2 ⟨?_, fun _ h => absurd h List.not_mem_nil⟩⟩
               · refine wo_eff o0 [1, 2, 4, 5, 24, 25, 26, 7, 64] [] [(1, i6 (k : Int)), (2, pt z), (qlnz_39 z), (qlnz_41 c k n), (qlnz_37 b16 o17 y8), (qlnz_38 y8), (26, i6 (n : Int)), (qlnz_42 n14), (64, .slice (some ⟨n42, 0, none⟩) 3 3)] ⟨w, n42 + 1, [(old0 w), (qlnz_26 z c), (qlnz_24 z), (qlnz_25 n14 y23), (qlnz_2 n42 y23 k n)]⟩ [0, 1, 2, 3] (by as_aux_lemma => kernel_rfl) rfl trivial (.inr rfl) ?_
                 refine w_all [34, 35] (by as_aux_lemma => kernel_rfl) rfl rfl ?_
                 refine List.forall_mem_cons.2 ⟨?_, List.forall_mem_cons.2 ⟨?_, fun _ h => absurd h List.not_mem_nil⟩⟩
                 · refine wo_con 65 #[.slice (some ⟨n42, 0, none⟩) 3 3] (some 65) (.agg (Tfound.arr (fstW [(unl (win y23.Usable 1 16384) 419 ⟨(k : Int), (n : Int)⟩), (unl (win y23.Slack 82 16384) 420 ⟨(k : Int), (n : Int)⟩), (unl false 422 ⟨(k : Int), (n : Int)⟩)]))) [1, 2, 4, 5, 24, 25, 26, 7, 65] [(1, i6 (k : Int)), (2, pt z), (qlnz_39 z), (qlnz_41 c k n), (qlnz_37 b16 o17 y8), (qlnz_38 y8), (26, i6 (n : Int)), (qlnz_42 n14), (qlnz_27 y23 k n)] [0, 1, 2, 3] (by as_aux_lemma => kernel_rfl) rfl rfl rfl (fun w64 hw64 => first_calls w64 (hL.ext (hw64.ext rfl)) ⟨some ⟨n42, 0, none⟩, 3, [(unl (win y23.Usable 1 16384) 419 ⟨(k : Int), (n : Int)⟩), (unl (win y23.Slack 82 16384) 420 ⟨(k : Int), (n : Int)⟩), (unl false 422 ⟨(k : Int), (n : Int)⟩)]⟩ (slok_blk hw64 (i := 4) [(unl (win y23.Usable 1 16384) 419 ⟨(k : Int), (n : Int)⟩), (unl (win y23.Slack 82 16384) 420 ⟨(k : Int), (n : Int)⟩), (unl false 422 ⟨(k : Int), (n : Int)⟩)]) (show 3 ≤ 1000 by decide)) (fun n65 hn66 => ?_)
                   replace hn66 : n42 + 1 ≤ n65 := hn66
                   refine w_one 35 (by as_aux_lemma => kernel_rfl) rfl ?_
                   refine wo_eff o0 [1, 2, 4, 5, 24, 25, 26, 7, 65, 8] [] [(1, i6 (k : Int)), (2, pt z), (qlnz_39 z), (qlnz_41 c k n), (qlnz_37 b16 o17 y8), (qlnz_38 y8), (26, i6 (n : Int)), (qlnz_42 n14), (qlnz_27 y23 k n), (8, pt n65)] ⟨w, n65 + 1, [(old0 w), (qlnz_26 z c), (qlnz_24 z), (qlnz_25 n14 y23), (qlnz_2 n42 y23 k n), (bk n65 #[i6 0, i6 0, i6 0] 73)]⟩ [0, 1, 2, 3] (by as_aux_lemma => kernel_rfl) rfl trivial (.inr rfl) ?_
                   refine w_pick [0, 1, 2, 3, 5, 4] [(old0 w), (qlnz_26 z c), (qlnz_24 z), (qlnz_25 n14 y23), (bk n65 #[i6 0, i6 0, i6 0] 73), (qlnz_2 n42 y23 k n)] rfl rfl ?_
                   refine w_keep [1, 2, 4, 5, 24, 25, 26, 7, 8, 65] [(1, i6 (k : Int)), (2, pt z), (qlnz_39 z), (qlnz_41 c k n), (qlnz_37 b16 o17 y8), (qlnz_38 y8), (26, i6 (n : Int)), (qlnz_42 n14), (8, pt n65), (qlnz_27 y23 k n)] ?_
                   exact hv54 ⟨(n65 + 1, n65, n42), by first | omega | (dsimp only; omega)⟩
                 · refine wo_eff o0 [1, 2, 4, 5, 24, 25, 26, 7, 64, 8] [] [(1, i6 (k : Int)), (2, pt z), (qlnz_39 z), (qlnz_41 c k n), (qlnz_37 b16 o17 y8), (qlnz_38 y8), (26, i6 (n : Int)), (qlnz_42 n14), (64, .slice (some ⟨n42, 0, none⟩) 3 3), (8, pt (n42 + 1))] ⟨w, n42 + 2, [(old0 w), (qlnz_26 z c), (qlnz_24 z), (qlnz_25 n14 y23), (qlnz_2 n42 y23 k n), (bk (n42 + 1) #[i6 0, i6 0, i6 0] 73)]⟩ [0, 1, 2, 3] (by as_aux_lemma => kernel_rfl) rfl trivial (.inr rfl) ?_
                   refine w_pick [0, 1, 2, 3, 5, 4] [(old0 w), (qlnz_26 z c), (qlnz_24 z), (qlnz_25 n14 y23), (bk (n42 + 1) #[i6 0, i6 0, i6 0] 73), (qlnz_2 n42 y23 k n)] rfl rfl ?_
                   refine w_keep [1, 2, 4, 5, 24, 25, 26, 7, 8, 64] [(1, i6 (k : Int)), (2, pt z), (qlnz_39 z), (qlnz_41 c k n), (qlnz_37 b16 o17 y8), (qlnz_38 y8), (26, i6 (n : Int)), (qlnz_42 n14), (8, pt (n42 + 1)), (64, .slice (some ⟨n42, 0, none⟩) 3 3)] ?_
                   exact hv59 ⟨(n42 + 2, n42 + 1, n42), by first | omega | (dsimp only; omega)⟩
               · refine wo_eff o0 [1, 2, 4, 5, 24, 25, 26, 7, 46, 53, 63, 8] [] [(1, i6 (k : Int)), (2, pt z), (qlnz_39 z), (qlnz_41 c k n), (qlnz_37 b16 o17 y8), (qlnz_38 y8), (26, i6 (n : Int)), (qlnz_42 n14), (qlnz_31 y23 k n), (qlnz_32 y23 k n), (qlnz_33 k n), (8, pt n42)] ⟨w, n42 + 1, [(old0 w), (qlnz_26 z c), (qlnz_24 z), (qlnz_25 n14 y23), (bk n42 #[i6 0, i6 0, i6 0] 73)]⟩ [0, 1, 2, 3] (by as_aux_lemma => kernel_rfl) rfl trivial (.inr rfl) ?_
                 refine w_keep [8, 1, 2, 4, 5, 24, 25, 26, 7, 46, 53, 63] [(8, pt n42), (1, i6 (k : Int)), (2, pt z), (qlnz_39 z), (qlnz_41 c k n), (qlnz_37 b16 o17 y8), (qlnz_38 y8), (26, i6 (n : Int)), (qlnz_42 n14), (qlnz_31 y23 k n), (qlnz_32 y23 k n), (qlnz_33 k n)] ?_
                 exact hv44 ⟨(n42 + 1, n42), by first | omega | (dsimp only; omega)⟩
             rintro ⟨⟨n29, b30, b31⟩, hJ67⟩
             simp only at hJ67
             show E _ _ [(1, i6 (k : Int)), (2, pt z), (qlnz_39 z), (qlnz_41 c k n), (qlnz_37 b16 o17 y8), (qlnz_38 y8), (26, i6 (n : Int)), (qlnz_42 n14), (8, pt b31)] _ ⟨w, n29, [(old0 w), (qlnz_26 z c), (qlnz_24 z), (qlnz_25 n14 y23), (bk b30 #[i6 ((unl (win y23.Usable 1 16384) 419 ⟨(k : Int), (n : Int)⟩).e), i6 ((unl (win y23.Usable 1 16384) 419 ⟨(k : Int), (n : Int)⟩).where_.First), i6 ((unl (win y23.Usable 1 16384) 419 ⟨(k : Int), (n : Int)⟩).where_.Second), i6 ((unl (win y23.Slack 82 16384) 420 ⟨(k : Int), (n : Int)⟩).e), i6 ((unl (win y23.Slack 82 16384) 420 ⟨(k : Int), (n : Int)⟩).where_.First), i6 ((unl (win y23.Slack 82 16384) 420 ⟨(k : Int), (n : Int)⟩).where_.Second), i6 ((unl false 422 ⟨(k : Int), (n : Int)⟩).e), i6 ((unl false 422 ⟨(k : Int), (n : Int)⟩).where_.First), i6 ((unl false 422 ⟨(k : Int), (n : Int)⟩).where_.Second)] 73), (qlnz_14 b31 y23 k n)]⟩ _ _ _
             refine e_pick [0, 1, 2, 3, 5] [(old0 w), (qlnz_26 z c), (qlnz_24 z), (qlnz_25 n14 y23), (qlnz_14 b31 y23 k n)] rfl rfl ?_
             have e0 : gd (corC c k).xs n = y23 := (by rw [hy23, hy8])
             have eA : coreW c k n = (fstW [(unl (win y23.Usable 1 16384) 419 ⟨(k : Int), (n : Int)⟩), (unl (win y23.Slack 82 16384) 420 ⟨(k : Int), (n : Int)⟩), (unl false 422 ⟨(k : Int), (n : Int)⟩)]) := (by unfold coreW coreA; simp only [e0]; simp [h26, h28])
             refine e_keep [1, 2, 4, 5, 7, 8, 24, 25, 26] [(1, i6 (k : Int)), (2, pt z), (qlnz_39 z), (qlnz_41 c k n), (qlnz_42 n14), (8, pt b31), (qlnz_37 b16 o17 y8), (qlnz_38 y8), (26, i6 (n : Int))] ?_
             refine e_inv (fun a w' hs => ⟨n29, b31, by omega, (by (try dsimp only [qlnz_0, qlnz_1, qlnz_2, qlnz_3, qlnz_4, qlnz_5, qlnz_6, qlnz_7, qlnz_8, qlnz_9, qlnz_10, qlnz_11, qlnz_12, qlnz_13, qlnz_14, qlnz_15, qlnz_16, qlnz_17, qlnz_18, qlnz_19, qlnz_20, qlnz_21, qlnz_22, qlnz_23, qlnz_24, qlnz_25, qlnz_26, qlnz_27, qlnz_28, qlnz_29, qlnz_30, qlnz_31, qlnz_32, qlnz_33, qlnz_34, qlnz_35, qlnz_36, qlnz_37, qlnz_38, qlnz_39, qlnz_40, qlnz_41, qlnz_42] at hs ⊢); rw [eA]; exact hs)⟩)
           · refine g_draw 36 [0, 1, 2, 3] [(old0 w), (qlnz_26 z c), (qlnz_24 z), (qlnz_25 n14 y23)] rfl rfl ?_
             refine w_take [(0, o0), (1, (a1 3)), (2, o0), (3, (a1 1)), (4, o0), (5, (ov (i6 (((c.Partitions.xs.length : Nat) : Int) - 1)))), (12, o0), (13, o0), (16, o0), (17, (a1 3)), (19, o0), (20, o0), (23, (an 7 1)), (24, o0), (25, o0), (26, (a1 3)), (29, o0), (30, o0)] [1, 2, 4, 5, 24, 25, 26, 7, 32, 36, 43, 44, 48, 50, 51, 54, 55, 57, 60, 61] [Qb n14, Qb z, Wr ((((c.Partitions.xs.length : Nat) : Int) : Int) - 1) (((c.Partitions.xs.length : Nat) : Int) - 1), Qb n14, Qb z, Qb z, Qb z, Qb z, Qb z, Qb z, Qb z, Qb n14] [true, true, true, true, true, true, false, false, false, false, false, false, true, true, false, false, true, true, false, true, true, false, false, true, true, true, true, false, false, true, true, false, false, false, false, false, false] [(1, i6 (k : Int)), (2, pt z), (qlnz_39 z), (qlnz_41 c k n), (qlnz_37 b16 o17 y8), (qlnz_38 y8), (26, i6 (n : Int)), (qlnz_42 n14), (32, i6 y23.Partition), (qlnz_36 c), (43, i6 (k : Int)), (44, i6 (n : Int)), (48, i6 y23.Slack), (50, i6 (k : Int)), (51, i6 (n : Int)), (54, .agg (TConfig.arr c)), (55, i6 (k : Int)), (57, i6 y23.Partition), (60, i6 (k : Int)), (61, i6 (n : Int))] rfl (by as_aux_lemma => kernel_rfl) (by as_aux_lemma => kernel_rfl) ⟨rfl, rfl, wrI, rfl, rfl, rfl, rfl, rfl, rfl, rfl, rfl, rfl, trivial⟩ ?_
             refine w_join (fun x : {p : Nat × Nat × Nat // n14 + 1 ≤ p.1 ∧ n14 + 1 ≤ p.2.1 ∧ n14 + 1 ≤ p.2.2} => ([(1, i6 (k : Int)), (2, pt z), (qlnz_39 z), (qlnz_41 c k n), (qlnz_37 b16 o17 y8), (qlnz_38 y8), (26, i6 (n : Int)), (qlnz_42 n14), (8, pt x.1.2.2)], ⟨w, x.1.1, [(old0 w), (qlnz_26 z c), (qlnz_24 z), (qlnz_25 n14 y23), (.blk x.1.2.1 (.cells #[i6 ((unl (win y23.Usable 1 16384) 419 ⟨(k : Int), (n : Int)⟩).e), i6 ((unl (win y23.Usable 1 16384) 419 ⟨(k : Int), (n : Int)⟩).where_.First), i6 ((unl (win y23.Usable 1 16384) 419 ⟨(k : Int), (n : Int)⟩).where_.Second), i6 ((unl (win y23.Slack 82 16384) 420 ⟨(k : Int), (n : Int)⟩).e), i6 ((unl (win y23.Slack 82 16384) 420 ⟨(k : Int), (n : Int)⟩).where_.First), i6 ((unl (win y23.Slack 82 16384) 420 ⟨(k : Int), (n : Int)⟩).where_.Second), i6 ((unl true 422 ⟨(k : Int), (n : Int)⟩).e), i6 ((unl true 422 ⟨(k : Int), (n : Int)⟩).where_.First), i6 ((unl true 422 ⟨(k : Int), (n : Int)⟩).where_.Second)] 73 (0, 0)) true), (.blk x.1.2.2 (.cells (Tfound.arr (fstW [(unl (win y23.Usable 1 16384) 419 ⟨(k : Int), (n : Int)⟩), (unl (win y23.Slack 82 16384) 420 ⟨(k : Int), (n : Int)⟩), (unl true 422 ⟨(k : Int), (n : Int)⟩)])) 73 (0, 0)) true)]⟩)) (fun hK => ?_) ?_
             · refine w_chainF 35 8 [.cl 6 (.bool (win y23.Partition (-1) (((c.Partitions.xs.length : Nat) : Int) - 1))), .tk 7 (ov (.bool true)), .tk 8 o0, .tk 9 (a1 3), .cl 10 (.bool (win y23.Usable 1 16384)), .tk 11 o0, .cl 14 (.agg #[i6 (k : Int), i6 (n : Int)]), .cl 15 (.agg (Tfound.arr (unl (win y23.Usable 1 16384) 419 ⟨(k : Int), (n : Int)⟩))), .cl 18 (.bool (win y23.Slack 82 16384)), .cl 21 (.agg #[i6 (k : Int), i6 (n : Int)]), .cl 22 (.agg (Tfound.arr (unl (win y23.Slack 82 16384) 420 ⟨(k : Int), (n : Int)⟩))), .cl 27 (.bool (splitP c k y23.Partition)), .tk 28 (ov (.bool true)), .cl 31 (.agg #[i6 (k : Int), i6 (n : Int)]), .cl 32 (.agg (Tfound.arr (unl true 422 ⟨(k : Int), (n : Int)⟩)))] [1, 2, 4, 5, 24, 25, 26, 7, 46, 53, 63] [(42, #[i6 y23.Partition, i6 (-1), i6 (((c.Partitions.xs.length : Nat) : Int) - 1)], .bool (win y23.Partition (-1) (((c.Partitions.xs.length : Nat) : Int) - 1))), (42, #[i6 y23.Usable, i6 1, i6 16384], .bool (win y23.Usable 1 16384)), (70, #[i6 (k : Int), i6 (n : Int)], .agg #[i6 (k : Int), i6 (n : Int)]), (41, #[.bool (win y23.Usable 1 16384), i6 419, .agg #[i6 (k : Int), i6 (n : Int)]], .agg (Tfound.arr (unl (win y23.Usable 1 16384) 419 ⟨(k : Int), (n : Int)⟩))), (42, #[i6 y23.Slack, i6 82, i6 16384], .bool (win y23.Slack 82 16384)), (70, #[i6 (k : Int), i6 (n : Int)], .agg #[i6 (k : Int), i6 (n : Int)]), (41, #[.bool (win y23.Slack 82 16384), i6 420, .agg #[i6 (k : Int), i6 (n : Int)]], .agg (Tfound.arr (unl (win y23.Slack 82 16384) 420 ⟨(k : Int), (n : Int)⟩))), (72, #[.agg (TConfig.arr c), i6 (k : Int), i6 y23.Partition], .bool (splitP c k y23.Partition)), (70, #[i6 (k : Int), i6 (n : Int)], .agg #[i6 (k : Int), i6 (n : Int)]), (41, #[.bool true, i6 422, .agg #[i6 (k : Int), i6 (n : Int)]], .agg (Tfound.arr (unl true 422 ⟨(k : Int), (n : Int)⟩)))] [true, true, true, true, true, true, true, true, true, true, true, true, true, true, true, true, true, true, true, true, true, true, true, true, true, true, true, true, true, true, true, true, true, false, false, false, false] [Value.bool (win y23.Partition (-1) (((c.Partitions.xs.length : Nat) : Int) - 1)) = Value.bool true, Qb n14, Value.bool (!(splitP c k y23.Partition)) = Value.bool true] [(1, i6 (k : Int)), (2, pt z), (qlnz_39 z), (qlnz_41 c k n), (qlnz_37 b16 o17 y8), (qlnz_38 y8), (26, i6 (n : Int)), (qlnz_42 n14), (qlnz_31 y23 k n), (qlnz_32 y23 k n), (qlnz_35 k n)] (.cells #[i6 0, i6 0, i6 0] 73 (0, 0)) [0, 1, 2, 3] ⟨(congrArg Value.bool h26), rfl, by simp [h28], trivial⟩ ⟨fun w71 hw71 => within_calls w71 y23.Partition (-1) (((c.Partitions.xs.length : Nat) : Int) - 1), fun w72 hw72 => within_calls w72 y23.Usable 1 16384, fun w73 hw73 => both_calls w73 (k : Int) (n : Int), fun w74 hw74 => unless_calls w74 (hL.ext (hw74.ext rfl)) (win y23.Usable 1 16384) 419 (k : Int) (n : Int), fun w75 hw75 => within_calls w75 y23.Slack 82 16384, fun w76 hw76 => both_calls w76 (k : Int) (n : Int), fun w77 hw77 => unless_calls w77 (hL.ext (hw77.ext rfl)) (win y23.Slack 82 16384) 420 (k : Int) (n : Int), fun w78 hw78 => split_calls w78 c (hc.ext (hw78.ext rfl) (fun _ h => h)) k hk y23.Partition, fun w79 hw79 => both_calls w79 (k : Int) (n : Int), fun w80 hw80 => unless_calls w80 (hL.ext (hw80.ext rfl)) true 422 (k : Int) (n : Int), trivial⟩ ?_ (fun hv83 n81 hn82 => ?_)
               · rintro ⟨⟨n84, b85⟩, hb86⟩
                 simp only at hb86
                 refine w_one 33 (by as_aux_lemma => kernel_rfl) rfl ?_
                 refine wo_eff o0 [8, 1, 2, 4, 5, 24, 25, 26, 7, 64] [] [(8, pt b85), (1, i6 (k : Int)), (2, pt z), (qlnz_39 z), (qlnz_41 c k n), (qlnz_37 b16 o17 y8), (qlnz_38 y8), (26, i6 (n : Int)), (qlnz_42 n14), (64, .slice (some ⟨n84, 0, none⟩) 3 3)] ⟨w, n84 + 1, [(old0 w), (qlnz_26 z c), (qlnz_24 z), (qlnz_25 n14 y23), (bk b85 #[i6 0, i6 0, i6 0] 73), (qlnz_3 n84 y23 k n)]⟩ [0, 1, 2, 3] (by as_aux_lemma => kernel_rfl) rfl trivial (.inr rfl) ?_
                 refine w_one 34 (by as_aux_lemma => kernel_rfl) rfl ?_
                 refine wo_con 65 #[.slice (some ⟨n84, 0, none⟩) 3 3] (some 65) (.agg (Tfound.arr (fstW [(unl (win y23.Usable 1 16384) 419 ⟨(k : Int), (n : Int)⟩), (unl (win y23.Slack 82 16384) 420 ⟨(k : Int), (n : Int)⟩), (unl true 422 ⟨(k : Int), (n : Int)⟩)]))) [8, 1, 2, 4, 5, 24, 25, 26, 7, 65] [(8, pt b85), (1, i6 (k : Int)), (2, pt z), (qlnz_39 z), (qlnz_41 c k n), (qlnz_37 b16 o17 y8), (qlnz_38 y8), (26, i6 (n : Int)), (qlnz_42 n14), (qlnz_28 y23 k n)] [0, 1, 2, 3] (by as_aux_lemma => kernel_rfl) rfl rfl rfl (fun w87 hw87 => first_calls w87 (hL.ext (hw87.ext rfl)) ⟨some ⟨n84, 0, none⟩, 3, [(unl (win y23.Usable 1 16384) 419 ⟨(k : Int), (n : Int)⟩), (unl (win y23.Slack 82 16384) 420 ⟨(k : Int), (n : Int)⟩), (unl true 422 ⟨(k : Int), (n : Int)⟩)]⟩ (slok_blk hw87 (i := 5) [(unl (win y23.Usable 1 16384) 419 ⟨(k : Int), (n : Int)⟩), (unl (win y23.Slack 82 16384) 420 ⟨(k : Int), (n : Int)⟩), (unl true 422 ⟨(k : Int), (n : Int)⟩)]) (show 3 ≤ 1000 by decide)) (fun n88 hn89 => ?_)
                 replace hn89 : n84 + 1 ≤ n88 := hn89
                 refine w_one 36 (by as_aux_lemma => kernel_rfl) rfl ?_
                 refine wo_eff (an 3 4) [8, 1, 2, 4, 5, 24, 25, 26, 7] [Qb b85, Qb b85, Qb b85] [(8, pt b85), (1, i6 (k : Int)), (2, pt z), (qlnz_39 z), (qlnz_41 c k n), (qlnz_37 b16 o17 y8), (qlnz_38 y8), (26, i6 (n : Int)), (qlnz_42 n14)] ⟨w, n88, [(old0 w), (qlnz_26 z c), (qlnz_24 z), (qlnz_25 n14 y23), (qlnz_15 b85 y23 k n), (qlnz_3 n84 y23 k n)]⟩ [] (by as_aux_lemma => kernel_rfl) rfl ⟨rfl, rfl, rfl, trivial⟩ (.inl rfl) ?_
                 refine w_free 37 [0, 1, 2, 3, 4, 5] [(old0 w), (qlnz_26 z c), (qlnz_24 z), (qlnz_25 n14 y23), (qlnz_15 b85 y23 k n), (qlnz_3 n84 y23 k n)] rfl rfl ?_
                 refine w_done (by as_aux_lemma => kernel_rfl) ?_
                 refine e_keep [1, 2, 4, 5, 24, 25, 26, 7, 8] [(1, i6 (k : Int)), (2, pt z), (qlnz_39 z), (qlnz_41 c k n), (qlnz_37 b16 o17 y8), (qlnz_38 y8), (26, i6 (n : Int)), (qlnz_42 n14), (8, pt b85)] ?_
                 refine e_pick [0, 1, 2, 3, 5, 4] [(old0 w), (qlnz_26 z c), (qlnz_24 z), (qlnz_25 n14 y23), (qlnz_3 n84 y23 k n), (qlnz_15 b85 y23 k n)] rfl rfl ?_
                 exact hK ⟨(n88, n84, b85), by first | omega | (dsimp only; omega)⟩
               replace hn82 : n14 + 1 ≤ n81 := hn82
               refine w_via (fun x : {p : Nat × Nat × Nat // n81 ≤ p.1 ∧ n81 ≤ p.2.1 ∧ n81 ≤ p.2.2} => [(1, i6 (k : Int)), (2, pt z), (qlnz_39 z), (qlnz_41 c k n), (qlnz_37 b16 o17 y8), (qlnz_38 y8), (26, i6 (n : Int)), (qlnz_42 n14), (8, pt x.1.2.1), (qlnz_28 y23 k n)]) (fun x => ⟨w, x.1.1, [(old0 w), (qlnz_26 z c), (qlnz_24 z), (qlnz_25 n14 y23), (.blk x.1.2.1 (.cells #[i6 0, i6 0, i6 0] 73 (0, 0)) true), (.blk x.1.2.2 (.cells #[i6 ((unl (win y23.Usable 1 16384) 419 ⟨(k : Int), (n : Int)⟩).e), i6 ((unl (win y23.Usable 1 16384) 419 ⟨(k : Int), (n : Int)⟩).where_.First), i6 ((unl (win y23.Usable 1 16384) 419 ⟨(k : Int), (n : Int)⟩).where_.Second), i6 ((unl (win y23.Slack 82 16384) 420 ⟨(k : Int), (n : Int)⟩).e), i6 ((unl (win y23.Slack 82 16384) 420 ⟨(k : Int), (n : Int)⟩).where_.First), i6 ((unl (win y23.Slack 82 16384) 420 ⟨(k : Int), (n : Int)⟩).where_.Second), i6 ((unl true 422 ⟨(k : Int), (n : Int)⟩).e), i6 ((unl true 422 ⟨(k : Int), (n : Int)⟩).where_.First), i6 ((unl true 422 ⟨(k : Int), (n : Int)⟩).where_.Second)] 73 (0, 0)) true)]⟩) 1 [true, true, true, true, true, true, true, true, true, true, true, true, true, true, true, true, true, true, true, true, true, true, true, true, true, true, true, true, true, true, true, true, true, true, true, true, false] ?_ (fun hv93 => ?_)
               · rintro ⟨⟨n90, b91, b92⟩, hb94⟩
                 simp only at hb94
                 show Wg _ _ [(1, i6 (k : Int)), (2, pt z), (qlnz_39 z), (qlnz_41 c k n), (qlnz_37 b16 o17 y8), (qlnz_38 y8), (26, i6 (n : Int)), (qlnz_42 n14), (8, pt b91), (qlnz_28 y23 k n)] _ ⟨w, n90, [(old0 w), (qlnz_26 z c), (qlnz_24 z), (qlnz_25 n14 y23), (bk b91 #[i6 0, i6 0, i6 0] 73), (qlnz_4 b92 y23 k n)]⟩ _ _ _ _ _ _ _
                 refine w_one 36 (by as_aux_lemma => kernel_rfl) rfl ?_
                 refine wo_eff (an 3 4) [1, 2, 4, 5, 24, 25, 26, 7, 8] [Qb b91, Qb b91, Qb b91] [(1, i6 (k : Int)), (2, pt z), (qlnz_39 z), (qlnz_41 c k n), (qlnz_37 b16 o17 y8), (qlnz_38 y8), (26, i6 (n : Int)), (qlnz_42 n14), (8, pt b91)] ⟨w, n90, [(old0 w), (qlnz_26 z c), (qlnz_24 z), (qlnz_25 n14 y23), (qlnz_16 b91 y23 k n), (qlnz_4 b92 y23 k n)]⟩ [] (by as_aux_lemma => kernel_rfl) rfl ⟨rfl, rfl, rfl, trivial⟩ (.inl rfl) ?_
                 refine w_free 37 [0, 1, 2, 3, 4, 5] [(old0 w), (qlnz_26 z c), (qlnz_24 z), (qlnz_25 n14 y23), (qlnz_16 b91 y23 k n), (qlnz_4 b92 y23 k n)] rfl rfl ?_
                 refine w_done (by as_aux_lemma => kernel_rfl) ?_
                 refine e_keep [1, 2, 4, 5, 24, 25, 26, 7, 8] [(1, i6 (k : Int)), (2, pt z), (qlnz_39 z), (qlnz_41 c k n), (qlnz_37 b16 o17 y8), (qlnz_38 y8), (26, i6 (n : Int)), (qlnz_42 n14), (8, pt b91)] ?_
                 refine e_pick [0, 1, 2, 3, 5, 4] [(old0 w), (qlnz_26 z c), (qlnz_24 z), (qlnz_25 n14 y23), (qlnz_4 b92 y23 k n), (qlnz_16 b91 y23 k n)] rfl rfl ?_
                 exact hK ⟨(n90, b92, b91), by first | omega | (dsimp only; omega)⟩
               refine w_via (fun x : {p : Nat × Nat × Nat // n81 ≤ p.1 ∧ n81 ≤ p.2.1 ∧ n81 ≤ p.2.2} => [(1, i6 (k : Int)), (2, pt z), (qlnz_39 z), (qlnz_41 c k n), (qlnz_37 b16 o17 y8), (qlnz_38 y8), (26, i6 (n : Int)), (qlnz_42 n14), (8, pt x.1.2.1), (64, .slice (some ⟨x.1.2.2, 0, none⟩) 3 3)]) (fun x => ⟨w, x.1.1, [(old0 w), (qlnz_26 z c), (qlnz_24 z), (qlnz_25 n14 y23), (.blk x.1.2.1 (.cells #[i6 0, i6 0, i6 0] 73 (0, 0)) true), (.blk x.1.2.2 (.cells #[i6 ((unl (win y23.Usable 1 16384) 419 ⟨(k : Int), (n : Int)⟩).e), i6 ((unl (win y23.Usable 1 16384) 419 ⟨(k : Int), (n : Int)⟩).where_.First), i6 ((unl (win y23.Usable 1 16384) 419 ⟨(k : Int), (n : Int)⟩).where_.Second), i6 ((unl (win y23.Slack 82 16384) 420 ⟨(k : Int), (n : Int)⟩).e), i6 ((unl (win y23.Slack 82 16384) 420 ⟨(k : Int), (n : Int)⟩).where_.First), i6 ((unl (win y23.Slack 82 16384) 420 ⟨(k : Int), (n : Int)⟩).where_.Second), i6 ((unl true 422 ⟨(k : Int), (n : Int)⟩).e), i6 ((unl true 422 ⟨(k : Int), (n : Int)⟩).where_.First), i6 ((unl true 422 ⟨(k : Int), (n : Int)⟩).where_.Second)] 73 (0, 0)) true)]⟩) 2 [true, true, true, true, true, true, true, true, true, true, true, true, true, true, true, true, true, true, true, true, true, true, true, true, true, true, true, true, true, true, true, true, true, true, false, true, false] ?_ (fun hv98 => ?_)
               · rintro ⟨⟨n95, b96, b97⟩, hb99⟩
                 simp only at hb99
                 show Wg _ _ [(1, i6 (k : Int)), (2, pt z), (qlnz_39 z), (qlnz_41 c k n), (qlnz_37 b16 o17 y8), (qlnz_38 y8), (26, i6 (n : Int)), (qlnz_42 n14), (8, pt b96), (64, .slice (some ⟨b97, 0, none⟩) 3 3)] _ ⟨w, n95, [(old0 w), (qlnz_26 z c), (qlnz_24 z), (qlnz_25 n14 y23), (bk b96 #[i6 0, i6 0, i6 0] 73), (bk b97 #[i6 ((unl (win y23.Usable 1 16384) 419 ⟨(k : Int), (n : Int)⟩).e), i6 ((unl (win y23.Usable 1 16384) 419 ⟨(k : Int), (n : Int)⟩).where_.First), i6 ((unl (win y23.Usable 1 16384) 419 ⟨(k : Int), (n : Int)⟩).where_.Second), i6 ((unl (win y23.Slack 82 16384) 420 ⟨(k : Int), (n : Int)⟩).e), i6 ((unl (win y23.Slack 82 16384) 420 ⟨(k : Int), (n : Int)⟩).where_.First), i6 ((unl (win y23.Slack 82 16384) 420 ⟨(k : Int), (n : Int)⟩).where_.Second), i6 ((unl true 422 ⟨(k : Int), (n : Int)⟩).e), i6 ((unl true 422 ⟨(k : Int), (n : Int)⟩).where_.First), i6 ((unl true 422 ⟨(k : Int), (n : Int)⟩).where_.Second)] 73)]⟩ _ _ _ _ _ _ _
                 refine w_one 34 (by as_aux_lemma => kernel_rfl) rfl ?_
                 refine wo_con 65 #[.slice (some ⟨b97, 0, none⟩) 3 3] (some 65) (.agg (Tfound.arr (fstW [(unl (win y23.Usable 1 16384) 419 ⟨(k : Int), (n : Int)⟩), (unl (win y23.Slack 82 16384) 420 ⟨(k : Int), (n : Int)⟩), (unl true 422 ⟨(k : Int), (n : Int)⟩)]))) [1, 2, 4, 5, 24, 25, 26, 7, 8, 65] [(1, i6 (k : Int)), (2, pt z), (qlnz_39 z), (qlnz_41 c k n), (qlnz_37 b16 o17 y8), (qlnz_38 y8), (26, i6 (n : Int)), (qlnz_42 n14), (8, pt b96), (qlnz_28 y23 k n)] [0, 1, 2, 3] (by as_aux_lemma => kernel_rfl) rfl rfl rfl (fun w100 hw100 => first_calls w100 (hL.ext (hw100.ext rfl)) ⟨some ⟨b97, 0, none⟩, 3, [(unl (win y23.Usable 1 16384) 419 ⟨(k : Int), (n : Int)⟩), (unl (win y23.Slack 82 16384) 420 ⟨(k : Int), (n : Int)⟩), (unl true 422 ⟨(k : Int), (n : Int)⟩)]⟩ (slok_blk hw100 (i := 5) [(unl (win y23.Usable 1 16384) 419 ⟨(k : Int), (n : Int)⟩), (unl (win y23.Slack 82 16384) 420 ⟨(k : Int), (n : Int)⟩), (unl true 422 ⟨(k : Int), (n : Int)⟩)]) (show 3 ≤ 1000 by decide)) (fun n101 hn102 => ?_)
                 replace hn102 : n95 ≤ n101 := hn102
                 refine w_keep [1, 2, 4, 5, 24, 25, 26, 7, 8, 65] [(1, i6 (k : Int)), (2, pt z), (qlnz_39 z), (qlnz_41 c k n), (qlnz_37 b16 o17 y8), (qlnz_38 y8), (26, i6 (n : Int)), (qlnz_42 n14), (8, pt b96), (qlnz_28 y23 k n)] ?_
                 exact hv93 ⟨(n101, b96, b97), by first | omega | (dsimp only; omega)⟩
               refine w_all [33, 35] (by as_aux_lemma => kernel_rfl) rfl rfl ?_
               refine List.forall_mem_cons.2 ⟨?_, List.forall_mem_cons.2 ⟨?_, fun _ h => absurd h List.not_mem_nil⟩⟩
               · refine wo_eff o0 [1, 2, 4, 5, 24, 25, 26, 7, 64] [] [(1, i6 (k : Int)), (2, pt z), (qlnz_39 z), (qlnz_41 c k n), (qlnz_37 b16 o17 y8), (qlnz_38 y8), (26, i6 (n : Int)), (qlnz_42 n14), (64, .slice (some ⟨n81, 0, none⟩) 3 3)] ⟨w, n81 + 1, [(old0 w), (qlnz_26 z c), (qlnz_24 z), (qlnz_25 n14 y23), (qlnz_5 n81 y23 k n)]⟩ [0, 1, 2, 3] (by as_aux_lemma => kernel_rfl) rfl trivial (.inr rfl) ?_
                 refine w_all [34, 35] (by as_aux_lemma => kernel_rfl) rfl rfl ?_
                 refine List.forall_mem_cons.2 ⟨?_, List.forall_mem_cons.2 ⟨?_, fun _ h => absurd h List.not_mem_nil⟩⟩
                 · refine wo_con 65 #[.slice (some ⟨n81, 0, none⟩) 3 3] (some 65) (.agg (Tfound.arr (fstW [(unl (win y23.Usable 1 16384) 419 ⟨(k : Int), (n : Int)⟩), (unl (win y23.Slack 82 16384) 420 ⟨(k : Int), (n : Int)⟩), (unl true 422 ⟨(k : Int), (n : Int)⟩)]))) [1, 2, 4, 5, 24, 25, 26, 7, 65] [(1, i6 (k : Int)), (2, pt z), (qlnz_39 z), (qlnz_41 c k n), (qlnz_37 b16 o17 y8), (qlnz_38 y8), (26, i6 (n : Int)), (qlnz_42 n14), (qlnz_28 y23 k n)] [0, 1, 2, 3] (by as_aux_lemma => kernel_rfl) rfl rfl rfl (fun w103 hw103 => first_calls w103 (hL.ext (hw103.ext rfl)) ⟨some ⟨n81, 0, none⟩, 3, [(unl (win y23.Usable 1 16384) 419 ⟨(k : Int), (n : Int)⟩), (unl (win y23.Slack 82 16384) 420 ⟨(k : Int), (n : Int)⟩), (unl true 422 ⟨(k : Int), (n : Int)⟩)]⟩ (slok_blk hw103 (i := 4) [(unl (win y23.Usable 1 16384) 419 ⟨(k : Int), (n : Int)⟩), (unl (win y23.Slack 82 16384) 420 ⟨(k : Int), (n : Int)⟩), (unl true 422 ⟨(k : Int), (n : Int)⟩)]) (show 3 ≤ 1000 by decide)) (fun n104 hn105 => ?_)
                   replace hn105 : n81 + 1 ≤ n104 := hn105
                   refine w_one 35 (by as_aux_lemma => kernel_rfl) rfl ?_
                   refine wo_eff o0 [1, 2, 4, 5, 24, 25, 26, 7, 65, 8] [] [(1, i6 (k : Int)), (2, pt z), (qlnz_39 z), (qlnz_41 c k n), (qlnz_37 b16 o17 y8), (qlnz_38 y8), (26, i6 (n : Int)), (qlnz_42 n14), (qlnz_28 y23 k n), (8, pt n104)] ⟨w, n104 + 1, [(old0 w), (qlnz_26 z c), (qlnz_24 z), (qlnz_25 n14 y23), (qlnz_5 n81 y23 k n), (bk n104 #[i6 0, i6 0, i6 0] 73)]⟩ [0, 1, 2, 3] (by as_aux_lemma => kernel_rfl) rfl trivial (.inr rfl) ?_
                   refine w_pick [0, 1, 2, 3, 5, 4] [(old0 w), (qlnz_26 z c), (qlnz_24 z), (qlnz_25 n14 y23), (bk n104 #[i6 0, i6 0, i6 0] 73), (qlnz_5 n81 y23 k n)] rfl rfl ?_
                   refine w_keep [1, 2, 4, 5, 24, 25, 26, 7, 8, 65] [(1, i6 (k : Int)), (2, pt z), (qlnz_39 z), (qlnz_41 c k n), (qlnz_37 b16 o17 y8), (qlnz_38 y8), (26, i6 (n : Int)), (qlnz_42 n14), (8, pt n104), (qlnz_28 y23 k n)] ?_
                   exact hv93 ⟨(n104 + 1, n104, n81), by first | omega | (dsimp only; omega)⟩
                 · refine wo_eff o0 [1, 2, 4, 5, 24, 25, 26, 7, 64, 8] [] [(1, i6 (k : Int)), (2, pt z), (qlnz_39 z), (qlnz_41 c k n), (qlnz_37 b16 o17 y8), (qlnz_38 y8), (26, i6 (n : Int)), (qlnz_42 n14), (64, .slice (some ⟨n81, 0, none⟩) 3 3), (8, pt (n81 + 1))] ⟨w, n81 + 2, [(old0 w), (qlnz_26 z c), (qlnz_24 z), (qlnz_25 n14 y23), (qlnz_5 n81 y23 k n), (bk (n81 + 1) #[i6 0, i6 0, i6 0] 73)]⟩ [0, 1, 2, 3] (by as_aux_lemma => kernel_rfl) rfl trivial (.inr rfl) ?_
                   refine w_pick [0, 1, 2, 3, 5, 4] [(old0 w), (qlnz_26 z c), (qlnz_24 z), (qlnz_25 n14 y23), (bk (n81 + 1) #[i6 0, i6 0, i6 0] 73), (qlnz_5 n81 y23 k n)] rfl rfl ?_
                   refine w_keep [1, 2, 4, 5, 24, 25, 26, 7, 8, 64] [(1, i6 (k : Int)), (2, pt z), (qlnz_39 z), (qlnz_41 c k n), (qlnz_37 b16 o17 y8), (qlnz_38 y8), (26, i6 (n : Int)), (qlnz_42 n14), (8, pt (n81 + 1)), (64, .slice (some ⟨n81, 0, none⟩) 3 3)] ?_
                   exact hv98 ⟨(n81 + 2, n81 + 1, n81), by first | omega | (dsimp only; omega)⟩
               · refine wo_eff o0 [1, 2, 4, 5, 24, 25, 26, 7, 46, 53, 63, 8] [] [(1, i6 (k : Int)), (2, pt z), (qlnz_39 z), (qlnz_41 c k n), (qlnz_37 b16 o17 y8), (qlnz_38 y8), (26, i6 (n : Int)), (qlnz_42 n14), (qlnz_31 y23 k n), (qlnz_32 y23 k n), (qlnz_35 k n), (8, pt n81)] ⟨w, n81 + 1, [(old0 w), (qlnz_26 z c), (qlnz_24 z), (qlnz_25 n14 y23), (bk n81 #[i6 0, i6 0, i6 0] 73)]⟩ [0, 1, 2, 3] (by as_aux_lemma => kernel_rfl) rfl trivial (.inr rfl) ?_
                 refine w_keep [8, 1, 2, 4, 5, 24, 25, 26, 7, 46, 53, 63] [(8, pt n81), (1, i6 (k : Int)), (2, pt z), (qlnz_39 z), (qlnz_41 c k n), (qlnz_37 b16 o17 y8), (qlnz_38 y8), (26, i6 (n : Int)), (qlnz_42 n14), (qlnz_31 y23 k n), (qlnz_32 y23 k n), (qlnz_35 k n)] ?_
                 exact hv83 ⟨(n81 + 1, n81), by first | omega | (dsimp only; omega)⟩
             rintro ⟨⟨n68, b69, b70⟩, hJ106⟩
             simp only at hJ106
             show E _ _ [(1, i6 (k : Int)), (2, pt z), (qlnz_39 z), (qlnz_41 c k n), (qlnz_37 b16 o17 y8), (qlnz_38 y8), (26, i6 (n : Int)), (qlnz_42 n14), (8, pt b70)] _ ⟨w, n68, [(old0 w), (qlnz_26 z c), (qlnz_24 z), (qlnz_25 n14 y23), (bk b69 #[i6 ((unl (win y23.Usable 1 16384) 419 ⟨(k : Int), (n : Int)⟩).e), i6 ((unl (win y23.Usable 1 16384) 419 ⟨(k : Int), (n : Int)⟩).where_.First), i6 ((unl (win y23.Usable 1 16384) 419 ⟨(k : Int), (n : Int)⟩).where_.Second), i6 ((unl (win y23.Slack 82 16384) 420 ⟨(k : Int), (n : Int)⟩).e), i6 ((unl (win y23.Slack 82 16384) 420 ⟨(k : Int), (n : Int)⟩).where_.First), i6 ((unl (win y23.Slack 82 16384) 420 ⟨(k : Int), (n : Int)⟩).where_.Second), i6 ((unl true 422 ⟨(k : Int), (n : Int)⟩).e), i6 ((unl true 422 ⟨(k : Int), (n : Int)⟩).where_.First), i6 ((unl true 422 ⟨(k : Int), (n : Int)⟩).where_.Second)] 73), (qlnz_17 b70 y23 k n)]⟩ _ _ _
             refine e_pick [0, 1, 2, 3, 5] [(old0 w), (qlnz_26 z c), (qlnz_24 z), (qlnz_25 n14 y23), (qlnz_17 b70 y23 k n)] rfl rfl ?_
             have e0 : gd (corC c k).xs n = y23 := (by rw [hy23, hy8])
             have eA : coreW c k n = (fstW [(unl (win y23.Usable 1 16384) 419 ⟨(k : Int), (n : Int)⟩), (unl (win y23.Slack 82 16384) 420 ⟨(k : Int), (n : Int)⟩), (unl true 422 ⟨(k : Int), (n : Int)⟩)]) := (by unfold coreW coreA; simp only [e0]; simp [h26, h28])
             refine e_keep [1, 2, 4, 5, 7, 8, 24, 25, 26] [(1, i6 (k : Int)), (2, pt z), (qlnz_39 z), (qlnz_41 c k n), (qlnz_42 n14), (8, pt b70), (qlnz_37 b16 o17 y8), (qlnz_38 y8), (26, i6 (n : Int))] ?_
             refine e_inv (fun a w' hs => ⟨n68, b70, by omega, (by (try dsimp only [qlnz_0, qlnz_1, qlnz_2, qlnz_3, qlnz_4, qlnz_5, qlnz_6, qlnz_7, qlnz_8, qlnz_9, qlnz_10, qlnz_11, qlnz_12, qlnz_13, qlnz_14, qlnz_15, qlnz_16, qlnz_17, qlnz_18, qlnz_19, qlnz_20, qlnz_21, qlnz_22, qlnz_23, qlnz_24, qlnz_25, qlnz_26, qlnz_27, qlnz_28, qlnz_29, qlnz_30, qlnz_31, qlnz_32, qlnz_33, qlnz_34, qlnz_35, qlnz_36, qlnz_37, qlnz_38, qlnz_39, qlnz_40, qlnz_41, qlnz_42] at hs ⊢); rw [eA]; exact hs)⟩)
         · have hd107 := win_no h26
           by_cases h108 : (splitP c k y23.Partition) = true
           · refine g_draw 36 [0, 1, 2, 3] [(old0 w), (qlnz_26 z c), (qlnz_24 z), (qlnz_25 n14 y23)] rfl rfl ?_
             refine w_take [(0, o0), (1, (a1 3)), (2, o0), (3, (a1 1)), (4, o0), (5, (ov (i6 (((c.Partitions.xs.length : Nat) : Int) - 1)))), (12, o0), (13, o0), (16, o0), (17, (a1 3)), (19, o0), (20, o0), (23, (an 7 1)), (24, o0), (25, o0), (26, (a1 3)), (29, o0), (30, o0)] [1, 2, 4, 5, 24, 25, 26, 7, 32, 36, 43, 44, 48, 50, 51, 54, 55, 57, 60, 61] [Qb n14, Qb z, Wr ((((c.Partitions.xs.length : Nat) : Int) : Int) - 1) (((c.Partitions.xs.length : Nat) : Int) - 1), Qb n14, Qb z, Qb z, Qb z, Qb z, Qb z, Qb z, Qb z, Qb n14] [true, true, true, true, true, true, false, false, false, false, false, false, true, true, false, false, true, true, false, true, true, false, false, true, true, true, true, false, false, true, true, false, false, false, false, false, false] [(1, i6 (k : Int)), (2, pt z), (qlnz_39 z), (qlnz_41 c k n), (qlnz_37 b16 o17 y8), (qlnz_38 y8), (26, i6 (n : Int)), (qlnz_42 n14), (32, i6 y23.Partition), (qlnz_36 c), (43, i6 (k : Int)), (44, i6 (n : Int)), (48, i6 y23.Slack), (50, i6 (k : Int)), (51, i6 (n : Int)), (54, .agg (TConfig.arr c)), (55, i6 (k : Int)), (57, i6 y23.Partition), (60, i6 (k : Int)), (61, i6 (n : Int))] rfl (by as_aux_lemma => kernel_rfl) (by as_aux_lemma => kernel_rfl) ⟨rfl, rfl, wrI, rfl, rfl, rfl, rfl, rfl, rfl, rfl, rfl, rfl, trivial⟩ ?_
             refine w_join (fun x : {p : Nat × Nat × Nat // n14 + 1 ≤ p.1 ∧ n14 + 1 ≤ p.2.1 ∧ n14 + 1 ≤ p.2.2} => ([(1, i6 (k : Int)), (2, pt z), (qlnz_39 z), (qlnz_41 c k n), (qlnz_37 b16 o17 y8), (qlnz_38 y8), (26, i6 (n : Int)), (qlnz_42 n14), (8, pt x.1.2.2)], ⟨w, x.1.1, [(old0 w), (qlnz_26 z c), (qlnz_24 z), (qlnz_25 n14 y23), (.blk x.1.2.1 (.cells #[i6 ((unl false 419 ⟨(k : Int), (n : Int)⟩).e), i6 ((unl false 419 ⟨(k : Int), (n : Int)⟩).where_.First), i6 ((unl false 419 ⟨(k : Int), (n : Int)⟩).where_.Second), i6 ((unl (win y23.Slack 82 16384) 420 ⟨(k : Int), (n : Int)⟩).e), i6 ((unl (win y23.Slack 82 16384) 420 ⟨(k : Int), (n : Int)⟩).where_.First), i6 ((unl (win y23.Slack 82 16384) 420 ⟨(k : Int), (n : Int)⟩).where_.Second), i6 ((unl false 422 ⟨(k : Int), (n : Int)⟩).e), i6 ((unl false 422 ⟨(k : Int), (n : Int)⟩).where_.First), i6 ((unl false 422 ⟨(k : Int), (n : Int)⟩).where_.Second)] 73 (0, 0)) true), (.blk x.1.2.2 (.cells (Tfound.arr (fstW [(unl false 419 ⟨(k : Int), (n : Int)⟩), (unl (win y23.Slack 82 16384) 420 ⟨(k : Int), (n : Int)⟩), (unl false 422 ⟨(k : Int), (n : Int)⟩)])) 73 (0, 0)) true)]⟩)) (fun hK => ?_) ?_
             · refine w_chainF 35 8 [.cl 6 (.bool (win y23.Partition (-1) (((c.Partitions.xs.length : Nat) : Int) - 1))), .tk 7 (ov (.bool false)), .tk 8 o0, .tk 9 o0, .tk 10 o0, .tk 11 o0, .cl 14 (.agg #[i6 (k : Int), i6 (n : Int)]), .cl 15 (.agg (Tfound.arr (unl false 419 ⟨(k : Int), (n : Int)⟩))), .cl 18 (.bool (win y23.Slack 82 16384)), .cl 21 (.agg #[i6 (k : Int), i6 (n : Int)]), .cl 22 (.agg (Tfound.arr (unl (win y23.Slack 82 16384) 420 ⟨(k : Int), (n : Int)⟩))), .cl 27 (.bool (splitP c k y23.Partition)), .tk 28 (ov (.bool false)), .cl 31 (.agg #[i6 (k : Int), i6 (n : Int)]), .cl 32 (.agg (Tfound.arr (unl false 422 ⟨(k : Int), (n : Int)⟩)))] [1, 2, 4, 5, 24, 25, 26, 7, 46, 53, 63] [(42, #[i6 y23.Partition, i6 (-1), i6 (((c.Partitions.xs.length : Nat) : Int) - 1)], .bool (win y23.Partition (-1) (((c.Partitions.xs.length : Nat) : Int) - 1))), (70, #[i6 (k : Int), i6 (n : Int)], .agg #[i6 (k : Int), i6 (n : Int)]), (41, #[.bool false, i6 419, .agg #[i6 (k : Int), i6 (n : Int)]], .agg (Tfound.arr (unl false 419 ⟨(k : Int), (n : Int)⟩))), (42, #[i6 y23.Slack, i6 82, i6 16384], .bool (win y23.Slack 82 16384)), (70, #[i6 (k : Int), i6 (n : Int)], .agg #[i6 (k : Int), i6 (n : Int)]), (41, #[.bool (win y23.Slack 82 16384), i6 420, .agg #[i6 (k : Int), i6 (n : Int)]], .agg (Tfound.arr (unl (win y23.Slack 82 16384) 420 ⟨(k : Int), (n : Int)⟩))), (72, #[.agg (TConfig.arr c), i6 (k : Int), i6 y23.Partition], .bool (splitP c k y23.Partition)), (70, #[i6 (k : Int), i6 (n : Int)], .agg #[i6 (k : Int), i6 (n : Int)]), (41, #[.bool false, i6 422, .agg #[i6 (k : Int), i6 (n : Int)]], .agg (Tfound.arr (unl false 422 ⟨(k : Int), (n : Int)⟩)))] [true, true, true, true, true, true, true, true, true, true, true, true, true, true, true, true, true, true, true, true, true, true, true, true, true, true, true, true, true, true, true, true, true, false, false, false, false] [Value.bool (win y23.Partition (-1) (((c.Partitions.xs.length : Nat) : Int) - 1)) = Value.bool false, Value.bool (!(splitP c k y23.Partition)) = Value.bool false] [(1, i6 (k : Int)), (2, pt z), (qlnz_39 z), (qlnz_41 c k n), (qlnz_37 b16 o17 y8), (qlnz_38 y8), (26, i6 (n : Int)), (qlnz_42 n14), (qlnz_34 k n), (qlnz_32 y23 k n), (qlnz_33 k n)] (.cells #[i6 0, i6 0, i6 0] 73 (0, 0)) [0, 1, 2, 3] ⟨(congrArg Value.bool (Bool.eq_false_iff.2 h26)), by simp [h108], trivial⟩ ⟨fun w112 hw112 => within_calls w112 y23.Partition (-1) (((c.Partitions.xs.length : Nat) : Int) - 1), fun w113 hw113 => both_calls w113 (k : Int) (n : Int), fun w114 hw114 => unless_calls w114 (hL.ext (hw114.ext rfl)) false 419 (k : Int) (n : Int), fun w115 hw115 => within_calls w115 y23.Slack 82 16384, fun w116 hw116 => both_calls w116 (k : Int) (n : Int), fun w117 hw117 => unless_calls w117 (hL.ext (hw117.ext rfl)) (win y23.Slack 82 16384) 420 (k : Int) (n : Int), fun w118 hw118 => split_calls w118 c (hc.ext (hw118.ext rfl) (fun _ h => h)) k hk y23.Partition, fun w119 hw119 => both_calls w119 (k : Int) (n : Int), fun w120 hw120 => unless_calls w120 (hL.ext (hw120.ext rfl)) false 422 (k : Int) (n : Int), trivial⟩ ?_ (fun hv123 n121 hn122 => ?_)
               · rintro ⟨⟨n124, b125⟩, hb126⟩
                 simp only at hb126
                 refine w_one 33 (by as_aux_lemma => kernel_rfl) rfl ?_
                 refine wo_eff o0 [8, 1, 2, 4, 5, 24, 25, 26, 7, 64] [] [(8, pt b125), (1, i6 (k : Int)), (2, pt z), (qlnz_39 z), (qlnz_41 c k n), (qlnz_37 b16 o17 y8), (qlnz_38 y8), (26, i6 (n : Int)), (qlnz_42 n14), (64, .slice (some ⟨n124, 0, none⟩) 3 3)] ⟨w, n124 + 1, [(old0 w), (qlnz_26 z c), (qlnz_24 z), (qlnz_25 n14 y23), (bk b125 #[i6 0, i6 0, i6 0] 73), (qlnz_6 n124 k n y23)]⟩ [0, 1, 2, 3] (by as_aux_lemma => kernel_rfl) rfl trivial (.inr rfl) ?_
                 refine w_one 34 (by as_aux_lemma => kernel_rfl) rfl ?_
                 refine wo_con 65 #[.slice (some ⟨n124, 0, none⟩) 3 3] (some 65) (.agg (Tfound.arr (fstW [(unl false 419 ⟨(k : Int), (n : Int)⟩), (unl (win y23.Slack 82 16384) 420 ⟨(k : Int), (n : Int)⟩), (unl false 422 ⟨(k : Int), (n : Int)⟩)]))) [8, 1, 2, 4, 5, 24, 25, 26, 7, 65] [(8, pt b125), (1, i6 (k : Int)), (2, pt z), (qlnz_39 z), (qlnz_41 c k n), (qlnz_37 b16 o17 y8), (qlnz_38 y8), (26, i6 (n : Int)), (qlnz_42 n14), (qlnz_29 k n y23)] [0, 1, 2, 3] (by as_aux_lemma => kernel_rfl) rfl rfl rfl (fun w127 hw127 => first_calls w127 (hL.ext (hw127.ext rfl)) ⟨some ⟨n124, 0, none⟩, 3, [(unl false 419 ⟨(k : Int), (n : Int)⟩), (unl (win y23.Slack 82 16384) 420 ⟨(k : Int), (n : Int)⟩), (unl false 422 ⟨(k : Int), (n : Int)⟩)]⟩ (slok_blk hw127 (i := 5) [(unl false 419 ⟨(k : Int), (n : Int)⟩), (unl (win y23.Slack 82 16384) 420 ⟨(k : Int), (n : Int)⟩), (unl false 422 ⟨(k : Int), (n : Int)⟩)]) (show 3 ≤ 1000 by decide)) (fun n128 hn129 => ?_)
                 replace hn129 : n124 + 1 ≤ n128 := hn129
                 refine w_one 36 (by as_aux_lemma => kernel_rfl) rfl ?_
                 refine wo_eff (an 3 4) [8, 1, 2, 4, 5, 24, 25, 26, 7] [Qb b125, Qb b125, Qb b125] [(8, pt b125), (1, i6 (k : Int)), (2, pt z), (qlnz_39 z), (qlnz_41 c k n), (qlnz_37 b16 o17 y8), (qlnz_38 y8), (26, i6 (n : Int)), (qlnz_42 n14)] ⟨w, n128, [(old0 w), (qlnz_26 z c), (qlnz_24 z), (qlnz_25 n14 y23), (qlnz_18 b125 k n y23), (qlnz_6 n124 k n y23)]⟩ [] (by as_aux_lemma => kernel_rfl) rfl ⟨rfl, rfl, rfl, trivial⟩ (.inl rfl) ?_
                 refine w_free 37 [0, 1, 2, 3, 4, 5] [(old0 w), (qlnz_26 z c), (qlnz_24 z), (qlnz_25 n14 y23), (qlnz_18 b125 k n y23), (qlnz_6 n124 k n y23)] rfl rfl ?_
                 refine w_done (by as_aux_lemma => kernel_rfl) ?_
                 refine e_keep [1, 2, 4, 5, 24, 25, 26, 7, 8] [(1, i6 (k : Int)), (2, pt z), (qlnz_39 z), (qlnz_41 c k n), (qlnz_37 b16 o17 y8), (qlnz_38 y8), (26, i6 (n : Int)), (qlnz_42 n14), (8, pt b125)] ?_
                 refine e_pick [0, 1, 2, 3, 5, 4] [(old0 w), (qlnz_26 z c), (qlnz_24 z), (qlnz_25 n14 y23), (qlnz_6 n124 k n y23), (qlnz_18 b125 k n y23)] rfl rfl ?_
                 exact hK ⟨(n128, n124, b125), by first | omega | (dsimp only; omega)⟩
               replace hn122 : n14 + 1 ≤ n121 := hn122
               refine w_via (fun x : {p : Nat × Nat × Nat // n121 ≤ p.1 ∧ n121 ≤ p.2.1 ∧ n121 ≤ p.2.2} => [(1, i6 (k : Int)), (2, pt z), (qlnz_39 z), (qlnz_41 c k n), (qlnz_37 b16 o17 y8), (qlnz_38 y8), (26, i6 (n : Int)), (qlnz_42 n14), (8, pt x.1.2.1), (qlnz_29 k n y23)]) (fun x => ⟨w, x.1.1, [(old0 w), (qlnz_26 z c), (qlnz_24 z), (qlnz_25 n14 y23), (.blk x.1.2.1 (.cells #[i6 0, i6 0, i6 0] 73 (0, 0)) true), (.blk x.1.2.2 (.cells #[i6 ((unl false 419 ⟨(k : Int), (n : Int)⟩).e), i6 ((unl false 419 ⟨(k : Int), (n : Int)⟩).where_.First), i6 ((unl false 419 ⟨(k : Int), (n : Int)⟩).where_.Second), i6 ((unl (win y23.Slack 82 16384) 420 ⟨(k : Int), (n : Int)⟩).e), i6 ((unl (win y23.Slack 82 16384) 420 ⟨(k : Int), (n : Int)⟩).where_.First), i6 ((unl (win y23.Slack 82 16384) 420 ⟨(k : Int), (n : Int)⟩).where_.Second), i6 ((unl false 422 ⟨(k : Int), (n : Int)⟩).e), i6 ((unl false 422 ⟨(k : Int), (n : Int)⟩).where_.First), i6 ((unl false 422 ⟨(k : Int), (n : Int)⟩).where_.Second)] 73 (0, 0)) true)]⟩) 1 [true, true, true, true, true, true, true, true, true, true, true, true, true, true, true, true, true, true, true, true, true, true, true, true, true, true, true, true, true, true, true, true, true, true, true, true, false] ?_ (fun hv133 => ?_)
               · rintro ⟨⟨n130, b131, b132⟩, hb134⟩
                 simp only at hb134
                 show Wg _ _ [(1, i6 (k : Int)), (2, pt z), (qlnz_39 z), (qlnz_41 c k n), (qlnz_37 b16 o17 y8), (qlnz_38 y8), (26, i6 (n : Int)), (qlnz_42 n14), (8, pt b131), (qlnz_29 k n y23)] _ ⟨w, n130, [(old0 w), (qlnz_26 z c), (qlnz_24 z), (qlnz_25 n14 y23), (bk b131 #[i6 0, i6 0, i6 0] 73), (qlnz_7 b132 k n y23)]⟩ _ _ _ _ _ _ _
                 refine w_one 36 (by as_aux_lemma => kernel_rfl) rfl ?_
                 refine wo_eff (an 3 4) [1, 2, 4, 5, 24, 25, 26, 7, 8] [Qb b131, Qb b131, Qb b131] [(1, i6 (k : Int)), (2, pt z), (qlnz_39 z), (qlnz_41 c k n), (qlnz_37 b16 o17 y8), (qlnz_38 y8), (26, i6 (n : Int)), (qlnz_42 n14), (8, pt b131)] ⟨w, n130, [(old0 w), (qlnz_26 z c), (qlnz_24 z), (qlnz_25 n14 y23), (qlnz_19 b131 k n y23), (qlnz_7 b132 k n y23)]⟩ [] (by as_aux_lemma => kernel_rfl) rfl ⟨rfl, rfl, rfl, trivial⟩ (.inl rfl) ?_
                 refine w_free 37 [0, 1, 2, 3, 4, 5] [(old0 w), (qlnz_26 z c), (qlnz_24 z), (qlnz_25 n14 y23), (qlnz_19 b131 k n y23), (qlnz_7 b132 k n y23)] rfl rfl ?_
                 refine w_done (by as_aux_lemma => kernel_rfl) ?_
                 refine e_keep [1, 2, 4, 5, 24, 25, 26, 7, 8] [(1, i6 (k : Int)), (2, pt z), (qlnz_39 z), (qlnz_41 c k n), (qlnz_37 b16 o17 y8), (qlnz_38 y8), (26, i6 (n : Int)), (qlnz_42 n14), (8, pt b131)] ?_
                 refine e_pick [0, 1, 2, 3, 5, 4] [(old0 w), (qlnz_26 z c), (qlnz_24 z), (qlnz_25 n14 y23), (qlnz_7 b132 k n y23), (qlnz_19 b131 k n y23)] rfl rfl ?_
                 exact hK ⟨(n130, b132, b131), by first | omega | (dsimp only; omega)⟩
               refine w_via (fun x : {p : Nat × Nat × Nat // n121 ≤ p.1 ∧ n121 ≤ p.2.1 ∧ n121 ≤ p.2.2} => [(1, i6 (k : Int)), (2, pt z), (qlnz_39 z), (qlnz_41 c k n), (qlnz_37 b16 o17 y8), (qlnz_38 y8), (26, i6 (n : Int)), (qlnz_42 n14), (8, pt x.1.2.1), (64, .slice (some ⟨x.1.2.2, 0, none⟩) 3 3)]) (fun x => ⟨w, x.1.1, [(old0 w), (qlnz_26 z c), (qlnz_24 z), (qlnz_25 n14 y23), (.blk x.1.2.1 (.cells #[i6 0, i6 0, i6 0] 73 (0, 0)) true), (.blk x.1.2.2 (.cells #[i6 ((unl false 419 ⟨(k : Int), (n : Int)⟩).e), i6 ((unl false 419 ⟨(k : Int), (n : Int)⟩).where_.First), i6 ((unl false 419 ⟨(k : Int), (n : Int)⟩).where_.Second), i6 ((unl (win y23.Slack 82 16384) 420 ⟨(k : Int), (n : Int)⟩).e), i6 ((unl (win y23.Slack 82 16384) 420 ⟨(k : Int), (n : Int)⟩).where_.First), i6 ((unl (win y23.Slack 82 16384) 420 ⟨(k : Int), (n : Int)⟩).where_.Second), i6 ((unl false 422 ⟨(k : Int), (n : Int)⟩).e), i6 ((unl false 422 ⟨(k : Int), (n : Int)⟩).where_.First), i6 ((unl false 422 ⟨(k : Int), (n : Int)⟩).where_.Second)] 73 (0, 0)) true)]⟩) 2 [true, true, true, true, true, true, true, true, true, true, true, true, true, true, true, true, true, true, true, true, true, true, true, true, true, true, true, true, true, true, true, true, true, true, false, true, false] ?_ (fun hv138 => ?_)
               · rintro ⟨⟨n135, b136, b137⟩, hb139⟩
                 simp only at hb139
                 show Wg _ _ [(1, i6 (k : Int)), (2, pt z), (qlnz_39 z), (qlnz_41 c k n), (qlnz_37 b16 o17 y8), (qlnz_38 y8), (26, i6 (n : Int)), (qlnz_42 n14), (8, pt b136), (64, .slice (some ⟨b137, 0, none⟩) 3 3)] _ ⟨w, n135, [(old0 w), (qlnz_26 z c), (qlnz_24 z), (qlnz_25 n14 y23), (bk b136 #[i6 0, i6 0, i6 0] 73), (bk b137 #[i6 ((unl false 419 ⟨(k : Int), (n : Int)⟩).e), i6 ((unl false 419 ⟨(k : Int), (n : Int)⟩).where_.First), i6 ((unl false 419 ⟨(k : Int), (n : Int)⟩).where_.Second), i6 ((unl (win y23.Slack 82 16384) 420 ⟨(k : Int), (n : Int)⟩).e), i6 ((unl (win y23.Slack 82 16384) 420 ⟨(k : Int), (n : Int)⟩).where_.First), i6 ((unl (win y23.Slack 82 16384) 420 ⟨(k : Int), (n : Int)⟩).where_.Second), i6 ((unl false 422 ⟨(k : Int), (n : Int)⟩).e), i6 ((unl false 422 ⟨(k : Int), (n : Int)⟩).where_.First), i6 ((unl false 422 ⟨(k : Int), (n : Int)⟩).where_.Second)] 73)]⟩ _ _ _ _ _ _ _
                 refine w_one 34 (by as_aux_lemma => kernel_rfl) rfl ?_
                 refine wo_con 65 #[.slice (some ⟨b137, 0, none⟩) 3 3] (some 65) (.agg (Tfound.arr (fstW [(unl false 419 ⟨(k : Int), (n : Int)⟩), (unl (win y23.Slack 82 16384) 420 ⟨(k : Int), (n : Int)⟩), (unl false 422 ⟨(k : Int), (n : Int)⟩)]))) [1, 2, 4, 5, 24, 25, 26, 7, 8, 65] [(1, i6 (k : Int)), (2, pt z), (qlnz_39 z), (qlnz_41 c k n), (qlnz_37 b16 o17 y8), (qlnz_38 y8), (26, i6 (n : Int)), (qlnz_42 n14), (8, pt b136), (qlnz_29 k n y23)] [0, 1, 2, 3] (by as_aux_lemma => kernel_rfl) rfl rfl rfl (fun w140 hw140 => first_calls w140 (hL.ext (hw140.ext rfl)) ⟨some ⟨b137, 0, none⟩, 3, [(unl false 419 ⟨(k : Int), (n : Int)⟩), (unl (win y23.Slack 82 16384) 420 ⟨(k : Int), (n : Int)⟩), (unl false 422 ⟨(k : Int), (n : Int)⟩)]⟩ (slok_blk hw140 (i := 5) [(unl false 419 ⟨(k : Int), (n : Int)⟩), (unl (win y23.Slack 82 16384) 420 ⟨(k : Int), (n : Int)⟩), (unl false 422 ⟨(k : Int), (n : Int)⟩)]) (show 3 ≤ 1000 by decide)) (fun n141 hn142 => ?_)
                 replace hn142 : n135 ≤ n141 := hn142
                 refine w_keep [1, 2, 4, 5, 24, 25, 26, 7, 8, 65] [(1, i6 (k : Int)), (2, pt z), (qlnz_39 z), (qlnz_41 c k n), (qlnz_37 b16 o17 y8), (qlnz_38 y8), (26, i6 (n : Int)), (qlnz_42 n14), (8, pt b136), (qlnz_29 k n y23)] ?_
                 exact hv133 ⟨(n141, b136, b137), by first | omega | (dsimp only; omega)⟩
               refine w_all [33, 35] (by as_aux_lemma => kernel_rfl) rfl rfl ?_
               refine List.forall_mem_cons.2 ⟨?_, List.forall_mem_cons.2 ⟨?_, fun _ h => absurd h List.not_mem_nil⟩⟩
               · refine wo_eff o0 [1, 2, 4, 5, 24, 25, 26, 7, 64] [] [(1, i6 (k : Int)), (2, pt z), (qlnz_39 z), (qlnz_41 c k n), (qlnz_37 b16 o17 y8), (qlnz_38 y8), (26, i6 (n : Int)), (qlnz_42 n14), (64, .slice (some ⟨n121, 0, none⟩) 3 3)] ⟨w, n121 + 1, [(old0 w), (qlnz_26 z c), (qlnz_24 z), (qlnz_25 n14 y23), (qlnz_8 n121 k n y23)]⟩ [0, 1, 2, 3] (by as_aux_lemma => kernel_rfl) rfl trivial (.inr rfl) ?_
                 refine w_all [34, 35] (by as_aux_lemma => kernel_rfl) rfl rfl ?_
                 refine List.forall_mem_cons.2 ⟨?_, List.forall_mem_cons.2 ⟨?_, fun _ h => absurd h List.not_mem_nil⟩⟩
                 · refine wo_con 65 #[.slice (some ⟨n121, 0, none⟩) 3 3] (some 65) (.agg (Tfound.arr (fstW [(unl false 419 ⟨(k : Int), (n : Int)⟩), (unl (win y23.Slack 82 16384) 420 ⟨(k : Int), (n : Int)⟩), (unl false 422 ⟨(k : Int), (n : Int)⟩)]))) [1, 2, 4, 5, 24, 25, 26, 7, 65] [(1, i6 (k : Int)), (2, pt z), (qlnz_39 z), (qlnz_41 c k n), (qlnz_37 b16 o17 y8), (qlnz_38 y8), (26, i6 (n : Int)), (qlnz_42 n14), (qlnz_29 k n y23)] [0, 1, 2, 3] (by as_aux_lemma => kernel_rfl) rfl rfl rfl (fun w143 hw143 => first_calls w143 (hL.ext (hw143.ext rfl)) ⟨some ⟨n121, 0, none⟩, 3, [(unl false 419 ⟨(k : Int), (n : Int)⟩), (unl (win y23.Slack 82 16384) 420 ⟨(k : Int), (n : Int)⟩), (unl false 422 ⟨(k : Int), (n : Int)⟩)]⟩ (slok_blk hw143 (i := 4) [(unl false 419 ⟨(k : Int), (n : Int)⟩), (unl (win y23.Slack 82 16384) 420 ⟨(k : Int), (n : Int)⟩), (unl false 422 ⟨(k : Int), (n : Int)⟩)]) (show 3 ≤ 1000 by decide)) (fun n144 hn145 => ?_)
                   replace hn145 : n121 + 1 ≤ n144 := hn145
                   refine w_one 35 (by as_aux_lemma => kernel_rfl) rfl ?_
                   refine wo_eff o0 [1, 2, 4, 5, 24, 25, 26, 7, 65, 8] [] [(1, i6 (k : Int)), (2, pt z), (qlnz_39 z), (qlnz_41 c k n), (qlnz_37 b16 o17 y8), (qlnz_38 y8), (26, i6 (n : Int)), (qlnz_42 n14), (qlnz_29 k n y23), (8, pt n144)] ⟨w, n144 + 1, [(old0 w), (qlnz_26 z c), (qlnz_24 z), (qlnz_25 n14 y23), (qlnz_8 n121 k n y23), (bk n144 #[i6 0, i6 0, i6 0] 73)]⟩ [0, 1, 2, 3] (by as_aux_lemma => kernel_rfl) rfl trivial (.inr rfl) ?_
                   refine w_pick [0, 1, 2, 3, 5, 4] [(old0 w), (qlnz_26 z c), (qlnz_24 z), (qlnz_25 n14 y23), (bk n144 #[i6 0, i6 0, i6 0] 73), (qlnz_8 n121 k n y23)] rfl rfl ?_
                   refine w_keep [1, 2, 4, 5, 24, 25, 26, 7, 8, 65] [(1, i6 (k : Int)), (2, pt z), (qlnz_39 z), (qlnz_41 c k n), (qlnz_37 b16 o17 y8), (qlnz_38 y8), (26, i6 (n : Int)), (qlnz_42 n14), (8, pt n144), (qlnz_29 k n y23)] ?_
                   exact hv133 ⟨(n144 + 1, n144, n121), by first | omega | (dsimp only; omega)⟩
                 · refine wo_eff o0 [1, 2, 4, 5, 24, 25, 26, 7, 64, 8] [] [(1, i6 (k : Int)), (2, pt z), (qlnz_39 z), (qlnz_41 c k n), (qlnz_37 b16 o17 y8), (qlnz_38 y8), (26, i6 (n : Int)), (qlnz_42 n14), (64, .slice (some ⟨n121, 0, none⟩) 3 3), (8, pt (n121 + 1))] ⟨w, n121 + 2, [(old0 w), (qlnz_26 z c), (qlnz_24 z), (qlnz_25 n14 y23), (qlnz_8 n121 k n y23), (bk (n121 + 1) #[i6 0, i6 0, i6 0] 73)]⟩ [0, 1, 2, 3] (by as_aux_lemma => kernel_rfl) rfl trivial (.inr rfl) ?_
                   refine w_pick [0, 1, 2, 3, 5, 4] [(old0 w), (qlnz_26 z c), (qlnz_24 z), (qlnz_25 n14 y23), (bk (n121 + 1) #[i6 0, i6 0, i6 0] 73), (qlnz_8 n121 k n y23)] rfl rfl ?_
                   refine w_keep [1, 2, 4, 5, 24, 25, 26, 7, 8, 64] [(1, i6 (k : Int)), (2, pt z), (qlnz_39 z), (qlnz_41 c k n), (qlnz_37 b16 o17 y8), (qlnz_38 y8), (26, i6 (n : Int)), (qlnz_42 n14), (8, pt (n121 + 1)), (64, .slice (some ⟨n121, 0, none⟩) 3 3)] ?_
                   exact hv138 ⟨(n121 + 2, n121 + 1, n121), by first | omega | (dsimp only; omega)⟩
               · refine wo_eff o0 [1, 2, 4, 5, 24, 25, 26, 7, 46, 53, 63, 8] [] [(1, i6 (k : Int)), (2, pt z), (qlnz_39 z), (qlnz_41 c k n), (qlnz_37 b16 o17 y8), (qlnz_38 y8), (26, i6 (n : Int)), (qlnz_42 n14), (qlnz_34 k n), (qlnz_32 y23 k n), (qlnz_33 k n), (8, pt n121)] ⟨w, n121 + 1, [(old0 w), (qlnz_26 z c), (qlnz_24 z), (qlnz_25 n14 y23), (bk n121 #[i6 0, i6 0, i6 0] 73)]⟩ [0, 1, 2, 3] (by as_aux_lemma => kernel_rfl) rfl trivial (.inr rfl) ?_
                 refine w_keep [8, 1, 2, 4, 5, 24, 25, 26, 7, 46, 53, 63] [(8, pt n121), (1, i6 (k : Int)), (2, pt z), (qlnz_39 z), (qlnz_41 c k n), (qlnz_37 b16 o17 y8), (qlnz_38 y8), (26, i6 (n : Int)), (qlnz_42 n14), (qlnz_34 k n), (qlnz_32 y23 k n), (qlnz_33 k n)] ?_
                 exact hv123 ⟨(n121 + 1, n121), by first | omega | (dsimp only; omega)⟩
             rintro ⟨⟨n109, b110, b111⟩, hJ146⟩
             simp only at hJ146
             show E _ _ [(1, i6 (k : Int)), (2, pt z), (qlnz_39 z), (qlnz_41 c k n), (qlnz_37 b16 o17 y8), (qlnz_38 y8), (26, i6 (n : Int)), (qlnz_42 n14), (8, pt b111)] _ ⟨w, n109, [(old0 w), (qlnz_26 z c), (qlnz_24 z), (qlnz_25 n14 y23), (bk b110 #[i6 ((unl false 419 ⟨(k : Int), (n : Int)⟩).e), i6 ((unl false 419 ⟨(k : Int), (n : Int)⟩).where_.First), i6 ((unl false 419 ⟨(k : Int), (n : Int)⟩).where_.Second), i6 ((unl (win y23.Slack 82 16384) 420 ⟨(k : Int), (n : Int)⟩).e), i6 ((unl (win y23.Slack 82 16384) 420 ⟨(k : Int), (n : Int)⟩).where_.First), i6 ((unl (win y23.Slack 82 16384) 420 ⟨(k : Int), (n : Int)⟩).where_.Second), i6 ((unl false 422 ⟨(k : Int), (n : Int)⟩).e), i6 ((unl false 422 ⟨(k : Int), (n : Int)⟩).where_.First), i6 ((unl false 422 ⟨(k : Int), (n : Int)⟩).where_.Second)] 73), (qlnz_20 b111 k n y23)]⟩ _ _ _
             refine e_pick [0, 1, 2, 3, 5] [(old0 w), (qlnz_26 z c), (qlnz_24 z), (qlnz_25 n14 y23), (qlnz_20 b111 k n y23)] rfl rfl ?_
             have e0 : gd (corC c k).xs n = y23 := (by rw [hy23, hy8])
             have eA : coreW c k n = (fstW [(unl false 419 ⟨(k : Int), (n : Int)⟩), (unl (win y23.Slack 82 16384) 420 ⟨(k : Int), (n : Int)⟩), (unl false 422 ⟨(k : Int), (n : Int)⟩)]) := (by unfold coreW coreA; simp only [e0]; simp [h26, h108])
             refine e_keep [1, 2, 4, 5, 7, 8, 24, 25, 26] [(1, i6 (k : Int)), (2, pt z), (qlnz_39 z), (qlnz_41 c k n), (qlnz_42 n14), (8, pt b111), (qlnz_37 b16 o17 y8), (qlnz_38 y8), (26, i6 (n : Int))] ?_
             refine e_inv (fun a w' hs => ⟨n109, b111, by omega, (by (try dsimp only [qlnz_0, qlnz_1, qlnz_2, qlnz_3, qlnz_4, qlnz_5, qlnz_6, qlnz_7, qlnz_8, qlnz_9, qlnz_10, qlnz_11, qlnz_12, qlnz_13, qlnz_14, qlnz_15, qlnz_16, qlnz_17, qlnz_18, qlnz_19, qlnz_20, qlnz_21, qlnz_22, qlnz_23, qlnz_24, qlnz_25, qlnz_26, qlnz_27, qlnz_28, qlnz_29, qlnz_30, qlnz_31, qlnz_32, qlnz_33, qlnz_34, qlnz_35, qlnz_36, qlnz_37, qlnz_38, qlnz_39, qlnz_40, qlnz_41, qlnz_42] at hs ⊢); rw [eA]; exact hs)⟩)
           · refine g_draw 36 [0, 1, 2, 3] [(old0 w), (qlnz_26 z c), (qlnz_24 z), (qlnz_25 n14 y23)] rfl rfl ?_
             refine w_take [(0, o0), (1, (a1 3)), (2, o0), (3, (a1 1)), (4, o0), (5, (ov (i6 (((c.Partitions.xs.length : Nat) : Int) - 1)))), (12, o0), (13, o0), (16, o0), (17, (a1 3)), (19, o0), (20, o0), (23, (an 7 1)), (24, o0), (25, o0), (26, (a1 3)), (29, o0), (30, o0)] [1, 2, 4, 5, 24, 25, 26, 7, 32, 36, 43, 44, 48, 50, 51, 54, 55, 57, 60, 61] [Qb n14, Qb z, Wr ((((c.Partitions.xs.length : Nat) : Int) : Int) - 1) (((c.Partitions.xs.length : Nat) : Int) - 1), Qb n14, Qb z, Qb z, Qb z, Qb z, Qb z, Qb z, Qb z, Qb n14] [true, true, true, true, true, true, false, false, false, false, false, false, true, true, false, false, true, true, false, true, true, false, false, true, true, true, true, false, false, true, true, false, false, false, false, false, false] [(1, i6 (k : Int)), (2, pt z), (qlnz_39 z), (qlnz_41 c k n), (qlnz_37 b16 o17 y8), (qlnz_38 y8), (26, i6 (n : Int)), (qlnz_42 n14), (32, i6 y23.Partition), (qlnz_36 c), (43, i6 (k : Int)), (44, i6 (n : Int)), (48, i6 y23.Slack), (50, i6 (k : Int)), (51, i6 (n : Int)), (54, .agg (TConfig.arr c)), (55, i6 (k : Int)), (57, i6 y23.Partition), (60, i6 (k : Int)), (61, i6 (n : Int))] rfl (by as_aux_lemma => kernel_rfl) (by as_aux_lemma => kernel_rfl) ⟨rfl, rfl, wrI, rfl, rfl, rfl, rfl, rfl, rfl, rfl, rfl, rfl, trivial⟩ ?_
             refine w_join (fun x : {p : Nat × Nat × Nat // n14 + 1 ≤ p.1 ∧ n14 + 1 ≤ p.2.1 ∧ n14 + 1 ≤ p.2.2} => ([(1, i6 (k : Int)), (2, pt z), (qlnz_39 z), (qlnz_41 c k n), (qlnz_37 b16 o17 y8), (qlnz_38 y8), (26, i6 (n : Int)), (qlnz_42 n14), (8, pt x.1.2.2)], ⟨w, x.1.1, [(old0 w), (qlnz_26 z c), (qlnz_24 z), (qlnz_25 n14 y23), (.blk x.1.2.1 (.cells #[i6 ((unl false 419 ⟨(k : Int), (n : Int)⟩).e), i6 ((unl false 419 ⟨(k : Int), (n : Int)⟩).where_.First), i6 ((unl false 419 ⟨(k : Int), (n : Int)⟩).where_.Second), i6 ((unl (win y23.Slack 82 16384) 420 ⟨(k : Int), (n : Int)⟩).e), i6 ((unl (win y23.Slack 82 16384) 420 ⟨(k : Int), (n : Int)⟩).where_.First), i6 ((unl (win y23.Slack 82 16384) 420 ⟨(k : Int), (n : Int)⟩).where_.Second), i6 ((unl true 422 ⟨(k : Int), (n : Int)⟩).e), i6 ((unl true 422 ⟨(k : Int), (n : Int)⟩).where_.First), i6 ((unl true 422 ⟨(k : Int), (n : Int)⟩).where_.Second)] 73 (0, 0)) true), (.blk x.1.2.2 (.cells (Tfound.arr (fstW [(unl false 419 ⟨(k : Int), (n : Int)⟩), (unl (win y23.Slack 82 16384) 420 ⟨(k : Int), (n : Int)⟩), (unl true 422 ⟨(k : Int), (n : Int)⟩)])) 73 (0, 0)) true)]⟩)) (fun hK => ?_) ?_
             · refine w_chainF 35 8 [.cl 6 (.bool (win y23.Partition (-1) (((c.Partitions.xs.length : Nat) : Int) - 1))), .tk 7 (ov (.bool false)), .tk 8 o0, .tk 9 o0, .tk 10 o0, .tk 11 o0, .cl 14 (.agg #[i6 (k : Int), i6 (n : Int)]), .cl 15 (.agg (Tfound.arr (unl false 419 ⟨(k : Int), (n : Int)⟩))), .cl 18 (.bool (win y23.Slack 82 16384)), .cl 21 (.agg #[i6 (k : Int), i6 (n : Int)]), .cl 22 (.agg (Tfound.arr (unl (win y23.Slack 82 16384) 420 ⟨(k : Int), (n : Int)⟩))), .cl 27 (.bool (splitP c k y23.Partition)), .tk 28 (ov (.bool true)), .cl 31 (.agg #[i6 (k : Int), i6 (n : Int)]), .cl 32 (.agg (Tfound.arr (unl true 422 ⟨(k : Int), (n : Int)⟩)))] [1, 2, 4, 5, 24, 25, 26, 7, 46, 53, 63] [(42, #[i6 y23.Partition, i6 (-1), i6 (((c.Partitions.xs.length : Nat) : Int) - 1)], .bool (win y23.Partition (-1) (((c.Partitions.xs.length : Nat) : Int) - 1))), (70, #[i6 (k : Int), i6 (n : Int)], .agg #[i6 (k : Int), i6 (n : Int)]), (41, #[.bool false, i6 419, .agg #[i6 (k : Int), i6 (n : Int)]], .agg (Tfound.arr (unl false 419 ⟨(k : Int), (n : Int)⟩))), (42, #[i6 y23.Slack, i6 82, i6 16384], .bool (win y23.Slack 82 16384)), (70, #[i6 (k : Int), i6 (n : Int)], .agg #[i6 (k : Int), i6 (n : Int)]), (41, #[.bool (win y23.Slack 82 16384), i6 420, .agg #[i6 (k : Int), i6 (n : Int)]], .agg (Tfound.arr (unl (win y23.Slack 82 16384) 420 ⟨(k : Int), (n : Int)⟩))), (72, #[.agg (TConfig.arr c), i6 (k : Int), i6 y23.Partition], .bool (splitP c k y23.Partition)), (70, #[i6 (k : Int), i6 (n : Int)], .agg #[i6 (k : Int), i6 (n : Int)]), (41, #[.bool true, i6 422, .agg #[i6 (k : Int), i6 (n : Int)]], .agg (Tfound.arr (unl true 422 ⟨(k : Int), (n : Int)⟩)))] [true, true, true, true, true, true, true, true, true, true, true, true, true, true, true, true, true, true, true, true, true, true, true, true, true, true, true, true, true, true, true, true, true, false, false, false, false] [Value.bool (win y23.Partition (-1) (((c.Partitions.xs.length : Nat) : Int) - 1)) = Value.bool false, Value.bool (!(splitP c k y23.Partition)) = Value.bool true] [(1, i6 (k : Int)), (2, pt z), (qlnz_39 z), (qlnz_41 c k n), (qlnz_37 b16 o17 y8), (qlnz_38 y8), (26, i6 (n : Int)), (qlnz_42 n14), (qlnz_34 k n), (qlnz_32 y23 k n), (qlnz_35 k n)] (.cells #[i6 0, i6 0, i6 0] 73 (0, 0)) [0, 1, 2, 3] ⟨(congrArg Value.bool (Bool.eq_false_iff.2 h26)), by simp [h108], trivial⟩ ⟨fun w150 hw150 => within_calls w150 y23.Partition (-1) (((c.Partitions.xs.length : Nat) : Int) - 1), fun w151 hw151 => both_calls w151 (k : Int) (n : Int), fun w152 hw152 => unless_calls w152 (hL.ext (hw152.ext rfl)) false 419 (k : Int) (n : Int), fun w153 hw153 => within_calls w153 y23.Slack 82 16384, fun w154 hw154 => both_calls w154 (k : Int) (n : Int), fun w155 hw155 => unless_calls w155 (hL.ext (hw155.ext rfl)) (win y23.Slack 82 16384) 420 (k : Int) (n : Int), fun w156 hw156 => split_calls w156 c (hc.ext (hw156.ext rfl) (fun _ h => h)) k hk y23.Partition, fun w157 hw157 => both_calls w157 (k : Int) (n : Int), fun w158 hw158 => unless_calls w158 (hL.ext (hw158.ext rfl)) true 422 (k : Int) (n : Int), trivial⟩ ?_ (fun hv161 n159 hn160 => ?_)
               · rintro ⟨⟨n162, b163⟩, hb164⟩
                 simp only at hb164
                 refine w_one 33 (by as_aux_lemma => kernel_rfl) rfl ?_
                 refine wo_eff o0 [8, 1, 2, 4, 5, 24, 25, 26, 7, 64] [] [(8, pt b163), (1, i6 (k : Int)), (2, pt z), (qlnz_39 z), (qlnz_41 c k n), (qlnz_37 b16 o17 y8), (qlnz_38 y8), (26, i6 (n : Int)), (qlnz_42 n14), (64, .slice (some ⟨n162, 0, none⟩) 3 3)] ⟨w, n162 + 1, [(old0 w), (qlnz_26 z c), (qlnz_24 z), (qlnz_25 n14 y23), (bk b163 #[i6 0, i6 0, i6 0] 73), (qlnz_9 n162 k n y23)]⟩ [0, 1, 2, 3] (by as_aux_lemma => kernel_rfl) rfl trivial (.inr rfl) ?_
                 refine w_one 34 (by as_aux_lemma => kernel_rfl) rfl ?_
                 refine wo_con 65 #[.slice (some ⟨n162, 0, none⟩) 3 3] (some 65) (.agg (Tfound.arr (fstW [(unl false 419 ⟨(k : Int), (n : Int)⟩), (unl (win y23.Slack 82 16384) 420 ⟨(k : Int), (n : Int)⟩), (unl true 422 ⟨(k : Int), (n : Int)⟩)]))) [8, 1, 2, 4, 5, 24, 25, 26, 7, 65] [(8, pt b163), (1, i6 (k : Int)), (2, pt z), (qlnz_39 z), (qlnz_41 c k n), (qlnz_37 b16 o17 y8), (qlnz_38 y8), (26, i6 (n : Int)), (qlnz_42 n14), (qlnz_30 k n y23)] [0, 1, 2, 3] (by as_aux_lemma => kernel_rfl) rfl rfl rfl (fun w165 hw165 => first_calls w165 (hL.ext (hw165.ext rfl)) ⟨some ⟨n162, 0, none⟩, 3, [(unl false 419 ⟨(k : Int), (n : Int)⟩), (unl (win y23.Slack 82 16384) 420 ⟨(k : Int), (n : Int)⟩), (unl true 422 ⟨(k : Int), (n : Int)⟩)]⟩ (slok_blk hw165 (i := 5) [(unl false 419 ⟨(k : Int), (n : Int)⟩), (unl (win y23.Slack 82 16384) 420 ⟨(k : Int), (n : Int)⟩), (unl true 422 ⟨(k : Int), (n : Int)⟩)]) (show 3 ≤ 1000 by decide)) (fun n166 hn167 => ?_)
                 replace hn167 : n162 + 1 ≤ n166 := hn167
                 refine w_one 36 (by as_aux_lemma => kernel_rfl) rfl ?_
                 refine wo_eff (an 3 4) [8, 1, 2, 4, 5, 24, 25, 26, 7] [Qb b163, Qb b163, Qb b163] [(8, pt b163), (1, i6 (k : Int)), (2, pt z), (qlnz_39 z), (qlnz_41 c k n), (qlnz_37 b16 o17 y8), (qlnz_38 y8), (26, i6 (n : Int)), (qlnz_42 n14)] ⟨w, n166, [(old0 w), (qlnz_26 z c), (qlnz_24 z), (qlnz_25 n14 y23), (qlnz_21 b163 k n y23), (qlnz_9 n162 k n y23)]⟩ [] (by as_aux_lemma => kernel_rfl) rfl ⟨rfl, rfl, rfl, trivial⟩ (.inl rfl) ?_
                 refine w_free 37 [0, 1, 2, 3, 4, 5] [(old0 w), (qlnz_26 z c), (qlnz_24 z), (qlnz_25 n14 y23), (qlnz_21 b163 k n y23), (qlnz_9 n162 k n y23)] rfl rfl ?_
                 refine w_done (by as_aux_lemma => kernel_rfl) ?_
                 refine e_keep [1, 2, 4, 5, 24, 25, 26, 7, 8] [(1, i6 (k : Int)), (2, pt z), (qlnz_39 z), (qlnz_41 c k n), (qlnz_37 b16 o17 y8), (qlnz_38 y8), (26, i6 (n : Int)), (qlnz_42 n14), (8, pt b163)] ?_
                 refine e_pick [0, 1, 2, 3, 5, 4] [(old0 w), (qlnz_26 z c), (qlnz_24 z), (qlnz_25 n14 y23), (qlnz_9 n162 k n y23), (qlnz_21 b163 k n y23)] rfl rfl ?_
                 exact hK ⟨(n166, n162, b163), by first | omega | (dsimp only; omega)⟩
               replace hn160 : n14 + 1 ≤ n159 := hn160
               refine w_via (fun x : {p : Nat × Nat × Nat // n159 ≤ p.1 ∧ n159 ≤ p.2.1 ∧ n159 ≤ p.2.2} => [(1, i6 (k : Int)), (2, pt z), (qlnz_39 z), (qlnz_41 c k n), (qlnz_37 b16 o17 y8), (qlnz_38 y8), (26, i6 (n : Int)), (qlnz_42 n14), (8, pt x.1.2.1), (qlnz_30 k n y23)]) (fun x => ⟨w, x.1.1, [(old0 w), (qlnz_26 z c), (qlnz_24 z), (qlnz_25 n14 y23), (.blk x.1.2.1 (.cells #[i6 0, i6 0, i6 0] 73 (0, 0)) true), (.blk x.1.2.2 (.cells #[i6 ((unl false 419 ⟨(k : Int), (n : Int)⟩).e), i6 ((unl false 419 ⟨(k : Int), (n : Int)⟩).where_.First), i6 ((unl false 419 ⟨(k : Int), (n : Int)⟩).where_.Second), i6 ((unl (win y23.Slack 82 16384) 420 ⟨(k : Int), (n : Int)⟩).e), i6 ((unl (win y23.Slack 82 16384) 420 ⟨(k : Int), (n : Int)⟩).where_.First), i6 ((unl (win y23.Slack 82 16384) 420 ⟨(k : Int), (n : Int)⟩).where_.Second), i6 ((unl true 422 ⟨(k : Int), (n : Int)⟩).e), i6 ((unl true 422 ⟨(k : Int), (n : Int)⟩).where_.First), i6 ((unl true 422 ⟨(k : Int), (n : Int)⟩).where_.Second)] 73 (0, 0)) true)]⟩) 1 [true, true, true, true, true, true, true, true, true, true, true, true, true, true, true, true, true, true, true, true, true, true, true, true, true, true, true, true, true, true, true, true, true, true, true, true, false] ?_ (fun hv171 => ?_)
               · rintro ⟨⟨n168, b169, b170⟩, hb172⟩
                 simp only at hb172
                 show Wg _ _ [(1, i6 (k : Int)), (2, pt z), (qlnz_39 z), (qlnz_41 c k n), (qlnz_37 b16 o17 y8), (qlnz_38 y8), (26, i6 (n : Int)), (qlnz_42 n14), (8, pt b169), (qlnz_30 k n y23)] _ ⟨w, n168, [(old0 w), (qlnz_26 z c), (qlnz_24 z), (qlnz_25 n14 y23), (bk b169 #[i6 0, i6 0, i6 0] 73), (qlnz_10 b170 k n y23)]⟩ _ _ _ _ _ _ _
                 refine w_one 36 (by as_aux_lemma => kernel_rfl) rfl ?_
                 refine wo_eff (an 3 4) [1, 2, 4, 5, 24, 25, 26, 7, 8] [Qb b169, Qb b169, Qb b169] [(1, i6 (k : Int)), (2, pt z), (qlnz_39 z), (qlnz_41 c k n), (qlnz_37 b16 o17 y8), (qlnz_38 y8), (26, i6 (n : Int)), (qlnz_42 n14), (8, pt b169)] ⟨w, n168, [(old0 w), (qlnz_26 z c), (qlnz_24 z), (qlnz_25 n14 y23), (qlnz_22 b169 k n y23), (qlnz_10 b170 k n y23)]⟩ [] (by as_aux_lemma => kernel_rfl) rfl ⟨rfl, rfl, rfl, trivial⟩ (.inl rfl) ?_
                 refine w_free 37 [0, 1, 2, 3, 4, 5] [(old0 w), (qlnz_26 z c), (qlnz_24 z), (qlnz_25 n14 y23), (qlnz_22 b169 k n y23), (qlnz_10 b170 k n y23)] rfl rfl ?_
                 refine w_done (by as_aux_lemma => kernel_rfl) ?_
                 refine e_keep [1, 2, 4, 5, 24, 25, 26, 7, 8] [(1, i6 (k : Int)), (2, pt z), (qlnz_39 z), (qlnz_41 c k n), (qlnz_37 b16 o17 y8), (qlnz_38 y8), (26, i6 (n : Int)), (qlnz_42 n14), (8, pt b169)] ?_
                 refine e_pick [0, 1, 2, 3, 5, 4] [(old0 w), (qlnz_26 z c), (qlnz_24 z), (qlnz_25 n14 y23), (qlnz_10 b170 k n y23), (qlnz_22 b169 k n y23)] rfl rfl ?_
                 exact hK ⟨(n168, b170, b169), by first | omega | (dsimp only; omega)⟩
               refine w_via (fun x : {p : Nat × Nat × Nat // n159 ≤ p.1 ∧ n159 ≤ p.2.1 ∧ n159 ≤ p.2.2} => [(1, i6 (k : Int)), (2, pt z), (qlnz_39 z), (qlnz_41 c k n), (qlnz_37 b16 o17 y8), (qlnz_38 y8), (26, i6 (n : Int)), (qlnz_42 n14), (8, pt x.1.2.1), (64, .slice (some ⟨x.1.2.2, 0, none⟩) 3 3)]) (fun x => ⟨w, x.1.1, [(old0 w), (qlnz_26 z c), (qlnz_24 z), (qlnz_25 n14 y23), (.blk x.1.2.1 (.cells #[i6 0, i6 0, i6 0] 73 (0, 0)) true), (.blk x.1.2.2 (.cells #[i6 ((unl false 419 ⟨(k : Int), (n : Int)⟩).e), i6 ((unl false 419 ⟨(k : Int), (n : Int)⟩).where_.First), i6 ((unl false 419 ⟨(k : Int), (n : Int)⟩).where_.Second), i6 ((unl (win y23.Slack 82 16384) 420 ⟨(k : Int), (n : Int)⟩).e), i6 ((unl (win y23.Slack 82 16384) 420 ⟨(k : Int), (n : Int)⟩).where_.First), i6 ((unl (win y23.Slack 82 16384) 420 ⟨(k : Int), (n : Int)⟩).where_.Second), i6 ((unl true 422 ⟨(k : Int), (n : Int)⟩).e), i6 ((unl true 422 ⟨(k : Int), (n : Int)⟩).where_.First), i6 ((unl true 422 ⟨(k : Int), (n : Int)⟩).where_.Second)] 73 (0, 0)) true)]⟩) 2 [true, true, true, true, true, true, true, true, true, true, true, true, true, true, true, true, true, true, true, true, true, true, true, true, true, true, true, true, true, true, true, true, true, true, false, true, false] ?_ (fun hv176 => ?_)
               · rintro ⟨⟨n173, b174, b175⟩, hb177⟩
                 simp only at hb177
                 show Wg _ _ [(1, i6 (k : Int)), (2, pt z), (qlnz_39 z), (qlnz_41 c k n), (qlnz_37 b16 o17 y8), (qlnz_38 y8), (26, i6 (n : Int)), (qlnz_42 n14), (8, pt b174), (64, .slice (some ⟨b175, 0, none⟩) 3 3)] _ ⟨w, n173, [(old0 w), (qlnz_26 z c), (qlnz_24 z), (qlnz_25 n14 y23), (bk b174 #[i6 0, i6 0, i6 0] 73), (bk b175 #[i6 ((unl false 419 ⟨(k : Int), (n : Int)⟩).e), i6 ((unl false 419 ⟨(k : Int), (n : Int)⟩).where_.First), i6 ((unl false 419 ⟨(k : Int), (n : Int)⟩).where_.Second), i6 ((unl (win y23.Slack 82 16384) 420 ⟨(k : Int), (n : Int)⟩).e), i6 ((unl (win y23.Slack 82 16384) 420 ⟨(k : Int), (n : Int)⟩).where_.First), i6 ((unl (win y23.Slack 82 16384) 420 ⟨(k : Int), (n : Int)⟩).where_.Second), i6 ((unl true 422 ⟨(k : Int), (n : Int)⟩).e), i6 ((unl true 422 ⟨(k : Int), (n : Int)⟩).where_.First), i6 ((unl true 422 ⟨(k : Int), (n : Int)⟩).where_.Second)] 73)]⟩ _ _ _ _ _ _ _
                 refine w_one 34 (by as_aux_lemma => kernel_rfl) rfl ?_
                 refine wo_con 65 #[.slice (some ⟨b175, 0, none⟩) 3 3] (some 65) (.agg (Tfound.arr (fstW [(unl false 419 ⟨(k : Int), (n : Int)⟩), (unl (win y23.Slack 82 16384) 420 ⟨(k : Int), (n : Int)⟩), (unl true 422 ⟨(k : Int), (n : Int)⟩)]))) [1, 2, 4, 5, 24, 25, 26, 7, 8, 65] [(1, i6 (k : Int)), (2, pt z), (qlnz_39 z), (qlnz_41 c k n), (qlnz_37 b16 o17 y8), (qlnz_38 y8), (26, i6 (n : Int)), (qlnz_42 n14), (8, pt b174), (qlnz_30 k n y23)] [0, 1, 2, 3] (by as_aux_lemma => kernel_rfl) rfl rfl rfl (fun w178 hw178 => first_calls w178 (hL.ext (hw178.ext rfl)) ⟨some ⟨b175, 0, none⟩, 3, [(unl false 419 ⟨(k : Int), (n : Int)⟩), (unl (win y23.Slack 82 16384) 420 ⟨(k : Int), (n : Int)⟩), (unl true 422 ⟨(k : Int), (n : Int)⟩)]⟩ (slok_blk hw178 (i := 5) [(unl false 419 ⟨(k : Int), (n : Int)⟩), (unl (win y23.Slack 82 16384) 420 ⟨(k : Int), (n : Int)⟩), (unl true 422 ⟨(k : Int), (n : Int)⟩)]) (show 3 ≤ 1000 by decide)) (fun n179 hn180 => ?_)
                 replace hn180 : n173 ≤ n179 := hn180
                 refine w_keep [1, 2, 4, 5, 24, 25, 26, 7, 8, 65] [(1, i6 (k : Int)), (2, pt z), (qlnz_39 z), (qlnz_41 c k n), (qlnz_37 b16 o17 y8), (qlnz_38 y8), (26, i6 (n : Int)), (qlnz_42 n14), (8, pt b174), (qlnz_30 k n y23)] ?_
                 exact hv171 ⟨(n179, b174, b175), by first | omega | (dsimp only; omega)⟩
               refine w_all [33, 35] (by as_aux_lemma => kernel_rfl) rfl rfl ?_
               refine List.forall_mem_cons.2 ⟨?_, List.forall_mem_cons.2 ⟨?_, fun _ h => absurd h List.not_mem_nil⟩⟩
               · refine wo_eff o0 [1, 2, 4, 5, 24, 25, 26, 7, 64] [] [(1, i6 (k : Int)), (2, pt z), (qlnz_39 z), (qlnz_41 c k n), (qlnz_37 b16 o17 y8), (qlnz_38 y8), (26, i6 (n : Int)), (qlnz_42 n14), (64, .slice (some ⟨n159, 0, none⟩) 3 3)] ⟨w, n159 + 1, [(old0 w), (qlnz_26 z c), (qlnz_24 z), (qlnz_25 n14 y23), (qlnz_11 n159 k n y23)]⟩ [0, 1, 2, 3] (by as_aux_lemma => kernel_rfl) rfl trivial (.inr rfl) ?_
                 refine w_all [34, 35] (by as_aux_lemma => kernel_rfl) rfl rfl ?_
                 refine List.forall_mem_cons.2 ⟨?_, List.forall_mem_cons.2 ⟨?_, fun _ h => absurd h List.not_mem_nil⟩⟩
                 · refine wo_con 65 #[.slice (some ⟨n159, 0, none⟩) 3 3] (some 65) (.agg (Tfound.arr (fstW [(unl false 419 ⟨(k : Int), (n : Int)⟩), (unl (win y23.Slack 82 16384) 420 ⟨(k : Int), (n : Int)⟩), (unl true 422 ⟨(k : Int), (n : Int)⟩)]))) [1, 2, 4, 5, 24, 25, 26, 7, 65] [(1, i6 (k : Int)), (2, pt z), (qlnz_39 z), (qlnz_41 c k n), (qlnz_37 b16 o17 y8), (qlnz_38 y8), (26, i6 (n : Int)), (qlnz_42 n14), (qlnz_30 k n y23)] [0, 1, 2, 3] (by as_aux_lemma => kernel_rfl) rfl rfl rfl (fun w181 hw181 => first_calls w181 (hL.ext (hw181.ext rfl)) ⟨some ⟨n159, 0, none⟩, 3, [(unl false 419 ⟨(k : Int), (n : Int)⟩), (unl (win y23.Slack 82 16384) 420 ⟨(k : Int), (n : Int)⟩), (unl true 422 ⟨(k : Int), (n : Int)⟩)]⟩ (slok_blk hw181 (i := 4) [(unl false 419 ⟨(k : Int), (n : Int)⟩), (unl (win y23.Slack 82 16384) 420 ⟨(k : Int), (n : Int)⟩), (unl true 422 ⟨(k : Int), (n : Int)⟩)]) (show 3 ≤ 1000 by decide)) (fun n182 hn183 => ?_)
                   replace hn183 : n159 + 1 ≤ n182 := hn183
                   refine w_one 35 (by as_aux_lemma => kernel_rfl) rfl ?_
                   refine wo_eff o0 [1, 2, 4, 5, 24, 25, 26, 7, 65, 8] [] [(1, i6 (k : Int)), (2, pt z), (qlnz_39 z), (qlnz_41 c k n), (qlnz_37 b16 o17 y8), (qlnz_38 y8), (26, i6 (n : Int)), (qlnz_42 n14), (qlnz_30 k n y23), (8, pt n182)] ⟨w, n182 + 1, [(old0 w), (qlnz_26 z c), (qlnz_24 z), (qlnz_25 n14 y23), (qlnz_11 n159 k n y23), (bk n182 #[i6 0, i6 0, i6 0] 73)]⟩ [0, 1, 2, 3] (by as_aux_lemma => kernel_rfl) rfl trivial (.inr rfl) ?_
                   refine w_pick [0, 1, 2, 3, 5, 4] [(old0 w), (qlnz_26 z c), (qlnz_24 z), (qlnz_25 n14 y23), (bk n182 #[i6 0, i6 0, i6 0] 73), (qlnz_11 n159 k n y23)] rfl rfl ?_
                   refine w_keep [1, 2, 4, 5, 24, 25, 26, 7, 8, 65] [(1, i6 (k : Int)), (2, pt z), (qlnz_39 z), (qlnz_41 c k n), (qlnz_37 b16 o17 y8), (qlnz_38 y8), (26, i6 (n : Int)), (qlnz_42 n14), (8, pt n182), (qlnz_30 k n y23)] ?_
                   exact hv171 ⟨(n182 + 1, n182, n159), by first | omega | (dsimp only; omega)⟩
                 · refine wo_eff o0 [1, 2, 4, 5, 24, 25, 26, 7, 64, 8] [] [(1, i6 (k : Int)), (2, pt z), (qlnz_39 z), (qlnz_41 c k n), (qlnz_37 b16 o17 y8), (qlnz_38 y8), (26, i6 (n : Int)), (qlnz_42 n14), (64, .slice (some ⟨n159, 0, none⟩) 3 3), (8, pt (n159 + 1))] ⟨w, n159 + 2, [(old0 w), (qlnz_26 z c), (qlnz_24 z), (qlnz_25 n14 y23), (qlnz_11 n159 k n y23), (bk (n159 + 1) #[i6 0, i6 0, i6 0] 73)]⟩ [0, 1, 2, 3] (by as_aux_lemma => kernel_rfl) rfl trivial (.inr rfl) ?_
                   refine w_pick [0, 1, 2, 3, 5, 4] [(old0 w), (qlnz_26 z c), (qlnz_24 z), (qlnz_25 n14 y23), (bk (n159 + 1) #[i6 0, i6 0, i6 0] 73), (qlnz_11 n159 k n y23)] rfl rfl ?_
                   refine w_keep [1, 2, 4, 5, 24, 25, 26, 7, 8, 64] [(1, i6 (k : Int)), (2, pt z), (qlnz_39 z), (qlnz_41 c k n), (qlnz_37 b16 o17 y8), (qlnz_38 y8), (26, i6 (n : Int)), (qlnz_42 n14), (8, pt (n159 + 1)), (64, .slice (some ⟨n159, 0, none⟩) 3 3)] ?_
                   exact hv176 ⟨(n159 + 2, n159 + 1, n159), by first | omega | (dsimp only; omega)⟩
               · refine wo_eff o0 [1, 2, 4, 5, 24, 25, 26, 7, 46, 53, 63, 8] [] [(1, i6 (k : Int)), (2, pt z), (qlnz_39 z), (qlnz_41 c k n), (qlnz_37 b16 o17 y8), (qlnz_38 y8), (26, i6 (n : Int)), (qlnz_42 n14), (qlnz_34 k n), (qlnz_32 y23 k n), (qlnz_35 k n), (8, pt n159)] ⟨w, n159 + 1, [(old0 w), (qlnz_26 z c), (qlnz_24 z), (qlnz_25 n14 y23), (bk n159 #[i6 0, i6 0, i6 0] 73)]⟩ [0, 1, 2, 3] (by as_aux_lemma => kernel_rfl) rfl trivial (.inr rfl) ?_
                 refine w_keep [8, 1, 2, 4, 5, 24, 25, 26, 7, 46, 53, 63] [(8, pt n159), (1, i6 (k : Int)), (2, pt z), (qlnz_39 z), (qlnz_41 c k n), (qlnz_37 b16 o17 y8), (qlnz_38 y8), (26, i6 (n : Int)), (qlnz_42 n14), (qlnz_34 k n), (qlnz_32 y23 k n), (qlnz_35 k n)] ?_
                 exact hv161 ⟨(n159 + 1, n159), by first | omega | (dsimp only; omega)⟩
             rintro ⟨⟨n147, b148, b149⟩, hJ184⟩
             simp only at hJ184
             show E _ _ [(1, i6 (k : Int)), (2, pt z), (qlnz_39 z), (qlnz_41 c k n), (qlnz_37 b16 o17 y8), (qlnz_38 y8), (26, i6 (n : Int)), (qlnz_42 n14), (8, pt b149)] _ ⟨w, n147, [(old0 w), (qlnz_26 z c), (qlnz_24 z), (qlnz_25 n14 y23), (bk b148 #[i6 ((unl false 419 ⟨(k : Int), (n : Int)⟩).e), i6 ((unl false 419 ⟨(k : Int), (n : Int)⟩).where_.First), i6 ((unl false 419 ⟨(k : Int), (n : Int)⟩).where_.Second), i6 ((unl (win y23.Slack 82 16384) 420 ⟨(k : Int), (n : Int)⟩).e), i6 ((unl (win y23.Slack 82 16384) 420 ⟨(k : Int), (n : Int)⟩).where_.First), i6 ((unl (win y23.Slack 82 16384) 420 ⟨(k : Int), (n : Int)⟩).where_.Second), i6 ((unl true 422 ⟨(k : Int), (n : Int)⟩).e), i6 ((unl true 422 ⟨(k : Int), (n : Int)⟩).where_.First), i6 ((unl true 422 ⟨(k : Int), (n : Int)⟩).where_.Second)] 73), (qlnz_23 b149 k n y23)]⟩ _ _ _
             refine e_pick [0, 1, 2, 3, 5] [(old0 w), (qlnz_26 z c), (qlnz_24 z), (qlnz_25 n14 y23), (qlnz_23 b149 k n y23)] rfl rfl ?_
             have e0 : gd (corC c k).xs n = y23 := (by rw [hy23, hy8])
             have eA : coreW c k n = (fstW [(unl false 419 ⟨(k : Int), (n : Int)⟩), (unl (win y23.Slack 82 16384) 420 ⟨(k : Int), (n : Int)⟩), (unl true 422 ⟨(k : Int), (n : Int)⟩)]) := (by unfold coreW coreA; simp only [e0]; simp [h26, h108])
             refine e_keep [1, 2, 4, 5, 7, 8, 24, 25, 26] [(1, i6 (k : Int)), (2, pt z), (qlnz_39 z), (qlnz_41 c k n), (qlnz_42 n14), (8, pt b149), (qlnz_37 b16 o17 y8), (qlnz_38 y8), (26, i6 (n : Int))] ?_
             refine e_inv (fun a w' hs => ⟨n147, b149, by omega, (by (try dsimp only [qlnz_0, qlnz_1, qlnz_2, qlnz_3, qlnz_4, qlnz_5, qlnz_6, qlnz_7, qlnz_8, qlnz_9, qlnz_10, qlnz_11, qlnz_12, qlnz_13, qlnz_14, qlnz_15, qlnz_16, qlnz_17, qlnz_18, qlnz_19, qlnz_20, qlnz_21, qlnz_22, qlnz_23, qlnz_24, qlnz_25, qlnz_26, qlnz_27, qlnz_28, qlnz_29, qlnz_30, qlnz_31, qlnz_32, qlnz_33, qlnz_34, qlnz_35, qlnz_36, qlnz_37, qlnz_38, qlnz_39, qlnz_40, qlnz_41, qlnz_42] at hs ⊢); rw [eA]; exact hs)⟩)
       · rintro a w' ⟨n24, b8, hn25, hs⟩
         refine (?_ : G Tryd.prog 85 [(1, i6 (k : Int)), (2, pt z), (qlnz_39 z), (qlnz_41 c k n), (qlnz_42 n14), (8, pt b8), (qlnz_37 b16 o17 y8), (qlnz_38 y8), (26, i6 (n : Int))] [] ⟨w, n24, [(old0 w), (qlnz_26 z c), (qlnz_24 z), (qlnz_25 n14 y23), (bk b8 (Tfound.arr (coreW c k n)) 73)]⟩ _ _ _) a w' hs
         clear hs a w'
         refine g_seq <| g_seq ?_
         by_cases h185 : (((coreW c k n).e : Int) == (0 : Int) && ((((coreW c k n).where_.First : Int) == (0 : Int) && (((coreW c k n).where_.Second : Int) == (0 : Int) && true)) && true)) = true
         · have hbd0 := coreW_fine (fine_eq.1 h185); rw [show gd (corC c k).xs n = y23 from (by rw [hy23, hy8])] at hbd0
           refine q_cS 12 0 [0] [[(an 3 4), (oa [.via 0 (i6 0), .via 0 (i6 0), .via 0 (i6 0)]), ⟨.seq true, none⟩], [o0, o0, (a1 3), o0, (a1 3), (ov (i6 (y23.Usable + y23.Slack))), (ov (i6 ((sumW (corC c k).xs n) + (y23.Usable + y23.Slack)))), o0], [(ov (i6 ((n + 1 : Nat) : Int))), o0]] [Qb b8, Qb b8, Qb b8, Old w 0 0 (i6 0), Old w 0 1 (i6 0), Old w 0 2 (i6 0), (((coreW c k n).e : Int) == (0 : Int) && ((((coreW c k n).where_.First : Int) == (0 : Int) && (((coreW c k n).where_.Second : Int) == (0 : Int) && true)) && true)) = true, Qb n14, Qb n14, Wr ((y23.Usable : Int) + y23.Slack) (y23.Usable + y23.Slack), Wr ((sumW (corC c k).xs n : Int) + (y23.Usable + y23.Slack)) ((sumW (corC c k).xs n) + (y23.Usable + y23.Slack)), Wr (((n : Int) : Int) + 1) (((n + 1 : Nat) : Int))] [(1, i6 (k : Int)), (2, pt z), (qlnz_39 z), (5, i6 ((sumW (corC c k).xs n) + (y23.Usable + y23.Slack))), (qlnz_37 b16 o17 y8), (qlnz_38 y8), (26, i6 ((n + 1 : Nat) : Int))] rfl ⟨rfl, rfl, rfl, old_cell' (hL.2 0 _ rfl), old_cell' (hL.2 1 _ rfl), old_cell' (hL.2 2 _ rfl), h185, rfl, rfl, wrI, wrI, wrI, trivial⟩ ?_
           refine e_pick [0, 1, 2] [(old0 w), (qlnz_26 z c), (qlnz_24 z)] rfl rfl ?_
           have e0 : gd (corC c k).xs n = y23 := (by rw [hy23, hy8])
           have hnn := fine_eq.1 h185
           have hbd := coreW_fine hnn
           have eS := sumW_succ (corC c k).xs n
           rw [e0] at hbd eS
           have hss : 0 ≤ sumW (corC c k).xs (n + 1) ∧ sumW (corC c k).xs (n + 1) ≤ ((n + 1 : Nat) : Int) * 32768 := (by rw [eS]; omega)
           refine e_eqk [1, 2, 4, 5, 24, 25, 26] [(1, i6 (k : Int)), (2, pt z), (qlnz_39 z), (5, i6 ((sumW (corC c k).xs n) + (y23.Usable + y23.Slack))), (qlnz_40 y8), (qlnz_38 y8), (26, i6 ((n + 1 : Nat) : Int))] (by (try dsimp only [qlnz_0, qlnz_1, qlnz_2, qlnz_3, qlnz_4, qlnz_5, qlnz_6, qlnz_7, qlnz_8, qlnz_9, qlnz_10, qlnz_11, qlnz_12, qlnz_13, qlnz_14, qlnz_15, qlnz_16, qlnz_17, qlnz_18, qlnz_19, qlnz_20, qlnz_21, qlnz_22, qlnz_23, qlnz_24, qlnz_25, qlnz_26, qlnz_27, qlnz_28, qlnz_29, qlnz_30, qlnz_31, qlnz_32, qlnz_33, qlnz_34, qlnz_35, qlnz_36, qlnz_37, qlnz_38, qlnz_39, qlnz_40, qlnz_41, qlnz_42]); simp only [ha18]; rfl) ?_
           refine e_inv (fun a w' hs => ⟨y8.xs.length - (n + 1), by omega, n24, (n + 1), rfl, by omega, by omega, upto_ hf hnn, hss, (by (try dsimp only [qlnz_0, qlnz_1, qlnz_2, qlnz_3, qlnz_4, qlnz_5, qlnz_6, qlnz_7, qlnz_8, qlnz_9, qlnz_10, qlnz_11, qlnz_12, qlnz_13, qlnz_14, qlnz_15, qlnz_16, qlnz_17, qlnz_18, qlnz_19, qlnz_20, qlnz_21, qlnz_22, qlnz_23, qlnz_24, qlnz_25, qlnz_26, qlnz_27, qlnz_28, qlnz_29, qlnz_30, qlnz_31, qlnz_32, qlnz_33, qlnz_34, qlnz_35, qlnz_36, qlnz_37, qlnz_38, qlnz_39, qlnz_40, qlnz_41, qlnz_42] at hs ⊢); rw [eS]; exact hs)⟩)
         · refine q_c 9 0 [1] [[(an 3 4), (oa [.via 0 (i6 0), .via 0 (i6 0), .via 0 (i6 0)]), ⟨.seq false, none⟩], [(an 3 4), (an 3 2)]] [Qb b8, Qb b8, Qb b8, Old w 0 0 (i6 0), Old w 0 1 (i6 0), Old w 0 2 (i6 0), (((coreW c k n).e : Int) == (0 : Int) && ((((coreW c k n).where_.First : Int) == (0 : Int) && (((coreW c k n).where_.Second : Int) == (0 : Int) && true)) && true)) = false, Qb b8, Qb b8, Qb b8, Qb (z + 1), Qb (z + 1), Qb (z + 1)] [(qlnz_39 z)] ⟨w, n24, [(old0 w), (qlnz_26 z c), (bk (z + 1) (Tfound.arr (coreW c k n)) 73), (qlnz_25 n14 y23), (bk b8 (Tfound.arr (coreW c k n)) 73)]⟩ rfl ⟨rfl, rfl, rfl, old_cell' (hL.2 0 _ rfl), old_cell' (hL.2 1 _ rfl), old_cell' (hL.2 2 _ rfl), (Bool.eq_false_iff.2 h185), rfl, rfl, rfl, rfl, rfl, rfl, trivial⟩ ?_
           refine e_ret [.at 2, .at 2, .at 2] [Qb (z + 1), Qb (z + 1), Qb (z + 1)] (.agg #[i6 ((coreW c k n).e), i6 ((coreW c k n).where_.First), i6 ((coreW c k n).where_.Second)]) ⟨rfl, rfl, rfl, trivial⟩ ?_
           intro w186 hw186
           exact ⟨congrArg (fun t => Ending.returned (Value.agg (Tfound.arr t))) (coreQ_b (by have e1 : corC c k = y8 := hy8.symm; rw [e1]; exact h11) hf (by have e1 : corC c k = y8 := hy8.symm; rw [e1]; omega) (fun e => h185 (fine_eq.2 e))).symm, back0 hw186⟩
     · refine q_cS 11 0 [0] [[oF]] [BF (((n : Int) : Int) < ((y8.xs.length : Nat) : Int))] [(1, i6 (k : Int)), (2, pt z), (qlnz_39 z), (qlnz_41 c k n), (qlnz_40 y8), (qlnz_38 y8), (26, i6 (n : Int)), (27, .bool false)] rfl ⟨bf (by omega), trivial⟩ ?_
       by_cases h187 : (sumW (corC c k).xs n : Int) = c.Major
       · refine g_draw 7 [0, 1, 2] [(old0 w), (qlnz_26 z c), (qlnz_24 z)] rfl rfl ?_
         refine w_chainN [.tk 0 o0, .tk 1 o0, .tk 2 (a1 1), .tk 3 oT, .tk 4 o0, .cl 5 (.agg #[i6 (k : Int), i6 (-1)]), .cl 6 (.agg (Tfound.arr (unl true 421 ⟨(k : Int), -1⟩)))] [4, 84] [(67, #[i6 (k : Int)], .agg #[i6 (k : Int), i6 (-1)]), (41, #[.bool true, i6 421, .agg #[i6 (k : Int), i6 (-1)]], .agg (Tfound.arr (unl true 421 ⟨(k : Int), -1⟩)))] [true, true, true, true, true, true, true, false] [Qb z, ET (sumW (corC c k).xs n) c.Major] [(qlnz_39 z), (84, .agg (Tfound.arr (unl true 421 ⟨(k : Int), -1⟩)))] [0, 1, 2] ⟨rfl, et (by omega), trivial⟩ ⟨fun w188 hw188 => at_calls w188 (k : Int), fun w189 hw189 => unless_calls w189 (hL.ext (hw189.ext rfl)) true 421 (k : Int) (-1), trivial⟩ (fun n190 hn191 => ?_)
         replace hn191 : n14 ≤ n190 := hn191
         refine w_one 7 (by as_aux_lemma => kernel_rfl) rfl ?_
         refine wo_eff (an 3 2) [4] [Qb (z + 1), Qb (z + 1), Qb (z + 1)] [(qlnz_39 z)] ⟨w, n190, [(old0 w), (qlnz_26 z c), (.blk (z + 1) (.cells (Tfound.arr (unl true 421 ⟨(k : Int), -1⟩)) 73 (0, 0)) true)]⟩ [] (by as_aux_lemma => kernel_rfl) rfl ⟨rfl, rfl, rfl, trivial⟩ (.inl rfl) ?_
         refine w_free 8 [0, 1, 2] [(old0 w), (qlnz_26 z c), (.blk (z + 1) (.cells (Tfound.arr (unl true 421 ⟨(k : Int), -1⟩)) 73 (0, 0)) true)] rfl rfl ?_
         refine w_done (by as_aux_lemma => kernel_rfl) ?_
         refine e_keep [4] [(qlnz_39 z)] ?_
         refine e_seq <| g_ret <| e_ret [.at 2, .at 2, .at 2] [Qb (z + 1), Qb (z + 1), Qb (z + 1)] (.agg #[i6 ((unl true 421 ⟨(k : Int), -1⟩).e), i6 ((unl true 421 ⟨(k : Int), -1⟩).where_.First), i6 ((unl true 421 ⟨(k : Int), -1⟩).where_.Second)]) ⟨rfl, rfl, rfl, trivial⟩ ?_
         intro w192 hw192
         exact ⟨congrArg (fun t => Ending.returned (Value.agg (Tfound.arr t))) ((coreQ_c (by have e1 : corC c k = y8 := hy8.symm; rw [e1]; exact h11) hf (by have e1 : corC c k = y8 := hy8.symm; rw [e1]; omega)).trans (by first | rw [decide_eq_true (by assumption)] | rw [decide_eq_false (by assumption)])).symm, back0 hw192⟩
       · refine g_draw 7 [0, 1, 2] [(old0 w), (qlnz_26 z c), (qlnz_24 z)] rfl rfl ?_
         refine w_chainN [.tk 0 o0, .tk 1 o0, .tk 2 (a1 1), .tk 3 oF, .tk 4 o0, .cl 5 (.agg #[i6 (k : Int), i6 (-1)]), .cl 6 (.agg (Tfound.arr (unl false 421 ⟨(k : Int), -1⟩)))] [4, 84] [(67, #[i6 (k : Int)], .agg #[i6 (k : Int), i6 (-1)]), (41, #[.bool false, i6 421, .agg #[i6 (k : Int), i6 (-1)]], .agg (Tfound.arr (unl false 421 ⟨(k : Int), -1⟩)))] [true, true, true, true, true, true, true, false] [Qb z, EF (sumW (corC c k).xs n) c.Major] [(qlnz_39 z), (84, .agg (Tfound.arr (unl false 421 ⟨(k : Int), -1⟩)))] [0, 1, 2] ⟨rfl, ef (by omega), trivial⟩ ⟨fun w193 hw193 => at_calls w193 (k : Int), fun w194 hw194 => unless_calls w194 (hL.ext (hw194.ext rfl)) false 421 (k : Int) (-1), trivial⟩ (fun n195 hn196 => ?_)
         replace hn196 : n14 ≤ n195 := hn196
         refine w_one 7 (by as_aux_lemma => kernel_rfl) rfl ?_
         refine wo_eff (an 3 2) [4] [Qb (z + 1), Qb (z + 1), Qb (z + 1)] [(qlnz_39 z)] ⟨w, n195, [(old0 w), (qlnz_26 z c), (.blk (z + 1) (.cells (Tfound.arr (unl false 421 ⟨(k : Int), -1⟩)) 73 (0, 0)) true)]⟩ [] (by as_aux_lemma => kernel_rfl) rfl ⟨rfl, rfl, rfl, trivial⟩ (.inl rfl) ?_
         refine w_free 8 [0, 1, 2] [(old0 w), (qlnz_26 z c), (.blk (z + 1) (.cells (Tfound.arr (unl false 421 ⟨(k : Int), -1⟩)) 73 (0, 0)) true)] rfl rfl ?_
         refine w_done (by as_aux_lemma => kernel_rfl) ?_
         refine e_keep [4] [(qlnz_39 z)] ?_
         refine e_seq <| g_ret <| e_ret [.at 2, .at 2, .at 2] [Qb (z + 1), Qb (z + 1), Qb (z + 1)] (.agg #[i6 ((unl false 421 ⟨(k : Int), -1⟩).e), i6 ((unl false 421 ⟨(k : Int), -1⟩).where_.First), i6 ((unl false 421 ⟨(k : Int), -1⟩).where_.Second)]) ⟨rfl, rfl, rfl, trivial⟩ ?_
         intro w197 hw197
         exact ⟨congrArg (fun t => Ending.returned (Value.agg (Tfound.arr t))) ((coreQ_c (by have e1 : corC c k = y8 := hy8.symm; rw [e1]; exact h11) hf (by have e1 : corC c k = y8 := hy8.symm; rw [e1]; omega)).trans (by first | rw [decide_eq_true (by assumption)] | rw [decide_eq_false (by assumption)])).symm, back0 hw197⟩
 · have hd198 := win_no h11
   refine q_rS 5 1 [1] [[(ov (.bool true))], [o0]] [Value.bool (!(win ((y8.xs.length : Nat) : Int) 1 16)) = Value.bool true] [(qlnz_39 z), (17, i6 (k : Int))] rfl ⟨by simp [h11], trivial⟩ ?_
   refine l_call [] [] 67 #[i6 (k : Int)] (some 18) trivial ?_
   intro w199 hw199
   refine (at_calls w199 (k : Int)).mono ?_
   rintro e w200 ⟨rfl, hkw200⟩
   have hnw200 : w10.heap.size ≤ w200.heap.size := size_of hw199 hkw200
   refine ⟨_, _, rfl, hw199.keeps hkw200, ?_⟩
   refine q_r 3 0 [] [[o0, (an 3 2)]] [Qb (z + 1), Qb (z + 1), Qb (z + 1)] [(qlnz_39 z)] ⟨w, w200.heap.size, [(old0 w), (qlnz_26 z c), (bk (z + 1) #[i6 418, i6 (k : Int), i6 (-1)] 73)]⟩ rfl ⟨rfl, rfl, rfl, trivial⟩ ?_
   refine e_ret [.at 2, .at 2, .at 2] [Qb (z + 1), Qb (z + 1), Qb (z + 1)] (.agg #[i6 418, i6 (k : Int), i6 (-1)]) ⟨rfl, rfl, rfl, trivial⟩ ?_
   intro w201 hw201
   exact ⟨congrArg (fun t => Ending.returned (Value.agg (Tfound.arr t))) (coreQ_a (by have e1 : corC c k = y8 := hy8.symm; rw [e1]; exact h11)).symm, back0 hw201⟩
end Go.Proofs.YtnjhekfgmbpmlaaDoor.Ad
namespace Go.Proofs.YtnjhekfgmbpmlaaDoor.Ly
open Go Go.Proofs.YtnjhekfgmbpmlaaDoor.Eng Go.Proofs.YtnjhekfgmbpmlaaDoor.Mem
set_option linter.unusedSimpArgs false
set_option linter.unusedVariables false
set_option maxRecDepth 100000
def regOk (g : TRegion) : Bool := decide (0 ≤ g.Page ∧ g.Page ≤ 256 ∧ 1 ≤ g.Pages ∧ g.Pages ≤ 256 - g.Page)
def portOk (n : Nat) (q : TPort) : Bool := decide (0 ≤ q.Channel ∧ q.Channel < n)
def partOk (n : Nat) (x : TPartition) : Bool := decide (x.Regions.xs.length ≤ 8) && decide (x.Ports.xs.length ≤ 8) && x.Regions.xs.all regOk && x.Ports.xs.all (portOk n)
theorem all_no {α : Type} [Inhabited α] {p : α → Bool} {xs : List α} {k : Nat} (hk : k < xs.length) (h : p (gd xs k) = false) : xs.all p = false := by
  rw [List.all_eq_false]
  refine ⟨xs[k], List.getElem_mem hk, ?_⟩
  rw [gd_eq hk] at h
  simpa using h
theorem all_yes {α : Type} [Inhabited α] {p : α → Bool} {xs : List α} (h : ∀ i, i < xs.length → p (gd xs i) = true) : xs.all p = true := by
  rw [List.all_eq_true]
  intro y hy
  obtain ⟨i, hi, rfl⟩ := List.getElem_of_mem hy
  have := h i hi
  rwa [gd_eq hi] at this
theorem upto {p : Nat → Prop} {k : Nat} (h : ∀ i, i < k → p i) (hk : p k) : ∀ i, i < k + 1 → p i := fun i hi => by
  by_cases e : i = k
  · subst e; exact hk
  · exact h i (by omega)
abbrev q90v_0 (z : Nat) (x : TPartition) : Ch := bk (z + 1) (TPartition.arr x) 41
abbrev q90v_1 (z : Nat) (c : TConfig) : Ch := bk z (TConfig.arr c) 26
abbrev q90v_2 (b8 : Nat) (o9 : Nat) (x : TPartition) : Nat × Value := (20, .slice (some ⟨b8, o9, none⟩) x.Regions.xs.length x.Regions.cap)
abbrev q90v_3 (x : TPartition) : Nat × Value := (20, .slice x.Regions.a x.Regions.xs.length x.Regions.cap)
abbrev q90v_4 (x : TPartition) : Nat × Value := (49, .slice x.Ports.a x.Ports.xs.length x.Ports.cap)
abbrev q90v_5 (x : TPartition) : Nat × Value := (21, i6 ((x.Regions.xs.length : Nat) : Int))
abbrev q90v_6 (x : TPartition) : Nat × Value := (50, i6 ((x.Ports.xs.length : Nat) : Int))
abbrev q90v_7 (z : Nat) : Nat × Value := (3, pt (z + 1))
theorem partition_calls (w : World) (c : TConfig) (x : TPartition) (hc : TConfig.ok Any w c) (hx : TPartition.ok Any w x) : Calls Tryd.prog 74 #[.agg (TConfig.arr c), .agg (TPartition.arr x)] w fun e w' => e = .returned (.bool (partOk c.Channels.xs.length x)) ∧ Keeps (fun _ => False) w w' := by
 obtain ⟨z, hz⟩ : ∃ z, z = w.heap.size := ⟨_, rfl⟩
 refine calls_G (args := [.agg (TConfig.arr c), .agg (TPartition.arr x)]) 67 ⟨w, z, [(old0 w)]⟩ Tryd.func74 rfl (by kernel_rfl) (by kernel_rfl) (sat_0 hz) ?_
 refine g_keep [0, 1] [(0, .agg (TConfig.arr c)), (1, .agg (TPartition.arr x))] ?_
 refine q_c 6 0 [] [[o0, o0, o0]] [] [(2, pt z), (q90v_7 z)] ⟨w, z + 2, [(old0 w), (q90v_1 z c), (q90v_0 z x)]⟩ rfl trivial ?_
 by_cases h1 : (8 : Int) < ((x.Regions.xs.length : Nat) : Int)
 · refine q_cS 9 0 [1] [[o0, (a1 2), o0, oT, o0, o0], [o0]] [Qb (z + 1), BT ((((x.Regions.xs.length : Nat) : Int) : Int) > 8)] [(4, .bool false)] rfl ⟨rfl, bt (by omega), trivial⟩ ?_
   refine e_ret [] [] (.bool false) trivial ?_
   intro w2 hw2
   refine ⟨congrArg (fun b => Ending.returned (Value.bool b)) (Eq.symm (?_ : partOk c.Channels.xs.length x = false)), back0 hw2⟩
   unfold partOk
   first
     | (have e1 : decide (x.Regions.xs.length ≤ 8) = false := decide_eq_false (by omega)); simp [e1]
     | (have e1 : decide (x.Ports.xs.length ≤ 8) = false := decide_eq_false (by omega)); simp [e1]
 · by_cases h3 : (8 : Int) < ((x.Ports.xs.length : Nat) : Int)
   · refine q_cS 9 0 [1] [[o0, (a1 2), o0, oF, o0, o0, (a1 2), o0, oT, o0], [o0]] [Qb (z + 1), BF ((((x.Regions.xs.length : Nat) : Int) : Int) > 8), Qb (z + 1), BT ((((x.Ports.xs.length : Nat) : Int) : Int) > 8)] [(4, .bool false)] rfl ⟨rfl, bf (by omega), rfl, bt (by omega), trivial⟩ ?_
     refine e_ret [] [] (.bool false) trivial ?_
     intro w4 hw4
     refine ⟨congrArg (fun b => Ending.returned (Value.bool b)) (Eq.symm (?_ : partOk c.Channels.xs.length x = false)), back0 hw4⟩
     unfold partOk
     first
       | (have e1 : decide (x.Regions.xs.length ≤ 8) = false := decide_eq_false (by omega)); simp [e1]
       | (have e1 : decide (x.Ports.xs.length ≤ 8) = false := decide_eq_false (by omega)); simp [e1]
   · refine q_cS 12 0 [0] [[o0, (a1 2), o0, oF, o0, o0, (a1 2), o0, oF, o0], [o0, (a1 2), o0, o0]] [Qb (z + 1), BF ((((x.Regions.xs.length : Nat) : Int) : Int) > 8), Qb (z + 1), BF ((((x.Ports.xs.length : Nat) : Int) : Int) > 8), Qb (z + 1)] [(2, pt z), (q90v_7 z), (q90v_3 x), (q90v_5 x), (22, i6 0)] rfl ⟨rfl, bf (by omega), rfl, bf (by omega), rfl, trivial⟩ ?_
     refine g_loop (fun m a w' => ∃ (n6 : Nat) (k : Nat), m = x.Regions.xs.length - k ∧ z + 2 ≤ n6 ∧ (k ≤ x.Regions.xs.length) ∧ (∀ i, i < k → regOk (gd x.Regions.xs i) = true) ∧ St 67 [(2, pt z), (q90v_7 z), (q90v_3 x), (q90v_5 x), (22, i6 (k : Int))] [] ⟨w, n6, [(old0 w), (q90v_1 z c), (q90v_0 z x)]⟩ a w') (x.Regions.xs.length - 0) ?_ ?_
     · intro a w' hs; exact ⟨(z + 2), 0, rfl, Nat.le_refl _, Nat.zero_le _, fun i hi => absurd hi (Nat.not_lt_zero i), hs⟩
     · rintro m a w' ⟨n6, k, rfl, hn5, hkk, hr, hs⟩
       refine (?_ : G Tryd.prog 67 [(2, pt z), (q90v_7 z), (q90v_3 x), (q90v_5 x), (22, i6 (k : Int))] [] ⟨w, n6, [(old0 w), (q90v_1 z c), (q90v_0 z x)]⟩ _ _ _) a w' hs
       clear hs a w'
       refine g_seq ?_
       by_cases h7 : ((k : Int) : Int) < ((x.Regions.xs.length : Nat) : Int)
       · refine q_cS 10 0 [1] [[oT]] [BT (((k : Int) : Int) < ((x.Regions.xs.length : Nat) : Int))] [(2, pt z), (q90v_7 z), (q90v_3 x), (q90v_5 x), (22, i6 (k : Int)), (23, .bool true)] rfl ⟨bt (by omega), trivial⟩ ?_
         obtain ⟨b8, o9, ha10, hF12, hc11⟩ := (hx.Regions).1.all (show 0 < x.Regions.xs.length by omega)
         replace ha10 : x.Regions.a = some ⟨b8, o9, none⟩ := ha10
         refine g_eq [(2, pt z), (q90v_7 z), (q90v_2 b8 o9 x), (q90v_5 x), (22, i6 (k : Int)), (23, .bool true)] (by (try dsimp only [q90v_0, q90v_1, q90v_2, q90v_3, q90v_4, q90v_5, q90v_6, q90v_7]); simp only [ha10]) ?_
         have hc13 := hc11 k (show k < x.Regions.xs.length by omega)
         have he14 := (hx.Regions).2 k (show k < x.Regions.xs.length by omega)
         obtain ⟨y15, hy15⟩ : ∃ y_, y_ = gd x.Regions.xs k := ⟨_, rfl⟩
         rw [← hy15] at he14 hc13
         refine q_c 4 0 [] [[(oi k), (ol 0 (TRegion.arr y15)), o0, (an 4 3)]] [((k : Int) : Int) = ((k : Nat) : Int), k < x.Regions.xs.length, (none : Option Nat) = none, OldR w b8 (o9 + k * 4) (TRegion.arr y15), Qb n6, Qb n6, Qb n6, Qb n6] [(2, pt z), (q90v_7 z), (q90v_2 b8 o9 x), (q90v_5 x), (22, i6 (k : Int)), (6, pt n6)] ⟨w, n6 + 1, [(old0 w), (q90v_1 z c), (q90v_0 z x), (bk n6 (TRegion.arr y15) 49)]⟩ rfl ⟨rfl, (by omega), rfl, old_row hc13, rfl, rfl, rfl, rfl, trivial⟩ ?_
         by_cases h16 : (y15.Page : Int) < 0
         · refine q_cS 9 0 [1] [[o0, (a1 3), oT, o0, o0, o0, o0, o0, o0], [o0]] [Qb n6, BT ((y15.Page : Int) < 0)] [(4, .bool false)] rfl ⟨rfl, bt (by omega), trivial⟩ ?_
           refine e_ret [] [] (.bool false) trivial ?_
           intro w17 hw17
           refine ⟨congrArg (fun b => Ending.returned (Value.bool b)) (Eq.symm (?_ : partOk c.Channels.xs.length x = false)), back0 hw17⟩
           unfold partOk
           have e1 : x.Regions.xs.all regOk = false := all_no (k := k) (by omega) (by rw [← hy15]; exact decide_eq_false (by omega))
           simp [e1]
         · by_cases h18 : (256 : Int) < y15.Page
           · refine q_cS 9 0 [1] [[o0, (a1 3), oF, o0, o0, (a1 3), oT, o0, o0, o0, o0, o0], [o0]] [Qb n6, BF ((y15.Page : Int) < 0), Qb n6, BT ((y15.Page : Int) > 256)] [(4, .bool false)] rfl ⟨rfl, bf (by omega), rfl, bt (by omega), trivial⟩ ?_
             refine e_ret [] [] (.bool false) trivial ?_
             intro w19 hw19
             refine ⟨congrArg (fun b => Ending.returned (Value.bool b)) (Eq.symm (?_ : partOk c.Channels.xs.length x = false)), back0 hw19⟩
             unfold partOk
             have e1 : x.Regions.xs.all regOk = false := all_no (k := k) (by omega) (by rw [← hy15]; exact decide_eq_false (by omega))
             simp [e1]
           · by_cases h20 : (y15.Pages : Int) < 1
             · refine q_cS 9 0 [1] [[o0, (a1 3), oF, o0, o0, (a1 3), oF, o0, o0, o0, (a1 3), oT, o0, o0, o0], [o0]] [Qb n6, BF ((y15.Page : Int) < 0), Qb n6, BF ((y15.Page : Int) > 256), Qb n6, BT ((y15.Pages : Int) < 1)] [(4, .bool false)] rfl ⟨rfl, bf (by omega), rfl, bf (by omega), rfl, bt (by omega), trivial⟩ ?_
               refine e_ret [] [] (.bool false) trivial ?_
               intro w21 hw21
               refine ⟨congrArg (fun b => Ending.returned (Value.bool b)) (Eq.symm (?_ : partOk c.Channels.xs.length x = false)), back0 hw21⟩
               unfold partOk
               have e1 : x.Regions.xs.all regOk = false := all_no (k := k) (by omega) (by rw [← hy15]; exact decide_eq_false (by omega))
               simp [e1]
             · by_cases h22 : (256 - y15.Page : Int) < y15.Pages
               · refine q_cS 9 0 [1] [[o0, (a1 3), oF, o0, o0, (a1 3), oF, o0, o0, o0, (a1 3), oF, o0, o0, o0, (a1 3), o0, (a1 3), (ov (i6 (256 - y15.Page))), oT, o0], [o0]] [Qb n6, BF ((y15.Page : Int) < 0), Qb n6, BF ((y15.Page : Int) > 256), Qb n6, BF ((y15.Pages : Int) < 1), Qb n6, Qb n6, Wr ((256 : Int) - y15.Page) (256 - y15.Page), BT ((y15.Pages : Int) > (256 - y15.Page))] [(4, .bool false)] rfl ⟨rfl, bf (by omega), rfl, bf (by omega), rfl, bf (by omega), rfl, rfl, wrI, bt (by omega), trivial⟩ ?_
                 refine e_ret [] [] (.bool false) trivial ?_
                 intro w23 hw23
                 refine ⟨congrArg (fun b => Ending.returned (Value.bool b)) (Eq.symm (?_ : partOk c.Channels.xs.length x = false)), back0 hw23⟩
                 unfold partOk
                 have e1 : x.Regions.xs.all regOk = false := all_no (k := k) (by omega) (by rw [← hy15]; exact decide_eq_false (by omega))
                 simp [e1]
               · refine q_cS 9 0 [0] [[o0, (a1 3), oF, o0, o0, (a1 3), oF, o0, o0, o0, (a1 3), oF, o0, o0, o0, (a1 3), o0, (a1 3), (ov (i6 (256 - y15.Page))), oF, o0], [(ov (i6 ((k + 1 : Nat) : Int))), o0]] [Qb n6, BF ((y15.Page : Int) < 0), Qb n6, BF ((y15.Page : Int) > 256), Qb n6, BF ((y15.Pages : Int) < 1), Qb n6, Qb n6, Wr ((256 : Int) - y15.Page) (256 - y15.Page), BF ((y15.Pages : Int) > (256 - y15.Page)), Wr (((k : Int) : Int) + 1) (((k + 1 : Nat) : Int))] [(2, pt z), (q90v_7 z), (q90v_2 b8 o9 x), (q90v_5 x), (22, i6 ((k + 1 : Nat) : Int))] rfl ⟨rfl, bf (by omega), rfl, bf (by omega), rfl, bf (by omega), rfl, rfl, wrI, bf (by omega), wrI, trivial⟩ ?_
                 refine e_pick [0, 1, 2] [(old0 w), (q90v_1 z c), (q90v_0 z x)] rfl rfl ?_
                 refine e_eqk [2, 3, 20, 21, 22] [(2, pt z), (q90v_7 z), (q90v_3 x), (q90v_5 x), (22, i6 ((k + 1 : Nat) : Int))] (by (try dsimp only [q90v_0, q90v_1, q90v_2, q90v_3, q90v_4, q90v_5, q90v_6, q90v_7]); simp only [ha10]; rfl) ?_
                 refine e_inv (fun a w' hs => ⟨x.Regions.xs.length - (k + 1), by omega, (n6 + 1), (k + 1), rfl, by omega, by omega, upto hr (by rw [← hy15]; exact decide_eq_true (by omega)), hs⟩)
       · refine q_cS 16 0 [0] [[oF], [o0, (a1 2), o0, o0]] [BF (((k : Int) : Int) < ((x.Regions.xs.length : Nat) : Int)), Qb (z + 1)] [(2, pt z), (q90v_4 x), (q90v_6 x), (51, i6 0)] rfl ⟨bf (by omega), rfl, trivial⟩ ?_
         refine g_loop (fun m a w' => ∃ (n25 : Nat) (j : Nat), m = x.Ports.xs.length - j ∧ n6 ≤ n25 ∧ (j ≤ x.Ports.xs.length) ∧ (∀ i, i < j → portOk c.Channels.xs.length (gd x.Ports.xs i) = true) ∧ St 67 [(2, pt z), (q90v_4 x), (q90v_6 x), (51, i6 (j : Int))] [] ⟨w, n25, [(old0 w), (q90v_1 z c), (q90v_0 z x)]⟩ a w') (x.Ports.xs.length - 0) ?_ ?_
         · intro a w' hs; exact ⟨n6, 0, rfl, Nat.le_refl _, Nat.zero_le _, fun i hi => absurd hi (Nat.not_lt_zero i), hs⟩
         · rintro m a w' ⟨n25, j, rfl, hn24, hkj, hp, hs⟩
           refine (?_ : G Tryd.prog 67 [(2, pt z), (q90v_4 x), (q90v_6 x), (51, i6 (j : Int))] [] ⟨w, n25, [(old0 w), (q90v_1 z c), (q90v_0 z x)]⟩ _ _ _) a w' hs
           clear hs a w'
           refine g_seq ?_
           by_cases h26 : ((j : Int) : Int) < ((x.Ports.xs.length : Nat) : Int)
           · refine q_cS 10 0 [1] [[oT]] [BT (((j : Int) : Int) < ((x.Ports.xs.length : Nat) : Int))] [(2, pt z), (q90v_4 x), (q90v_6 x), (51, i6 (j : Int)), (52, .bool true)] rfl ⟨bt (by omega), trivial⟩ ?_
             obtain ⟨b27, o28, ha29, hF31, hc30⟩ := (hx.Ports).1.all (show 0 < x.Ports.xs.length by omega)
             replace ha29 : x.Ports.a = some ⟨b27, o28, none⟩ := ha29
             refine g_eq [(2, pt z), (49, .slice (some ⟨b27, o28, none⟩) x.Ports.xs.length x.Ports.cap), (q90v_6 x), (51, i6 (j : Int)), (52, .bool true)] (by (try dsimp only [q90v_0, q90v_1, q90v_2, q90v_3, q90v_4, q90v_5, q90v_6, q90v_7]); simp only [ha29]) ?_
             have hc32 := hc30 j (show j < x.Ports.xs.length by omega)
             have he33 := (hx.Ports).2 j (show j < x.Ports.xs.length by omega)
             obtain ⟨y34, hy34⟩ : ∃ y_, y_ = gd x.Ports.xs j := ⟨_, rfl⟩
             rw [← hy34] at he33 hc32
             refine q_c 4 0 [] [[(oi j), (ol 0 (TPort.arr y34)), o0, (an 2 3)]] [((j : Int) : Int) = ((j : Nat) : Int), j < x.Ports.xs.length, (none : Option Nat) = none, OldR w b27 (o28 + j * 2) (TPort.arr y34), Qb n25, Qb n25] [(2, pt z), (49, .slice (some ⟨b27, o28, none⟩) x.Ports.xs.length x.Ports.cap), (q90v_6 x), (51, i6 (j : Int)), (8, pt n25)] ⟨w, n25 + 1, [(old0 w), (q90v_1 z c), (q90v_0 z x), (bk n25 (TPort.arr y34) 57)]⟩ rfl ⟨rfl, (by omega), rfl, old_row hc32, rfl, rfl, trivial⟩ ?_
             by_cases h35 : (y34.Channel : Int) < 0
             · refine q_cS 9 0 [1] [[o0, (a1 3), oT, o0, o0], [o0]] [Qb n25, BT ((y34.Channel : Int) < 0)] [(4, .bool false)] rfl ⟨rfl, bt (by omega), trivial⟩ ?_
               refine e_ret [] [] (.bool false) trivial ?_
               intro w36 hw36
               refine ⟨congrArg (fun b => Ending.returned (Value.bool b)) (Eq.symm (?_ : partOk c.Channels.xs.length x = false)), back0 hw36⟩
               unfold partOk
               have e1 : x.Ports.xs.all (portOk c.Channels.xs.length) = false := all_no (k := j) (by omega) (by rw [← hy34]; exact decide_eq_false (by omega))
               simp [e1]
             · by_cases h37 : (y34.Channel : Int) < ((c.Channels.xs.length : Nat) : Int)
               · refine q_cS 9 0 [0] [[o0, (a1 3), oF, o0, o0, (a1 3), o0, (a1 1), o0, oF, o0], [(ov (i6 ((j + 1 : Nat) : Int))), o0]] [Qb n25, BF ((y34.Channel : Int) < 0), Qb n25, Qb z, BF ((y34.Channel : Int) ≥ ((c.Channels.xs.length : Nat) : Int)), Wr (((j : Int) : Int) + 1) (((j + 1 : Nat) : Int))] [(2, pt z), (49, .slice (some ⟨b27, o28, none⟩) x.Ports.xs.length x.Ports.cap), (q90v_6 x), (51, i6 ((j + 1 : Nat) : Int))] rfl ⟨rfl, bf (by omega), rfl, rfl, bf (by omega), wrI, trivial⟩ ?_
                 refine e_pick [0, 1, 2] [(old0 w), (q90v_1 z c), (q90v_0 z x)] rfl rfl ?_
                 refine e_eqk [2, 49, 50, 51] [(2, pt z), (q90v_4 x), (q90v_6 x), (51, i6 ((j + 1 : Nat) : Int))] (by (try dsimp only [q90v_0, q90v_1, q90v_2, q90v_3, q90v_4, q90v_5, q90v_6, q90v_7]); simp only [ha29]; rfl) ?_
                 refine e_inv (fun a w' hs => ⟨x.Ports.xs.length - (j + 1), by omega, (n25 + 1), (j + 1), rfl, by omega, by omega, upto hp (by rw [← hy34]; exact decide_eq_true (by omega)), hs⟩)
               · refine q_cS 9 0 [1] [[o0, (a1 3), oF, o0, o0, (a1 3), o0, (a1 1), o0, oT, o0], [o0]] [Qb n25, BF ((y34.Channel : Int) < 0), Qb n25, Qb z, BT ((y34.Channel : Int) ≥ ((c.Channels.xs.length : Nat) : Int))] [(4, .bool false)] rfl ⟨rfl, bf (by omega), rfl, rfl, bt (by omega), trivial⟩ ?_
                 refine e_ret [] [] (.bool false) trivial ?_
                 intro w38 hw38
                 refine ⟨congrArg (fun b => Ending.returned (Value.bool b)) (Eq.symm (?_ : partOk c.Channels.xs.length x = false)), back0 hw38⟩
                 unfold partOk
                 have e1 : x.Ports.xs.all (portOk c.Channels.xs.length) = false := all_no (k := j) (by omega) (by rw [← hy34]; exact decide_eq_false (by omega))
                 simp [e1]
           · refine q_cS 15 0 [0] [[oF], [o0]] [BF (((j : Int) : Int) < ((x.Ports.xs.length : Nat) : Int))] [(4, .bool true)] rfl ⟨bf (by omega), trivial⟩ ?_
             refine e_ret [] [] (.bool true) trivial ?_
             intro w39 hw39
             refine ⟨congrArg (fun b => Ending.returned (Value.bool b)) (Eq.symm (?_ : partOk c.Channels.xs.length x = true)), back0 hw39⟩
             have e1 : x.Regions.xs.all regOk = true := all_yes (fun i hi => hr i (by omega))
             have e2 : x.Ports.xs.all (portOk c.Channels.xs.length) = true := all_yes (fun i hi => hp i (by omega))
             simp only [partOk, e1, e2, Bool.and_true, Bool.and_eq_true, decide_eq_true_eq]
             omega
end Go.Proofs.YtnjhekfgmbpmlaaDoor.Ly
namespace Go.Proofs.YtnjhekfgmbpmlaaDoor.Ly
open Go Go.Proofs.YtnjhekfgmbpmlaaDoor.Eng Go.Proofs.YtnjhekfgmbpmlaaDoor.Mem
set_option linter.unusedSimpArgs false
set_option linter.unusedVariables false
set_option maxRecDepth 100000
def bodyOf (h : TChannel) : Int := if h.Words < 1 ∨ h.Words > 16 then 0 else if h.Kind = 1 then h.Words else if h.Kind = 2 ∧ 1 ≤ h.Depth ∧ h.Depth ≤ 8 then h.Depth * (1 + h.Words) else 0
def stageOf (h : TChannel) : Int := if bodyOf h = 0 then 0 else if h.Kind = 1 then 2 + h.Words else 1 + bodyOf h
def portOf (h : TChannel) : Int := if bodyOf h = 0 then 0 else 3 + bodyOf h
theorem body_bd (h : TChannel) : 0 ≤ bodyOf h ∧ bodyOf h ≤ 136 := by
  unfold bodyOf
  split
  · omega
  · split
    · omega
    · split
      · rename_i h1 h2 h3
        have hd : h.Depth = 1 ∨ h.Depth = 2 ∨ h.Depth = 3 ∨ h.Depth = 4 ∨ h.Depth = 5 ∨ h.Depth = 6 ∨ h.Depth = 7 ∨ h.Depth = 8 := by omega
        rcases hd with e | e | e | e | e | e | e | e <;> rw [e] <;> omega
      · omega
theorem body_a {h : TChannel} (h1 : h.Words < 1 ∨ h.Words > 16) : bodyOf h = 0 := by unfold bodyOf; rw [if_pos h1]
theorem body_b {h : TChannel} (h1 : ¬ h.Words < 1) (h2 : ¬ 16 < h.Words) (h3 : h.Kind = 1) : bodyOf h = h.Words := by unfold bodyOf; rw [if_neg (by omega), if_pos h3]
theorem body_c {h : TChannel} (h1 : ¬ h.Words < 1) (h2 : ¬ 16 < h.Words) (h3 : ¬ h.Kind = 1) (h4 : h.Kind = 2) (h5 : 1 ≤ h.Depth) (h6 : h.Depth ≤ 8) : bodyOf h = h.Depth * (1 + h.Words) := by unfold bodyOf; rw [if_neg (by omega), if_neg h3, if_pos ⟨h4, h5, h6⟩]
theorem body_d {h : TChannel} (h1 : ¬ h.Words < 1) (h2 : ¬ 16 < h.Words) (h3 : ¬ h.Kind = 1) (h4 : ¬ (h.Kind = 2 ∧ 1 ≤ h.Depth ∧ h.Depth ≤ 8)) : bodyOf h = 0 := by unfold bodyOf; rw [if_neg (by omega), if_neg h3, if_neg h4]
theorem body_w (h : TChannel) : bodyOf h = 0 ∨ (1 ≤ h.Words ∧ h.Words ≤ 16) := by
  unfold bodyOf; split
  · exact .inl rfl
  · right; omega
theorem stage_a {h : TChannel} (h1 : bodyOf h = 0) : 0 = stageOf h := by unfold stageOf; rw [if_pos h1]
theorem stage_b {h : TChannel} (h1 : ¬ h.Words < 1) (h2 : ¬ 16 < h.Words) (h3 : h.Kind = 1) : 2 + h.Words = stageOf h := by unfold stageOf; rw [body_b h1 h2 h3, if_neg (by omega), if_pos h3]
theorem stage_c {h : TChannel} (h1 : ¬ h.Words < 1) (h2 : ¬ 16 < h.Words) (h3 : ¬ h.Kind = 1) (h4 : h.Kind = 2) (h5 : 1 ≤ h.Depth) (h6 : h.Depth ≤ 8) : 1 + h.Depth * (1 + h.Words) = stageOf h := by
  unfold stageOf; rw [body_c h1 h2 h3 h4 h5 h6, if_neg ?_, if_neg h3]
  have := Int.mul_pos (show 0 < h.Depth by omega) (show 0 < 1 + h.Words by omega)
  omega
theorem stage_bd (h : TChannel) : 0 ≤ stageOf h ∧ stageOf h ≤ 137 := by
  have hb := body_bd h
  unfold stageOf
  split
  · omega
  · split
    · rename_i h1 h2
      unfold bodyOf at h1
      split at h1
      · exact absurd rfl h1
      · omega
    · omega
theorem port_bd (h : TChannel) : 0 ≤ portOf h ∧ portOf h ≤ 139 := by
  have hb := body_bd h
  unfold portOf
  split <;> omega
theorem stage_port (h : TChannel) : stageOf h = 0 ↔ portOf h = 0 := by
  have hb := body_bd h
  unfold stageOf portOf
  split
  · simp
  · split
    · rename_i h1 h2
      unfold bodyOf at h1 hb
      constructor
      · intro e
        split at h1
        · exact absurd rfl h1
        · omega
      · intro e; exfalso; unfold bodyOf at e; omega
    · omega
theorem port_b {h : TChannel} (h1 : ¬ stageOf h = 0) (h2 : h.Kind = 1) : stageOf h + 1 = portOf h := by
  unfold stageOf portOf at *
  split at h1
  · exact absurd rfl h1
  · rename_i hb
    rw [if_neg hb, if_neg hb, if_pos h2]
    unfold bodyOf at hb ⊢
    split at hb
    · exact absurd rfl hb
    · rename_i h3
      rw [if_neg h3, if_pos h2]; omega
theorem port_c {h : TChannel} (h1 : ¬ stageOf h = 0) (h2 : ¬ h.Kind = 1) : stageOf h + 2 = portOf h := by
  unfold stageOf portOf at *
  split at h1
  · exact absurd rfl h1
  · rename_i hb
    rw [if_neg hb, if_neg hb, if_neg h2]; omega
theorem stage_calls (w : World) (h : TChannel) (hh : TChannel.ok Any w h) : Calls Tryd.prog 59 #[.agg (TChannel.arr h)] w fun e w' => e = .returned (.int .i64 (stageOf h)) ∧ Keeps (fun _ => False) w w' := by
 obtain ⟨z, hz⟩ : ∃ z, z = w.heap.size := ⟨_, rfl⟩
 refine calls_G (args := [.agg (TChannel.arr h)]) 40 ⟨w, z, [(old0 w)]⟩ Tryd.func59 rfl (by kernel_rfl) (by kernel_rfl) (sat_0 hz) ?_
 refine g_keep [0] [(0, .agg (TChannel.arr h))] ?_
 refine q_c 7 0 [] [[o0, o0]] [] [(1, pt z)] ⟨w, z + 1, [(old0 w), (bk z (TChannel.arr h) 55)]⟩ rfl trivial ?_
 by_cases h1 : (h.Words : Int) < 1
 · refine q_cS 9 0 [1] [[o0, (a1 1), oT, o0, o0, o0], [o0]] [Qb z, BT ((h.Words : Int) < 1)] [(2, i6 0)] rfl ⟨rfl, bt (by omega), trivial⟩ ?_
   refine e_ret [] [] (i6 0) trivial ?_
   intro w2 hw2
   refine ⟨congrArg (fun n => Ending.returned (i6 n)) (?_ : (0 : Int) = stageOf h), back0 hw2⟩
   first
     | exact stage_a (body_a (by omega))
     | exact stage_b (by omega) (by omega) (by omega)
     | exact stage_c (by omega) (by omega) (by omega) (by omega) (by omega) (by omega)
     | exact stage_a (body_d (by omega) (by omega) (by omega) (by omega))
 · by_cases h3 : (16 : Int) < h.Words
   · refine q_cS 9 0 [1] [[o0, (a1 1), oF, o0, o0, (a1 1), oT, o0, o0], [o0]] [Qb z, BF ((h.Words : Int) < 1), Qb z, BT ((h.Words : Int) > 16)] [(2, i6 0)] rfl ⟨rfl, bf (by omega), rfl, bt (by omega), trivial⟩ ?_
     refine e_ret [] [] (i6 0) trivial ?_
     intro w4 hw4
     refine ⟨congrArg (fun n => Ending.returned (i6 n)) (?_ : (0 : Int) = stageOf h), back0 hw4⟩
     first
       | exact stage_a (body_a (by omega))
       | exact stage_b (by omega) (by omega) (by omega)
       | exact stage_c (by omega) (by omega) (by omega) (by omega) (by omega) (by omega)
       | exact stage_a (body_d (by omega) (by omega) (by omega) (by omega))
   · refine q_cS 5 0 [0] [[o0, (a1 1), oF, o0, o0, (a1 1), oF, o0, o0]] [Qb z, BF ((h.Words : Int) < 1), Qb z, BF ((h.Words : Int) > 16)] [(1, pt z), (3, .bool false)] rfl ⟨rfl, bf (by omega), rfl, bf (by omega), trivial⟩ ?_
     by_cases h5 : (h.Kind : Int) = 1
     · refine q_cS 9 0 [1] [[o0, (a1 1), oT, o0], [o0, (a1 1), (ov (i6 (2 + h.Words))), o0]] [Qb z, ET h.Kind 1, Qb z, Wr ((2 : Int) + h.Words) (2 + h.Words)] [(2, i6 (2 + h.Words))] rfl ⟨rfl, et (by omega), rfl, wrI, trivial⟩ ?_
       refine e_ret [] [] (i6 (2 + h.Words)) trivial ?_
       intro w6 hw6
       refine ⟨congrArg (fun n => Ending.returned (i6 n)) (?_ : (2 + h.Words : Int) = stageOf h), back0 hw6⟩
       first
         | exact stage_a (body_a (by omega))
         | exact stage_b (by omega) (by omega) (by omega)
         | exact stage_c (by omega) (by omega) (by omega) (by omega) (by omega) (by omega)
         | exact stage_a (body_d (by omega) (by omega) (by omega) (by omega))
     · refine q_cS 5 0 [0] [[o0, (a1 1), oF, o0]] [Qb z, EF h.Kind 1] [(1, pt z), (12, .bool false)] rfl ⟨rfl, ef (by omega), trivial⟩ ?_
       by_cases h7 : (h.Kind : Int) = 2
       · by_cases h8 : (h.Depth : Int) < 1
         · refine q_cS 12 0 [0] [[o0, (a1 1), oT, o0, o0, (a1 1), oF, o0, o0, o0, o0], [o0]] [Qb z, ET h.Kind 2, Qb z, BF ((h.Depth : Int) ≥ 1)] [(2, i6 0)] rfl ⟨rfl, et (by omega), rfl, bf (by omega), trivial⟩ ?_
           refine e_ret [] [] (i6 0) trivial ?_
           intro w9 hw9
           refine ⟨congrArg (fun n => Ending.returned (i6 n)) (?_ : (0 : Int) = stageOf h), back0 hw9⟩
           first
             | exact stage_a (body_a (by omega))
             | exact stage_b (by omega) (by omega) (by omega)
             | exact stage_c (by omega) (by omega) (by omega) (by omega) (by omega) (by omega)
             | exact stage_a (body_d (by omega) (by omega) (by omega) (by omega))
         · by_cases h10 : (8 : Int) < h.Depth
           · refine q_cS 12 0 [0] [[o0, (a1 1), oT, o0, o0, (a1 1), oT, o0, o0, o0, (a1 1), oF, o0, o0], [o0]] [Qb z, ET h.Kind 2, Qb z, BT ((h.Depth : Int) ≥ 1), Qb z, BF ((h.Depth : Int) ≤ 8)] [(2, i6 0)] rfl ⟨rfl, et (by omega), rfl, bt (by omega), rfl, bf (by omega), trivial⟩ ?_
             refine e_ret [] [] (i6 0) trivial ?_
             intro w11 hw11
             refine ⟨congrArg (fun n => Ending.returned (i6 n)) (?_ : (0 : Int) = stageOf h), back0 hw11⟩
             first
               | exact stage_a (body_a (by omega))
               | exact stage_b (by omega) (by omega) (by omega)
               | exact stage_c (by omega) (by omega) (by omega) (by omega) (by omega) (by omega)
               | exact stage_a (body_d (by omega) (by omega) (by omega) (by omega))
           · refine q_cS 6 0 [1] [[o0, (a1 1), oT, o0, o0, (a1 1), oT, o0, o0, o0, (a1 1), oT, o0, o0]] [Qb z, ET h.Kind 2, Qb z, BT ((h.Depth : Int) ≥ 1), Qb z, BT ((h.Depth : Int) ≤ 8)] [(1, pt z), (19, .bool true)] rfl ⟨rfl, et (by omega), rfl, bt (by omega), rfl, bt (by omega), trivial⟩ ?_
             have hm12 := mul_bd (a := h.Depth) (b := 1 + h.Words) (by omega) (by omega) (by omega) (by omega)
             refine q_rS 3 0 [] [[o0, (a1 1), o0, (a1 1), (ov (i6 (1 + h.Words))), (ov (i6 (h.Depth * (1 + h.Words)))), (ov (i6 (1 + (h.Depth * (1 + h.Words))))), o0]] [Qb z, Qb z, Wr ((1 : Int) + h.Words) (1 + h.Words), Wr ((h.Depth : Int) * (1 + h.Words)) (h.Depth * (1 + h.Words)), Wr ((1 : Int) + (h.Depth * (1 + h.Words))) (1 + (h.Depth * (1 + h.Words)))] [(2, i6 (1 + (h.Depth * (1 + h.Words))))] rfl ⟨rfl, rfl, wrI, wrI, wrI, trivial⟩ ?_
             refine e_ret [] [] (i6 (1 + (h.Depth * (1 + h.Words)))) trivial ?_
             intro w13 hw13
             refine ⟨congrArg (fun n => Ending.returned (i6 n)) (?_ : (1 + (h.Depth * (1 + h.Words)) : Int) = stageOf h), back0 hw13⟩
             first
               | exact stage_a (body_a (by omega))
               | exact stage_b (by omega) (by omega) (by omega)
               | exact stage_c (by omega) (by omega) (by omega) (by omega) (by omega) (by omega)
               | exact stage_a (body_d (by omega) (by omega) (by omega) (by omega))
       · refine q_cS 12 0 [0] [[o0, (a1 1), oF, o0, o0, o0, o0, o0], [o0]] [Qb z, EF h.Kind 2] [(2, i6 0)] rfl ⟨rfl, ef (by omega), trivial⟩ ?_
         refine e_ret [] [] (i6 0) trivial ?_
         intro w14 hw14
         refine ⟨congrArg (fun n => Ending.returned (i6 n)) (?_ : (0 : Int) = stageOf h), back0 hw14⟩
         first
           | exact stage_a (body_a (by omega))
           | exact stage_b (by omega) (by omega) (by omega)
           | exact stage_c (by omega) (by omega) (by omega) (by omega) (by omega) (by omega)
           | exact stage_a (body_d (by omega) (by omega) (by omega) (by omega))
theorem port_calls (w : World) (h : TChannel) (hh : TChannel.ok Any w h) : Calls Tryd.prog 60 #[.agg (TChannel.arr h)] w fun e w' => e = .returned (.int .i64 (portOf h)) ∧ Keeps (fun _ => False) w w' := by
 obtain ⟨z, hz⟩ : ∃ z, z = w.heap.size := ⟨_, rfl⟩
 refine calls_G (args := [.agg (TChannel.arr h)]) 17 ⟨w, z, [(old0 w)]⟩ Tryd.func60 rfl (by kernel_rfl) (by kernel_rfl) (sat_0 hz) ?_
 have hbd := body_bd h; have hsd := stage_bd h; have hwd := body_w h; have hsp := stage_port h
 refine g_keep [0] [(0, .agg (TChannel.arr h))] ?_
 refine q_c 6 1 [] [[o0, o0], [(an 3 1)]] [Qb z, Qb z, Qb z] [(1, pt z), (4, .agg (TChannel.arr h))] ⟨w, z + 1, [(old0 w), (bk z (TChannel.arr h) 55)]⟩ rfl ⟨rfl, rfl, rfl, trivial⟩ ?_
 refine l_call [] [] 59 #[.agg (TChannel.arr h)] (some 5) trivial ?_
 intro w1 hw1
 refine (stage_calls w1 h (hh.ext (hw1.ext rfl) (fun _ h => h))).mono ?_
 rintro e w2 ⟨rfl, hkw2⟩
 have hnw2 : z + 1 ≤ w2.heap.size := size_of hw1 hkw2
 refine ⟨_, _, rfl, hw1.keeps hkw2, ?_⟩
 refine q_rS 4 0 [] [[o0]] [] [(1, pt z), (3, i6 (stageOf h))] rfl trivial ?_
 by_cases h3 : (stageOf h : Int) = 0
 · refine q_cS 9 0 [1] [[o0, oT, o0], [o0]] [ET (stageOf h) 0] [(2, i6 0)] rfl ⟨et (by omega), trivial⟩ ?_
   refine e_ret [] [] (i6 0) trivial ?_
   intro w4 hw4
   refine ⟨congrArg (fun n => Ending.returned (i6 n)) (?_ : (0 : Int) = portOf h), back0 hw4⟩
   first
     | (have := hsp.1 (by omega); omega)
     | exact port_b (by omega) (by omega)
     | exact port_c (by omega) (by omega)
 · refine q_cS 5 0 [0] [[o0, oF, o0]] [EF (stageOf h) 0] [(1, pt z), (3, i6 (stageOf h)), (8, .bool false)] rfl ⟨ef (by omega), trivial⟩ ?_
   by_cases h5 : (h.Kind : Int) = 1
   · refine q_cS 9 0 [1] [[o0, (a1 1), oT, o0], [o0, (ov (i6 ((stageOf h) + 1))), o0]] [Qb z, ET h.Kind 1, Wr ((stageOf h : Int) + 1) ((stageOf h) + 1)] [(2, i6 ((stageOf h) + 1))] rfl ⟨rfl, et (by omega), wrI, trivial⟩ ?_
     refine e_ret [] [] (i6 ((stageOf h) + 1)) trivial ?_
     intro w6 hw6
     refine ⟨congrArg (fun n => Ending.returned (i6 n)) (?_ : ((stageOf h) + 1 : Int) = portOf h), back0 hw6⟩
     first
       | (have := hsp.1 (by omega); omega)
       | exact port_b (by omega) (by omega)
       | exact port_c (by omega) (by omega)
   · refine q_cS 9 0 [0] [[o0, (a1 1), oF, o0], [o0, (ov (i6 ((stageOf h) + 2))), o0]] [Qb z, EF h.Kind 1, Wr ((stageOf h : Int) + 2) ((stageOf h) + 2)] [(2, i6 ((stageOf h) + 2))] rfl ⟨rfl, ef (by omega), wrI, trivial⟩ ?_
     refine e_ret [] [] (i6 ((stageOf h) + 2)) trivial ?_
     intro w7 hw7
     refine ⟨congrArg (fun n => Ending.returned (i6 n)) (?_ : ((stageOf h) + 2 : Int) = portOf h), back0 hw7⟩
     first
       | (have := hsp.1 (by omega); omega)
       | exact port_b (by omega) (by omega)
       | exact port_c (by omega) (by omega)
end Go.Proofs.YtnjhekfgmbpmlaaDoor.Ly
namespace Go.Proofs.YtnjhekfgmbpmlaaDoor.Ly
open Go Go.Proofs.YtnjhekfgmbpmlaaDoor.Eng Go.Proofs.YtnjhekfgmbpmlaaDoor.Mem
set_option linter.unusedSimpArgs false
set_option linter.unusedVariables false
set_option maxRecDepth 100000
theorem take_snoc {α : Type} [Inhabited α] {xs : List α} {k : Nat} (h : k < xs.length) : xs.take (k + 1) = xs.take k ++ [gd xs k] := by
  rw [List.take_succ_eq_append_getElem h, gd_eq h]
def srcIs (k : Int) (b : Bool) (q : TPort) : Bool := decide (q.Channel = k) && (q.Source == b)
def endsN (x : TPartition) (k : Int) (b : Bool) : Nat := x.Ports.xs.countP (srcIs k b)
theorem src_t {q : TPort} {k : Int} {b : Bool} (h1 : q.Channel = k) (h2 : q.Source = b) : srcIs k b q = true := by simp [srcIs, h1, h2]
theorem src_f1 {q : TPort} {k : Int} {b : Bool} (h1 : ¬ q.Channel = k) : srcIs k b q = false := by simp [srcIs, h1]
theorem src_f2 {q : TPort} {k : Int} {b : Bool} (h2 : ¬ q.Source = b) : srcIs k b q = false := by simp [srcIs, h2]
def sumN {α : Type} (f : α → Nat) (xs : List α) (i : Nat) : Nat := ((xs.take i).map f).sum
theorem sumN_succ {α : Type} [Inhabited α] {f : α → Nat} {xs : List α} {i : Nat} (h : i < xs.length) : sumN f xs (i + 1) = sumN f xs i + f (gd xs i) := by
  unfold sumN; rw [take_snoc h]; simp
def nEnds (c : TConfig) (k : Nat) (b : Bool) : Nat := sumN (fun x => endsN x k b) c.Partitions.xs c.Partitions.xs.length
def chanOk (c : TConfig) (k : Nat) : Bool := decide (portOf (gd c.Channels.xs k) ≠ 0) && !(decide ((gd c.Channels.xs k).Kind = 1) && decide ((gd c.Channels.xs k).Depth ≠ 0)) && decide (nEnds c k true = 1) && decide (1 ≤ nEnds c k false ∧ nEnds c k false ≤ 4)
def confOk (c : TConfig) : Bool := decide (0 ≤ c.Kernel ∧ c.Kernel < 1024) && decide (c.Partitions.xs.length ≤ 8) && decide (c.Channels.xs.length ≤ 16) && c.Partitions.xs.all (partOk c.Channels.xs.length) && (List.range c.Channels.xs.length).all (chanOk c)
theorem conf_no1 {c : TConfig} (h : ¬ (0 ≤ c.Kernel ∧ c.Kernel < 1024) ∨ 8 < c.Partitions.xs.length ∨ 16 < c.Channels.xs.length) : confOk c = false := by
  unfold confOk
  rcases h with h | h | h
  · rw [decide_eq_false h]; rfl
  · rw [decide_eq_false (show ¬ c.Partitions.xs.length ≤ 8 by omega)]; simp
  · rw [decide_eq_false (show ¬ c.Channels.xs.length ≤ 16 by omega)]; simp
theorem conf_no2 {c : TConfig} {k : Nat} (hk : k < c.Partitions.xs.length) (h : partOk c.Channels.xs.length (gd c.Partitions.xs k) = false) : confOk c = false := by
  unfold confOk
  rw [all_no hk h]; simp
theorem conf_no3 {c : TConfig} {k : Nat} (hk : k < c.Channels.xs.length) (h : chanOk c k = false) : confOk c = false := by
  unfold confOk
  have : (List.range c.Channels.xs.length).all (chanOk c) = false := by
    rw [List.all_eq_false]; exact ⟨k, List.mem_range.2 hk, by simp [h]⟩
  rw [this]; simp
theorem conf_yes {c : TConfig} (h1 : 0 ≤ c.Kernel ∧ c.Kernel < 1024) (h2 : c.Partitions.xs.length ≤ 8) (h3 : c.Channels.xs.length ≤ 16) (h4 : ∀ i, i < c.Partitions.xs.length → partOk c.Channels.xs.length (gd c.Partitions.xs i) = true) (h5 : ∀ i, i < c.Channels.xs.length → chanOk c i = true) : confOk c = true := by
  unfold confOk
  rw [decide_eq_true h1, decide_eq_true h2, decide_eq_true h3, all_yes h4]
  simp only [Bool.and_true, Bool.true_and, List.all_eq_true, List.mem_range]
  exact h5
theorem part_ports {n : Nat} {x : TPartition} (h : partOk n x = true) : x.Ports.xs.length ≤ 8 := by
  unfold partOk at h; simp only [Bool.and_eq_true, decide_eq_true_eq] at h; exact h.1.1.2
theorem part_regs {n : Nat} {x : TPartition} (h : partOk n x = true) : x.Regions.xs.length ≤ 8 ∧ x.Regions.xs.all regOk = true := by
  unfold partOk at h; simp only [Bool.and_eq_true, decide_eq_true_eq] at h; exact ⟨h.1.1.1, h.1.2⟩
theorem chan_no {c : TConfig} {k : Nat} (h : portOf (gd c.Channels.xs k) = 0 ∨ ((gd c.Channels.xs k).Kind = 1 ∧ (gd c.Channels.xs k).Depth ≠ 0) ∨ nEnds c k true ≠ 1 ∨ nEnds c k false < 1 ∨ 4 < nEnds c k false) : chanOk c k = false := by
  unfold chanOk
  rcases h with h | ⟨h, h'⟩ | h | h | h
  · simp [h]
  · simp [h, h']
  · simp [h]
  · rw [decide_eq_false (show ¬ (1 ≤ nEnds c k false ∧ nEnds c k false ≤ 4) by omega)]; simp
  · rw [decide_eq_false (show ¬ (1 ≤ nEnds c k false ∧ nEnds c k false ≤ 4) by omega)]; simp
theorem chan_yes {c : TConfig} {k : Nat} (h1 : ¬ portOf (gd c.Channels.xs k) = 0) (h2 : ¬ ((gd c.Channels.xs k).Kind = 1 ∧ ¬ (gd c.Channels.xs k).Depth = 0)) (h3 : nEnds c k true = 1) (h4 : 1 ≤ nEnds c k false ∧ nEnds c k false ≤ 4) : chanOk c k = true := by
  unfold chanOk
  rw [decide_eq_true h3, decide_eq_true h4]
  simp [h1]
  by_cases e : (gd c.Channels.xs k).Kind = 1
  · exact .inr (Classical.not_not.1 (fun e2 => h2 ⟨e, e2⟩))
  · exact .inl e
end Go.Proofs.YtnjhekfgmbpmlaaDoor.Ly
