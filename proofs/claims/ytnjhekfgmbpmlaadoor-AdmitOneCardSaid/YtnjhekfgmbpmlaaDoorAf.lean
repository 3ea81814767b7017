/- admit: channel. No conditions. -/
import Derived.Test.YtnjhekfgmbpmlaaDoorAe
namespace Go.Proofs.YtnjhekfgmbpmlaaDoor.Ad
open Go Go.Proofs.YtnjhekfgmbpmlaaDoor.Eng Go.Proofs.YtnjhekfgmbpmlaaDoor.Mem Go.Proofs.YtnjhekfgmbpmlaaDoor.Ly
set_option linter.unusedSimpArgs false
set_option linter.unusedVariables false
set_option maxRecDepth 100000

abbrev chaC (c : TConfig) (h : Nat) : TChannel := gd c.Channels.xs h
def depB (x : TChannel) : Bool := if x.Kind = 2 then win x.Depth 1 8 else decide (x.Depth = 0)
def mostI (x : TChannel) : Int := if x.Kind = 2 then 1 else 4
def chanQ (c : TConfig) (h : Nat) : Tfound := fstW [unl (win (chaC c h).Kind 1 2 && win (chaC c h).Words 1 16 && depB (chaC c h)) 415 ⟨(h : Int), -1⟩, unl (decide ((srcC c h : Nat) = (1 : Int))) 416 ⟨(h : Int), -1⟩, unl (win (dstC c h : Nat) 1 (mostI (chaC c h))) 417 ⟨(h : Int), -1⟩]
abbrev qt5j_0 (w162 : World) (y8 : TChannel) (h : Nat) (c : TConfig) : Ch := .blk w162.heap.size (.cells #[i6 ((unl (depB y8) 415 ⟨(h : Int), -1⟩).e), i6 ((unl (depB y8) 415 ⟨(h : Int), -1⟩).where_.First), i6 ((unl (depB y8) 415 ⟨(h : Int), -1⟩).where_.Second), i6 ((unl false 416 ⟨(h : Int), -1⟩).e), i6 ((unl false 416 ⟨(h : Int), -1⟩).where_.First), i6 ((unl false 416 ⟨(h : Int), -1⟩).where_.Second), i6 ((unl (win ((dstC c (h : Int) : Nat) : Int) 1 (mostI y8)) 417 ⟨(h : Int), -1⟩).e), i6 ((unl (win ((dstC c (h : Int) : Nat) : Int) 1 (mostI y8)) 417 ⟨(h : Int), -1⟩).where_.First), i6 ((unl (win ((dstC c (h : Int) : Nat) : Int) 1 (mostI y8)) 417 ⟨(h : Int), -1⟩).where_.Second)] 73 (0, 0)) true
abbrev qt5j_1 (w52 : World) (y8 : TChannel) (h : Nat) (c : TConfig) : Ch := .blk w52.heap.size (.cells #[i6 ((unl (depB y8) 415 ⟨(h : Int), -1⟩).e), i6 ((unl (depB y8) 415 ⟨(h : Int), -1⟩).where_.First), i6 ((unl (depB y8) 415 ⟨(h : Int), -1⟩).where_.Second), i6 ((unl false 416 ⟨(h : Int), -1⟩).e), i6 ((unl false 416 ⟨(h : Int), -1⟩).where_.First), i6 ((unl false 416 ⟨(h : Int), -1⟩).where_.Second), i6 ((unl (win ((dstC c (h : Int) : Nat) : Int) 1 (mostI y8)) 417 ⟨(h : Int), -1⟩).e), i6 ((unl (win ((dstC c (h : Int) : Nat) : Int) 1 (mostI y8)) 417 ⟨(h : Int), -1⟩).where_.First), i6 ((unl (win ((dstC c (h : Int) : Nat) : Int) 1 (mostI y8)) 417 ⟨(h : Int), -1⟩).where_.Second)] 73 (0, 0)) true
abbrev qt5j_2 (w149 : World) (y8 : TChannel) (h : Nat) (c : TConfig) : Ch := .blk w149.heap.size (.cells #[i6 ((unl (depB y8) 415 ⟨(h : Int), -1⟩).e), i6 ((unl (depB y8) 415 ⟨(h : Int), -1⟩).where_.First), i6 ((unl (depB y8) 415 ⟨(h : Int), -1⟩).where_.Second), i6 ((unl true 416 ⟨(h : Int), -1⟩).e), i6 ((unl true 416 ⟨(h : Int), -1⟩).where_.First), i6 ((unl true 416 ⟨(h : Int), -1⟩).where_.Second), i6 ((unl (win ((dstC c (h : Int) : Nat) : Int) 1 (mostI y8)) 417 ⟨(h : Int), -1⟩).e), i6 ((unl (win ((dstC c (h : Int) : Nat) : Int) 1 (mostI y8)) 417 ⟨(h : Int), -1⟩).where_.First), i6 ((unl (win ((dstC c (h : Int) : Nat) : Int) 1 (mostI y8)) 417 ⟨(h : Int), -1⟩).where_.Second)] 73 (0, 0)) true
abbrev qt5j_3 (w39 : World) (y8 : TChannel) (h : Nat) (c : TConfig) : Ch := .blk w39.heap.size (.cells #[i6 ((unl (depB y8) 415 ⟨(h : Int), -1⟩).e), i6 ((unl (depB y8) 415 ⟨(h : Int), -1⟩).where_.First), i6 ((unl (depB y8) 415 ⟨(h : Int), -1⟩).where_.Second), i6 ((unl true 416 ⟨(h : Int), -1⟩).e), i6 ((unl true 416 ⟨(h : Int), -1⟩).where_.First), i6 ((unl true 416 ⟨(h : Int), -1⟩).where_.Second), i6 ((unl (win ((dstC c (h : Int) : Nat) : Int) 1 (mostI y8)) 417 ⟨(h : Int), -1⟩).e), i6 ((unl (win ((dstC c (h : Int) : Nat) : Int) 1 (mostI y8)) 417 ⟨(h : Int), -1⟩).where_.First), i6 ((unl (win ((dstC c (h : Int) : Nat) : Int) 1 (mostI y8)) 417 ⟨(h : Int), -1⟩).where_.Second)] 73 (0, 0)) true
abbrev qt5j_4 (w116 : World) (h : Nat) (c : TConfig) (y8 : TChannel) : Ch := .blk w116.heap.size (.cells #[i6 ((unl false 415 ⟨(h : Int), -1⟩).e), i6 ((unl false 415 ⟨(h : Int), -1⟩).where_.First), i6 ((unl false 415 ⟨(h : Int), -1⟩).where_.Second), i6 ((unl false 416 ⟨(h : Int), -1⟩).e), i6 ((unl false 416 ⟨(h : Int), -1⟩).where_.First), i6 ((unl false 416 ⟨(h : Int), -1⟩).where_.Second), i6 ((unl (win ((dstC c (h : Int) : Nat) : Int) 1 (mostI y8)) 417 ⟨(h : Int), -1⟩).e), i6 ((unl (win ((dstC c (h : Int) : Nat) : Int) 1 (mostI y8)) 417 ⟨(h : Int), -1⟩).where_.First), i6 ((unl (win ((dstC c (h : Int) : Nat) : Int) 1 (mostI y8)) 417 ⟨(h : Int), -1⟩).where_.Second)] 73 (0, 0)) true
abbrev qt5j_5 (w194 : World) (h : Nat) (c : TConfig) (y8 : TChannel) : Ch := .blk w194.heap.size (.cells #[i6 ((unl false 415 ⟨(h : Int), -1⟩).e), i6 ((unl false 415 ⟨(h : Int), -1⟩).where_.First), i6 ((unl false 415 ⟨(h : Int), -1⟩).where_.Second), i6 ((unl false 416 ⟨(h : Int), -1⟩).e), i6 ((unl false 416 ⟨(h : Int), -1⟩).where_.First), i6 ((unl false 416 ⟨(h : Int), -1⟩).where_.Second), i6 ((unl (win ((dstC c (h : Int) : Nat) : Int) 1 (mostI y8)) 417 ⟨(h : Int), -1⟩).e), i6 ((unl (win ((dstC c (h : Int) : Nat) : Int) 1 (mostI y8)) 417 ⟨(h : Int), -1⟩).where_.First), i6 ((unl (win ((dstC c (h : Int) : Nat) : Int) 1 (mostI y8)) 417 ⟨(h : Int), -1⟩).where_.Second)] 73 (0, 0)) true
abbrev qt5j_6 (w226 : World) (h : Nat) (c : TConfig) (y8 : TChannel) : Ch := .blk w226.heap.size (.cells #[i6 ((unl false 415 ⟨(h : Int), -1⟩).e), i6 ((unl false 415 ⟨(h : Int), -1⟩).where_.First), i6 ((unl false 415 ⟨(h : Int), -1⟩).where_.Second), i6 ((unl false 416 ⟨(h : Int), -1⟩).e), i6 ((unl false 416 ⟨(h : Int), -1⟩).where_.First), i6 ((unl false 416 ⟨(h : Int), -1⟩).where_.Second), i6 ((unl (win ((dstC c (h : Int) : Nat) : Int) 1 (mostI y8)) 417 ⟨(h : Int), -1⟩).e), i6 ((unl (win ((dstC c (h : Int) : Nat) : Int) 1 (mostI y8)) 417 ⟨(h : Int), -1⟩).where_.First), i6 ((unl (win ((dstC c (h : Int) : Nat) : Int) 1 (mostI y8)) 417 ⟨(h : Int), -1⟩).where_.Second)] 73 (0, 0)) true
abbrev qt5j_7 (w84 : World) (h : Nat) (c : TConfig) (y8 : TChannel) : Ch := .blk w84.heap.size (.cells #[i6 ((unl false 415 ⟨(h : Int), -1⟩).e), i6 ((unl false 415 ⟨(h : Int), -1⟩).where_.First), i6 ((unl false 415 ⟨(h : Int), -1⟩).where_.Second), i6 ((unl false 416 ⟨(h : Int), -1⟩).e), i6 ((unl false 416 ⟨(h : Int), -1⟩).where_.First), i6 ((unl false 416 ⟨(h : Int), -1⟩).where_.Second), i6 ((unl (win ((dstC c (h : Int) : Nat) : Int) 1 (mostI y8)) 417 ⟨(h : Int), -1⟩).e), i6 ((unl (win ((dstC c (h : Int) : Nat) : Int) 1 (mostI y8)) 417 ⟨(h : Int), -1⟩).where_.First), i6 ((unl (win ((dstC c (h : Int) : Nat) : Int) 1 (mostI y8)) 417 ⟨(h : Int), -1⟩).where_.Second)] 73 (0, 0)) true
abbrev qt5j_8 (w103 : World) (h : Nat) (c : TConfig) (y8 : TChannel) : Ch := .blk w103.heap.size (.cells #[i6 ((unl false 415 ⟨(h : Int), -1⟩).e), i6 ((unl false 415 ⟨(h : Int), -1⟩).where_.First), i6 ((unl false 415 ⟨(h : Int), -1⟩).where_.Second), i6 ((unl true 416 ⟨(h : Int), -1⟩).e), i6 ((unl true 416 ⟨(h : Int), -1⟩).where_.First), i6 ((unl true 416 ⟨(h : Int), -1⟩).where_.Second), i6 ((unl (win ((dstC c (h : Int) : Nat) : Int) 1 (mostI y8)) 417 ⟨(h : Int), -1⟩).e), i6 ((unl (win ((dstC c (h : Int) : Nat) : Int) 1 (mostI y8)) 417 ⟨(h : Int), -1⟩).where_.First), i6 ((unl (win ((dstC c (h : Int) : Nat) : Int) 1 (mostI y8)) 417 ⟨(h : Int), -1⟩).where_.Second)] 73 (0, 0)) true
abbrev qt5j_9 (w181 : World) (h : Nat) (c : TConfig) (y8 : TChannel) : Ch := .blk w181.heap.size (.cells #[i6 ((unl false 415 ⟨(h : Int), -1⟩).e), i6 ((unl false 415 ⟨(h : Int), -1⟩).where_.First), i6 ((unl false 415 ⟨(h : Int), -1⟩).where_.Second), i6 ((unl true 416 ⟨(h : Int), -1⟩).e), i6 ((unl true 416 ⟨(h : Int), -1⟩).where_.First), i6 ((unl true 416 ⟨(h : Int), -1⟩).where_.Second), i6 ((unl (win ((dstC c (h : Int) : Nat) : Int) 1 (mostI y8)) 417 ⟨(h : Int), -1⟩).e), i6 ((unl (win ((dstC c (h : Int) : Nat) : Int) 1 (mostI y8)) 417 ⟨(h : Int), -1⟩).where_.First), i6 ((unl (win ((dstC c (h : Int) : Nat) : Int) 1 (mostI y8)) 417 ⟨(h : Int), -1⟩).where_.Second)] 73 (0, 0)) true
abbrev qt5j_10 (w213 : World) (h : Nat) (c : TConfig) (y8 : TChannel) : Ch := .blk w213.heap.size (.cells #[i6 ((unl false 415 ⟨(h : Int), -1⟩).e), i6 ((unl false 415 ⟨(h : Int), -1⟩).where_.First), i6 ((unl false 415 ⟨(h : Int), -1⟩).where_.Second), i6 ((unl true 416 ⟨(h : Int), -1⟩).e), i6 ((unl true 416 ⟨(h : Int), -1⟩).where_.First), i6 ((unl true 416 ⟨(h : Int), -1⟩).where_.Second), i6 ((unl (win ((dstC c (h : Int) : Nat) : Int) 1 (mostI y8)) 417 ⟨(h : Int), -1⟩).e), i6 ((unl (win ((dstC c (h : Int) : Nat) : Int) 1 (mostI y8)) 417 ⟨(h : Int), -1⟩).where_.First), i6 ((unl (win ((dstC c (h : Int) : Nat) : Int) 1 (mostI y8)) 417 ⟨(h : Int), -1⟩).where_.Second)] 73 (0, 0)) true
abbrev qt5j_11 (w71 : World) (h : Nat) (c : TConfig) (y8 : TChannel) : Ch := .blk w71.heap.size (.cells #[i6 ((unl false 415 ⟨(h : Int), -1⟩).e), i6 ((unl false 415 ⟨(h : Int), -1⟩).where_.First), i6 ((unl false 415 ⟨(h : Int), -1⟩).where_.Second), i6 ((unl true 416 ⟨(h : Int), -1⟩).e), i6 ((unl true 416 ⟨(h : Int), -1⟩).where_.First), i6 ((unl true 416 ⟨(h : Int), -1⟩).where_.Second), i6 ((unl (win ((dstC c (h : Int) : Nat) : Int) 1 (mostI y8)) 417 ⟨(h : Int), -1⟩).e), i6 ((unl (win ((dstC c (h : Int) : Nat) : Int) 1 (mostI y8)) 417 ⟨(h : Int), -1⟩).where_.First), i6 ((unl (win ((dstC c (h : Int) : Nat) : Int) 1 (mostI y8)) 417 ⟨(h : Int), -1⟩).where_.Second)] 73 (0, 0)) true
abbrev qt5j_12 (z : Nat) (y8 : TChannel) (h : Nat) (c : TConfig) : Ch := .blk (z + 1) (.cells (Tfound.arr (fstW [(unl (depB y8) 415 ⟨(h : Int), -1⟩), (unl false 416 ⟨(h : Int), -1⟩), (unl (win ((dstC c (h : Int) : Nat) : Int) 1 (mostI y8)) 417 ⟨(h : Int), -1⟩)])) 73 (0, 0)) true
abbrev qt5j_13 (z : Nat) (y8 : TChannel) (h : Nat) (c : TConfig) : Ch := .blk (z + 1) (.cells (Tfound.arr (fstW [(unl (depB y8) 415 ⟨(h : Int), -1⟩), (unl true 416 ⟨(h : Int), -1⟩), (unl (win ((dstC c (h : Int) : Nat) : Int) 1 (mostI y8)) 417 ⟨(h : Int), -1⟩)])) 73 (0, 0)) true
abbrev qt5j_14 (z : Nat) (h : Nat) (c : TConfig) (y8 : TChannel) : Ch := .blk (z + 1) (.cells (Tfound.arr (fstW [(unl false 415 ⟨(h : Int), -1⟩), (unl false 416 ⟨(h : Int), -1⟩), (unl (win ((dstC c (h : Int) : Nat) : Int) 1 (mostI y8)) 417 ⟨(h : Int), -1⟩)])) 73 (0, 0)) true
abbrev qt5j_15 (z : Nat) (h : Nat) (c : TConfig) (y8 : TChannel) : Ch := .blk (z + 1) (.cells (Tfound.arr (fstW [(unl false 415 ⟨(h : Int), -1⟩), (unl true 416 ⟨(h : Int), -1⟩), (unl (win ((dstC c (h : Int) : Nat) : Int) 1 (mostI y8)) 417 ⟨(h : Int), -1⟩)])) 73 (0, 0)) true
abbrev qt5j_16 (z : Nat) : Ch := bk (z + 1) #[i6 0, i6 0, i6 0] 73
abbrev qt5j_17 (z : Nat) (y8 : TChannel) : Ch := bk (z + 2) (TChannel.arr y8) 55
abbrev qt5j_18 (z : Nat) (c : TConfig) : Ch := bk z (TConfig.arr c) 26
abbrev qt5j_19 (c : TConfig) (h : Nat) (y8 : TChannel) : Nat × Value := (51, .bool (win ((dstC c (h : Int) : Nat) : Int) 1 (mostI y8)))
abbrev qt5j_20 (y8 : TChannel) (h : Nat) : Nat × Value := (43, .agg (Tfound.arr (unl (depB y8) 415 ⟨(h : Int), -1⟩)))
abbrev qt5j_21 (h : Nat) : Nat × Value := (48, .agg (Tfound.arr (unl false 416 ⟨(h : Int), -1⟩)))
abbrev qt5j_22 (h : Nat) : Nat × Value := (43, .agg (Tfound.arr (unl false 415 ⟨(h : Int), -1⟩)))
abbrev qt5j_23 (h : Nat) : Nat × Value := (48, .agg (Tfound.arr (unl true 416 ⟨(h : Int), -1⟩)))
abbrev qt5j_24 (h : Nat) : Nat × Value := (42, .agg #[i6 (h : Int), i6 (-1)])
abbrev qt5j_25 (h : Nat) : Nat × Value := (47, .agg #[i6 (h : Int), i6 (-1)])
abbrev qt5j_26 (h : Nat) : Nat × Value := (53, .agg #[i6 (h : Int), i6 (-1)])
abbrev qt5j_27 (c : TConfig) (h : Nat) : Nat × Value := (49, i6 ((dstC c (h : Int) : Nat) : Int))
abbrev qt5j_28 (c : TConfig) (h : Nat) : Nat × Value := (8, i6 ((srcC c (h : Int) : Nat) : Int))
abbrev qt5j_29 (c : TConfig) (h : Nat) : Nat × Value := (9, i6 ((dstC c (h : Int) : Nat) : Int))
abbrev qt5j_30 (z : Nat) : Nat × Value := (4, pt (z + 1))
abbrev qt5j_31 (z : Nat) : Nat × Value := (5, pt (z + 2))
theorem channel_calls (w : World) (hL : LaidAt w) (c : TConfig) (hc : TConfig.ok Any w c) (h : Nat) (hh : h < c.Channels.xs.length) (hm : c.Partitions.xs.length ≤ 1024) (hq : ∀ p, p < c.Partitions.xs.length → (gd c.Partitions.xs p).Ports.xs.length ≤ 1024) : Calls Tryd.prog 50 #[.agg (TConfig.arr c), .int .i64 (h : Int)] w fun e w' => e = .returned (.agg (Tfound.arr (chanQ c h))) ∧ Keeps (fun _ => False) w w' := by
 obtain ⟨z, hz⟩ : ∃ z, z = w.heap.size := ⟨_, rfl⟩
 refine calls_G (args := [.agg (TConfig.arr c), i6 (h : Int)]) 57 ⟨w, z, [(old0 w)]⟩ Tryd.func50 rfl (by kernel_rfl) (by kernel_rfl) (sat_0 hz) ?_
 have hpl := hc.Channels.1.len
 refine g_keep [0, 1] [(0, .agg (TConfig.arr c)), (1, i6 (h : Int))] ?_
 refine q_c 5 0 [] [[o0, o0]] [] [(1, i6 (h : Int)), (2, pt z), (qt5j_30 z)] ⟨w, z + 2, [(old0 w), (qt5j_18 z c), (qt5j_16 z)]⟩ rfl trivial ?_
 obtain ⟨b1, o2, ha3, hF5, hc4⟩ := (hc.Channels).1.all (show 0 < c.Channels.xs.length by omega)
 replace ha3 : c.Channels.a = some ⟨b1, o2, none⟩ := ha3
 have hc6 := hc4 h (show h < c.Channels.xs.length by omega)
 have he7 := (hc.Channels).2 h (show h < c.Channels.xs.length by omega)
 obtain ⟨y8, hy8⟩ : ∃ y_, y_ = gd c.Channels.xs h := ⟨_, rfl⟩
 rw [← hy8] at he7 hc6
 refine q_c 4 0 [] [[o0, ⟨.auto [.at 1], some (.slice (some ⟨b1, o2, none⟩) c.Channels.xs.length c.Channels.cap)⟩, o0, (oi h), (ol 0 (TChannel.arr y8)), o0, (an 3 3)]] [Qb z, Value.slice c.Channels.a c.Channels.xs.length c.Channels.cap = Value.slice (some ⟨b1, o2, none⟩) c.Channels.xs.length c.Channels.cap, ((h : Int) : Int) = ((h : Nat) : Int), h < c.Channels.xs.length, (none : Option Nat) = none, OldR w b1 (o2 + h * 3) (TChannel.arr y8), Qb (z + 2), Qb (z + 2), Qb (z + 2)] [(1, i6 (h : Int)), (2, pt z), (qt5j_30 z), (qt5j_31 z)] ⟨w, z + 3, [(old0 w), (qt5j_18 z c), (qt5j_16 z), (qt5j_17 z y8)]⟩ rfl ⟨rfl, congrArg (fun a => Value.slice a _ _) ha3, rfl, (by omega), rfl, old_row hc6, rfl, rfl, rfl, trivial⟩ ?_
 by_cases h9 : (y8.Depth : Int) = 0
 · refine q_cS 3 0 [] [[o0, (a1 3), oT, o0, o0]] [Qb (z + 2), ET y8.Depth 0] [(1, i6 (h : Int)), (2, pt z), (qt5j_30 z), (qt5j_31 z), (6, .bool true), (7, i6 4)] rfl ⟨rfl, et (by omega), trivial⟩ ?_
   refine g_cut (fun a w' => ∃ (n10 : Nat), z + 3 ≤ n10 ∧ St 57 [(1, i6 (h : Int)), (2, pt z), (qt5j_30 z), (qt5j_31 z), (6, .bool (depB y8)), (7, i6 (mostI y8))] [] ⟨w, n10, [(old0 w), (qt5j_18 z c), (qt5j_16 z), (qt5j_17 z y8)]⟩ a w') ?_ ?_
   · refine g_seq ?_
     by_cases h12 : (y8.Kind : Int) = 2
     · refine q_cS 5 2 [1] [[o0, (a1 3), oT], [o0, (a1 3)]] [Qb (z + 2), ET y8.Kind 2, Qb (z + 2)] [(1, i6 (h : Int)), (2, pt z), (qt5j_30 z), (qt5j_31 z), (22, i6 y8.Depth)] rfl ⟨rfl, et (by omega), rfl, trivial⟩ ?_
       refine l_call [] [] 42 #[i6 y8.Depth, i6 1, i6 8] (some 23) trivial ?_
       intro w13 hw13
       refine (within_calls w13 y8.Depth 1 8).mono ?_
       rintro e w14 ⟨rfl, hkw14⟩
       have hnw14 : z + 3 ≤ w14.heap.size := size_of hw13 hkw14
       refine ⟨_, _, rfl, hw13.keeps hkw14, ?_⟩
       refine q_rS 1 0 [] [[o0, o0]] [] [(1, i6 (h : Int)), (2, pt z), (qt5j_30 z), (qt5j_31 z), (6, .bool (win y8.Depth 1 8)), (7, i6 1)] rfl trivial ?_
       have e6 : depB y8 = win y8.Depth 1 8 := (if_pos h12).trans (by first | rfl | exact decide_eq_true (by assumption) | exact decide_eq_false (by assumption))
       have e7 : mostI y8 = 1 := if_pos h12
       refine e_keep [1, 2, 4, 5, 6, 7] [(1, i6 (h : Int)), (2, pt z), (qt5j_30 z), (qt5j_31 z), (6, .bool (win y8.Depth 1 8)), (7, i6 1)] ?_
       refine e_inv (fun a w' hs => ⟨w14.heap.size, by omega, (by (try dsimp only [qt5j_0, qt5j_1, qt5j_2, qt5j_3, qt5j_4, qt5j_5, qt5j_6, qt5j_7, qt5j_8, qt5j_9, qt5j_10, qt5j_11, qt5j_12, qt5j_13, qt5j_14, qt5j_15, qt5j_16, qt5j_17, qt5j_18, qt5j_19, qt5j_20, qt5j_21, qt5j_22, qt5j_23, qt5j_24, qt5j_25, qt5j_26, qt5j_27, qt5j_28, qt5j_29, qt5j_30, qt5j_31] at hs ⊢); rw [e6, e7]; exact hs)⟩)
     · refine q_cS 5 0 [0] [[o0, (a1 3), oF]] [Qb (z + 2), EF y8.Kind 2] [(1, i6 (h : Int)), (2, pt z), (qt5j_30 z), (qt5j_31 z), (6, .bool true), (7, i6 4), (20, .bool false)] rfl ⟨rfl, ef (by omega), trivial⟩ ?_
       have e6 : depB y8 = true := (if_neg h12).trans (by first | rfl | exact decide_eq_true (by assumption) | exact decide_eq_false (by assumption))
       have e7 : mostI y8 = 4 := if_neg h12
       refine e_keep [1, 2, 4, 5, 6, 7] [(1, i6 (h : Int)), (2, pt z), (qt5j_30 z), (qt5j_31 z), (6, .bool true), (7, i6 4)] ?_
       refine e_inv (fun a w' hs => ⟨(z + 3), by omega, (by (try dsimp only [qt5j_0, qt5j_1, qt5j_2, qt5j_3, qt5j_4, qt5j_5, qt5j_6, qt5j_7, qt5j_8, qt5j_9, qt5j_10, qt5j_11, qt5j_12, qt5j_13, qt5j_14, qt5j_15, qt5j_16, qt5j_17, qt5j_18, qt5j_19, qt5j_20, qt5j_21, qt5j_22, qt5j_23, qt5j_24, qt5j_25, qt5j_26, qt5j_27, qt5j_28, qt5j_29, qt5j_30, qt5j_31] at hs ⊢); rw [e6, e7]; exact hs)⟩)
   · rintro a w' ⟨n10, hn11, hs⟩
     refine (?_ : G Tryd.prog 57 [(1, i6 (h : Int)), (2, pt z), (qt5j_30 z), (qt5j_31 z), (6, .bool (depB y8)), (7, i6 (mostI y8))] [] ⟨w, n10, [(old0 w), (qt5j_18 z c), (qt5j_16 z), (qt5j_17 z y8)]⟩ _ _ _) a w' hs
     clear hs a w'
     refine q_cS 2 2 [] [[(an 7 1), o0]] [Qb z, Qb z, Qb z, Qb z, Qb z, Qb z, Qb z] [(1, i6 (h : Int)), (qt5j_30 z), (qt5j_31 z), (6, .bool (depB y8)), (7, i6 (mostI y8)), (25, .agg (TConfig.arr c)), (26, i6 (h : Int))] rfl ⟨rfl, rfl, rfl, rfl, rfl, rfl, rfl, trivial⟩ ?_
     refine l_call [] [] 71 #[.agg (TConfig.arr c), i6 (h : Int)] (some 27) trivial ?_
     intro w15 hw15
     refine (ends_calls w15 c (hc.ext (hw15.ext rfl) (fun _ h => h)) (h : Int) hm hq).mono ?_
     rintro e w16 ⟨rfl, hkw16⟩
     have hnw16 : n10 ≤ w16.heap.size := size_of hw15 hkw16
     refine ⟨_, _, rfl, hw15.keeps hkw16, ?_⟩
     refine q_rS 4 2 [] [[o0, o0, o0, o0, o0], [o0, (a1 3)]] [Qb (z + 2)] [(1, i6 (h : Int)), (qt5j_30 z), (qt5j_31 z), (6, .bool (depB y8)), (7, i6 (mostI y8)), (qt5j_28 c h), (qt5j_29 c h), (31, i6 y8.Kind)] rfl ⟨rfl, trivial⟩ ?_
     refine l_call [] [] 42 #[i6 y8.Kind, i6 1, i6 2] (some 32) trivial ?_
     intro w17 hw17
     refine (within_calls w17 y8.Kind 1 2).mono ?_
     rintro e w18 ⟨rfl, hkw18⟩
     have hnw18 : w16.heap.size ≤ w18.heap.size := size_of hw17 hkw18
     refine ⟨_, _, rfl, hw17.keeps hkw18, ?_⟩
     refine l_keep [1, 4, 5, 6, 7, 8, 9, 32] [(1, i6 (h : Int)), (qt5j_30 z), (qt5j_31 z), (6, .bool (depB y8)), (7, i6 (mostI y8)), (qt5j_28 c h), (qt5j_29 c h), (32, .bool (win y8.Kind 1 2))] ?_
     by_cases h19 : (win y8.Kind 1 2) = true
     · have hd20 := win_yes h19
       refine q_rS 0 3 [] [[(ov (.bool true)), o0, (a1 3)]] [Value.bool (win y8.Kind 1 2) = Value.bool true, Qb (z + 2)] [(1, i6 (h : Int)), (qt5j_30 z), (6, .bool (depB y8)), (7, i6 (mostI y8)), (qt5j_28 c h), (qt5j_29 c h), (33, .bool true), (35, i6 y8.Words)] rfl ⟨(congrArg Value.bool h19), rfl, trivial⟩ ?_
       refine l_call [] [] 42 #[i6 y8.Words, i6 1, i6 16] (some 36) trivial ?_
       intro w21 hw21
       refine (within_calls w21 y8.Words 1 16).mono ?_
       rintro e w22 ⟨rfl, hkw22⟩
       have hnw22 : w18.heap.size ≤ w22.heap.size := size_of hw21 hkw22
       refine ⟨_, _, rfl, hw21.keeps hkw22, ?_⟩
       refine l_keep [1, 4, 6, 7, 8, 9, 33, 36] [(1, i6 (h : Int)), (qt5j_30 z), (6, .bool (depB y8)), (7, i6 (mostI y8)), (qt5j_28 c h), (qt5j_29 c h), (33, .bool true), (36, .bool (win y8.Words 1 16))] ?_
       by_cases h23 : (win y8.Words 1 16) = true
       · have hd24 := win_yes h23
         refine q_rS 0 5 [] [[o0, (ov (.bool true)), o0, o0, o0]] [Value.bool (win y8.Words 1 16) = Value.bool true] [(1, i6 (h : Int)), (qt5j_30 z), (7, i6 (mostI y8)), (qt5j_28 c h), (qt5j_29 c h), (40, .bool (depB y8)), (41, i6 (h : Int))] rfl ⟨(congrArg Value.bool h23), trivial⟩ ?_
         refine l_call [] [] 67 #[i6 (h : Int)] (some 42) trivial ?_
         intro w25 hw25
         refine (at_calls w25 (h : Int)).mono ?_
         rintro e w26 ⟨rfl, hkw26⟩
         have hnw26 : w22.heap.size ≤ w26.heap.size := size_of hw25 hkw26
         refine ⟨_, _, rfl, hw25.keeps hkw26, ?_⟩
         refine l_keep [1, 4, 7, 8, 9, 40, 42] [(1, i6 (h : Int)), (qt5j_30 z), (7, i6 (mostI y8)), (qt5j_28 c h), (qt5j_29 c h), (40, .bool (depB y8)), (qt5j_24 h)] ?_
         refine l_call [] [] 41 #[.bool (depB y8), i6 415, .agg #[i6 (h : Int), i6 (-1)]] (some 43) trivial ?_
         intro w27 hw27
         refine (unless_calls w27 (hL.ext (hw27.ext rfl)) (depB y8) 415 (h : Int) (-1)).mono ?_
         rintro e w28 ⟨rfl, hkw28⟩
         have hnw28 : w26.heap.size ≤ w28.heap.size := size_of hw27 hkw28
         refine ⟨_, _, rfl, hw27.keeps hkw28, ?_⟩
         refine l_keep [1, 4, 7, 8, 9, 43] [(1, i6 (h : Int)), (qt5j_30 z), (7, i6 (mostI y8)), (qt5j_28 c h), (qt5j_29 c h), (qt5j_20 y8 h)] ?_
         by_cases h29 : (((srcC c (h : Int) : Nat) : Int) : Int) = 1
         · refine q_rS 0 3 [] [[o0, oT, o0]] [ET ((srcC c (h : Int) : Nat) : Int) 1] [(1, i6 (h : Int)), (qt5j_30 z), (7, i6 (mostI y8)), (qt5j_29 c h), (qt5j_20 y8 h), (45, .bool true), (46, i6 (h : Int))] rfl ⟨et (by omega), trivial⟩ ?_
           refine l_call [] [] 67 #[i6 (h : Int)] (some 47) trivial ?_
           intro w30 hw30
           refine (at_calls w30 (h : Int)).mono ?_
           rintro e w31 ⟨rfl, hkw31⟩
           have hnw31 : w28.heap.size ≤ w31.heap.size := size_of hw30 hkw31
           refine ⟨_, _, rfl, hw30.keeps hkw31, ?_⟩
           refine l_keep [1, 4, 7, 9, 43, 45, 47] [(1, i6 (h : Int)), (qt5j_30 z), (7, i6 (mostI y8)), (qt5j_29 c h), (qt5j_20 y8 h), (45, .bool true), (qt5j_25 h)] ?_
           refine l_call [] [] 41 #[.bool true, i6 416, .agg #[i6 (h : Int), i6 (-1)]] (some 48) trivial ?_
           intro w32 hw32
           refine (unless_calls w32 (hL.ext (hw32.ext rfl)) true 416 (h : Int) (-1)).mono ?_
           rintro e w33 ⟨rfl, hkw33⟩
           have hnw33 : w31.heap.size ≤ w33.heap.size := size_of hw32 hkw33
           refine ⟨_, _, rfl, hw32.keeps hkw33, ?_⟩
           refine q_rS 0 2 [] [[o0, o0]] [] [(1, i6 (h : Int)), (qt5j_30 z), (qt5j_20 y8 h), (qt5j_23 h), (qt5j_27 c h), (50, i6 (mostI y8))] rfl trivial ?_
           refine l_call [] [] 42 #[i6 ((dstC c (h : Int) : Nat) : Int), i6 1, i6 (mostI y8)] (some 51) trivial ?_
           intro w34 hw34
           refine (within_calls w34 ((dstC c (h : Int) : Nat) : Int) 1 (mostI y8)).mono ?_
           rintro e w35 ⟨rfl, hkw35⟩
           have hnw35 : w33.heap.size ≤ w35.heap.size := size_of hw34 hkw35
           refine ⟨_, _, rfl, hw34.keeps hkw35, ?_⟩
           refine q_rS 0 1 [] [[o0]] [] [(qt5j_30 z), (qt5j_20 y8 h), (qt5j_23 h), (qt5j_19 c h y8), (52, i6 (h : Int))] rfl trivial ?_
           refine l_call [] [] 67 #[i6 (h : Int)] (some 53) trivial ?_
           intro w36 hw36
           refine (at_calls w36 (h : Int)).mono ?_
           rintro e w37 ⟨rfl, hkw37⟩
           have hnw37 : w35.heap.size ≤ w37.heap.size := size_of hw36 hkw37
           refine ⟨_, _, rfl, hw36.keeps hkw37, ?_⟩
           refine l_keep [4, 43, 48, 51, 53] [(qt5j_30 z), (qt5j_20 y8 h), (qt5j_23 h), (qt5j_19 c h y8), (qt5j_26 h)] ?_
           refine l_call [] [] 41 #[.bool (win ((dstC c (h : Int) : Nat) : Int) 1 (mostI y8)), i6 417, .agg #[i6 (h : Int), i6 (-1)]] (some 54) trivial ?_
           intro w38 hw38
           refine (unless_calls w38 (hL.ext (hw38.ext rfl)) (win ((dstC c (h : Int) : Nat) : Int) 1 (mostI y8)) 417 (h : Int) (-1)).mono ?_
           rintro e w39 ⟨rfl, hkw39⟩
           have hnw39 : w37.heap.size ≤ w39.heap.size := size_of hw38 hkw39
           refine ⟨_, _, rfl, hw38.keeps hkw39, ?_⟩
           refine q_r 0 1 [] [[o0]] [] [(qt5j_30 z), (55, .slice (some ⟨w39.heap.size, 0, none⟩) 3 3)] ⟨w, w39.heap.size + 1, [(old0 w), (qt5j_18 z c), (qt5j_16 z), (qt5j_17 z y8), (qt5j_3 w39 y8 h c)]⟩ rfl trivial ?_
           refine l_call [] [] 65 #[.slice (some ⟨w39.heap.size, 0, none⟩) 3 3] (some 56) trivial ?_
           intro w40 hw40
           refine (first_calls w40 (hL.ext (hw40.ext rfl)) ⟨some ⟨w39.heap.size, 0, none⟩, 3, [(unl (depB y8) 415 ⟨(h : Int), -1⟩), (unl true 416 ⟨(h : Int), -1⟩), (unl (win ((dstC c (h : Int) : Nat) : Int) 1 (mostI y8)) 417 ⟨(h : Int), -1⟩)]⟩ (slok_blk hw40 (i := 4) [(unl (depB y8) 415 ⟨(h : Int), -1⟩), (unl true 416 ⟨(h : Int), -1⟩), (unl (win ((dstC c (h : Int) : Nat) : Int) 1 (mostI y8)) 417 ⟨(h : Int), -1⟩)]) (show 3 ≤ 1000 by decide)).mono ?_
           rintro e w41 ⟨rfl, hkw41⟩
           have hnw41 : w39.heap.size + 1 ≤ w41.heap.size := size_of hw40 hkw41
           refine ⟨_, _, rfl, hw40.keeps hkw41, ?_⟩
           refine q_r 3 0 [] [[(an 3 2)]] [Qb (z + 1), Qb (z + 1), Qb (z + 1)] [(qt5j_30 z)] ⟨w, w41.heap.size, [(old0 w), (qt5j_18 z c), (qt5j_13 z y8 h c), (qt5j_17 z y8), (qt5j_3 w39 y8 h c)]⟩ rfl ⟨rfl, rfl, rfl, trivial⟩ ?_
           refine e_ret [.at 2, .at 2, .at 2] [Qb (z + 1), Qb (z + 1), Qb (z + 1)] (.agg #[i6 ((fstW [(unl (depB y8) 415 ⟨(h : Int), -1⟩), (unl true 416 ⟨(h : Int), -1⟩), (unl (win ((dstC c (h : Int) : Nat) : Int) 1 (mostI y8)) 417 ⟨(h : Int), -1⟩)]).e), i6 ((fstW [(unl (depB y8) 415 ⟨(h : Int), -1⟩), (unl true 416 ⟨(h : Int), -1⟩), (unl (win ((dstC c (h : Int) : Nat) : Int) 1 (mostI y8)) 417 ⟨(h : Int), -1⟩)]).where_.First), i6 ((fstW [(unl (depB y8) 415 ⟨(h : Int), -1⟩), (unl true 416 ⟨(h : Int), -1⟩), (unl (win ((dstC c (h : Int) : Nat) : Int) 1 (mostI y8)) 417 ⟨(h : Int), -1⟩)]).where_.Second)]) ⟨rfl, rfl, rfl, trivial⟩ ?_
           intro w42 hw42
           have e0 : chaC c h = y8 := hy8.symm
           have eC : chanQ c h = (fstW [(unl (depB y8) 415 ⟨(h : Int), -1⟩), (unl true 416 ⟨(h : Int), -1⟩), (unl (win ((dstC c (h : Int) : Nat) : Int) 1 (mostI y8)) 417 ⟨(h : Int), -1⟩)]) := by unfold chanQ; simp only [e0]; simp [h19, h23, h29]
           exact ⟨congrArg (fun t => Ending.returned (Value.agg (Tfound.arr t))) eC.symm, back0 hw42⟩
         · refine q_rS 0 3 [] [[o0, oF, o0]] [EF ((srcC c (h : Int) : Nat) : Int) 1] [(1, i6 (h : Int)), (qt5j_30 z), (7, i6 (mostI y8)), (qt5j_29 c h), (qt5j_20 y8 h), (45, .bool false), (46, i6 (h : Int))] rfl ⟨ef (by omega), trivial⟩ ?_
           refine l_call [] [] 67 #[i6 (h : Int)] (some 47) trivial ?_
           intro w43 hw43
           refine (at_calls w43 (h : Int)).mono ?_
           rintro e w44 ⟨rfl, hkw44⟩
           have hnw44 : w28.heap.size ≤ w44.heap.size := size_of hw43 hkw44
           refine ⟨_, _, rfl, hw43.keeps hkw44, ?_⟩
           refine l_keep [1, 4, 7, 9, 43, 45, 47] [(1, i6 (h : Int)), (qt5j_30 z), (7, i6 (mostI y8)), (qt5j_29 c h), (qt5j_20 y8 h), (45, .bool false), (qt5j_25 h)] ?_
           refine l_call [] [] 41 #[.bool false, i6 416, .agg #[i6 (h : Int), i6 (-1)]] (some 48) trivial ?_
           intro w45 hw45
           refine (unless_calls w45 (hL.ext (hw45.ext rfl)) false 416 (h : Int) (-1)).mono ?_
           rintro e w46 ⟨rfl, hkw46⟩
           have hnw46 : w44.heap.size ≤ w46.heap.size := size_of hw45 hkw46
           refine ⟨_, _, rfl, hw45.keeps hkw46, ?_⟩
           refine q_rS 0 2 [] [[o0, o0]] [] [(1, i6 (h : Int)), (qt5j_30 z), (qt5j_20 y8 h), (qt5j_21 h), (qt5j_27 c h), (50, i6 (mostI y8))] rfl trivial ?_
           refine l_call [] [] 42 #[i6 ((dstC c (h : Int) : Nat) : Int), i6 1, i6 (mostI y8)] (some 51) trivial ?_
           intro w47 hw47
           refine (within_calls w47 ((dstC c (h : Int) : Nat) : Int) 1 (mostI y8)).mono ?_
           rintro e w48 ⟨rfl, hkw48⟩
           have hnw48 : w46.heap.size ≤ w48.heap.size := size_of hw47 hkw48
           refine ⟨_, _, rfl, hw47.keeps hkw48, ?_⟩
           refine q_rS 0 1 [] [[o0]] [] [(qt5j_30 z), (qt5j_20 y8 h), (qt5j_21 h), (qt5j_19 c h y8), (52, i6 (h : Int))] rfl trivial ?_
           refine l_call [] [] 67 #[i6 (h : Int)] (some 53) trivial ?_
           intro w49 hw49
           refine (at_calls w49 (h : Int)).mono ?_
           rintro e w50 ⟨rfl, hkw50⟩
           have hnw50 : w48.heap.size ≤ w50.heap.size := size_of hw49 hkw50
           refine ⟨_, _, rfl, hw49.keeps hkw50, ?_⟩
           refine l_keep [4, 43, 48, 51, 53] [(qt5j_30 z), (qt5j_20 y8 h), (qt5j_21 h), (qt5j_19 c h y8), (qt5j_26 h)] ?_
           refine l_call [] [] 41 #[.bool (win ((dstC c (h : Int) : Nat) : Int) 1 (mostI y8)), i6 417, .agg #[i6 (h : Int), i6 (-1)]] (some 54) trivial ?_
           intro w51 hw51
           refine (unless_calls w51 (hL.ext (hw51.ext rfl)) (win ((dstC c (h : Int) : Nat) : Int) 1 (mostI y8)) 417 (h : Int) (-1)).mono ?_
           rintro e w52 ⟨rfl, hkw52⟩
           have hnw52 : w50.heap.size ≤ w52.heap.size := size_of hw51 hkw52
           refine ⟨_, _, rfl, hw51.keeps hkw52, ?_⟩
           refine q_r 0 1 [] [[o0]] [] [(qt5j_30 z), (55, .slice (some ⟨w52.heap.size, 0, none⟩) 3 3)] ⟨w, w52.heap.size + 1, [(old0 w), (qt5j_18 z c), (qt5j_16 z), (qt5j_17 z y8), (qt5j_1 w52 y8 h c)]⟩ rfl trivial ?_
           refine l_call [] [] 65 #[.slice (some ⟨w52.heap.size, 0, none⟩) 3 3] (some 56) trivial ?_
           intro w53 hw53
           refine (first_calls w53 (hL.ext (hw53.ext rfl)) ⟨some ⟨w52.heap.size, 0, none⟩, 3, [(unl (depB y8) 415 ⟨(h : Int), -1⟩), (unl false 416 ⟨(h : Int), -1⟩), (unl (win ((dstC c (h : Int) : Nat) : Int) 1 (mostI y8)) 417 ⟨(h : Int), -1⟩)]⟩ (slok_blk hw53 (i := 4) [(unl (depB y8) 415 ⟨(h : Int), -1⟩), (unl false 416 ⟨(h : Int), -1⟩), (unl (win ((dstC c (h : Int) : Nat) : Int) 1 (mostI y8)) 417 ⟨(h : Int), -1⟩)]) (show 3 ≤ 1000 by decide)).mono ?_
           rintro e w54 ⟨rfl, hkw54⟩
           have hnw54 : w52.heap.size + 1 ≤ w54.heap.size := size_of hw53 hkw54
           refine ⟨_, _, rfl, hw53.keeps hkw54, ?_⟩
           refine q_r 3 0 [] [[(an 3 2)]] [Qb (z + 1), Qb (z + 1), Qb (z + 1)] [(qt5j_30 z)] ⟨w, w54.heap.size, [(old0 w), (qt5j_18 z c), (qt5j_12 z y8 h c), (qt5j_17 z y8), (qt5j_1 w52 y8 h c)]⟩ rfl ⟨rfl, rfl, rfl, trivial⟩ ?_
           refine e_ret [.at 2, .at 2, .at 2] [Qb (z + 1), Qb (z + 1), Qb (z + 1)] (.agg #[i6 ((fstW [(unl (depB y8) 415 ⟨(h : Int), -1⟩), (unl false 416 ⟨(h : Int), -1⟩), (unl (win ((dstC c (h : Int) : Nat) : Int) 1 (mostI y8)) 417 ⟨(h : Int), -1⟩)]).e), i6 ((fstW [(unl (depB y8) 415 ⟨(h : Int), -1⟩), (unl false 416 ⟨(h : Int), -1⟩), (unl (win ((dstC c (h : Int) : Nat) : Int) 1 (mostI y8)) 417 ⟨(h : Int), -1⟩)]).where_.First), i6 ((fstW [(unl (depB y8) 415 ⟨(h : Int), -1⟩), (unl false 416 ⟨(h : Int), -1⟩), (unl (win ((dstC c (h : Int) : Nat) : Int) 1 (mostI y8)) 417 ⟨(h : Int), -1⟩)]).where_.Second)]) ⟨rfl, rfl, rfl, trivial⟩ ?_
           intro w55 hw55
           have e0 : chaC c h = y8 := hy8.symm
           have eC : chanQ c h = (fstW [(unl (depB y8) 415 ⟨(h : Int), -1⟩), (unl false 416 ⟨(h : Int), -1⟩), (unl (win ((dstC c (h : Int) : Nat) : Int) 1 (mostI y8)) 417 ⟨(h : Int), -1⟩)]) := by unfold chanQ; simp only [e0]; simp [h19, h23, h29]
           exact ⟨congrArg (fun t => Ending.returned (Value.agg (Tfound.arr t))) eC.symm, back0 hw55⟩
       · have hd56 := win_no h23
         refine q_rS 0 5 [] [[o0, (ov (.bool false)), o0, o0]] [Value.bool (win y8.Words 1 16) = Value.bool false] [(1, i6 (h : Int)), (qt5j_30 z), (7, i6 (mostI y8)), (qt5j_28 c h), (qt5j_29 c h), (40, .bool false), (41, i6 (h : Int))] rfl ⟨(congrArg Value.bool (Bool.eq_false_iff.2 h23)), trivial⟩ ?_
         refine l_call [] [] 67 #[i6 (h : Int)] (some 42) trivial ?_
         intro w57 hw57
         refine (at_calls w57 (h : Int)).mono ?_
         rintro e w58 ⟨rfl, hkw58⟩
         have hnw58 : w22.heap.size ≤ w58.heap.size := size_of hw57 hkw58
         refine ⟨_, _, rfl, hw57.keeps hkw58, ?_⟩
         refine l_keep [1, 4, 7, 8, 9, 40, 42] [(1, i6 (h : Int)), (qt5j_30 z), (7, i6 (mostI y8)), (qt5j_28 c h), (qt5j_29 c h), (40, .bool false), (qt5j_24 h)] ?_
         refine l_call [] [] 41 #[.bool false, i6 415, .agg #[i6 (h : Int), i6 (-1)]] (some 43) trivial ?_
         intro w59 hw59
         refine (unless_calls w59 (hL.ext (hw59.ext rfl)) false 415 (h : Int) (-1)).mono ?_
         rintro e w60 ⟨rfl, hkw60⟩
         have hnw60 : w58.heap.size ≤ w60.heap.size := size_of hw59 hkw60
         refine ⟨_, _, rfl, hw59.keeps hkw60, ?_⟩
         refine l_keep [1, 4, 7, 8, 9, 43] [(1, i6 (h : Int)), (qt5j_30 z), (7, i6 (mostI y8)), (qt5j_28 c h), (qt5j_29 c h), (qt5j_22 h)] ?_
         by_cases h61 : (((srcC c (h : Int) : Nat) : Int) : Int) = 1
         · refine q_rS 0 3 [] [[o0, oT, o0]] [ET ((srcC c (h : Int) : Nat) : Int) 1] [(1, i6 (h : Int)), (qt5j_30 z), (7, i6 (mostI y8)), (qt5j_29 c h), (qt5j_22 h), (45, .bool true), (46, i6 (h : Int))] rfl ⟨et (by omega), trivial⟩ ?_
           refine l_call [] [] 67 #[i6 (h : Int)] (some 47) trivial ?_
           intro w62 hw62
           refine (at_calls w62 (h : Int)).mono ?_
           rintro e w63 ⟨rfl, hkw63⟩
           have hnw63 : w60.heap.size ≤ w63.heap.size := size_of hw62 hkw63
           refine ⟨_, _, rfl, hw62.keeps hkw63, ?_⟩
           refine l_keep [1, 4, 7, 9, 43, 45, 47] [(1, i6 (h : Int)), (qt5j_30 z), (7, i6 (mostI y8)), (qt5j_29 c h), (qt5j_22 h), (45, .bool true), (qt5j_25 h)] ?_
           refine l_call [] [] 41 #[.bool true, i6 416, .agg #[i6 (h : Int), i6 (-1)]] (some 48) trivial ?_
           intro w64 hw64
           refine (unless_calls w64 (hL.ext (hw64.ext rfl)) true 416 (h : Int) (-1)).mono ?_
           rintro e w65 ⟨rfl, hkw65⟩
           have hnw65 : w63.heap.size ≤ w65.heap.size := size_of hw64 hkw65
           refine ⟨_, _, rfl, hw64.keeps hkw65, ?_⟩
           refine q_rS 0 2 [] [[o0, o0]] [] [(1, i6 (h : Int)), (qt5j_30 z), (qt5j_22 h), (qt5j_23 h), (qt5j_27 c h), (50, i6 (mostI y8))] rfl trivial ?_
           refine l_call [] [] 42 #[i6 ((dstC c (h : Int) : Nat) : Int), i6 1, i6 (mostI y8)] (some 51) trivial ?_
           intro w66 hw66
           refine (within_calls w66 ((dstC c (h : Int) : Nat) : Int) 1 (mostI y8)).mono ?_
           rintro e w67 ⟨rfl, hkw67⟩
           have hnw67 : w65.heap.size ≤ w67.heap.size := size_of hw66 hkw67
           refine ⟨_, _, rfl, hw66.keeps hkw67, ?_⟩
           refine q_rS 0 1 [] [[o0]] [] [(qt5j_30 z), (qt5j_22 h), (qt5j_23 h), (qt5j_19 c h y8), (52, i6 (h : Int))] rfl trivial ?_
           refine l_call [] [] 67 #[i6 (h : Int)] (some 53) trivial ?_
           intro w68 hw68
           refine (at_calls w68 (h : Int)).mono ?_
           rintro e w69 ⟨rfl, hkw69⟩
           have hnw69 : w67.heap.size ≤ w69.heap.size := size_of hw68 hkw69
           refine ⟨_, _, rfl, hw68.keeps hkw69, ?_⟩
           refine l_keep [4, 43, 48, 51, 53] [(qt5j_30 z), (qt5j_22 h), (qt5j_23 h), (qt5j_19 c h y8), (qt5j_26 h)] ?_
           refine l_call [] [] 41 #[.bool (win ((dstC c (h : Int) : Nat) : Int) 1 (mostI y8)), i6 417, .agg #[i6 (h : Int), i6 (-1)]] (some 54) trivial ?_
           intro w70 hw70
           refine (unless_calls w70 (hL.ext (hw70.ext rfl)) (win ((dstC c (h : Int) : Nat) : Int) 1 (mostI y8)) 417 (h : Int) (-1)).mono ?_
           rintro e w71 ⟨rfl, hkw71⟩
           have hnw71 : w69.heap.size ≤ w71.heap.size := size_of hw70 hkw71
           refine ⟨_, _, rfl, hw70.keeps hkw71, ?_⟩
           refine q_r 0 1 [] [[o0]] [] [(qt5j_30 z), (55, .slice (some ⟨w71.heap.size, 0, none⟩) 3 3)] ⟨w, w71.heap.size + 1, [(old0 w), (qt5j_18 z c), (qt5j_16 z), (qt5j_17 z y8), (qt5j_11 w71 h c y8)]⟩ rfl trivial ?_
           refine l_call [] [] 65 #[.slice (some ⟨w71.heap.size, 0, none⟩) 3 3] (some 56) trivial ?_
           intro w72 hw72
           refine (first_calls w72 (hL.ext (hw72.ext rfl)) ⟨some ⟨w71.heap.size, 0, none⟩, 3, [(unl false 415 ⟨(h : Int), -1⟩), (unl true 416 ⟨(h : Int), -1⟩), (unl (win ((dstC c (h : Int) : Nat) : Int) 1 (mostI y8)) 417 ⟨(h : Int), -1⟩)]⟩ (slok_blk hw72 (i := 4) [(unl false 415 ⟨(h : Int), -1⟩), (unl true 416 ⟨(h : Int), -1⟩), (unl (win ((dstC c (h : Int) : Nat) : Int) 1 (mostI y8)) 417 ⟨(h : Int), -1⟩)]) (show 3 ≤ 1000 by decide)).mono ?_
           rintro e w73 ⟨rfl, hkw73⟩
           have hnw73 : w71.heap.size + 1 ≤ w73.heap.size := size_of hw72 hkw73
           refine ⟨_, _, rfl, hw72.keeps hkw73, ?_⟩
           refine q_r 3 0 [] [[(an 3 2)]] [Qb (z + 1), Qb (z + 1), Qb (z + 1)] [(qt5j_30 z)] ⟨w, w73.heap.size, [(old0 w), (qt5j_18 z c), (qt5j_15 z h c y8), (qt5j_17 z y8), (qt5j_11 w71 h c y8)]⟩ rfl ⟨rfl, rfl, rfl, trivial⟩ ?_
           refine e_ret [.at 2, .at 2, .at 2] [Qb (z + 1), Qb (z + 1), Qb (z + 1)] (.agg #[i6 ((fstW [(unl false 415 ⟨(h : Int), -1⟩), (unl true 416 ⟨(h : Int), -1⟩), (unl (win ((dstC c (h : Int) : Nat) : Int) 1 (mostI y8)) 417 ⟨(h : Int), -1⟩)]).e), i6 ((fstW [(unl false 415 ⟨(h : Int), -1⟩), (unl true 416 ⟨(h : Int), -1⟩), (unl (win ((dstC c (h : Int) : Nat) : Int) 1 (mostI y8)) 417 ⟨(h : Int), -1⟩)]).where_.First), i6 ((fstW [(unl false 415 ⟨(h : Int), -1⟩), (unl true 416 ⟨(h : Int), -1⟩), (unl (win ((dstC c (h : Int) : Nat) : Int) 1 (mostI y8)) 417 ⟨(h : Int), -1⟩)]).where_.Second)]) ⟨rfl, rfl, rfl, trivial⟩ ?_
           intro w74 hw74
           have e0 : chaC c h = y8 := hy8.symm
           have eC : chanQ c h = (fstW [(unl false 415 ⟨(h : Int), -1⟩), (unl true 416 ⟨(h : Int), -1⟩), (unl (win ((dstC c (h : Int) : Nat) : Int) 1 (mostI y8)) 417 ⟨(h : Int), -1⟩)]) := by unfold chanQ; simp only [e0]; simp [h19, h23, h61]
           exact ⟨congrArg (fun t => Ending.returned (Value.agg (Tfound.arr t))) eC.symm, back0 hw74⟩
         · refine q_rS 0 3 [] [[o0, oF, o0]] [EF ((srcC c (h : Int) : Nat) : Int) 1] [(1, i6 (h : Int)), (qt5j_30 z), (7, i6 (mostI y8)), (qt5j_29 c h), (qt5j_22 h), (45, .bool false), (46, i6 (h : Int))] rfl ⟨ef (by omega), trivial⟩ ?_
           refine l_call [] [] 67 #[i6 (h : Int)] (some 47) trivial ?_
           intro w75 hw75
           refine (at_calls w75 (h : Int)).mono ?_
           rintro e w76 ⟨rfl, hkw76⟩
           have hnw76 : w60.heap.size ≤ w76.heap.size := size_of hw75 hkw76
           refine ⟨_, _, rfl, hw75.keeps hkw76, ?_⟩
           refine l_keep [1, 4, 7, 9, 43, 45, 47] [(1, i6 (h : Int)), (qt5j_30 z), (7, i6 (mostI y8)), (qt5j_29 c h), (qt5j_22 h), (45, .bool false), (qt5j_25 h)] ?_
           refine l_call [] [] 41 #[.bool false, i6 416, .agg #[i6 (h : Int), i6 (-1)]] (some 48) trivial ?_
           intro w77 hw77
           refine (unless_calls w77 (hL.ext (hw77.ext rfl)) false 416 (h : Int) (-1)).mono ?_
           rintro e w78 ⟨rfl, hkw78⟩
           have hnw78 : w76.heap.size ≤ w78.heap.size := size_of hw77 hkw78
           refine ⟨_, _, rfl, hw77.keeps hkw78, ?_⟩
           refine q_rS 0 2 [] [[o0, o0]] [] [(1, i6 (h : Int)), (qt5j_30 z), (qt5j_22 h), (qt5j_21 h), (qt5j_27 c h), (50, i6 (mostI y8))] rfl trivial ?_
           refine l_call [] [] 42 #[i6 ((dstC c (h : Int) : Nat) : Int), i6 1, i6 (mostI y8)] (some 51) trivial ?_
           intro w79 hw79
           refine (within_calls w79 ((dstC c (h : Int) : Nat) : Int) 1 (mostI y8)).mono ?_
           rintro e w80 ⟨rfl, hkw80⟩
           have hnw80 : w78.heap.size ≤ w80.heap.size := size_of hw79 hkw80
           refine ⟨_, _, rfl, hw79.keeps hkw80, ?_⟩
           refine q_rS 0 1 [] [[o0]] [] [(qt5j_30 z), (qt5j_22 h), (qt5j_21 h), (qt5j_19 c h y8), (52, i6 (h : Int))] rfl trivial ?_
           refine l_call [] [] 67 #[i6 (h : Int)] (some 53) trivial ?_
           intro w81 hw81
           refine (at_calls w81 (h : Int)).mono ?_
           rintro e w82 ⟨rfl, hkw82⟩
           have hnw82 : w80.heap.size ≤ w82.heap.size := size_of hw81 hkw82
           refine ⟨_, _, rfl, hw81.keeps hkw82, ?_⟩
           refine l_keep [4, 43, 48, 51, 53] [(qt5j_30 z), (qt5j_22 h), (qt5j_21 h), (qt5j_19 c h y8), (qt5j_26 h)] ?_
           refine l_call [] [] 41 #[.bool (win ((dstC c (h : Int) : Nat) : Int) 1 (mostI y8)), i6 417, .agg #[i6 (h : Int), i6 (-1)]] (some 54) trivial ?_
           intro w83 hw83
           refine (unless_calls w83 (hL.ext (hw83.ext rfl)) (win ((dstC c (h : Int) : Nat) : Int) 1 (mostI y8)) 417 (h : Int) (-1)).mono ?_
           rintro e w84 ⟨rfl, hkw84⟩
           have hnw84 : w82.heap.size ≤ w84.heap.size := size_of hw83 hkw84
           refine ⟨_, _, rfl, hw83.keeps hkw84, ?_⟩
           refine q_r 0 1 [] [[o0]] [] [(qt5j_30 z), (55, .slice (some ⟨w84.heap.size, 0, none⟩) 3 3)] ⟨w, w84.heap.size + 1, [(old0 w), (qt5j_18 z c), (qt5j_16 z), (qt5j_17 z y8), (qt5j_7 w84 h c y8)]⟩ rfl trivial ?_
           refine l_call [] [] 65 #[.slice (some ⟨w84.heap.size, 0, none⟩) 3 3] (some 56) trivial ?_
           intro w85 hw85
           refine (first_calls w85 (hL.ext (hw85.ext rfl)) ⟨some ⟨w84.heap.size, 0, none⟩, 3, [(unl false 415 ⟨(h : Int), -1⟩), (unl false 416 ⟨(h : Int), -1⟩), (unl (win ((dstC c (h : Int) : Nat) : Int) 1 (mostI y8)) 417 ⟨(h : Int), -1⟩)]⟩ (slok_blk hw85 (i := 4) [(unl false 415 ⟨(h : Int), -1⟩), (unl false 416 ⟨(h : Int), -1⟩), (unl (win ((dstC c (h : Int) : Nat) : Int) 1 (mostI y8)) 417 ⟨(h : Int), -1⟩)]) (show 3 ≤ 1000 by decide)).mono ?_
           rintro e w86 ⟨rfl, hkw86⟩
           have hnw86 : w84.heap.size + 1 ≤ w86.heap.size := size_of hw85 hkw86
           refine ⟨_, _, rfl, hw85.keeps hkw86, ?_⟩
           refine q_r 3 0 [] [[(an 3 2)]] [Qb (z + 1), Qb (z + 1), Qb (z + 1)] [(qt5j_30 z)] ⟨w, w86.heap.size, [(old0 w), (qt5j_18 z c), (qt5j_14 z h c y8), (qt5j_17 z y8), (qt5j_7 w84 h c y8)]⟩ rfl ⟨rfl, rfl, rfl, trivial⟩ ?_
           refine e_ret [.at 2, .at 2, .at 2] [Qb (z + 1), Qb (z + 1), Qb (z + 1)] (.agg #[i6 ((fstW [(unl false 415 ⟨(h : Int), -1⟩), (unl false 416 ⟨(h : Int), -1⟩), (unl (win ((dstC c (h : Int) : Nat) : Int) 1 (mostI y8)) 417 ⟨(h : Int), -1⟩)]).e), i6 ((fstW [(unl false 415 ⟨(h : Int), -1⟩), (unl false 416 ⟨(h : Int), -1⟩), (unl (win ((dstC c (h : Int) : Nat) : Int) 1 (mostI y8)) 417 ⟨(h : Int), -1⟩)]).where_.First), i6 ((fstW [(unl false 415 ⟨(h : Int), -1⟩), (unl false 416 ⟨(h : Int), -1⟩), (unl (win ((dstC c (h : Int) : Nat) : Int) 1 (mostI y8)) 417 ⟨(h : Int), -1⟩)]).where_.Second)]) ⟨rfl, rfl, rfl, trivial⟩ ?_
           intro w87 hw87
           have e0 : chaC c h = y8 := hy8.symm
           have eC : chanQ c h = (fstW [(unl false 415 ⟨(h : Int), -1⟩), (unl false 416 ⟨(h : Int), -1⟩), (unl (win ((dstC c (h : Int) : Nat) : Int) 1 (mostI y8)) 417 ⟨(h : Int), -1⟩)]) := by unfold chanQ; simp only [e0]; simp [h19, h23, h61]
           exact ⟨congrArg (fun t => Ending.returned (Value.agg (Tfound.arr t))) eC.symm, back0 hw87⟩
     · have hd88 := win_no h19
       refine q_rS 0 9 [] [[(ov (.bool false)), o0, o0, o0, o0]] [Value.bool (win y8.Kind 1 2) = Value.bool false] [(1, i6 (h : Int)), (qt5j_30 z), (7, i6 (mostI y8)), (qt5j_28 c h), (qt5j_29 c h), (40, .bool false), (41, i6 (h : Int))] rfl ⟨(congrArg Value.bool (Bool.eq_false_iff.2 h19)), trivial⟩ ?_
       refine l_call [] [] 67 #[i6 (h : Int)] (some 42) trivial ?_
       intro w89 hw89
       refine (at_calls w89 (h : Int)).mono ?_
       rintro e w90 ⟨rfl, hkw90⟩
       have hnw90 : w18.heap.size ≤ w90.heap.size := size_of hw89 hkw90
       refine ⟨_, _, rfl, hw89.keeps hkw90, ?_⟩
       refine l_keep [1, 4, 7, 8, 9, 40, 42] [(1, i6 (h : Int)), (qt5j_30 z), (7, i6 (mostI y8)), (qt5j_28 c h), (qt5j_29 c h), (40, .bool false), (qt5j_24 h)] ?_
       refine l_call [] [] 41 #[.bool false, i6 415, .agg #[i6 (h : Int), i6 (-1)]] (some 43) trivial ?_
       intro w91 hw91
       refine (unless_calls w91 (hL.ext (hw91.ext rfl)) false 415 (h : Int) (-1)).mono ?_
       rintro e w92 ⟨rfl, hkw92⟩
       have hnw92 : w90.heap.size ≤ w92.heap.size := size_of hw91 hkw92
       refine ⟨_, _, rfl, hw91.keeps hkw92, ?_⟩
       refine l_keep [1, 4, 7, 8, 9, 43] [(1, i6 (h : Int)), (qt5j_30 z), (7, i6 (mostI y8)), (qt5j_28 c h), (qt5j_29 c h), (qt5j_22 h)] ?_
       by_cases h93 : (((srcC c (h : Int) : Nat) : Int) : Int) = 1
       · refine q_rS 0 3 [] [[o0, oT, o0]] [ET ((srcC c (h : Int) : Nat) : Int) 1] [(1, i6 (h : Int)), (qt5j_30 z), (7, i6 (mostI y8)), (qt5j_29 c h), (qt5j_22 h), (45, .bool true), (46, i6 (h : Int))] rfl ⟨et (by omega), trivial⟩ ?_
         refine l_call [] [] 67 #[i6 (h : Int)] (some 47) trivial ?_
         intro w94 hw94
         refine (at_calls w94 (h : Int)).mono ?_
         rintro e w95 ⟨rfl, hkw95⟩
         have hnw95 : w92.heap.size ≤ w95.heap.size := size_of hw94 hkw95
         refine ⟨_, _, rfl, hw94.keeps hkw95, ?_⟩
         refine l_keep [1, 4, 7, 9, 43, 45, 47] [(1, i6 (h : Int)), (qt5j_30 z), (7, i6 (mostI y8)), (qt5j_29 c h), (qt5j_22 h), (45, .bool true), (qt5j_25 h)] ?_
         refine l_call [] [] 41 #[.bool true, i6 416, .agg #[i6 (h : Int), i6 (-1)]] (some 48) trivial ?_
         intro w96 hw96
         refine (unless_calls w96 (hL.ext (hw96.ext rfl)) true 416 (h : Int) (-1)).mono ?_
         rintro e w97 ⟨rfl, hkw97⟩
         have hnw97 : w95.heap.size ≤ w97.heap.size := size_of hw96 hkw97
         refine ⟨_, _, rfl, hw96.keeps hkw97, ?_⟩
         refine q_rS 0 2 [] [[o0, o0]] [] [(1, i6 (h : Int)), (qt5j_30 z), (qt5j_22 h), (qt5j_23 h), (qt5j_27 c h), (50, i6 (mostI y8))] rfl trivial ?_
         refine l_call [] [] 42 #[i6 ((dstC c (h : Int) : Nat) : Int), i6 1, i6 (mostI y8)] (some 51) trivial ?_
         intro w98 hw98
         refine (within_calls w98 ((dstC c (h : Int) : Nat) : Int) 1 (mostI y8)).mono ?_
         rintro e w99 ⟨rfl, hkw99⟩
         have hnw99 : w97.heap.size ≤ w99.heap.size := size_of hw98 hkw99
         refine ⟨_, _, rfl, hw98.keeps hkw99, ?_⟩
         refine q_rS 0 1 [] [[o0]] [] [(qt5j_30 z), (qt5j_22 h), (qt5j_23 h), (qt5j_19 c h y8), (52, i6 (h : Int))] rfl trivial ?_
         refine l_call [] [] 67 #[i6 (h : Int)] (some 53) trivial ?_
         intro w100 hw100
         refine (at_calls w100 (h : Int)).mono ?_
         rintro e w101 ⟨rfl, hkw101⟩
         have hnw101 : w99.heap.size ≤ w101.heap.size := size_of hw100 hkw101
         refine ⟨_, _, rfl, hw100.keeps hkw101, ?_⟩
         refine l_keep [4, 43, 48, 51, 53] [(qt5j_30 z), (qt5j_22 h), (qt5j_23 h), (qt5j_19 c h y8), (qt5j_26 h)] ?_
         refine l_call [] [] 41 #[.bool (win ((dstC c (h : Int) : Nat) : Int) 1 (mostI y8)), i6 417, .agg #[i6 (h : Int), i6 (-1)]] (some 54) trivial ?_
         intro w102 hw102
         refine (unless_calls w102 (hL.ext (hw102.ext rfl)) (win ((dstC c (h : Int) : Nat) : Int) 1 (mostI y8)) 417 (h : Int) (-1)).mono ?_
         rintro e w103 ⟨rfl, hkw103⟩
         have hnw103 : w101.heap.size ≤ w103.heap.size := size_of hw102 hkw103
         refine ⟨_, _, rfl, hw102.keeps hkw103, ?_⟩
         refine q_r 0 1 [] [[o0]] [] [(qt5j_30 z), (55, .slice (some ⟨w103.heap.size, 0, none⟩) 3 3)] ⟨w, w103.heap.size + 1, [(old0 w), (qt5j_18 z c), (qt5j_16 z), (qt5j_17 z y8), (qt5j_8 w103 h c y8)]⟩ rfl trivial ?_
         refine l_call [] [] 65 #[.slice (some ⟨w103.heap.size, 0, none⟩) 3 3] (some 56) trivial ?_
         intro w104 hw104
         refine (first_calls w104 (hL.ext (hw104.ext rfl)) ⟨some ⟨w103.heap.size, 0, none⟩, 3, [(unl false 415 ⟨(h : Int), -1⟩), (unl true 416 ⟨(h : Int), -1⟩), (unl (win ((dstC c (h : Int) : Nat) : Int) 1 (mostI y8)) 417 ⟨(h : Int), -1⟩)]⟩ (slok_blk hw104 (i := 4) [(unl false 415 ⟨(h : Int), -1⟩), (unl true 416 ⟨(h : Int), -1⟩), (unl (win ((dstC c (h : Int) : Nat) : Int) 1 (mostI y8)) 417 ⟨(h : Int), -1⟩)]) (show 3 ≤ 1000 by decide)).mono ?_
         rintro e w105 ⟨rfl, hkw105⟩
         have hnw105 : w103.heap.size + 1 ≤ w105.heap.size := size_of hw104 hkw105
         refine ⟨_, _, rfl, hw104.keeps hkw105, ?_⟩
         refine q_r 3 0 [] [[(an 3 2)]] [Qb (z + 1), Qb (z + 1), Qb (z + 1)] [(qt5j_30 z)] ⟨w, w105.heap.size, [(old0 w), (qt5j_18 z c), (qt5j_15 z h c y8), (qt5j_17 z y8), (qt5j_8 w103 h c y8)]⟩ rfl ⟨rfl, rfl, rfl, trivial⟩ ?_
         refine e_ret [.at 2, .at 2, .at 2] [Qb (z + 1), Qb (z + 1), Qb (z + 1)] (.agg #[i6 ((fstW [(unl false 415 ⟨(h : Int), -1⟩), (unl true 416 ⟨(h : Int), -1⟩), (unl (win ((dstC c (h : Int) : Nat) : Int) 1 (mostI y8)) 417 ⟨(h : Int), -1⟩)]).e), i6 ((fstW [(unl false 415 ⟨(h : Int), -1⟩), (unl true 416 ⟨(h : Int), -1⟩), (unl (win ((dstC c (h : Int) : Nat) : Int) 1 (mostI y8)) 417 ⟨(h : Int), -1⟩)]).where_.First), i6 ((fstW [(unl false 415 ⟨(h : Int), -1⟩), (unl true 416 ⟨(h : Int), -1⟩), (unl (win ((dstC c (h : Int) : Nat) : Int) 1 (mostI y8)) 417 ⟨(h : Int), -1⟩)]).where_.Second)]) ⟨rfl, rfl, rfl, trivial⟩ ?_
         intro w106 hw106
         have e0 : chaC c h = y8 := hy8.symm
         have eC : chanQ c h = (fstW [(unl false 415 ⟨(h : Int), -1⟩), (unl true 416 ⟨(h : Int), -1⟩), (unl (win ((dstC c (h : Int) : Nat) : Int) 1 (mostI y8)) 417 ⟨(h : Int), -1⟩)]) := by unfold chanQ; simp only [e0]; simp [h19, h93]
         exact ⟨congrArg (fun t => Ending.returned (Value.agg (Tfound.arr t))) eC.symm, back0 hw106⟩
       · refine q_rS 0 3 [] [[o0, oF, o0]] [EF ((srcC c (h : Int) : Nat) : Int) 1] [(1, i6 (h : Int)), (qt5j_30 z), (7, i6 (mostI y8)), (qt5j_29 c h), (qt5j_22 h), (45, .bool false), (46, i6 (h : Int))] rfl ⟨ef (by omega), trivial⟩ ?_
         refine l_call [] [] 67 #[i6 (h : Int)] (some 47) trivial ?_
         intro w107 hw107
         refine (at_calls w107 (h : Int)).mono ?_
         rintro e w108 ⟨rfl, hkw108⟩
         have hnw108 : w92.heap.size ≤ w108.heap.size := size_of hw107 hkw108
         refine ⟨_, _, rfl, hw107.keeps hkw108, ?_⟩
         refine l_keep [1, 4, 7, 9, 43, 45, 47] [(1, i6 (h : Int)), (qt5j_30 z), (7, i6 (mostI y8)), (qt5j_29 c h), (qt5j_22 h), (45, .bool false), (qt5j_25 h)] ?_
         refine l_call [] [] 41 #[.bool false, i6 416, .agg #[i6 (h : Int), i6 (-1)]] (some 48) trivial ?_
         intro w109 hw109
         refine (unless_calls w109 (hL.ext (hw109.ext rfl)) false 416 (h : Int) (-1)).mono ?_
         rintro e w110 ⟨rfl, hkw110⟩
         have hnw110 : w108.heap.size ≤ w110.heap.size := size_of hw109 hkw110
         refine ⟨_, _, rfl, hw109.keeps hkw110, ?_⟩
         refine q_rS 0 2 [] [[o0, o0]] [] [(1, i6 (h : Int)), (qt5j_30 z), (qt5j_22 h), (qt5j_21 h), (qt5j_27 c h), (50, i6 (mostI y8))] rfl trivial ?_
         refine l_call [] [] 42 #[i6 ((dstC c (h : Int) : Nat) : Int), i6 1, i6 (mostI y8)] (some 51) trivial ?_
         intro w111 hw111
         refine (within_calls w111 ((dstC c (h : Int) : Nat) : Int) 1 (mostI y8)).mono ?_
         rintro e w112 ⟨rfl, hkw112⟩
         have hnw112 : w110.heap.size ≤ w112.heap.size := size_of hw111 hkw112
         refine ⟨_, _, rfl, hw111.keeps hkw112, ?_⟩
         refine q_rS 0 1 [] [[o0]] [] [(qt5j_30 z), (qt5j_22 h), (qt5j_21 h), (qt5j_19 c h y8), (52, i6 (h : Int))] rfl trivial ?_
         refine l_call [] [] 67 #[i6 (h : Int)] (some 53) trivial ?_
         intro w113 hw113
         refine (at_calls w113 (h : Int)).mono ?_
         rintro e w114 ⟨rfl, hkw114⟩
         have hnw114 : w112.heap.size ≤ w114.heap.size := size_of hw113 hkw114
         refine ⟨_, _, rfl, hw113.keeps hkw114, ?_⟩
         refine l_keep [4, 43, 48, 51, 53] [(qt5j_30 z), (qt5j_22 h), (qt5j_21 h), (qt5j_19 c h y8), (qt5j_26 h)] ?_
         refine l_call [] [] 41 #[.bool (win ((dstC c (h : Int) : Nat) : Int) 1 (mostI y8)), i6 417, .agg #[i6 (h : Int), i6 (-1)]] (some 54) trivial ?_
         intro w115 hw115
         refine (unless_calls w115 (hL.ext (hw115.ext rfl)) (win ((dstC c (h : Int) : Nat) : Int) 1 (mostI y8)) 417 (h : Int) (-1)).mono ?_
         rintro e w116 ⟨rfl, hkw116⟩
         have hnw116 : w114.heap.size ≤ w116.heap.size := size_of hw115 hkw116
         refine ⟨_, _, rfl, hw115.keeps hkw116, ?_⟩
         refine q_r 0 1 [] [[o0]] [] [(qt5j_30 z), (55, .slice (some ⟨w116.heap.size, 0, none⟩) 3 3)] ⟨w, w116.heap.size + 1, [(old0 w), (qt5j_18 z c), (qt5j_16 z), (qt5j_17 z y8), (qt5j_4 w116 h c y8)]⟩ rfl trivial ?_
         refine l_call [] [] 65 #[.slice (some ⟨w116.heap.size, 0, none⟩) 3 3] (some 56) trivial ?_
         intro w117 hw117
         refine (first_calls w117 (hL.ext (hw117.ext rfl)) ⟨some ⟨w116.heap.size, 0, none⟩, 3, [(unl false 415 ⟨(h : Int), -1⟩), (unl false 416 ⟨(h : Int), -1⟩), (unl (win ((dstC c (h : Int) : Nat) : Int) 1 (mostI y8)) 417 ⟨(h : Int), -1⟩)]⟩ (slok_blk hw117 (i := 4) [(unl false 415 ⟨(h : Int), -1⟩), (unl false 416 ⟨(h : Int), -1⟩), (unl (win ((dstC c (h : Int) : Nat) : Int) 1 (mostI y8)) 417 ⟨(h : Int), -1⟩)]) (show 3 ≤ 1000 by decide)).mono ?_
         rintro e w118 ⟨rfl, hkw118⟩
         have hnw118 : w116.heap.size + 1 ≤ w118.heap.size := size_of hw117 hkw118
         refine ⟨_, _, rfl, hw117.keeps hkw118, ?_⟩
         refine q_r 3 0 [] [[(an 3 2)]] [Qb (z + 1), Qb (z + 1), Qb (z + 1)] [(qt5j_30 z)] ⟨w, w118.heap.size, [(old0 w), (qt5j_18 z c), (qt5j_14 z h c y8), (qt5j_17 z y8), (qt5j_4 w116 h c y8)]⟩ rfl ⟨rfl, rfl, rfl, trivial⟩ ?_
         refine e_ret [.at 2, .at 2, .at 2] [Qb (z + 1), Qb (z + 1), Qb (z + 1)] (.agg #[i6 ((fstW [(unl false 415 ⟨(h : Int), -1⟩), (unl false 416 ⟨(h : Int), -1⟩), (unl (win ((dstC c (h : Int) : Nat) : Int) 1 (mostI y8)) 417 ⟨(h : Int), -1⟩)]).e), i6 ((fstW [(unl false 415 ⟨(h : Int), -1⟩), (unl false 416 ⟨(h : Int), -1⟩), (unl (win ((dstC c (h : Int) : Nat) : Int) 1 (mostI y8)) 417 ⟨(h : Int), -1⟩)]).where_.First), i6 ((fstW [(unl false 415 ⟨(h : Int), -1⟩), (unl false 416 ⟨(h : Int), -1⟩), (unl (win ((dstC c (h : Int) : Nat) : Int) 1 (mostI y8)) 417 ⟨(h : Int), -1⟩)]).where_.Second)]) ⟨rfl, rfl, rfl, trivial⟩ ?_
         intro w119 hw119
         have e0 : chaC c h = y8 := hy8.symm
         have eC : chanQ c h = (fstW [(unl false 415 ⟨(h : Int), -1⟩), (unl false 416 ⟨(h : Int), -1⟩), (unl (win ((dstC c (h : Int) : Nat) : Int) 1 (mostI y8)) 417 ⟨(h : Int), -1⟩)]) := by unfold chanQ; simp only [e0]; simp [h19, h93]
         exact ⟨congrArg (fun t => Ending.returned (Value.agg (Tfound.arr t))) eC.symm, back0 hw119⟩
 · refine q_cS 3 0 [] [[o0, (a1 3), oF, o0, o0]] [Qb (z + 2), EF y8.Depth 0] [(1, i6 (h : Int)), (2, pt z), (qt5j_30 z), (qt5j_31 z), (6, .bool false), (7, i6 4)] rfl ⟨rfl, ef (by omega), trivial⟩ ?_
   refine g_cut (fun a w' => ∃ (n120 : Nat), z + 3 ≤ n120 ∧ St 57 [(1, i6 (h : Int)), (2, pt z), (qt5j_30 z), (qt5j_31 z), (6, .bool (depB y8)), (7, i6 (mostI y8))] [] ⟨w, n120, [(old0 w), (qt5j_18 z c), (qt5j_16 z), (qt5j_17 z y8)]⟩ a w') ?_ ?_
   · refine g_seq ?_
     by_cases h122 : (y8.Kind : Int) = 2
     · refine q_cS 5 2 [1] [[o0, (a1 3), oT], [o0, (a1 3)]] [Qb (z + 2), ET y8.Kind 2, Qb (z + 2)] [(1, i6 (h : Int)), (2, pt z), (qt5j_30 z), (qt5j_31 z), (22, i6 y8.Depth)] rfl ⟨rfl, et (by omega), rfl, trivial⟩ ?_
       refine l_call [] [] 42 #[i6 y8.Depth, i6 1, i6 8] (some 23) trivial ?_
       intro w123 hw123
       refine (within_calls w123 y8.Depth 1 8).mono ?_
       rintro e w124 ⟨rfl, hkw124⟩
       have hnw124 : z + 3 ≤ w124.heap.size := size_of hw123 hkw124
       refine ⟨_, _, rfl, hw123.keeps hkw124, ?_⟩
       refine q_rS 1 0 [] [[o0, o0]] [] [(1, i6 (h : Int)), (2, pt z), (qt5j_30 z), (qt5j_31 z), (6, .bool (win y8.Depth 1 8)), (7, i6 1)] rfl trivial ?_
       have e6 : depB y8 = win y8.Depth 1 8 := (if_pos h122).trans (by first | rfl | exact decide_eq_true (by assumption) | exact decide_eq_false (by assumption))
       have e7 : mostI y8 = 1 := if_pos h122
       refine e_keep [1, 2, 4, 5, 6, 7] [(1, i6 (h : Int)), (2, pt z), (qt5j_30 z), (qt5j_31 z), (6, .bool (win y8.Depth 1 8)), (7, i6 1)] ?_
       refine e_inv (fun a w' hs => ⟨w124.heap.size, by omega, (by (try dsimp only [qt5j_0, qt5j_1, qt5j_2, qt5j_3, qt5j_4, qt5j_5, qt5j_6, qt5j_7, qt5j_8, qt5j_9, qt5j_10, qt5j_11, qt5j_12, qt5j_13, qt5j_14, qt5j_15, qt5j_16, qt5j_17, qt5j_18, qt5j_19, qt5j_20, qt5j_21, qt5j_22, qt5j_23, qt5j_24, qt5j_25, qt5j_26, qt5j_27, qt5j_28, qt5j_29, qt5j_30, qt5j_31] at hs ⊢); rw [e6, e7]; exact hs)⟩)
     · refine q_cS 5 0 [0] [[o0, (a1 3), oF]] [Qb (z + 2), EF y8.Kind 2] [(1, i6 (h : Int)), (2, pt z), (qt5j_30 z), (qt5j_31 z), (6, .bool false), (7, i6 4), (20, .bool false)] rfl ⟨rfl, ef (by omega), trivial⟩ ?_
       have e6 : depB y8 = false := (if_neg h122).trans (by first | rfl | exact decide_eq_true (by assumption) | exact decide_eq_false (by assumption))
       have e7 : mostI y8 = 4 := if_neg h122
       refine e_keep [1, 2, 4, 5, 6, 7] [(1, i6 (h : Int)), (2, pt z), (qt5j_30 z), (qt5j_31 z), (6, .bool false), (7, i6 4)] ?_
       refine e_inv (fun a w' hs => ⟨(z + 3), by omega, (by (try dsimp only [qt5j_0, qt5j_1, qt5j_2, qt5j_3, qt5j_4, qt5j_5, qt5j_6, qt5j_7, qt5j_8, qt5j_9, qt5j_10, qt5j_11, qt5j_12, qt5j_13, qt5j_14, qt5j_15, qt5j_16, qt5j_17, qt5j_18, qt5j_19, qt5j_20, qt5j_21, qt5j_22, qt5j_23, qt5j_24, qt5j_25, qt5j_26, qt5j_27, qt5j_28, qt5j_29, qt5j_30, qt5j_31] at hs ⊢); rw [e6, e7]; exact hs)⟩)
   · rintro a w' ⟨n120, hn121, hs⟩
     refine (?_ : G Tryd.prog 57 [(1, i6 (h : Int)), (2, pt z), (qt5j_30 z), (qt5j_31 z), (6, .bool (depB y8)), (7, i6 (mostI y8))] [] ⟨w, n120, [(old0 w), (qt5j_18 z c), (qt5j_16 z), (qt5j_17 z y8)]⟩ _ _ _) a w' hs
     clear hs a w'
     refine q_cS 2 2 [] [[(an 7 1), o0]] [Qb z, Qb z, Qb z, Qb z, Qb z, Qb z, Qb z] [(1, i6 (h : Int)), (qt5j_30 z), (qt5j_31 z), (6, .bool (depB y8)), (7, i6 (mostI y8)), (25, .agg (TConfig.arr c)), (26, i6 (h : Int))] rfl ⟨rfl, rfl, rfl, rfl, rfl, rfl, rfl, trivial⟩ ?_
     refine l_call [] [] 71 #[.agg (TConfig.arr c), i6 (h : Int)] (some 27) trivial ?_
     intro w125 hw125
     refine (ends_calls w125 c (hc.ext (hw125.ext rfl) (fun _ h => h)) (h : Int) hm hq).mono ?_
     rintro e w126 ⟨rfl, hkw126⟩
     have hnw126 : n120 ≤ w126.heap.size := size_of hw125 hkw126
     refine ⟨_, _, rfl, hw125.keeps hkw126, ?_⟩
     refine q_rS 4 2 [] [[o0, o0, o0, o0, o0], [o0, (a1 3)]] [Qb (z + 2)] [(1, i6 (h : Int)), (qt5j_30 z), (qt5j_31 z), (6, .bool (depB y8)), (7, i6 (mostI y8)), (qt5j_28 c h), (qt5j_29 c h), (31, i6 y8.Kind)] rfl ⟨rfl, trivial⟩ ?_
     refine l_call [] [] 42 #[i6 y8.Kind, i6 1, i6 2] (some 32) trivial ?_
     intro w127 hw127
     refine (within_calls w127 y8.Kind 1 2).mono ?_
     rintro e w128 ⟨rfl, hkw128⟩
     have hnw128 : w126.heap.size ≤ w128.heap.size := size_of hw127 hkw128
     refine ⟨_, _, rfl, hw127.keeps hkw128, ?_⟩
     refine l_keep [1, 4, 5, 6, 7, 8, 9, 32] [(1, i6 (h : Int)), (qt5j_30 z), (qt5j_31 z), (6, .bool (depB y8)), (7, i6 (mostI y8)), (qt5j_28 c h), (qt5j_29 c h), (32, .bool (win y8.Kind 1 2))] ?_
     by_cases h129 : (win y8.Kind 1 2) = true
     · have hd130 := win_yes h129
       refine q_rS 0 3 [] [[(ov (.bool true)), o0, (a1 3)]] [Value.bool (win y8.Kind 1 2) = Value.bool true, Qb (z + 2)] [(1, i6 (h : Int)), (qt5j_30 z), (6, .bool (depB y8)), (7, i6 (mostI y8)), (qt5j_28 c h), (qt5j_29 c h), (33, .bool true), (35, i6 y8.Words)] rfl ⟨(congrArg Value.bool h129), rfl, trivial⟩ ?_
       refine l_call [] [] 42 #[i6 y8.Words, i6 1, i6 16] (some 36) trivial ?_
       intro w131 hw131
       refine (within_calls w131 y8.Words 1 16).mono ?_
       rintro e w132 ⟨rfl, hkw132⟩
       have hnw132 : w128.heap.size ≤ w132.heap.size := size_of hw131 hkw132
       refine ⟨_, _, rfl, hw131.keeps hkw132, ?_⟩
       refine l_keep [1, 4, 6, 7, 8, 9, 33, 36] [(1, i6 (h : Int)), (qt5j_30 z), (6, .bool (depB y8)), (7, i6 (mostI y8)), (qt5j_28 c h), (qt5j_29 c h), (33, .bool true), (36, .bool (win y8.Words 1 16))] ?_
       by_cases h133 : (win y8.Words 1 16) = true
       · have hd134 := win_yes h133
         refine q_rS 0 5 [] [[o0, (ov (.bool true)), o0, o0, o0]] [Value.bool (win y8.Words 1 16) = Value.bool true] [(1, i6 (h : Int)), (qt5j_30 z), (7, i6 (mostI y8)), (qt5j_28 c h), (qt5j_29 c h), (40, .bool (depB y8)), (41, i6 (h : Int))] rfl ⟨(congrArg Value.bool h133), trivial⟩ ?_
         refine l_call [] [] 67 #[i6 (h : Int)] (some 42) trivial ?_
         intro w135 hw135
         refine (at_calls w135 (h : Int)).mono ?_
         rintro e w136 ⟨rfl, hkw136⟩
         have hnw136 : w132.heap.size ≤ w136.heap.size := size_of hw135 hkw136
         refine ⟨_, _, rfl, hw135.keeps hkw136, ?_⟩
         refine l_keep [1, 4, 7, 8, 9, 40, 42] [(1, i6 (h : Int)), (qt5j_30 z), (7, i6 (mostI y8)), (qt5j_28 c h), (qt5j_29 c h), (40, .bool (depB y8)), (qt5j_24 h)] ?_
         refine l_call [] [] 41 #[.bool (depB y8), i6 415, .agg #[i6 (h : Int), i6 (-1)]] (some 43) trivial ?_
         intro w137 hw137
         refine (unless_calls w137 (hL.ext (hw137.ext rfl)) (depB y8) 415 (h : Int) (-1)).mono ?_
         rintro e w138 ⟨rfl, hkw138⟩
         have hnw138 : w136.heap.size ≤ w138.heap.size := size_of hw137 hkw138
         refine ⟨_, _, rfl, hw137.keeps hkw138, ?_⟩
         refine l_keep [1, 4, 7, 8, 9, 43] [(1, i6 (h : Int)), (qt5j_30 z), (7, i6 (mostI y8)), (qt5j_28 c h), (qt5j_29 c h), (qt5j_20 y8 h)] ?_
         by_cases h139 : (((srcC c (h : Int) : Nat) : Int) : Int) = 1
         · refine q_rS 0 3 [] [[o0, oT, o0]] [ET ((srcC c (h : Int) : Nat) : Int) 1] [(1, i6 (h : Int)), (qt5j_30 z), (7, i6 (mostI y8)), (qt5j_29 c h), (qt5j_20 y8 h), (45, .bool true), (46, i6 (h : Int))] rfl ⟨et (by omega), trivial⟩ ?_
           refine l_call [] [] 67 #[i6 (h : Int)] (some 47) trivial ?_
           intro w140 hw140
           refine (at_calls w140 (h : Int)).mono ?_
           rintro e w141 ⟨rfl, hkw141⟩
           have hnw141 : w138.heap.size ≤ w141.heap.size := size_of hw140 hkw141
           refine ⟨_, _, rfl, hw140.keeps hkw141, ?_⟩
           refine l_keep [1, 4, 7, 9, 43, 45, 47] [(1, i6 (h : Int)), (qt5j_30 z), (7, i6 (mostI y8)), (qt5j_29 c h), (qt5j_20 y8 h), (45, .bool true), (qt5j_25 h)] ?_
           refine l_call [] [] 41 #[.bool true, i6 416, .agg #[i6 (h : Int), i6 (-1)]] (some 48) trivial ?_
           intro w142 hw142
           refine (unless_calls w142 (hL.ext (hw142.ext rfl)) true 416 (h : Int) (-1)).mono ?_
           rintro e w143 ⟨rfl, hkw143⟩
           have hnw143 : w141.heap.size ≤ w143.heap.size := size_of hw142 hkw143
           refine ⟨_, _, rfl, hw142.keeps hkw143, ?_⟩
           refine q_rS 0 2 [] [[o0, o0]] [] [(1, i6 (h : Int)), (qt5j_30 z), (qt5j_20 y8 h), (qt5j_23 h), (qt5j_27 c h), (50, i6 (mostI y8))] rfl trivial ?_
           refine l_call [] [] 42 #[i6 ((dstC c (h : Int) : Nat) : Int), i6 1, i6 (mostI y8)] (some 51) trivial ?_
           intro w144 hw144
           refine (within_calls w144 ((dstC c (h : Int) : Nat) : Int) 1 (mostI y8)).mono ?_
           rintro e w145 ⟨rfl, hkw145⟩
           have hnw145 : w143.heap.size ≤ w145.heap.size := size_of hw144 hkw145
           refine ⟨_, _, rfl, hw144.keeps hkw145, ?_⟩
           refine q_rS 0 1 [] [[o0]] [] [(qt5j_30 z), (qt5j_20 y8 h), (qt5j_23 h), (qt5j_19 c h y8), (52, i6 (h : Int))] rfl trivial ?_
           refine l_call [] [] 67 #[i6 (h : Int)] (some 53) trivial ?_
           intro w146 hw146
           refine (at_calls w146 (h : Int)).mono ?_
           rintro e w147 ⟨rfl, hkw147⟩
           have hnw147 : w145.heap.size ≤ w147.heap.size := size_of hw146 hkw147
           refine ⟨_, _, rfl, hw146.keeps hkw147, ?_⟩
           refine l_keep [4, 43, 48, 51, 53] [(qt5j_30 z), (qt5j_20 y8 h), (qt5j_23 h), (qt5j_19 c h y8), (qt5j_26 h)] ?_
           refine l_call [] [] 41 #[.bool (win ((dstC c (h : Int) : Nat) : Int) 1 (mostI y8)), i6 417, .agg #[i6 (h : Int), i6 (-1)]] (some 54) trivial ?_
           intro w148 hw148
           refine (unless_calls w148 (hL.ext (hw148.ext rfl)) (win ((dstC c (h : Int) : Nat) : Int) 1 (mostI y8)) 417 (h : Int) (-1)).mono ?_
           rintro e w149 ⟨rfl, hkw149⟩
           have hnw149 : w147.heap.size ≤ w149.heap.size := size_of hw148 hkw149
           refine ⟨_, _, rfl, hw148.keeps hkw149, ?_⟩
           refine q_r 0 1 [] [[o0]] [] [(qt5j_30 z), (55, .slice (some ⟨w149.heap.size, 0, none⟩) 3 3)] ⟨w, w149.heap.size + 1, [(old0 w), (qt5j_18 z c), (qt5j_16 z), (qt5j_17 z y8), (qt5j_2 w149 y8 h c)]⟩ rfl trivial ?_
           refine l_call [] [] 65 #[.slice (some ⟨w149.heap.size, 0, none⟩) 3 3] (some 56) trivial ?_
           intro w150 hw150
           refine (first_calls w150 (hL.ext (hw150.ext rfl)) ⟨some ⟨w149.heap.size, 0, none⟩, 3, [(unl (depB y8) 415 ⟨(h : Int), -1⟩), (unl true 416 ⟨(h : Int), -1⟩), (unl (win ((dstC c (h : Int) : Nat) : Int) 1 (mostI y8)) 417 ⟨(h : Int), -1⟩)]⟩ (slok_blk hw150 (i := 4) [(unl (depB y8) 415 ⟨(h : Int), -1⟩), (unl true 416 ⟨(h : Int), -1⟩), (unl (win ((dstC c (h : Int) : Nat) : Int) 1 (mostI y8)) 417 ⟨(h : Int), -1⟩)]) (show 3 ≤ 1000 by decide)).mono ?_
           rintro e w151 ⟨rfl, hkw151⟩
           have hnw151 : w149.heap.size + 1 ≤ w151.heap.size := size_of hw150 hkw151
           refine ⟨_, _, rfl, hw150.keeps hkw151, ?_⟩
           refine q_r 3 0 [] [[(an 3 2)]] [Qb (z + 1), Qb (z + 1), Qb (z + 1)] [(qt5j_30 z)] ⟨w, w151.heap.size, [(old0 w), (qt5j_18 z c), (qt5j_13 z y8 h c), (qt5j_17 z y8), (qt5j_2 w149 y8 h c)]⟩ rfl ⟨rfl, rfl, rfl, trivial⟩ ?_
           refine e_ret [.at 2, .at 2, .at 2] [Qb (z + 1), Qb (z + 1), Qb (z + 1)] (.agg #[i6 ((fstW [(unl (depB y8) 415 ⟨(h : Int), -1⟩), (unl true 416 ⟨(h : Int), -1⟩), (unl (win ((dstC c (h : Int) : Nat) : Int) 1 (mostI y8)) 417 ⟨(h : Int), -1⟩)]).e), i6 ((fstW [(unl (depB y8) 415 ⟨(h : Int), -1⟩), (unl true 416 ⟨(h : Int), -1⟩), (unl (win ((dstC c (h : Int) : Nat) : Int) 1 (mostI y8)) 417 ⟨(h : Int), -1⟩)]).where_.First), i6 ((fstW [(unl (depB y8) 415 ⟨(h : Int), -1⟩), (unl true 416 ⟨(h : Int), -1⟩), (unl (win ((dstC c (h : Int) : Nat) : Int) 1 (mostI y8)) 417 ⟨(h : Int), -1⟩)]).where_.Second)]) ⟨rfl, rfl, rfl, trivial⟩ ?_
           intro w152 hw152
           have e0 : chaC c h = y8 := hy8.symm
           have eC : chanQ c h = (fstW [(unl (depB y8) 415 ⟨(h : Int), -1⟩), (unl true 416 ⟨(h : Int), -1⟩), (unl (win ((dstC c (h : Int) : Nat) : Int) 1 (mostI y8)) 417 ⟨(h : Int), -1⟩)]) := by unfold chanQ; simp only [e0]; simp [h129, h133, h139]
           exact ⟨congrArg (fun t => Ending.returned (Value.agg (Tfound.arr t))) eC.symm, back0 hw152⟩
         · refine q_rS 0 3 [] [[o0, oF, o0]] [EF ((srcC c (h : Int) : Nat) : Int) 1] [(1, i6 (h : Int)), (qt5j_30 z), (7, i6 (mostI y8)), (qt5j_29 c h), (qt5j_20 y8 h), (45, .bool false), (46, i6 (h : Int))] rfl ⟨ef (by omega), trivial⟩ ?_
           refine l_call [] [] 67 #[i6 (h : Int)] (some 47) trivial ?_
           intro w153 hw153
           refine (at_calls w153 (h : Int)).mono ?_
           rintro e w154 ⟨rfl, hkw154⟩
           have hnw154 : w138.heap.size ≤ w154.heap.size := size_of hw153 hkw154
           refine ⟨_, _, rfl, hw153.keeps hkw154, ?_⟩
           refine l_keep [1, 4, 7, 9, 43, 45, 47] [(1, i6 (h : Int)), (qt5j_30 z), (7, i6 (mostI y8)), (qt5j_29 c h), (qt5j_20 y8 h), (45, .bool false), (qt5j_25 h)] ?_
           refine l_call [] [] 41 #[.bool false, i6 416, .agg #[i6 (h : Int), i6 (-1)]] (some 48) trivial ?_
           intro w155 hw155
           refine (unless_calls w155 (hL.ext (hw155.ext rfl)) false 416 (h : Int) (-1)).mono ?_
           rintro e w156 ⟨rfl, hkw156⟩
           have hnw156 : w154.heap.size ≤ w156.heap.size := size_of hw155 hkw156
           refine ⟨_, _, rfl, hw155.keeps hkw156, ?_⟩
           refine q_rS 0 2 [] [[o0, o0]] [] [(1, i6 (h : Int)), (qt5j_30 z), (qt5j_20 y8 h), (qt5j_21 h), (qt5j_27 c h), (50, i6 (mostI y8))] rfl trivial ?_
           refine l_call [] [] 42 #[i6 ((dstC c (h : Int) : Nat) : Int), i6 1, i6 (mostI y8)] (some 51) trivial ?_
           intro w157 hw157
           refine (within_calls w157 ((dstC c (h : Int) : Nat) : Int) 1 (mostI y8)).mono ?_
           rintro e w158 ⟨rfl, hkw158⟩
           have hnw158 : w156.heap.size ≤ w158.heap.size := size_of hw157 hkw158
           refine ⟨_, _, rfl, hw157.keeps hkw158, ?_⟩
           refine q_rS 0 1 [] [[o0]] [] [(qt5j_30 z), (qt5j_20 y8 h), (qt5j_21 h), (qt5j_19 c h y8), (52, i6 (h : Int))] rfl trivial ?_
           refine l_call [] [] 67 #[i6 (h : Int)] (some 53) trivial ?_
           intro w159 hw159
           refine (at_calls w159 (h : Int)).mono ?_
           rintro e w160 ⟨rfl, hkw160⟩
           have hnw160 : w158.heap.size ≤ w160.heap.size := size_of hw159 hkw160
           refine ⟨_, _, rfl, hw159.keeps hkw160, ?_⟩
           refine l_keep [4, 43, 48, 51, 53] [(qt5j_30 z), (qt5j_20 y8 h), (qt5j_21 h), (qt5j_19 c h y8), (qt5j_26 h)] ?_
           refine l_call [] [] 41 #[.bool (win ((dstC c (h : Int) : Nat) : Int) 1 (mostI y8)), i6 417, .agg #[i6 (h : Int), i6 (-1)]] (some 54) trivial ?_
           intro w161 hw161
           refine (unless_calls w161 (hL.ext (hw161.ext rfl)) (win ((dstC c (h : Int) : Nat) : Int) 1 (mostI y8)) 417 (h : Int) (-1)).mono ?_
           rintro e w162 ⟨rfl, hkw162⟩
           have hnw162 : w160.heap.size ≤ w162.heap.size := size_of hw161 hkw162
           refine ⟨_, _, rfl, hw161.keeps hkw162, ?_⟩
           refine q_r 0 1 [] [[o0]] [] [(qt5j_30 z), (55, .slice (some ⟨w162.heap.size, 0, none⟩) 3 3)] ⟨w, w162.heap.size + 1, [(old0 w), (qt5j_18 z c), (qt5j_16 z), (qt5j_17 z y8), (qt5j_0 w162 y8 h c)]⟩ rfl trivial ?_
           refine l_call [] [] 65 #[.slice (some ⟨w162.heap.size, 0, none⟩) 3 3] (some 56) trivial ?_
           intro w163 hw163
           refine (first_calls w163 (hL.ext (hw163.ext rfl)) ⟨some ⟨w162.heap.size, 0, none⟩, 3, [(unl (depB y8) 415 ⟨(h : Int), -1⟩), (unl false 416 ⟨(h : Int), -1⟩), (unl (win ((dstC c (h : Int) : Nat) : Int) 1 (mostI y8)) 417 ⟨(h : Int), -1⟩)]⟩ (slok_blk hw163 (i := 4) [(unl (depB y8) 415 ⟨(h : Int), -1⟩), (unl false 416 ⟨(h : Int), -1⟩), (unl (win ((dstC c (h : Int) : Nat) : Int) 1 (mostI y8)) 417 ⟨(h : Int), -1⟩)]) (show 3 ≤ 1000 by decide)).mono ?_
           rintro e w164 ⟨rfl, hkw164⟩
           have hnw164 : w162.heap.size + 1 ≤ w164.heap.size := size_of hw163 hkw164
           refine ⟨_, _, rfl, hw163.keeps hkw164, ?_⟩
           refine q_r 3 0 [] [[(an 3 2)]] [Qb (z + 1), Qb (z + 1), Qb (z + 1)] [(qt5j_30 z)] ⟨w, w164.heap.size, [(old0 w), (qt5j_18 z c), (qt5j_12 z y8 h c), (qt5j_17 z y8), (qt5j_0 w162 y8 h c)]⟩ rfl ⟨rfl, rfl, rfl, trivial⟩ ?_
           refine e_ret [.at 2, .at 2, .at 2] [Qb (z + 1), Qb (z + 1), Qb (z + 1)] (.agg #[i6 ((fstW [(unl (depB y8) 415 ⟨(h : Int), -1⟩), (unl false 416 ⟨(h : Int), -1⟩), (unl (win ((dstC c (h : Int) : Nat) : Int) 1 (mostI y8)) 417 ⟨(h : Int), -1⟩)]).e), i6 ((fstW [(unl (depB y8) 415 ⟨(h : Int), -1⟩), (unl false 416 ⟨(h : Int), -1⟩), (unl (win ((dstC c (h : Int) : Nat) : Int) 1 (mostI y8)) 417 ⟨(h : Int), -1⟩)]).where_.First), i6 ((fstW [(unl (depB y8) 415 ⟨(h : Int), -1⟩), (unl false 416 ⟨(h : Int), -1⟩), (unl (win ((dstC c (h : Int) : Nat) : Int) 1 (mostI y8)) 417 ⟨(h : Int), -1⟩)]).where_.Second)]) ⟨rfl, rfl, rfl, trivial⟩ ?_
           intro w165 hw165
           have e0 : chaC c h = y8 := hy8.symm
           have eC : chanQ c h = (fstW [(unl (depB y8) 415 ⟨(h : Int), -1⟩), (unl false 416 ⟨(h : Int), -1⟩), (unl (win ((dstC c (h : Int) : Nat) : Int) 1 (mostI y8)) 417 ⟨(h : Int), -1⟩)]) := by unfold chanQ; simp only [e0]; simp [h129, h133, h139]
           exact ⟨congrArg (fun t => Ending.returned (Value.agg (Tfound.arr t))) eC.symm, back0 hw165⟩
       · have hd166 := win_no h133
         refine q_rS 0 5 [] [[o0, (ov (.bool false)), o0, o0]] [Value.bool (win y8.Words 1 16) = Value.bool false] [(1, i6 (h : Int)), (qt5j_30 z), (7, i6 (mostI y8)), (qt5j_28 c h), (qt5j_29 c h), (40, .bool false), (41, i6 (h : Int))] rfl ⟨(congrArg Value.bool (Bool.eq_false_iff.2 h133)), trivial⟩ ?_
         refine l_call [] [] 67 #[i6 (h : Int)] (some 42) trivial ?_
         intro w167 hw167
         refine (at_calls w167 (h : Int)).mono ?_
         rintro e w168 ⟨rfl, hkw168⟩
         have hnw168 : w132.heap.size ≤ w168.heap.size := size_of hw167 hkw168
         refine ⟨_, _, rfl, hw167.keeps hkw168, ?_⟩
         refine l_keep [1, 4, 7, 8, 9, 40, 42] [(1, i6 (h : Int)), (qt5j_30 z), (7, i6 (mostI y8)), (qt5j_28 c h), (qt5j_29 c h), (40, .bool false), (qt5j_24 h)] ?_
         refine l_call [] [] 41 #[.bool false, i6 415, .agg #[i6 (h : Int), i6 (-1)]] (some 43) trivial ?_
         intro w169 hw169
         refine (unless_calls w169 (hL.ext (hw169.ext rfl)) false 415 (h : Int) (-1)).mono ?_
         rintro e w170 ⟨rfl, hkw170⟩
         have hnw170 : w168.heap.size ≤ w170.heap.size := size_of hw169 hkw170
         refine ⟨_, _, rfl, hw169.keeps hkw170, ?_⟩
         refine l_keep [1, 4, 7, 8, 9, 43] [(1, i6 (h : Int)), (qt5j_30 z), (7, i6 (mostI y8)), (qt5j_28 c h), (qt5j_29 c h), (qt5j_22 h)] ?_
         by_cases h171 : (((srcC c (h : Int) : Nat) : Int) : Int) = 1
         · refine q_rS 0 3 [] [[o0, oT, o0]] [ET ((srcC c (h : Int) : Nat) : Int) 1] [(1, i6 (h : Int)), (qt5j_30 z), (7, i6 (mostI y8)), (qt5j_29 c h), (qt5j_22 h), (45, .bool true), (46, i6 (h : Int))] rfl ⟨et (by omega), trivial⟩ ?_
           refine l_call [] [] 67 #[i6 (h : Int)] (some 47) trivial ?_
           intro w172 hw172
           refine (at_calls w172 (h : Int)).mono ?_
           rintro e w173 ⟨rfl, hkw173⟩
           have hnw173 : w170.heap.size ≤ w173.heap.size := size_of hw172 hkw173
           refine ⟨_, _, rfl, hw172.keeps hkw173, ?_⟩
           refine l_keep [1, 4, 7, 9, 43, 45, 47] [(1, i6 (h : Int)), (qt5j_30 z), (7, i6 (mostI y8)), (qt5j_29 c h), (qt5j_22 h), (45, .bool true), (qt5j_25 h)] ?_
           refine l_call [] [] 41 #[.bool true, i6 416, .agg #[i6 (h : Int), i6 (-1)]] (some 48) trivial ?_
           intro w174 hw174
           refine (unless_calls w174 (hL.ext (hw174.ext rfl)) true 416 (h : Int) (-1)).mono ?_
           rintro e w175 ⟨rfl, hkw175⟩
           have hnw175 : w173.heap.size ≤ w175.heap.size := size_of hw174 hkw175
           refine ⟨_, _, rfl, hw174.keeps hkw175, ?_⟩
           refine q_rS 0 2 [] [[o0, o0]] [] [(1, i6 (h : Int)), (qt5j_30 z), (qt5j_22 h), (qt5j_23 h), (qt5j_27 c h), (50, i6 (mostI y8))] rfl trivial ?_
           refine l_call [] [] 42 #[i6 ((dstC c (h : Int) : Nat) : Int), i6 1, i6 (mostI y8)] (some 51) trivial ?_
           intro w176 hw176
           refine (within_calls w176 ((dstC c (h : Int) : Nat) : Int) 1 (mostI y8)).mono ?_
           rintro e w177 ⟨rfl, hkw177⟩
           have hnw177 : w175.heap.size ≤ w177.heap.size := size_of hw176 hkw177
           refine ⟨_, _, rfl, hw176.keeps hkw177, ?_⟩
           refine q_rS 0 1 [] [[o0]] [] [(qt5j_30 z), (qt5j_22 h), (qt5j_23 h), (qt5j_19 c h y8), (52, i6 (h : Int))] rfl trivial ?_
           refine l_call [] [] 67 #[i6 (h : Int)] (some 53) trivial ?_
           intro w178 hw178
           refine (at_calls w178 (h : Int)).mono ?_
           rintro e w179 ⟨rfl, hkw179⟩
           have hnw179 : w177.heap.size ≤ w179.heap.size := size_of hw178 hkw179
           refine ⟨_, _, rfl, hw178.keeps hkw179, ?_⟩
           refine l_keep [4, 43, 48, 51, 53] [(qt5j_30 z), (qt5j_22 h), (qt5j_23 h), (qt5j_19 c h y8), (qt5j_26 h)] ?_
           refine l_call [] [] 41 #[.bool (win ((dstC c (h : Int) : Nat) : Int) 1 (mostI y8)), i6 417, .agg #[i6 (h : Int), i6 (-1)]] (some 54) trivial ?_
           intro w180 hw180
           refine (unless_calls w180 (hL.ext (hw180.ext rfl)) (win ((dstC c (h : Int) : Nat) : Int) 1 (mostI y8)) 417 (h : Int) (-1)).mono ?_
           rintro e w181 ⟨rfl, hkw181⟩
           have hnw181 : w179.heap.size ≤ w181.heap.size := size_of hw180 hkw181
           refine ⟨_, _, rfl, hw180.keeps hkw181, ?_⟩
           refine q_r 0 1 [] [[o0]] [] [(qt5j_30 z), (55, .slice (some ⟨w181.heap.size, 0, none⟩) 3 3)] ⟨w, w181.heap.size + 1, [(old0 w), (qt5j_18 z c), (qt5j_16 z), (qt5j_17 z y8), (qt5j_9 w181 h c y8)]⟩ rfl trivial ?_
           refine l_call [] [] 65 #[.slice (some ⟨w181.heap.size, 0, none⟩) 3 3] (some 56) trivial ?_
           intro w182 hw182
           refine (first_calls w182 (hL.ext (hw182.ext rfl)) ⟨some ⟨w181.heap.size, 0, none⟩, 3, [(unl false 415 ⟨(h : Int), -1⟩), (unl true 416 ⟨(h : Int), -1⟩), (unl (win ((dstC c (h : Int) : Nat) : Int) 1 (mostI y8)) 417 ⟨(h : Int), -1⟩)]⟩ (slok_blk hw182 (i := 4) [(unl false 415 ⟨(h : Int), -1⟩), (unl true 416 ⟨(h : Int), -1⟩), (unl (win ((dstC c (h : Int) : Nat) : Int) 1 (mostI y8)) 417 ⟨(h : Int), -1⟩)]) (show 3 ≤ 1000 by decide)).mono ?_
           rintro e w183 ⟨rfl, hkw183⟩
           have hnw183 : w181.heap.size + 1 ≤ w183.heap.size := size_of hw182 hkw183
           refine ⟨_, _, rfl, hw182.keeps hkw183, ?_⟩
           refine q_r 3 0 [] [[(an 3 2)]] [Qb (z + 1), Qb (z + 1), Qb (z + 1)] [(qt5j_30 z)] ⟨w, w183.heap.size, [(old0 w), (qt5j_18 z c), (qt5j_15 z h c y8), (qt5j_17 z y8), (qt5j_9 w181 h c y8)]⟩ rfl ⟨rfl, rfl, rfl, trivial⟩ ?_
           refine e_ret [.at 2, .at 2, .at 2] [Qb (z + 1), Qb (z + 1), Qb (z + 1)] (.agg #[i6 ((fstW [(unl false 415 ⟨(h : Int), -1⟩), (unl true 416 ⟨(h : Int), -1⟩), (unl (win ((dstC c (h : Int) : Nat) : Int) 1 (mostI y8)) 417 ⟨(h : Int), -1⟩)]).e), i6 ((fstW [(unl false 415 ⟨(h : Int), -1⟩), (unl true 416 ⟨(h : Int), -1⟩), (unl (win ((dstC c (h : Int) : Nat) : Int) 1 (mostI y8)) 417 ⟨(h : Int), -1⟩)]).where_.First), i6 ((fstW [(unl false 415 ⟨(h : Int), -1⟩), (unl true 416 ⟨(h : Int), -1⟩), (unl (win ((dstC c (h : Int) : Nat) : Int) 1 (mostI y8)) 417 ⟨(h : Int), -1⟩)]).where_.Second)]) ⟨rfl, rfl, rfl, trivial⟩ ?_
           intro w184 hw184
           have e0 : chaC c h = y8 := hy8.symm
           have eC : chanQ c h = (fstW [(unl false 415 ⟨(h : Int), -1⟩), (unl true 416 ⟨(h : Int), -1⟩), (unl (win ((dstC c (h : Int) : Nat) : Int) 1 (mostI y8)) 417 ⟨(h : Int), -1⟩)]) := by unfold chanQ; simp only [e0]; simp [h129, h133, h171]
           exact ⟨congrArg (fun t => Ending.returned (Value.agg (Tfound.arr t))) eC.symm, back0 hw184⟩
         · refine q_rS 0 3 [] [[o0, oF, o0]] [EF ((srcC c (h : Int) : Nat) : Int) 1] [(1, i6 (h : Int)), (qt5j_30 z), (7, i6 (mostI y8)), (qt5j_29 c h), (qt5j_22 h), (45, .bool false), (46, i6 (h : Int))] rfl ⟨ef (by omega), trivial⟩ ?_
           refine l_call [] [] 67 #[i6 (h : Int)] (some 47) trivial ?_
           intro w185 hw185
           refine (at_calls w185 (h : Int)).mono ?_
           rintro e w186 ⟨rfl, hkw186⟩
           have hnw186 : w170.heap.size ≤ w186.heap.size := size_of hw185 hkw186
           refine ⟨_, _, rfl, hw185.keeps hkw186, ?_⟩
           refine l_keep [1, 4, 7, 9, 43, 45, 47] [(1, i6 (h : Int)), (qt5j_30 z), (7, i6 (mostI y8)), (qt5j_29 c h), (qt5j_22 h), (45, .bool false), (qt5j_25 h)] ?_
           refine l_call [] [] 41 #[.bool false, i6 416, .agg #[i6 (h : Int), i6 (-1)]] (some 48) trivial ?_
           intro w187 hw187
           refine (unless_calls w187 (hL.ext (hw187.ext rfl)) false 416 (h : Int) (-1)).mono ?_
           rintro e w188 ⟨rfl, hkw188⟩
           have hnw188 : w186.heap.size ≤ w188.heap.size := size_of hw187 hkw188
           refine ⟨_, _, rfl, hw187.keeps hkw188, ?_⟩
           refine q_rS 0 2 [] [[o0, o0]] [] [(1, i6 (h : Int)), (qt5j_30 z), (qt5j_22 h), (qt5j_21 h), (qt5j_27 c h), (50, i6 (mostI y8))] rfl trivial ?_
           refine l_call [] [] 42 #[i6 ((dstC c (h : Int) : Nat) : Int), i6 1, i6 (mostI y8)] (some 51) trivial ?_
           intro w189 hw189
           refine (within_calls w189 ((dstC c (h : Int) : Nat) : Int) 1 (mostI y8)).mono ?_
           rintro e w190 ⟨rfl, hkw190⟩
           have hnw190 : w188.heap.size ≤ w190.heap.size := size_of hw189 hkw190
           refine ⟨_, _, rfl, hw189.keeps hkw190, ?_⟩
           refine q_rS 0 1 [] [[o0]] [] [(qt5j_30 z), (qt5j_22 h), (qt5j_21 h), (qt5j_19 c h y8), (52, i6 (h : Int))] rfl trivial ?_
           refine l_call [] [] 67 #[i6 (h : Int)] (some 53) trivial ?_
           intro w191 hw191
           refine (at_calls w191 (h : Int)).mono ?_
           rintro e w192 ⟨rfl, hkw192⟩
           have hnw192 : w190.heap.size ≤ w192.heap.size := size_of hw191 hkw192
           refine ⟨_, _, rfl, hw191.keeps hkw192, ?_⟩
           refine l_keep [4, 43, 48, 51, 53] [(qt5j_30 z), (qt5j_22 h), (qt5j_21 h), (qt5j_19 c h y8), (qt5j_26 h)] ?_
           refine l_call [] [] 41 #[.bool (win ((dstC c (h : Int) : Nat) : Int) 1 (mostI y8)), i6 417, .agg #[i6 (h : Int), i6 (-1)]] (some 54) trivial ?_
           intro w193 hw193
           refine (unless_calls w193 (hL.ext (hw193.ext rfl)) (win ((dstC c (h : Int) : Nat) : Int) 1 (mostI y8)) 417 (h : Int) (-1)).mono ?_
           rintro e w194 ⟨rfl, hkw194⟩
           have hnw194 : w192.heap.size ≤ w194.heap.size := size_of hw193 hkw194
           refine ⟨_, _, rfl, hw193.keeps hkw194, ?_⟩
           refine q_r 0 1 [] [[o0]] [] [(qt5j_30 z), (55, .slice (some ⟨w194.heap.size, 0, none⟩) 3 3)] ⟨w, w194.heap.size + 1, [(old0 w), (qt5j_18 z c), (qt5j_16 z), (qt5j_17 z y8), (qt5j_5 w194 h c y8)]⟩ rfl trivial ?_
           refine l_call [] [] 65 #[.slice (some ⟨w194.heap.size, 0, none⟩) 3 3] (some 56) trivial ?_
           intro w195 hw195
           refine (first_calls w195 (hL.ext (hw195.ext rfl)) ⟨some ⟨w194.heap.size, 0, none⟩, 3, [(unl false 415 ⟨(h : Int), -1⟩), (unl false 416 ⟨(h : Int), -1⟩), (unl (win ((dstC c (h : Int) : Nat) : Int) 1 (mostI y8)) 417 ⟨(h : Int), -1⟩)]⟩ (slok_blk hw195 (i := 4) [(unl false 415 ⟨(h : Int), -1⟩), (unl false 416 ⟨(h : Int), -1⟩), (unl (win ((dstC c (h : Int) : Nat) : Int) 1 (mostI y8)) 417 ⟨(h : Int), -1⟩)]) (show 3 ≤ 1000 by decide)).mono ?_
           rintro e w196 ⟨rfl, hkw196⟩
           have hnw196 : w194.heap.size + 1 ≤ w196.heap.size := size_of hw195 hkw196
           refine ⟨_, _, rfl, hw195.keeps hkw196, ?_⟩
           refine q_r 3 0 [] [[(an 3 2)]] [Qb (z + 1), Qb (z + 1), Qb (z + 1)] [(qt5j_30 z)] ⟨w, w196.heap.size, [(old0 w), (qt5j_18 z c), (qt5j_14 z h c y8), (qt5j_17 z y8), (qt5j_5 w194 h c y8)]⟩ rfl ⟨rfl, rfl, rfl, trivial⟩ ?_
           refine e_ret [.at 2, .at 2, .at 2] [Qb (z + 1), Qb (z + 1), Qb (z + 1)] (.agg #[i6 ((fstW [(unl false 415 ⟨(h : Int), -1⟩), (unl false 416 ⟨(h : Int), -1⟩), (unl (win ((dstC c (h : Int) : Nat) : Int) 1 (mostI y8)) 417 ⟨(h : Int), -1⟩)]).e), i6 ((fstW [(unl false 415 ⟨(h : Int), -1⟩), (unl false 416 ⟨(h : Int), -1⟩), (unl (win ((dstC c (h : Int) : Nat) : Int) 1 (mostI y8)) 417 ⟨(h : Int), -1⟩)]).where_.First), i6 ((fstW [(unl false 415 ⟨(h : Int), -1⟩), (unl false 416 ⟨(h : Int), -1⟩), (unl (win ((dstC c (h : Int) : Nat) : Int) 1 (mostI y8)) 417 ⟨(h : Int), -1⟩)]).where_.Second)]) ⟨rfl, rfl, rfl, trivial⟩ ?_
           intro w197 hw197
           have e0 : chaC c h = y8 := hy8.symm
           have eC : chanQ c h = (fstW [(unl false 415 ⟨(h : Int), -1⟩), (unl false 416 ⟨(h : Int), -1⟩), (unl (win ((dstC c (h : Int) : Nat) : Int) 1 (mostI y8)) 417 ⟨(h : Int), -1⟩)]) := by unfold chanQ; simp only [e0]; simp [h129, h133, h171]
           exact ⟨congrArg (fun t => Ending.returned (Value.agg (Tfound.arr t))) eC.symm, back0 hw197⟩
     · have hd198 := win_no h129
       refine q_rS 0 9 [] [[(ov (.bool false)), o0, o0, o0, o0]] [Value.bool (win y8.Kind 1 2) = Value.bool false] [(1, i6 (h : Int)), (qt5j_30 z), (7, i6 (mostI y8)), (qt5j_28 c h), (qt5j_29 c h), (40, .bool false), (41, i6 (h : Int))] rfl ⟨(congrArg Value.bool (Bool.eq_false_iff.2 h129)), trivial⟩ ?_
       refine l_call [] [] 67 #[i6 (h : Int)] (some 42) trivial ?_
       intro w199 hw199
       refine (at_calls w199 (h : Int)).mono ?_
       rintro e w200 ⟨rfl, hkw200⟩
       have hnw200 : w128.heap.size ≤ w200.heap.size := size_of hw199 hkw200
       refine ⟨_, _, rfl, hw199.keeps hkw200, ?_⟩
       refine l_keep [1, 4, 7, 8, 9, 40, 42] [(1, i6 (h : Int)), (qt5j_30 z), (7, i6 (mostI y8)), (qt5j_28 c h), (qt5j_29 c h), (40, .bool false), (qt5j_24 h)] ?_
       refine l_call [] [] 41 #[.bool false, i6 415, .agg #[i6 (h : Int), i6 (-1)]] (some 43) trivial ?_
       intro w201 hw201
       refine (unless_calls w201 (hL.ext (hw201.ext rfl)) false 415 (h : Int) (-1)).mono ?_
       rintro e w202 ⟨rfl, hkw202⟩
       have hnw202 : w200.heap.size ≤ w202.heap.size := size_of hw201 hkw202
       refine ⟨_, _, rfl, hw201.keeps hkw202, ?_⟩
       refine l_keep [1, 4, 7, 8, 9, 43] [(1, i6 (h : Int)), (qt5j_30 z), (7, i6 (mostI y8)), (qt5j_28 c h), (qt5j_29 c h), (qt5j_22 h)] ?_
       by_cases h203 : (((srcC c (h : Int) : Nat) : Int) : Int) = 1
       · refine q_rS 0 3 [] [[o0, oT, o0]] [ET ((srcC c (h : Int) : Nat) : Int) 1] [(1, i6 (h : Int)), (qt5j_30 z), (7, i6 (mostI y8)), (qt5j_29 c h), (qt5j_22 h), (45, .bool true), (46, i6 (h : Int))] rfl ⟨et (by omega), trivial⟩ ?_
         refine l_call [] [] 67 #[i6 (h : Int)] (some 47) trivial ?_
         intro w204 hw204
         refine (at_calls w204 (h : Int)).mono ?_
         rintro e w205 ⟨rfl, hkw205⟩
         have hnw205 : w202.heap.size ≤ w205.heap.size := size_of hw204 hkw205
         refine ⟨_, _, rfl, hw204.keeps hkw205, ?_⟩
         refine l_keep [1, 4, 7, 9, 43, 45, 47] [(1, i6 (h : Int)), (qt5j_30 z), (7, i6 (mostI y8)), (qt5j_29 c h), (qt5j_22 h), (45, .bool true), (qt5j_25 h)] ?_
         refine l_call [] [] 41 #[.bool true, i6 416, .agg #[i6 (h : Int), i6 (-1)]] (some 48) trivial ?_
         intro w206 hw206
         refine (unless_calls w206 (hL.ext (hw206.ext rfl)) true 416 (h : Int) (-1)).mono ?_
         rintro e w207 ⟨rfl, hkw207⟩
         have hnw207 : w205.heap.size ≤ w207.heap.size := size_of hw206 hkw207
         refine ⟨_, _, rfl, hw206.keeps hkw207, ?_⟩
         refine q_rS 0 2 [] [[o0, o0]] [] [(1, i6 (h : Int)), (qt5j_30 z), (qt5j_22 h), (qt5j_23 h), (qt5j_27 c h), (50, i6 (mostI y8))] rfl trivial ?_
         refine l_call [] [] 42 #[i6 ((dstC c (h : Int) : Nat) : Int), i6 1, i6 (mostI y8)] (some 51) trivial ?_
         intro w208 hw208
         refine (within_calls w208 ((dstC c (h : Int) : Nat) : Int) 1 (mostI y8)).mono ?_
         rintro e w209 ⟨rfl, hkw209⟩
         have hnw209 : w207.heap.size ≤ w209.heap.size := size_of hw208 hkw209
         refine ⟨_, _, rfl, hw208.keeps hkw209, ?_⟩
         refine q_rS 0 1 [] [[o0]] [] [(qt5j_30 z), (qt5j_22 h), (qt5j_23 h), (qt5j_19 c h y8), (52, i6 (h : Int))] rfl trivial ?_
         refine l_call [] [] 67 #[i6 (h : Int)] (some 53) trivial ?_
         intro w210 hw210
         refine (at_calls w210 (h : Int)).mono ?_
         rintro e w211 ⟨rfl, hkw211⟩
         have hnw211 : w209.heap.size ≤ w211.heap.size := size_of hw210 hkw211
         refine ⟨_, _, rfl, hw210.keeps hkw211, ?_⟩
         refine l_keep [4, 43, 48, 51, 53] [(qt5j_30 z), (qt5j_22 h), (qt5j_23 h), (qt5j_19 c h y8), (qt5j_26 h)] ?_
         refine l_call [] [] 41 #[.bool (win ((dstC c (h : Int) : Nat) : Int) 1 (mostI y8)), i6 417, .agg #[i6 (h : Int), i6 (-1)]] (some 54) trivial ?_
         intro w212 hw212
         refine (unless_calls w212 (hL.ext (hw212.ext rfl)) (win ((dstC c (h : Int) : Nat) : Int) 1 (mostI y8)) 417 (h : Int) (-1)).mono ?_
         rintro e w213 ⟨rfl, hkw213⟩
         have hnw213 : w211.heap.size ≤ w213.heap.size := size_of hw212 hkw213
         refine ⟨_, _, rfl, hw212.keeps hkw213, ?_⟩
         refine q_r 0 1 [] [[o0]] [] [(qt5j_30 z), (55, .slice (some ⟨w213.heap.size, 0, none⟩) 3 3)] ⟨w, w213.heap.size + 1, [(old0 w), (qt5j_18 z c), (qt5j_16 z), (qt5j_17 z y8), (qt5j_10 w213 h c y8)]⟩ rfl trivial ?_
         refine l_call [] [] 65 #[.slice (some ⟨w213.heap.size, 0, none⟩) 3 3] (some 56) trivial ?_
         intro w214 hw214
         refine (first_calls w214 (hL.ext (hw214.ext rfl)) ⟨some ⟨w213.heap.size, 0, none⟩, 3, [(unl false 415 ⟨(h : Int), -1⟩), (unl true 416 ⟨(h : Int), -1⟩), (unl (win ((dstC c (h : Int) : Nat) : Int) 1 (mostI y8)) 417 ⟨(h : Int), -1⟩)]⟩ (slok_blk hw214 (i := 4) [(unl false 415 ⟨(h : Int), -1⟩), (unl true 416 ⟨(h : Int), -1⟩), (unl (win ((dstC c (h : Int) : Nat) : Int) 1 (mostI y8)) 417 ⟨(h : Int), -1⟩)]) (show 3 ≤ 1000 by decide)).mono ?_
         rintro e w215 ⟨rfl, hkw215⟩
         have hnw215 : w213.heap.size + 1 ≤ w215.heap.size := size_of hw214 hkw215
         refine ⟨_, _, rfl, hw214.keeps hkw215, ?_⟩
         refine q_r 3 0 [] [[(an 3 2)]] [Qb (z + 1), Qb (z + 1), Qb (z + 1)] [(qt5j_30 z)] ⟨w, w215.heap.size, [(old0 w), (qt5j_18 z c), (qt5j_15 z h c y8), (qt5j_17 z y8), (qt5j_10 w213 h c y8)]⟩ rfl ⟨rfl, rfl, rfl, trivial⟩ ?_
         refine e_ret [.at 2, .at 2, .at 2] [Qb (z + 1), Qb (z + 1), Qb (z + 1)] (.agg #[i6 ((fstW [(unl false 415 ⟨(h : Int), -1⟩), (unl true 416 ⟨(h : Int), -1⟩), (unl (win ((dstC c (h : Int) : Nat) : Int) 1 (mostI y8)) 417 ⟨(h : Int), -1⟩)]).e), i6 ((fstW [(unl false 415 ⟨(h : Int), -1⟩), (unl true 416 ⟨(h : Int), -1⟩), (unl (win ((dstC c (h : Int) : Nat) : Int) 1 (mostI y8)) 417 ⟨(h : Int), -1⟩)]).where_.First), i6 ((fstW [(unl false 415 ⟨(h : Int), -1⟩), (unl true 416 ⟨(h : Int), -1⟩), (unl (win ((dstC c (h : Int) : Nat) : Int) 1 (mostI y8)) 417 ⟨(h : Int), -1⟩)]).where_.Second)]) ⟨rfl, rfl, rfl, trivial⟩ ?_
         intro w216 hw216
         have e0 : chaC c h = y8 := hy8.symm
         have eC : chanQ c h = (fstW [(unl false 415 ⟨(h : Int), -1⟩), (unl true 416 ⟨(h : Int), -1⟩), (unl (win ((dstC c (h : Int) : Nat) : Int) 1 (mostI y8)) 417 ⟨(h : Int), -1⟩)]) := by unfold chanQ; simp only [e0]; simp [h129, h203]
         exact ⟨congrArg (fun t => Ending.returned (Value.agg (Tfound.arr t))) eC.symm, back0 hw216⟩
       · refine q_rS 0 3 [] [[o0, oF, o0]] [EF ((srcC c (h : Int) : Nat) : Int) 1] [(1, i6 (h : Int)), (qt5j_30 z), (7, i6 (mostI y8)), (qt5j_29 c h), (qt5j_22 h), (45, .bool false), (46, i6 (h : Int))] rfl ⟨ef (by omega), trivial⟩ ?_
         refine l_call [] [] 67 #[i6 (h : Int)] (some 47) trivial ?_
         intro w217 hw217
         refine (at_calls w217 (h : Int)).mono ?_
         rintro e w218 ⟨rfl, hkw218⟩
         have hnw218 : w202.heap.size ≤ w218.heap.size := size_of hw217 hkw218
         refine ⟨_, _, rfl, hw217.keeps hkw218, ?_⟩
         refine l_keep [1, 4, 7, 9, 43, 45, 47] [(1, i6 (h : Int)), (qt5j_30 z), (7, i6 (mostI y8)), (qt5j_29 c h), (qt5j_22 h), (45, .bool false), (qt5j_25 h)] ?_
         refine l_call [] [] 41 #[.bool false, i6 416, .agg #[i6 (h : Int), i6 (-1)]] (some 48) trivial ?_
         intro w219 hw219
         refine (unless_calls w219 (hL.ext (hw219.ext rfl)) false 416 (h : Int) (-1)).mono ?_
         rintro e w220 ⟨rfl, hkw220⟩
         have hnw220 : w218.heap.size ≤ w220.heap.size := size_of hw219 hkw220
         refine ⟨_, _, rfl, hw219.keeps hkw220, ?_⟩
         refine q_rS 0 2 [] [[o0, o0]] [] [(1, i6 (h : Int)), (qt5j_30 z), (qt5j_22 h), (qt5j_21 h), (qt5j_27 c h), (50, i6 (mostI y8))] rfl trivial ?_
         refine l_call [] [] 42 #[i6 ((dstC c (h : Int) : Nat) : Int), i6 1, i6 (mostI y8)] (some 51) trivial ?_
         intro w221 hw221
         refine (within_calls w221 ((dstC c (h : Int) : Nat) : Int) 1 (mostI y8)).mono ?_
         rintro e w222 ⟨rfl, hkw222⟩
         have hnw222 : w220.heap.size ≤ w222.heap.size := size_of hw221 hkw222
         refine ⟨_, _, rfl, hw221.keeps hkw222, ?_⟩
         refine q_rS 0 1 [] [[o0]] [] [(qt5j_30 z), (qt5j_22 h), (qt5j_21 h), (qt5j_19 c h y8), (52, i6 (h : Int))] rfl trivial ?_
         refine l_call [] [] 67 #[i6 (h : Int)] (some 53) trivial ?_
         intro w223 hw223
         refine (at_calls w223 (h : Int)).mono ?_
         rintro e w224 ⟨rfl, hkw224⟩
         have hnw224 : w222.heap.size ≤ w224.heap.size := size_of hw223 hkw224
         refine ⟨_, _, rfl, hw223.keeps hkw224, ?_⟩
         refine l_keep [4, 43, 48, 51, 53] [(qt5j_30 z), (qt5j_22 h), (qt5j_21 h), (qt5j_19 c h y8), (qt5j_26 h)] ?_
         refine l_call [] [] 41 #[.bool (win ((dstC c (h : Int) : Nat) : Int) 1 (mostI y8)), i6 417, .agg #[i6 (h : Int), i6 (-1)]] (some 54) trivial ?_
         intro w225 hw225
         refine (unless_calls w225 (hL.ext (hw225.ext rfl)) (win ((dstC c (h : Int) : Nat) : Int) 1 (mostI y8)) 417 (h : Int) (-1)).mono ?_
         rintro e w226 ⟨rfl, hkw226⟩
         have hnw226 : w224.heap.size ≤ w226.heap.size := size_of hw225 hkw226
         refine ⟨_, _, rfl, hw225.keeps hkw226, ?_⟩
         refine q_r 0 1 [] [[o0]] [] [(qt5j_30 z), (55, .slice (some ⟨w226.heap.size, 0, none⟩) 3 3)] ⟨w, w226.heap.size + 1, [(old0 w), (qt5j_18 z c), (qt5j_16 z), (qt5j_17 z y8), (qt5j_6 w226 h c y8)]⟩ rfl trivial ?_
         refine l_call [] [] 65 #[.slice (some ⟨w226.heap.size, 0, none⟩) 3 3] (some 56) trivial ?_
         intro w227 hw227
         refine (first_calls w227 (hL.ext (hw227.ext rfl)) ⟨some ⟨w226.heap.size, 0, none⟩, 3, [(unl false 415 ⟨(h : Int), -1⟩), (unl false 416 ⟨(h : Int), -1⟩), (unl (win ((dstC c (h : Int) : Nat) : Int) 1 (mostI y8)) 417 ⟨(h : Int), -1⟩)]⟩ (slok_blk hw227 (i := 4) [(unl false 415 ⟨(h : Int), -1⟩), (unl false 416 ⟨(h : Int), -1⟩), (unl (win ((dstC c (h : Int) : Nat) : Int) 1 (mostI y8)) 417 ⟨(h : Int), -1⟩)]) (show 3 ≤ 1000 by decide)).mono ?_
         rintro e w228 ⟨rfl, hkw228⟩
         have hnw228 : w226.heap.size + 1 ≤ w228.heap.size := size_of hw227 hkw228
         refine ⟨_, _, rfl, hw227.keeps hkw228, ?_⟩
         refine q_r 3 0 [] [[(an 3 2)]] [Qb (z + 1), Qb (z + 1), Qb (z + 1)] [(qt5j_30 z)] ⟨w, w228.heap.size, [(old0 w), (qt5j_18 z c), (qt5j_14 z h c y8), (qt5j_17 z y8), (qt5j_6 w226 h c y8)]⟩ rfl ⟨rfl, rfl, rfl, trivial⟩ ?_
         refine e_ret [.at 2, .at 2, .at 2] [Qb (z + 1), Qb (z + 1), Qb (z + 1)] (.agg #[i6 ((fstW [(unl false 415 ⟨(h : Int), -1⟩), (unl false 416 ⟨(h : Int), -1⟩), (unl (win ((dstC c (h : Int) : Nat) : Int) 1 (mostI y8)) 417 ⟨(h : Int), -1⟩)]).e), i6 ((fstW [(unl false 415 ⟨(h : Int), -1⟩), (unl false 416 ⟨(h : Int), -1⟩), (unl (win ((dstC c (h : Int) : Nat) : Int) 1 (mostI y8)) 417 ⟨(h : Int), -1⟩)]).where_.First), i6 ((fstW [(unl false 415 ⟨(h : Int), -1⟩), (unl false 416 ⟨(h : Int), -1⟩), (unl (win ((dstC c (h : Int) : Nat) : Int) 1 (mostI y8)) 417 ⟨(h : Int), -1⟩)]).where_.Second)]) ⟨rfl, rfl, rfl, trivial⟩ ?_
         intro w229 hw229
         have e0 : chaC c h = y8 := hy8.symm
         have eC : chanQ c h = (fstW [(unl false 415 ⟨(h : Int), -1⟩), (unl false 416 ⟨(h : Int), -1⟩), (unl (win ((dstC c (h : Int) : Nat) : Int) 1 (mostI y8)) 417 ⟨(h : Int), -1⟩)]) := by unfold chanQ; simp only [e0]; simp [h129, h203]
         exact ⟨congrArg (fun t => Ending.returned (Value.agg (Tfound.arr t))) eC.symm, back0 hw229⟩

end Go.Proofs.YtnjhekfgmbpmlaaDoor.Ad
