/- The cursor's partition and configuration. No conditions. -/
import Derived.Test.YtmmkacfeocnblaaYm
import Derived.Test.YtmmkacfeocnblaaYg
namespace Go.Proofs.Ytmmkacfeocnblaa.Ly
open Go Go.Proofs.Ytmmkacfeocnblaa.Eng Go.Proofs.Ytmmkacfeocnblaa.Mem
set_option linter.unusedSimpArgs false
set_option linter.unusedVariables false
set_option maxRecDepth 100000

def CMPost {α β : Type} (w : World) (pc : Nat) (l : Sl Int) (at' : Nat) (bad : Bool) (r : PR β) (pl : α → β) (val : α → Value) (fs : α → List (Nat → Ch)) (e : Ending) (w' : World) : Prop :=
  ∃ x bd a, e = .returned (val x) ∧ Step bad at' r bd a (pl x) ∧ a ≤ l.xs.length ∧ CurIs w' pc l a bd ∧ Keeps (fun b => b = pc) w w' ∧ Made w w' (fs x)
theorem cur_made {A : AW} {w w' : World} {i pc : Nat} {cp cp' : Array Value} {tp : TypeId} {fs : List (Nat → Ch)} (h : Sat A w) (hi : A.σ[i]? = some (.blk pc (.cells cp tp (0, 0)) true)) (hc : At w' pc (.cells cp' tp (0, 0))) (hk : Keeps (fun b => b = pc) w w') (hM : Made w w' fs) (z : Nat) (hz : z ≤ A.n) : A.n ≤ w'.heap.size ∧ Sat { A with n := w'.heap.size, σ := A.σ.set i (.blk pc (.cells cp' tp (0, 0)) true) ++ fs.map (· z) } w' :=
  ⟨size_of h hk, h.turnMade hi rfl rfl hk hc (Ch.stable_blk _ _ _) (fun _ h => h) (hM.1 z (by rw [h.size]; exact hz)) (hM.2 z)⟩
/-- .. the same, whose elements are told by another list. -/
theorem LStep.moreM {α β : Type} {pl : α → β} {bd1 bd : Bool} {a1 a a2 i : Nat} {one : Nat → PR β} {xs : List α} {x : α} (h : LStep bd1 a1 one i false a (xs.map pl)) (hx : Step false a (one a) bd a2 (pl x)) : LStep bd1 a1 one (i + 1) bd a2 ((xs ++ [x]).map pl) := by
  rw [map_push]; exact h.more hx
abbrev qk9m_0 (z : Nat) : Ch := bk z #[.string (⟨#[]⟩), i6 0, i6 0, i6 0, i6 0, i6 0, .slice none 0 0, .slice none 0 0] 69
abbrev qk9m_1 (w5 : World) : Nat × Value := (3, pt w5.heap.size)
abbrev qk9m_2 (pc : Nat) : Nat × Value := (0, pt pc)
theorem cpart (w : World) (pc : Nat) (l : Sl Int) (at0 : Nat) (bad : Bool) (hc : CurIs w pc l at0 bad) (hl : SlAt u8c 1 (fun x => x < w.heap.size ∧ ¬ x = pc) w l) (hB : Byt l.xs) (hlen : l.xs.length ≤ 16384) (hat : at0 ≤ l.xs.length) : Calls Try.prog 84 #[.pointer (some ⟨pc, 0, none⟩)] w fun e w' => CMPost w pc l at0 bad (partAt l.xs at0) plP (fun x => .agg (TPartition.arr x)) partFs e w' := by
 obtain ⟨z, hz⟩ : ∃ z, z = w.heap.size := ⟨_, rfl⟩
 refine calls_G (args := [pt pc]) 29 ⟨w, z, [(old (fun b => b = pc) w), (bk pc #[.slice l.a l.xs.length l.cap, i6 (at0 : Int), .bool bad] 91)]⟩ Try.func84 rfl (by kernel_rfl) (by kernel_rfl) (hz ▸ sat_cur hc) ?_
 refine g_keep [0] [(qk9m_2 pc)] ?_
 refine q_c 6 1 [] [[o0], [o0]] [] [(qk9m_2 pc), (2, pt z), (4, pt pc)] ⟨w, z + 1, [(old (fun b => b = pc) w), (bk pc #[.slice l.a l.xs.length l.cap, i6 (at0 : Int), .bool bad] 91), (qk9m_0 z)]⟩ rfl trivial ?_
 refine l_call [] [] 98 #[pt pc] (some 5) trivial ?_
 intro w1 hw1
 refine (stext_calls (hw1.at (i := 1) rfl) (sl_mono (fun x _ _ hx hv => old_cell hv hx.2 _ (hw1.at (i := 0) rfl)) (fun x hx => ⟨Nat.lt_of_lt_of_le hx.1 (by rw [hw1.size]; show w.heap.size ≤ z + 1; omega), hx.2⟩) hl) hB hlen (by omega)).mono ?_
 rintro e w5 ⟨s2, d3, n4, rfl, hstw5, hrxw5, hlaw5, hCw5, hkw5⟩
 obtain ⟨hnw5, hSw5⟩ := cur_set hw1 (i := 1) rfl hCw5 hkw5; have hnw5' : z + 1 ≤ w5.heap.size := hnw5
 refine ⟨_, _, rfl, hSw5, ?_⟩
 refine q_r 4 1 [] [[o0, o0, (an 8 3)], [o0]] [Qb w5.heap.size, Qb w5.heap.size, Qb w5.heap.size, Qb w5.heap.size, Qb w5.heap.size, Qb w5.heap.size, Qb w5.heap.size, Qb w5.heap.size] [(qk9m_2 pc), (2, pt z), (qk9m_1 w5), (7, pt pc)] ⟨w, w5.heap.size + 1, [(old (fun b => b = pc) w), (bk pc #[.slice l.a l.xs.length l.cap, i6 (n4 : Int), .bool d3] 91), (qk9m_0 z), (.blk w5.heap.size (.cells #[.string s2, i6 0, i6 0, i6 0, i6 0, i6 0, .slice none 0 0, .slice none 0 0] 69 (0, 0)) true)]⟩ rfl ⟨rfl, rfl, rfl, rfl, rfl, rfl, rfl, rfl, trivial⟩ ?_
 refine l_call [] [] 47 #[pt pc, i6 4] (some 8) trivial ?_
 intro w6 hw6
 refine (snum_calls (hw6.at (i := 1) rfl) (sl_mono (fun x _ _ hx hv => old_cell hv hx.2 _ (hw6.at (i := 0) rfl)) (fun x hx => ⟨Nat.lt_of_lt_of_le hx.1 (by rw [hw6.size]; show w.heap.size ≤ w5.heap.size + 1; omega), hx.2⟩) hl) hB hlen (by omega)).mono ?_
 rintro e w10 ⟨v7, d8, n9, rfl, hstw10, hrxw10, hlaw10, hCw10, hkw10⟩
 obtain ⟨hnw10, hSw10⟩ := cur_set hw6 (i := 1) rfl hCw10 hkw10; have hnw10' : w5.heap.size + 1 ≤ w10.heap.size := hnw10
 refine ⟨_, _, rfl, hSw10, ?_⟩
 refine q_r 4 1 [] [[o0, (a1 3)], [o0]] [Qb w5.heap.size] [(qk9m_2 pc), (2, pt z), (qk9m_1 w5), (10, pt pc)] ⟨w, w10.heap.size, [(old (fun b => b = pc) w), (bk pc #[.slice l.a l.xs.length l.cap, i6 (n9 : Int), .bool d8] 91), (qk9m_0 z), (.blk w5.heap.size (.cells #[.string s2, i6 v7, i6 0, i6 0, i6 0, i6 0, .slice none 0 0, .slice none 0 0] 69 (0, 0)) true)]⟩ rfl ⟨rfl, trivial⟩ ?_
 refine l_call [] [] 47 #[pt pc, i6 4] (some 11) trivial ?_
 intro w11 hw11
 refine (snum_calls (hw11.at (i := 1) rfl) (sl_mono (fun x _ _ hx hv => old_cell hv hx.2 _ (hw11.at (i := 0) rfl)) (fun x hx => ⟨Nat.lt_of_lt_of_le hx.1 (by rw [hw11.size]; show w.heap.size ≤ w10.heap.size; omega), hx.2⟩) hl) hB hlen (by omega)).mono ?_
 rintro e w15 ⟨v12, d13, n14, rfl, hstw15, hrxw15, hlaw15, hCw15, hkw15⟩
 obtain ⟨hnw15, hSw15⟩ := cur_set hw11 (i := 1) rfl hCw15 hkw15; have hnw15' : w10.heap.size ≤ w15.heap.size := hnw15
 refine ⟨_, _, rfl, hSw15, ?_⟩
 refine q_r 4 1 [] [[o0, (a1 3)], [o0]] [Qb w5.heap.size] [(qk9m_2 pc), (2, pt z), (qk9m_1 w5), (13, pt pc)] ⟨w, w15.heap.size, [(old (fun b => b = pc) w), (bk pc #[.slice l.a l.xs.length l.cap, i6 (n14 : Int), .bool d13] 91), (qk9m_0 z), (.blk w5.heap.size (.cells #[.string s2, i6 v7, i6 v12, i6 0, i6 0, i6 0, .slice none 0 0, .slice none 0 0] 69 (0, 0)) true)]⟩ rfl ⟨rfl, trivial⟩ ?_
 refine l_call [] [] 47 #[pt pc, i6 4] (some 14) trivial ?_
 intro w16 hw16
 refine (snum_calls (hw16.at (i := 1) rfl) (sl_mono (fun x _ _ hx hv => old_cell hv hx.2 _ (hw16.at (i := 0) rfl)) (fun x hx => ⟨Nat.lt_of_lt_of_le hx.1 (by rw [hw16.size]; show w.heap.size ≤ w15.heap.size; omega), hx.2⟩) hl) hB hlen (by omega)).mono ?_
 rintro e w20 ⟨v17, d18, n19, rfl, hstw20, hrxw20, hlaw20, hCw20, hkw20⟩
 obtain ⟨hnw20, hSw20⟩ := cur_set hw16 (i := 1) rfl hCw20 hkw20; have hnw20' : w15.heap.size ≤ w20.heap.size := hnw20
 refine ⟨_, _, rfl, hSw20, ?_⟩
 refine q_r 4 1 [] [[o0, (a1 3)], [o0]] [Qb w5.heap.size] [(qk9m_2 pc), (2, pt z), (qk9m_1 w5), (16, pt pc)] ⟨w, w20.heap.size, [(old (fun b => b = pc) w), (bk pc #[.slice l.a l.xs.length l.cap, i6 (n19 : Int), .bool d18] 91), (qk9m_0 z), (.blk w5.heap.size (.cells #[.string s2, i6 v7, i6 v12, i6 v17, i6 0, i6 0, .slice none 0 0, .slice none 0 0] 69 (0, 0)) true)]⟩ rfl ⟨rfl, trivial⟩ ?_
 refine l_call [] [] 47 #[pt pc, i6 4] (some 17) trivial ?_
 intro w21 hw21
 refine (snum_calls (hw21.at (i := 1) rfl) (sl_mono (fun x _ _ hx hv => old_cell hv hx.2 _ (hw21.at (i := 0) rfl)) (fun x hx => ⟨Nat.lt_of_lt_of_le hx.1 (by rw [hw21.size]; show w.heap.size ≤ w20.heap.size; omega), hx.2⟩) hl) hB hlen (by omega)).mono ?_
 rintro e w25 ⟨v22, d23, n24, rfl, hstw25, hrxw25, hlaw25, hCw25, hkw25⟩
 obtain ⟨hnw25, hSw25⟩ := cur_set hw21 (i := 1) rfl hCw25 hkw25; have hnw25' : w20.heap.size ≤ w25.heap.size := hnw25
 refine ⟨_, _, rfl, hSw25, ?_⟩
 refine q_r 4 1 [] [[o0, (a1 3)], [o0]] [Qb w5.heap.size] [(qk9m_2 pc), (2, pt z), (qk9m_1 w5), (19, pt pc)] ⟨w, w25.heap.size, [(old (fun b => b = pc) w), (bk pc #[.slice l.a l.xs.length l.cap, i6 (n24 : Int), .bool d23] 91), (qk9m_0 z), (.blk w5.heap.size (.cells #[.string s2, i6 v7, i6 v12, i6 v17, i6 v22, i6 0, .slice none 0 0, .slice none 0 0] 69 (0, 0)) true)]⟩ rfl ⟨rfl, trivial⟩ ?_
 refine l_call [] [] 47 #[pt pc, i6 4] (some 20) trivial ?_
 intro w26 hw26
 refine (snum_calls (hw26.at (i := 1) rfl) (sl_mono (fun x _ _ hx hv => old_cell hv hx.2 _ (hw26.at (i := 0) rfl)) (fun x hx => ⟨Nat.lt_of_lt_of_le hx.1 (by rw [hw26.size]; show w.heap.size ≤ w25.heap.size; omega), hx.2⟩) hl) hB hlen (by omega)).mono ?_
 rintro e w30 ⟨v27, d28, n29, rfl, hstw30, hrxw30, hlaw30, hCw30, hkw30⟩
 obtain ⟨hnw30, hSw30⟩ := cur_set hw26 (i := 1) rfl hCw30 hkw30; have hnw30' : w25.heap.size ≤ w30.heap.size := hnw30
 refine ⟨_, _, rfl, hSw30, ?_⟩
 refine q_r 4 1 [] [[o0, (a1 3)], [o0]] [Qb w5.heap.size] [(qk9m_2 pc), (2, pt z), (qk9m_1 w5), (22, pt pc)] ⟨w, w30.heap.size, [(old (fun b => b = pc) w), (bk pc #[.slice l.a l.xs.length l.cap, i6 (n29 : Int), .bool d28] 91), (qk9m_0 z), (.blk w5.heap.size (.cells #[.string s2, i6 v7, i6 v12, i6 v17, i6 v22, i6 v27, .slice none 0 0, .slice none 0 0] 69 (0, 0)) true)]⟩ rfl ⟨rfl, trivial⟩ ?_
 refine l_call [] [] 99 #[pt pc] (some 23) trivial ?_
 intro w31 hw31
 refine (cregs w31 pc l n29 d28 (hw31.at (i := 1) rfl) (sl_mono (fun x _ _ hx hv => old_cell hv hx.2 _ (hw31.at (i := 0) rfl)) (fun x hx => ⟨Nat.lt_of_lt_of_le hx.1 (by rw [hw31.size]; show w.heap.size ≤ w30.heap.size; omega), hx.2⟩) hl) hB hlen (by omega)).mono ?_
 rintro e w37 ⟨x32, d33, n34, a35, cp36, rfl, hstw37, hxlw37, hlaw37, hCw37, hkw37, how37⟩
 obtain ⟨hnw37, hSw37⟩ := cur_row hw31 (i := 1) rfl hCw37 hkw37 how37 z (show z ≤ w30.heap.size by omega); have hnw37' : w30.heap.size ≤ w37.heap.size := hnw37
 refine ⟨_, _, rfl, hSw37, ?_⟩
 refine q_r 4 1 [] [[o0, (a1 3)], [o0]] [Qb w5.heap.size] [(2, pt z), (qk9m_1 w5), (25, pt pc)] ⟨w, w37.heap.size, [(old (fun b => b = pc) w), (bk pc #[.slice l.a l.xs.length l.cap, i6 (n34 : Int), .bool d33] 91), (qk9m_0 z), (.blk w5.heap.size (.cells #[.string s2, i6 v7, i6 v12, i6 v17, i6 v22, i6 v27, .slice a35 x32.length cp36, .slice none 0 0] 69 (0, 0)) true), (rowL z 99 4 TRegion.cells (.slice a35 x32.length cp36) x32)]⟩ rfl ⟨rfl, trivial⟩ ?_
 refine l_call [] [] 100 #[pt pc] (some 26) trivial ?_
 intro w38 hw38
 refine (cports w38 pc l n34 d33 (hw38.at (i := 1) rfl) (sl_mono (fun x _ _ hx hv => old_cell hv hx.2 _ (hw38.at (i := 0) rfl)) (fun x hx => ⟨Nat.lt_of_lt_of_le hx.1 (by rw [hw38.size]; show w.heap.size ≤ w37.heap.size; omega), hx.2⟩) hl) hB hlen (by omega)).mono ?_
 rintro e w44 ⟨x39, d40, n41, a42, cp43, rfl, hstw44, hxlw44, hlaw44, hCw44, hkw44, how44⟩
 obtain ⟨hnw44, hSw44⟩ := cur_row hw38 (i := 1) rfl hCw44 hkw44 how44 z (show z ≤ w37.heap.size by omega); have hnw44' : w37.heap.size ≤ w44.heap.size := hnw44
 refine ⟨_, _, rfl, hSw44, ?_⟩
 refine q_r 7 0 [] [[o0, (a1 3)], [(an 8 3), (an 8 2)]] [Qb w5.heap.size, Qb w5.heap.size, Qb w5.heap.size, Qb w5.heap.size, Qb w5.heap.size, Qb w5.heap.size, Qb w5.heap.size, Qb w5.heap.size, Qb w5.heap.size, Qb z, Qb z, Qb z, Qb z, Qb z, Qb z, Qb z, Qb z] [(2, pt z)] ⟨w, w44.heap.size, [(old (fun b => b = pc) w), (bk pc #[.slice l.a l.xs.length l.cap, i6 (n41 : Int), .bool d40] 91), (bk z #[.string s2, i6 v7, i6 v12, i6 v17, i6 v22, i6 v27, .slice a35 x32.length cp36, .slice a42 x39.length cp43] 69), (.blk w5.heap.size (.cells #[.string s2, i6 v7, i6 v12, i6 v17, i6 v22, i6 v27, .slice a35 x32.length cp36, .slice a42 x39.length cp43] 69 (0, 0)) true), (rowL z 99 4 TRegion.cells (.slice a35 x32.length cp36) x32), (rowL z 101 2 TPort.cells (.slice a42 x39.length cp43) x39)]⟩ rfl ⟨rfl, rfl, rfl, rfl, rfl, rfl, rfl, rfl, rfl, rfl, rfl, rfl, rfl, rfl, rfl, rfl, rfl, trivial⟩ ?_
 refine e_ret [.at 2, .at 2, .at 2, .at 2, .at 2, .at 2, .at 2, .at 2] [Qb z, Qb z, Qb z, Qb z, Qb z, Qb z, Qb z, Qb z] (.agg #[.string s2, i6 v7, i6 v12, i6 v17, i6 v22, i6 v27, .slice a35 x32.length cp36, .slice a42 x39.length cp43]) ⟨rfl, rfl, rfl, rfl, rfl, rfl, rfl, rfl, trivial⟩ ?_
 intro w45 hw45
 exact ⟨(⟨s2, v7, v12, v17, v22, v27, ⟨a35, cp36, x32⟩, ⟨a42, cp43, x39⟩⟩ : TPartition), _, _, rfl, (by unfold partAt; exact hstw5.bind (hstw10.bind (hstw15.bind (hstw20.bind (hstw25.bind (hstw30.bind (hstw37.bind (hstw44.map)))))))), by omega, hw45.at (i := 1) rfl, back0 hw45, made_of (fs := partFs (⟨s2, v7, v12, v17, v22, v27, ⟨a35, cp36, x32⟩, ⟨a42, cp43, x39⟩⟩ : TPartition)) (part_low (⟨s2, v7, v12, v17, v22, v27, ⟨a35, cp36, x32⟩, ⟨a42, cp43, x39⟩⟩ : TPartition)) (by have hP := hw45.pick [4, 5] (σ' := [(rowL z 99 4 TRegion.cells (.slice a35 x32.length cp36) x32), (rowL z 101 2 TPort.cells (.slice a42 x39.length cp43) x39)]) rfl rfl; rw [hw45.size]; exact hz ▸ hP)⟩
abbrev qi7o_0 (z : Nat) (v2 : Int) (v7 : Int) (v12 : Int) (v17 : Int) (aL0 : Option Addr) (xs0 : List (Sl TWindow)) (cL0 : Nat) (a144 : Option Addr) (xs1 : List TPartition) (x139 : TPartition) (cp145 : Nat) : Ch := bk (z + 1) #[i6 v2, i6 v7, i6 v12, i6 v17, .slice aL0 xs0.length cL0, .slice a144 ((xs1 ++ [(⟨x139.Name, x139.Entry, x139.Action, x139.Restarts, x139.Inputs, x139.Outputs, (⟨x139.Regions.a, x139.Regions.cap, x139.Regions.xs⟩ : Sl TRegion), (⟨x139.Ports.a, x139.Ports.cap, x139.Ports.xs⟩ : Sl TPort)⟩ : TPartition)]).length) cp145, .slice none 0 0] 26
abbrev qi7o_1 (z : Nat) (v2 : Int) (v7 : Int) (v12 : Int) (v17 : Int) (aL0 : Option Addr) (xs0 : List (Sl TWindow)) (cL0 : Nat) (a58 : Option Addr) (xs1 : List TPartition) (x53 : TPartition) (cp59 : Nat) : Ch := bk (z + 1) #[i6 v2, i6 v7, i6 v12, i6 v17, .slice aL0 xs0.length cL0, .slice a58 ((xs1 ++ [(⟨x53.Name, x53.Entry, x53.Action, x53.Restarts, x53.Inputs, x53.Outputs, (⟨x53.Regions.a, x53.Regions.cap, x53.Regions.xs⟩ : Sl TRegion), (⟨x53.Ports.a, x53.Ports.cap, x53.Ports.xs⟩ : Sl TPort)⟩ : TPartition)]).length) cp59, .slice none 0 0] 26
abbrev qi7o_2 (w142 : World) (x139 : TPartition) : Ch := .blk w142.heap.size (.cells #[.string x139.Name, i6 x139.Entry, i6 x139.Action, i6 x139.Restarts, i6 x139.Inputs, i6 x139.Outputs, .slice x139.Regions.a x139.Regions.xs.length x139.Regions.cap, .slice x139.Ports.a x139.Ports.xs.length x139.Ports.cap] 69 (0, 0)) true
abbrev qi7o_3 (w56 : World) (x53 : TPartition) : Ch := .blk w56.heap.size (.cells #[.string x53.Name, i6 x53.Entry, i6 x53.Action, i6 x53.Restarts, i6 x53.Inputs, i6 x53.Outputs, .slice x53.Regions.a x53.Regions.xs.length x53.Regions.cap, .slice x53.Ports.a x53.Ports.xs.length x53.Ports.cap] 69 (0, 0)) true
abbrev qi7o_4 (z : Nat) (v2 : Int) (v7 : Int) (v12 : Int) (v17 : Int) (a38 : Option Addr) (xs0 : List (Sl TWindow)) (a34 : Option Addr) (cp35 : Nat) (x31 : List TWindow) (cp39 : Nat) : Ch := bk (z + 1) #[i6 v2, i6 v7, i6 v12, i6 v17, .slice a38 ((xs0 ++ [(⟨a34, cp35, x31⟩ : Sl TWindow)]).length) cp39, .slice none 0 0, .slice none 0 0] 26
abbrev qi7o_5 (z : Nat) (v2 : Int) (v7 : Int) (v12 : Int) (v17 : Int) (aL0 : Option Addr) (xs0 : List (Sl TWindow)) (cL0 : Nat) (aL1 : Option Addr) (xs1 : List TPartition) (cL1 : Nat) (aL2 : Option Addr) (xs2 : List TChannel) (cL2 : Nat) : Ch := bk (z + 1) #[i6 v2, i6 v7, i6 v12, i6 v17, .slice aL0 xs0.length cL0, .slice aL1 xs1.length cL1, .slice aL2 xs2.length cL2] 26
abbrev qi7o_6 (z : Nat) (v2 : Int) (v7 : Int) (v12 : Int) (v17 : Int) (aL0 : Option Addr) (xs0 : List (Sl TWindow)) (cL0 : Nat) (aL1 : Option Addr) (xs1 : List TPartition) (cL1 : Nat) (aL2 : Option Addr) (xs2 : List TChannel) (cL2 : Nat) : Ch := bk z #[i6 v2, i6 v7, i6 v12, i6 v17, .slice aL0 xs0.length cL0, .slice aL1 xs1.length cL1, .slice aL2 xs2.length cL2] 26
abbrev qi7o_7 (z : Nat) (v2 : Int) (v7 : Int) (v12 : Int) (v17 : Int) (aL0 : Option Addr) (xs0 : List (Sl TWindow)) (cL0 : Nat) (aL1 : Option Addr) (xs1 : List TPartition) (cL1 : Nat) : Ch := bk (z + 1) #[i6 v2, i6 v7, i6 v12, i6 v17, .slice aL0 xs0.length cL0, .slice aL1 xs1.length cL1, .slice none 0 0] 26
abbrev qi7o_8 (z : Nat) (v2 : Int) (v7 : Int) (v12 : Int) (v17 : Int) (aL0 : Option Addr) (xs0 : List (Sl TWindow)) (cL0 : Nat) : Ch := bk (z + 1) #[i6 v2, i6 v7, i6 v12, i6 v17, .slice aL0 xs0.length cL0, .slice none 0 0, .slice none 0 0] 26
abbrev qi7o_9 (z : Nat) : Ch := bk z #[i6 0, i6 0, i6 0, i6 0, .slice none 0 0, .slice none 0 0, .slice none 0 0] 26
abbrev qi7o_10 (pc : Nat) (l : Sl Int) (n118 : Nat) (d117 : Bool) : Ch := bk pc #[.slice l.a l.xs.length l.cap, i6 (n118 : Int), .bool d117] 91
abbrev qi7o_11 (pc : Nat) (l : Sl Int) (n141 : Nat) (d140 : Bool) : Ch := bk pc #[.slice l.a l.xs.length l.cap, i6 (n141 : Int), .bool d140] 91
abbrev qi7o_12 (pc : Nat) (l : Sl Int) (n171 : Nat) (d170 : Bool) : Ch := bk pc #[.slice l.a l.xs.length l.cap, i6 (n171 : Int), .bool d170] 91
abbrev qi7o_13 (pc : Nat) (l : Sl Int) (n204 : Nat) (d203 : Bool) : Ch := bk pc #[.slice l.a l.xs.length l.cap, i6 (n204 : Int), .bool d203] 91
abbrev qi7o_14 (pc : Nat) (l : Sl Int) (at2 : Nat) : Ch := bk pc #[.slice l.a l.xs.length l.cap, i6 (at2 : Int), .bool true] 91
abbrev qi7o_15 (pc : Nat) (l : Sl Int) (n33 : Nat) (d32 : Bool) : Ch := bk pc #[.slice l.a l.xs.length l.cap, i6 (n33 : Int), .bool d32] 91
abbrev qi7o_16 (pc : Nat) (l : Sl Int) (at1 : Nat) (bd1 : Bool) : Ch := bk pc #[.slice l.a l.xs.length l.cap, i6 (at1 : Int), .bool bd1] 91
abbrev qi7o_17 (pc : Nat) (l : Sl Int) (n55 : Nat) (d54 : Bool) : Ch := bk pc #[.slice l.a l.xs.length l.cap, i6 (n55 : Int), .bool d54] 91
abbrev qi7o_18 (pc : Nat) (l : Sl Int) (at2 : Nat) (bd2 : Bool) : Ch := bk pc #[.slice l.a l.xs.length l.cap, i6 (at2 : Int), .bool bd2] 91
abbrev qi7o_19 (pc : Nat) (l : Sl Int) (n85 : Nat) (d84 : Bool) : Ch := bk pc #[.slice l.a l.xs.length l.cap, i6 (n85 : Int), .bool d84] 91
abbrev qi7o_20 (w36 : World) (a34 : Option Addr) (x31 : List TWindow) (cp35 : Nat) : Ch := .blk w36.heap.size (.cells #[.slice a34 x31.length cp35] 62 (0, 0)) true
abbrev qi7o_21 (z : Nat) (a144 : Option Addr) (xs1 : List TPartition) (x139 : TPartition) (cp145 : Nat) : Ch := rowL z 69 8 TPartition.cells (.slice a144 ((xs1 ++ [(⟨x139.Name, x139.Entry, x139.Action, x139.Restarts, x139.Inputs, x139.Outputs, (⟨x139.Regions.a, x139.Regions.cap, x139.Regions.xs⟩ : Sl TRegion), (⟨x139.Ports.a, x139.Ports.cap, x139.Ports.xs⟩ : Sl TPort)⟩ : TPartition)]).length) cp145) (xs1 ++ [(⟨x139.Name, x139.Entry, x139.Action, x139.Restarts, x139.Inputs, x139.Outputs, (⟨x139.Regions.a, x139.Regions.cap, x139.Regions.xs⟩ : Sl TRegion), (⟨x139.Ports.a, x139.Ports.cap, x139.Ports.xs⟩ : Sl TPort)⟩ : TPartition)])
abbrev qi7o_22 (z : Nat) (a58 : Option Addr) (xs1 : List TPartition) (x53 : TPartition) (cp59 : Nat) : Ch := rowL z 69 8 TPartition.cells (.slice a58 ((xs1 ++ [(⟨x53.Name, x53.Entry, x53.Action, x53.Restarts, x53.Inputs, x53.Outputs, (⟨x53.Regions.a, x53.Regions.cap, x53.Regions.xs⟩ : Sl TRegion), (⟨x53.Ports.a, x53.Ports.cap, x53.Ports.xs⟩ : Sl TPort)⟩ : TPartition)]).length) cp59) (xs1 ++ [(⟨x53.Name, x53.Entry, x53.Action, x53.Restarts, x53.Inputs, x53.Outputs, (⟨x53.Regions.a, x53.Regions.cap, x53.Regions.xs⟩ : Sl TRegion), (⟨x53.Ports.a, x53.Ports.cap, x53.Ports.xs⟩ : Sl TPort)⟩ : TPartition)])
abbrev qi7o_23 (z : Nat) (a38 : Option Addr) (xs0 : List (Sl TWindow)) (a34 : Option Addr) (cp35 : Nat) (x31 : List TWindow) (cp39 : Nat) : Ch := rowL z 62 1 (fun x : Sl TWindow => [Sl.val x]) (.slice a38 ((xs0 ++ [(⟨a34, cp35, x31⟩ : Sl TWindow)]).length) cp39) (xs0 ++ [(⟨a34, cp35, x31⟩ : Sl TWindow)])
abbrev qi7o_24 (z : Nat) (x139 : TPartition) : Ch := rowL z 99 4 TRegion.cells (.slice x139.Regions.a x139.Regions.xs.length x139.Regions.cap) x139.Regions.xs
abbrev qi7o_25 (z : Nat) (x53 : TPartition) : Ch := rowL z 99 4 TRegion.cells (.slice x53.Regions.a x53.Regions.xs.length x53.Regions.cap) x53.Regions.xs
abbrev qi7o_26 (z : Nat) (x139 : TPartition) : Ch := rowL z 101 2 TPort.cells (.slice x139.Ports.a x139.Ports.xs.length x139.Ports.cap) x139.Ports.xs
abbrev qi7o_27 (z : Nat) (x53 : TPartition) : Ch := rowL z 101 2 TPort.cells (.slice x53.Ports.a x53.Ports.xs.length x53.Ports.cap) x53.Ports.xs
abbrev qi7o_28 (z : Nat) (aL0 : Option Addr) (xs0 : List (Sl TWindow)) (cL0 : Nat) : Ch := rowL z 62 1 (fun x : Sl TWindow => [Sl.val x]) (.slice aL0 xs0.length cL0) xs0
abbrev qi7o_29 (z : Nat) (aL1 : Option Addr) (xs1 : List TPartition) (cL1 : Nat) : Ch := rowL z 69 8 TPartition.cells (.slice aL1 xs1.length cL1) xs1
abbrev qi7o_30 (z : Nat) (aL2 : Option Addr) (xs2 : List TChannel) (cL2 : Nat) : Ch := rowL z 74 3 TChannel.cells (.slice aL2 xs2.length cL2) xs2
abbrev qi7o_31 (z : Nat) (xs1 : List TPartition) : Ch := famC z 99 4 TRegion.cells (xs1.map TPartition.Regions)
abbrev qi7o_32 (z : Nat) (xs1 : List TPartition) : Ch := famC z 101 2 TPort.cells (xs1.map TPartition.Ports)
abbrev qi7o_33 (a144 : Option Addr) (xs1 : List TPartition) (x139 : TPartition) (cp145 : Nat) : Nat × Value := (63, .slice a144 ((xs1 ++ [(⟨x139.Name, x139.Entry, x139.Action, x139.Restarts, x139.Inputs, x139.Outputs, (⟨x139.Regions.a, x139.Regions.cap, x139.Regions.xs⟩ : Sl TRegion), (⟨x139.Ports.a, x139.Ports.cap, x139.Ports.xs⟩ : Sl TPort)⟩ : TPartition)]).length) cp145)
abbrev qi7o_34 (a58 : Option Addr) (xs1 : List TPartition) (x53 : TPartition) (cp59 : Nat) : Nat × Value := (63, .slice a58 ((xs1 ++ [(⟨x53.Name, x53.Entry, x53.Action, x53.Restarts, x53.Inputs, x53.Outputs, (⟨x53.Regions.a, x53.Regions.cap, x53.Regions.xs⟩ : Sl TRegion), (⟨x53.Ports.a, x53.Ports.cap, x53.Ports.xs⟩ : Sl TPort)⟩ : TPartition)]).length) cp59)
abbrev qi7o_35 (z : Nat) : Nat × Value := (3, pt (z + 1))
abbrev qi7o_36 (i2 : Nat) : Nat × Value := (7, i6 ((i2 + 1 : Nat) : Int))
abbrev qi7o_37 (pc : Nat) : Nat × Value := (0, pt pc)
theorem cconf (w : World) (pc : Nat) (l : Sl Int) (at0 : Nat) (bad : Bool) (hc : CurIs w pc l at0 bad) (hl : SlAt u8c 1 (fun x => x < w.heap.size ∧ ¬ x = pc) w l) (hB : Byt l.xs) (hlen : l.xs.length ≤ 16384) (hat : at0 ≤ l.xs.length) : Calls Try.prog 46 #[.pointer (some ⟨pc, 0, none⟩)] w fun e w' => CMPost w pc l at0 bad (confAt l.xs at0) plC (fun x => .agg (TConfig.arr x)) confFs e w' := by
 obtain ⟨z, hz⟩ : ∃ z, z = w.heap.size := ⟨_, rfl⟩
 refine calls_G (args := [pt pc]) 95 ⟨w, z, [(old (fun b => b = pc) w), (bk pc #[.slice l.a l.xs.length l.cap, i6 (at0 : Int), .bool bad] 91)]⟩ Try.func46 rfl (by kernel_rfl) (by kernel_rfl) (hz ▸ sat_cur hc) ?_
 refine g_keep [0] [(qi7o_37 pc)] ?_
 refine q_c 10 1 [] [[o0], [o0], [o0]] [] [(qi7o_37 pc), (2, pt z), (qi7o_35 z), (11, pt pc)] ⟨w, z + 2, [(old (fun b => b = pc) w), (bk pc #[.slice l.a l.xs.length l.cap, i6 (at0 : Int), .bool bad] 91), (qi7o_9 z), (bk (z + 1) #[i6 0, i6 0, i6 0, i6 0, .slice none 0 0, .slice none 0 0, .slice none 0 0] 26)]⟩ rfl trivial ?_
 refine l_call [] [] 47 #[pt pc, i6 4] (some 12) trivial ?_
 intro w1 hw1
 refine (snum_calls (hw1.at (i := 1) rfl) (sl_mono (fun x _ _ hx hv => old_cell hv hx.2 _ (hw1.at (i := 0) rfl)) (fun x hx => ⟨Nat.lt_of_lt_of_le hx.1 (by rw [hw1.size]; show w.heap.size ≤ z + 2; omega), hx.2⟩) hl) hB hlen (by omega)).mono ?_
 rintro e w5 ⟨v2, d3, n4, rfl, hstw5, hrxw5, hlaw5, hCw5, hkw5⟩
 obtain ⟨hnw5, hSw5⟩ := cur_set hw1 (i := 1) rfl hCw5 hkw5; have hnw5' : z + 2 ≤ w5.heap.size := hnw5
 refine ⟨_, _, rfl, hSw5, ?_⟩
 refine q_r 4 1 [] [[o0, (a1 3)], [o0]] [Qb (z + 1)] [(qi7o_37 pc), (2, pt z), (qi7o_35 z), (14, pt pc)] ⟨w, w5.heap.size, [(old (fun b => b = pc) w), (bk pc #[.slice l.a l.xs.length l.cap, i6 (n4 : Int), .bool d3] 91), (qi7o_9 z), (bk (z + 1) #[i6 v2, i6 0, i6 0, i6 0, .slice none 0 0, .slice none 0 0, .slice none 0 0] 26)]⟩ rfl ⟨rfl, trivial⟩ ?_
 refine l_call [] [] 47 #[pt pc, i6 4] (some 15) trivial ?_
 intro w6 hw6
 refine (snum_calls (hw6.at (i := 1) rfl) (sl_mono (fun x _ _ hx hv => old_cell hv hx.2 _ (hw6.at (i := 0) rfl)) (fun x hx => ⟨Nat.lt_of_lt_of_le hx.1 (by rw [hw6.size]; show w.heap.size ≤ w5.heap.size; omega), hx.2⟩) hl) hB hlen (by omega)).mono ?_
 rintro e w10 ⟨v7, d8, n9, rfl, hstw10, hrxw10, hlaw10, hCw10, hkw10⟩
 obtain ⟨hnw10, hSw10⟩ := cur_set hw6 (i := 1) rfl hCw10 hkw10; have hnw10' : w5.heap.size ≤ w10.heap.size := hnw10
 refine ⟨_, _, rfl, hSw10, ?_⟩
 refine q_r 4 1 [] [[o0, (a1 3)], [o0]] [Qb (z + 1)] [(qi7o_37 pc), (2, pt z), (qi7o_35 z), (17, pt pc)] ⟨w, w10.heap.size, [(old (fun b => b = pc) w), (bk pc #[.slice l.a l.xs.length l.cap, i6 (n9 : Int), .bool d8] 91), (qi7o_9 z), (bk (z + 1) #[i6 v2, i6 v7, i6 0, i6 0, .slice none 0 0, .slice none 0 0, .slice none 0 0] 26)]⟩ rfl ⟨rfl, trivial⟩ ?_
 refine l_call [] [] 47 #[pt pc, i6 4] (some 18) trivial ?_
 intro w11 hw11
 refine (snum_calls (hw11.at (i := 1) rfl) (sl_mono (fun x _ _ hx hv => old_cell hv hx.2 _ (hw11.at (i := 0) rfl)) (fun x hx => ⟨Nat.lt_of_lt_of_le hx.1 (by rw [hw11.size]; show w.heap.size ≤ w10.heap.size; omega), hx.2⟩) hl) hB hlen (by omega)).mono ?_
 rintro e w15 ⟨v12, d13, n14, rfl, hstw15, hrxw15, hlaw15, hCw15, hkw15⟩
 obtain ⟨hnw15, hSw15⟩ := cur_set hw11 (i := 1) rfl hCw15 hkw15; have hnw15' : w10.heap.size ≤ w15.heap.size := hnw15
 refine ⟨_, _, rfl, hSw15, ?_⟩
 refine q_r 4 1 [] [[o0, (a1 3)], [o0]] [Qb (z + 1)] [(qi7o_37 pc), (2, pt z), (qi7o_35 z), (20, pt pc)] ⟨w, w15.heap.size, [(old (fun b => b = pc) w), (bk pc #[.slice l.a l.xs.length l.cap, i6 (n14 : Int), .bool d13] 91), (qi7o_9 z), (bk (z + 1) #[i6 v2, i6 v7, i6 v12, i6 0, .slice none 0 0, .slice none 0 0, .slice none 0 0] 26)]⟩ rfl ⟨rfl, trivial⟩ ?_
 refine l_call [] [] 47 #[pt pc, i6 4] (some 21) trivial ?_
 intro w16 hw16
 refine (snum_calls (hw16.at (i := 1) rfl) (sl_mono (fun x _ _ hx hv => old_cell hv hx.2 _ (hw16.at (i := 0) rfl)) (fun x hx => ⟨Nat.lt_of_lt_of_le hx.1 (by rw [hw16.size]; show w.heap.size ≤ w15.heap.size; omega), hx.2⟩) hl) hB hlen (by omega)).mono ?_
 rintro e w20 ⟨v17, d18, n19, rfl, hstw20, hrxw20, hlaw20, hCw20, hkw20⟩
 obtain ⟨hnw20, hSw20⟩ := cur_set hw16 (i := 1) rfl hCw20 hkw20; have hnw20' : w15.heap.size ≤ w20.heap.size := hnw20
 refine ⟨_, _, rfl, hSw20, ?_⟩
 refine q_r 4 1 [] [[o0, (a1 3)], [o0]] [Qb (z + 1)] [(qi7o_37 pc), (2, pt z), (qi7o_35 z), (23, pt pc)] ⟨w, w20.heap.size, [(old (fun b => b = pc) w), (bk pc #[.slice l.a l.xs.length l.cap, i6 (n19 : Int), .bool d18] 91), (qi7o_9 z), (bk (z + 1) #[i6 v2, i6 v7, i6 v12, i6 v17, .slice none 0 0, .slice none 0 0, .slice none 0 0] 26)]⟩ rfl ⟨rfl, trivial⟩ ?_
 refine l_call [] [] 47 #[pt pc, i6 1] (some 24) trivial ?_
 intro w21 hw21
 refine (sbyte_calls (hw21.at (i := 1) rfl) (sl_mono (fun x _ _ hx hv => old_cell hv hx.2 _ (hw21.at (i := 0) rfl)) (fun x hx => ⟨Nat.lt_of_lt_of_le hx.1 (by rw [hw21.size]; show w.heap.size ≤ w20.heap.size; omega), hx.2⟩) hl) hB hlen (by omega)).mono ?_
 rintro e w25 ⟨v22, d23, n24, rfl, hstw25, hrxw25, hlaw25, hCw25, hkw25⟩
 obtain ⟨n26, rfl⟩ : ∃ n : Nat, v22 = (n : Int) := ⟨_, (Int.toNat_of_nonneg hrxw25.1.1).symm⟩
 obtain ⟨hnw25, hSw25⟩ := cur_set hw21 (i := 1) rfl hCw25 hkw25; have hnw25' : w20.heap.size ≤ w25.heap.size := hnw25
 refine ⟨_, _, rfl, hSw25, ?_⟩
 refine q_rS 8 0 [] [[o0], [o0]] [] [(qi7o_37 pc), (2, pt z), (qi7o_35 z), (4, i6 (n26 : Int)), (5, i6 0)] rfl trivial ?_
 refine g_fam0 z 97 3 TWindow.cells ?_
 refine g_rowL z 62 1 (fun x : Sl TWindow => [Sl.val x]) ?_
 refine g_loop (fun m a w' => ∃ (n28 : Nat) (i0 : Nat) (xs0 : List (Sl TWindow)) (at0 : Nat) (bd0 : Bool) (aL0 : Option Addr) (cL0 : Nat), m = n26 - i0 ∧ w25.heap.size ≤ n28 ∧ (i0 ≤ n26) ∧ (LStep d23 n24 (listAt l.xs (winAt l.xs)) i0 bd0 at0 (xs0.map Sl.xs)) ∧ (xs0.length = i0) ∧ (at0 ≤ l.xs.length) ∧ St 95 [(qi7o_37 pc), (2, pt z), (qi7o_35 z), (4, i6 (n26 : Int)), (5, i6 (i0 : Int))] [] ⟨w, n28, [(old (fun b => b = pc) w), (bk pc #[.slice l.a l.xs.length l.cap, i6 (at0 : Int), .bool bd0] 91), (qi7o_9 z), (qi7o_8 z v2 v7 v12 v17 aL0 xs0 cL0), (famC z 97 3 TWindow.cells xs0), (qi7o_28 z aL0 xs0 cL0)]⟩ a w') (n26 - 0) ?_ ?_
 · intro a w' hs; exact ⟨w25.heap.size, 0, ([]), n24, d23, none, 0, rfl, Nat.le_refl _, Nat.zero_le _, lstep_zero _ _ _, rfl, by omega, hs⟩
 · rintro m a w' ⟨n28, i0, xs0, at0, bd0, aL0, cL0, rfl, hn27, hki0, hm0, hxl0, hal0, hs⟩
   refine (?_ : G Try.prog 95 [(qi7o_37 pc), (2, pt z), (qi7o_35 z), (4, i6 (n26 : Int)), (5, i6 (i0 : Int))] [] ⟨w, n28, [(old (fun b => b = pc) w), (bk pc #[.slice l.a l.xs.length l.cap, i6 (at0 : Int), .bool bd0] 91), (qi7o_9 z), (qi7o_8 z v2 v7 v12 v17 aL0 xs0 cL0), (famC z 97 3 TWindow.cells xs0), (qi7o_28 z aL0 xs0 cL0)]⟩ _ _ _) a w' hs
   clear hs a w'
   refine g_seq <| g_seq ?_
   by_cases h29 : ((i0 : Int) : Int) < (n26 : Int)
   · cases bd0
     · refine q_cS 8 0 [1] [[o0, o0, oT, o0, o0, o0, o0, (a1 1), o0, o0]] [BT (((i0 : Int) : Int) < (n26 : Int)), Qb pc] [(qi7o_37 pc), (2, pt z), (qi7o_35 z), (4, i6 (n26 : Int)), (5, i6 (i0 : Int)), (34, .bool true)] rfl ⟨bt (by omega), rfl, trivial⟩ ?_
       refine g_draw 7 [0, 2, 3, 4] [(old (fun b => b = pc) w), (qi7o_9 z), (qi7o_8 z v2 v7 v12 v17 aL0 xs0 cL0), (famC z 97 3 TWindow.cells xs0)] rfl rfl ?_
       refine w_take [(0, o0), (1, (a1 2)), (2, o0)] [0, 2, 3, 4, 5, 38, 39] [Qb (z + 1)] [true, true, true, false, false, false, false, false] [(qi7o_37 pc), (2, pt z), (qi7o_35 z), (4, i6 (n26 : Int)), (5, i6 (i0 : Int)), (38, .slice aL0 xs0.length cL0), (39, pt pc)] rfl (by as_aux_lemma => kernel_rfl) (by as_aux_lemma => kernel_rfl) ⟨rfl, trivial⟩ ?_
       refine w_one 3 (by as_aux_lemma => kernel_rfl) rfl ?_
       refine wo_call [] [] 83 #[pt pc] (some 40) (by as_aux_lemma => kernel_rfl) rfl rfl trivial ?_
       intro w30 hw30
       refine (cwins w30 pc l at0 false (hw30.at (i := 1) rfl) (sl_mono (fun x _ _ hx hv => old_cell hv hx.2 _ (hw30.at (i := 0) rfl)) (fun x hx => ⟨Nat.lt_of_lt_of_le hx.1 (by rw [hw30.size]; show w.heap.size ≤ n28; omega), hx.2⟩) hl) hB hlen (by omega)).mono ?_
       rintro e w36 ⟨x31, d32, n33, a34, cp35, rfl, hstw36, hxlw36, hlaw36, hCw36, hkw36, how36⟩
       obtain ⟨hnw36, hSw36⟩ := cur_row hw30 (i := 1) rfl hCw36 hkw36 how36 z (show z ≤ n28 by omega); have hnw36' : n28 ≤ w36.heap.size := hnw36
       have hs37 := hSw36
       refine ⟨_, _, rfl, hs37, .inr (fun c hc => hs37.all c (by first | exact hc | exact picks_mem (is := [0, 2, 3, 4]) rfl c hc)), ?_⟩
       refine w_keep [0, 2, 3, 4, 5, 38, 40] [(qi7o_37 pc), (2, pt z), (qi7o_35 z), (4, i6 (n26 : Int)), (5, i6 (i0 : Int)), (38, .slice aL0 xs0.length cL0), (40, .slice a34 x31.length cp35)] ?_
       refine w_one 4 (by as_aux_lemma => kernel_rfl) rfl ?_
       refine wo_eff o0 [0, 2, 3, 4, 5, 38, 41] [] [(qi7o_37 pc), (2, pt z), (qi7o_35 z), (4, i6 (n26 : Int)), (5, i6 (i0 : Int)), (38, .slice aL0 xs0.length cL0), (41, .slice (some ⟨w36.heap.size, 0, none⟩) 1 1)] ⟨w, w36.heap.size + 1, [(old (fun b => b = pc) w), (qi7o_15 pc l n33 d32), (qi7o_9 z), (qi7o_8 z v2 v7 v12 v17 aL0 xs0 cL0), (famC z 97 3 TWindow.cells xs0), (qi7o_28 z aL0 xs0 cL0), (rowL z 97 3 TWindow.cells (.slice a34 x31.length cp35) x31), (qi7o_20 w36 a34 x31 cp35)]⟩ [0, 2, 3, 4] (by as_aux_lemma => kernel_rfl) rfl trivial (.inr rfl) ?_
       refine w_one 5 (by as_aux_lemma => kernel_rfl) rfl ?_
       refine wo_push z 5 7 xs0 [(⟨a34, cp35, x31⟩ : Sl TWindow)] (fun x : Sl TWindow => [Sl.val x]) 62 1 24 (.slice aL0 xs0.length cL0) w36.heap.size 1 1 #[.slice a34 x31.length cp35] 62 (0, 0) true (some 42) [0, 2, 3, 4] (by simp only [List.length_cons, List.length_nil]; omega) (show z ≤ w36.heap.size + 1 by omega) (.inr ⟨rfl, rfl⟩) (fun a38 cp39 n40 (hn41 : w36.heap.size + 1 ≤ n40) => ?_)
       refine w_keep [0, 2, 3, 4, 5, 42] [(qi7o_37 pc), (2, pt z), (qi7o_35 z), (4, i6 (n26 : Int)), (5, i6 (i0 : Int)), (42, .slice a38 ((xs0 ++ [(⟨a34, cp35, x31⟩ : Sl TWindow)]).length) cp39)] ?_
       refine w_take [(6, o0)] [0, 2, 3, 4, 5, 42, 43] [] [true, true, true, true, true, true, true, false] [(qi7o_37 pc), (2, pt z), (qi7o_35 z), (4, i6 (n26 : Int)), (5, i6 (i0 : Int)), (42, .slice a38 ((xs0 ++ [(⟨a34, cp35, x31⟩ : Sl TWindow)]).length) cp39), (43, .pointer (some ⟨z + 1, 4, none⟩))] rfl (by as_aux_lemma => kernel_rfl) (by as_aux_lemma => kernel_rfl) trivial ?_
       refine w_one 7 (by as_aux_lemma => kernel_rfl) rfl ?_
       refine wo_eff (a1 3) [0, 2, 3, 4, 5] [Qb (z + 1)] [(qi7o_37 pc), (2, pt z), (qi7o_35 z), (4, i6 (n26 : Int)), (5, i6 (i0 : Int))] ⟨w, n40, [(old (fun b => b = pc) w), (qi7o_15 pc l n33 d32), (qi7o_9 z), (qi7o_4 z v2 v7 v12 v17 a38 xs0 a34 cp35 x31 cp39), (famC z 97 3 TWindow.cells xs0), (qi7o_23 z a38 xs0 a34 cp35 x31 cp39), (rowL z 97 3 TWindow.cells (.slice a34 x31.length cp35) x31), (qi7o_20 w36 a34 x31 cp35)]⟩ [] (by as_aux_lemma => kernel_rfl) rfl ⟨rfl, trivial⟩ (.inl rfl) ?_
       refine w_free 8 [0, 1, 2, 3, 4, 5, 6, 7] [(old (fun b => b = pc) w), (qi7o_15 pc l n33 d32), (qi7o_9 z), (qi7o_4 z v2 v7 v12 v17 a38 xs0 a34 cp35 x31 cp39), (famC z 97 3 TWindow.cells xs0), (qi7o_23 z a38 xs0 a34 cp35 x31 cp39), (rowL z 97 3 TWindow.cells (.slice a34 x31.length cp35) x31), (qi7o_20 w36 a34 x31 cp35)] rfl rfl ?_
       refine w_done (by as_aux_lemma => kernel_rfl) ?_
       refine q_oS 4 0 [] [[o0, (ov (i6 ((i0 + 1 : Nat) : Int))), o0]] [Wr (((i0 : Int) : Int) + 1) (((i0 + 1 : Nat) : Int))] [(qi7o_37 pc), (2, pt z), (qi7o_35 z), (4, i6 (n26 : Int)), (5, i6 ((i0 + 1 : Nat) : Int))] rfl ⟨wrI, trivial⟩ ?_
       refine e_fam 4 6 [0, 1, 2, 3, 5, 7] [(old (fun b => b = pc) w), (qi7o_15 pc l n33 d32), (qi7o_9 z), (qi7o_4 z v2 v7 v12 v17 a38 xs0 a34 cp35 x31 cp39), (qi7o_23 z a38 xs0 a34 cp35 x31 cp39), (qi7o_20 w36 a34 x31 cp35)] ?_
       refine e_pick [0, 1, 2, 3, 6, 4] [(old (fun b => b = pc) w), (qi7o_15 pc l n33 d32), (qi7o_9 z), (qi7o_4 z v2 v7 v12 v17 a38 xs0 a34 cp35 x31 cp39), (famC z 97 3 TWindow.cells (xs0 ++ [⟨a34, cp35, x31⟩])), (qi7o_23 z a38 xs0 a34 cp35 x31 cp39)] rfl rfl ?_
       refine e_keep [0, 2, 3, 4, 5] [(qi7o_37 pc), (2, pt z), (qi7o_35 z), (4, i6 (n26 : Int)), (5, i6 ((i0 + 1 : Nat) : Int))] ?_
       refine e_inv (fun a w' hs => ⟨n26 - (i0 + 1), by omega, n40, (i0 + 1), (xs0 ++ [(⟨a34, cp35, x31⟩ : Sl TWindow)]), n33, d32, a38, cp39, rfl, by omega, by omega, hm0.moreM (pl := Sl.xs) hstw36, by rw [List.length_append, hxl0]; rfl, by omega, hs⟩)
     · refine q_cS 10 0 [0] [[o0, o0, oT, o0, o0, o0, o0, (a1 1), o0, o0]] [BT (((i0 : Int) : Int) < (n26 : Int)), Qb pc] [(qi7o_37 pc), (2, pt z), (qi7o_35 z), (4, i6 (n26 : Int)), (5, i6 (i0 : Int)), (34, .bool false)] rfl ⟨bt (by omega), rfl, trivial⟩ ?_
       have hst42 := LStep.done hstw25 hm0 (.inr ⟨rfl, by omega⟩)
       refine q_cS 1 1 [] [[o0]] [] [(qi7o_37 pc), (2, pt z), (qi7o_35 z), (44, pt pc)] rfl trivial ?_
       refine l_call [] [] 47 #[pt pc, i6 1] (some 45) trivial ?_
       intro w43 hw43
       refine (sbyte_calls (hw43.at (i := 1) rfl) (sl_mono (fun x _ _ hx hv => old_cell hv hx.2 _ (hw43.at (i := 0) rfl)) (fun x hx => ⟨Nat.lt_of_lt_of_le hx.1 (by rw [hw43.size]; show w.heap.size ≤ n28; omega), hx.2⟩) hl) hB hlen (by omega)).mono ?_
       rintro e w47 ⟨v44, d45, n46, rfl, hstw47, hrxw47, hlaw47, hCw47, hkw47⟩
       obtain ⟨n48, rfl⟩ : ∃ n : Nat, v44 = (n : Int) := ⟨_, (Int.toNat_of_nonneg hrxw47.1.1).symm⟩
       obtain ⟨hnw47, hSw47⟩ := cur_set hw43 (i := 1) rfl hCw47 hkw47; have hnw47' : n28 ≤ w47.heap.size := hnw47
       refine ⟨_, _, rfl, hSw47, ?_⟩
       refine q_rS 8 0 [] [[o0], [o0]] [] [(qi7o_37 pc), (2, pt z), (qi7o_35 z), (4, i6 (n48 : Int)), (6, i6 0)] rfl trivial ?_
       refine g_fam0 z 99 4 TRegion.cells ?_
       refine g_fam0 z 101 2 TPort.cells ?_
       refine g_rowL z 69 8 TPartition.cells ?_
       refine g_loop (fun m a w' => ∃ (n50 : Nat) (i1 : Nat) (xs1 : List TPartition) (at1 : Nat) (bd1 : Bool) (aL1 : Option Addr) (cL1 : Nat), m = n48 - i1 ∧ w47.heap.size ≤ n50 ∧ (i1 ≤ n48) ∧ (LStep d45 n46 (partAt l.xs) i1 bd1 at1 (xs1.map plP)) ∧ (xs1.length = i1) ∧ (at1 ≤ l.xs.length) ∧ St 95 [(qi7o_37 pc), (2, pt z), (qi7o_35 z), (4, i6 (n48 : Int)), (6, i6 (i1 : Int))] [] ⟨w, n50, [(old (fun b => b = pc) w), (qi7o_16 pc l at1 bd1), (qi7o_9 z), (qi7o_7 z v2 v7 v12 v17 aL0 xs0 cL0 aL1 xs1 cL1), (famC z 97 3 TWindow.cells xs0), (qi7o_28 z aL0 xs0 cL0), (qi7o_31 z xs1), (qi7o_32 z xs1), (qi7o_29 z aL1 xs1 cL1)]⟩ a w') (n48 - 0) ?_ ?_
       · intro a w' hs; exact ⟨w47.heap.size, 0, ([]), n46, d45, none, 0, rfl, Nat.le_refl _, Nat.zero_le _, lstep_zero _ _ _, rfl, by omega, hs⟩
       · rintro m a w' ⟨n50, i1, xs1, at1, bd1, aL1, cL1, rfl, hn49, hki1, hm1, hxl1, hal1, hs⟩
         refine (?_ : G Try.prog 95 [(qi7o_37 pc), (2, pt z), (qi7o_35 z), (4, i6 (n48 : Int)), (6, i6 (i1 : Int))] [] ⟨w, n50, [(old (fun b => b = pc) w), (qi7o_16 pc l at1 bd1), (qi7o_9 z), (qi7o_7 z v2 v7 v12 v17 aL0 xs0 cL0 aL1 xs1 cL1), (famC z 97 3 TWindow.cells xs0), (qi7o_28 z aL0 xs0 cL0), (qi7o_31 z xs1), (qi7o_32 z xs1), (qi7o_29 z aL1 xs1 cL1)]⟩ _ _ _) a w' hs
         clear hs a w'
         refine g_seq <| g_seq ?_
         by_cases h51 : ((i1 : Int) : Int) < (n48 : Int)
         · cases bd1
           · refine q_cS 8 0 [1] [[o0, o0, oT, o0, o0, o0, o0, (a1 1), o0, o0]] [BT (((i1 : Int) : Int) < (n48 : Int)), Qb pc] [(qi7o_37 pc), (2, pt z), (qi7o_35 z), (4, i6 (n48 : Int)), (6, i6 (i1 : Int)), (55, .bool true)] rfl ⟨bt (by omega), rfl, trivial⟩ ?_
             refine g_draw 7 [0, 2, 3, 4, 5, 6, 7] [(old (fun b => b = pc) w), (qi7o_9 z), (qi7o_7 z v2 v7 v12 v17 aL0 xs0 cL0 aL1 xs1 cL1), (famC z 97 3 TWindow.cells xs0), (qi7o_28 z aL0 xs0 cL0), (qi7o_31 z xs1), (qi7o_32 z xs1)] rfl rfl ?_
             refine w_take [(0, o0), (1, (a1 2)), (2, o0)] [0, 2, 3, 4, 6, 59, 60] [Qb (z + 1)] [true, true, true, false, false, false, false, false] [(qi7o_37 pc), (2, pt z), (qi7o_35 z), (4, i6 (n48 : Int)), (6, i6 (i1 : Int)), (59, .slice aL1 xs1.length cL1), (60, pt pc)] rfl (by as_aux_lemma => kernel_rfl) (by as_aux_lemma => kernel_rfl) ⟨rfl, trivial⟩ ?_
             refine w_one 3 (by as_aux_lemma => kernel_rfl) rfl ?_
             refine wo_call [] [] 84 #[pt pc] (some 61) (by as_aux_lemma => kernel_rfl) rfl rfl trivial ?_
             intro w52 hw52
             refine (cpart w52 pc l at1 false (hw52.at (i := 1) rfl) (sl_mono (fun x _ _ hx hv => old_cell hv hx.2 _ (hw52.at (i := 0) rfl)) (fun x hx => ⟨Nat.lt_of_lt_of_le hx.1 (by rw [hw52.size]; show w.heap.size ≤ n50; omega), hx.2⟩) hl) hB hlen (by omega)).mono ?_
             rintro e w56 ⟨x53, d54, n55, rfl, hstw56, hlaw56, hCw56, hkw56, hMw56⟩
             obtain ⟨hnw56, hSw56⟩ := cur_made hw52 (i := 1) rfl hCw56 hkw56 hMw56 z (show z ≤ n50 by omega); have hnw56' : n50 ≤ w56.heap.size := hnw56
             have hs57 := hSw56
             refine ⟨_, _, rfl, hs57, .inr (fun c hc => hs57.all c (by first | exact hc | exact picks_mem (is := [0, 2, 3, 4, 5, 6, 7]) rfl c hc)), ?_⟩
             refine w_keep [0, 2, 3, 4, 6, 59, 61] [(qi7o_37 pc), (2, pt z), (qi7o_35 z), (4, i6 (n48 : Int)), (6, i6 (i1 : Int)), (59, .slice aL1 xs1.length cL1), (61, .agg (TPartition.arr x53))] ?_
             refine w_one 4 (by as_aux_lemma => kernel_rfl) rfl ?_
             refine wo_eff o0 [0, 2, 3, 4, 6, 59, 62] [] [(qi7o_37 pc), (2, pt z), (qi7o_35 z), (4, i6 (n48 : Int)), (6, i6 (i1 : Int)), (59, .slice aL1 xs1.length cL1), (62, .slice (some ⟨w56.heap.size, 0, none⟩) 1 1)] ⟨w, w56.heap.size + 1, [(old (fun b => b = pc) w), (qi7o_17 pc l n55 d54), (qi7o_9 z), (qi7o_7 z v2 v7 v12 v17 aL0 xs0 cL0 aL1 xs1 cL1), (famC z 97 3 TWindow.cells xs0), (qi7o_28 z aL0 xs0 cL0), (qi7o_31 z xs1), (qi7o_32 z xs1), (qi7o_29 z aL1 xs1 cL1), (qi7o_25 z x53), (qi7o_27 z x53), (qi7o_3 w56 x53)]⟩ [0, 2, 3, 4, 5, 6, 7] (by as_aux_lemma => kernel_rfl) rfl trivial (.inr rfl) ?_
             refine w_one 5 (by as_aux_lemma => kernel_rfl) rfl ?_
             refine wo_push z 8 11 xs1 [(⟨x53.Name, x53.Entry, x53.Action, x53.Restarts, x53.Inputs, x53.Outputs, (⟨x53.Regions.a, x53.Regions.cap, x53.Regions.xs⟩ : Sl TRegion), (⟨x53.Ports.a, x53.Ports.cap, x53.Ports.xs⟩ : Sl TPort)⟩ : TPartition)] TPartition.cells 69 8 104 (.slice aL1 xs1.length cL1) w56.heap.size 1 1 #[.string x53.Name, i6 x53.Entry, i6 x53.Action, i6 x53.Restarts, i6 x53.Inputs, i6 x53.Outputs, .slice x53.Regions.a x53.Regions.xs.length x53.Regions.cap, .slice x53.Ports.a x53.Ports.xs.length x53.Ports.cap] 69 (0, 0) true (some 63) [0, 2, 3, 4, 5, 6, 7] (by simp only [List.length_cons, List.length_nil]; omega) (show z ≤ w56.heap.size + 1 by omega) (.inr ⟨rfl, rfl⟩) (fun a58 cp59 n60 (hn61 : w56.heap.size + 1 ≤ n60) => ?_)
             refine w_keep [0, 2, 3, 4, 6, 63] [(qi7o_37 pc), (2, pt z), (qi7o_35 z), (4, i6 (n48 : Int)), (6, i6 (i1 : Int)), (qi7o_34 a58 xs1 x53 cp59)] ?_
             refine w_take [(6, o0)] [0, 2, 3, 4, 6, 63, 64] [] [true, true, true, true, true, true, true, false] [(qi7o_37 pc), (2, pt z), (qi7o_35 z), (4, i6 (n48 : Int)), (6, i6 (i1 : Int)), (qi7o_34 a58 xs1 x53 cp59), (64, .pointer (some ⟨z + 1, 5, none⟩))] rfl (by as_aux_lemma => kernel_rfl) (by as_aux_lemma => kernel_rfl) trivial ?_
             refine w_one 7 (by as_aux_lemma => kernel_rfl) rfl ?_
             refine wo_eff (a1 3) [0, 2, 3, 4, 6] [Qb (z + 1)] [(qi7o_37 pc), (2, pt z), (qi7o_35 z), (4, i6 (n48 : Int)), (6, i6 (i1 : Int))] ⟨w, n60, [(old (fun b => b = pc) w), (qi7o_17 pc l n55 d54), (qi7o_9 z), (qi7o_1 z v2 v7 v12 v17 aL0 xs0 cL0 a58 xs1 x53 cp59), (famC z 97 3 TWindow.cells xs0), (qi7o_28 z aL0 xs0 cL0), (qi7o_31 z xs1), (qi7o_32 z xs1), (qi7o_22 z a58 xs1 x53 cp59), (qi7o_25 z x53), (qi7o_27 z x53), (qi7o_3 w56 x53)]⟩ [] (by as_aux_lemma => kernel_rfl) rfl ⟨rfl, trivial⟩ (.inl rfl) ?_
             refine w_free 8 [0, 1, 2, 3, 4, 5, 6, 7, 8, 9, 10, 11] [(old (fun b => b = pc) w), (qi7o_17 pc l n55 d54), (qi7o_9 z), (qi7o_1 z v2 v7 v12 v17 aL0 xs0 cL0 a58 xs1 x53 cp59), (famC z 97 3 TWindow.cells xs0), (qi7o_28 z aL0 xs0 cL0), (qi7o_31 z xs1), (qi7o_32 z xs1), (qi7o_22 z a58 xs1 x53 cp59), (qi7o_25 z x53), (qi7o_27 z x53), (qi7o_3 w56 x53)] rfl rfl ?_
             refine w_done (by as_aux_lemma => kernel_rfl) ?_
             refine q_oS 4 0 [] [[o0, (ov (i6 ((i1 + 1 : Nat) : Int))), o0]] [Wr (((i1 : Int) : Int) + 1) (((i1 + 1 : Nat) : Int))] [(qi7o_37 pc), (2, pt z), (qi7o_35 z), (4, i6 (n48 : Int)), (6, i6 ((i1 + 1 : Nat) : Int))] rfl ⟨wrI, trivial⟩ ?_
             refine e_fam 6 9 [0, 1, 2, 3, 4, 5, 7, 8, 10, 11] [(old (fun b => b = pc) w), (qi7o_17 pc l n55 d54), (qi7o_9 z), (qi7o_1 z v2 v7 v12 v17 aL0 xs0 cL0 a58 xs1 x53 cp59), (famC z 97 3 TWindow.cells xs0), (qi7o_28 z aL0 xs0 cL0), (qi7o_32 z xs1), (qi7o_22 z a58 xs1 x53 cp59), (qi7o_27 z x53), (qi7o_3 w56 x53)] ?_
             refine e_fam 6 8 [0, 1, 2, 3, 4, 5, 7, 9, 10] [(old (fun b => b = pc) w), (qi7o_17 pc l n55 d54), (qi7o_9 z), (qi7o_1 z v2 v7 v12 v17 aL0 xs0 cL0 a58 xs1 x53 cp59), (famC z 97 3 TWindow.cells xs0), (qi7o_28 z aL0 xs0 cL0), (qi7o_22 z a58 xs1 x53 cp59), (qi7o_3 w56 x53), (famC z 99 4 TRegion.cells ((xs1.map TPartition.Regions) ++ [⟨x53.Regions.a, x53.Regions.cap, x53.Regions.xs⟩]))] ?_
             refine e_pick [0, 1, 2, 3, 4, 5, 8, 9, 6] [(old (fun b => b = pc) w), (qi7o_17 pc l n55 d54), (qi7o_9 z), (qi7o_1 z v2 v7 v12 v17 aL0 xs0 cL0 a58 xs1 x53 cp59), (famC z 97 3 TWindow.cells xs0), (qi7o_28 z aL0 xs0 cL0), (famC z 99 4 TRegion.cells ((xs1.map TPartition.Regions) ++ [⟨x53.Regions.a, x53.Regions.cap, x53.Regions.xs⟩])), (famC z 101 2 TPort.cells ((xs1.map TPartition.Ports) ++ [⟨x53.Ports.a, x53.Ports.cap, x53.Ports.xs⟩])), (qi7o_22 z a58 xs1 x53 cp59)] rfl rfl ?_
             refine e_keep [0, 2, 3, 4, 6] [(qi7o_37 pc), (2, pt z), (qi7o_35 z), (4, i6 (n48 : Int)), (6, i6 ((i1 + 1 : Nat) : Int))] ?_
             refine e_inv (fun a w' hs => ⟨n48 - (i1 + 1), by omega, n60, (i1 + 1), (xs1 ++ [(⟨x53.Name, x53.Entry, x53.Action, x53.Restarts, x53.Inputs, x53.Outputs, (⟨x53.Regions.a, x53.Regions.cap, x53.Regions.xs⟩ : Sl TRegion), (⟨x53.Ports.a, x53.Ports.cap, x53.Ports.xs⟩ : Sl TPort)⟩ : TPartition)]), n55, d54, a58, cp59, rfl, by omega, by omega, hm1.moreM (pl := plP) hstw56, by rw [List.length_append, hxl1]; rfl, by omega, by (try dsimp only [qi7o_0, qi7o_1, qi7o_2, qi7o_3, qi7o_4, qi7o_5, qi7o_6, qi7o_7, qi7o_8, qi7o_9, qi7o_10, qi7o_11, qi7o_12, qi7o_13, qi7o_14, qi7o_15, qi7o_16, qi7o_17, qi7o_18, qi7o_19, qi7o_20, qi7o_21, qi7o_22, qi7o_23, qi7o_24, qi7o_25, qi7o_26, qi7o_27, qi7o_28, qi7o_29, qi7o_30, qi7o_31, qi7o_32, qi7o_33, qi7o_34, qi7o_35, qi7o_36, qi7o_37] at hs ⊢); rw [map_push, map_push]; exact hs⟩)
           · refine q_cS 10 0 [0] [[o0, o0, oT, o0, o0, o0, o0, (a1 1), o0, o0]] [BT (((i1 : Int) : Int) < (n48 : Int)), Qb pc] [(qi7o_37 pc), (2, pt z), (qi7o_35 z), (4, i6 (n48 : Int)), (6, i6 (i1 : Int)), (55, .bool false)] rfl ⟨bt (by omega), rfl, trivial⟩ ?_
             have hst62 := LStep.done hstw47 hm1 (.inr ⟨rfl, by omega⟩)
             refine q_cS 1 1 [] [[o0]] [] [(qi7o_37 pc), (2, pt z), (qi7o_35 z), (65, pt pc)] rfl trivial ?_
             refine l_call [] [] 47 #[pt pc, i6 1] (some 66) trivial ?_
             intro w63 hw63
             refine (sbyte_calls (hw63.at (i := 1) rfl) (sl_mono (fun x _ _ hx hv => old_cell hv hx.2 _ (hw63.at (i := 0) rfl)) (fun x hx => ⟨Nat.lt_of_lt_of_le hx.1 (by rw [hw63.size]; show w.heap.size ≤ n50; omega), hx.2⟩) hl) hB hlen (by omega)).mono ?_
             rintro e w67 ⟨v64, d65, n66, rfl, hstw67, hrxw67, hlaw67, hCw67, hkw67⟩
             obtain ⟨n68, rfl⟩ : ∃ n : Nat, v64 = (n : Int) := ⟨_, (Int.toNat_of_nonneg hrxw67.1.1).symm⟩
             obtain ⟨hnw67, hSw67⟩ := cur_set hw63 (i := 1) rfl hCw67 hkw67; have hnw67' : n50 ≤ w67.heap.size := hnw67
             refine ⟨_, _, rfl, hSw67, ?_⟩
             refine q_rS 8 0 [] [[o0], [o0]] [] [(qi7o_37 pc), (2, pt z), (qi7o_35 z), (4, i6 (n68 : Int)), (7, i6 0)] rfl trivial ?_
             refine g_rowL z 74 3 TChannel.cells ?_
             refine g_loop (fun m a w' => ∃ (n70 : Nat) (i2 : Nat) (xs2 : List TChannel) (at2 : Nat) (bd2 : Bool) (aL2 : Option Addr) (cL2 : Nat), m = n68 - i2 ∧ w67.heap.size ≤ n70 ∧ (i2 ≤ n68) ∧ (LStep d65 n66 (chanAt l.xs) i2 bd2 at2 (xs2)) ∧ (xs2.length = i2) ∧ (at2 ≤ l.xs.length) ∧ St 95 [(qi7o_37 pc), (2, pt z), (qi7o_35 z), (4, i6 (n68 : Int)), (7, i6 (i2 : Int))] [] ⟨w, n70, [(old (fun b => b = pc) w), (qi7o_18 pc l at2 bd2), (qi7o_9 z), (qi7o_5 z v2 v7 v12 v17 aL0 xs0 cL0 aL1 xs1 cL1 aL2 xs2 cL2), (famC z 97 3 TWindow.cells xs0), (qi7o_28 z aL0 xs0 cL0), (qi7o_31 z xs1), (qi7o_32 z xs1), (qi7o_29 z aL1 xs1 cL1), (qi7o_30 z aL2 xs2 cL2)]⟩ a w') (n68 - 0) ?_ ?_
             · intro a w' hs; exact ⟨w67.heap.size, 0, ([]), n66, d65, none, 0, rfl, Nat.le_refl _, Nat.zero_le _, lstep_zero _ _ _, rfl, by omega, hs⟩
             · rintro m a w' ⟨n70, i2, xs2, at2, bd2, aL2, cL2, rfl, hn69, hki2, hm2, hxl2, hal2, hs⟩
               refine (?_ : G Try.prog 95 [(qi7o_37 pc), (2, pt z), (qi7o_35 z), (4, i6 (n68 : Int)), (7, i6 (i2 : Int))] [] ⟨w, n70, [(old (fun b => b = pc) w), (qi7o_18 pc l at2 bd2), (qi7o_9 z), (qi7o_5 z v2 v7 v12 v17 aL0 xs0 cL0 aL1 xs1 cL1 aL2 xs2 cL2), (famC z 97 3 TWindow.cells xs0), (qi7o_28 z aL0 xs0 cL0), (qi7o_31 z xs1), (qi7o_32 z xs1), (qi7o_29 z aL1 xs1 cL1), (qi7o_30 z aL2 xs2 cL2)]⟩ _ _ _) a w' hs
               clear hs a w'
               refine g_seq <| g_seq ?_
               by_cases h71 : ((i2 : Int) : Int) < (n68 : Int)
               · cases bd2
                 · refine q_cS 10 1 [1] [[o0, o0, oT, o0, o0, o0, o0, (a1 1), o0, o0], [o0]] [BT (((i2 : Int) : Int) < (n68 : Int)), Qb pc] [(qi7o_37 pc), (2, pt z), (qi7o_35 z), (4, i6 (n68 : Int)), (7, i6 (i2 : Int)), (79, pt pc)] rfl ⟨bt (by omega), rfl, trivial⟩ ?_
                   refine l_call [] [] 47 #[pt pc, i6 4] (some 80) trivial ?_
                   intro w72 hw72
                   refine (snum_calls (hw72.at (i := 1) rfl) (sl_mono (fun x _ _ hx hv => old_cell hv hx.2 _ (hw72.at (i := 0) rfl)) (fun x hx => ⟨Nat.lt_of_lt_of_le hx.1 (by rw [hw72.size]; show w.heap.size ≤ n70; omega), hx.2⟩) hl) hB hlen (by omega)).mono ?_
                   rintro e w76 ⟨v73, d74, n75, rfl, hstw76, hrxw76, hlaw76, hCw76, hkw76⟩
                   obtain ⟨hnw76, hSw76⟩ := cur_set hw72 (i := 1) rfl hCw76 hkw76; have hnw76' : n70 ≤ w76.heap.size := hnw76
                   refine ⟨_, _, rfl, hSw76, ?_⟩
                   refine q_rS 4 1 [] [[o0], [o0]] [] [(qi7o_37 pc), (2, pt z), (qi7o_35 z), (4, i6 (n68 : Int)), (7, i6 (i2 : Int)), (8, i6 v73), (81, pt pc)] rfl trivial ?_
                   refine l_call [] [] 47 #[pt pc, i6 4] (some 82) trivial ?_
                   intro w77 hw77
                   refine (snum_calls (hw77.at (i := 1) rfl) (sl_mono (fun x _ _ hx hv => old_cell hv hx.2 _ (hw77.at (i := 0) rfl)) (fun x hx => ⟨Nat.lt_of_lt_of_le hx.1 (by rw [hw77.size]; show w.heap.size ≤ w76.heap.size; omega), hx.2⟩) hl) hB hlen (by omega)).mono ?_
                   rintro e w81 ⟨v78, d79, n80, rfl, hstw81, hrxw81, hlaw81, hCw81, hkw81⟩
                   obtain ⟨hnw81, hSw81⟩ := cur_set hw77 (i := 1) rfl hCw81 hkw81; have hnw81' : w76.heap.size ≤ w81.heap.size := hnw81
                   refine ⟨_, _, rfl, hSw81, ?_⟩
                   refine q_rS 4 1 [] [[o0], [o0]] [] [(qi7o_37 pc), (2, pt z), (qi7o_35 z), (4, i6 (n68 : Int)), (7, i6 (i2 : Int)), (8, i6 v73), (9, i6 v78), (83, pt pc)] rfl trivial ?_
                   refine l_call [] [] 47 #[pt pc, i6 4] (some 84) trivial ?_
                   intro w82 hw82
                   refine (snum_calls (hw82.at (i := 1) rfl) (sl_mono (fun x _ _ hx hv => old_cell hv hx.2 _ (hw82.at (i := 0) rfl)) (fun x hx => ⟨Nat.lt_of_lt_of_le hx.1 (by rw [hw82.size]; show w.heap.size ≤ w81.heap.size; omega), hx.2⟩) hl) hB hlen (by omega)).mono ?_
                   rintro e w86 ⟨v83, d84, n85, rfl, hstw86, hrxw86, hlaw86, hCw86, hkw86⟩
                   obtain ⟨hnw86, hSw86⟩ := cur_set hw82 (i := 1) rfl hCw86 hkw86; have hnw86' : w81.heap.size ≤ w86.heap.size := hnw86
                   refine ⟨_, _, rfl, hSw86, ?_⟩
                   refine q_r 3 7 [] [[o0], [o0, (a1 3), o0, o0, o0, o0, o0]] [Qb (z + 1)] [(qi7o_37 pc), (2, pt z), (qi7o_35 z), (4, i6 (n68 : Int)), (7, i6 (i2 : Int)), (86, .slice aL2 xs2.length cL2), (91, .slice (some ⟨w86.heap.size, 0, none⟩) 1 1)] ⟨w, w86.heap.size + 1, [(old (fun b => b = pc) w), (qi7o_19 pc l n85 d84), (qi7o_9 z), (qi7o_5 z v2 v7 v12 v17 aL0 xs0 cL0 aL1 xs1 cL1 aL2 xs2 cL2), (famC z 97 3 TWindow.cells xs0), (qi7o_28 z aL0 xs0 cL0), (qi7o_31 z xs1), (qi7o_32 z xs1), (qi7o_29 z aL1 xs1 cL1), (qi7o_30 z aL2 xs2 cL2), (.blk w86.heap.size (.cells #[i6 v73, i6 v78, i6 v83] 74 (0, 0)) true)]⟩ rfl ⟨rfl, trivial⟩ ?_
                   refine l_push z 9 10 xs2 [(⟨v73, v78, v83⟩ : TChannel)] TChannel.cells 74 3 24 (.slice aL2 xs2.length cL2) w86.heap.size 1 1 #[i6 v73, i6 v78, i6 v83] 74 (0, 0) true (some 92) (by simp only [List.length_cons, List.length_nil]; omega) (show z ≤ w86.heap.size + 1 by omega) (fun a87 cp88 n89 (hn90 : w86.heap.size + 1 ≤ n89) => ?_)
                   refine q_r 5 0 [] [[o0, (a1 3)], [o0, (ov (i6 ((i2 + 1 : Nat) : Int))), o0]] [Qb (z + 1), Wr (((i2 : Int) : Int) + 1) (((i2 + 1 : Nat) : Int))] [(qi7o_37 pc), (2, pt z), (qi7o_35 z), (4, i6 (n68 : Int)), (qi7o_36 i2)] ⟨w, n89, [(old (fun b => b = pc) w), (qi7o_19 pc l n85 d84), (qi7o_9 z), (bk (z + 1) #[i6 v2, i6 v7, i6 v12, i6 v17, .slice aL0 xs0.length cL0, .slice aL1 xs1.length cL1, .slice a87 ((xs2 ++ [(⟨v73, v78, v83⟩ : TChannel)]).length) cp88] 26), (famC z 97 3 TWindow.cells xs0), (qi7o_28 z aL0 xs0 cL0), (qi7o_31 z xs1), (qi7o_32 z xs1), (qi7o_29 z aL1 xs1 cL1), (rowL z 74 3 TChannel.cells (.slice a87 ((xs2 ++ [(⟨v73, v78, v83⟩ : TChannel)]).length) cp88) (xs2 ++ [(⟨v73, v78, v83⟩ : TChannel)])), (.blk w86.heap.size (.cells #[i6 v73, i6 v78, i6 v83] 74 (0, 0)) true)]⟩ rfl ⟨rfl, wrI, trivial⟩ ?_
                   refine e_pick [0, 1, 2, 3, 4, 5, 6, 7, 8, 9] [(old (fun b => b = pc) w), (qi7o_19 pc l n85 d84), (qi7o_9 z), (bk (z + 1) #[i6 v2, i6 v7, i6 v12, i6 v17, .slice aL0 xs0.length cL0, .slice aL1 xs1.length cL1, .slice a87 ((xs2 ++ [(⟨v73, v78, v83⟩ : TChannel)]).length) cp88] 26), (famC z 97 3 TWindow.cells xs0), (qi7o_28 z aL0 xs0 cL0), (qi7o_31 z xs1), (qi7o_32 z xs1), (qi7o_29 z aL1 xs1 cL1), (rowL z 74 3 TChannel.cells (.slice a87 ((xs2 ++ [(⟨v73, v78, v83⟩ : TChannel)]).length) cp88) (xs2 ++ [(⟨v73, v78, v83⟩ : TChannel)]))] rfl rfl ?_
                   refine e_keep [0, 2, 3, 4, 7] [(qi7o_37 pc), (2, pt z), (qi7o_35 z), (4, i6 (n68 : Int)), (qi7o_36 i2)] ?_
                   refine e_inv (fun a w' hs => ⟨n68 - (i2 + 1), by omega, n89, (i2 + 1), (xs2 ++ [(⟨v73, v78, v83⟩ : TChannel)]), n85, d84, a87, cp88, rfl, by omega, by omega, hm2.more (by unfold chanAt; exact hstw76.bind (hstw81.bind (hstw86.map))), by rw [List.length_append, hxl2]; rfl, by omega, hs⟩)
                 · refine q_cS 10 0 [0] [[o0, o0, oT, o0, o0, o0, o0, (a1 1), o0, o0]] [BT (((i2 : Int) : Int) < (n68 : Int)), Qb pc] [(qi7o_37 pc), (2, pt z), (qi7o_35 z), (4, i6 (n68 : Int)), (7, i6 (i2 : Int)), (76, .bool false)] rfl ⟨bt (by omega), rfl, trivial⟩ ?_
                   have hst91 := LStep.done hstw67 hm2 (.inr ⟨rfl, by omega⟩)
                   refine q_c 4 0 [] [[(an 7 3), (an 7 2)]] [Qb (z + 1), Qb (z + 1), Qb (z + 1), Qb (z + 1), Qb (z + 1), Qb (z + 1), Qb (z + 1), Qb z, Qb z, Qb z, Qb z, Qb z, Qb z, Qb z] [(2, pt z)] ⟨w, n70, [(old (fun b => b = pc) w), (qi7o_14 pc l at2), (qi7o_6 z v2 v7 v12 v17 aL0 xs0 cL0 aL1 xs1 cL1 aL2 xs2 cL2), (qi7o_5 z v2 v7 v12 v17 aL0 xs0 cL0 aL1 xs1 cL1 aL2 xs2 cL2), (famC z 97 3 TWindow.cells xs0), (qi7o_28 z aL0 xs0 cL0), (qi7o_31 z xs1), (qi7o_32 z xs1), (qi7o_29 z aL1 xs1 cL1), (qi7o_30 z aL2 xs2 cL2)]⟩ rfl ⟨rfl, rfl, rfl, rfl, rfl, rfl, rfl, rfl, rfl, rfl, rfl, rfl, rfl, rfl, trivial⟩ ?_
                   refine e_ret [.at 2, .at 2, .at 2, .at 2, .at 2, .at 2, .at 2] [Qb z, Qb z, Qb z, Qb z, Qb z, Qb z, Qb z] (.agg #[i6 v2, i6 v7, i6 v12, i6 v17, .slice aL0 xs0.length cL0, .slice aL1 xs1.length cL1, .slice aL2 xs2.length cL2]) ⟨rfl, rfl, rfl, rfl, rfl, rfl, rfl, trivial⟩ ?_
                   intro w92 hw92
                   exact ⟨(⟨v2, v7, v12, v17, ⟨aL0, cL0, xs0⟩, ⟨aL1, cL1, xs1⟩, ⟨aL2, cL2, xs2⟩⟩ : TConfig), _, _, rfl, (by unfold confAt; exact hstw5.bind (hstw10.bind (hstw15.bind (hstw20.bind (hst42.bind (hst62.bind (hst91.map))))))), by omega, hw92.at (i := 1) rfl, back0 hw92, made_of (fs := confFs (⟨v2, v7, v12, v17, ⟨aL0, cL0, xs0⟩, ⟨aL1, cL1, xs1⟩, ⟨aL2, cL2, xs2⟩⟩ : TConfig)) (conf_low (⟨v2, v7, v12, v17, ⟨aL0, cL0, xs0⟩, ⟨aL1, cL1, xs1⟩, ⟨aL2, cL2, xs2⟩⟩ : TConfig)) (by have hP := hw92.pick [5, 4, 8, 6, 7, 9] (σ' := [(qi7o_28 z aL0 xs0 cL0), (famC z 97 3 TWindow.cells xs0), (qi7o_29 z aL1 xs1 cL1), (qi7o_31 z xs1), (qi7o_32 z xs1), (qi7o_30 z aL2 xs2 cL2)]) rfl rfl; rw [hw92.size]; exact hz ▸ hP)⟩
               · refine q_cS 10 0 [0] [[o0, o0, oF, o0, o0]] [BF (((i2 : Int) : Int) < (n68 : Int))] [(qi7o_37 pc), (2, pt z), (qi7o_35 z), (4, i6 (n68 : Int)), (7, i6 (i2 : Int)), (76, .bool false)] rfl ⟨bf (by omega), trivial⟩ ?_
                 have hst93 := LStep.done hstw67 hm2 (.inl (by omega))
                 refine q_c 4 0 [] [[(an 7 3), (an 7 2)]] [Qb (z + 1), Qb (z + 1), Qb (z + 1), Qb (z + 1), Qb (z + 1), Qb (z + 1), Qb (z + 1), Qb z, Qb z, Qb z, Qb z, Qb z, Qb z, Qb z] [(2, pt z)] ⟨w, n70, [(old (fun b => b = pc) w), (qi7o_18 pc l at2 bd2), (qi7o_6 z v2 v7 v12 v17 aL0 xs0 cL0 aL1 xs1 cL1 aL2 xs2 cL2), (qi7o_5 z v2 v7 v12 v17 aL0 xs0 cL0 aL1 xs1 cL1 aL2 xs2 cL2), (famC z 97 3 TWindow.cells xs0), (qi7o_28 z aL0 xs0 cL0), (qi7o_31 z xs1), (qi7o_32 z xs1), (qi7o_29 z aL1 xs1 cL1), (qi7o_30 z aL2 xs2 cL2)]⟩ rfl ⟨rfl, rfl, rfl, rfl, rfl, rfl, rfl, rfl, rfl, rfl, rfl, rfl, rfl, rfl, trivial⟩ ?_
                 refine e_ret [.at 2, .at 2, .at 2, .at 2, .at 2, .at 2, .at 2] [Qb z, Qb z, Qb z, Qb z, Qb z, Qb z, Qb z] (.agg #[i6 v2, i6 v7, i6 v12, i6 v17, .slice aL0 xs0.length cL0, .slice aL1 xs1.length cL1, .slice aL2 xs2.length cL2]) ⟨rfl, rfl, rfl, rfl, rfl, rfl, rfl, trivial⟩ ?_
                 intro w94 hw94
                 exact ⟨(⟨v2, v7, v12, v17, ⟨aL0, cL0, xs0⟩, ⟨aL1, cL1, xs1⟩, ⟨aL2, cL2, xs2⟩⟩ : TConfig), _, _, rfl, (by unfold confAt; exact hstw5.bind (hstw10.bind (hstw15.bind (hstw20.bind (hst42.bind (hst62.bind (hst93.map))))))), by omega, hw94.at (i := 1) rfl, back0 hw94, made_of (fs := confFs (⟨v2, v7, v12, v17, ⟨aL0, cL0, xs0⟩, ⟨aL1, cL1, xs1⟩, ⟨aL2, cL2, xs2⟩⟩ : TConfig)) (conf_low (⟨v2, v7, v12, v17, ⟨aL0, cL0, xs0⟩, ⟨aL1, cL1, xs1⟩, ⟨aL2, cL2, xs2⟩⟩ : TConfig)) (by have hP := hw94.pick [5, 4, 8, 6, 7, 9] (σ' := [(qi7o_28 z aL0 xs0 cL0), (famC z 97 3 TWindow.cells xs0), (qi7o_29 z aL1 xs1 cL1), (qi7o_31 z xs1), (qi7o_32 z xs1), (qi7o_30 z aL2 xs2 cL2)]) rfl rfl; rw [hw94.size]; exact hz ▸ hP)⟩
         · refine q_cS 10 0 [0] [[o0, o0, oF, o0, o0]] [BF (((i1 : Int) : Int) < (n48 : Int))] [(qi7o_37 pc), (2, pt z), (qi7o_35 z), (4, i6 (n48 : Int)), (6, i6 (i1 : Int)), (55, .bool false)] rfl ⟨bf (by omega), trivial⟩ ?_
           have hst95 := LStep.done hstw47 hm1 (.inl (by omega))
           refine q_cS 1 1 [] [[o0]] [] [(qi7o_37 pc), (2, pt z), (qi7o_35 z), (65, pt pc)] rfl trivial ?_
           refine l_call [] [] 47 #[pt pc, i6 1] (some 66) trivial ?_
           intro w96 hw96
           refine (sbyte_calls (hw96.at (i := 1) rfl) (sl_mono (fun x _ _ hx hv => old_cell hv hx.2 _ (hw96.at (i := 0) rfl)) (fun x hx => ⟨Nat.lt_of_lt_of_le hx.1 (by rw [hw96.size]; show w.heap.size ≤ n50; omega), hx.2⟩) hl) hB hlen (by omega)).mono ?_
           rintro e w100 ⟨v97, d98, n99, rfl, hstw100, hrxw100, hlaw100, hCw100, hkw100⟩
           obtain ⟨n101, rfl⟩ : ∃ n : Nat, v97 = (n : Int) := ⟨_, (Int.toNat_of_nonneg hrxw100.1.1).symm⟩
           obtain ⟨hnw100, hSw100⟩ := cur_set hw96 (i := 1) rfl hCw100 hkw100; have hnw100' : n50 ≤ w100.heap.size := hnw100
           refine ⟨_, _, rfl, hSw100, ?_⟩
           refine q_rS 8 0 [] [[o0], [o0]] [] [(qi7o_37 pc), (2, pt z), (qi7o_35 z), (4, i6 (n101 : Int)), (7, i6 0)] rfl trivial ?_
           refine g_rowL z 74 3 TChannel.cells ?_
           refine g_loop (fun m a w' => ∃ (n103 : Nat) (i2 : Nat) (xs2 : List TChannel) (at2 : Nat) (bd2 : Bool) (aL2 : Option Addr) (cL2 : Nat), m = n101 - i2 ∧ w100.heap.size ≤ n103 ∧ (i2 ≤ n101) ∧ (LStep d98 n99 (chanAt l.xs) i2 bd2 at2 (xs2)) ∧ (xs2.length = i2) ∧ (at2 ≤ l.xs.length) ∧ St 95 [(qi7o_37 pc), (2, pt z), (qi7o_35 z), (4, i6 (n101 : Int)), (7, i6 (i2 : Int))] [] ⟨w, n103, [(old (fun b => b = pc) w), (qi7o_18 pc l at2 bd2), (qi7o_9 z), (qi7o_5 z v2 v7 v12 v17 aL0 xs0 cL0 aL1 xs1 cL1 aL2 xs2 cL2), (famC z 97 3 TWindow.cells xs0), (qi7o_28 z aL0 xs0 cL0), (qi7o_31 z xs1), (qi7o_32 z xs1), (qi7o_29 z aL1 xs1 cL1), (qi7o_30 z aL2 xs2 cL2)]⟩ a w') (n101 - 0) ?_ ?_
           · intro a w' hs; exact ⟨w100.heap.size, 0, ([]), n99, d98, none, 0, rfl, Nat.le_refl _, Nat.zero_le _, lstep_zero _ _ _, rfl, by omega, hs⟩
           · rintro m a w' ⟨n103, i2, xs2, at2, bd2, aL2, cL2, rfl, hn102, hki2, hm2, hxl2, hal2, hs⟩
             refine (?_ : G Try.prog 95 [(qi7o_37 pc), (2, pt z), (qi7o_35 z), (4, i6 (n101 : Int)), (7, i6 (i2 : Int))] [] ⟨w, n103, [(old (fun b => b = pc) w), (qi7o_18 pc l at2 bd2), (qi7o_9 z), (qi7o_5 z v2 v7 v12 v17 aL0 xs0 cL0 aL1 xs1 cL1 aL2 xs2 cL2), (famC z 97 3 TWindow.cells xs0), (qi7o_28 z aL0 xs0 cL0), (qi7o_31 z xs1), (qi7o_32 z xs1), (qi7o_29 z aL1 xs1 cL1), (qi7o_30 z aL2 xs2 cL2)]⟩ _ _ _) a w' hs
             clear hs a w'
             refine g_seq <| g_seq ?_
             by_cases h104 : ((i2 : Int) : Int) < (n101 : Int)
             · cases bd2
               · refine q_cS 10 1 [1] [[o0, o0, oT, o0, o0, o0, o0, (a1 1), o0, o0], [o0]] [BT (((i2 : Int) : Int) < (n101 : Int)), Qb pc] [(qi7o_37 pc), (2, pt z), (qi7o_35 z), (4, i6 (n101 : Int)), (7, i6 (i2 : Int)), (79, pt pc)] rfl ⟨bt (by omega), rfl, trivial⟩ ?_
                 refine l_call [] [] 47 #[pt pc, i6 4] (some 80) trivial ?_
                 intro w105 hw105
                 refine (snum_calls (hw105.at (i := 1) rfl) (sl_mono (fun x _ _ hx hv => old_cell hv hx.2 _ (hw105.at (i := 0) rfl)) (fun x hx => ⟨Nat.lt_of_lt_of_le hx.1 (by rw [hw105.size]; show w.heap.size ≤ n103; omega), hx.2⟩) hl) hB hlen (by omega)).mono ?_
                 rintro e w109 ⟨v106, d107, n108, rfl, hstw109, hrxw109, hlaw109, hCw109, hkw109⟩
                 obtain ⟨hnw109, hSw109⟩ := cur_set hw105 (i := 1) rfl hCw109 hkw109; have hnw109' : n103 ≤ w109.heap.size := hnw109
                 refine ⟨_, _, rfl, hSw109, ?_⟩
                 refine q_rS 4 1 [] [[o0], [o0]] [] [(qi7o_37 pc), (2, pt z), (qi7o_35 z), (4, i6 (n101 : Int)), (7, i6 (i2 : Int)), (8, i6 v106), (81, pt pc)] rfl trivial ?_
                 refine l_call [] [] 47 #[pt pc, i6 4] (some 82) trivial ?_
                 intro w110 hw110
                 refine (snum_calls (hw110.at (i := 1) rfl) (sl_mono (fun x _ _ hx hv => old_cell hv hx.2 _ (hw110.at (i := 0) rfl)) (fun x hx => ⟨Nat.lt_of_lt_of_le hx.1 (by rw [hw110.size]; show w.heap.size ≤ w109.heap.size; omega), hx.2⟩) hl) hB hlen (by omega)).mono ?_
                 rintro e w114 ⟨v111, d112, n113, rfl, hstw114, hrxw114, hlaw114, hCw114, hkw114⟩
                 obtain ⟨hnw114, hSw114⟩ := cur_set hw110 (i := 1) rfl hCw114 hkw114; have hnw114' : w109.heap.size ≤ w114.heap.size := hnw114
                 refine ⟨_, _, rfl, hSw114, ?_⟩
                 refine q_rS 4 1 [] [[o0], [o0]] [] [(qi7o_37 pc), (2, pt z), (qi7o_35 z), (4, i6 (n101 : Int)), (7, i6 (i2 : Int)), (8, i6 v106), (9, i6 v111), (83, pt pc)] rfl trivial ?_
                 refine l_call [] [] 47 #[pt pc, i6 4] (some 84) trivial ?_
                 intro w115 hw115
                 refine (snum_calls (hw115.at (i := 1) rfl) (sl_mono (fun x _ _ hx hv => old_cell hv hx.2 _ (hw115.at (i := 0) rfl)) (fun x hx => ⟨Nat.lt_of_lt_of_le hx.1 (by rw [hw115.size]; show w.heap.size ≤ w114.heap.size; omega), hx.2⟩) hl) hB hlen (by omega)).mono ?_
                 rintro e w119 ⟨v116, d117, n118, rfl, hstw119, hrxw119, hlaw119, hCw119, hkw119⟩
                 obtain ⟨hnw119, hSw119⟩ := cur_set hw115 (i := 1) rfl hCw119 hkw119; have hnw119' : w114.heap.size ≤ w119.heap.size := hnw119
                 refine ⟨_, _, rfl, hSw119, ?_⟩
                 refine q_r 3 7 [] [[o0], [o0, (a1 3), o0, o0, o0, o0, o0]] [Qb (z + 1)] [(qi7o_37 pc), (2, pt z), (qi7o_35 z), (4, i6 (n101 : Int)), (7, i6 (i2 : Int)), (86, .slice aL2 xs2.length cL2), (91, .slice (some ⟨w119.heap.size, 0, none⟩) 1 1)] ⟨w, w119.heap.size + 1, [(old (fun b => b = pc) w), (qi7o_10 pc l n118 d117), (qi7o_9 z), (qi7o_5 z v2 v7 v12 v17 aL0 xs0 cL0 aL1 xs1 cL1 aL2 xs2 cL2), (famC z 97 3 TWindow.cells xs0), (qi7o_28 z aL0 xs0 cL0), (qi7o_31 z xs1), (qi7o_32 z xs1), (qi7o_29 z aL1 xs1 cL1), (qi7o_30 z aL2 xs2 cL2), (.blk w119.heap.size (.cells #[i6 v106, i6 v111, i6 v116] 74 (0, 0)) true)]⟩ rfl ⟨rfl, trivial⟩ ?_
                 refine l_push z 9 10 xs2 [(⟨v106, v111, v116⟩ : TChannel)] TChannel.cells 74 3 24 (.slice aL2 xs2.length cL2) w119.heap.size 1 1 #[i6 v106, i6 v111, i6 v116] 74 (0, 0) true (some 92) (by simp only [List.length_cons, List.length_nil]; omega) (show z ≤ w119.heap.size + 1 by omega) (fun a120 cp121 n122 (hn123 : w119.heap.size + 1 ≤ n122) => ?_)
                 refine q_r 5 0 [] [[o0, (a1 3)], [o0, (ov (i6 ((i2 + 1 : Nat) : Int))), o0]] [Qb (z + 1), Wr (((i2 : Int) : Int) + 1) (((i2 + 1 : Nat) : Int))] [(qi7o_37 pc), (2, pt z), (qi7o_35 z), (4, i6 (n101 : Int)), (qi7o_36 i2)] ⟨w, n122, [(old (fun b => b = pc) w), (qi7o_10 pc l n118 d117), (qi7o_9 z), (bk (z + 1) #[i6 v2, i6 v7, i6 v12, i6 v17, .slice aL0 xs0.length cL0, .slice aL1 xs1.length cL1, .slice a120 ((xs2 ++ [(⟨v106, v111, v116⟩ : TChannel)]).length) cp121] 26), (famC z 97 3 TWindow.cells xs0), (qi7o_28 z aL0 xs0 cL0), (qi7o_31 z xs1), (qi7o_32 z xs1), (qi7o_29 z aL1 xs1 cL1), (rowL z 74 3 TChannel.cells (.slice a120 ((xs2 ++ [(⟨v106, v111, v116⟩ : TChannel)]).length) cp121) (xs2 ++ [(⟨v106, v111, v116⟩ : TChannel)])), (.blk w119.heap.size (.cells #[i6 v106, i6 v111, i6 v116] 74 (0, 0)) true)]⟩ rfl ⟨rfl, wrI, trivial⟩ ?_
                 refine e_pick [0, 1, 2, 3, 4, 5, 6, 7, 8, 9] [(old (fun b => b = pc) w), (qi7o_10 pc l n118 d117), (qi7o_9 z), (bk (z + 1) #[i6 v2, i6 v7, i6 v12, i6 v17, .slice aL0 xs0.length cL0, .slice aL1 xs1.length cL1, .slice a120 ((xs2 ++ [(⟨v106, v111, v116⟩ : TChannel)]).length) cp121] 26), (famC z 97 3 TWindow.cells xs0), (qi7o_28 z aL0 xs0 cL0), (qi7o_31 z xs1), (qi7o_32 z xs1), (qi7o_29 z aL1 xs1 cL1), (rowL z 74 3 TChannel.cells (.slice a120 ((xs2 ++ [(⟨v106, v111, v116⟩ : TChannel)]).length) cp121) (xs2 ++ [(⟨v106, v111, v116⟩ : TChannel)]))] rfl rfl ?_
                 refine e_keep [0, 2, 3, 4, 7] [(qi7o_37 pc), (2, pt z), (qi7o_35 z), (4, i6 (n101 : Int)), (qi7o_36 i2)] ?_
                 refine e_inv (fun a w' hs => ⟨n101 - (i2 + 1), by omega, n122, (i2 + 1), (xs2 ++ [(⟨v106, v111, v116⟩ : TChannel)]), n118, d117, a120, cp121, rfl, by omega, by omega, hm2.more (by unfold chanAt; exact hstw109.bind (hstw114.bind (hstw119.map))), by rw [List.length_append, hxl2]; rfl, by omega, hs⟩)
               · refine q_cS 10 0 [0] [[o0, o0, oT, o0, o0, o0, o0, (a1 1), o0, o0]] [BT (((i2 : Int) : Int) < (n101 : Int)), Qb pc] [(qi7o_37 pc), (2, pt z), (qi7o_35 z), (4, i6 (n101 : Int)), (7, i6 (i2 : Int)), (76, .bool false)] rfl ⟨bt (by omega), rfl, trivial⟩ ?_
                 have hst124 := LStep.done hstw100 hm2 (.inr ⟨rfl, by omega⟩)
                 refine q_c 4 0 [] [[(an 7 3), (an 7 2)]] [Qb (z + 1), Qb (z + 1), Qb (z + 1), Qb (z + 1), Qb (z + 1), Qb (z + 1), Qb (z + 1), Qb z, Qb z, Qb z, Qb z, Qb z, Qb z, Qb z] [(2, pt z)] ⟨w, n103, [(old (fun b => b = pc) w), (qi7o_14 pc l at2), (qi7o_6 z v2 v7 v12 v17 aL0 xs0 cL0 aL1 xs1 cL1 aL2 xs2 cL2), (qi7o_5 z v2 v7 v12 v17 aL0 xs0 cL0 aL1 xs1 cL1 aL2 xs2 cL2), (famC z 97 3 TWindow.cells xs0), (qi7o_28 z aL0 xs0 cL0), (qi7o_31 z xs1), (qi7o_32 z xs1), (qi7o_29 z aL1 xs1 cL1), (qi7o_30 z aL2 xs2 cL2)]⟩ rfl ⟨rfl, rfl, rfl, rfl, rfl, rfl, rfl, rfl, rfl, rfl, rfl, rfl, rfl, rfl, trivial⟩ ?_
                 refine e_ret [.at 2, .at 2, .at 2, .at 2, .at 2, .at 2, .at 2] [Qb z, Qb z, Qb z, Qb z, Qb z, Qb z, Qb z] (.agg #[i6 v2, i6 v7, i6 v12, i6 v17, .slice aL0 xs0.length cL0, .slice aL1 xs1.length cL1, .slice aL2 xs2.length cL2]) ⟨rfl, rfl, rfl, rfl, rfl, rfl, rfl, trivial⟩ ?_
                 intro w125 hw125
                 exact ⟨(⟨v2, v7, v12, v17, ⟨aL0, cL0, xs0⟩, ⟨aL1, cL1, xs1⟩, ⟨aL2, cL2, xs2⟩⟩ : TConfig), _, _, rfl, (by unfold confAt; exact hstw5.bind (hstw10.bind (hstw15.bind (hstw20.bind (hst42.bind (hst95.bind (hst124.map))))))), by omega, hw125.at (i := 1) rfl, back0 hw125, made_of (fs := confFs (⟨v2, v7, v12, v17, ⟨aL0, cL0, xs0⟩, ⟨aL1, cL1, xs1⟩, ⟨aL2, cL2, xs2⟩⟩ : TConfig)) (conf_low (⟨v2, v7, v12, v17, ⟨aL0, cL0, xs0⟩, ⟨aL1, cL1, xs1⟩, ⟨aL2, cL2, xs2⟩⟩ : TConfig)) (by have hP := hw125.pick [5, 4, 8, 6, 7, 9] (σ' := [(qi7o_28 z aL0 xs0 cL0), (famC z 97 3 TWindow.cells xs0), (qi7o_29 z aL1 xs1 cL1), (qi7o_31 z xs1), (qi7o_32 z xs1), (qi7o_30 z aL2 xs2 cL2)]) rfl rfl; rw [hw125.size]; exact hz ▸ hP)⟩
             · refine q_cS 10 0 [0] [[o0, o0, oF, o0, o0]] [BF (((i2 : Int) : Int) < (n101 : Int))] [(qi7o_37 pc), (2, pt z), (qi7o_35 z), (4, i6 (n101 : Int)), (7, i6 (i2 : Int)), (76, .bool false)] rfl ⟨bf (by omega), trivial⟩ ?_
               have hst126 := LStep.done hstw100 hm2 (.inl (by omega))
               refine q_c 4 0 [] [[(an 7 3), (an 7 2)]] [Qb (z + 1), Qb (z + 1), Qb (z + 1), Qb (z + 1), Qb (z + 1), Qb (z + 1), Qb (z + 1), Qb z, Qb z, Qb z, Qb z, Qb z, Qb z, Qb z] [(2, pt z)] ⟨w, n103, [(old (fun b => b = pc) w), (qi7o_18 pc l at2 bd2), (qi7o_6 z v2 v7 v12 v17 aL0 xs0 cL0 aL1 xs1 cL1 aL2 xs2 cL2), (qi7o_5 z v2 v7 v12 v17 aL0 xs0 cL0 aL1 xs1 cL1 aL2 xs2 cL2), (famC z 97 3 TWindow.cells xs0), (qi7o_28 z aL0 xs0 cL0), (qi7o_31 z xs1), (qi7o_32 z xs1), (qi7o_29 z aL1 xs1 cL1), (qi7o_30 z aL2 xs2 cL2)]⟩ rfl ⟨rfl, rfl, rfl, rfl, rfl, rfl, rfl, rfl, rfl, rfl, rfl, rfl, rfl, rfl, trivial⟩ ?_
               refine e_ret [.at 2, .at 2, .at 2, .at 2, .at 2, .at 2, .at 2] [Qb z, Qb z, Qb z, Qb z, Qb z, Qb z, Qb z] (.agg #[i6 v2, i6 v7, i6 v12, i6 v17, .slice aL0 xs0.length cL0, .slice aL1 xs1.length cL1, .slice aL2 xs2.length cL2]) ⟨rfl, rfl, rfl, rfl, rfl, rfl, rfl, trivial⟩ ?_
               intro w127 hw127
               exact ⟨(⟨v2, v7, v12, v17, ⟨aL0, cL0, xs0⟩, ⟨aL1, cL1, xs1⟩, ⟨aL2, cL2, xs2⟩⟩ : TConfig), _, _, rfl, (by unfold confAt; exact hstw5.bind (hstw10.bind (hstw15.bind (hstw20.bind (hst42.bind (hst95.bind (hst126.map))))))), by omega, hw127.at (i := 1) rfl, back0 hw127, made_of (fs := confFs (⟨v2, v7, v12, v17, ⟨aL0, cL0, xs0⟩, ⟨aL1, cL1, xs1⟩, ⟨aL2, cL2, xs2⟩⟩ : TConfig)) (conf_low (⟨v2, v7, v12, v17, ⟨aL0, cL0, xs0⟩, ⟨aL1, cL1, xs1⟩, ⟨aL2, cL2, xs2⟩⟩ : TConfig)) (by have hP := hw127.pick [5, 4, 8, 6, 7, 9] (σ' := [(qi7o_28 z aL0 xs0 cL0), (famC z 97 3 TWindow.cells xs0), (qi7o_29 z aL1 xs1 cL1), (qi7o_31 z xs1), (qi7o_32 z xs1), (qi7o_30 z aL2 xs2 cL2)]) rfl rfl; rw [hw127.size]; exact hz ▸ hP)⟩
   · refine q_cS 10 0 [0] [[o0, o0, oF, o0, o0]] [BF (((i0 : Int) : Int) < (n26 : Int))] [(qi7o_37 pc), (2, pt z), (qi7o_35 z), (4, i6 (n26 : Int)), (5, i6 (i0 : Int)), (34, .bool false)] rfl ⟨bf (by omega), trivial⟩ ?_
     have hst128 := LStep.done hstw25 hm0 (.inl (by omega))
     refine q_cS 1 1 [] [[o0]] [] [(qi7o_37 pc), (2, pt z), (qi7o_35 z), (44, pt pc)] rfl trivial ?_
     refine l_call [] [] 47 #[pt pc, i6 1] (some 45) trivial ?_
     intro w129 hw129
     refine (sbyte_calls (hw129.at (i := 1) rfl) (sl_mono (fun x _ _ hx hv => old_cell hv hx.2 _ (hw129.at (i := 0) rfl)) (fun x hx => ⟨Nat.lt_of_lt_of_le hx.1 (by rw [hw129.size]; show w.heap.size ≤ n28; omega), hx.2⟩) hl) hB hlen (by omega)).mono ?_
     rintro e w133 ⟨v130, d131, n132, rfl, hstw133, hrxw133, hlaw133, hCw133, hkw133⟩
     obtain ⟨n134, rfl⟩ : ∃ n : Nat, v130 = (n : Int) := ⟨_, (Int.toNat_of_nonneg hrxw133.1.1).symm⟩
     obtain ⟨hnw133, hSw133⟩ := cur_set hw129 (i := 1) rfl hCw133 hkw133; have hnw133' : n28 ≤ w133.heap.size := hnw133
     refine ⟨_, _, rfl, hSw133, ?_⟩
     refine q_rS 8 0 [] [[o0], [o0]] [] [(qi7o_37 pc), (2, pt z), (qi7o_35 z), (4, i6 (n134 : Int)), (6, i6 0)] rfl trivial ?_
     refine g_fam0 z 99 4 TRegion.cells ?_
     refine g_fam0 z 101 2 TPort.cells ?_
     refine g_rowL z 69 8 TPartition.cells ?_
     refine g_loop (fun m a w' => ∃ (n136 : Nat) (i1 : Nat) (xs1 : List TPartition) (at1 : Nat) (bd1 : Bool) (aL1 : Option Addr) (cL1 : Nat), m = n134 - i1 ∧ w133.heap.size ≤ n136 ∧ (i1 ≤ n134) ∧ (LStep d131 n132 (partAt l.xs) i1 bd1 at1 (xs1.map plP)) ∧ (xs1.length = i1) ∧ (at1 ≤ l.xs.length) ∧ St 95 [(qi7o_37 pc), (2, pt z), (qi7o_35 z), (4, i6 (n134 : Int)), (6, i6 (i1 : Int))] [] ⟨w, n136, [(old (fun b => b = pc) w), (qi7o_16 pc l at1 bd1), (qi7o_9 z), (qi7o_7 z v2 v7 v12 v17 aL0 xs0 cL0 aL1 xs1 cL1), (famC z 97 3 TWindow.cells xs0), (qi7o_28 z aL0 xs0 cL0), (qi7o_31 z xs1), (qi7o_32 z xs1), (qi7o_29 z aL1 xs1 cL1)]⟩ a w') (n134 - 0) ?_ ?_
     · intro a w' hs; exact ⟨w133.heap.size, 0, ([]), n132, d131, none, 0, rfl, Nat.le_refl _, Nat.zero_le _, lstep_zero _ _ _, rfl, by omega, hs⟩
     · rintro m a w' ⟨n136, i1, xs1, at1, bd1, aL1, cL1, rfl, hn135, hki1, hm1, hxl1, hal1, hs⟩
       refine (?_ : G Try.prog 95 [(qi7o_37 pc), (2, pt z), (qi7o_35 z), (4, i6 (n134 : Int)), (6, i6 (i1 : Int))] [] ⟨w, n136, [(old (fun b => b = pc) w), (qi7o_16 pc l at1 bd1), (qi7o_9 z), (qi7o_7 z v2 v7 v12 v17 aL0 xs0 cL0 aL1 xs1 cL1), (famC z 97 3 TWindow.cells xs0), (qi7o_28 z aL0 xs0 cL0), (qi7o_31 z xs1), (qi7o_32 z xs1), (qi7o_29 z aL1 xs1 cL1)]⟩ _ _ _) a w' hs
       clear hs a w'
       refine g_seq <| g_seq ?_
       by_cases h137 : ((i1 : Int) : Int) < (n134 : Int)
       · cases bd1
         · refine q_cS 8 0 [1] [[o0, o0, oT, o0, o0, o0, o0, (a1 1), o0, o0]] [BT (((i1 : Int) : Int) < (n134 : Int)), Qb pc] [(qi7o_37 pc), (2, pt z), (qi7o_35 z), (4, i6 (n134 : Int)), (6, i6 (i1 : Int)), (55, .bool true)] rfl ⟨bt (by omega), rfl, trivial⟩ ?_
           refine g_draw 7 [0, 2, 3, 4, 5, 6, 7] [(old (fun b => b = pc) w), (qi7o_9 z), (qi7o_7 z v2 v7 v12 v17 aL0 xs0 cL0 aL1 xs1 cL1), (famC z 97 3 TWindow.cells xs0), (qi7o_28 z aL0 xs0 cL0), (qi7o_31 z xs1), (qi7o_32 z xs1)] rfl rfl ?_
           refine w_take [(0, o0), (1, (a1 2)), (2, o0)] [0, 2, 3, 4, 6, 59, 60] [Qb (z + 1)] [true, true, true, false, false, false, false, false] [(qi7o_37 pc), (2, pt z), (qi7o_35 z), (4, i6 (n134 : Int)), (6, i6 (i1 : Int)), (59, .slice aL1 xs1.length cL1), (60, pt pc)] rfl (by as_aux_lemma => kernel_rfl) (by as_aux_lemma => kernel_rfl) ⟨rfl, trivial⟩ ?_
           refine w_one 3 (by as_aux_lemma => kernel_rfl) rfl ?_
           refine wo_call [] [] 84 #[pt pc] (some 61) (by as_aux_lemma => kernel_rfl) rfl rfl trivial ?_
           intro w138 hw138
           refine (cpart w138 pc l at1 false (hw138.at (i := 1) rfl) (sl_mono (fun x _ _ hx hv => old_cell hv hx.2 _ (hw138.at (i := 0) rfl)) (fun x hx => ⟨Nat.lt_of_lt_of_le hx.1 (by rw [hw138.size]; show w.heap.size ≤ n136; omega), hx.2⟩) hl) hB hlen (by omega)).mono ?_
           rintro e w142 ⟨x139, d140, n141, rfl, hstw142, hlaw142, hCw142, hkw142, hMw142⟩
           obtain ⟨hnw142, hSw142⟩ := cur_made hw138 (i := 1) rfl hCw142 hkw142 hMw142 z (show z ≤ n136 by omega); have hnw142' : n136 ≤ w142.heap.size := hnw142
           have hs143 := hSw142
           refine ⟨_, _, rfl, hs143, .inr (fun c hc => hs143.all c (by first | exact hc | exact picks_mem (is := [0, 2, 3, 4, 5, 6, 7]) rfl c hc)), ?_⟩
           refine w_keep [0, 2, 3, 4, 6, 59, 61] [(qi7o_37 pc), (2, pt z), (qi7o_35 z), (4, i6 (n134 : Int)), (6, i6 (i1 : Int)), (59, .slice aL1 xs1.length cL1), (61, .agg (TPartition.arr x139))] ?_
           refine w_one 4 (by as_aux_lemma => kernel_rfl) rfl ?_
           refine wo_eff o0 [0, 2, 3, 4, 6, 59, 62] [] [(qi7o_37 pc), (2, pt z), (qi7o_35 z), (4, i6 (n134 : Int)), (6, i6 (i1 : Int)), (59, .slice aL1 xs1.length cL1), (62, .slice (some ⟨w142.heap.size, 0, none⟩) 1 1)] ⟨w, w142.heap.size + 1, [(old (fun b => b = pc) w), (qi7o_11 pc l n141 d140), (qi7o_9 z), (qi7o_7 z v2 v7 v12 v17 aL0 xs0 cL0 aL1 xs1 cL1), (famC z 97 3 TWindow.cells xs0), (qi7o_28 z aL0 xs0 cL0), (qi7o_31 z xs1), (qi7o_32 z xs1), (qi7o_29 z aL1 xs1 cL1), (qi7o_24 z x139), (qi7o_26 z x139), (qi7o_2 w142 x139)]⟩ [0, 2, 3, 4, 5, 6, 7] (by as_aux_lemma => kernel_rfl) rfl trivial (.inr rfl) ?_
           refine w_one 5 (by as_aux_lemma => kernel_rfl) rfl ?_
           refine wo_push z 8 11 xs1 [(⟨x139.Name, x139.Entry, x139.Action, x139.Restarts, x139.Inputs, x139.Outputs, (⟨x139.Regions.a, x139.Regions.cap, x139.Regions.xs⟩ : Sl TRegion), (⟨x139.Ports.a, x139.Ports.cap, x139.Ports.xs⟩ : Sl TPort)⟩ : TPartition)] TPartition.cells 69 8 104 (.slice aL1 xs1.length cL1) w142.heap.size 1 1 #[.string x139.Name, i6 x139.Entry, i6 x139.Action, i6 x139.Restarts, i6 x139.Inputs, i6 x139.Outputs, .slice x139.Regions.a x139.Regions.xs.length x139.Regions.cap, .slice x139.Ports.a x139.Ports.xs.length x139.Ports.cap] 69 (0, 0) true (some 63) [0, 2, 3, 4, 5, 6, 7] (by simp only [List.length_cons, List.length_nil]; omega) (show z ≤ w142.heap.size + 1 by omega) (.inr ⟨rfl, rfl⟩) (fun a144 cp145 n146 (hn147 : w142.heap.size + 1 ≤ n146) => ?_)
           refine w_keep [0, 2, 3, 4, 6, 63] [(qi7o_37 pc), (2, pt z), (qi7o_35 z), (4, i6 (n134 : Int)), (6, i6 (i1 : Int)), (qi7o_33 a144 xs1 x139 cp145)] ?_
           refine w_take [(6, o0)] [0, 2, 3, 4, 6, 63, 64] [] [true, true, true, true, true, true, true, false] [(qi7o_37 pc), (2, pt z), (qi7o_35 z), (4, i6 (n134 : Int)), (6, i6 (i1 : Int)), (qi7o_33 a144 xs1 x139 cp145), (64, .pointer (some ⟨z + 1, 5, none⟩))] rfl (by as_aux_lemma => kernel_rfl) (by as_aux_lemma => kernel_rfl) trivial ?_
           refine w_one 7 (by as_aux_lemma => kernel_rfl) rfl ?_
           refine wo_eff (a1 3) [0, 2, 3, 4, 6] [Qb (z + 1)] [(qi7o_37 pc), (2, pt z), (qi7o_35 z), (4, i6 (n134 : Int)), (6, i6 (i1 : Int))] ⟨w, n146, [(old (fun b => b = pc) w), (qi7o_11 pc l n141 d140), (qi7o_9 z), (qi7o_0 z v2 v7 v12 v17 aL0 xs0 cL0 a144 xs1 x139 cp145), (famC z 97 3 TWindow.cells xs0), (qi7o_28 z aL0 xs0 cL0), (qi7o_31 z xs1), (qi7o_32 z xs1), (qi7o_21 z a144 xs1 x139 cp145), (qi7o_24 z x139), (qi7o_26 z x139), (qi7o_2 w142 x139)]⟩ [] (by as_aux_lemma => kernel_rfl) rfl ⟨rfl, trivial⟩ (.inl rfl) ?_
           refine w_free 8 [0, 1, 2, 3, 4, 5, 6, 7, 8, 9, 10, 11] [(old (fun b => b = pc) w), (qi7o_11 pc l n141 d140), (qi7o_9 z), (qi7o_0 z v2 v7 v12 v17 aL0 xs0 cL0 a144 xs1 x139 cp145), (famC z 97 3 TWindow.cells xs0), (qi7o_28 z aL0 xs0 cL0), (qi7o_31 z xs1), (qi7o_32 z xs1), (qi7o_21 z a144 xs1 x139 cp145), (qi7o_24 z x139), (qi7o_26 z x139), (qi7o_2 w142 x139)] rfl rfl ?_
           refine w_done (by as_aux_lemma => kernel_rfl) ?_
           refine q_oS 4 0 [] [[o0, (ov (i6 ((i1 + 1 : Nat) : Int))), o0]] [Wr (((i1 : Int) : Int) + 1) (((i1 + 1 : Nat) : Int))] [(qi7o_37 pc), (2, pt z), (qi7o_35 z), (4, i6 (n134 : Int)), (6, i6 ((i1 + 1 : Nat) : Int))] rfl ⟨wrI, trivial⟩ ?_
           refine e_fam 6 9 [0, 1, 2, 3, 4, 5, 7, 8, 10, 11] [(old (fun b => b = pc) w), (qi7o_11 pc l n141 d140), (qi7o_9 z), (qi7o_0 z v2 v7 v12 v17 aL0 xs0 cL0 a144 xs1 x139 cp145), (famC z 97 3 TWindow.cells xs0), (qi7o_28 z aL0 xs0 cL0), (qi7o_32 z xs1), (qi7o_21 z a144 xs1 x139 cp145), (qi7o_26 z x139), (qi7o_2 w142 x139)] ?_
           refine e_fam 6 8 [0, 1, 2, 3, 4, 5, 7, 9, 10] [(old (fun b => b = pc) w), (qi7o_11 pc l n141 d140), (qi7o_9 z), (qi7o_0 z v2 v7 v12 v17 aL0 xs0 cL0 a144 xs1 x139 cp145), (famC z 97 3 TWindow.cells xs0), (qi7o_28 z aL0 xs0 cL0), (qi7o_21 z a144 xs1 x139 cp145), (qi7o_2 w142 x139), (famC z 99 4 TRegion.cells ((xs1.map TPartition.Regions) ++ [⟨x139.Regions.a, x139.Regions.cap, x139.Regions.xs⟩]))] ?_
           refine e_pick [0, 1, 2, 3, 4, 5, 8, 9, 6] [(old (fun b => b = pc) w), (qi7o_11 pc l n141 d140), (qi7o_9 z), (qi7o_0 z v2 v7 v12 v17 aL0 xs0 cL0 a144 xs1 x139 cp145), (famC z 97 3 TWindow.cells xs0), (qi7o_28 z aL0 xs0 cL0), (famC z 99 4 TRegion.cells ((xs1.map TPartition.Regions) ++ [⟨x139.Regions.a, x139.Regions.cap, x139.Regions.xs⟩])), (famC z 101 2 TPort.cells ((xs1.map TPartition.Ports) ++ [⟨x139.Ports.a, x139.Ports.cap, x139.Ports.xs⟩])), (qi7o_21 z a144 xs1 x139 cp145)] rfl rfl ?_
           refine e_keep [0, 2, 3, 4, 6] [(qi7o_37 pc), (2, pt z), (qi7o_35 z), (4, i6 (n134 : Int)), (6, i6 ((i1 + 1 : Nat) : Int))] ?_
           refine e_inv (fun a w' hs => ⟨n134 - (i1 + 1), by omega, n146, (i1 + 1), (xs1 ++ [(⟨x139.Name, x139.Entry, x139.Action, x139.Restarts, x139.Inputs, x139.Outputs, (⟨x139.Regions.a, x139.Regions.cap, x139.Regions.xs⟩ : Sl TRegion), (⟨x139.Ports.a, x139.Ports.cap, x139.Ports.xs⟩ : Sl TPort)⟩ : TPartition)]), n141, d140, a144, cp145, rfl, by omega, by omega, hm1.moreM (pl := plP) hstw142, by rw [List.length_append, hxl1]; rfl, by omega, by (try dsimp only [qi7o_0, qi7o_1, qi7o_2, qi7o_3, qi7o_4, qi7o_5, qi7o_6, qi7o_7, qi7o_8, qi7o_9, qi7o_10, qi7o_11, qi7o_12, qi7o_13, qi7o_14, qi7o_15, qi7o_16, qi7o_17, qi7o_18, qi7o_19, qi7o_20, qi7o_21, qi7o_22, qi7o_23, qi7o_24, qi7o_25, qi7o_26, qi7o_27, qi7o_28, qi7o_29, qi7o_30, qi7o_31, qi7o_32, qi7o_33, qi7o_34, qi7o_35, qi7o_36, qi7o_37] at hs ⊢); rw [map_push, map_push]; exact hs⟩)
         · refine q_cS 10 0 [0] [[o0, o0, oT, o0, o0, o0, o0, (a1 1), o0, o0]] [BT (((i1 : Int) : Int) < (n134 : Int)), Qb pc] [(qi7o_37 pc), (2, pt z), (qi7o_35 z), (4, i6 (n134 : Int)), (6, i6 (i1 : Int)), (55, .bool false)] rfl ⟨bt (by omega), rfl, trivial⟩ ?_
           have hst148 := LStep.done hstw133 hm1 (.inr ⟨rfl, by omega⟩)
           refine q_cS 1 1 [] [[o0]] [] [(qi7o_37 pc), (2, pt z), (qi7o_35 z), (65, pt pc)] rfl trivial ?_
           refine l_call [] [] 47 #[pt pc, i6 1] (some 66) trivial ?_
           intro w149 hw149
           refine (sbyte_calls (hw149.at (i := 1) rfl) (sl_mono (fun x _ _ hx hv => old_cell hv hx.2 _ (hw149.at (i := 0) rfl)) (fun x hx => ⟨Nat.lt_of_lt_of_le hx.1 (by rw [hw149.size]; show w.heap.size ≤ n136; omega), hx.2⟩) hl) hB hlen (by omega)).mono ?_
           rintro e w153 ⟨v150, d151, n152, rfl, hstw153, hrxw153, hlaw153, hCw153, hkw153⟩
           obtain ⟨n154, rfl⟩ : ∃ n : Nat, v150 = (n : Int) := ⟨_, (Int.toNat_of_nonneg hrxw153.1.1).symm⟩
           obtain ⟨hnw153, hSw153⟩ := cur_set hw149 (i := 1) rfl hCw153 hkw153; have hnw153' : n136 ≤ w153.heap.size := hnw153
           refine ⟨_, _, rfl, hSw153, ?_⟩
           refine q_rS 8 0 [] [[o0], [o0]] [] [(qi7o_37 pc), (2, pt z), (qi7o_35 z), (4, i6 (n154 : Int)), (7, i6 0)] rfl trivial ?_
           refine g_rowL z 74 3 TChannel.cells ?_
           refine g_loop (fun m a w' => ∃ (n156 : Nat) (i2 : Nat) (xs2 : List TChannel) (at2 : Nat) (bd2 : Bool) (aL2 : Option Addr) (cL2 : Nat), m = n154 - i2 ∧ w153.heap.size ≤ n156 ∧ (i2 ≤ n154) ∧ (LStep d151 n152 (chanAt l.xs) i2 bd2 at2 (xs2)) ∧ (xs2.length = i2) ∧ (at2 ≤ l.xs.length) ∧ St 95 [(qi7o_37 pc), (2, pt z), (qi7o_35 z), (4, i6 (n154 : Int)), (7, i6 (i2 : Int))] [] ⟨w, n156, [(old (fun b => b = pc) w), (qi7o_18 pc l at2 bd2), (qi7o_9 z), (qi7o_5 z v2 v7 v12 v17 aL0 xs0 cL0 aL1 xs1 cL1 aL2 xs2 cL2), (famC z 97 3 TWindow.cells xs0), (qi7o_28 z aL0 xs0 cL0), (qi7o_31 z xs1), (qi7o_32 z xs1), (qi7o_29 z aL1 xs1 cL1), (qi7o_30 z aL2 xs2 cL2)]⟩ a w') (n154 - 0) ?_ ?_
           · intro a w' hs; exact ⟨w153.heap.size, 0, ([]), n152, d151, none, 0, rfl, Nat.le_refl _, Nat.zero_le _, lstep_zero _ _ _, rfl, by omega, hs⟩
           · rintro m a w' ⟨n156, i2, xs2, at2, bd2, aL2, cL2, rfl, hn155, hki2, hm2, hxl2, hal2, hs⟩
             refine (?_ : G Try.prog 95 [(qi7o_37 pc), (2, pt z), (qi7o_35 z), (4, i6 (n154 : Int)), (7, i6 (i2 : Int))] [] ⟨w, n156, [(old (fun b => b = pc) w), (qi7o_18 pc l at2 bd2), (qi7o_9 z), (qi7o_5 z v2 v7 v12 v17 aL0 xs0 cL0 aL1 xs1 cL1 aL2 xs2 cL2), (famC z 97 3 TWindow.cells xs0), (qi7o_28 z aL0 xs0 cL0), (qi7o_31 z xs1), (qi7o_32 z xs1), (qi7o_29 z aL1 xs1 cL1), (qi7o_30 z aL2 xs2 cL2)]⟩ _ _ _) a w' hs
             clear hs a w'
             refine g_seq <| g_seq ?_
             by_cases h157 : ((i2 : Int) : Int) < (n154 : Int)
             · cases bd2
               · refine q_cS 10 1 [1] [[o0, o0, oT, o0, o0, o0, o0, (a1 1), o0, o0], [o0]] [BT (((i2 : Int) : Int) < (n154 : Int)), Qb pc] [(qi7o_37 pc), (2, pt z), (qi7o_35 z), (4, i6 (n154 : Int)), (7, i6 (i2 : Int)), (79, pt pc)] rfl ⟨bt (by omega), rfl, trivial⟩ ?_
                 refine l_call [] [] 47 #[pt pc, i6 4] (some 80) trivial ?_
                 intro w158 hw158
                 refine (snum_calls (hw158.at (i := 1) rfl) (sl_mono (fun x _ _ hx hv => old_cell hv hx.2 _ (hw158.at (i := 0) rfl)) (fun x hx => ⟨Nat.lt_of_lt_of_le hx.1 (by rw [hw158.size]; show w.heap.size ≤ n156; omega), hx.2⟩) hl) hB hlen (by omega)).mono ?_
                 rintro e w162 ⟨v159, d160, n161, rfl, hstw162, hrxw162, hlaw162, hCw162, hkw162⟩
                 obtain ⟨hnw162, hSw162⟩ := cur_set hw158 (i := 1) rfl hCw162 hkw162; have hnw162' : n156 ≤ w162.heap.size := hnw162
                 refine ⟨_, _, rfl, hSw162, ?_⟩
                 refine q_rS 4 1 [] [[o0], [o0]] [] [(qi7o_37 pc), (2, pt z), (qi7o_35 z), (4, i6 (n154 : Int)), (7, i6 (i2 : Int)), (8, i6 v159), (81, pt pc)] rfl trivial ?_
                 refine l_call [] [] 47 #[pt pc, i6 4] (some 82) trivial ?_
                 intro w163 hw163
                 refine (snum_calls (hw163.at (i := 1) rfl) (sl_mono (fun x _ _ hx hv => old_cell hv hx.2 _ (hw163.at (i := 0) rfl)) (fun x hx => ⟨Nat.lt_of_lt_of_le hx.1 (by rw [hw163.size]; show w.heap.size ≤ w162.heap.size; omega), hx.2⟩) hl) hB hlen (by omega)).mono ?_
                 rintro e w167 ⟨v164, d165, n166, rfl, hstw167, hrxw167, hlaw167, hCw167, hkw167⟩
                 obtain ⟨hnw167, hSw167⟩ := cur_set hw163 (i := 1) rfl hCw167 hkw167; have hnw167' : w162.heap.size ≤ w167.heap.size := hnw167
                 refine ⟨_, _, rfl, hSw167, ?_⟩
                 refine q_rS 4 1 [] [[o0], [o0]] [] [(qi7o_37 pc), (2, pt z), (qi7o_35 z), (4, i6 (n154 : Int)), (7, i6 (i2 : Int)), (8, i6 v159), (9, i6 v164), (83, pt pc)] rfl trivial ?_
                 refine l_call [] [] 47 #[pt pc, i6 4] (some 84) trivial ?_
                 intro w168 hw168
                 refine (snum_calls (hw168.at (i := 1) rfl) (sl_mono (fun x _ _ hx hv => old_cell hv hx.2 _ (hw168.at (i := 0) rfl)) (fun x hx => ⟨Nat.lt_of_lt_of_le hx.1 (by rw [hw168.size]; show w.heap.size ≤ w167.heap.size; omega), hx.2⟩) hl) hB hlen (by omega)).mono ?_
                 rintro e w172 ⟨v169, d170, n171, rfl, hstw172, hrxw172, hlaw172, hCw172, hkw172⟩
                 obtain ⟨hnw172, hSw172⟩ := cur_set hw168 (i := 1) rfl hCw172 hkw172; have hnw172' : w167.heap.size ≤ w172.heap.size := hnw172
                 refine ⟨_, _, rfl, hSw172, ?_⟩
                 refine q_r 3 7 [] [[o0], [o0, (a1 3), o0, o0, o0, o0, o0]] [Qb (z + 1)] [(qi7o_37 pc), (2, pt z), (qi7o_35 z), (4, i6 (n154 : Int)), (7, i6 (i2 : Int)), (86, .slice aL2 xs2.length cL2), (91, .slice (some ⟨w172.heap.size, 0, none⟩) 1 1)] ⟨w, w172.heap.size + 1, [(old (fun b => b = pc) w), (qi7o_12 pc l n171 d170), (qi7o_9 z), (qi7o_5 z v2 v7 v12 v17 aL0 xs0 cL0 aL1 xs1 cL1 aL2 xs2 cL2), (famC z 97 3 TWindow.cells xs0), (qi7o_28 z aL0 xs0 cL0), (qi7o_31 z xs1), (qi7o_32 z xs1), (qi7o_29 z aL1 xs1 cL1), (qi7o_30 z aL2 xs2 cL2), (.blk w172.heap.size (.cells #[i6 v159, i6 v164, i6 v169] 74 (0, 0)) true)]⟩ rfl ⟨rfl, trivial⟩ ?_
                 refine l_push z 9 10 xs2 [(⟨v159, v164, v169⟩ : TChannel)] TChannel.cells 74 3 24 (.slice aL2 xs2.length cL2) w172.heap.size 1 1 #[i6 v159, i6 v164, i6 v169] 74 (0, 0) true (some 92) (by simp only [List.length_cons, List.length_nil]; omega) (show z ≤ w172.heap.size + 1 by omega) (fun a173 cp174 n175 (hn176 : w172.heap.size + 1 ≤ n175) => ?_)
                 refine q_r 5 0 [] [[o0, (a1 3)], [o0, (ov (i6 ((i2 + 1 : Nat) : Int))), o0]] [Qb (z + 1), Wr (((i2 : Int) : Int) + 1) (((i2 + 1 : Nat) : Int))] [(qi7o_37 pc), (2, pt z), (qi7o_35 z), (4, i6 (n154 : Int)), (qi7o_36 i2)] ⟨w, n175, [(old (fun b => b = pc) w), (qi7o_12 pc l n171 d170), (qi7o_9 z), (bk (z + 1) #[i6 v2, i6 v7, i6 v12, i6 v17, .slice aL0 xs0.length cL0, .slice aL1 xs1.length cL1, .slice a173 ((xs2 ++ [(⟨v159, v164, v169⟩ : TChannel)]).length) cp174] 26), (famC z 97 3 TWindow.cells xs0), (qi7o_28 z aL0 xs0 cL0), (qi7o_31 z xs1), (qi7o_32 z xs1), (qi7o_29 z aL1 xs1 cL1), (rowL z 74 3 TChannel.cells (.slice a173 ((xs2 ++ [(⟨v159, v164, v169⟩ : TChannel)]).length) cp174) (xs2 ++ [(⟨v159, v164, v169⟩ : TChannel)])), (.blk w172.heap.size (.cells #[i6 v159, i6 v164, i6 v169] 74 (0, 0)) true)]⟩ rfl ⟨rfl, wrI, trivial⟩ ?_
                 refine e_pick [0, 1, 2, 3, 4, 5, 6, 7, 8, 9] [(old (fun b => b = pc) w), (qi7o_12 pc l n171 d170), (qi7o_9 z), (bk (z + 1) #[i6 v2, i6 v7, i6 v12, i6 v17, .slice aL0 xs0.length cL0, .slice aL1 xs1.length cL1, .slice a173 ((xs2 ++ [(⟨v159, v164, v169⟩ : TChannel)]).length) cp174] 26), (famC z 97 3 TWindow.cells xs0), (qi7o_28 z aL0 xs0 cL0), (qi7o_31 z xs1), (qi7o_32 z xs1), (qi7o_29 z aL1 xs1 cL1), (rowL z 74 3 TChannel.cells (.slice a173 ((xs2 ++ [(⟨v159, v164, v169⟩ : TChannel)]).length) cp174) (xs2 ++ [(⟨v159, v164, v169⟩ : TChannel)]))] rfl rfl ?_
                 refine e_keep [0, 2, 3, 4, 7] [(qi7o_37 pc), (2, pt z), (qi7o_35 z), (4, i6 (n154 : Int)), (qi7o_36 i2)] ?_
                 refine e_inv (fun a w' hs => ⟨n154 - (i2 + 1), by omega, n175, (i2 + 1), (xs2 ++ [(⟨v159, v164, v169⟩ : TChannel)]), n171, d170, a173, cp174, rfl, by omega, by omega, hm2.more (by unfold chanAt; exact hstw162.bind (hstw167.bind (hstw172.map))), by rw [List.length_append, hxl2]; rfl, by omega, hs⟩)
               · refine q_cS 10 0 [0] [[o0, o0, oT, o0, o0, o0, o0, (a1 1), o0, o0]] [BT (((i2 : Int) : Int) < (n154 : Int)), Qb pc] [(qi7o_37 pc), (2, pt z), (qi7o_35 z), (4, i6 (n154 : Int)), (7, i6 (i2 : Int)), (76, .bool false)] rfl ⟨bt (by omega), rfl, trivial⟩ ?_
                 have hst177 := LStep.done hstw153 hm2 (.inr ⟨rfl, by omega⟩)
                 refine q_c 4 0 [] [[(an 7 3), (an 7 2)]] [Qb (z + 1), Qb (z + 1), Qb (z + 1), Qb (z + 1), Qb (z + 1), Qb (z + 1), Qb (z + 1), Qb z, Qb z, Qb z, Qb z, Qb z, Qb z, Qb z] [(2, pt z)] ⟨w, n156, [(old (fun b => b = pc) w), (qi7o_14 pc l at2), (qi7o_6 z v2 v7 v12 v17 aL0 xs0 cL0 aL1 xs1 cL1 aL2 xs2 cL2), (qi7o_5 z v2 v7 v12 v17 aL0 xs0 cL0 aL1 xs1 cL1 aL2 xs2 cL2), (famC z 97 3 TWindow.cells xs0), (qi7o_28 z aL0 xs0 cL0), (qi7o_31 z xs1), (qi7o_32 z xs1), (qi7o_29 z aL1 xs1 cL1), (qi7o_30 z aL2 xs2 cL2)]⟩ rfl ⟨rfl, rfl, rfl, rfl, rfl, rfl, rfl, rfl, rfl, rfl, rfl, rfl, rfl, rfl, trivial⟩ ?_
                 refine e_ret [.at 2, .at 2, .at 2, .at 2, .at 2, .at 2, .at 2] [Qb z, Qb z, Qb z, Qb z, Qb z, Qb z, Qb z] (.agg #[i6 v2, i6 v7, i6 v12, i6 v17, .slice aL0 xs0.length cL0, .slice aL1 xs1.length cL1, .slice aL2 xs2.length cL2]) ⟨rfl, rfl, rfl, rfl, rfl, rfl, rfl, trivial⟩ ?_
                 intro w178 hw178
                 exact ⟨(⟨v2, v7, v12, v17, ⟨aL0, cL0, xs0⟩, ⟨aL1, cL1, xs1⟩, ⟨aL2, cL2, xs2⟩⟩ : TConfig), _, _, rfl, (by unfold confAt; exact hstw5.bind (hstw10.bind (hstw15.bind (hstw20.bind (hst128.bind (hst148.bind (hst177.map))))))), by omega, hw178.at (i := 1) rfl, back0 hw178, made_of (fs := confFs (⟨v2, v7, v12, v17, ⟨aL0, cL0, xs0⟩, ⟨aL1, cL1, xs1⟩, ⟨aL2, cL2, xs2⟩⟩ : TConfig)) (conf_low (⟨v2, v7, v12, v17, ⟨aL0, cL0, xs0⟩, ⟨aL1, cL1, xs1⟩, ⟨aL2, cL2, xs2⟩⟩ : TConfig)) (by have hP := hw178.pick [5, 4, 8, 6, 7, 9] (σ' := [(qi7o_28 z aL0 xs0 cL0), (famC z 97 3 TWindow.cells xs0), (qi7o_29 z aL1 xs1 cL1), (qi7o_31 z xs1), (qi7o_32 z xs1), (qi7o_30 z aL2 xs2 cL2)]) rfl rfl; rw [hw178.size]; exact hz ▸ hP)⟩
             · refine q_cS 10 0 [0] [[o0, o0, oF, o0, o0]] [BF (((i2 : Int) : Int) < (n154 : Int))] [(qi7o_37 pc), (2, pt z), (qi7o_35 z), (4, i6 (n154 : Int)), (7, i6 (i2 : Int)), (76, .bool false)] rfl ⟨bf (by omega), trivial⟩ ?_
               have hst179 := LStep.done hstw153 hm2 (.inl (by omega))
               refine q_c 4 0 [] [[(an 7 3), (an 7 2)]] [Qb (z + 1), Qb (z + 1), Qb (z + 1), Qb (z + 1), Qb (z + 1), Qb (z + 1), Qb (z + 1), Qb z, Qb z, Qb z, Qb z, Qb z, Qb z, Qb z] [(2, pt z)] ⟨w, n156, [(old (fun b => b = pc) w), (qi7o_18 pc l at2 bd2), (qi7o_6 z v2 v7 v12 v17 aL0 xs0 cL0 aL1 xs1 cL1 aL2 xs2 cL2), (qi7o_5 z v2 v7 v12 v17 aL0 xs0 cL0 aL1 xs1 cL1 aL2 xs2 cL2), (famC z 97 3 TWindow.cells xs0), (qi7o_28 z aL0 xs0 cL0), (qi7o_31 z xs1), (qi7o_32 z xs1), (qi7o_29 z aL1 xs1 cL1), (qi7o_30 z aL2 xs2 cL2)]⟩ rfl ⟨rfl, rfl, rfl, rfl, rfl, rfl, rfl, rfl, rfl, rfl, rfl, rfl, rfl, rfl, trivial⟩ ?_
               refine e_ret [.at 2, .at 2, .at 2, .at 2, .at 2, .at 2, .at 2] [Qb z, Qb z, Qb z, Qb z, Qb z, Qb z, Qb z] (.agg #[i6 v2, i6 v7, i6 v12, i6 v17, .slice aL0 xs0.length cL0, .slice aL1 xs1.length cL1, .slice aL2 xs2.length cL2]) ⟨rfl, rfl, rfl, rfl, rfl, rfl, rfl, trivial⟩ ?_
               intro w180 hw180
               exact ⟨(⟨v2, v7, v12, v17, ⟨aL0, cL0, xs0⟩, ⟨aL1, cL1, xs1⟩, ⟨aL2, cL2, xs2⟩⟩ : TConfig), _, _, rfl, (by unfold confAt; exact hstw5.bind (hstw10.bind (hstw15.bind (hstw20.bind (hst128.bind (hst148.bind (hst179.map))))))), by omega, hw180.at (i := 1) rfl, back0 hw180, made_of (fs := confFs (⟨v2, v7, v12, v17, ⟨aL0, cL0, xs0⟩, ⟨aL1, cL1, xs1⟩, ⟨aL2, cL2, xs2⟩⟩ : TConfig)) (conf_low (⟨v2, v7, v12, v17, ⟨aL0, cL0, xs0⟩, ⟨aL1, cL1, xs1⟩, ⟨aL2, cL2, xs2⟩⟩ : TConfig)) (by have hP := hw180.pick [5, 4, 8, 6, 7, 9] (σ' := [(qi7o_28 z aL0 xs0 cL0), (famC z 97 3 TWindow.cells xs0), (qi7o_29 z aL1 xs1 cL1), (qi7o_31 z xs1), (qi7o_32 z xs1), (qi7o_30 z aL2 xs2 cL2)]) rfl rfl; rw [hw180.size]; exact hz ▸ hP)⟩
       · refine q_cS 10 0 [0] [[o0, o0, oF, o0, o0]] [BF (((i1 : Int) : Int) < (n134 : Int))] [(qi7o_37 pc), (2, pt z), (qi7o_35 z), (4, i6 (n134 : Int)), (6, i6 (i1 : Int)), (55, .bool false)] rfl ⟨bf (by omega), trivial⟩ ?_
         have hst181 := LStep.done hstw133 hm1 (.inl (by omega))
         refine q_cS 1 1 [] [[o0]] [] [(qi7o_37 pc), (2, pt z), (qi7o_35 z), (65, pt pc)] rfl trivial ?_
         refine l_call [] [] 47 #[pt pc, i6 1] (some 66) trivial ?_
         intro w182 hw182
         refine (sbyte_calls (hw182.at (i := 1) rfl) (sl_mono (fun x _ _ hx hv => old_cell hv hx.2 _ (hw182.at (i := 0) rfl)) (fun x hx => ⟨Nat.lt_of_lt_of_le hx.1 (by rw [hw182.size]; show w.heap.size ≤ n136; omega), hx.2⟩) hl) hB hlen (by omega)).mono ?_
         rintro e w186 ⟨v183, d184, n185, rfl, hstw186, hrxw186, hlaw186, hCw186, hkw186⟩
         obtain ⟨n187, rfl⟩ : ∃ n : Nat, v183 = (n : Int) := ⟨_, (Int.toNat_of_nonneg hrxw186.1.1).symm⟩
         obtain ⟨hnw186, hSw186⟩ := cur_set hw182 (i := 1) rfl hCw186 hkw186; have hnw186' : n136 ≤ w186.heap.size := hnw186
         refine ⟨_, _, rfl, hSw186, ?_⟩
         refine q_rS 8 0 [] [[o0], [o0]] [] [(qi7o_37 pc), (2, pt z), (qi7o_35 z), (4, i6 (n187 : Int)), (7, i6 0)] rfl trivial ?_
         refine g_rowL z 74 3 TChannel.cells ?_
         refine g_loop (fun m a w' => ∃ (n189 : Nat) (i2 : Nat) (xs2 : List TChannel) (at2 : Nat) (bd2 : Bool) (aL2 : Option Addr) (cL2 : Nat), m = n187 - i2 ∧ w186.heap.size ≤ n189 ∧ (i2 ≤ n187) ∧ (LStep d184 n185 (chanAt l.xs) i2 bd2 at2 (xs2)) ∧ (xs2.length = i2) ∧ (at2 ≤ l.xs.length) ∧ St 95 [(qi7o_37 pc), (2, pt z), (qi7o_35 z), (4, i6 (n187 : Int)), (7, i6 (i2 : Int))] [] ⟨w, n189, [(old (fun b => b = pc) w), (qi7o_18 pc l at2 bd2), (qi7o_9 z), (qi7o_5 z v2 v7 v12 v17 aL0 xs0 cL0 aL1 xs1 cL1 aL2 xs2 cL2), (famC z 97 3 TWindow.cells xs0), (qi7o_28 z aL0 xs0 cL0), (qi7o_31 z xs1), (qi7o_32 z xs1), (qi7o_29 z aL1 xs1 cL1), (qi7o_30 z aL2 xs2 cL2)]⟩ a w') (n187 - 0) ?_ ?_
         · intro a w' hs; exact ⟨w186.heap.size, 0, ([]), n185, d184, none, 0, rfl, Nat.le_refl _, Nat.zero_le _, lstep_zero _ _ _, rfl, by omega, hs⟩
         · rintro m a w' ⟨n189, i2, xs2, at2, bd2, aL2, cL2, rfl, hn188, hki2, hm2, hxl2, hal2, hs⟩
           refine (?_ : G Try.prog 95 [(qi7o_37 pc), (2, pt z), (qi7o_35 z), (4, i6 (n187 : Int)), (7, i6 (i2 : Int))] [] ⟨w, n189, [(old (fun b => b = pc) w), (qi7o_18 pc l at2 bd2), (qi7o_9 z), (qi7o_5 z v2 v7 v12 v17 aL0 xs0 cL0 aL1 xs1 cL1 aL2 xs2 cL2), (famC z 97 3 TWindow.cells xs0), (qi7o_28 z aL0 xs0 cL0), (qi7o_31 z xs1), (qi7o_32 z xs1), (qi7o_29 z aL1 xs1 cL1), (qi7o_30 z aL2 xs2 cL2)]⟩ _ _ _) a w' hs
           clear hs a w'
           refine g_seq <| g_seq ?_
           by_cases h190 : ((i2 : Int) : Int) < (n187 : Int)
           · cases bd2
             · refine q_cS 10 1 [1] [[o0, o0, oT, o0, o0, o0, o0, (a1 1), o0, o0], [o0]] [BT (((i2 : Int) : Int) < (n187 : Int)), Qb pc] [(qi7o_37 pc), (2, pt z), (qi7o_35 z), (4, i6 (n187 : Int)), (7, i6 (i2 : Int)), (79, pt pc)] rfl ⟨bt (by omega), rfl, trivial⟩ ?_
               refine l_call [] [] 47 #[pt pc, i6 4] (some 80) trivial ?_
               intro w191 hw191
               refine (snum_calls (hw191.at (i := 1) rfl) (sl_mono (fun x _ _ hx hv => old_cell hv hx.2 _ (hw191.at (i := 0) rfl)) (fun x hx => ⟨Nat.lt_of_lt_of_le hx.1 (by rw [hw191.size]; show w.heap.size ≤ n189; omega), hx.2⟩) hl) hB hlen (by omega)).mono ?_
               rintro e w195 ⟨v192, d193, n194, rfl, hstw195, hrxw195, hlaw195, hCw195, hkw195⟩
               obtain ⟨hnw195, hSw195⟩ := cur_set hw191 (i := 1) rfl hCw195 hkw195; have hnw195' : n189 ≤ w195.heap.size := hnw195
               refine ⟨_, _, rfl, hSw195, ?_⟩
               refine q_rS 4 1 [] [[o0], [o0]] [] [(qi7o_37 pc), (2, pt z), (qi7o_35 z), (4, i6 (n187 : Int)), (7, i6 (i2 : Int)), (8, i6 v192), (81, pt pc)] rfl trivial ?_
               refine l_call [] [] 47 #[pt pc, i6 4] (some 82) trivial ?_
               intro w196 hw196
               refine (snum_calls (hw196.at (i := 1) rfl) (sl_mono (fun x _ _ hx hv => old_cell hv hx.2 _ (hw196.at (i := 0) rfl)) (fun x hx => ⟨Nat.lt_of_lt_of_le hx.1 (by rw [hw196.size]; show w.heap.size ≤ w195.heap.size; omega), hx.2⟩) hl) hB hlen (by omega)).mono ?_
               rintro e w200 ⟨v197, d198, n199, rfl, hstw200, hrxw200, hlaw200, hCw200, hkw200⟩
               obtain ⟨hnw200, hSw200⟩ := cur_set hw196 (i := 1) rfl hCw200 hkw200; have hnw200' : w195.heap.size ≤ w200.heap.size := hnw200
               refine ⟨_, _, rfl, hSw200, ?_⟩
               refine q_rS 4 1 [] [[o0], [o0]] [] [(qi7o_37 pc), (2, pt z), (qi7o_35 z), (4, i6 (n187 : Int)), (7, i6 (i2 : Int)), (8, i6 v192), (9, i6 v197), (83, pt pc)] rfl trivial ?_
               refine l_call [] [] 47 #[pt pc, i6 4] (some 84) trivial ?_
               intro w201 hw201
               refine (snum_calls (hw201.at (i := 1) rfl) (sl_mono (fun x _ _ hx hv => old_cell hv hx.2 _ (hw201.at (i := 0) rfl)) (fun x hx => ⟨Nat.lt_of_lt_of_le hx.1 (by rw [hw201.size]; show w.heap.size ≤ w200.heap.size; omega), hx.2⟩) hl) hB hlen (by omega)).mono ?_
               rintro e w205 ⟨v202, d203, n204, rfl, hstw205, hrxw205, hlaw205, hCw205, hkw205⟩
               obtain ⟨hnw205, hSw205⟩ := cur_set hw201 (i := 1) rfl hCw205 hkw205; have hnw205' : w200.heap.size ≤ w205.heap.size := hnw205
               refine ⟨_, _, rfl, hSw205, ?_⟩
               refine q_r 3 7 [] [[o0], [o0, (a1 3), o0, o0, o0, o0, o0]] [Qb (z + 1)] [(qi7o_37 pc), (2, pt z), (qi7o_35 z), (4, i6 (n187 : Int)), (7, i6 (i2 : Int)), (86, .slice aL2 xs2.length cL2), (91, .slice (some ⟨w205.heap.size, 0, none⟩) 1 1)] ⟨w, w205.heap.size + 1, [(old (fun b => b = pc) w), (qi7o_13 pc l n204 d203), (qi7o_9 z), (qi7o_5 z v2 v7 v12 v17 aL0 xs0 cL0 aL1 xs1 cL1 aL2 xs2 cL2), (famC z 97 3 TWindow.cells xs0), (qi7o_28 z aL0 xs0 cL0), (qi7o_31 z xs1), (qi7o_32 z xs1), (qi7o_29 z aL1 xs1 cL1), (qi7o_30 z aL2 xs2 cL2), (.blk w205.heap.size (.cells #[i6 v192, i6 v197, i6 v202] 74 (0, 0)) true)]⟩ rfl ⟨rfl, trivial⟩ ?_
               refine l_push z 9 10 xs2 [(⟨v192, v197, v202⟩ : TChannel)] TChannel.cells 74 3 24 (.slice aL2 xs2.length cL2) w205.heap.size 1 1 #[i6 v192, i6 v197, i6 v202] 74 (0, 0) true (some 92) (by simp only [List.length_cons, List.length_nil]; omega) (show z ≤ w205.heap.size + 1 by omega) (fun a206 cp207 n208 (hn209 : w205.heap.size + 1 ≤ n208) => ?_)
               refine q_r 5 0 [] [[o0, (a1 3)], [o0, (ov (i6 ((i2 + 1 : Nat) : Int))), o0]] [Qb (z + 1), Wr (((i2 : Int) : Int) + 1) (((i2 + 1 : Nat) : Int))] [(qi7o_37 pc), (2, pt z), (qi7o_35 z), (4, i6 (n187 : Int)), (qi7o_36 i2)] ⟨w, n208, [(old (fun b => b = pc) w), (qi7o_13 pc l n204 d203), (qi7o_9 z), (bk (z + 1) #[i6 v2, i6 v7, i6 v12, i6 v17, .slice aL0 xs0.length cL0, .slice aL1 xs1.length cL1, .slice a206 ((xs2 ++ [(⟨v192, v197, v202⟩ : TChannel)]).length) cp207] 26), (famC z 97 3 TWindow.cells xs0), (qi7o_28 z aL0 xs0 cL0), (qi7o_31 z xs1), (qi7o_32 z xs1), (qi7o_29 z aL1 xs1 cL1), (rowL z 74 3 TChannel.cells (.slice a206 ((xs2 ++ [(⟨v192, v197, v202⟩ : TChannel)]).length) cp207) (xs2 ++ [(⟨v192, v197, v202⟩ : TChannel)])), (.blk w205.heap.size (.cells #[i6 v192, i6 v197, i6 v202] 74 (0, 0)) true)]⟩ rfl ⟨rfl, wrI, trivial⟩ ?_
               refine e_pick [0, 1, 2, 3, 4, 5, 6, 7, 8, 9] [(old (fun b => b = pc) w), (qi7o_13 pc l n204 d203), (qi7o_9 z), (bk (z + 1) #[i6 v2, i6 v7, i6 v12, i6 v17, .slice aL0 xs0.length cL0, .slice aL1 xs1.length cL1, .slice a206 ((xs2 ++ [(⟨v192, v197, v202⟩ : TChannel)]).length) cp207] 26), (famC z 97 3 TWindow.cells xs0), (qi7o_28 z aL0 xs0 cL0), (qi7o_31 z xs1), (qi7o_32 z xs1), (qi7o_29 z aL1 xs1 cL1), (rowL z 74 3 TChannel.cells (.slice a206 ((xs2 ++ [(⟨v192, v197, v202⟩ : TChannel)]).length) cp207) (xs2 ++ [(⟨v192, v197, v202⟩ : TChannel)]))] rfl rfl ?_
               refine e_keep [0, 2, 3, 4, 7] [(qi7o_37 pc), (2, pt z), (qi7o_35 z), (4, i6 (n187 : Int)), (qi7o_36 i2)] ?_
               refine e_inv (fun a w' hs => ⟨n187 - (i2 + 1), by omega, n208, (i2 + 1), (xs2 ++ [(⟨v192, v197, v202⟩ : TChannel)]), n204, d203, a206, cp207, rfl, by omega, by omega, hm2.more (by unfold chanAt; exact hstw195.bind (hstw200.bind (hstw205.map))), by rw [List.length_append, hxl2]; rfl, by omega, hs⟩)
             · refine q_cS 10 0 [0] [[o0, o0, oT, o0, o0, o0, o0, (a1 1), o0, o0]] [BT (((i2 : Int) : Int) < (n187 : Int)), Qb pc] [(qi7o_37 pc), (2, pt z), (qi7o_35 z), (4, i6 (n187 : Int)), (7, i6 (i2 : Int)), (76, .bool false)] rfl ⟨bt (by omega), rfl, trivial⟩ ?_
               have hst210 := LStep.done hstw186 hm2 (.inr ⟨rfl, by omega⟩)
               refine q_c 4 0 [] [[(an 7 3), (an 7 2)]] [Qb (z + 1), Qb (z + 1), Qb (z + 1), Qb (z + 1), Qb (z + 1), Qb (z + 1), Qb (z + 1), Qb z, Qb z, Qb z, Qb z, Qb z, Qb z, Qb z] [(2, pt z)] ⟨w, n189, [(old (fun b => b = pc) w), (qi7o_14 pc l at2), (qi7o_6 z v2 v7 v12 v17 aL0 xs0 cL0 aL1 xs1 cL1 aL2 xs2 cL2), (qi7o_5 z v2 v7 v12 v17 aL0 xs0 cL0 aL1 xs1 cL1 aL2 xs2 cL2), (famC z 97 3 TWindow.cells xs0), (qi7o_28 z aL0 xs0 cL0), (qi7o_31 z xs1), (qi7o_32 z xs1), (qi7o_29 z aL1 xs1 cL1), (qi7o_30 z aL2 xs2 cL2)]⟩ rfl ⟨rfl, rfl, rfl, rfl, rfl, rfl, rfl, rfl, rfl, rfl, rfl, rfl, rfl, rfl, trivial⟩ ?_
               refine e_ret [.at 2, .at 2, .at 2, .at 2, .at 2, .at 2, .at 2] [Qb z, Qb z, Qb z, Qb z, Qb z, Qb z, Qb z] (.agg #[i6 v2, i6 v7, i6 v12, i6 v17, .slice aL0 xs0.length cL0, .slice aL1 xs1.length cL1, .slice aL2 xs2.length cL2]) ⟨rfl, rfl, rfl, rfl, rfl, rfl, rfl, trivial⟩ ?_
               intro w211 hw211
               exact ⟨(⟨v2, v7, v12, v17, ⟨aL0, cL0, xs0⟩, ⟨aL1, cL1, xs1⟩, ⟨aL2, cL2, xs2⟩⟩ : TConfig), _, _, rfl, (by unfold confAt; exact hstw5.bind (hstw10.bind (hstw15.bind (hstw20.bind (hst128.bind (hst181.bind (hst210.map))))))), by omega, hw211.at (i := 1) rfl, back0 hw211, made_of (fs := confFs (⟨v2, v7, v12, v17, ⟨aL0, cL0, xs0⟩, ⟨aL1, cL1, xs1⟩, ⟨aL2, cL2, xs2⟩⟩ : TConfig)) (conf_low (⟨v2, v7, v12, v17, ⟨aL0, cL0, xs0⟩, ⟨aL1, cL1, xs1⟩, ⟨aL2, cL2, xs2⟩⟩ : TConfig)) (by have hP := hw211.pick [5, 4, 8, 6, 7, 9] (σ' := [(qi7o_28 z aL0 xs0 cL0), (famC z 97 3 TWindow.cells xs0), (qi7o_29 z aL1 xs1 cL1), (qi7o_31 z xs1), (qi7o_32 z xs1), (qi7o_30 z aL2 xs2 cL2)]) rfl rfl; rw [hw211.size]; exact hz ▸ hP)⟩
           · refine q_cS 10 0 [0] [[o0, o0, oF, o0, o0]] [BF (((i2 : Int) : Int) < (n187 : Int))] [(qi7o_37 pc), (2, pt z), (qi7o_35 z), (4, i6 (n187 : Int)), (7, i6 (i2 : Int)), (76, .bool false)] rfl ⟨bf (by omega), trivial⟩ ?_
             have hst212 := LStep.done hstw186 hm2 (.inl (by omega))
             refine q_c 4 0 [] [[(an 7 3), (an 7 2)]] [Qb (z + 1), Qb (z + 1), Qb (z + 1), Qb (z + 1), Qb (z + 1), Qb (z + 1), Qb (z + 1), Qb z, Qb z, Qb z, Qb z, Qb z, Qb z, Qb z] [(2, pt z)] ⟨w, n189, [(old (fun b => b = pc) w), (qi7o_18 pc l at2 bd2), (qi7o_6 z v2 v7 v12 v17 aL0 xs0 cL0 aL1 xs1 cL1 aL2 xs2 cL2), (qi7o_5 z v2 v7 v12 v17 aL0 xs0 cL0 aL1 xs1 cL1 aL2 xs2 cL2), (famC z 97 3 TWindow.cells xs0), (qi7o_28 z aL0 xs0 cL0), (qi7o_31 z xs1), (qi7o_32 z xs1), (qi7o_29 z aL1 xs1 cL1), (qi7o_30 z aL2 xs2 cL2)]⟩ rfl ⟨rfl, rfl, rfl, rfl, rfl, rfl, rfl, rfl, rfl, rfl, rfl, rfl, rfl, rfl, trivial⟩ ?_
             refine e_ret [.at 2, .at 2, .at 2, .at 2, .at 2, .at 2, .at 2] [Qb z, Qb z, Qb z, Qb z, Qb z, Qb z, Qb z] (.agg #[i6 v2, i6 v7, i6 v12, i6 v17, .slice aL0 xs0.length cL0, .slice aL1 xs1.length cL1, .slice aL2 xs2.length cL2]) ⟨rfl, rfl, rfl, rfl, rfl, rfl, rfl, trivial⟩ ?_
             intro w213 hw213
             exact ⟨(⟨v2, v7, v12, v17, ⟨aL0, cL0, xs0⟩, ⟨aL1, cL1, xs1⟩, ⟨aL2, cL2, xs2⟩⟩ : TConfig), _, _, rfl, (by unfold confAt; exact hstw5.bind (hstw10.bind (hstw15.bind (hstw20.bind (hst128.bind (hst181.bind (hst212.map))))))), by omega, hw213.at (i := 1) rfl, back0 hw213, made_of (fs := confFs (⟨v2, v7, v12, v17, ⟨aL0, cL0, xs0⟩, ⟨aL1, cL1, xs1⟩, ⟨aL2, cL2, xs2⟩⟩ : TConfig)) (conf_low (⟨v2, v7, v12, v17, ⟨aL0, cL0, xs0⟩, ⟨aL1, cL1, xs1⟩, ⟨aL2, cL2, xs2⟩⟩ : TConfig)) (by have hP := hw213.pick [5, 4, 8, 6, 7, 9] (σ' := [(qi7o_28 z aL0 xs0 cL0), (famC z 97 3 TWindow.cells xs0), (qi7o_29 z aL1 xs1 cL1), (qi7o_31 z xs1), (qi7o_32 z xs1), (qi7o_30 z aL2 xs2 cL2)]) rfl rfl; rw [hw213.size]; exact hz ▸ hP)⟩

end Go.Proofs.Ytmmkacfeocnblaa.Ly
