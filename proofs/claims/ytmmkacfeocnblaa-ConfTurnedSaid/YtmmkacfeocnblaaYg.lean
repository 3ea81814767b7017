/- Lists of lists and partitions, read. No conditions. -/
import Derived.Test.YtmmkacfeocnblaaYf
namespace Go.Proofs.Ytmmkacfeocnblaa.Ly
open Go Go.Proofs.Ytmmkacfeocnblaa.Eng Go.Proofs.Ytmmkacfeocnblaa.Mem
set_option linter.unusedSimpArgs false
set_option linter.unusedVariables false
set_option maxRecDepth 100000

def Lowers (f : Nat → Ch) : Prop := (∀ z z', (f z).key = (f z').key) ∧ (∀ z z' w, z ≤ z' → (f z').holds w → (f z).holds w) ∧ (∀ z, (f z).stable) ∧ ∀ z w b, (f z).holds w → (f z).F b → z ≤ b
theorem low_row {α : Type} (e : TypeId) (sz : Nat) (cells : α → List Value) (v : Value) (xs : List α) : Lowers (fun z => rowL z e sz cells v xs) :=
  ⟨fun _ _ => rfl, fun _ _ _ hz h => row_low h hz, fun _ => row_stable _ _ _ _ _ _, fun _ _ b h hb => row_new h b hb⟩
theorem low_fam {α : Type} (e : TypeId) (sz : Nat) (cells : α → List Value) (hs : List (Sl α)) : Lowers (fun z => famC z e sz cells hs) :=
  ⟨fun _ _ => rfl, fun _ _ _ hz h => fam_low h hz, fun _ => fam_stable _ _ _ _ _, fun _ _ b h hb => fam_new h b hb⟩
/-- What a call has made: pieces of new blocks, whatever base (below them) they are told with. -/
def Made (w w' : World) (fs : List (Nat → Ch)) : Prop := (∀ z, z ≤ w.heap.size → Sat ⟨w, w'.heap.size, fs.map (· z)⟩ w') ∧ ∀ z, ∀ d ∈ fs.map (· z), ∀ b, d.F b → w.heap.size ≤ b
theorem made_of {w w' : World} {fs : List (Nat → Ch)} (hL : ∀ f ∈ fs, Lowers f) (h : Sat ⟨w, w'.heap.size, fs.map (· w.heap.size)⟩ w') : Made w w' fs := by
  refine ⟨fun z hz => ?_, fun z d hd b hb => ?_⟩
  · refine h.low (fs.map (· z)) ?_ ?_
    · rw [List.map_map, List.map_map]
      exact List.map_congr_left (fun f hf => (hL f hf).1 _ _)
    · intro c hc
      obtain ⟨f, hf, rfl⟩ := List.mem_map.1 hc
      exact ⟨(hL f hf).2.1 _ _ _ hz (h.all _ (List.mem_map_of_mem hf)), (hL f hf).2.2.1 _⟩
  · obtain ⟨f, hf, rfl⟩ := List.mem_map.1 hd
    have hkey : (f z).F = (f w.heap.size).F := congrArg Prod.fst ((hL f hf).1 z w.heap.size)
    have hb' : (f z).F b := hb
    rw [hkey] at hb'
    exact (hL f hf).2.2.2 w.heap.size w' b (h.all _ (List.mem_map_of_mem hf)) hb'
theorem rd_made {A : AW} {w w' : World} {i pr : Nat} {F : Nat → Prop} {b : List Int} {at0 at' : Nat} {fl0 fl : Int} {fs : List (Nat → Ch)} (h : Sat A w) (hi : A.σ[i]? = some (rdC pr F b at0 fl0)) (hR : RdIs w' pr F b at' fl) (hk : Keeps F w w') (hM : Made w w' fs) (z : Nat) (hz : z ≤ A.n) : A.n ≤ w'.heap.size ∧ Sat { A with n := w'.heap.size, σ := A.σ.set i (rdC pr F b at' fl) ++ fs.map (· z) } w' :=
  ⟨size_of h hk, h.turnMade hi rfl rfl hk hR (rd_stable _ _ _ _ _) (fun _ h => h) (hM.1 z (by rw [h.size]; exact hz)) (hM.2 z)⟩
/-- A thing read that holds lists of its own. -/
def MPost {α β : Type} (w : World) (pr : Nat) (F : Nat → Prop) (b : List Int) (r : PR β) (pl : α → β) (val : α → Value) (fs : α → List (Nat → Ch)) (e : Ending) (w' : World) : Prop :=
  (∃ x a, r = .ok (pl x) a ∧ e = .returned (val x) ∧ RdIs w' pr F b a 0 ∧ Keeps F w w' ∧ Made w w' (fs x)) ∨ (∃ p, r = .no p ∧ e = .panicked (faultP 110 p) ∧ Keeps F w w')
def coreFs (x : Sl (Sl TWindow)) : List (Nat → Ch) := [fun z => rowL z 62 1 (fun x : Sl TWindow => [Sl.val x]) (.slice x.a x.xs.length x.cap) x.xs, fun z => famC z 97 3 TWindow.cells x.xs]
theorem core_low (x : Sl (Sl TWindow)) : ∀ f ∈ coreFs x, Lowers f := by
  simp only [coreFs, List.mem_cons, List.not_mem_nil, or_false, forall_eq_or_imp, forall_eq]
  exact ⟨low_row _ _ _ _ _, low_fam _ _ _ _⟩
structure PPart where
  Name : ByteArray
  Entry : Int
  Action : Int
  Restarts : Int
  Inputs : Int
  Outputs : Int
  Regions : List TRegion
  Ports : List TPort
def plP (x : TPartition) : PPart := ⟨x.Name, x.Entry, x.Action, x.Restarts, x.Inputs, x.Outputs, x.Regions.xs, x.Ports.xs⟩
def partAt (b : List Int) (a : Nat) : PR PPart := (textAt b a).bind fun nm a => (numAt b a).bind fun n1 a => (numAt b a).bind fun n2 a => (numAt b a).bind fun n3 a => (numAt b a).bind fun n4 a => (numAt b a).bind fun n5 a => (listAt b (regAt b) a).bind fun rs a => (listAt b (portAt b) a).bind fun ps a => .ok ⟨nm, n1, n2, n3, n4, n5, rs, ps⟩ a
def partFs (x : TPartition) : List (Nat → Ch) := [fun z => rowL z 99 4 TRegion.cells (.slice x.Regions.a x.Regions.xs.length x.Regions.cap) x.Regions.xs, fun z => rowL z 101 2 TPort.cells (.slice x.Ports.a x.Ports.xs.length x.Ports.cap) x.Ports.xs]
theorem part_low (x : TPartition) : ∀ f ∈ partFs x, Lowers f := by
  simp only [partFs, List.mem_cons, List.not_mem_nil, or_false, forall_eq_or_imp, forall_eq]
  exact ⟨low_row _ _ _ _ _, low_row _ _ _ _ _⟩
def partsFs (x : Sl TPartition) : List (Nat → Ch) := [fun z => rowL z 69 8 TPartition.cells (.slice x.a x.xs.length x.cap) x.xs, fun z => famC z 99 4 TRegion.cells (x.xs.map TPartition.Regions), fun z => famC z 101 2 TPort.cells (x.xs.map TPartition.Ports)]
theorem parts_low (x : Sl TPartition) : ∀ f ∈ partsFs x, Lowers f := by
  simp only [partsFs, List.mem_cons, List.not_mem_nil, or_false, forall_eq_or_imp, forall_eq]
  exact ⟨low_row _ _ _ _ _, low_fam _ _ _ _, low_fam _ _ _ _⟩
structure PConf where
  Frames : Int
  Major : Int
  Kernel : Int
  Room : Int
  Cores : List (List TWindow)
  Partitions : List PPart
  Channels : List TChannel
def plC (c : TConfig) : PConf := ⟨c.Frames, c.Major, c.Kernel, c.Room, c.Cores.xs.map Sl.xs, c.Partitions.xs.map plP, c.Channels.xs⟩
def markAt (b : List Int) (a : Nat) : PR Unit := if a + 4 ≤ b.length ∧ leV b a 4 = 826493762 then .ok () (a + 4) else .no a
theorem markAt_ok {b : List Int} {a : Nat} (h : a + 4 ≤ b.length ∧ leV b a 4 = 826493762) : markAt b a = .ok () (a + 4) := if_pos h
theorem markAt_no {b : List Int} {a : Nat} (h : ¬ (a + 4 ≤ b.length ∧ leV b a 4 = 826493762)) : markAt b a = .no a := if_neg h
def confAt (b : List Int) (a : Nat) : PR PConf := (numAt b a).bind fun n1 a => (numAt b a).bind fun n2 a => (numAt b a).bind fun n3 a => (numAt b a).bind fun n4 a => (listAt b (listAt b (winAt b)) a).bind fun cs a => (listAt b (partAt b) a).bind fun ps a => (listAt b (chanAt b) a).bind fun hs a => .ok ⟨n1, n2, n3, n4, cs, ps, hs⟩ a
def confFs (c : TConfig) : List (Nat → Ch) := coreFs c.Cores ++ partsFs c.Partitions ++ [fun z => rowL z 74 3 TChannel.cells (.slice c.Channels.a c.Channels.xs.length c.Channels.cap) c.Channels.xs]
theorem conf_low (c : TConfig) : ∀ f ∈ confFs c, Lowers f := by
  intro f hf
  rcases List.mem_append.1 hf with hf | hf
  · rcases List.mem_append.1 hf with hf | hf
    · exact core_low _ f hf
    · exact parts_low _ f hf
  · rw [List.mem_singleton.1 hf]; exact low_row _ _ _ _ _
theorem map_push {α β : Type} {g : α → β} {xs : List α} {x : α} : (xs ++ [x]).map g = xs.map g ++ [g x] := by rw [List.map_append]; rfl
abbrev qj9x_0 (z : Nat) (pr : Nat) : Ch := bk z #[pt pr] 87
abbrev qj9x_1 (z : Nat) (aL : Option Addr) (xs : List (Sl TWindow)) (cL : Nat) : Ch := rowL z 62 1 (fun x : Sl TWindow => [Sl.val x]) (.slice aL xs.length cL) xs
theorem takeWs (w : World) (pr : Nat) (F : Nat → Prop) (b : List Int) (at0 : Nat) (hr : RdIs w pr F b at0 0) : Calls Try.prog 74 #[.agg #[.pointer (some ⟨pr, 0, none⟩)], .func (.func 75) #[] #[]] w fun e w' => MPost w pr F b (listAt b (listAt b (winAt b)) at0) (fun x => x.xs.map Sl.xs) (fun x => .slice x.a x.xs.length x.cap) coreFs e w' := by
 obtain ⟨z, hz⟩ : ∃ z, z = w.heap.size := ⟨_, rfl⟩
 refine calls_G (args := [.agg #[pt pr], .func (.func 75) #[] #[]]) 20 ⟨w, z, [(old F w), (rdC pr F b at0 0)]⟩ Try.func74 rfl (by kernel_rfl) (by kernel_rfl) (hz ▸ sat_rdC hr) ?_
 have hB := hr.byt; have hlen := hr.len; have hat := hr.le
 refine g_keep [0, 1] [(0, .agg #[pt pr]), (1, .func (.func 75) #[] #[])] ?_
 refine q_c 6 1 [] [[o0, o0], [(a1 2)]] [Qb z] [(1, .func (.func 75) #[] #[]), (2, pt z), (7, .agg #[pt pr])] ⟨w, z + 1, [(old F w), (rdC pr F b at0 0), (qj9x_0 z pr)]⟩ rfl ⟨rfl, trivial⟩ ?_
 refine l_callX [] [] 88 #[.agg #[pt pr]] (some 8) trivial ?_
 intro w1 hw1
 have hlew1 := RdIs.le (hw1.at (i := 1) (c := (rdC pr F b at0 0)) rfl)
 refine (byte_r w1 pr F b at0 (hw1.at (i := 1) rfl)).mono ?_
 rintro e w2 (⟨hqw2, rfl, hRw2, hkw2⟩ | ⟨hqw2, rfl, hkw2⟩)
 · have hvbw2 := byt_gd hB at0
   obtain ⟨n3, hnn3⟩ : ∃ n : Nat, (gd b at0) = (n : Int) := ⟨_, (Int.toNat_of_nonneg hvbw2.1).symm⟩; rw [hnn3]
   obtain ⟨hnw2, hSw2⟩ := rd_set hw1 (i := 1) rfl hRw2 hkw2
   have hnw2' : z + 1 ≤ w2.heap.size := hnw2
   refine .inl ⟨_, _, rfl, hSw2, ?_⟩
   refine q_rS 12 0 [] [[o0], [o0], [o0, o0]] [] [(1, .func (.func 75) #[] #[]), (2, pt z), (6, .slice none 0 0), (9, i6 (n3 : Int)), (10, i6 0)] rfl trivial ?_
   refine g_fam0 z 97 3 TWindow.cells ?_
   refine g_rowL z 62 1 (fun x : Sl TWindow => [Sl.val x]) ?_
   refine g_loop (fun m a w' => ∃ (n5 : Nat) (i : Nat) (xs : List (Sl TWindow)) (ati : Nat) (aL : Option Addr) (cL : Nat), m = n3 - i ∧ w2.heap.size ≤ n5 ∧ (i ≤ n3) ∧ (many (listAt b (winAt b)) i (at0 + 1) = .ok (xs.map Sl.xs) ati) ∧ St 20 [(1, .func (.func 75) #[] #[]), (2, pt z), (6, .slice aL xs.length cL), (9, i6 (n3 : Int)), (10, i6 (i : Int))] [] ⟨w, n5, [(old F w), (rdC pr F b ati 0), (qj9x_0 z pr), (famC z 97 3 TWindow.cells xs), (qj9x_1 z aL xs cL)]⟩ a w') (n3 - 0) ?_ ?_
   · intro a w' hs; exact ⟨w2.heap.size, 0, ([]), (at0 + 1), none, 0, rfl, Nat.le_refl _, Nat.zero_le _, rfl, hs⟩
   · rintro m a w' ⟨n5, i, xs, ati, aL, cL, rfl, hn4, hki, hm, hs⟩
     refine (?_ : G Try.prog 20 [(1, .func (.func 75) #[] #[]), (2, pt z), (6, .slice aL xs.length cL), (9, i6 (n3 : Int)), (10, i6 (i : Int))] [] ⟨w, n5, [(old F w), (rdC pr F b ati 0), (qj9x_0 z pr), (famC z 97 3 TWindow.cells xs), (qj9x_1 z aL xs cL)]⟩ _ _ _) a w' hs
     clear hs a w'
     have hxl := many_len hm; rw [List.length_map] at hxl
     refine g_seq ?_
     by_cases h6 : ((i : Int) : Int) < (n3 : Int)
     · refine q_cS 10 3 [1] [[oT], [o0, o0, (a1 2)]] [BT (((i : Int) : Int) < (n3 : Int)), Qb z] [(1, .func (.func 75) #[] #[]), (2, pt z), (9, i6 (n3 : Int)), (10, i6 (i : Int)), (12, .slice aL xs.length cL), (13, .func (.func 75) #[] #[]), (14, .agg #[pt pr])] rfl ⟨bt (by omega), rfl, trivial⟩ ?_
       refine l_callX [] [] 75 #[.agg #[pt pr]] (some 15) trivial ?_
       intro w7 hw7
       have hlew7 := RdIs.le (hw7.at (i := 1) (c := (rdC pr F b ati 0)) rfl)
       refine (core_r w7 pr F b ati (hw7.at (i := 1) rfl)).mono ?_
       rintro e w13 (⟨x8, n9, a11, cp12, hxw13, rfl, hRw13, hkw13, how13⟩ | ⟨n10, hxw13, rfl, hkw13⟩)
       · obtain ⟨hnw13, hSw13⟩ := rd_row hw7 (i := 1) rfl hRw13 hkw13 how13 z (show z ≤ n5 by omega)
         have hnw13' : n5 ≤ w13.heap.size := hnw13
         have hllw13 := (list_of hB hxw13).1
         refine .inl ⟨_, _, rfl, hSw13, ?_⟩
         refine q_r 0 1 [] [[o0]] [] [(1, .func (.func 75) #[] #[]), (2, pt z), (9, i6 (n3 : Int)), (10, i6 (i : Int)), (12, .slice aL xs.length cL), (16, .slice (some ⟨w13.heap.size, 0, none⟩) 1 1)] ⟨w, w13.heap.size + 1, [(old F w), (rdC pr F b n9 0), (qj9x_0 z pr), (famC z 97 3 TWindow.cells xs), (qj9x_1 z aL xs cL), (rowL z 97 3 TWindow.cells (.slice a11 x8.length cp12) x8), (.blk w13.heap.size (.cells #[.slice a11 x8.length cp12] 62 (0, 0)) true)]⟩ rfl trivial ?_
         refine l_push z 4 6 xs [(⟨a11, cp12, x8⟩ : Sl TWindow)] (fun x : Sl TWindow => [Sl.val x]) 62 1 24 (.slice aL xs.length cL) w13.heap.size 1 1 #[.slice a11 x8.length cp12] 62 (0, 0) true (some 17) (by simp only [List.length_cons, List.length_nil]; omega) (show z ≤ w13.heap.size + 1 by omega) (fun a14 cp15 n16 (hn17 : w13.heap.size + 1 ≤ n16) => ?_)
         refine q_rS 5 0 [] [[o0], [(ov (i6 ((i + 1 : Nat) : Int))), o0]] [Wr (((i : Int) : Int) + 1) (((i + 1 : Nat) : Int))] [(1, .func (.func 75) #[] #[]), (2, pt z), (9, i6 (n3 : Int)), (10, i6 ((i + 1 : Nat) : Int)), (6, .slice a14 ((xs ++ [(⟨a11, cp12, x8⟩ : Sl TWindow)]).length) cp15)] rfl ⟨wrI, trivial⟩ ?_
         refine e_fam 3 5 [0, 1, 2, 4, 6] [(old F w), (rdC pr F b n9 0), (qj9x_0 z pr), (rowL z 62 1 (fun x : Sl TWindow => [Sl.val x]) (.slice a14 ((xs ++ [(⟨a11, cp12, x8⟩ : Sl TWindow)]).length) cp15) (xs ++ [(⟨a11, cp12, x8⟩ : Sl TWindow)])), (.blk w13.heap.size (.cells #[.slice a11 x8.length cp12] 62 (0, 0)) true)] ?_
         refine e_pick [0, 1, 2, 5, 3] [(old F w), (rdC pr F b n9 0), (qj9x_0 z pr), (famC z 97 3 TWindow.cells (xs ++ [⟨a11, cp12, x8⟩])), (rowL z 62 1 (fun x : Sl TWindow => [Sl.val x]) (.slice a14 ((xs ++ [(⟨a11, cp12, x8⟩ : Sl TWindow)]).length) cp15) (xs ++ [(⟨a11, cp12, x8⟩ : Sl TWindow)]))] rfl rfl ?_
         refine e_keep [1, 2, 6, 9, 10] [(1, .func (.func 75) #[] #[]), (2, pt z), (6, .slice a14 ((xs ++ [(⟨a11, cp12, x8⟩ : Sl TWindow)]).length) cp15), (9, i6 (n3 : Int)), (10, i6 ((i + 1 : Nat) : Int))] ?_
         refine e_inv (fun a w' hs => ⟨n3 - (i + 1), by omega, n16, (i + 1), (xs ++ [(⟨a11, cp12, x8⟩ : Sl TWindow)]), n9, a14, cp15, rfl, by omega, by omega, by rw [map_push]; exact many_step hm hxw13, hs⟩)
       · have hnw13 : n5 ≤ w13.heap.size := size_of hw7 hkw13
         have hSw13 := rd_drop hw7 [0, 2, 3, 4] (i := 1) rfl rfl rfl rfl hkw13
         refine .inr ⟨_, _, rfl, hSw13, ?_⟩
         refine e_panicR ?_
         intro w18 hw18
         exact .inr ⟨_, list_no (by omega) hnn3 (by omega) hm hxw13, rfl, back0 hw18⟩
     · refine q_cS 15 0 [0] [[oF], [o0, o0]] [BF (((i : Int) : Int) < (n3 : Int))] [(4, .slice aL xs.length cL)] rfl ⟨bf (by omega), trivial⟩ ?_
       refine e_ret [] [] (.slice aL xs.length cL) trivial ?_
       intro w19 hw19
       exact .inl ⟨⟨aL, cL, xs⟩, ati, list_ok (by omega) hnn3 (by omega) hm, rfl, hw19.at (i := 1) rfl, back0 hw19, made_of (fs := coreFs ⟨aL, cL, xs⟩) (core_low ⟨aL, cL, xs⟩) (by have hP := hw19.pick [4, 3] (σ' := [(qj9x_1 z aL xs cL), (famC z 97 3 TWindow.cells xs)]) rfl rfl; rw [hw19.size]; exact hz ▸ hP)⟩
 · have hnw2 : z + 1 ≤ w2.heap.size := size_of hw1 hkw2
   have hSw2 := rd_drop hw1 [0, 2] (i := 1) rfl rfl rfl rfl hkw2
   refine .inr ⟨_, _, rfl, hSw2, ?_⟩
   refine e_panicR ?_
   intro w20 hw20
   exact .inr ⟨_, list_no0 (by omega), rfl, back0 hw20⟩
abbrev qdz5_0 (w2 : World) (b : List Int) (at0 : Nat) : Ch := .blk w2.heap.size (.cells #[.string (strOf (cutB b (at0 + 4) (leV b at0 4).toNat)), i6 (leV b (at0 + 4 + (leV b at0 4).toNat) 4), i6 (leV b (at0 + 4 + (leV b at0 4).toNat + 4) 4), i6 (leV b (at0 + 4 + (leV b at0 4).toNat + 4 + 4) 4), i6 (leV b (at0 + 4 + (leV b at0 4).toNat + 4 + 4 + 4) 4), i6 (leV b (at0 + 4 + (leV b at0 4).toNat + 4 + 4 + 4 + 4) 4), .slice none 0 0, .slice none 0 0] 69 (0, 0)) true
abbrev qdz5_1 (w2 : World) (b : List Int) (at0 : Nat) : Ch := .blk w2.heap.size (.cells #[.string (strOf (cutB b (at0 + 4) (leV b at0 4).toNat)), i6 (leV b (at0 + 4 + (leV b at0 4).toNat) 4), i6 (leV b (at0 + 4 + (leV b at0 4).toNat + 4) 4), i6 (leV b (at0 + 4 + (leV b at0 4).toNat + 4 + 4) 4), i6 0, i6 0, .slice none 0 0, .slice none 0 0] 69 (0, 0)) true
abbrev qdz5_2 (z : Nat) : Ch := bk (z + 1) #[.string (⟨#[]⟩), i6 0, i6 0, i6 0, i6 0, i6 0, .slice none 0 0, .slice none 0 0] 69
abbrev qdz5_3 (z : Nat) (pr : Nat) : Ch := bk z #[pt pr] 87
abbrev qdz5_4 (b : List Int) (at0 : Nat) : Nat × Value := (20, i6 (leV b (at0 + 4 + (leV b at0 4).toNat + 4 + 4 + 4 + 4) 4))
abbrev qdz5_5 (b : List Int) (at0 : Nat) : Nat × Value := (18, i6 (leV b (at0 + 4 + (leV b at0 4).toNat + 4 + 4 + 4) 4))
abbrev qdz5_6 (b : List Int) (at0 : Nat) : Nat × Value := (13, i6 (leV b (at0 + 4 + (leV b at0 4).toNat + 4 + 4) 4))
abbrev qdz5_7 (b : List Int) (at0 : Nat) : Nat × Value := (11, i6 (leV b (at0 + 4 + (leV b at0 4).toNat + 4) 4))
abbrev qdz5_8 (b : List Int) (at0 : Nat) : Nat × Value := (9, i6 (leV b (at0 + 4 + (leV b at0 4).toNat) 4))
abbrev qdz5_9 (w2 : World) : Nat × Value := (3, pt w2.heap.size)
abbrev qdz5_10 (z : Nat) : Nat × Value := (2, pt (z + 1))
theorem partition_r (w : World) (pr : Nat) (F : Nat → Prop) (b : List Int) (at0 : Nat) (hr : RdIs w pr F b at0 0) : Calls Try.prog 77 #[.agg #[.pointer (some ⟨pr, 0, none⟩)]] w fun e w' => MPost w pr F b (partAt b at0) plP (fun x => .agg (TPartition.arr x)) partFs e w' := by
 obtain ⟨z, hz⟩ : ∃ z, z = w.heap.size := ⟨_, rfl⟩
 refine calls_G (args := [.agg #[pt pr]]) 30 ⟨w, z, [(old F w), (rdC pr F b at0 0)]⟩ Try.func77 rfl (by kernel_rfl) (by kernel_rfl) (hz ▸ sat_rdC hr) ?_
 have hB := hr.byt; have hlen := hr.len; have hat := hr.le
 refine g_keep [0] [(0, .agg #[pt pr])] ?_
 refine q_c 6 2 [] [[o0, o0], [(a1 2), o0]] [Qb z] [(1, pt z), (qdz5_10 z), (4, .agg #[pt pr]), (5, .func (.func 92) #[] #[pt z])] ⟨w, z + 2, [(old F w), (rdC pr F b at0 0), (qdz5_3 z pr), (qdz5_2 z)]⟩ rfl ⟨rfl, trivial⟩ ?_
 refine l_callX [] [] 91 #[.agg #[pt pr], .func (.func 92) #[] #[pt z]] (some 6) trivial ?_
 intro w1 hw1
 refine (it_text w1 pr F b at0 (hw1.at (i := 1) rfl) z (bx_of hw1 (i := 1) (j := 2) rfl rfl (by decide)).1 (bx_of hw1 (i := 1) (j := 2) rfl rfl (by decide)).2).mono ?_
 rintro e w2 (⟨hqw2, rfl, hRw2, hkw2⟩ | ⟨hqw2, rfl, hkw2⟩)
 · obtain ⟨hnw2, hSw2⟩ := rd_set hw1 (i := 1) rfl hRw2 hkw2
   have hnw2' : z + 2 ≤ w2.heap.size := hnw2
   refine .inl ⟨_, _, rfl, hSw2, ?_⟩
   refine q_r 3 0 [] [[o0, o0, (an 8 4)]] [Qb w2.heap.size, Qb w2.heap.size, Qb w2.heap.size, Qb w2.heap.size, Qb w2.heap.size, Qb w2.heap.size, Qb w2.heap.size, Qb w2.heap.size] [(1, pt z), (qdz5_10 z), (qdz5_9 w2)] ⟨w, w2.heap.size + 1, [(old F w), (rdC pr F b (at0 + 4 + (leV b at0 4).toNat) 0), (qdz5_3 z pr), (qdz5_2 z), (.blk w2.heap.size (.cells #[.string (strOf (cutB b (at0 + 4) (leV b at0 4).toNat)), i6 0, i6 0, i6 0, i6 0, i6 0, .slice none 0 0, .slice none 0 0] 69 (0, 0)) true)]⟩ rfl ⟨rfl, rfl, rfl, rfl, rfl, rfl, rfl, rfl, trivial⟩ ?_
   refine g_draw 11 [0, 2] [(old F w), (qdz5_3 z pr)] rfl rfl ?_
   refine w_take [(0, (a1 1)), (2, (a1 1)), (4, (a1 1))] [1, 2, 3, 8, 10, 12] [Qb z, Qb z, Qb z] [true, false, true, false, true, false, false, false, false, false, false, false] [(1, pt z), (qdz5_10 z), (qdz5_9 w2), (8, .agg #[pt pr]), (10, .agg #[pt pr]), (12, .agg #[pt pr])] rfl (by as_aux_lemma => kernel_rfl) (by as_aux_lemma => kernel_rfl) ⟨rfl, rfl, rfl, trivial⟩ ?_
   refine w_one 1 (by as_aux_lemma => kernel_rfl) rfl ?_
   refine wo_callX [] [] 43 #[.agg #[pt pr]] (some 9) (by as_aux_lemma => kernel_rfl) rfl rfl trivial ?_
   intro w3 hw3
   have hlew3 := RdIs.le (hw3.at (i := 1) (c := (rdC pr F b (at0 + 4 + (leV b at0 4).toNat) 0)) rfl)
   refine (number_r w3 pr F b (at0 + 4 + (leV b at0 4).toNat) (hw3.at (i := 1) rfl)).mono ?_
   rintro e w4 (⟨hqw4, rfl, hRw4, hkw4⟩ | ⟨hqw4, rfl, hkw4⟩)
   · have hvbw4 := leV_bd hB (at0 + 4 + (leV b at0 4).toNat)
     obtain ⟨hnw4, hSw4⟩ := rd_set hw3 (i := 1) rfl hRw4 hkw4
     have hnw4' : w2.heap.size + 1 ≤ w4.heap.size := hnw4
     have hs5 := hSw4
     refine .inl ⟨_, _, rfl, hs5, .inr (fun c hc => hs5.all c (by first | exact hc | exact picks_mem (is := [0, 2]) rfl c hc)), ?_⟩
     refine w_keep [1, 2, 3, 10, 12, 9] [(1, pt z), (qdz5_10 z), (qdz5_9 w2), (10, .agg #[pt pr]), (12, .agg #[pt pr]), (qdz5_8 b at0)] ?_
     refine w_take [(6, o0)] [1, 2, 3, 10, 12, 9, 14] [] [true, true, true, false, true, false, true, false, false, false, false, false] [(1, pt z), (qdz5_10 z), (qdz5_9 w2), (10, .agg #[pt pr]), (12, .agg #[pt pr]), (qdz5_8 b at0), (14, .pointer (some ⟨w2.heap.size, 1, none⟩))] rfl (by as_aux_lemma => kernel_rfl) (by as_aux_lemma => kernel_rfl) trivial ?_
     refine w_one 3 (by as_aux_lemma => kernel_rfl) rfl ?_
     refine wo_callX [] [] 43 #[.agg #[pt pr]] (some 11) (by as_aux_lemma => kernel_rfl) rfl rfl trivial ?_
     intro w6 hw6
     have hlew6 := RdIs.le (hw6.at (i := 1) (c := (rdC pr F b (at0 + 4 + (leV b at0 4).toNat + 4) 0)) rfl)
     refine (number_r w6 pr F b (at0 + 4 + (leV b at0 4).toNat + 4) (hw6.at (i := 1) rfl)).mono ?_
     rintro e w7 (⟨hqw7, rfl, hRw7, hkw7⟩ | ⟨hqw7, rfl, hkw7⟩)
     · have hvbw7 := leV_bd hB (at0 + 4 + (leV b at0 4).toNat + 4)
       obtain ⟨hnw7, hSw7⟩ := rd_set hw6 (i := 1) rfl hRw7 hkw7
       have hnw7' : w4.heap.size ≤ w7.heap.size := hnw7
       have hs8 := hSw7
       refine .inl ⟨_, _, rfl, hs8, .inr (fun c hc => hs8.all c (by first | exact hc | exact picks_mem (is := [0, 2]) rfl c hc)), ?_⟩
       refine w_keep [1, 2, 3, 12, 9, 14, 11] [(1, pt z), (qdz5_10 z), (qdz5_9 w2), (12, .agg #[pt pr]), (qdz5_8 b at0), (14, .pointer (some ⟨w2.heap.size, 1, none⟩)), (qdz5_7 b at0)] ?_
       refine w_one 5 (by as_aux_lemma => kernel_rfl) rfl ?_
       refine wo_callX [] [] 43 #[.agg #[pt pr]] (some 13) (by as_aux_lemma => kernel_rfl) rfl rfl trivial ?_
       intro w9 hw9
       have hlew9 := RdIs.le (hw9.at (i := 1) (c := (rdC pr F b (at0 + 4 + (leV b at0 4).toNat + 4 + 4) 0)) rfl)
       refine (number_r w9 pr F b (at0 + 4 + (leV b at0 4).toNat + 4 + 4) (hw9.at (i := 1) rfl)).mono ?_
       rintro e w10 (⟨hqw10, rfl, hRw10, hkw10⟩ | ⟨hqw10, rfl, hkw10⟩)
       · have hvbw10 := leV_bd hB (at0 + 4 + (leV b at0 4).toNat + 4 + 4)
         obtain ⟨hnw10, hSw10⟩ := rd_set hw9 (i := 1) rfl hRw10 hkw10
         have hnw10' : w7.heap.size ≤ w10.heap.size := hnw10
         have hs11 := hSw10
         refine .inl ⟨_, _, rfl, hs11, .inr (fun c hc => hs11.all c (by first | exact hc | exact picks_mem (is := [0, 2]) rfl c hc)), ?_⟩
         refine w_keep [1, 2, 3, 9, 14, 11, 13] [(1, pt z), (qdz5_10 z), (qdz5_9 w2), (qdz5_8 b at0), (14, .pointer (some ⟨w2.heap.size, 1, none⟩)), (qdz5_7 b at0), (qdz5_6 b at0)] ?_
         refine w_one 7 (by as_aux_lemma => kernel_rfl) rfl ?_
         refine wo_eff (a1 4) [1, 2, 3, 11, 13] [Qb w2.heap.size] [(1, pt z), (qdz5_10 z), (qdz5_9 w2), (qdz5_7 b at0), (qdz5_6 b at0)] ⟨w, w10.heap.size, [(old F w), (rdC pr F b (at0 + 4 + (leV b at0 4).toNat + 4 + 4 + 4) 0), (qdz5_3 z pr), (qdz5_2 z), (.blk w2.heap.size (.cells #[.string (strOf (cutB b (at0 + 4) (leV b at0 4).toNat)), i6 (leV b (at0 + 4 + (leV b at0 4).toNat) 4), i6 0, i6 0, i6 0, i6 0, .slice none 0 0, .slice none 0 0] 69 (0, 0)) true)]⟩ [0, 2] (by as_aux_lemma => kernel_rfl) rfl ⟨rfl, trivial⟩ (.inr rfl) ?_
         refine w_take [(8, o0)] [1, 2, 3, 11, 13, 15] [] [true, true, true, true, true, true, true, true, true, false, false, false] [(1, pt z), (qdz5_10 z), (qdz5_9 w2), (qdz5_7 b at0), (qdz5_6 b at0), (15, .pointer (some ⟨w2.heap.size, 2, none⟩))] rfl (by as_aux_lemma => kernel_rfl) (by as_aux_lemma => kernel_rfl) trivial ?_
         refine w_one 9 (by as_aux_lemma => kernel_rfl) rfl ?_
         refine wo_eff (a1 4) [1, 2, 3, 13] [Qb w2.heap.size] [(1, pt z), (qdz5_10 z), (qdz5_9 w2), (qdz5_6 b at0)] ⟨w, w10.heap.size, [(old F w), (rdC pr F b (at0 + 4 + (leV b at0 4).toNat + 4 + 4 + 4) 0), (qdz5_3 z pr), (qdz5_2 z), (.blk w2.heap.size (.cells #[.string (strOf (cutB b (at0 + 4) (leV b at0 4).toNat)), i6 (leV b (at0 + 4 + (leV b at0 4).toNat) 4), i6 (leV b (at0 + 4 + (leV b at0 4).toNat + 4) 4), i6 0, i6 0, i6 0, .slice none 0 0, .slice none 0 0] 69 (0, 0)) true)]⟩ [0, 2] (by as_aux_lemma => kernel_rfl) rfl ⟨rfl, trivial⟩ (.inr rfl) ?_
         refine w_take [(10, o0)] [1, 2, 3, 13, 16] [] [true, true, true, true, true, true, true, true, true, true, true, false] [(1, pt z), (qdz5_10 z), (qdz5_9 w2), (qdz5_6 b at0), (16, .pointer (some ⟨w2.heap.size, 3, none⟩))] rfl (by as_aux_lemma => kernel_rfl) (by as_aux_lemma => kernel_rfl) trivial ?_
         refine w_one 11 (by as_aux_lemma => kernel_rfl) rfl ?_
         refine wo_eff (a1 4) [1, 2, 3] [Qb w2.heap.size] [(1, pt z), (qdz5_10 z), (qdz5_9 w2)] ⟨w, w10.heap.size, [(old F w), (rdC pr F b (at0 + 4 + (leV b at0 4).toNat + 4 + 4 + 4) 0), (qdz5_3 z pr), (qdz5_2 z), (qdz5_1 w2 b at0)]⟩ [] (by as_aux_lemma => kernel_rfl) rfl ⟨rfl, trivial⟩ (.inl rfl) ?_
         refine w_free 12 [0, 1, 2, 3, 4] [(old F w), (rdC pr F b (at0 + 4 + (leV b at0 4).toNat + 4 + 4 + 4) 0), (qdz5_3 z pr), (qdz5_2 z), (qdz5_1 w2 b at0)] rfl rfl ?_
         refine w_done (by as_aux_lemma => kernel_rfl) ?_
         refine e_keep [1, 2, 3] [(1, pt z), (qdz5_10 z), (qdz5_9 w2)] ?_
         refine e_seq <| g_seq <| g_draw 7 [0, 2] [(old F w), (qdz5_3 z pr)] rfl rfl ?_
         refine w_take [(0, (a1 1)), (2, (a1 1))] [1, 2, 3, 17, 19] [Qb z, Qb z] [true, false, true, false, false, false, false, false] [(1, pt z), (qdz5_10 z), (qdz5_9 w2), (17, .agg #[pt pr]), (19, .agg #[pt pr])] rfl (by as_aux_lemma => kernel_rfl) (by as_aux_lemma => kernel_rfl) ⟨rfl, rfl, trivial⟩ ?_
         refine w_one 1 (by as_aux_lemma => kernel_rfl) rfl ?_
         refine wo_callX [] [] 43 #[.agg #[pt pr]] (some 18) (by as_aux_lemma => kernel_rfl) rfl rfl trivial ?_
         intro w12 hw12
         have hlew12 := RdIs.le (hw12.at (i := 1) (c := (rdC pr F b (at0 + 4 + (leV b at0 4).toNat + 4 + 4 + 4) 0)) rfl)
         refine (number_r w12 pr F b (at0 + 4 + (leV b at0 4).toNat + 4 + 4 + 4) (hw12.at (i := 1) rfl)).mono ?_
         rintro e w13 (⟨hqw13, rfl, hRw13, hkw13⟩ | ⟨hqw13, rfl, hkw13⟩)
         · have hvbw13 := leV_bd hB (at0 + 4 + (leV b at0 4).toNat + 4 + 4 + 4)
           obtain ⟨hnw13, hSw13⟩ := rd_set hw12 (i := 1) rfl hRw13 hkw13
           have hnw13' : w10.heap.size ≤ w13.heap.size := hnw13
           have hs14 := hSw13
           refine .inl ⟨_, _, rfl, hs14, .inr (fun c hc => hs14.all c (by first | exact hc | exact picks_mem (is := [0, 2]) rfl c hc)), ?_⟩
           refine w_keep [1, 2, 3, 19, 18] [(1, pt z), (qdz5_10 z), (qdz5_9 w2), (19, .agg #[pt pr]), (qdz5_5 b at0)] ?_
           refine w_take [(4, o0)] [1, 2, 3, 19, 18, 21] [] [true, true, true, false, true, false, false, false] [(1, pt z), (qdz5_10 z), (qdz5_9 w2), (19, .agg #[pt pr]), (qdz5_5 b at0), (21, .pointer (some ⟨w2.heap.size, 4, none⟩))] rfl (by as_aux_lemma => kernel_rfl) (by as_aux_lemma => kernel_rfl) trivial ?_
           refine w_one 3 (by as_aux_lemma => kernel_rfl) rfl ?_
           refine wo_callX [] [] 43 #[.agg #[pt pr]] (some 20) (by as_aux_lemma => kernel_rfl) rfl rfl trivial ?_
           intro w15 hw15
           have hlew15 := RdIs.le (hw15.at (i := 1) (c := (rdC pr F b (at0 + 4 + (leV b at0 4).toNat + 4 + 4 + 4 + 4) 0)) rfl)
           refine (number_r w15 pr F b (at0 + 4 + (leV b at0 4).toNat + 4 + 4 + 4 + 4) (hw15.at (i := 1) rfl)).mono ?_
           rintro e w16 (⟨hqw16, rfl, hRw16, hkw16⟩ | ⟨hqw16, rfl, hkw16⟩)
           · have hvbw16 := leV_bd hB (at0 + 4 + (leV b at0 4).toNat + 4 + 4 + 4 + 4)
             obtain ⟨hnw16, hSw16⟩ := rd_set hw15 (i := 1) rfl hRw16 hkw16
             have hnw16' : w13.heap.size ≤ w16.heap.size := hnw16
             have hs17 := hSw16
             refine .inl ⟨_, _, rfl, hs17, .inr (fun c hc => hs17.all c (by first | exact hc | exact picks_mem (is := [0, 2]) rfl c hc)), ?_⟩
             refine w_keep [1, 2, 3, 18, 21, 20] [(1, pt z), (qdz5_10 z), (qdz5_9 w2), (qdz5_5 b at0), (21, .pointer (some ⟨w2.heap.size, 4, none⟩)), (qdz5_4 b at0)] ?_
             refine w_one 5 (by as_aux_lemma => kernel_rfl) rfl ?_
             refine wo_eff (a1 4) [1, 2, 3, 20] [Qb w2.heap.size] [(1, pt z), (qdz5_10 z), (qdz5_9 w2), (qdz5_4 b at0)] ⟨w, w16.heap.size, [(old F w), (rdC pr F b (at0 + 4 + (leV b at0 4).toNat + 4 + 4 + 4 + 4 + 4) 0), (qdz5_3 z pr), (qdz5_2 z), (.blk w2.heap.size (.cells #[.string (strOf (cutB b (at0 + 4) (leV b at0 4).toNat)), i6 (leV b (at0 + 4 + (leV b at0 4).toNat) 4), i6 (leV b (at0 + 4 + (leV b at0 4).toNat + 4) 4), i6 (leV b (at0 + 4 + (leV b at0 4).toNat + 4 + 4) 4), i6 (leV b (at0 + 4 + (leV b at0 4).toNat + 4 + 4 + 4) 4), i6 0, .slice none 0 0, .slice none 0 0] 69 (0, 0)) true)]⟩ [0, 2] (by as_aux_lemma => kernel_rfl) rfl ⟨rfl, trivial⟩ (.inr rfl) ?_
             refine w_take [(6, o0)] [1, 2, 3, 20, 22] [] [true, true, true, true, true, true, true, false] [(1, pt z), (qdz5_10 z), (qdz5_9 w2), (qdz5_4 b at0), (22, .pointer (some ⟨w2.heap.size, 5, none⟩))] rfl (by as_aux_lemma => kernel_rfl) (by as_aux_lemma => kernel_rfl) trivial ?_
             refine w_one 7 (by as_aux_lemma => kernel_rfl) rfl ?_
             refine wo_eff (a1 4) [1, 2, 3] [Qb w2.heap.size] [(1, pt z), (qdz5_10 z), (qdz5_9 w2)] ⟨w, w16.heap.size, [(old F w), (rdC pr F b (at0 + 4 + (leV b at0 4).toNat + 4 + 4 + 4 + 4 + 4) 0), (qdz5_3 z pr), (qdz5_2 z), (qdz5_0 w2 b at0)]⟩ [] (by as_aux_lemma => kernel_rfl) rfl ⟨rfl, trivial⟩ (.inl rfl) ?_
             refine w_free 8 [0, 1, 2, 3, 4] [(old F w), (rdC pr F b (at0 + 4 + (leV b at0 4).toNat + 4 + 4 + 4 + 4 + 4) 0), (qdz5_3 z pr), (qdz5_2 z), (qdz5_0 w2 b at0)] rfl rfl ?_
             refine w_done (by as_aux_lemma => kernel_rfl) ?_
             refine q_oS 3 1 [] [[(a1 2)]] [Qb z] [(1, pt z), (qdz5_10 z), (qdz5_9 w2), (23, .agg #[pt pr])] rfl ⟨rfl, trivial⟩ ?_
             refine l_callX [] [] 94 #[.agg #[pt pr], .func (.func 95) #[] #[]] (some 24) trivial ?_
             intro w18 hw18
             have hlew18 := RdIs.le (hw18.at (i := 1) (c := (rdC pr F b (at0 + 4 + (leV b at0 4).toNat + 4 + 4 + 4 + 4 + 4) 0)) rfl)
             refine (takeR w18 pr F b (at0 + 4 + (leV b at0 4).toNat + 4 + 4 + 4 + 4 + 4) (hw18.at (i := 1) rfl)).mono ?_
             rintro e w24 (⟨x19, n20, a22, cp23, hxw24, rfl, hRw24, hkw24, how24⟩ | ⟨n21, hxw24, rfl, hkw24⟩)
             · obtain ⟨hnw24, hSw24⟩ := rd_row hw18 (i := 1) rfl hRw24 hkw24 how24 z (show z ≤ w16.heap.size by omega)
               have hnw24' : w16.heap.size ≤ w24.heap.size := hnw24
               have hllw24 := (list_of hB hxw24).1
               refine .inl ⟨_, _, rfl, hSw24, ?_⟩
               refine q_r 4 1 [] [[o0, (a1 4)], [(a1 2)]] [Qb w2.heap.size, Qb z] [(qdz5_10 z), (qdz5_9 w2), (26, .agg #[pt pr])] ⟨w, w24.heap.size, [(old F w), (rdC pr F b n20 0), (qdz5_3 z pr), (qdz5_2 z), (.blk w2.heap.size (.cells #[.string (strOf (cutB b (at0 + 4) (leV b at0 4).toNat)), i6 (leV b (at0 + 4 + (leV b at0 4).toNat) 4), i6 (leV b (at0 + 4 + (leV b at0 4).toNat + 4) 4), i6 (leV b (at0 + 4 + (leV b at0 4).toNat + 4 + 4) 4), i6 (leV b (at0 + 4 + (leV b at0 4).toNat + 4 + 4 + 4) 4), i6 (leV b (at0 + 4 + (leV b at0 4).toNat + 4 + 4 + 4 + 4) 4), .slice a22 x19.length cp23, .slice none 0 0] 69 (0, 0)) true), (rowL z 99 4 TRegion.cells (.slice a22 x19.length cp23) x19)]⟩ rfl ⟨rfl, rfl, trivial⟩ ?_
               refine l_callX [] [] 96 #[.agg #[pt pr], .func (.func 97) #[] #[]] (some 27) trivial ?_
               intro w25 hw25
               have hlew25 := RdIs.le (hw25.at (i := 1) (c := (rdC pr F b n20 0)) rfl)
               refine (takeP w25 pr F b n20 (hw25.at (i := 1) rfl)).mono ?_
               rintro e w31 (⟨x26, n27, a29, cp30, hxw31, rfl, hRw31, hkw31, how31⟩ | ⟨n28, hxw31, rfl, hkw31⟩)
               · obtain ⟨hnw31, hSw31⟩ := rd_row hw25 (i := 1) rfl hRw31 hkw31 how31 z (show z ≤ w24.heap.size by omega)
                 have hnw31' : w24.heap.size ≤ w31.heap.size := hnw31
                 have hllw31 := (list_of hB hxw31).1
                 refine .inl ⟨_, _, rfl, hSw31, ?_⟩
                 refine q_r 7 0 [] [[o0, (a1 4)], [(an 8 4), (an 8 3)]] [Qb w2.heap.size, Qb w2.heap.size, Qb w2.heap.size, Qb w2.heap.size, Qb w2.heap.size, Qb w2.heap.size, Qb w2.heap.size, Qb w2.heap.size, Qb w2.heap.size, Qb (z + 1), Qb (z + 1), Qb (z + 1), Qb (z + 1), Qb (z + 1), Qb (z + 1), Qb (z + 1), Qb (z + 1)] [(qdz5_10 z)] ⟨w, w31.heap.size, [(old F w), (rdC pr F b n27 0), (qdz5_3 z pr), (bk (z + 1) #[.string (strOf (cutB b (at0 + 4) (leV b at0 4).toNat)), i6 (leV b (at0 + 4 + (leV b at0 4).toNat) 4), i6 (leV b (at0 + 4 + (leV b at0 4).toNat + 4) 4), i6 (leV b (at0 + 4 + (leV b at0 4).toNat + 4 + 4) 4), i6 (leV b (at0 + 4 + (leV b at0 4).toNat + 4 + 4 + 4) 4), i6 (leV b (at0 + 4 + (leV b at0 4).toNat + 4 + 4 + 4 + 4) 4), .slice a22 x19.length cp23, .slice a29 x26.length cp30] 69), (.blk w2.heap.size (.cells #[.string (strOf (cutB b (at0 + 4) (leV b at0 4).toNat)), i6 (leV b (at0 + 4 + (leV b at0 4).toNat) 4), i6 (leV b (at0 + 4 + (leV b at0 4).toNat + 4) 4), i6 (leV b (at0 + 4 + (leV b at0 4).toNat + 4 + 4) 4), i6 (leV b (at0 + 4 + (leV b at0 4).toNat + 4 + 4 + 4) 4), i6 (leV b (at0 + 4 + (leV b at0 4).toNat + 4 + 4 + 4 + 4) 4), .slice a22 x19.length cp23, .slice a29 x26.length cp30] 69 (0, 0)) true), (rowL z 99 4 TRegion.cells (.slice a22 x19.length cp23) x19), (rowL z 101 2 TPort.cells (.slice a29 x26.length cp30) x26)]⟩ rfl ⟨rfl, rfl, rfl, rfl, rfl, rfl, rfl, rfl, rfl, rfl, rfl, rfl, rfl, rfl, rfl, rfl, rfl, trivial⟩ ?_
                 refine e_ret [.at 3, .at 3, .at 3, .at 3, .at 3, .at 3, .at 3, .at 3] [Qb (z + 1), Qb (z + 1), Qb (z + 1), Qb (z + 1), Qb (z + 1), Qb (z + 1), Qb (z + 1), Qb (z + 1)] (.agg #[.string (strOf (cutB b (at0 + 4) (leV b at0 4).toNat)), i6 (leV b (at0 + 4 + (leV b at0 4).toNat) 4), i6 (leV b (at0 + 4 + (leV b at0 4).toNat + 4) 4), i6 (leV b (at0 + 4 + (leV b at0 4).toNat + 4 + 4) 4), i6 (leV b (at0 + 4 + (leV b at0 4).toNat + 4 + 4 + 4) 4), i6 (leV b (at0 + 4 + (leV b at0 4).toNat + 4 + 4 + 4 + 4) 4), .slice a22 x19.length cp23, .slice a29 x26.length cp30]) ⟨rfl, rfl, rfl, rfl, rfl, rfl, rfl, rfl, trivial⟩ ?_
                 intro w32 hw32
                 exact .inl ⟨(⟨(strOf (cutB b (at0 + 4) (leV b at0 4).toNat)), (leV b (at0 + 4 + (leV b at0 4).toNat) 4), (leV b (at0 + 4 + (leV b at0 4).toNat + 4) 4), (leV b (at0 + 4 + (leV b at0 4).toNat + 4 + 4) 4), (leV b (at0 + 4 + (leV b at0 4).toNat + 4 + 4 + 4) 4), (leV b (at0 + 4 + (leV b at0 4).toNat + 4 + 4 + 4 + 4) 4), ⟨a22, cp23, x19⟩, ⟨a29, cp30, x26⟩⟩ : TPartition), _, (by unfold partAt; rw [textAt_ok (by omega), PR.bind_ok, numAt_ok (by omega), PR.bind_ok, numAt_ok (by omega), PR.bind_ok, numAt_ok (by omega), PR.bind_ok, numAt_ok (by omega), PR.bind_ok, numAt_ok (by omega), PR.bind_ok, hxw24, PR.bind_ok, hxw31, PR.bind_ok]; rfl), rfl, hw32.at (i := 1) rfl, back0 hw32, made_of (fs := partFs (⟨(strOf (cutB b (at0 + 4) (leV b at0 4).toNat)), (leV b (at0 + 4 + (leV b at0 4).toNat) 4), (leV b (at0 + 4 + (leV b at0 4).toNat + 4) 4), (leV b (at0 + 4 + (leV b at0 4).toNat + 4 + 4) 4), (leV b (at0 + 4 + (leV b at0 4).toNat + 4 + 4 + 4) 4), (leV b (at0 + 4 + (leV b at0 4).toNat + 4 + 4 + 4 + 4) 4), ⟨a22, cp23, x19⟩, ⟨a29, cp30, x26⟩⟩ : TPartition)) (part_low (⟨(strOf (cutB b (at0 + 4) (leV b at0 4).toNat)), (leV b (at0 + 4 + (leV b at0 4).toNat) 4), (leV b (at0 + 4 + (leV b at0 4).toNat + 4) 4), (leV b (at0 + 4 + (leV b at0 4).toNat + 4 + 4) 4), (leV b (at0 + 4 + (leV b at0 4).toNat + 4 + 4 + 4) 4), (leV b (at0 + 4 + (leV b at0 4).toNat + 4 + 4 + 4 + 4) 4), ⟨a22, cp23, x19⟩, ⟨a29, cp30, x26⟩⟩ : TPartition)) (by have hP := hw32.pick [5, 6] (σ' := [(rowL z 99 4 TRegion.cells (.slice a22 x19.length cp23) x19), (rowL z 101 2 TPort.cells (.slice a29 x26.length cp30) x26)]) rfl rfl; rw [hw32.size]; exact hz ▸ hP)⟩
               · have hnw31 : w24.heap.size ≤ w31.heap.size := size_of hw25 hkw31
                 have hSw31 := rd_drop hw25 [0, 2, 3, 4, 5] (i := 1) rfl rfl rfl rfl hkw31
                 refine .inr ⟨_, _, rfl, hSw31, ?_⟩
                 refine e_panicR ?_
                 intro w33 hw33
                 exact .inr ⟨_, (by unfold partAt; rw [textAt_ok (by omega), PR.bind_ok, numAt_ok (by omega), PR.bind_ok, numAt_ok (by omega), PR.bind_ok, numAt_ok (by omega), PR.bind_ok, numAt_ok (by omega), PR.bind_ok, numAt_ok (by omega), PR.bind_ok, hxw24, PR.bind_ok, hxw31, PR.bind_no]), rfl, back0 hw33⟩
             · have hnw24 : w16.heap.size ≤ w24.heap.size := size_of hw18 hkw24
               have hSw24 := rd_drop hw18 [0, 2, 3, 4] (i := 1) rfl rfl rfl rfl hkw24
               refine .inr ⟨_, _, rfl, hSw24, ?_⟩
               refine e_panicR ?_
               intro w34 hw34
               exact .inr ⟨_, (by unfold partAt; rw [textAt_ok (by omega), PR.bind_ok, numAt_ok (by omega), PR.bind_ok, numAt_ok (by omega), PR.bind_ok, numAt_ok (by omega), PR.bind_ok, numAt_ok (by omega), PR.bind_ok, numAt_ok (by omega), PR.bind_ok, hxw24, PR.bind_no]), rfl, back0 hw34⟩
           · have hnw16 : w13.heap.size ≤ w16.heap.size := size_of hw15 hkw16
             have hSw16 := rd_drop hw15 [0, 2, 3, 4] (i := 1) rfl rfl rfl rfl hkw16
             refine .inr ⟨_, _, rfl, hSw16, ?_⟩
             refine e_panicR ?_
             intro w35 hw35
             exact .inr ⟨_, (by unfold partAt; rw [textAt_ok (by omega), PR.bind_ok, numAt_ok (by omega), PR.bind_ok, numAt_ok (by omega), PR.bind_ok, numAt_ok (by omega), PR.bind_ok, numAt_ok (by omega), PR.bind_ok, numAt_no (by omega), PR.bind_no]), rfl, back0 hw35⟩
         · have hnw13 : w10.heap.size ≤ w13.heap.size := size_of hw12 hkw13
           have hSw13 := rd_drop hw12 [0, 2, 3, 4] (i := 1) rfl rfl rfl rfl hkw13
           refine .inr ⟨_, _, rfl, hSw13, ?_⟩
           refine e_panicR ?_
           intro w36 hw36
           exact .inr ⟨_, (by unfold partAt; rw [textAt_ok (by omega), PR.bind_ok, numAt_ok (by omega), PR.bind_ok, numAt_ok (by omega), PR.bind_ok, numAt_ok (by omega), PR.bind_ok, numAt_no (by omega), PR.bind_no]), rfl, back0 hw36⟩
       · have hnw10 : w7.heap.size ≤ w10.heap.size := size_of hw9 hkw10
         have hSw10 := rd_drop hw9 [0, 2, 3, 4] (i := 1) rfl rfl rfl rfl hkw10
         refine .inr ⟨_, _, rfl, hSw10, ?_⟩
         refine e_panicR ?_
         intro w37 hw37
         exact .inr ⟨_, (by unfold partAt; rw [textAt_ok (by omega), PR.bind_ok, numAt_ok (by omega), PR.bind_ok, numAt_ok (by omega), PR.bind_ok, numAt_no (by omega), PR.bind_no]), rfl, back0 hw37⟩
     · have hnw7 : w4.heap.size ≤ w7.heap.size := size_of hw6 hkw7
       have hSw7 := rd_drop hw6 [0, 2, 3, 4] (i := 1) rfl rfl rfl rfl hkw7
       refine .inr ⟨_, _, rfl, hSw7, ?_⟩
       refine e_panicR ?_
       intro w38 hw38
       exact .inr ⟨_, (by unfold partAt; rw [textAt_ok (by omega), PR.bind_ok, numAt_ok (by omega), PR.bind_ok, numAt_no (by omega), PR.bind_no]), rfl, back0 hw38⟩
   · have hnw4 : w2.heap.size + 1 ≤ w4.heap.size := size_of hw3 hkw4
     have hSw4 := rd_drop hw3 [0, 2, 3, 4] (i := 1) rfl rfl rfl rfl hkw4
     refine .inr ⟨_, _, rfl, hSw4, ?_⟩
     refine e_panicR ?_
     intro w39 hw39
     exact .inr ⟨_, (by unfold partAt; rw [textAt_ok (by omega), PR.bind_ok, numAt_no (by omega), PR.bind_no]), rfl, back0 hw39⟩
 · have hnw2 : z + 2 ≤ w2.heap.size := size_of hw1 hkw2
   have hSw2 := rd_drop hw1 [0, 2, 3] (i := 1) rfl rfl rfl rfl hkw2
   refine .inr ⟨_, _, rfl, hSw2, ?_⟩
   refine e_panicR ?_
   intro w40 hw40
   exact .inr ⟨_, (by unfold partAt; rw [textAt_no (by omega), PR.bind_no]), rfl, back0 hw40⟩

end Go.Proofs.Ytmmkacfeocnblaa.Ly
