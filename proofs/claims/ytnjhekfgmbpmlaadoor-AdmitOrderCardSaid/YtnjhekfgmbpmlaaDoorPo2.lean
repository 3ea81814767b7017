/- Packed: Ab, Ac, Ad, Ae. No conditions. -/
import Derived.Test.YtnjhekfgmbpmlaaDoorPo1
namespace Go.Proofs.YtnjhekfgmbpmlaaDoor.Ad
open Go Go.Proofs.YtnjhekfgmbpmlaaDoor.Eng Go.Proofs.YtnjhekfgmbpmlaaDoor.Mem Go.Proofs.YtnjhekfgmbpmlaaDoor.Ly
set_option linter.unusedSimpArgs false
set_option linter.unusedVariables false
set_option maxRecDepth 100000
def bAt (s : ByteArray) (i : Nat) : UInt8 := (s[i]?).getD 0
theorem bat_at {s : ByteArray} {i : Int} {k : Nat} (h : i = (k : Int)) (hk : k < s.size) : s[i.toNat]? = some (bAt s k) := by
  subst h
  show s[k]? = some (bAt s k)
  unfold bAt
  rw [getElem?_pos s k hk]; rfl
def lowB (c : UInt8) : Bool := win c.toNat 97 122
def nameB (c : UInt8) : Bool := win c.toNat 97 122 || win c.toNat 48 57 || decide ((c.toNat : Int) = 45)
def isNameP (s : ByteArray) : Bool := win s.size 1 16 && lowB (bAt s 0) && (List.range s.size).all (fun i => nameB (bAt s i))
theorem range_all {p : Nat → Bool} {n : Nat} (h : ∀ i, i < n → p i = true) : (List.range n).all p = true := by
  rw [List.all_eq_true]; intro i hi; exact h i (List.mem_range.1 hi)
theorem range_not {p : Nat → Bool} {n k : Nat} (hk : k < n) (h : p k = false) : (List.range n).all p = false := by
  rw [List.all_eq_false]; exact ⟨k, List.mem_range.2 hk, by simp [h]⟩
theorem range_any {p : Nat → Bool} {n k : Nat} (hk : k < n) (h : p k = true) : (List.range n).any p = true := by
  rw [List.any_eq_true]; exact ⟨k, List.mem_range.2 hk, h⟩
theorem range_none {p : Nat → Bool} {n : Nat} (h : ∀ i, i < n → p i = false) : (List.range n).any p = false := by
  rw [List.any_eq_false]; intro i hi; simp [h i (List.mem_range.1 hi)]
abbrev parC (c : TConfig) (p : Nat) : TPartition := gd c.Partitions.xs p
abbrev regC (c : TConfig) (p k : Nat) : TRegion := gd (gd c.Partitions.xs p).Regions.xs k
def namedP (c : TConfig) (p : Nat) : Bool := (List.range p).all (fun q => !((parC c q).Name.toList == (parC c p).Name.toList)) && isNameP (parC c p).Name
def ba64 (a b : Int) : Int := IntKind.i64.wrap ((BitVec.ofInt IntKind.i64.bits a &&& BitVec.ofInt IntKind.i64.bits b).toNat)
def runsAt (x : TPartition) (k : Nat) : Bool := win (x.Entry / 16) (gd x.Regions.xs k).Page ((gd x.Regions.xs k).Page + (gd x.Regions.xs k).Pages - 1) && !decide (ba64 (gd x.Regions.xs k).Rights 4 = 0)
def runsP (x : TPartition) : Bool := (List.range x.Regions.xs.length).any (runsAt x)
abbrev corC (c : TConfig) (k : Nat) : Sl TWindow := gd c.Cores.xs k
def splitAt_ (c : TConfig) (p : Int) (k : Nat) : Bool := (List.range (corC c k).xs.length).any (fun i => decide (0 ≤ p) && decide ((gd (corC c k).xs i).Partition = p))
def splitP (c : TConfig) (k : Nat) (p : Int) : Bool := (List.range k).any (splitAt_ c p)
abbrev q8h4_0 (s : ByteArray) : Nat × Value := (24, i6 ((s.size : Nat) : Int))
abbrev q8h4_1 (k : Nat) : Nat × Value := (25, i6 ((k + 1 : Nat) : Int))
theorem isName_calls (w : World) (s : ByteArray) (hs : s.size ≤ 140737488351232) : Calls Tryd.prog 79 #[.string s] w fun e w' => e = .returned (.bool (isNameP s)) ∧ Keeps (fun _ => False) w w' := by
 obtain ⟨z, hz⟩ : ∃ z, z = w.heap.size := ⟨_, rfl⟩
 refine calls_G (args := [.string s]) 50 ⟨w, z, [(old0 w)]⟩ Tryd.func79 rfl (by kernel_rfl) (by kernel_rfl) (sat_0 hz) ?_
 refine g_keep [0] [(0, .string s)] ?_
 refine q_cS 6 0 [] [[o0]] [] [(0, .string s)] rfl trivial ?_
 by_cases h1 : (((s.size : Nat) : Int) : Int) < 1
 · refine q_cS 9 0 [1] [[o0, o0, oT, o0, o0, o0, o0, o0, o0], [o0]] [BT ((((s.size : Nat) : Int) : Int) < 1)] [(2, .bool false)] rfl ⟨bt (by omega), trivial⟩ ?_
   refine e_ret [] [] (.bool false) trivial ?_
   intro w2 hw2
   refine ⟨congrArg (fun b => Ending.returned (Value.bool b)) (?_ : false = isNameP s), back0 hw2⟩
   refine Eq.symm ?_
   unfold isNameP lowB win
   rw [Bool.and_eq_false_iff]; left; simp; omega
 · by_cases h3 : (16 : Int) < ((s.size : Nat) : Int)
   · refine q_cS 9 0 [1] [[o0, o0, oF, o0, o0, o0, oT, o0, o0, o0, o0, o0], [o0]] [BF ((((s.size : Nat) : Int) : Int) < 1), BT ((((s.size : Nat) : Int) : Int) > 16)] [(2, .bool false)] rfl ⟨bf (by omega), bt (by omega), trivial⟩ ?_
     refine e_ret [] [] (.bool false) trivial ?_
     intro w4 hw4
     refine ⟨congrArg (fun b => Ending.returned (Value.bool b)) (?_ : false = isNameP s), back0 hw4⟩
     refine Eq.symm ?_
     unfold isNameP lowB win
     rw [Bool.and_eq_false_iff]; left; simp; omega
   · by_cases h5 : (((bAt s 0).toNat : Int) : Int) < 97
     · refine q_cS 9 0 [1] [[o0, o0, oF, o0, o0, o0, oF, o0, o0, o0, ⟨.sidx (bAt s 0), none⟩, oT, o0, o0, o0], [o0]] [BF ((((s.size : Nat) : Int) : Int) < 1), BF ((((s.size : Nat) : Int) : Int) > 16), 0 ≤ (0 : Int), s[(0 : Int).toNat]? = some (bAt s 0), BT ((((bAt s 0).toNat : Int) : Int) < 97)] [(2, .bool false)] rfl ⟨bf (by omega), bf (by omega), (by omega), bat_at rfl (by omega), bt (by omega), trivial⟩ ?_
       refine e_ret [] [] (.bool false) trivial ?_
       intro w6 hw6
       refine ⟨congrArg (fun b => Ending.returned (Value.bool b)) (?_ : false = isNameP s), back0 hw6⟩
       refine Eq.symm ?_
       unfold isNameP lowB win
       rw [Bool.and_eq_false_iff]; left; simp; omega
     · by_cases h7 : (122 : Int) < ((bAt s 0).toNat : Int)
       · refine q_cS 9 0 [1] [[o0, o0, oF, o0, o0, o0, oF, o0, o0, o0, ⟨.sidx (bAt s 0), none⟩, oF, o0, o0, o0, ⟨.sidx (bAt s 0), none⟩, oT, o0], [o0]] [BF ((((s.size : Nat) : Int) : Int) < 1), BF ((((s.size : Nat) : Int) : Int) > 16), 0 ≤ (0 : Int), s[(0 : Int).toNat]? = some (bAt s 0), BF ((((bAt s 0).toNat : Int) : Int) < 97), 0 ≤ (0 : Int), s[(0 : Int).toNat]? = some (bAt s 0), BT ((((bAt s 0).toNat : Int) : Int) > 122)] [(2, .bool false)] rfl ⟨bf (by omega), bf (by omega), (by omega), bat_at rfl (by omega), bf (by omega), (by omega), bat_at rfl (by omega), bt (by omega), trivial⟩ ?_
         refine e_ret [] [] (.bool false) trivial ?_
         intro w8 hw8
         refine ⟨congrArg (fun b => Ending.returned (Value.bool b)) (?_ : false = isNameP s), back0 hw8⟩
         refine Eq.symm ?_
         unfold isNameP lowB win
         rw [Bool.and_eq_false_iff]; left; simp; omega
       · refine q_cS 12 0 [0] [[o0, o0, oF, o0, o0, o0, oF, o0, o0, o0, ⟨.sidx (bAt s 0), none⟩, oF, o0, o0, o0, ⟨.sidx (bAt s 0), none⟩, oF, o0], [o0, o0, o0]] [BF ((((s.size : Nat) : Int) : Int) < 1), BF ((((s.size : Nat) : Int) : Int) > 16), 0 ≤ (0 : Int), s[(0 : Int).toNat]? = some (bAt s 0), BF ((((bAt s 0).toNat : Int) : Int) < 97), 0 ≤ (0 : Int), s[(0 : Int).toNat]? = some (bAt s 0), BF ((((bAt s 0).toNat : Int) : Int) > 122)] [(0, .string s), (q8h4_0 s), (25, i6 0)] rfl ⟨bf (by omega), bf (by omega), (by omega), bat_at rfl (by omega), bf (by omega), (by omega), bat_at rfl (by omega), bf (by omega), trivial⟩ ?_
         refine g_loop (fun m a w' => ∃ (n10 : Nat) (k : Nat), m = s.size - k ∧ z ≤ n10 ∧ (k ≤ s.size) ∧ (∀ i, i < k → nameB (bAt s i) = true) ∧ St 50 [(0, .string s), (q8h4_0 s), (25, i6 (k : Int))] [] ⟨w, n10, [(old0 w)]⟩ a w') (s.size - 0) ?_ ?_
         · intro a w' hs; exact ⟨z, 0, rfl, Nat.le_refl _, Nat.zero_le _, fun i hi => absurd hi (Nat.not_lt_zero i), hs⟩
         · rintro m a w' ⟨n10, k, rfl, hn9, hkk, hf, hs⟩
           refine (?_ : G Tryd.prog 50 [(0, .string s), (q8h4_0 s), (25, i6 (k : Int))] [] ⟨w, n10, [(old0 w)]⟩ _ _ _) a w' hs
           clear hs a w'
           refine g_seq ?_
           by_cases h11 : ((k : Int) : Int) < ((s.size : Nat) : Int)
           · refine q_cS 18 0 [1] [[oT], [o0, o0], [o0, o0, ⟨.sidx (bAt s k), none⟩, o0]] [BT (((k : Int) : Int) < ((s.size : Nat) : Int)), 0 ≤ ((k : Int) : Int), s[((k : Int) : Int).toNat]? = some (bAt s k)] [(0, .string s), (q8h4_0 s), (25, i6 (k : Int)), (4, .int .u8 ((bAt s k).toNat : Int))] rfl ⟨bt (by omega), (by omega), bat_at rfl (by omega), trivial⟩ ?_
             by_cases h12 : (((bAt s k).toNat : Int) : Int) < 97
             · by_cases h13 : (((bAt s k).toNat : Int) : Int) < 48
               · by_cases h14 : (((bAt s k).toNat : Int) : Int) = 45
                 · refine q_cS 9 0 [0] [[o0, oT, o0, o0, o0, o0, oT, o0, o0, o0, o0, o0, oF, o0], [(ov (i6 ((k + 1 : Nat) : Int))), o0]] [BT ((((bAt s k).toNat : Int) : Int) < 97), BT ((((bAt s k).toNat : Int) : Int) < 48), NF ((bAt s k).toNat : Int) 45, Wr (((k : Int) : Int) + 1) (((k + 1 : Nat) : Int))] [(0, .string s), (q8h4_0 s), (q8h4_1 k)] rfl ⟨bt (by omega), bt (by omega), nf (by omega), wrI, trivial⟩ ?_
                   refine e_inv (fun a w' hs => ⟨s.size - (k + 1), by omega, n10, (k + 1), rfl, by omega, by omega, upto_ hf (by unfold nameB win; simp; omega), hs⟩)
                 · refine q_cS 9 0 [1] [[o0, oT, o0, o0, o0, o0, oT, o0, o0, o0, o0, o0, oT, o0], [o0]] [BT ((((bAt s k).toNat : Int) : Int) < 97), BT ((((bAt s k).toNat : Int) : Int) < 48), NT ((bAt s k).toNat : Int) 45] [(2, .bool false)] rfl ⟨bt (by omega), bt (by omega), nt (by omega), trivial⟩ ?_
                   refine e_ret [] [] (.bool false) trivial ?_
                   intro w15 hw15
                   refine ⟨congrArg (fun b => Ending.returned (Value.bool b)) (?_ : false = isNameP s), back0 hw15⟩
                   refine Eq.symm ?_
                   unfold isNameP
                   rw [range_not (k := k) (by omega) (by unfold nameB win; simp; omega), Bool.and_false]
               · by_cases h16 : (57 : Int) < ((bAt s k).toNat : Int)
                 · by_cases h17 : (((bAt s k).toNat : Int) : Int) = 45
                   · refine q_cS 9 0 [0] [[o0, oT, o0, o0, o0, o0, oF, o0, o0, oT, o0, o0, o0, o0, oF, o0], [(ov (i6 ((k + 1 : Nat) : Int))), o0]] [BT ((((bAt s k).toNat : Int) : Int) < 97), BF ((((bAt s k).toNat : Int) : Int) < 48), BT ((((bAt s k).toNat : Int) : Int) > 57), NF ((bAt s k).toNat : Int) 45, Wr (((k : Int) : Int) + 1) (((k + 1 : Nat) : Int))] [(0, .string s), (q8h4_0 s), (q8h4_1 k)] rfl ⟨bt (by omega), bf (by omega), bt (by omega), nf (by omega), wrI, trivial⟩ ?_
                     refine e_inv (fun a w' hs => ⟨s.size - (k + 1), by omega, n10, (k + 1), rfl, by omega, by omega, upto_ hf (by unfold nameB win; simp; omega), hs⟩)
                   · refine q_cS 9 0 [1] [[o0, oT, o0, o0, o0, o0, oF, o0, o0, oT, o0, o0, o0, o0, oT, o0], [o0]] [BT ((((bAt s k).toNat : Int) : Int) < 97), BF ((((bAt s k).toNat : Int) : Int) < 48), BT ((((bAt s k).toNat : Int) : Int) > 57), NT ((bAt s k).toNat : Int) 45] [(2, .bool false)] rfl ⟨bt (by omega), bf (by omega), bt (by omega), nt (by omega), trivial⟩ ?_
                     refine e_ret [] [] (.bool false) trivial ?_
                     intro w18 hw18
                     refine ⟨congrArg (fun b => Ending.returned (Value.bool b)) (?_ : false = isNameP s), back0 hw18⟩
                     refine Eq.symm ?_
                     unfold isNameP
                     rw [range_not (k := k) (by omega) (by unfold nameB win; simp; omega), Bool.and_false]
                 · refine q_cS 9 0 [0] [[o0, oT, o0, o0, o0, o0, oF, o0, o0, oF, o0, o0, o0, o0], [(ov (i6 ((k + 1 : Nat) : Int))), o0]] [BT ((((bAt s k).toNat : Int) : Int) < 97), BF ((((bAt s k).toNat : Int) : Int) < 48), BF ((((bAt s k).toNat : Int) : Int) > 57), Wr (((k : Int) : Int) + 1) (((k + 1 : Nat) : Int))] [(0, .string s), (q8h4_0 s), (q8h4_1 k)] rfl ⟨bt (by omega), bf (by omega), bf (by omega), wrI, trivial⟩ ?_
                   refine e_inv (fun a w' hs => ⟨s.size - (k + 1), by omega, n10, (k + 1), rfl, by omega, by omega, upto_ hf (by unfold nameB win; simp; omega), hs⟩)
             · by_cases h19 : (122 : Int) < ((bAt s k).toNat : Int)
               · by_cases h20 : (((bAt s k).toNat : Int) : Int) < 48
                 · by_cases h21 : (((bAt s k).toNat : Int) : Int) = 45
                   · refine q_cS 9 0 [0] [[o0, oF, o0, o0, oT, o0, o0, o0, oT, o0, o0, o0, o0, o0, oF, o0], [(ov (i6 ((k + 1 : Nat) : Int))), o0]] [BF ((((bAt s k).toNat : Int) : Int) < 97), BT ((((bAt s k).toNat : Int) : Int) > 122), BT ((((bAt s k).toNat : Int) : Int) < 48), NF ((bAt s k).toNat : Int) 45, Wr (((k : Int) : Int) + 1) (((k + 1 : Nat) : Int))] [(0, .string s), (q8h4_0 s), (q8h4_1 k)] rfl ⟨bf (by omega), bt (by omega), bt (by omega), nf (by omega), wrI, trivial⟩ ?_
                     refine e_inv (fun a w' hs => ⟨s.size - (k + 1), by omega, n10, (k + 1), rfl, by omega, by omega, upto_ hf (by unfold nameB win; simp; omega), hs⟩)
                   · refine q_cS 9 0 [1] [[o0, oF, o0, o0, oT, o0, o0, o0, oT, o0, o0, o0, o0, o0, oT, o0], [o0]] [BF ((((bAt s k).toNat : Int) : Int) < 97), BT ((((bAt s k).toNat : Int) : Int) > 122), BT ((((bAt s k).toNat : Int) : Int) < 48), NT ((bAt s k).toNat : Int) 45] [(2, .bool false)] rfl ⟨bf (by omega), bt (by omega), bt (by omega), nt (by omega), trivial⟩ ?_
                     refine e_ret [] [] (.bool false) trivial ?_
                     intro w22 hw22
                     refine ⟨congrArg (fun b => Ending.returned (Value.bool b)) (?_ : false = isNameP s), back0 hw22⟩
                     refine Eq.symm ?_
                     unfold isNameP
                     rw [range_not (k := k) (by omega) (by unfold nameB win; simp; omega), Bool.and_false]
                 · by_cases h23 : (57 : Int) < ((bAt s k).toNat : Int)
                   · by_cases h24 : (((bAt s k).toNat : Int) : Int) = 45
                     · refine q_cS 9 0 [0] [[o0, oF, o0, o0, oT, o0, o0, o0, oF, o0, o0, oT, o0, o0, o0, o0, oF, o0], [(ov (i6 ((k + 1 : Nat) : Int))), o0]] [BF ((((bAt s k).toNat : Int) : Int) < 97), BT ((((bAt s k).toNat : Int) : Int) > 122), BF ((((bAt s k).toNat : Int) : Int) < 48), BT ((((bAt s k).toNat : Int) : Int) > 57), NF ((bAt s k).toNat : Int) 45, Wr (((k : Int) : Int) + 1) (((k + 1 : Nat) : Int))] [(0, .string s), (q8h4_0 s), (q8h4_1 k)] rfl ⟨bf (by omega), bt (by omega), bf (by omega), bt (by omega), nf (by omega), wrI, trivial⟩ ?_
                       refine e_inv (fun a w' hs => ⟨s.size - (k + 1), by omega, n10, (k + 1), rfl, by omega, by omega, upto_ hf (by unfold nameB win; simp; omega), hs⟩)
                     · refine q_cS 9 0 [1] [[o0, oF, o0, o0, oT, o0, o0, o0, oF, o0, o0, oT, o0, o0, o0, o0, oT, o0], [o0]] [BF ((((bAt s k).toNat : Int) : Int) < 97), BT ((((bAt s k).toNat : Int) : Int) > 122), BF ((((bAt s k).toNat : Int) : Int) < 48), BT ((((bAt s k).toNat : Int) : Int) > 57), NT ((bAt s k).toNat : Int) 45] [(2, .bool false)] rfl ⟨bf (by omega), bt (by omega), bf (by omega), bt (by omega), nt (by omega), trivial⟩ ?_
                       refine e_ret [] [] (.bool false) trivial ?_
                       intro w25 hw25
                       refine ⟨congrArg (fun b => Ending.returned (Value.bool b)) (?_ : false = isNameP s), back0 hw25⟩
                       refine Eq.symm ?_
                       unfold isNameP
                       rw [range_not (k := k) (by omega) (by unfold nameB win; simp; omega), Bool.and_false]
                   · refine q_cS 9 0 [0] [[o0, oF, o0, o0, oT, o0, o0, o0, oF, o0, o0, oF, o0, o0, o0, o0], [(ov (i6 ((k + 1 : Nat) : Int))), o0]] [BF ((((bAt s k).toNat : Int) : Int) < 97), BT ((((bAt s k).toNat : Int) : Int) > 122), BF ((((bAt s k).toNat : Int) : Int) < 48), BF ((((bAt s k).toNat : Int) : Int) > 57), Wr (((k : Int) : Int) + 1) (((k + 1 : Nat) : Int))] [(0, .string s), (q8h4_0 s), (q8h4_1 k)] rfl ⟨bf (by omega), bt (by omega), bf (by omega), bf (by omega), wrI, trivial⟩ ?_
                     refine e_inv (fun a w' hs => ⟨s.size - (k + 1), by omega, n10, (k + 1), rfl, by omega, by omega, upto_ hf (by unfold nameB win; simp; omega), hs⟩)
               · refine q_cS 9 0 [0] [[o0, oF, o0, o0, oF, o0, o0, o0, o0, o0], [(ov (i6 ((k + 1 : Nat) : Int))), o0]] [BF ((((bAt s k).toNat : Int) : Int) < 97), BF ((((bAt s k).toNat : Int) : Int) > 122), Wr (((k : Int) : Int) + 1) (((k + 1 : Nat) : Int))] [(0, .string s), (q8h4_0 s), (q8h4_1 k)] rfl ⟨bf (by omega), bf (by omega), wrI, trivial⟩ ?_
                 refine e_inv (fun a w' hs => ⟨s.size - (k + 1), by omega, n10, (k + 1), rfl, by omega, by omega, upto_ hf (by unfold nameB win; simp; omega), hs⟩)
           · refine q_cS 15 0 [0] [[oF], [o0]] [BF (((k : Int) : Int) < ((s.size : Nat) : Int))] [(2, .bool true)] rfl ⟨bf (by omega), trivial⟩ ?_
             refine e_ret [] [] (.bool true) trivial ?_
             intro w26 hw26
             refine ⟨congrArg (fun b => Ending.returned (Value.bool b)) (?_ : true = isNameP s), back0 hw26⟩
             refine Eq.symm ?_
             unfold isNameP
             rw [range_all (fun i hi => hf i (by omega))]
             unfold lowB win; simp; omega
abbrev qgs6_0 (z : Nat) (c : TConfig) : Ch := bk z (TConfig.arr c) 26
abbrev qgs6_1 (b4 : Nat) (o5 : Nat) (p : Nat) (c : TConfig) : Nat × Value := (10, .slice (some ⟨b4, o5, none⟩) (p - 0) (c.Partitions.cap - 0))
abbrev qgs6_2 (c : TConfig) (p : Nat) : Nat × Value := (10, .slice c.Partitions.a (p - 0) (c.Partitions.cap - 0))
abbrev qgs6_3 (p : Nat) : Nat × Value := (11, i6 ((p - 0 : Nat) : Int))
theorem named_calls (w : World) (c : TConfig) (hc : TConfig.ok Any w c) (p : Nat) (hp : p < c.Partitions.xs.length) : Calls Tryd.prog 66 #[.agg (TConfig.arr c), .int .i64 (p : Int)] w fun e w' => e = .returned (.bool (namedP c p)) ∧ Keeps (fun _ => False) w w' := by
 obtain ⟨z, hz⟩ : ∃ z, z = w.heap.size := ⟨_, rfl⟩
 refine calls_G (args := [.agg (TConfig.arr c), i6 (p : Int)]) 33 ⟨w, z, [(old0 w)]⟩ Tryd.func66 rfl (by kernel_rfl) (by kernel_rfl) (sat_0 hz) ?_
 have hpl := hc.Partitions.1.len; have hpc := hc.Partitions.1.le
 refine g_keep [0, 1] [(0, .agg (TConfig.arr c)), (1, i6 (p : Int))] ?_
 refine q_c 10 0 [] [[o0, o0], [o0, (a1 1), o0, ⟨.slc 0 p false, none⟩, o0, o0]] [Qb z, (0 : Int) = ((0 : Nat) : Int), ((p : Int) : Int) = ((p : Nat) : Int), 0 ≤ p, p ≤ c.Partitions.cap, c.Partitions.cap = 0 ∨ (0 : Nat) = 0] [(1, i6 (p : Int)), (2, pt z), (qgs6_2 c p), (qgs6_3 p), (12, i6 0)] ⟨w, z + 1, [(old0 w), (qgs6_0 z c)]⟩ rfl ⟨rfl, rfl, rfl, (by omega), (by omega), .inr rfl, trivial⟩ ?_
 refine g_loop (fun m a w' => ∃ (n2 : Nat) (k : Nat), m = p - k ∧ z + 1 ≤ n2 ∧ (k ≤ p) ∧ (∀ i, i < k → (!((parC c i).Name.toList == (parC c p).Name.toList)) = true) ∧ St 33 [(1, i6 (p : Int)), (2, pt z), (qgs6_2 c p), (qgs6_3 p), (12, i6 (k : Int))] [] ⟨w, n2, [(old0 w), (qgs6_0 z c)]⟩ a w') (p - 0) ?_ ?_
 · intro a w' hs; exact ⟨(z + 1), 0, rfl, Nat.le_refl _, Nat.zero_le _, fun i hi => absurd hi (Nat.not_lt_zero i), hs⟩
 · rintro m a w' ⟨n2, k, rfl, hn1, hkk, hf, hs⟩
   refine (?_ : G Tryd.prog 33 [(1, i6 (p : Int)), (2, pt z), (qgs6_2 c p), (qgs6_3 p), (12, i6 (k : Int))] [] ⟨w, n2, [(old0 w), (qgs6_0 z c)]⟩ _ _ _) a w' hs
   clear hs a w'
   refine g_seq ?_
   by_cases h3 : ((k : Int) : Int) < ((p - 0 : Nat) : Int)
   · refine q_cS 10 0 [1] [[oT]] [BT (((k : Int) : Int) < ((p - 0 : Nat) : Int))] [(1, i6 (p : Int)), (2, pt z), (qgs6_2 c p), (qgs6_3 p), (12, i6 (k : Int)), (13, .bool true)] rfl ⟨bt (by omega), trivial⟩ ?_
     obtain ⟨b4, o5, ha6, hF8, hc7⟩ := (hc.Partitions).1.all (show 0 < c.Partitions.xs.length by omega)
     replace ha6 : c.Partitions.a = some ⟨b4, o5, none⟩ := ha6
     refine g_eq [(1, i6 (p : Int)), (2, pt z), (qgs6_1 b4 o5 p c), (qgs6_3 p), (12, i6 (k : Int)), (13, .bool true)] (by (try dsimp only [qgs6_0, qgs6_1, qgs6_2, qgs6_3]); simp only [ha6]) ?_
     have hc9 := hc7 k (show k < c.Partitions.xs.length by omega)
     have he10 := (hc.Partitions).2 k (show k < c.Partitions.xs.length by omega)
     obtain ⟨y11, hy11⟩ : ∃ y_, y_ = gd c.Partitions.xs k := ⟨_, rfl⟩
     rw [← hy11] at he10 hc9
     refine q_c 4 0 [] [[(oi k), (ol 0 (TPartition.arr y11)), o0, (an 8 2)]] [((k : Int) : Int) = ((k : Nat) : Int), k < p - 0, (none : Option Nat) = none, OldR w b4 (o5 + k * 8) (TPartition.arr y11), Qb n2, Qb n2, Qb n2, Qb n2, Qb n2, Qb n2, Qb n2, Qb n2] [(1, i6 (p : Int)), (2, pt z), (qgs6_1 b4 o5 p c), (qgs6_3 p), (12, i6 (k : Int)), (6, pt n2)] ⟨w, n2 + 1, [(old0 w), (qgs6_0 z c), (bk n2 (TPartition.arr y11) 41)]⟩ rfl ⟨rfl, (by omega), rfl, old_row hc9, rfl, rfl, rfl, rfl, rfl, rfl, rfl, rfl, trivial⟩ ?_
     have hc12 := hc7 p (show p < c.Partitions.xs.length by omega)
     have he13 := (hc.Partitions).2 p (show p < c.Partitions.xs.length by omega)
     obtain ⟨y14, hy14⟩ : ∃ y_, y_ = gd c.Partitions.xs p := ⟨_, rfl⟩
     rw [← hy14] at he13 hc12
     by_cases h15 : y11.Name.toList = y14.Name.toList
     · refine g_draw 9 [0, 1, 2] [(old0 w), (qgs6_0 z c), (bk n2 (TPartition.arr y11) 41)] rfl rfl ?_
       refine w_take [(0, o0), (1, (a1 2)), (2, o0), (3, ⟨.auto [.at 1], some (.slice (some ⟨b4, o5, none⟩) c.Partitions.xs.length c.Partitions.cap)⟩), (4, o0), (5, (oi p)), (6, o0), (7, (oa [.via 0 (.string y14.Name)])), (8, (ov (.bool true)))] [1, 2, 10, 11, 12, 24] [Qb n2, Qb z, Value.slice c.Partitions.a c.Partitions.xs.length c.Partitions.cap = Value.slice (some ⟨b4, o5, none⟩) c.Partitions.xs.length c.Partitions.cap, ((p : Int) : Int) = ((p : Nat) : Int), p < c.Partitions.xs.length, (none : Option Nat) = none, Old w b4 (o5 + p * 8) (.string y14.Name), Value.bool ((y11.Name.toList == y14.Name.toList)) = Value.bool true] [true, true, true, true, true, true, true, true, true] [(1, i6 (p : Int)), (2, pt z), (qgs6_1 b4 o5 p c), (qgs6_3 p), (12, i6 (k : Int)), (24, .bool true)] rfl (by as_aux_lemma => kernel_rfl) (by as_aux_lemma => kernel_rfl) ⟨rfl, rfl, congrArg (fun a => Value.slice a _ _) ha6, rfl, (by omega), rfl, old_cell' (hc12 0 _ rfl), congrArg (fun t => Value.bool (t)) (beq_iff_eq.2 h15), trivial⟩ ?_
       refine w_done (by as_aux_lemma => kernel_rfl) ?_
       refine q_oS 7 0 [1] [[o0]] [] [(4, .bool false)] rfl trivial ?_
       refine e_ret [] [] (.bool false) trivial ?_
       intro w16 hw16
       refine ⟨congrArg (fun b => Ending.returned (Value.bool b)) (?_ : false = namedP c p), back0 hw16⟩
       refine Eq.symm ?_
       unfold namedP
       rw [range_not (k := k) (by omega) (by dsimp only [parC]; rw [← hy11, ← hy14, beq_iff_eq.2 h15]; rfl), Bool.false_and]
     · refine g_draw 9 [0, 1, 2] [(old0 w), (qgs6_0 z c), (bk n2 (TPartition.arr y11) 41)] rfl rfl ?_
       refine w_take [(0, o0), (1, (a1 2)), (2, o0), (3, ⟨.auto [.at 1], some (.slice (some ⟨b4, o5, none⟩) c.Partitions.xs.length c.Partitions.cap)⟩), (4, o0), (5, (oi p)), (6, o0), (7, (oa [.via 0 (.string y14.Name)])), (8, (ov (.bool false)))] [1, 2, 10, 11, 12, 24] [Qb n2, Qb z, Value.slice c.Partitions.a c.Partitions.xs.length c.Partitions.cap = Value.slice (some ⟨b4, o5, none⟩) c.Partitions.xs.length c.Partitions.cap, ((p : Int) : Int) = ((p : Nat) : Int), p < c.Partitions.xs.length, (none : Option Nat) = none, Old w b4 (o5 + p * 8) (.string y14.Name), Value.bool ((y11.Name.toList == y14.Name.toList)) = Value.bool false] [true, true, true, true, true, true, true, true, true] [(1, i6 (p : Int)), (2, pt z), (qgs6_1 b4 o5 p c), (qgs6_3 p), (12, i6 (k : Int)), (24, .bool false)] rfl (by as_aux_lemma => kernel_rfl) (by as_aux_lemma => kernel_rfl) ⟨rfl, rfl, congrArg (fun a => Value.slice a _ _) ha6, rfl, (by omega), rfl, old_cell' (hc12 0 _ rfl), congrArg (fun t => Value.bool (t)) (beq_eq_false_iff_ne.2 h15), trivial⟩ ?_
       refine w_done (by as_aux_lemma => kernel_rfl) ?_
       refine q_oS 7 0 [0] [[(ov (i6 ((k + 1 : Nat) : Int))), o0]] [Wr (((k : Int) : Int) + 1) (((k + 1 : Nat) : Int))] [(1, i6 (p : Int)), (2, pt z), (qgs6_1 b4 o5 p c), (qgs6_3 p), (12, i6 ((k + 1 : Nat) : Int))] rfl ⟨wrI, trivial⟩ ?_
       refine e_pick [0, 1] [(old0 w), (qgs6_0 z c)] rfl rfl ?_
       refine e_eqk [1, 2, 10, 11, 12] [(1, i6 (p : Int)), (2, pt z), (qgs6_2 c p), (qgs6_3 p), (12, i6 ((k + 1 : Nat) : Int))] (by (try dsimp only [qgs6_0, qgs6_1, qgs6_2, qgs6_3]); simp only [ha6]; rfl) ?_
       refine e_inv (fun a w' hs => ⟨p - (k + 1), by omega, (n2 + 1), (k + 1), rfl, by omega, by omega, upto_ hf (by dsimp only [parC]; rw [← hy11, ← hy14, beq_eq_false_iff_ne.2 h15]; rfl), hs⟩)
   · refine q_cS 11 0 [0] [[oF]] [BF (((k : Int) : Int) < ((p - 0 : Nat) : Int))] [(1, i6 (p : Int)), (2, pt z), (qgs6_2 c p), (qgs6_3 p), (12, i6 (k : Int)), (13, .bool false)] rfl ⟨bf (by omega), trivial⟩ ?_
     obtain ⟨b17, o18, ha19, hF21, hc20⟩ := (hc.Partitions).1.all (show 0 < c.Partitions.xs.length by omega)
     replace ha19 : c.Partitions.a = some ⟨b17, o18, none⟩ := ha19
     refine g_eq [(1, i6 (p : Int)), (2, pt z), (10, .slice (some ⟨b17, o18, none⟩) (p - 0) (c.Partitions.cap - 0)), (qgs6_3 p), (12, i6 (k : Int)), (13, .bool false)] (by (try dsimp only [qgs6_0, qgs6_1, qgs6_2, qgs6_3]); simp only [ha19]) ?_
     have hc22 := hc20 p (show p < c.Partitions.xs.length by omega)
     have he23 := (hc.Partitions).2 p (show p < c.Partitions.xs.length by omega)
     obtain ⟨y24, hy24⟩ : ∃ y_, y_ = gd c.Partitions.xs p := ⟨_, rfl⟩
     rw [← hy24] at he23 hc22
     refine q_cS 1 6 [] [[o0, ⟨.auto [.at 1], some (.slice (some ⟨b17, o18, none⟩) c.Partitions.xs.length c.Partitions.cap)⟩, o0, (oi p), o0, (oa [.via 0 (.string y24.Name)])]] [Qb z, Value.slice c.Partitions.a c.Partitions.xs.length c.Partitions.cap = Value.slice (some ⟨b17, o18, none⟩) c.Partitions.xs.length c.Partitions.cap, ((p : Int) : Int) = ((p : Nat) : Int), p < c.Partitions.xs.length, (none : Option Nat) = none, Old w b17 (o18 + p * 8) (.string y24.Name)] [(31, .string y24.Name)] rfl ⟨rfl, congrArg (fun a => Value.slice a _ _) ha19, rfl, (by omega), rfl, old_cell' (hc22 0 _ rfl), trivial⟩ ?_
     refine l_call [] [] 79 #[.string y24.Name] (some 32) trivial ?_
     intro w25 hw25
     refine (isName_calls w25 y24.Name he23.Name).mono ?_
     rintro e w26 ⟨rfl, hkw26⟩
     have hnw26 : n2 ≤ w26.heap.size := size_of hw25 hkw26
     refine ⟨_, _, rfl, hw25.keeps hkw26, ?_⟩
     refine q_rS 3 0 [] [[o0]] [] [(4, .bool (isNameP y24.Name))] rfl trivial ?_
     refine e_ret [] [] (.bool (isNameP y24.Name)) trivial ?_
     intro w27 hw27
     refine ⟨congrArg (fun b => Ending.returned (Value.bool b)) (?_ : isNameP y24.Name = namedP c p), back0 hw27⟩
     refine Eq.symm ?_
     unfold namedP
     rw [range_all (fun i hi => hf i (by omega)), Bool.true_and]; dsimp only [parC]; rw [← hy24]
abbrev q4na_0 (z : Nat) (x : TPartition) : Ch := bk z (TPartition.arr x) 41
abbrev q4na_1 (b4 : Nat) (o5 : Nat) (x : TPartition) : Nat × Value := (6, .slice (some ⟨b4, o5, none⟩) x.Regions.xs.length x.Regions.cap)
abbrev q4na_2 (x : TPartition) : Nat × Value := (6, .slice x.Regions.a x.Regions.xs.length x.Regions.cap)
abbrev q4na_3 (x : TPartition) : Nat × Value := (7, i6 ((x.Regions.xs.length : Nat) : Int))
theorem runs_calls (w : World) (x : TPartition) (hx : TPartition.ok Any w x) (he : 0 ≤ x.Entry) (hr : ∀ k, k < x.Regions.xs.length → (0 ≤ (gd x.Regions.xs k).Page ∧ (gd x.Regions.xs k).Page ≤ 255) ∧ (1 ≤ (gd x.Regions.xs k).Pages ∧ (gd x.Regions.xs k).Pages ≤ 256)) : Calls Tryd.prog 69 #[.agg (TPartition.arr x)] w fun e w' => e = .returned (.bool (runsP x)) ∧ Keeps (fun _ => False) w w' := by
 obtain ⟨z, hz⟩ : ∃ z, z = w.heap.size := ⟨_, rfl⟩
 refine calls_G (args := [.agg (TPartition.arr x)]) 31 ⟨w, z, [(old0 w)]⟩ Tryd.func69 rfl (by kernel_rfl) (by kernel_rfl) (sat_0 hz) ?_
 have hpl := hx.Regions.1.len; have hxe : (-9223372036854775808 : Int) ≤ x.Entry ∧ x.Entry ≤ 9223372036854775807 := hx.Entry
 refine g_keep [0] [(0, .agg (TPartition.arr x))] ?_
 refine q_c 10 0 [] [[o0, o0], [o0, (a1 1), o0, o0]] [Qb z] [(1, pt z), (q4na_2 x), (q4na_3 x), (8, i6 0)] ⟨w, z + 1, [(old0 w), (q4na_0 z x)]⟩ rfl ⟨rfl, trivial⟩ ?_
 refine g_loop (fun m a w' => ∃ (n2 : Nat) (k : Nat), m = x.Regions.xs.length - k ∧ z + 1 ≤ n2 ∧ (k ≤ x.Regions.xs.length) ∧ (∀ i, i < k → runsAt x i = false) ∧ St 31 [(1, pt z), (q4na_2 x), (q4na_3 x), (8, i6 (k : Int))] [] ⟨w, n2, [(old0 w), (q4na_0 z x)]⟩ a w') (x.Regions.xs.length - 0) ?_ ?_
 · intro a w' hs; exact ⟨(z + 1), 0, rfl, Nat.le_refl _, Nat.zero_le _, fun i hi => absurd hi (Nat.not_lt_zero i), hs⟩
 · rintro m a w' ⟨n2, k, rfl, hn1, hkk, hf, hs⟩
   refine (?_ : G Tryd.prog 31 [(1, pt z), (q4na_2 x), (q4na_3 x), (8, i6 (k : Int))] [] ⟨w, n2, [(old0 w), (q4na_0 z x)]⟩ _ _ _) a w' hs
   clear hs a w'
   refine g_seq ?_
   by_cases h3 : ((k : Int) : Int) < ((x.Regions.xs.length : Nat) : Int)
   · refine q_cS 10 0 [1] [[oT]] [BT (((k : Int) : Int) < ((x.Regions.xs.length : Nat) : Int))] [(1, pt z), (q4na_2 x), (q4na_3 x), (8, i6 (k : Int)), (9, .bool true)] rfl ⟨bt (by omega), trivial⟩ ?_
     obtain ⟨b4, o5, ha6, hF8, hc7⟩ := (hx.Regions).1.all (show 0 < x.Regions.xs.length by omega)
     replace ha6 : x.Regions.a = some ⟨b4, o5, none⟩ := ha6
     refine g_eq [(1, pt z), (q4na_1 b4 o5 x), (q4na_3 x), (8, i6 (k : Int)), (9, .bool true)] (by (try dsimp only [q4na_0, q4na_1, q4na_2, q4na_3]); simp only [ha6]) ?_
     have hc9 := hc7 k (show k < x.Regions.xs.length by omega)
     have he10 := (hx.Regions).2 k (show k < x.Regions.xs.length by omega)
     obtain ⟨y11, hy11⟩ : ∃ y_, y_ = gd x.Regions.xs k := ⟨_, rfl⟩
     rw [← hy11] at he10 hc9
     have hb12 := hr k (by omega); rw [← hy11] at hb12
     refine q_c 5 11 [] [[(oi k), (ol 0 (TRegion.arr y11)), o0, (an 4 2)], [o0, (a1 1), (ov (i6 (x.Entry / 16))), o0, (a1 2), o0, (a1 2), o0, (a1 2), (ov (i6 (y11.Page + y11.Pages))), (ov (i6 ((y11.Page + y11.Pages) - 1)))]] [((k : Int) : Int) = ((k : Nat) : Int), k < x.Regions.xs.length, (none : Option Nat) = none, OldR w b4 (o5 + k * 4) (TRegion.arr y11), Qb n2, Qb n2, Qb n2, Qb n2, Qb z, Wr (Int.tdiv (x.Entry) 16) (x.Entry / 16), Qb n2, Qb n2, Qb n2, Wr ((y11.Page : Int) + y11.Pages) (y11.Page + y11.Pages), Wr ((y11.Page + y11.Pages : Int) - 1) ((y11.Page + y11.Pages) - 1)] [(1, pt z), (q4na_1 b4 o5 x), (q4na_3 x), (8, i6 (k : Int)), (4, pt n2), (14, i6 (x.Entry / 16)), (16, i6 y11.Page), (22, i6 ((y11.Page + y11.Pages) - 1))] ⟨w, n2 + 1, [(old0 w), (q4na_0 z x), (bk n2 (TRegion.arr y11) 49)]⟩ rfl ⟨rfl, (by omega), rfl, old_row hc9, rfl, rfl, rfl, rfl, rfl, congrArg (Value.int .i64) (wr_div (by omega) (by omega) (by omega)), rfl, rfl, rfl, wrI, wrI, trivial⟩ ?_
     refine l_call [] [] 42 #[i6 (x.Entry / 16), i6 y11.Page, i6 ((y11.Page + y11.Pages) - 1)] (some 23) trivial ?_
     intro w13 hw13
     refine (within_calls w13 (x.Entry / 16) y11.Page ((y11.Page + y11.Pages) - 1)).mono ?_
     rintro e w14 ⟨rfl, hkw14⟩
     have hnw14 : n2 + 1 ≤ w14.heap.size := size_of hw13 hkw14
     refine ⟨_, _, rfl, hw13.keeps hkw14, ?_⟩
     refine l_keep [1, 6, 7, 8, 4, 23] [(1, pt z), (q4na_1 b4 o5 x), (q4na_3 x), (8, i6 (k : Int)), (4, pt n2), (23, .bool (win (x.Entry / 16) y11.Page ((y11.Page + y11.Pages) - 1)))] ?_
     by_cases h15 : (win (x.Entry / 16) y11.Page ((y11.Page + y11.Pages) - 1)) = true
     · have hd16 := win_yes h15
       by_cases h17 : ((ba64 y11.Rights 4) : Int) = 0
       · refine q_rS 8 0 [0] [[(ov (.bool true)), o0, (a1 2), o0, oF, o0], [(ov (i6 ((k + 1 : Nat) : Int))), o0]] [Value.bool (win (x.Entry / 16) y11.Page ((y11.Page + y11.Pages) - 1)) = Value.bool true, Qb n2, NF (ba64 y11.Rights 4) 0, Wr (((k : Int) : Int) + 1) (((k + 1 : Nat) : Int))] [(1, pt z), (q4na_1 b4 o5 x), (q4na_3 x), (8, i6 ((k + 1 : Nat) : Int))] rfl ⟨(congrArg Value.bool h15), rfl, nf (by omega), wrI, trivial⟩ ?_
         refine e_pick [0, 1] [(old0 w), (q4na_0 z x)] rfl rfl ?_
         refine e_eqk [1, 6, 7, 8] [(1, pt z), (q4na_2 x), (q4na_3 x), (8, i6 ((k + 1 : Nat) : Int))] (by (try dsimp only [q4na_0, q4na_1, q4na_2, q4na_3]); simp only [ha6]; rfl) ?_
         refine e_inv (fun a w' hs => ⟨x.Regions.xs.length - (k + 1), by omega, w14.heap.size, (k + 1), rfl, by omega, by omega, upto_ hf (by unfold runsAt; rw [← hy11]; simp [h15, h17]), hs⟩)
       · refine q_rS 8 0 [1] [[(ov (.bool true)), o0, (a1 2), o0, oT, o0], [o0]] [Value.bool (win (x.Entry / 16) y11.Page ((y11.Page + y11.Pages) - 1)) = Value.bool true, Qb n2, NT (ba64 y11.Rights 4) 0] [(2, .bool true)] rfl ⟨(congrArg Value.bool h15), rfl, nt (by omega), trivial⟩ ?_
         refine e_ret [] [] (.bool true) trivial ?_
         intro w18 hw18
         refine ⟨congrArg (fun b => Ending.returned (Value.bool b)) (?_ : true = runsP x), back0 hw18⟩
         refine Eq.symm (range_any (k := k) (by omega) ?_)
         unfold runsAt
         rw [← hy11]; simp [h15, h17]
     · have hd19 := win_no h15
       refine q_rS 8 0 [0] [[(ov (.bool false)), o0], [(ov (i6 ((k + 1 : Nat) : Int))), o0]] [Value.bool (win (x.Entry / 16) y11.Page ((y11.Page + y11.Pages) - 1)) = Value.bool false, Wr (((k : Int) : Int) + 1) (((k + 1 : Nat) : Int))] [(1, pt z), (q4na_1 b4 o5 x), (q4na_3 x), (8, i6 ((k + 1 : Nat) : Int))] rfl ⟨(congrArg Value.bool (Bool.eq_false_iff.2 h15)), wrI, trivial⟩ ?_
       refine e_pick [0, 1] [(old0 w), (q4na_0 z x)] rfl rfl ?_
       refine e_eqk [1, 6, 7, 8] [(1, pt z), (q4na_2 x), (q4na_3 x), (8, i6 ((k + 1 : Nat) : Int))] (by (try dsimp only [q4na_0, q4na_1, q4na_2, q4na_3]); simp only [ha6]; rfl) ?_
       refine e_inv (fun a w' hs => ⟨x.Regions.xs.length - (k + 1), by omega, w14.heap.size, (k + 1), rfl, by omega, by omega, upto_ hf (by unfold runsAt; rw [← hy11]; simp [h15]), hs⟩)
   · refine q_cS 15 0 [0] [[oF], [o0]] [BF (((k : Int) : Int) < ((x.Regions.xs.length : Nat) : Int))] [(2, .bool false)] rfl ⟨bf (by omega), trivial⟩ ?_
     refine e_ret [] [] (.bool false) trivial ?_
     intro w20 hw20
     refine ⟨congrArg (fun b => Ending.returned (Value.bool b)) (?_ : false = runsP x), back0 hw20⟩
     exact (range_none (fun i hi => hf i (by omega))).symm
end Go.Proofs.YtnjhekfgmbpmlaaDoor.Ad
namespace Go.Proofs.YtnjhekfgmbpmlaaDoor.Ad
open Go Go.Proofs.YtnjhekfgmbpmlaaDoor.Eng Go.Proofs.YtnjhekfgmbpmlaaDoor.Mem Go.Proofs.YtnjhekfgmbpmlaaDoor.Ly
set_option linter.unusedSimpArgs false
set_option linter.unusedVariables false
set_option maxRecDepth 100000
abbrev prtC (c : TConfig) (p k : Nat) : TPort := gd (gd c.Partitions.xs p).Ports.xs k
def isSrc (h : Int) (q : TPort) : Bool := decide (q.Channel = h) && q.Source
def isDst (h : Int) (q : TPort) : Bool := decide (q.Channel = h) && !q.Source
def upP (f : TPort → Bool) (xs : List TPartition) (n : Nat) : Nat := (List.range n).foldl (fun s p => s + (gd xs p).Ports.xs.countP f) 0
def upQ (f : TPort → Bool) (ys : List TPort) (n : Nat) : Nat := (ys.take n).countP f
theorem upP_succ (f : TPort → Bool) (xs : List TPartition) (n : Nat) : upP f xs (n + 1) = upP f xs n + (gd xs n).Ports.xs.countP f := by
  unfold upP; rw [List.range_succ, List.foldl_append]; rfl
theorem upQ_succ (f : TPort → Bool) (ys : List TPort) {n : Nat} (h : n < ys.length) : upQ f ys (n + 1) = upQ f ys n + if f (gd ys n) = true then 1 else 0 := by
  unfold upQ
  rw [List.take_add_one, List.getElem?_eq_getElem h, List.countP_append, gd_eq h]
  simp [List.countP_cons]
theorem upQ_all (f : TPort → Bool) (ys : List TPort) {n : Nat} (h : n = ys.length) : upQ f ys n = ys.countP f := by unfold upQ; rw [h, List.take_length]
theorem upQ_le (f : TPort → Bool) (ys : List TPort) (n : Nat) : upQ f ys n ≤ n := by
  unfold upQ; exact Nat.le_trans List.countP_le_length (by rw [List.length_take]; exact Nat.min_le_left _ _)
theorem upP_le {f : TPort → Bool} {xs : List TPartition} {m : Nat} : ∀ {n : Nat}, (∀ p, p < n → (gd xs p).Ports.xs.length ≤ m) → upP f xs n ≤ n * m
  | 0, _ => by simp [upP]
  | n + 1, h => by
    have ih := upP_le (f := f) (n := n) (fun p hp => h p (by omega))
    have h1 := h n (by omega)
    have h2 : (gd xs n).Ports.xs.countP f ≤ (gd xs n).Ports.xs.length := List.countP_le_length
    rw [upP_succ, Nat.succ_mul]; omega
def srcC (c : TConfig) (h : Int) : Nat := upP (isSrc h) c.Partitions.xs c.Partitions.xs.length
def dstC (c : TConfig) (h : Int) : Nat := upP (isDst h) c.Partitions.xs c.Partitions.xs.length
abbrev qca6_0 (z : Nat) (c : TConfig) : Ch := bk z (TConfig.arr c) 26
abbrev qca6_1 (b4 : Nat) (o5 : Nat) (k0 : Nat) (c : TConfig) : Nat × Value := (14, .slice (some ⟨b4, o5, none⟩) (k0 - 0) (c.Cores.cap - 0))
abbrev qca6_2 (b15 : Nat) (o16 : Nat) (y11 : Sl TWindow) : Nat × Value := (20, .slice (some ⟨b15, o16, none⟩) y11.xs.length y11.cap)
abbrev qca6_3 (c : TConfig) (k0 : Nat) : Nat × Value := (14, .slice c.Cores.a (k0 - 0) (c.Cores.cap - 0))
abbrev qca6_4 (y11 : Sl TWindow) : Nat × Value := (21, i6 ((y11.xs.length : Nat) : Int))
abbrev qca6_5 (y11 : Sl TWindow) : Nat × Value := (20, .slice y11.a y11.xs.length y11.cap)
abbrev qca6_6 (k0 : Nat) : Nat × Value := (15, i6 ((k0 - 0 : Nat) : Int))
theorem split_calls (w : World) (c : TConfig) (hc : TConfig.ok Any w c) (k0 : Nat) (hk0 : k0 < c.Cores.xs.length) (p : Int) : Calls Tryd.prog 72 #[.agg (TConfig.arr c), .int .i64 (k0 : Int), .int .i64 p] w fun e w' => e = .returned (.bool (splitP c k0 p)) ∧ Keeps (fun _ => False) w w' := by
 obtain ⟨z, hz⟩ : ∃ z, z = w.heap.size := ⟨_, rfl⟩
 refine calls_G (args := [.agg (TConfig.arr c), i6 (k0 : Int), i6 p]) 36 ⟨w, z, [(old0 w)]⟩ Tryd.func72 rfl (by kernel_rfl) (by kernel_rfl) (sat_0 hz) ?_
 have hpl := hc.Cores.1.len; have hpc := hc.Cores.1.le
 refine g_keep [0, 1, 2] [(0, .agg (TConfig.arr c)), (1, i6 (k0 : Int)), (2, i6 p)] ?_
 refine q_c 10 0 [] [[o0, o0], [o0, (a1 1), o0, ⟨.slc 0 k0 false, none⟩, o0, o0]] [Qb z, (0 : Int) = ((0 : Nat) : Int), ((k0 : Int) : Int) = ((k0 : Nat) : Int), 0 ≤ k0, k0 ≤ c.Cores.cap, c.Cores.cap = 0 ∨ (0 : Nat) = 0] [(2, i6 p), (qca6_3 c k0), (qca6_6 k0), (16, i6 0)] ⟨w, z + 1, [(old0 w), (qca6_0 z c)]⟩ rfl ⟨rfl, rfl, rfl, (by omega), (by omega), .inr rfl, trivial⟩ ?_
 refine g_loop (fun m a w' => ∃ (n2 : Nat) (k : Nat), m = k0 - k ∧ z + 1 ≤ n2 ∧ (k ≤ k0) ∧ (∀ i, i < k → splitAt_ c p i = false) ∧ St 36 [(2, i6 p), (qca6_3 c k0), (qca6_6 k0), (16, i6 (k : Int))] [] ⟨w, n2, [(old0 w), (qca6_0 z c)]⟩ a w') (k0 - 0) ?_ ?_
 · intro a w' hs; exact ⟨(z + 1), 0, rfl, Nat.le_refl _, Nat.zero_le _, fun i hi => absurd hi (Nat.not_lt_zero i), hs⟩
 · rintro m a w' ⟨n2, k, rfl, hn1, hkk, hf, hs⟩
   refine (?_ : G Tryd.prog 36 [(2, i6 p), (qca6_3 c k0), (qca6_6 k0), (16, i6 (k : Int))] [] ⟨w, n2, [(old0 w), (qca6_0 z c)]⟩ _ _ _) a w' hs
   clear hs a w'
   refine g_seq ?_
   by_cases h3 : ((k : Int) : Int) < ((k0 - 0 : Nat) : Int)
   · refine q_cS 10 0 [1] [[oT]] [BT (((k : Int) : Int) < ((k0 - 0 : Nat) : Int))] [(2, i6 p), (qca6_3 c k0), (qca6_6 k0), (16, i6 (k : Int)), (17, .bool true)] rfl ⟨bt (by omega), trivial⟩ ?_
     obtain ⟨b4, o5, ha6, hF8, hc7⟩ := (hc.Cores).1.all (show 0 < c.Cores.xs.length by omega)
     replace ha6 : c.Cores.a = some ⟨b4, o5, none⟩ := ha6
     refine g_eq [(2, i6 p), (qca6_1 b4 o5 k0 c), (qca6_6 k0), (16, i6 (k : Int)), (17, .bool true)] (by (try dsimp only [qca6_0, qca6_1, qca6_2, qca6_3, qca6_4, qca6_5, qca6_6]); simp only [ha6]) ?_
     have hc9 := hc7 k (show k < c.Cores.xs.length by omega)
     have he10 := (hc.Cores).2 k (show k < c.Cores.xs.length by omega)
     obtain ⟨y11, hy11⟩ : ∃ y_, y_ = gd c.Cores.xs k := ⟨_, rfl⟩
     rw [← hy11] at he10 hc9
     refine q_cS 8 0 [] [[(oi k), (oa [.via 0 (.slice y11.a y11.xs.length y11.cap)]), o0], [o0, o0, o0]] [((k : Int) : Int) = ((k : Nat) : Int), k < k0 - 0, (none : Option Nat) = none, Old w b4 (o5 + k) (.slice y11.a y11.xs.length y11.cap)] [(2, i6 p), (qca6_1 b4 o5 k0 c), (qca6_6 k0), (16, i6 (k : Int)), (qca6_5 y11), (qca6_4 y11), (22, i6 0)] rfl ⟨rfl, (by omega), rfl, old_cell' (hc9 0 _ rfl), trivial⟩ ?_
     refine g_loop (fun m a w' => ∃ (n13 : Nat) (j : Nat), m = y11.xs.length - j ∧ n2 ≤ n13 ∧ (j ≤ y11.xs.length) ∧ (∀ i, i < j → (decide (0 ≤ p) && decide ((gd (corC c k).xs i).Partition = p)) = false) ∧ St 36 [(2, i6 p), (qca6_1 b4 o5 k0 c), (qca6_6 k0), (16, i6 (k : Int)), (qca6_5 y11), (qca6_4 y11), (22, i6 (j : Int))] [] ⟨w, n13, [(old0 w), (qca6_0 z c)]⟩ a w') (y11.xs.length - 0) ?_ ?_
     · intro a w' hs; exact ⟨n2, 0, rfl, Nat.le_refl _, Nat.zero_le _, fun i hi => absurd hi (Nat.not_lt_zero i), hs⟩
     · rintro m a w' ⟨n13, j, rfl, hn12, hkj, hg, hs⟩
       refine (?_ : G Tryd.prog 36 [(2, i6 p), (qca6_1 b4 o5 k0 c), (qca6_6 k0), (16, i6 (k : Int)), (qca6_5 y11), (qca6_4 y11), (22, i6 (j : Int))] [] ⟨w, n13, [(old0 w), (qca6_0 z c)]⟩ _ _ _) a w' hs
       clear hs a w'
       have hyl := he10.1.len
       refine g_seq ?_
       by_cases h14 : ((j : Int) : Int) < ((y11.xs.length : Nat) : Int)
       · refine q_cS 10 0 [1] [[oT]] [BT (((j : Int) : Int) < ((y11.xs.length : Nat) : Int))] [(2, i6 p), (qca6_1 b4 o5 k0 c), (qca6_6 k0), (16, i6 (k : Int)), (qca6_5 y11), (qca6_4 y11), (22, i6 (j : Int)), (23, .bool true)] rfl ⟨bt (by omega), trivial⟩ ?_
         obtain ⟨b15, o16, ha17, hF19, hc18⟩ := (he10).1.all (show 0 < y11.xs.length by omega)
         replace ha17 : y11.a = some ⟨b15, o16, none⟩ := ha17
         refine g_eq [(2, i6 p), (qca6_1 b4 o5 k0 c), (qca6_6 k0), (16, i6 (k : Int)), (qca6_2 b15 o16 y11), (qca6_4 y11), (22, i6 (j : Int)), (23, .bool true)] (by (try dsimp only [qca6_0, qca6_1, qca6_2, qca6_3, qca6_4, qca6_5, qca6_6]); simp only [ha17]) ?_
         have hc20 := hc18 j (show j < y11.xs.length by omega)
         have he21 := (he10).2 j (show j < y11.xs.length by omega)
         obtain ⟨y22, hy22⟩ : ∃ y_, y_ = gd y11.xs j := ⟨_, rfl⟩
         rw [← hy22] at he21 hc20
         refine q_c 4 0 [] [[(oi j), (ol 0 (TWindow.arr y22)), o0, (an 3 2)]] [((j : Int) : Int) = ((j : Nat) : Int), j < y11.xs.length, (none : Option Nat) = none, OldR w b15 (o16 + j * 3) (TWindow.arr y22), Qb n13, Qb n13, Qb n13] [(2, i6 p), (qca6_1 b4 o5 k0 c), (qca6_6 k0), (16, i6 (k : Int)), (qca6_2 b15 o16 y11), (qca6_4 y11), (22, i6 (j : Int)), (10, pt n13)] ⟨w, n13 + 1, [(old0 w), (qca6_0 z c), (bk n13 (TWindow.arr y22) 44)]⟩ rfl ⟨rfl, (by omega), rfl, old_row hc20, rfl, rfl, rfl, trivial⟩ ?_
         by_cases h23 : (p : Int) < 0
         · refine q_cS 9 0 [0] [[o0, oF, o0, o0], [(ov (i6 ((j + 1 : Nat) : Int))), o0]] [BF ((p : Int) ≥ 0), Wr (((j : Int) : Int) + 1) (((j + 1 : Nat) : Int))] [(2, i6 p), (qca6_1 b4 o5 k0 c), (qca6_6 k0), (16, i6 (k : Int)), (qca6_2 b15 o16 y11), (qca6_4 y11), (22, i6 ((j + 1 : Nat) : Int))] rfl ⟨bf (by omega), wrI, trivial⟩ ?_
           refine e_pick [0, 1] [(old0 w), (qca6_0 z c)] rfl rfl ?_
           refine e_eqk [2, 14, 15, 16, 20, 21, 22] [(2, i6 p), (qca6_1 b4 o5 k0 c), (qca6_6 k0), (16, i6 (k : Int)), (qca6_5 y11), (qca6_4 y11), (22, i6 ((j + 1 : Nat) : Int))] (by (try dsimp only [qca6_0, qca6_1, qca6_2, qca6_3, qca6_4, qca6_5, qca6_6]); simp only [ha17]; rfl) ?_
           refine e_inv (fun a w' hs => ⟨y11.xs.length - (j + 1), by omega, (n13 + 1), (j + 1), rfl, by omega, by omega, upto_ hg (by have e : gd (corC c k).xs j = y22 := (by rw [hy22, hy11]); simp only [e]; simp; omega), hs⟩)
         · by_cases h24 : (y22.Partition : Int) = p
           · refine q_cS 9 0 [1] [[o0, oT, o0, o0, (a1 2), o0, oT, o0], [o0]] [BT ((p : Int) ≥ 0), Qb n13, ET y22.Partition p] [(6, .bool true)] rfl ⟨bt (by omega), rfl, et (by omega), trivial⟩ ?_
             refine e_ret [] [] (.bool true) trivial ?_
             intro w25 hw25
             refine ⟨congrArg (fun b => Ending.returned (Value.bool b)) (?_ : true = splitP c k0 p), back0 hw25⟩
             refine Eq.symm (range_any (k := k) (by omega) (range_any (k := j) (by dsimp only [corC]; rw [← hy11]; omega) ?_))
             have e : gd (corC c k).xs j = y22 := (by rw [hy22, hy11]); simp only [e]; simp; omega
           · refine q_cS 9 0 [0] [[o0, oT, o0, o0, (a1 2), o0, oF, o0], [(ov (i6 ((j + 1 : Nat) : Int))), o0]] [BT ((p : Int) ≥ 0), Qb n13, EF y22.Partition p, Wr (((j : Int) : Int) + 1) (((j + 1 : Nat) : Int))] [(2, i6 p), (qca6_1 b4 o5 k0 c), (qca6_6 k0), (16, i6 (k : Int)), (qca6_2 b15 o16 y11), (qca6_4 y11), (22, i6 ((j + 1 : Nat) : Int))] rfl ⟨bt (by omega), rfl, ef (by omega), wrI, trivial⟩ ?_
             refine e_pick [0, 1] [(old0 w), (qca6_0 z c)] rfl rfl ?_
             refine e_eqk [2, 14, 15, 16, 20, 21, 22] [(2, i6 p), (qca6_1 b4 o5 k0 c), (qca6_6 k0), (16, i6 (k : Int)), (qca6_5 y11), (qca6_4 y11), (22, i6 ((j + 1 : Nat) : Int))] (by (try dsimp only [qca6_0, qca6_1, qca6_2, qca6_3, qca6_4, qca6_5, qca6_6]); simp only [ha17]; rfl) ?_
             refine e_inv (fun a w' hs => ⟨y11.xs.length - (j + 1), by omega, (n13 + 1), (j + 1), rfl, by omega, by omega, upto_ hg (by have e : gd (corC c k).xs j = y22 := (by rw [hy22, hy11]); simp only [e]; simp; omega), hs⟩)
       · refine q_cS 13 0 [0] [[oF], [(ov (i6 ((k + 1 : Nat) : Int))), o0]] [BF (((j : Int) : Int) < ((y11.xs.length : Nat) : Int)), Wr (((k : Int) : Int) + 1) (((k + 1 : Nat) : Int))] [(2, i6 p), (qca6_1 b4 o5 k0 c), (qca6_6 k0), (16, i6 ((k + 1 : Nat) : Int))] rfl ⟨bf (by omega), wrI, trivial⟩ ?_
         refine e_eqk [2, 14, 15, 16] [(2, i6 p), (qca6_3 c k0), (qca6_6 k0), (16, i6 ((k + 1 : Nat) : Int))] (by (try dsimp only [qca6_0, qca6_1, qca6_2, qca6_3, qca6_4, qca6_5, qca6_6]); simp only [ha6]; rfl) ?_
         refine e_inv (fun a w' hs => ⟨k0 - (k + 1), by omega, n13, (k + 1), rfl, by omega, by omega, upto_ hf (range_none (fun i hi => hg i (by dsimp only [corC] at hi; rw [← hy11] at hi; omega))), hs⟩)
   · refine q_cS 15 0 [0] [[oF], [o0]] [BF (((k : Int) : Int) < ((k0 - 0 : Nat) : Int))] [(6, .bool false)] rfl ⟨bf (by omega), trivial⟩ ?_
     refine e_ret [] [] (.bool false) trivial ?_
     intro w26 hw26
     refine ⟨congrArg (fun b => Ending.returned (Value.bool b)) (?_ : false = splitP c k0 p), back0 hw26⟩
     exact (range_none (fun i hi => hf i (by omega))).symm
abbrev q1df_0 (n2 : Nat) (y11 : TPartition) : Ch := bk n2 (TPartition.arr y11) 41
abbrev q1df_1 (z : Nat) (c : TConfig) : Ch := bk z (TConfig.arr c) 26
abbrev q1df_2 (h : Int) (c : TConfig) (i : Nat) (y11 : TPartition) (j : Nat) : Nat × Value := (4, i6 ((upP (isSrc h) c.Partitions.xs i + upQ (isSrc h) y11.Ports.xs j : Nat) : Int))
abbrev q1df_3 (h : Int) (c : TConfig) (i : Nat) (y11 : TPartition) (j : Nat) : Nat × Value := (5, i6 ((upP (isDst h) c.Partitions.xs i + upQ (isDst h) y11.Ports.xs j : Nat) : Int))
abbrev q1df_4 (b4 : Nat) (o5 : Nat) (c : TConfig) : Nat × Value := (11, .slice (some ⟨b4, o5, none⟩) c.Partitions.xs.length c.Partitions.cap)
abbrev q1df_5 (b15 : Nat) (o16 : Nat) (y11 : TPartition) : Nat × Value := (18, .slice (some ⟨b15, o16, none⟩) y11.Ports.xs.length y11.Ports.cap)
abbrev q1df_6 (c : TConfig) : Nat × Value := (11, .slice c.Partitions.a c.Partitions.xs.length c.Partitions.cap)
abbrev q1df_7 (h : Int) (c : TConfig) (i : Nat) : Nat × Value := (4, i6 ((upP (isSrc h) c.Partitions.xs i : Nat) : Int))
abbrev q1df_8 (h : Int) (c : TConfig) (i : Nat) : Nat × Value := (5, i6 ((upP (isDst h) c.Partitions.xs i : Nat) : Int))
abbrev q1df_9 (y11 : TPartition) : Nat × Value := (18, .slice y11.Ports.a y11.Ports.xs.length y11.Ports.cap)
abbrev q1df_10 (c : TConfig) : Nat × Value := (12, i6 ((c.Partitions.xs.length : Nat) : Int))
abbrev q1df_11 (y11 : TPartition) : Nat × Value := (19, i6 ((y11.Ports.xs.length : Nat) : Int))
abbrev q1df_12 (j : Nat) : Nat × Value := (20, i6 ((j + 1 : Nat) : Int))
theorem ends_calls (w : World) (c : TConfig) (hc : TConfig.ok Any w c) (h : Int) (hm : c.Partitions.xs.length ≤ 1024) (hq : ∀ p, p < c.Partitions.xs.length → (gd c.Partitions.xs p).Ports.xs.length ≤ 1024) : Calls Tryd.prog 71 #[.agg (TConfig.arr c), .int .i64 h] w fun e w' => e = .returned (.tuple #[.int .i64 (srcC c h : Nat), .int .i64 (dstC c h : Nat)]) ∧ Keeps (fun _ => False) w w' := by
 obtain ⟨z, hz⟩ : ∃ z, z = w.heap.size := ⟨_, rfl⟩
 refine calls_G (args := [.agg (TConfig.arr c), i6 h]) 40 ⟨w, z, [(old0 w)]⟩ Tryd.func71 rfl (by kernel_rfl) (by kernel_rfl) (sat_0 hz) ?_
 have hpl := hc.Partitions.1.len
 refine g_keep [0, 1] [(0, .agg (TConfig.arr c)), (1, i6 h)] ?_
 refine q_c 10 0 [] [[o0, o0, o0], [o0, (a1 1), o0, o0]] [Qb z] [(1, i6 h), (4, i6 0), (5, i6 0), (q1df_6 c), (q1df_10 c), (13, i6 0)] ⟨w, z + 1, [(old0 w), (q1df_1 z c)]⟩ rfl ⟨rfl, trivial⟩ ?_
 refine g_loop (fun m a w' => ∃ (n2 : Nat) (i : Nat), m = c.Partitions.xs.length - i ∧ z + 1 ≤ n2 ∧ (i ≤ c.Partitions.xs.length) ∧ St 40 [(1, i6 h), (q1df_7 h c i), (q1df_8 h c i), (q1df_6 c), (q1df_10 c), (13, i6 (i : Int))] [] ⟨w, n2, [(old0 w), (q1df_1 z c)]⟩ a w') (c.Partitions.xs.length - 0) ?_ ?_
 · intro a w' hs; exact ⟨(z + 1), 0, rfl, Nat.le_refl _, Nat.zero_le _, hs⟩
 · rintro m a w' ⟨n2, i, rfl, hn1, hki, hs⟩
   refine (?_ : G Tryd.prog 40 [(1, i6 h), (q1df_7 h c i), (q1df_8 h c i), (q1df_6 c), (q1df_10 c), (13, i6 (i : Int))] [] ⟨w, n2, [(old0 w), (q1df_1 z c)]⟩ _ _ _) a w' hs
   clear hs a w'
   have bb4 := upP_le (f := isSrc h) (n := i) (m := 1024) (fun p hp => hq p (by omega))
   have bb5 := upP_le (f := isDst h) (n := i) (m := 1024) (fun p hp => hq p (by omega))
   refine g_seq ?_
   by_cases h3 : ((i : Int) : Int) < ((c.Partitions.xs.length : Nat) : Int)
   · refine q_cS 10 0 [1] [[oT]] [BT (((i : Int) : Int) < ((c.Partitions.xs.length : Nat) : Int))] [(1, i6 h), (q1df_7 h c i), (q1df_8 h c i), (q1df_6 c), (q1df_10 c), (13, i6 (i : Int)), (14, .bool true)] rfl ⟨bt (by omega), trivial⟩ ?_
     obtain ⟨b4, o5, ha6, hF8, hc7⟩ := (hc.Partitions).1.all (show 0 < c.Partitions.xs.length by omega)
     replace ha6 : c.Partitions.a = some ⟨b4, o5, none⟩ := ha6
     refine g_eq [(1, i6 h), (q1df_7 h c i), (q1df_8 h c i), (q1df_4 b4 o5 c), (q1df_10 c), (13, i6 (i : Int)), (14, .bool true)] (by (try dsimp only [q1df_0, q1df_1, q1df_2, q1df_3, q1df_4, q1df_5, q1df_6, q1df_7, q1df_8, q1df_9, q1df_10, q1df_11, q1df_12]); simp only [ha6]) ?_
     have hc9 := hc7 i (show i < c.Partitions.xs.length by omega)
     have he10 := (hc.Partitions).2 i (show i < c.Partitions.xs.length by omega)
     obtain ⟨y11, hy11⟩ : ∃ y_, y_ = gd c.Partitions.xs i := ⟨_, rfl⟩
     rw [← hy11] at he10 hc9
     refine q_c 8 0 [] [[(oi i), (ol 0 (TPartition.arr y11)), o0, (an 8 2)], [o0, (a1 2), o0, o0]] [((i : Int) : Int) = ((i : Nat) : Int), i < c.Partitions.xs.length, (none : Option Nat) = none, OldR w b4 (o5 + i * 8) (TPartition.arr y11), Qb n2, Qb n2, Qb n2, Qb n2, Qb n2, Qb n2, Qb n2, Qb n2, Qb n2] [(1, i6 h), (q1df_7 h c i), (q1df_8 h c i), (q1df_4 b4 o5 c), (q1df_10 c), (13, i6 (i : Int)), (q1df_9 y11), (q1df_11 y11), (20, i6 0)] ⟨w, n2 + 1, [(old0 w), (q1df_1 z c), (q1df_0 n2 y11)]⟩ rfl ⟨rfl, (by omega), rfl, old_row hc9, rfl, rfl, rfl, rfl, rfl, rfl, rfl, rfl, rfl, trivial⟩ ?_
     refine g_loop (fun m a w' => ∃ (n13 : Nat) (j : Nat), m = y11.Ports.xs.length - j ∧ n2 + 1 ≤ n13 ∧ (j ≤ y11.Ports.xs.length) ∧ St 40 [(1, i6 h), (q1df_2 h c i y11 j), (q1df_3 h c i y11 j), (q1df_4 b4 o5 c), (q1df_10 c), (13, i6 (i : Int)), (q1df_9 y11), (q1df_11 y11), (20, i6 (j : Int))] [] ⟨w, n13, [(old0 w), (q1df_1 z c), (q1df_0 n2 y11)]⟩ a w') (y11.Ports.xs.length - 0) ?_ ?_
     · intro a w' hs; exact ⟨(n2 + 1), 0, rfl, Nat.le_refl _, Nat.zero_le _, hs⟩
     · rintro m a w' ⟨n13, j, rfl, hn12, hkj, hs⟩
       refine (?_ : G Tryd.prog 40 [(1, i6 h), (q1df_2 h c i y11 j), (q1df_3 h c i y11 j), (q1df_4 b4 o5 c), (q1df_10 c), (13, i6 (i : Int)), (q1df_9 y11), (q1df_11 y11), (20, i6 (j : Int))] [] ⟨w, n13, [(old0 w), (q1df_1 z c), (q1df_0 n2 y11)]⟩ _ _ _) a w' hs
       clear hs a w'
       have c4 := upQ_le (isSrc h) y11.Ports.xs j
       have c5 := upQ_le (isDst h) y11.Ports.xs j
       have hyl := hq i (by omega); rw [← hy11] at hyl
       refine g_seq ?_
       by_cases h14 : ((j : Int) : Int) < ((y11.Ports.xs.length : Nat) : Int)
       · refine q_cS 10 0 [1] [[oT]] [BT (((j : Int) : Int) < ((y11.Ports.xs.length : Nat) : Int))] [(1, i6 h), (q1df_2 h c i y11 j), (q1df_3 h c i y11 j), (q1df_4 b4 o5 c), (q1df_10 c), (13, i6 (i : Int)), (q1df_9 y11), (q1df_11 y11), (20, i6 (j : Int)), (21, .bool true)] rfl ⟨bt (by omega), trivial⟩ ?_
         obtain ⟨b15, o16, ha17, hF19, hc18⟩ := (he10.Ports).1.all (show 0 < y11.Ports.xs.length by omega)
         replace ha17 : y11.Ports.a = some ⟨b15, o16, none⟩ := ha17
         refine g_eq [(1, i6 h), (q1df_2 h c i y11 j), (q1df_3 h c i y11 j), (q1df_4 b4 o5 c), (q1df_10 c), (13, i6 (i : Int)), (q1df_5 b15 o16 y11), (q1df_11 y11), (20, i6 (j : Int)), (21, .bool true)] (by (try dsimp only [q1df_0, q1df_1, q1df_2, q1df_3, q1df_4, q1df_5, q1df_6, q1df_7, q1df_8, q1df_9, q1df_10, q1df_11, q1df_12]); simp only [ha17]) ?_
         have hc20 := hc18 j (show j < y11.Ports.xs.length by omega)
         have he21 := (he10.Ports).2 j (show j < y11.Ports.xs.length by omega)
         obtain ⟨y22, hy22⟩ : ∃ y_, y_ = gd y11.Ports.xs j := ⟨_, rfl⟩
         rw [← hy22] at he21 hc20
         refine q_c 5 0 [] [[(oi j), (ol 0 (TPort.arr y22)), o0, (an 2 3)]] [((j : Int) : Int) = ((j : Nat) : Int), j < y11.Ports.xs.length, (none : Option Nat) = none, OldR w b15 (o16 + j * 2) (TPort.arr y22), Qb n13, Qb n13] [(1, i6 h), (q1df_2 h c i y11 j), (q1df_3 h c i y11 j), (q1df_4 b4 o5 c), (q1df_10 c), (13, i6 (i : Int)), (q1df_5 b15 o16 y11), (q1df_11 y11), (20, i6 (j : Int)), (9, pt n13)] ⟨w, n13 + 1, [(old0 w), (q1df_1 z c), (q1df_0 n2 y11), (bk n13 (TPort.arr y22) 57)]⟩ rfl ⟨rfl, (by omega), rfl, old_row hc20, rfl, rfl, trivial⟩ ?_
         by_cases h23 : (y22.Channel : Int) = h
         · refine q_cS 8 0 [0] [[o0, (a1 3), o0, oF, o0], [o0, (a1 3), o0]] [Qb n13, NF y22.Channel h, Qb n13] [(1, i6 h), (q1df_2 h c i y11 j), (q1df_3 h c i y11 j), (q1df_4 b4 o5 c), (q1df_10 c), (13, i6 (i : Int)), (q1df_5 b15 o16 y11), (q1df_11 y11), (20, i6 (j : Int)), (31, .bool y22.Source)] rfl ⟨rfl, nf (by omega), rfl, trivial⟩ ?_
           by_cases h24 : y22.Source = true
           · refine q_cS 8 0 [3] [[o0, (ov (i6 (((upP (isSrc h) c.Partitions.xs i + upQ (isSrc h) y11.Ports.xs j) + 1 : Nat) : Int))), o0], [(ov (i6 ((j + 1 : Nat) : Int))), o0]] [Value.bool y22.Source = Value.bool true, Wr ((((upP (isSrc h) c.Partitions.xs i + upQ (isSrc h) y11.Ports.xs j : Nat) : Int) : Int) + 1) ((((upP (isSrc h) c.Partitions.xs i + upQ (isSrc h) y11.Ports.xs j) + 1 : Nat) : Int)), Wr (((j : Int) : Int) + 1) (((j + 1 : Nat) : Int))] [(1, i6 h), (4, i6 (((upP (isSrc h) c.Partitions.xs i + upQ (isSrc h) y11.Ports.xs j) + 1 : Nat) : Int)), (q1df_3 h c i y11 j), (q1df_4 b4 o5 c), (q1df_10 c), (13, i6 (i : Int)), (q1df_5 b15 o16 y11), (q1df_11 y11), (q1df_12 j)] rfl ⟨(congrArg Value.bool h24), wrI, wrI, trivial⟩ ?_
             refine e_pick [0, 1, 2] [(old0 w), (q1df_1 z c), (q1df_0 n2 y11)] rfl rfl ?_
             have e4 := upQ_succ (isSrc h) y11.Ports.xs (n := j) (by omega); rw [← hy22] at e4
             have e5 := upQ_succ (isDst h) y11.Ports.xs (n := j) (by omega); rw [← hy22] at e5
             simp [isSrc, h23, h24] at e4
             simp [isDst, h23, h24] at e5
             refine e_eqk [1, 4, 5, 11, 12, 13, 18, 19, 20] [(1, i6 h), (4, i6 (((upP (isSrc h) c.Partitions.xs i + upQ (isSrc h) y11.Ports.xs j) + 1 : Nat) : Int)), (q1df_3 h c i y11 j), (q1df_4 b4 o5 c), (q1df_10 c), (13, i6 (i : Int)), (q1df_9 y11), (q1df_11 y11), (q1df_12 j)] (by (try dsimp only [q1df_0, q1df_1, q1df_2, q1df_3, q1df_4, q1df_5, q1df_6, q1df_7, q1df_8, q1df_9, q1df_10, q1df_11, q1df_12]); simp only [ha17]; rfl) ?_
             refine e_inv (fun a w' hs => ⟨y11.Ports.xs.length - (j + 1), by omega, (n13 + 1), (j + 1), rfl, by omega, by omega, (by (try dsimp only [q1df_0, q1df_1, q1df_2, q1df_3, q1df_4, q1df_5, q1df_6, q1df_7, q1df_8, q1df_9, q1df_10, q1df_11, q1df_12] at hs ⊢); rw [e4, e5]; exact hs)⟩)
           · refine q_cS 8 0 [2] [[o0, (ov (i6 (((upP (isDst h) c.Partitions.xs i + upQ (isDst h) y11.Ports.xs j) + 1 : Nat) : Int))), o0], [(ov (i6 ((j + 1 : Nat) : Int))), o0]] [Value.bool y22.Source = Value.bool false, Wr ((((upP (isDst h) c.Partitions.xs i + upQ (isDst h) y11.Ports.xs j : Nat) : Int) : Int) + 1) ((((upP (isDst h) c.Partitions.xs i + upQ (isDst h) y11.Ports.xs j) + 1 : Nat) : Int)), Wr (((j : Int) : Int) + 1) (((j + 1 : Nat) : Int))] [(1, i6 h), (q1df_2 h c i y11 j), (5, i6 (((upP (isDst h) c.Partitions.xs i + upQ (isDst h) y11.Ports.xs j) + 1 : Nat) : Int)), (q1df_4 b4 o5 c), (q1df_10 c), (13, i6 (i : Int)), (q1df_5 b15 o16 y11), (q1df_11 y11), (q1df_12 j)] rfl ⟨(congrArg Value.bool (Bool.eq_false_iff.2 h24)), wrI, wrI, trivial⟩ ?_
             refine e_pick [0, 1, 2] [(old0 w), (q1df_1 z c), (q1df_0 n2 y11)] rfl rfl ?_
             have e4 := upQ_succ (isSrc h) y11.Ports.xs (n := j) (by omega); rw [← hy22] at e4
             have e5 := upQ_succ (isDst h) y11.Ports.xs (n := j) (by omega); rw [← hy22] at e5
             simp [isSrc, h23, h24] at e4
             simp [isDst, h23, h24] at e5
             refine e_eqk [1, 4, 5, 11, 12, 13, 18, 19, 20] [(1, i6 h), (q1df_2 h c i y11 j), (5, i6 (((upP (isDst h) c.Partitions.xs i + upQ (isDst h) y11.Ports.xs j) + 1 : Nat) : Int)), (q1df_4 b4 o5 c), (q1df_10 c), (13, i6 (i : Int)), (q1df_9 y11), (q1df_11 y11), (q1df_12 j)] (by (try dsimp only [q1df_0, q1df_1, q1df_2, q1df_3, q1df_4, q1df_5, q1df_6, q1df_7, q1df_8, q1df_9, q1df_10, q1df_11, q1df_12]); simp only [ha17]; rfl) ?_
             refine e_inv (fun a w' hs => ⟨y11.Ports.xs.length - (j + 1), by omega, (n13 + 1), (j + 1), rfl, by omega, by omega, (by (try dsimp only [q1df_0, q1df_1, q1df_2, q1df_3, q1df_4, q1df_5, q1df_6, q1df_7, q1df_8, q1df_9, q1df_10, q1df_11, q1df_12] at hs ⊢); rw [e4, e5]; exact hs)⟩)
         · refine q_cS 10 0 [1] [[o0, (a1 3), o0, oT, o0], [(ov (i6 ((j + 1 : Nat) : Int))), o0]] [Qb n13, NT y22.Channel h, Wr (((j : Int) : Int) + 1) (((j + 1 : Nat) : Int))] [(1, i6 h), (q1df_2 h c i y11 j), (q1df_3 h c i y11 j), (q1df_4 b4 o5 c), (q1df_10 c), (13, i6 (i : Int)), (q1df_5 b15 o16 y11), (q1df_11 y11), (q1df_12 j)] rfl ⟨rfl, nt (by omega), wrI, trivial⟩ ?_
           refine e_pick [0, 1, 2] [(old0 w), (q1df_1 z c), (q1df_0 n2 y11)] rfl rfl ?_
           have e4 := upQ_succ (isSrc h) y11.Ports.xs (n := j) (by omega); rw [← hy22] at e4
           have e5 := upQ_succ (isDst h) y11.Ports.xs (n := j) (by omega); rw [← hy22] at e5
           simp [isSrc, h23] at e4
           simp [isDst, h23] at e5
           refine e_eqk [1, 4, 5, 11, 12, 13, 18, 19, 20] [(1, i6 h), (q1df_2 h c i y11 j), (q1df_3 h c i y11 j), (q1df_4 b4 o5 c), (q1df_10 c), (13, i6 (i : Int)), (q1df_9 y11), (q1df_11 y11), (q1df_12 j)] (by (try dsimp only [q1df_0, q1df_1, q1df_2, q1df_3, q1df_4, q1df_5, q1df_6, q1df_7, q1df_8, q1df_9, q1df_10, q1df_11, q1df_12]); simp only [ha17]; rfl) ?_
           refine e_inv (fun a w' hs => ⟨y11.Ports.xs.length - (j + 1), by omega, (n13 + 1), (j + 1), rfl, by omega, by omega, (by (try dsimp only [q1df_0, q1df_1, q1df_2, q1df_3, q1df_4, q1df_5, q1df_6, q1df_7, q1df_8, q1df_9, q1df_10, q1df_11, q1df_12] at hs ⊢); rw [e4, e5]; exact hs)⟩)
       · refine q_cS 13 0 [0] [[oF], [(ov (i6 ((i + 1 : Nat) : Int))), o0]] [BF (((j : Int) : Int) < ((y11.Ports.xs.length : Nat) : Int)), Wr (((i : Int) : Int) + 1) (((i + 1 : Nat) : Int))] [(1, i6 h), (q1df_2 h c i y11 j), (q1df_3 h c i y11 j), (q1df_4 b4 o5 c), (q1df_10 c), (13, i6 ((i + 1 : Nat) : Int))] rfl ⟨bf (by omega), wrI, trivial⟩ ?_
         refine e_pick [0, 1] [(old0 w), (q1df_1 z c)] rfl rfl ?_
         have e4 := upP_succ (isSrc h) c.Partitions.xs i; rw [← hy11] at e4
         have e5 := upP_succ (isDst h) c.Partitions.xs i; rw [← hy11] at e5
         refine e_eqk [1, 4, 5, 11, 12, 13] [(1, i6 h), (q1df_2 h c i y11 j), (q1df_3 h c i y11 j), (q1df_6 c), (q1df_10 c), (13, i6 ((i + 1 : Nat) : Int))] (by (try dsimp only [q1df_0, q1df_1, q1df_2, q1df_3, q1df_4, q1df_5, q1df_6, q1df_7, q1df_8, q1df_9, q1df_10, q1df_11, q1df_12]); simp only [ha6]; rfl) ?_
         refine e_inv (fun a w' hs => ⟨c.Partitions.xs.length - (i + 1), by omega, n13, (i + 1), rfl, by omega, by omega, (by (try dsimp only [q1df_0, q1df_1, q1df_2, q1df_3, q1df_4, q1df_5, q1df_6, q1df_7, q1df_8, q1df_9, q1df_10, q1df_11, q1df_12] at hs ⊢); rw [upQ_all (isSrc h) y11.Ports.xs (n := j) (by omega), upQ_all (isDst h) y11.Ports.xs (n := j) (by omega), ← e4, ← e5] at hs; exact hs)⟩)
   · refine q_cS 15 0 [0] [[oF], [o0, o0, o0, o0]] [BF (((i : Int) : Int) < ((c.Partitions.xs.length : Nat) : Int))] [(q1df_7 h c i), (q1df_8 h c i)] rfl ⟨bf (by omega), trivial⟩ ?_
     refine e_ret [] [] (.tuple #[i6 ((upP (isSrc h) c.Partitions.xs i : Nat) : Int), i6 ((upP (isDst h) c.Partitions.xs i : Nat) : Int)]) trivial ?_
     intro w25 hw25
     exact ⟨by rw [show i = c.Partitions.xs.length from by omega]; rfl, back0 hw25⟩
end Go.Proofs.YtnjhekfgmbpmlaaDoor.Ad
namespace Go.Proofs.YtnjhekfgmbpmlaaDoor.Ad
open Go Go.Proofs.YtnjhekfgmbpmlaaDoor.Eng Go.Proofs.YtnjhekfgmbpmlaaDoor.Mem Go.Proofs.YtnjhekfgmbpmlaaDoor.Ly
set_option linter.unusedSimpArgs false
set_option linter.unusedVariables false
set_option maxRecDepth 100000
def Bd (g : TRegion) : Prop := (0 ≤ g.Page ∧ g.Page ≤ 255) ∧ (1 ≤ g.Pages ∧ g.Pages ≤ 256) ∧ (0 ≤ g.Frame ∧ g.Frame ≤ 1024)
def regB (c : TConfig) (g : TRegion) : Bool := win g.Page 0 255 && win g.Pages 1 (256 - g.Page) && decide (0 ≤ g.Frame) && decide (g.Pages ≤ c.Frames - g.Frame) && win g.Rights 1 7
def pagB (c : TConfig) (p k i : Nat) : Bool := meet (regC c p k).Page (regC c p k).Pages (regC c p i).Page (regC c p i).Pages
def frmB (c : TConfig) (p k q n : Nat) : Bool := (decide (q < p) || decide (n < k)) && meet (regC c p k).Frame (regC c p k).Pages (regC c q n).Frame (regC c q n).Pages
def frmQ (c : TConfig) (p k q : Nat) : Bool := (List.range (parC c q).Regions.xs.length).any (frmB c p k q)
def regQ (c : TConfig) (p k : Nat) : Tfound := if regB c (regC c p k) = false then ⟨409, ⟨p, k⟩⟩ else if (List.range k).any (pagB c p k) = true then ⟨410, ⟨p, k⟩⟩ else if (List.range (p + 1)).any (frmQ c p k) = true then ⟨411, ⟨p, k⟩⟩ else fineF
theorem regQ_a {c : TConfig} {p k : Nat} (h : regB c (regC c p k) = false) : regQ c p k = ⟨409, ⟨p, k⟩⟩ := by unfold regQ; rw [if_pos h]
theorem regQ_b {c : TConfig} {p k : Nat} (h : regB c (regC c p k) = true) (h2 : (List.range k).any (pagB c p k) = true) : regQ c p k = ⟨410, ⟨p, k⟩⟩ := by unfold regQ; rw [if_neg (by simp [h]), if_pos h2]
theorem regQ_c {c : TConfig} {p k : Nat} (h : regB c (regC c p k) = true) (h2 : (List.range k).any (pagB c p k) = false) (h3 : (List.range (p + 1)).any (frmQ c p k) = true) : regQ c p k = ⟨411, ⟨p, k⟩⟩ := by unfold regQ; rw [if_neg (by simp [h]), if_neg (by simp [h2]), if_pos h3]
theorem regQ_d {c : TConfig} {p k : Nat} (h : regB c (regC c p k) = true) (h2 : (List.range k).any (pagB c p k) = false) (h3 : (List.range (p + 1)).any (frmQ c p k) = false) : regQ c p k = fineF := by unfold regQ; rw [if_neg (by simp [h]), if_neg (by simp [h2]), if_neg (by simp [h3])]
theorem regB_bd {c : TConfig} {g : TRegion} (hF : c.Frames ≤ 1024) (h : regB c g = true) : Bd g := by
  unfold regB win at h; simp at h; unfold Bd; omega
theorem regQ_fine {c : TConfig} {p k : Nat} (h : regQ c p k = fineF) : regB c (regC c p k) = true := by
  by_cases hb : regB c (regC c p k) = false
  · rw [regQ_a hb] at h; exact absurd (congrArg Tfound.e h) (by decide : ¬ (409 : Int) = 0)
  · simpa using hb
abbrev q9ef_0 (z : Nat) (p : Nat) (k : Nat) : Ch := bk (z + 1) #[i6 409, i6 (p : Int), i6 (k : Int)] 73
abbrev q9ef_1 (z : Nat) : Ch := bk (z + 1) #[i6 0, i6 0, i6 0] 73
abbrev q9ef_2 (z : Nat) (y16 : TRegion) : Ch := bk (z + 2) (TRegion.arr y16) 49
abbrev q9ef_3 (n51 : Nat) (y55 : TPartition) : Ch := bk n51 (TPartition.arr y55) 41
abbrev q9ef_4 (z : Nat) (c : TConfig) : Ch := bk z (TConfig.arr c) 26
abbrev q9ef_5 (b59 : Nat) (o60 : Nat) (y55 : TPartition) : Nat × Value := (100, .slice (some ⟨b59, o60, none⟩) y55.Regions.xs.length y55.Regions.cap)
abbrev q9ef_6 (b1 : Nat) (o2 : Nat) (p : Nat) (c : TConfig) : Nat × Value := (92, .slice (some ⟨b1, o2, none⟩) (p + 1 - 0) (c.Partitions.cap - 0))
abbrev q9ef_7 (y55 : TPartition) : Nat × Value := (100, .slice y55.Regions.a y55.Regions.xs.length y55.Regions.cap)
abbrev q9ef_8 (b9 : Nat) (o10 : Nat) (k : Nat) (y8 : TPartition) : Nat × Value := (68, .slice (some ⟨b9, o10, none⟩) (k - 0) (y8.Regions.cap - 0))
abbrev q9ef_9 (y55 : TPartition) : Nat × Value := (101, i6 ((y55.Regions.xs.length : Nat) : Int))
abbrev q9ef_10 (p : Nat) : Nat × Value := (93, i6 ((p + 1 - 0 : Nat) : Int))
abbrev q9ef_11 (n : Nat) : Nat × Value := (102, i6 ((n + 1 : Nat) : Int))
abbrev q9ef_12 (z : Nat) : Nat × Value := (6, pt (z + 1))
abbrev q9ef_13 (z : Nat) : Nat × Value := (7, pt (z + 2))
abbrev q9ef_14 (k : Nat) : Nat × Value := (69, i6 ((k - 0 : Nat) : Int))
abbrev q9ef_15 (w : World) (z : Nat) (c : TConfig) (y16 : TRegion) (n51 : Nat) (y55 : TPartition) : List Ch := [(old0 w), (q9ef_4 z c), (q9ef_1 z), (q9ef_2 z y16), (q9ef_3 n51 y55)]
theorem region_calls (w : World) (hL : LaidAt w) (c : TConfig) (hc : TConfig.ok Any w c) (p k : Nat) (hp : p < c.Partitions.xs.length) (hk : k < (gd c.Partitions.xs p).Regions.xs.length) (hFr : 1 ≤ c.Frames ∧ c.Frames ≤ 1024) (hb : ∀ q n, q ≤ p → n < (gd c.Partitions.xs q).Regions.xs.length → (q < p ∨ n < k) → Bd (regC c q n)) : Calls Tryd.prog 68 #[.agg (TConfig.arr c), .int .i64 (p : Int), .int .i64 (k : Int)] w fun e w' => e = .returned (.agg (Tfound.arr (regQ c p k))) ∧ Keeps (fun _ => False) w w' := by
 obtain ⟨z, hz⟩ : ∃ z, z = w.heap.size := ⟨_, rfl⟩
 refine calls_G (args := [.agg (TConfig.arr c), i6 (p : Int), i6 (k : Int)]) 133 ⟨w, z, [(old0 w)]⟩ Tryd.func68 rfl (by kernel_rfl) (by kernel_rfl) (sat_0 hz) ?_
 have hpl := hc.Partitions.1.len; have hpc := hc.Partitions.1.le; have hrl := (hc.Partitions.2 p hp).Regions.1.len; have hrc := (hc.Partitions.2 p hp).Regions.1.le
 refine g_keep [0, 1, 2] [(0, .agg (TConfig.arr c)), (1, i6 (p : Int)), (2, i6 (k : Int))] ?_
 refine q_c 5 0 [] [[o0, o0]] [] [(1, i6 (p : Int)), (2, i6 (k : Int)), (3, pt z), (q9ef_12 z)] ⟨w, z + 2, [(old0 w), (q9ef_4 z c), (q9ef_1 z)]⟩ rfl trivial ?_
 obtain ⟨b1, o2, ha3, hF5, hc4⟩ := (hc.Partitions).1.all (show 0 < c.Partitions.xs.length by omega)
 replace ha3 : c.Partitions.a = some ⟨b1, o2, none⟩ := ha3
 have hc6 := hc4 p (show p < c.Partitions.xs.length by omega)
 have he7 := (hc.Partitions).2 p (show p < c.Partitions.xs.length by omega)
 obtain ⟨y8, hy8⟩ : ∃ y_, y_ = gd c.Partitions.xs p := ⟨_, rfl⟩
 rw [← hy8] at he7 hc6
 (try rw [← hy8] at hk hrl hrc)
 obtain ⟨b9, o10, ha11, hF13, hc12⟩ := (he7.Regions).1.all (show 0 < y8.Regions.xs.length by omega)
 replace ha11 : y8.Regions.a = some ⟨b9, o10, none⟩ := ha11
 have hc14 := hc12 k (show k < y8.Regions.xs.length by omega)
 have he15 := (he7.Regions).2 k (show k < y8.Regions.xs.length by omega)
 obtain ⟨y16, hy16⟩ : ∃ y_, y_ = gd y8.Regions.xs k := ⟨_, rfl⟩
 rw [← hy16] at he15 hc14
 have hfy16 : (-9223372036854775808 : Int) ≤ y16.Frame ∧ y16.Frame ≤ 9223372036854775807 := he15.Frame
 refine q_c 6 2 [] [[o0, ⟨.auto [.at 1], some (.slice (some ⟨b1, o2, none⟩) c.Partitions.xs.length c.Partitions.cap)⟩, o0, (oi p), o0, ⟨.auto [.via 0 (.slice y8.Regions.a y8.Regions.xs.length y8.Regions.cap)], some (.slice (some ⟨b9, o10, none⟩) y8.Regions.xs.length y8.Regions.cap)⟩, o0, (oi k), (ol 0 (TRegion.arr y16)), o0, (an 4 3)], [o0, (a1 3)]] [Qb z, Value.slice c.Partitions.a c.Partitions.xs.length c.Partitions.cap = Value.slice (some ⟨b1, o2, none⟩) c.Partitions.xs.length c.Partitions.cap, ((p : Int) : Int) = ((p : Nat) : Int), p < c.Partitions.xs.length, (none : Option Nat) = none, Old w b1 (o2 + p * 8 + 6) (.slice y8.Regions.a y8.Regions.xs.length y8.Regions.cap), Value.slice y8.Regions.a y8.Regions.xs.length y8.Regions.cap = Value.slice (some ⟨b9, o10, none⟩) y8.Regions.xs.length y8.Regions.cap, ((k : Int) : Int) = ((k : Nat) : Int), k < y8.Regions.xs.length, (none : Option Nat) = none, OldR w b9 (o10 + k * 4) (TRegion.arr y16), Qb (z + 2), Qb (z + 2), Qb (z + 2), Qb (z + 2), Qb (z + 2)] [(1, i6 (p : Int)), (2, i6 (k : Int)), (3, pt z), (q9ef_12 z), (q9ef_13 z), (24, i6 y16.Page)] ⟨w, z + 3, [(old0 w), (q9ef_4 z c), (q9ef_1 z), (q9ef_2 z y16)]⟩ rfl ⟨rfl, congrArg (fun a => Value.slice a _ _) ha3, rfl, (by omega), rfl, old_cell' (hc6 6 _ rfl), congrArg (fun a => Value.slice a _ _) ha11, rfl, (by omega), rfl, old_row hc14, rfl, rfl, rfl, rfl, rfl, trivial⟩ ?_
 refine l_call [] [] 42 #[i6 y16.Page, i6 0, i6 255] (some 25) trivial ?_
 intro w17 hw17
 refine (within_calls w17 y16.Page 0 255).mono ?_
 rintro e w18 ⟨rfl, hkw18⟩
 have hnw18 : z + 3 ≤ w18.heap.size := size_of hw17 hkw18
 refine ⟨_, _, rfl, hw17.keeps hkw18, ?_⟩
 refine l_keep [1, 2, 3, 6, 7, 25] [(1, i6 (p : Int)), (2, i6 (k : Int)), (3, pt z), (q9ef_12 z), (q9ef_13 z), (25, .bool (win y16.Page 0 255))] ?_
 by_cases h19 : (win y16.Page 0 255) = true
 · have hd20 := win_yes h19
   refine q_rS 0 7 [] [[(ov (.bool false)), o0, o0, (a1 3), o0, (a1 3), (ov (i6 (256 - y16.Page)))]] [Value.bool (!(win y16.Page 0 255)) = Value.bool false, Qb (z + 2), Qb (z + 2), Wr ((256 : Int) - y16.Page) (256 - y16.Page)] [(1, i6 (p : Int)), (2, i6 (k : Int)), (3, pt z), (q9ef_12 z), (q9ef_13 z), (27, .bool false), (29, i6 y16.Pages), (32, i6 (256 - y16.Page))] rfl ⟨by simp [h19], rfl, rfl, wrI, trivial⟩ ?_
   refine l_call [] [] 42 #[i6 y16.Pages, i6 1, i6 (256 - y16.Page)] (some 33) trivial ?_
   intro w21 hw21
   refine (within_calls w21 y16.Pages 1 (256 - y16.Page)).mono ?_
   rintro e w22 ⟨rfl, hkw22⟩
   have hnw22 : w18.heap.size ≤ w22.heap.size := size_of hw21 hkw22
   refine ⟨_, _, rfl, hw21.keeps hkw22, ?_⟩
   refine l_keep [1, 2, 3, 6, 7, 27, 33] [(1, i6 (p : Int)), (2, i6 (k : Int)), (3, pt z), (q9ef_12 z), (q9ef_13 z), (27, .bool false), (33, .bool (win y16.Pages 1 (256 - y16.Page)))] ?_
   by_cases h23 : (win y16.Pages 1 (256 - y16.Page)) = true
   · have hd24 := win_yes h23
     by_cases h25 : (y16.Frame : Int) < 0
     · refine q_rS 5 2 [1] [[(ov (.bool false)), o0, o0, o0, (a1 3), oT, o0, o0, o0, o0, o0], [o0, o0]] [Value.bool (!(win y16.Pages 1 (256 - y16.Page))) = Value.bool false, Qb (z + 2), BT ((y16.Frame : Int) < 0)] [(q9ef_12 z), (57, i6 (p : Int)), (58, i6 (k : Int))] rfl ⟨by simp [h23], rfl, bt (by omega), trivial⟩ ?_
       refine l_call [] [] 70 #[i6 (p : Int), i6 (k : Int)] (some 59) trivial ?_
       intro w26 hw26
       refine (both_calls w26 (p : Int) (k : Int)).mono ?_
       rintro e w27 ⟨rfl, hkw27⟩
       have hnw27 : w22.heap.size ≤ w27.heap.size := size_of hw26 hkw27
       refine ⟨_, _, rfl, hw26.keeps hkw27, ?_⟩
       refine q_r 3 0 [] [[o0, (an 3 2)]] [Qb (z + 1), Qb (z + 1), Qb (z + 1)] [(q9ef_12 z)] ⟨w, w27.heap.size, [(old0 w), (q9ef_4 z c), (q9ef_0 z p k), (q9ef_2 z y16)]⟩ rfl ⟨rfl, rfl, rfl, trivial⟩ ?_
       refine e_ret [.at 2, .at 2, .at 2] [Qb (z + 1), Qb (z + 1), Qb (z + 1)] (.agg #[i6 409, i6 (p : Int), i6 (k : Int)]) ⟨rfl, rfl, rfl, trivial⟩ ?_
       intro w28 hw28
       refine ⟨congrArg Ending.returned (?_ : Value.agg #[i6 409, i6 (p : Int), i6 (k : Int)] = .agg (Tfound.arr (regQ c p k))), back0 hw28⟩
       have hq : regQ c p k = _ := regQ_a (by have ek : regC c p k = y16 := (by dsimp only [regC]; rw [← hy8, ← hy16]); rw [ek]; unfold regB win; simp; omega)
       exact (congrArg (fun t => Value.agg (Tfound.arr t)) hq).symm
     · by_cases h29 : (c.Frames - y16.Frame : Int) < y16.Pages
       · refine q_rS 5 2 [1] [[(ov (.bool false)), o0, o0, o0, (a1 3), oF, o0, o0, o0, (a1 3), o0, (a1 1), o0, (a1 3), (ov (i6 (c.Frames - y16.Frame))), oT, o0, o0, o0], [o0, o0]] [Value.bool (!(win y16.Pages 1 (256 - y16.Page))) = Value.bool false, Qb (z + 2), BF ((y16.Frame : Int) < 0), Qb (z + 2), Qb z, Qb (z + 2), Wr ((c.Frames : Int) - y16.Frame) (c.Frames - y16.Frame), BT ((y16.Pages : Int) > (c.Frames - y16.Frame))] [(q9ef_12 z), (57, i6 (p : Int)), (58, i6 (k : Int))] rfl ⟨by simp [h23], rfl, bf (by omega), rfl, rfl, rfl, wrI, bt (by omega), trivial⟩ ?_
         refine l_call [] [] 70 #[i6 (p : Int), i6 (k : Int)] (some 59) trivial ?_
         intro w30 hw30
         refine (both_calls w30 (p : Int) (k : Int)).mono ?_
         rintro e w31 ⟨rfl, hkw31⟩
         have hnw31 : w22.heap.size ≤ w31.heap.size := size_of hw30 hkw31
         refine ⟨_, _, rfl, hw30.keeps hkw31, ?_⟩
         refine q_r 3 0 [] [[o0, (an 3 2)]] [Qb (z + 1), Qb (z + 1), Qb (z + 1)] [(q9ef_12 z)] ⟨w, w31.heap.size, [(old0 w), (q9ef_4 z c), (q9ef_0 z p k), (q9ef_2 z y16)]⟩ rfl ⟨rfl, rfl, rfl, trivial⟩ ?_
         refine e_ret [.at 2, .at 2, .at 2] [Qb (z + 1), Qb (z + 1), Qb (z + 1)] (.agg #[i6 409, i6 (p : Int), i6 (k : Int)]) ⟨rfl, rfl, rfl, trivial⟩ ?_
         intro w32 hw32
         refine ⟨congrArg Ending.returned (?_ : Value.agg #[i6 409, i6 (p : Int), i6 (k : Int)] = .agg (Tfound.arr (regQ c p k))), back0 hw32⟩
         have hq : regQ c p k = _ := regQ_a (by have ek : regC c p k = y16 := (by dsimp only [regC]; rw [← hy8, ← hy16]); rw [ek]; unfold regB win; simp; omega)
         exact (congrArg (fun t => Value.agg (Tfound.arr t)) hq).symm
       · refine q_rS 0 20 [] [[(ov (.bool false)), o0, o0, o0, (a1 3), oF, o0, o0, o0, (a1 3), o0, (a1 1), o0, (a1 3), (ov (i6 (c.Frames - y16.Frame))), oF, o0, o0, o0, (a1 3)]] [Value.bool (!(win y16.Pages 1 (256 - y16.Page))) = Value.bool false, Qb (z + 2), BF ((y16.Frame : Int) < 0), Qb (z + 2), Qb z, Qb (z + 2), Wr ((c.Frames : Int) - y16.Frame) (c.Frames - y16.Frame), BF ((y16.Pages : Int) > (c.Frames - y16.Frame)), Qb (z + 2)] [(1, i6 (p : Int)), (2, i6 (k : Int)), (3, pt z), (q9ef_12 z), (q9ef_13 z), (51, .bool false), (53, i6 y16.Rights)] rfl ⟨by simp [h23], rfl, bf (by omega), rfl, rfl, rfl, wrI, bf (by omega), rfl, trivial⟩ ?_
         refine l_call [] [] 42 #[i6 y16.Rights, i6 1, i6 7] (some 54) trivial ?_
         intro w33 hw33
         refine (within_calls w33 y16.Rights 1 7).mono ?_
         rintro e w34 ⟨rfl, hkw34⟩
         have hnw34 : w22.heap.size ≤ w34.heap.size := size_of hw33 hkw34
         refine ⟨_, _, rfl, hw33.keeps hkw34, ?_⟩
         refine l_keep [1, 2, 3, 6, 7, 51, 54] [(1, i6 (p : Int)), (2, i6 (k : Int)), (3, pt z), (q9ef_12 z), (q9ef_13 z), (51, .bool false), (54, .bool (win y16.Rights 1 7))] ?_
         by_cases h35 : (win y16.Rights 1 7) = true
         · have hd36 := win_yes h35
           refine q_rS 11 0 [0] [[(ov (.bool false)), o0], [o0, ⟨.auto [.at 1], some (.slice (some ⟨b1, o2, none⟩) c.Partitions.xs.length c.Partitions.cap)⟩, o0, (oi p), o0, ⟨.auto [.via 0 (.slice y8.Regions.a y8.Regions.xs.length y8.Regions.cap)], some (.slice (some ⟨b9, o10, none⟩) y8.Regions.xs.length y8.Regions.cap)⟩, o0, ⟨.slc 0 k false, none⟩, o0, o0]] [Value.bool (!(win y16.Rights 1 7)) = Value.bool false, Qb z, Value.slice c.Partitions.a c.Partitions.xs.length c.Partitions.cap = Value.slice (some ⟨b1, o2, none⟩) c.Partitions.xs.length c.Partitions.cap, ((p : Int) : Int) = ((p : Nat) : Int), p < c.Partitions.xs.length, (none : Option Nat) = none, Old w b1 (o2 + p * 8 + 6) (.slice y8.Regions.a y8.Regions.xs.length y8.Regions.cap), Value.slice y8.Regions.a y8.Regions.xs.length y8.Regions.cap = Value.slice (some ⟨b9, o10, none⟩) y8.Regions.xs.length y8.Regions.cap, (0 : Int) = ((0 : Nat) : Int), ((k : Int) : Int) = ((k : Nat) : Int), 0 ≤ k, k ≤ y8.Regions.cap, y8.Regions.cap = 0 ∨ (0 : Nat) = 0] [(1, i6 (p : Int)), (2, i6 (k : Int)), (3, pt z), (q9ef_12 z), (q9ef_13 z), (q9ef_8 b9 o10 k y8), (q9ef_14 k), (70, i6 0)] rfl ⟨by simp [h35], rfl, congrArg (fun a => Value.slice a _ _) ha3, rfl, (by omega), rfl, old_cell' (hc6 6 _ rfl), congrArg (fun a => Value.slice a _ _) ha11, rfl, rfl, (by omega), (by omega), .inr rfl, trivial⟩ ?_
           refine g_loop (fun m a w' => ∃ (n38 : Nat) (i : Nat), m = k - i ∧ w34.heap.size ≤ n38 ∧ (i ≤ k) ∧ (∀ a, a < i → pagB c p k a = false) ∧ St 133 [(1, i6 (p : Int)), (2, i6 (k : Int)), (3, pt z), (q9ef_12 z), (q9ef_13 z), (q9ef_8 b9 o10 k y8), (q9ef_14 k), (70, i6 (i : Int))] [] ⟨w, n38, [(old0 w), (q9ef_4 z c), (q9ef_1 z), (q9ef_2 z y16)]⟩ a w') (k - 0) ?_ ?_
           · intro a w' hs; exact ⟨w34.heap.size, 0, rfl, Nat.le_refl _, Nat.zero_le _, fun i hi => absurd hi (Nat.not_lt_zero i), hs⟩
           · rintro m a w' ⟨n38, i, rfl, hn37, hki, hf, hs⟩
             refine (?_ : G Tryd.prog 133 [(1, i6 (p : Int)), (2, i6 (k : Int)), (3, pt z), (q9ef_12 z), (q9ef_13 z), (q9ef_8 b9 o10 k y8), (q9ef_14 k), (70, i6 (i : Int))] [] ⟨w, n38, [(old0 w), (q9ef_4 z c), (q9ef_1 z), (q9ef_2 z y16)]⟩ _ _ _) a w' hs
             clear hs a w'
             have hbb : regB c (regC c p k) = true := (by have ek : regC c p k = y16 := (by dsimp only [regC]; rw [← hy8, ← hy16]); rw [ek]; unfold regB win; simp; omega)
             refine g_seq ?_
             by_cases h39 : ((i : Int) : Int) < ((k - 0 : Nat) : Int)
             · refine q_cS 10 0 [1] [[oT]] [BT (((i : Int) : Int) < ((k - 0 : Nat) : Int))] [(1, i6 (p : Int)), (2, i6 (k : Int)), (3, pt z), (q9ef_12 z), (q9ef_13 z), (q9ef_8 b9 o10 k y8), (q9ef_14 k), (70, i6 (i : Int)), (71, .bool true)] rfl ⟨bt (by omega), trivial⟩ ?_
               have hc40 := hc12 i (show i < y8.Regions.xs.length by omega)
               have he41 := (he7.Regions).2 i (show i < y8.Regions.xs.length by omega)
               obtain ⟨y42, hy42⟩ : ∃ y_, y_ = gd y8.Regions.xs i := ⟨_, rfl⟩
               rw [← hy42] at he41 hc40
               have hfy42 : (-9223372036854775808 : Int) ≤ y42.Frame ∧ y42.Frame ≤ 9223372036854775807 := he41.Frame
               refine q_c 5 8 [] [[(oi i), (ol 0 (TRegion.arr y42)), o0, (an 4 4)], [o0, (a1 3), o0, (a1 3), o0, (a1 4), o0, (a1 4)]] [((i : Int) : Int) = ((i : Nat) : Int), i < k - 0, (none : Option Nat) = none, OldR w b9 (o10 + i * 4) (TRegion.arr y42), Qb n38, Qb n38, Qb n38, Qb n38, Qb (z + 2), Qb (z + 2), Qb n38, Qb n38] [(1, i6 (p : Int)), (2, i6 (k : Int)), (3, pt z), (q9ef_12 z), (q9ef_13 z), (q9ef_8 b9 o10 k y8), (q9ef_14 k), (70, i6 (i : Int)), (75, i6 y16.Page), (77, i6 y16.Pages), (79, i6 y42.Page), (81, i6 y42.Pages)] ⟨w, n38 + 1, [(old0 w), (q9ef_4 z c), (q9ef_1 z), (q9ef_2 z y16), (bk n38 (TRegion.arr y42) 49)]⟩ rfl ⟨rfl, (by omega), rfl, old_row hc40, rfl, rfl, rfl, rfl, rfl, rfl, rfl, rfl, trivial⟩ ?_
               refine l_call [] [] 73 #[i6 y16.Page, i6 y16.Pages, i6 y42.Page, i6 y42.Pages] (some 82) trivial ?_
               intro w43 hw43
               have hm45 := hb p i (by omega) (by rw [← hy8]; omega) (by omega); dsimp only [regC] at hm45; rw [← hy8, ← hy42] at hm45; unfold Bd at hm45
               refine (meet_calls w43 y16.Page y16.Pages y42.Page y42.Pages (by omega) (by omega) (by omega) (by omega)).mono ?_
               rintro e w44 ⟨rfl, hkw44⟩
               have hnw44 : n38 + 1 ≤ w44.heap.size := size_of hw43 hkw44
               refine ⟨_, _, rfl, hw43.keeps hkw44, ?_⟩
               refine l_keep [1, 2, 3, 6, 7, 68, 69, 70, 82] [(1, i6 (p : Int)), (2, i6 (k : Int)), (3, pt z), (q9ef_12 z), (q9ef_13 z), (q9ef_8 b9 o10 k y8), (q9ef_14 k), (70, i6 (i : Int)), (82, .bool (meet y16.Page y16.Pages y42.Page y42.Pages))] ?_
               refine l_nil (by kernel_rfl) ?_
               refine e_seq ?_
               by_cases h46 : (meet y16.Page y16.Pages y42.Page y42.Pages) = true
               · refine q_cS 3 2 [3] [[o0, o0]] [Value.bool (meet y16.Page y16.Pages y42.Page y42.Pages) = Value.bool true] [(q9ef_12 z), (83, i6 (p : Int)), (84, i6 (k : Int))] rfl ⟨(congrArg Value.bool h46), trivial⟩ ?_
                 refine l_call [] [] 70 #[i6 (p : Int), i6 (k : Int)] (some 85) trivial ?_
                 intro w47 hw47
                 refine (both_calls w47 (p : Int) (k : Int)).mono ?_
                 rintro e w48 ⟨rfl, hkw48⟩
                 have hnw48 : w44.heap.size ≤ w48.heap.size := size_of hw47 hkw48
                 refine ⟨_, _, rfl, hw47.keeps hkw48, ?_⟩
                 refine q_r 3 0 [] [[o0, (an 3 2)]] [Qb (z + 1), Qb (z + 1), Qb (z + 1)] [(q9ef_12 z)] ⟨w, w48.heap.size, [(old0 w), (q9ef_4 z c), (bk (z + 1) #[i6 410, i6 (p : Int), i6 (k : Int)] 73), (q9ef_2 z y16), (bk n38 (TRegion.arr y42) 49)]⟩ rfl ⟨rfl, rfl, rfl, trivial⟩ ?_
                 refine e_ret [.at 2, .at 2, .at 2] [Qb (z + 1), Qb (z + 1), Qb (z + 1)] (.agg #[i6 410, i6 (p : Int), i6 (k : Int)]) ⟨rfl, rfl, rfl, trivial⟩ ?_
                 intro w49 hw49
                 refine ⟨congrArg Ending.returned (?_ : Value.agg #[i6 410, i6 (p : Int), i6 (k : Int)] = .agg (Tfound.arr (regQ c p k))), back0 hw49⟩
                 have hq : regQ c p k = _ := regQ_b hbb (range_any (k := i) (by omega) (by have ek : regC c p k = y16 := (by dsimp only [regC]; rw [← hy8, ← hy16]); have ei : regC c p i = y42 := (by dsimp only [regC]; rw [← hy8, ← hy42]); unfold pagB; rw [ek, ei]; exact h46))
                 exact (congrArg (fun t => Value.agg (Tfound.arr t)) hq).symm
               · refine q_cS 6 0 [2] [[(ov (i6 ((i + 1 : Nat) : Int))), o0]] [Value.bool (meet y16.Page y16.Pages y42.Page y42.Pages) = Value.bool false, Wr (((i : Int) : Int) + 1) (((i + 1 : Nat) : Int))] [(1, i6 (p : Int)), (2, i6 (k : Int)), (3, pt z), (q9ef_12 z), (q9ef_13 z), (q9ef_8 b9 o10 k y8), (q9ef_14 k), (70, i6 ((i + 1 : Nat) : Int))] rfl ⟨(congrArg Value.bool (Bool.eq_false_iff.2 h46)), wrI, trivial⟩ ?_
                 refine e_pick [0, 1, 2, 3] [(old0 w), (q9ef_4 z c), (q9ef_1 z), (q9ef_2 z y16)] rfl rfl ?_
                 refine e_keep [1, 2, 3, 6, 7, 68, 69, 70] [(1, i6 (p : Int)), (2, i6 (k : Int)), (3, pt z), (q9ef_12 z), (q9ef_13 z), (q9ef_8 b9 o10 k y8), (q9ef_14 k), (70, i6 ((i + 1 : Nat) : Int))] ?_
                 refine e_inv (fun a w' hs => ⟨k - (i + 1), by omega, w44.heap.size, (i + 1), rfl, by omega, by omega, upto_ hf (by have ek : regC c p k = y16 := (by dsimp only [regC]; rw [← hy8, ← hy16]); have ei : regC c p i = y42 := (by dsimp only [regC]; rw [← hy8, ← hy42]); unfold pagB; rw [ek, ei]; simpa using h46), hs⟩)
             · refine q_cS 16 0 [0] [[oF], [o0, ⟨.auto [.at 1], some (.slice (some ⟨b1, o2, none⟩) c.Partitions.xs.length c.Partitions.cap)⟩, o0, (ov (i6 ((p + 1 : Nat) : Int))), ⟨.slc 0 (p + 1) false, none⟩, o0, o0]] [BF (((i : Int) : Int) < ((k - 0 : Nat) : Int)), Qb z, Value.slice c.Partitions.a c.Partitions.xs.length c.Partitions.cap = Value.slice (some ⟨b1, o2, none⟩) c.Partitions.xs.length c.Partitions.cap, Wr (((p : Int) : Int) + 1) (((p + 1 : Nat) : Int)), (0 : Int) = ((0 : Nat) : Int), (((p + 1 : Nat) : Int) : Int) = ((p + 1 : Nat) : Int), 0 ≤ p + 1, p + 1 ≤ c.Partitions.cap, c.Partitions.cap = 0 ∨ (0 : Nat) = 0] [(1, i6 (p : Int)), (2, i6 (k : Int)), (q9ef_12 z), (q9ef_13 z), (q9ef_6 b1 o2 p c), (q9ef_10 p), (94, i6 0)] rfl ⟨bf (by omega), rfl, congrArg (fun a => Value.slice a _ _) ha3, wrI, rfl, rfl, (by omega), (by omega), .inr rfl, trivial⟩ ?_
               refine g_loop (fun m a w' => ∃ (n51 : Nat) (q : Nat), m = p + 1 - q ∧ n38 ≤ n51 ∧ (q ≤ p + 1) ∧ (∀ a, a < q → frmQ c p k a = false) ∧ St 133 [(1, i6 (p : Int)), (2, i6 (k : Int)), (q9ef_12 z), (q9ef_13 z), (q9ef_6 b1 o2 p c), (q9ef_10 p), (94, i6 (q : Int))] [] ⟨w, n51, [(old0 w), (q9ef_4 z c), (q9ef_1 z), (q9ef_2 z y16)]⟩ a w') (p + 1 - 0) ?_ ?_
               · intro a w' hs; exact ⟨n38, 0, rfl, Nat.le_refl _, Nat.zero_le _, fun i hi => absurd hi (Nat.not_lt_zero i), hs⟩
               · rintro m a w' ⟨n51, q, rfl, hn50, hkq, hg, hs⟩
                 refine (?_ : G Tryd.prog 133 [(1, i6 (p : Int)), (2, i6 (k : Int)), (q9ef_12 z), (q9ef_13 z), (q9ef_6 b1 o2 p c), (q9ef_10 p), (94, i6 (q : Int))] [] ⟨w, n51, [(old0 w), (q9ef_4 z c), (q9ef_1 z), (q9ef_2 z y16)]⟩ _ _ _) a w' hs
                 clear hs a w'
                 have hf0 : (List.range k).any (pagB c p k) = false := range_none (fun a ha => hf a (by omega))
                 refine g_seq ?_
                 by_cases h52 : ((q : Int) : Int) < ((p + 1 - 0 : Nat) : Int)
                 · refine q_cS 10 0 [1] [[oT]] [BT (((q : Int) : Int) < ((p + 1 - 0 : Nat) : Int))] [(1, i6 (p : Int)), (2, i6 (k : Int)), (q9ef_12 z), (q9ef_13 z), (q9ef_6 b1 o2 p c), (q9ef_10 p), (94, i6 (q : Int)), (95, .bool true)] rfl ⟨bt (by omega), trivial⟩ ?_
                   have hc53 := hc4 q (show q < c.Partitions.xs.length by omega)
                   have he54 := (hc.Partitions).2 q (show q < c.Partitions.xs.length by omega)
                   obtain ⟨y55, hy55⟩ : ∃ y_, y_ = gd c.Partitions.xs q := ⟨_, rfl⟩
                   rw [← hy55] at he54 hc53
                   (try rw [← hy55] at hk hrl hrc)
                   refine q_c 8 0 [] [[o0, (oi q), (ol 0 (TPartition.arr y55)), o0, o0, (an 8 4)], [o0, (a1 4), o0, o0]] [((q : Int) : Int) = ((q : Nat) : Int), q < p + 1 - 0, (none : Option Nat) = none, OldR w b1 (o2 + q * 8) (TPartition.arr y55), Qb n51, Qb n51, Qb n51, Qb n51, Qb n51, Qb n51, Qb n51, Qb n51, Qb n51] [(1, i6 (p : Int)), (2, i6 (k : Int)), (q9ef_12 z), (q9ef_13 z), (10, i6 (q : Int)), (q9ef_6 b1 o2 p c), (q9ef_10 p), (94, i6 (q : Int)), (q9ef_7 y55), (q9ef_9 y55), (102, i6 0)] ⟨w, n51 + 1, (q9ef_15 w z c y16 n51 y55)⟩ rfl ⟨rfl, (by omega), rfl, old_row hc53, rfl, rfl, rfl, rfl, rfl, rfl, rfl, rfl, rfl, trivial⟩ ?_
                   refine g_loop (fun m a w' => ∃ (n57 : Nat) (n : Nat), m = y55.Regions.xs.length - n ∧ n51 + 1 ≤ n57 ∧ (n ≤ y55.Regions.xs.length) ∧ (∀ a, a < n → frmB c p k q a = false) ∧ St 133 [(1, i6 (p : Int)), (2, i6 (k : Int)), (q9ef_12 z), (q9ef_13 z), (10, i6 (q : Int)), (q9ef_6 b1 o2 p c), (q9ef_10 p), (94, i6 (q : Int)), (q9ef_7 y55), (q9ef_9 y55), (102, i6 (n : Int))] [] ⟨w, n57, (q9ef_15 w z c y16 n51 y55)⟩ a w') (y55.Regions.xs.length - 0) ?_ ?_
                   · intro a w' hs; exact ⟨(n51 + 1), 0, rfl, Nat.le_refl _, Nat.zero_le _, fun i hi => absurd hi (Nat.not_lt_zero i), hs⟩
                   · rintro m a w' ⟨n57, n, rfl, hn56, hkn, hh, hs⟩
                     refine (?_ : G Tryd.prog 133 [(1, i6 (p : Int)), (2, i6 (k : Int)), (q9ef_12 z), (q9ef_13 z), (10, i6 (q : Int)), (q9ef_6 b1 o2 p c), (q9ef_10 p), (94, i6 (q : Int)), (q9ef_7 y55), (q9ef_9 y55), (102, i6 (n : Int))] [] ⟨w, n57, (q9ef_15 w z c y16 n51 y55)⟩ _ _ _) a w' hs
                     clear hs a w'
                     have hyl := he54.Regions.1.len
                     refine g_seq ?_
                     by_cases h58 : ((n : Int) : Int) < ((y55.Regions.xs.length : Nat) : Int)
                     · refine q_cS 10 0 [1] [[oT]] [BT (((n : Int) : Int) < ((y55.Regions.xs.length : Nat) : Int))] [(1, i6 (p : Int)), (2, i6 (k : Int)), (q9ef_12 z), (q9ef_13 z), (10, i6 (q : Int)), (q9ef_6 b1 o2 p c), (q9ef_10 p), (94, i6 (q : Int)), (q9ef_7 y55), (q9ef_9 y55), (102, i6 (n : Int)), (103, .bool true)] rfl ⟨bt (by omega), trivial⟩ ?_
                       obtain ⟨b59, o60, ha61, hF63, hc62⟩ := (he54.Regions).1.all (show 0 < y55.Regions.xs.length by omega)
                       replace ha61 : y55.Regions.a = some ⟨b59, o60, none⟩ := ha61
                       refine g_eq [(1, i6 (p : Int)), (2, i6 (k : Int)), (q9ef_12 z), (q9ef_13 z), (10, i6 (q : Int)), (q9ef_6 b1 o2 p c), (q9ef_10 p), (94, i6 (q : Int)), (q9ef_5 b59 o60 y55), (q9ef_9 y55), (102, i6 (n : Int)), (103, .bool true)] (by (try dsimp only [q9ef_0, q9ef_1, q9ef_2, q9ef_3, q9ef_4, q9ef_5, q9ef_6, q9ef_7, q9ef_8, q9ef_9, q9ef_10, q9ef_11, q9ef_12, q9ef_13, q9ef_14, q9ef_15]); simp only [ha61]) ?_
                       have hc64 := hc62 n (show n < y55.Regions.xs.length by omega)
                       have he65 := (he54.Regions).2 n (show n < y55.Regions.xs.length by omega)
                       obtain ⟨y66, hy66⟩ : ∃ y_, y_ = gd y55.Regions.xs n := ⟨_, rfl⟩
                       rw [← hy66] at he65 hc64
                       have hfy66 : (-9223372036854775808 : Int) ≤ y66.Frame ∧ y66.Frame ≤ 9223372036854775807 := he65.Frame
                       refine q_c 4 0 [] [[o0, (oi n), (ol 0 (TRegion.arr y66)), o0, o0, (an 4 5)]] [((n : Int) : Int) = ((n : Nat) : Int), n < y55.Regions.xs.length, (none : Option Nat) = none, OldR w b59 (o60 + n * 4) (TRegion.arr y66), Qb n57, Qb n57, Qb n57, Qb n57] [(1, i6 (p : Int)), (2, i6 (k : Int)), (q9ef_12 z), (q9ef_13 z), (10, i6 (q : Int)), (q9ef_6 b1 o2 p c), (q9ef_10 p), (94, i6 (q : Int)), (q9ef_5 b59 o60 y55), (q9ef_9 y55), (102, i6 (n : Int)), (13, pt n57), (12, i6 (n : Int))] ⟨w, n57 + 1, [(old0 w), (q9ef_4 z c), (q9ef_1 z), (q9ef_2 z y16), (q9ef_3 n51 y55), (bk n57 (TRegion.arr y66) 49)]⟩ rfl ⟨rfl, (by omega), rfl, old_row hc64, rfl, rfl, rfl, rfl, trivial⟩ ?_
                       by_cases h67 : ((q : Int) : Int) < (p : Int)
                       · refine q_cS 1 17 [] [[o0, o0, oT, o0, o0, o0, o0, (a1 3), o0, (a1 3), o0, (a1 5), o0, (a1 5)]] [BT (((q : Int) : Int) < (p : Int)), Qb (z + 2), Qb (z + 2), Qb n57, Qb n57] [(1, i6 (p : Int)), (2, i6 (k : Int)), (q9ef_12 z), (q9ef_13 z), (10, i6 (q : Int)), (q9ef_6 b1 o2 p c), (q9ef_10 p), (94, i6 (q : Int)), (q9ef_5 b59 o60 y55), (q9ef_9 y55), (102, i6 (n : Int)), (115, .bool true), (117, i6 y16.Frame), (119, i6 y16.Pages), (121, i6 y66.Frame), (123, i6 y66.Pages)] rfl ⟨bt (by omega), rfl, rfl, rfl, rfl, trivial⟩ ?_
                         refine l_call [] [] 73 #[i6 y16.Frame, i6 y16.Pages, i6 y66.Frame, i6 y66.Pages] (some 124) trivial ?_
                         intro w68 hw68
                         have hm70 := hb q n (by omega) (by rw [← hy55]; omega) (by omega); dsimp only [regC] at hm70; rw [← hy55, ← hy66] at hm70; unfold Bd at hm70
                         refine (meet_calls w68 y16.Frame y16.Pages y66.Frame y66.Pages (by omega) (by omega) (by omega) (by omega)).mono ?_
                         rintro e w69 ⟨rfl, hkw69⟩
                         have hnw69 : n57 + 1 ≤ w69.heap.size := size_of hw68 hkw69
                         refine ⟨_, _, rfl, hw68.keeps hkw69, ?_⟩
                         refine q_rS 2 0 [] [[o0]] [] [(1, i6 (p : Int)), (2, i6 (k : Int)), (q9ef_12 z), (q9ef_13 z), (10, i6 (q : Int)), (q9ef_6 b1 o2 p c), (q9ef_10 p), (94, i6 (q : Int)), (q9ef_5 b59 o60 y55), (q9ef_9 y55), (102, i6 (n : Int)), (125, .bool (meet y16.Frame y16.Pages y66.Frame y66.Pages))] rfl trivial ?_
                         by_cases h71 : (meet y16.Frame y16.Pages y66.Frame y66.Pages) = true
                         · refine q_cS 3 2 [3] [[o0, o0]] [Value.bool (meet y16.Frame y16.Pages y66.Frame y66.Pages) = Value.bool true] [(q9ef_12 z), (126, i6 (p : Int)), (127, i6 (k : Int))] rfl ⟨(congrArg Value.bool h71), trivial⟩ ?_
                           refine l_call [] [] 70 #[i6 (p : Int), i6 (k : Int)] (some 128) trivial ?_
                           intro w72 hw72
                           refine (both_calls w72 (p : Int) (k : Int)).mono ?_
                           rintro e w73 ⟨rfl, hkw73⟩
                           have hnw73 : w69.heap.size ≤ w73.heap.size := size_of hw72 hkw73
                           refine ⟨_, _, rfl, hw72.keeps hkw73, ?_⟩
                           refine q_r 3 0 [] [[o0, (an 3 2)]] [Qb (z + 1), Qb (z + 1), Qb (z + 1)] [(q9ef_12 z)] ⟨w, w73.heap.size, [(old0 w), (q9ef_4 z c), (bk (z + 1) #[i6 411, i6 (p : Int), i6 (k : Int)] 73), (q9ef_2 z y16), (q9ef_3 n51 y55), (bk n57 (TRegion.arr y66) 49)]⟩ rfl ⟨rfl, rfl, rfl, trivial⟩ ?_
                           refine e_ret [.at 2, .at 2, .at 2] [Qb (z + 1), Qb (z + 1), Qb (z + 1)] (.agg #[i6 411, i6 (p : Int), i6 (k : Int)]) ⟨rfl, rfl, rfl, trivial⟩ ?_
                           intro w74 hw74
                           refine ⟨congrArg Ending.returned (?_ : Value.agg #[i6 411, i6 (p : Int), i6 (k : Int)] = .agg (Tfound.arr (regQ c p k))), back0 hw74⟩
                           have hq : regQ c p k = _ := regQ_c hbb hf0 (range_any (k := q) (by omega) (range_any (k := n) (by dsimp only [parC]; rw [← hy55]; omega) (by have ek : regC c p k = y16 := (by dsimp only [regC]; rw [← hy8, ← hy16]); have en : regC c q n = y66 := (by dsimp only [regC]; rw [← hy55, ← hy66]); unfold frmB; rw [ek, en, h71]; simp; omega)))
                           exact (congrArg (fun t => Value.agg (Tfound.arr t)) hq).symm
                         · refine q_cS 6 0 [2] [[(ov (i6 ((n + 1 : Nat) : Int))), o0]] [Value.bool (meet y16.Frame y16.Pages y66.Frame y66.Pages) = Value.bool false, Wr (((n : Int) : Int) + 1) (((n + 1 : Nat) : Int))] [(1, i6 (p : Int)), (2, i6 (k : Int)), (q9ef_12 z), (q9ef_13 z), (10, i6 (q : Int)), (q9ef_6 b1 o2 p c), (q9ef_10 p), (94, i6 (q : Int)), (q9ef_5 b59 o60 y55), (q9ef_9 y55), (q9ef_11 n)] rfl ⟨(congrArg Value.bool (Bool.eq_false_iff.2 h71)), wrI, trivial⟩ ?_
                           refine e_pick [0, 1, 2, 3, 4] (q9ef_15 w z c y16 n51 y55) rfl rfl ?_
                           refine e_eqk [1, 2, 6, 7, 10, 92, 93, 94, 100, 101, 102] [(1, i6 (p : Int)), (2, i6 (k : Int)), (q9ef_12 z), (q9ef_13 z), (10, i6 (q : Int)), (q9ef_6 b1 o2 p c), (q9ef_10 p), (94, i6 (q : Int)), (q9ef_7 y55), (q9ef_9 y55), (q9ef_11 n)] (by (try dsimp only [q9ef_0, q9ef_1, q9ef_2, q9ef_3, q9ef_4, q9ef_5, q9ef_6, q9ef_7, q9ef_8, q9ef_9, q9ef_10, q9ef_11, q9ef_12, q9ef_13, q9ef_14, q9ef_15]); simp only [ha61]; rfl) ?_
                           refine e_inv (fun a w' hs => ⟨y55.Regions.xs.length - (n + 1), by omega, w69.heap.size, (n + 1), rfl, by omega, by omega, upto_ hh (by have ek : regC c p k = y16 := (by dsimp only [regC]; rw [← hy8, ← hy16]); have en : regC c q n = y66 := (by dsimp only [regC]; rw [← hy55, ← hy66]); unfold frmB; rw [ek, en]; simp [h71] <;> omega), hs⟩)
                       · by_cases h75 : ((n : Int) : Int) < (k : Int)
                         · refine q_cS 1 17 [] [[o0, o0, oF, o0, o0, o0, oT, o0, o0, o0, (a1 3), o0, (a1 3), o0, (a1 5), o0, (a1 5)]] [BF (((q : Int) : Int) < (p : Int)), BT (((n : Int) : Int) < (k : Int)), Qb (z + 2), Qb (z + 2), Qb n57, Qb n57] [(1, i6 (p : Int)), (2, i6 (k : Int)), (q9ef_12 z), (q9ef_13 z), (10, i6 (q : Int)), (q9ef_6 b1 o2 p c), (q9ef_10 p), (94, i6 (q : Int)), (q9ef_5 b59 o60 y55), (q9ef_9 y55), (102, i6 (n : Int)), (115, .bool true), (117, i6 y16.Frame), (119, i6 y16.Pages), (121, i6 y66.Frame), (123, i6 y66.Pages)] rfl ⟨bf (by omega), bt (by omega), rfl, rfl, rfl, rfl, trivial⟩ ?_
                           refine l_call [] [] 73 #[i6 y16.Frame, i6 y16.Pages, i6 y66.Frame, i6 y66.Pages] (some 124) trivial ?_
                           intro w76 hw76
                           have hm78 := hb q n (by omega) (by rw [← hy55]; omega) (by omega); dsimp only [regC] at hm78; rw [← hy55, ← hy66] at hm78; unfold Bd at hm78
                           refine (meet_calls w76 y16.Frame y16.Pages y66.Frame y66.Pages (by omega) (by omega) (by omega) (by omega)).mono ?_
                           rintro e w77 ⟨rfl, hkw77⟩
                           have hnw77 : n57 + 1 ≤ w77.heap.size := size_of hw76 hkw77
                           refine ⟨_, _, rfl, hw76.keeps hkw77, ?_⟩
                           refine q_rS 2 0 [] [[o0]] [] [(1, i6 (p : Int)), (2, i6 (k : Int)), (q9ef_12 z), (q9ef_13 z), (10, i6 (q : Int)), (q9ef_6 b1 o2 p c), (q9ef_10 p), (94, i6 (q : Int)), (q9ef_5 b59 o60 y55), (q9ef_9 y55), (102, i6 (n : Int)), (125, .bool (meet y16.Frame y16.Pages y66.Frame y66.Pages))] rfl trivial ?_
                           by_cases h79 : (meet y16.Frame y16.Pages y66.Frame y66.Pages) = true
                           · refine q_cS 3 2 [3] [[o0, o0]] [Value.bool (meet y16.Frame y16.Pages y66.Frame y66.Pages) = Value.bool true] [(q9ef_12 z), (126, i6 (p : Int)), (127, i6 (k : Int))] rfl ⟨(congrArg Value.bool h79), trivial⟩ ?_
                             refine l_call [] [] 70 #[i6 (p : Int), i6 (k : Int)] (some 128) trivial ?_
                             intro w80 hw80
                             refine (both_calls w80 (p : Int) (k : Int)).mono ?_
                             rintro e w81 ⟨rfl, hkw81⟩
                             have hnw81 : w77.heap.size ≤ w81.heap.size := size_of hw80 hkw81
                             refine ⟨_, _, rfl, hw80.keeps hkw81, ?_⟩
                             refine q_r 3 0 [] [[o0, (an 3 2)]] [Qb (z + 1), Qb (z + 1), Qb (z + 1)] [(q9ef_12 z)] ⟨w, w81.heap.size, [(old0 w), (q9ef_4 z c), (bk (z + 1) #[i6 411, i6 (p : Int), i6 (k : Int)] 73), (q9ef_2 z y16), (q9ef_3 n51 y55), (bk n57 (TRegion.arr y66) 49)]⟩ rfl ⟨rfl, rfl, rfl, trivial⟩ ?_
                             refine e_ret [.at 2, .at 2, .at 2] [Qb (z + 1), Qb (z + 1), Qb (z + 1)] (.agg #[i6 411, i6 (p : Int), i6 (k : Int)]) ⟨rfl, rfl, rfl, trivial⟩ ?_
                             intro w82 hw82
                             refine ⟨congrArg Ending.returned (?_ : Value.agg #[i6 411, i6 (p : Int), i6 (k : Int)] = .agg (Tfound.arr (regQ c p k))), back0 hw82⟩
                             have hq : regQ c p k = _ := regQ_c hbb hf0 (range_any (k := q) (by omega) (range_any (k := n) (by dsimp only [parC]; rw [← hy55]; omega) (by have ek : regC c p k = y16 := (by dsimp only [regC]; rw [← hy8, ← hy16]); have en : regC c q n = y66 := (by dsimp only [regC]; rw [← hy55, ← hy66]); unfold frmB; rw [ek, en, h79]; simp; omega)))
                             exact (congrArg (fun t => Value.agg (Tfound.arr t)) hq).symm
                           · refine q_cS 6 0 [2] [[(ov (i6 ((n + 1 : Nat) : Int))), o0]] [Value.bool (meet y16.Frame y16.Pages y66.Frame y66.Pages) = Value.bool false, Wr (((n : Int) : Int) + 1) (((n + 1 : Nat) : Int))] [(1, i6 (p : Int)), (2, i6 (k : Int)), (q9ef_12 z), (q9ef_13 z), (10, i6 (q : Int)), (q9ef_6 b1 o2 p c), (q9ef_10 p), (94, i6 (q : Int)), (q9ef_5 b59 o60 y55), (q9ef_9 y55), (q9ef_11 n)] rfl ⟨(congrArg Value.bool (Bool.eq_false_iff.2 h79)), wrI, trivial⟩ ?_
                             refine e_pick [0, 1, 2, 3, 4] (q9ef_15 w z c y16 n51 y55) rfl rfl ?_
                             refine e_eqk [1, 2, 6, 7, 10, 92, 93, 94, 100, 101, 102] [(1, i6 (p : Int)), (2, i6 (k : Int)), (q9ef_12 z), (q9ef_13 z), (10, i6 (q : Int)), (q9ef_6 b1 o2 p c), (q9ef_10 p), (94, i6 (q : Int)), (q9ef_7 y55), (q9ef_9 y55), (q9ef_11 n)] (by (try dsimp only [q9ef_0, q9ef_1, q9ef_2, q9ef_3, q9ef_4, q9ef_5, q9ef_6, q9ef_7, q9ef_8, q9ef_9, q9ef_10, q9ef_11, q9ef_12, q9ef_13, q9ef_14, q9ef_15]); simp only [ha61]; rfl) ?_
                             refine e_inv (fun a w' hs => ⟨y55.Regions.xs.length - (n + 1), by omega, w77.heap.size, (n + 1), rfl, by omega, by omega, upto_ hh (by have ek : regC c p k = y16 := (by dsimp only [regC]; rw [← hy8, ← hy16]); have en : regC c q n = y66 := (by dsimp only [regC]; rw [← hy55, ← hy66]); unfold frmB; rw [ek, en]; simp [h79] <;> omega), hs⟩)
                         · refine q_cS 9 0 [0] [[o0, o0, oF, o0, o0, o0, oF, o0, o0, o0], [(ov (i6 ((n + 1 : Nat) : Int))), o0]] [BF (((q : Int) : Int) < (p : Int)), BF (((n : Int) : Int) < (k : Int)), Wr (((n : Int) : Int) + 1) (((n + 1 : Nat) : Int))] [(1, i6 (p : Int)), (2, i6 (k : Int)), (q9ef_12 z), (q9ef_13 z), (10, i6 (q : Int)), (q9ef_6 b1 o2 p c), (q9ef_10 p), (94, i6 (q : Int)), (q9ef_5 b59 o60 y55), (q9ef_9 y55), (q9ef_11 n)] rfl ⟨bf (by omega), bf (by omega), wrI, trivial⟩ ?_
                           refine e_pick [0, 1, 2, 3, 4] (q9ef_15 w z c y16 n51 y55) rfl rfl ?_
                           refine e_eqk [1, 2, 6, 7, 10, 92, 93, 94, 100, 101, 102] [(1, i6 (p : Int)), (2, i6 (k : Int)), (q9ef_12 z), (q9ef_13 z), (10, i6 (q : Int)), (q9ef_6 b1 o2 p c), (q9ef_10 p), (94, i6 (q : Int)), (q9ef_7 y55), (q9ef_9 y55), (q9ef_11 n)] (by (try dsimp only [q9ef_0, q9ef_1, q9ef_2, q9ef_3, q9ef_4, q9ef_5, q9ef_6, q9ef_7, q9ef_8, q9ef_9, q9ef_10, q9ef_11, q9ef_12, q9ef_13, q9ef_14, q9ef_15]); simp only [ha61]; rfl) ?_
                           refine e_inv (fun a w' hs => ⟨y55.Regions.xs.length - (n + 1), by omega, (n57 + 1), (n + 1), rfl, by omega, by omega, upto_ hh (by have ek : regC c p k = y16 := (by dsimp only [regC]; rw [← hy8, ← hy16]); have en : regC c q n = y66 := (by dsimp only [regC]; rw [← hy55, ← hy66]); unfold frmB; rw [ek, en]; simp <;> omega), hs⟩)
                     · refine q_cS 13 0 [0] [[oF], [(ov (i6 ((q + 1 : Nat) : Int))), o0]] [BF (((n : Int) : Int) < ((y55.Regions.xs.length : Nat) : Int)), Wr (((q : Int) : Int) + 1) (((q + 1 : Nat) : Int))] [(1, i6 (p : Int)), (2, i6 (k : Int)), (q9ef_12 z), (q9ef_13 z), (q9ef_6 b1 o2 p c), (q9ef_10 p), (94, i6 ((q + 1 : Nat) : Int))] rfl ⟨bf (by omega), wrI, trivial⟩ ?_
                       refine e_pick [0, 1, 2, 3] [(old0 w), (q9ef_4 z c), (q9ef_1 z), (q9ef_2 z y16)] rfl rfl ?_
                       refine e_keep [1, 2, 6, 7, 92, 93, 94] [(1, i6 (p : Int)), (2, i6 (k : Int)), (q9ef_12 z), (q9ef_13 z), (q9ef_6 b1 o2 p c), (q9ef_10 p), (94, i6 ((q + 1 : Nat) : Int))] ?_
                       refine e_inv (fun a w' hs => ⟨p + 1 - (q + 1), by omega, n57, (q + 1), rfl, by omega, by omega, upto_ hg (range_none (fun i hi => hh i (by dsimp only [parC] at hi; rw [← hy55] at hi; omega))), hs⟩)
                 · refine q_cS 15 0 [0] [[oF], [(oa [.via 0 (i6 0), .via 0 (i6 0), .via 0 (i6 0)]), (an 3 2)]] [BF (((q : Int) : Int) < ((p + 1 - 0 : Nat) : Int)), Old w 0 0 (i6 0), Old w 0 1 (i6 0), Old w 0 2 (i6 0), Qb (z + 1), Qb (z + 1), Qb (z + 1)] [(q9ef_12 z)] rfl ⟨bf (by omega), old_cell' (hL.2 0 _ rfl), old_cell' (hL.2 1 _ rfl), old_cell' (hL.2 2 _ rfl), rfl, rfl, rfl, trivial⟩ ?_
                   refine e_ret [.at 2, .at 2, .at 2] [Qb (z + 1), Qb (z + 1), Qb (z + 1)] (.agg #[i6 0, i6 0, i6 0]) ⟨rfl, rfl, rfl, trivial⟩ ?_
                   intro w83 hw83
                   refine ⟨congrArg Ending.returned (?_ : Value.agg #[i6 0, i6 0, i6 0] = .agg (Tfound.arr (regQ c p k))), back0 hw83⟩
                   have hq : regQ c p k = _ := regQ_d hbb hf0 (range_none (fun i hi => hg i (by omega)))
                   exact (congrArg (fun t => Value.agg (Tfound.arr t)) hq).symm
         · have hd84 := win_no h35
           refine q_rS 5 2 [1] [[(ov (.bool true)), o0], [o0, o0]] [Value.bool (!(win y16.Rights 1 7)) = Value.bool true] [(q9ef_12 z), (57, i6 (p : Int)), (58, i6 (k : Int))] rfl ⟨by simp [h35], trivial⟩ ?_
           refine l_call [] [] 70 #[i6 (p : Int), i6 (k : Int)] (some 59) trivial ?_
           intro w85 hw85
           refine (both_calls w85 (p : Int) (k : Int)).mono ?_
           rintro e w86 ⟨rfl, hkw86⟩
           have hnw86 : w34.heap.size ≤ w86.heap.size := size_of hw85 hkw86
           refine ⟨_, _, rfl, hw85.keeps hkw86, ?_⟩
           refine q_r 3 0 [] [[o0, (an 3 2)]] [Qb (z + 1), Qb (z + 1), Qb (z + 1)] [(q9ef_12 z)] ⟨w, w86.heap.size, [(old0 w), (q9ef_4 z c), (q9ef_0 z p k), (q9ef_2 z y16)]⟩ rfl ⟨rfl, rfl, rfl, trivial⟩ ?_
           refine e_ret [.at 2, .at 2, .at 2] [Qb (z + 1), Qb (z + 1), Qb (z + 1)] (.agg #[i6 409, i6 (p : Int), i6 (k : Int)]) ⟨rfl, rfl, rfl, trivial⟩ ?_
           intro w87 hw87
           refine ⟨congrArg Ending.returned (?_ : Value.agg #[i6 409, i6 (p : Int), i6 (k : Int)] = .agg (Tfound.arr (regQ c p k))), back0 hw87⟩
           have hq : regQ c p k = _ := regQ_a (by have ek : regC c p k = y16 := (by dsimp only [regC]; rw [← hy8, ← hy16]); rw [ek]; unfold regB win; simp; omega)
           exact (congrArg (fun t => Value.agg (Tfound.arr t)) hq).symm
   · have hd88 := win_no h23
     refine q_rS 5 2 [1] [[(ov (.bool true)), o0, o0, o0, o0, o0, o0, o0], [o0, o0]] [Value.bool (!(win y16.Pages 1 (256 - y16.Page))) = Value.bool true] [(q9ef_12 z), (57, i6 (p : Int)), (58, i6 (k : Int))] rfl ⟨by simp [h23], trivial⟩ ?_
     refine l_call [] [] 70 #[i6 (p : Int), i6 (k : Int)] (some 59) trivial ?_
     intro w89 hw89
     refine (both_calls w89 (p : Int) (k : Int)).mono ?_
     rintro e w90 ⟨rfl, hkw90⟩
     have hnw90 : w22.heap.size ≤ w90.heap.size := size_of hw89 hkw90
     refine ⟨_, _, rfl, hw89.keeps hkw90, ?_⟩
     refine q_r 3 0 [] [[o0, (an 3 2)]] [Qb (z + 1), Qb (z + 1), Qb (z + 1)] [(q9ef_12 z)] ⟨w, w90.heap.size, [(old0 w), (q9ef_4 z c), (q9ef_0 z p k), (q9ef_2 z y16)]⟩ rfl ⟨rfl, rfl, rfl, trivial⟩ ?_
     refine e_ret [.at 2, .at 2, .at 2] [Qb (z + 1), Qb (z + 1), Qb (z + 1)] (.agg #[i6 409, i6 (p : Int), i6 (k : Int)]) ⟨rfl, rfl, rfl, trivial⟩ ?_
     intro w91 hw91
     refine ⟨congrArg Ending.returned (?_ : Value.agg #[i6 409, i6 (p : Int), i6 (k : Int)] = .agg (Tfound.arr (regQ c p k))), back0 hw91⟩
     have hq : regQ c p k = _ := regQ_a (by have ek : regC c p k = y16 := (by dsimp only [regC]; rw [← hy8, ← hy16]); rw [ek]; unfold regB win; simp; omega)
     exact (congrArg (fun t => Value.agg (Tfound.arr t)) hq).symm
 · have hd92 := win_no h19
   refine q_rS 5 2 [1] [[(ov (.bool true)), o0, o0, o0, o0, o0, o0, o0, o0], [o0, o0]] [Value.bool (!(win y16.Page 0 255)) = Value.bool true] [(q9ef_12 z), (57, i6 (p : Int)), (58, i6 (k : Int))] rfl ⟨by simp [h19], trivial⟩ ?_
   refine l_call [] [] 70 #[i6 (p : Int), i6 (k : Int)] (some 59) trivial ?_
   intro w93 hw93
   refine (both_calls w93 (p : Int) (k : Int)).mono ?_
   rintro e w94 ⟨rfl, hkw94⟩
   have hnw94 : w18.heap.size ≤ w94.heap.size := size_of hw93 hkw94
   refine ⟨_, _, rfl, hw93.keeps hkw94, ?_⟩
   refine q_r 3 0 [] [[o0, (an 3 2)]] [Qb (z + 1), Qb (z + 1), Qb (z + 1)] [(q9ef_12 z)] ⟨w, w94.heap.size, [(old0 w), (q9ef_4 z c), (q9ef_0 z p k), (q9ef_2 z y16)]⟩ rfl ⟨rfl, rfl, rfl, trivial⟩ ?_
   refine e_ret [.at 2, .at 2, .at 2] [Qb (z + 1), Qb (z + 1), Qb (z + 1)] (.agg #[i6 409, i6 (p : Int), i6 (k : Int)]) ⟨rfl, rfl, rfl, trivial⟩ ?_
   intro w95 hw95
   refine ⟨congrArg Ending.returned (?_ : Value.agg #[i6 409, i6 (p : Int), i6 (k : Int)] = .agg (Tfound.arr (regQ c p k))), back0 hw95⟩
   have hq : regQ c p k = _ := regQ_a (by have ek : regC c p k = y16 := (by dsimp only [regC]; rw [← hy8, ← hy16]); rw [ek]; unfold regB win; simp; omega)
   exact (congrArg (fun t => Value.agg (Tfound.arr t)) hq).symm
end Go.Proofs.YtnjhekfgmbpmlaaDoor.Ad
namespace Go.Proofs.YtnjhekfgmbpmlaaDoor.Ad
open Go Go.Proofs.YtnjhekfgmbpmlaaDoor.Eng Go.Proofs.YtnjhekfgmbpmlaaDoor.Mem Go.Proofs.YtnjhekfgmbpmlaaDoor.Ly
set_option linter.unusedSimpArgs false
set_option linter.unusedVariables false
set_option maxRecDepth 100000
def thenF (o : Tfound) (f : Nat → Tfound) (n : Nat) : Tfound := fstW (o :: (List.range n).map f)
theorem fst_app {a b : List Tfound} : fstW (a ++ b) = if fstW a = fineF then fstW b else fstW a := by
  induction a with
  | nil => rw [List.nil_append, if_pos (show fstW [] = fineF from rfl)]
  | cons x r ih =>
    show (if x = fineF then fstW (r ++ b) else x) = if (if x = fineF then fstW r else x) = fineF then fstW b else (if x = fineF then fstW r else x)
    by_cases h : x = fineF
    · rw [if_pos h, if_pos h]; exact ih
    · rw [if_neg h, if_neg h, if_neg h]
theorem fst_one (x : Tfound) : fstW [x] = x := by
  unfold fstW
  by_cases h : x = fineF
  · rw [if_pos h, h]; rfl
  · rw [if_neg h]
theorem thenF_zero (o : Tfound) (f : Nat → Tfound) : thenF o f 0 = o := fst_one o
theorem thenF_succ {o : Tfound} {f : Nat → Tfound} {n : Nat} (h : thenF o f n = fineF) : thenF o f (n + 1) = f n := by
  unfold thenF at h ⊢
  rw [List.range_succ, List.map_append, ← List.cons_append, fst_app, if_pos h]
  exact fst_one _
theorem thenF_stop {o : Tfound} {f : Nat → Tfound} {k : Nat} (h : thenF o f k ≠ fineF) : ∀ {n : Nat}, k ≤ n → thenF o f n = thenF o f k
  | 0, hn => by rw [Nat.le_zero.1 hn]
  | n + 1, hn => by
    by_cases e : k = n + 1
    · rw [e]
    · have ih := thenF_stop h (n := n) (by omega)
      have h2 : thenF o f n ≠ fineF := by rw [ih]; exact h
      unfold thenF at h2 ih ⊢
      rw [List.range_succ, List.map_append, ← List.cons_append, fst_app, if_neg h2]
      exact ih
theorem thenF_all {o : Tfound} {f : Nat → Tfound} {n : Nat} (h : thenF o f n = fineF) : o = fineF ∧ ∀ i, i < n → f i = fineF := by
  constructor
  · by_cases e : o = fineF
    · exact e
    · have h1 := thenF_stop (f := f) (k := 0) (by rw [thenF_zero]; exact e) (Nat.zero_le n)
      rw [thenF_zero, h] at h1; exact h1.symm
  · intro i hi
    by_cases e1 : thenF o f i = fineF
    · by_cases e2 : f i = fineF
      · exact e2
      · have h3 := thenF_succ e1
        have h4 := thenF_stop (k := i + 1) (by rw [h3]; exact e2) (show i + 1 ≤ n by omega)
        rw [h, h3] at h4; exact h4.symm
    · have h4 := thenF_stop e1 (show i ≤ n by omega)
      rw [h] at h4; exact absurd h4.symm e1
def partA (c : TConfig) (p : Nat) : List Tfound := [unl (namedP c p) 405 ⟨(p : Int), -1⟩, unl (win (parC c p).Action 0 2 && win (parC c p).Restarts 0 15) 406 ⟨(p : Int), -1⟩, unl (win (parC c p).Inputs 0 16 && win (parC c p).Outputs 0 16) 407 ⟨(p : Int), -1⟩, unl (win ((parC c p).Regions.xs.length : Nat) 1 8) 408 ⟨(p : Int), -1⟩]
def partB (c : TConfig) (p : Nat) : Tfound := thenF (fstW (partA c p)) (regQ c p) (parC c p).Regions.xs.length
def partE (c : TConfig) (p : Nat) : List Tfound := [unl (win (parC c p).Entry 0 4095 && runsP (parC c p)) 412 ⟨(p : Int), -1⟩, unl (decide ((parC c p).Ports.xs.length ≤ 8)) 413 ⟨(p : Int), -1⟩]
def portQ (c : TConfig) (p k : Nat) : Tfound := unl (win (prtC c p k).Channel 0 ((c.Channels.xs.length : Nat) - 1)) 414 ⟨(p : Int), (k : Int)⟩
def partQ (c : TConfig) (p : Nat) : Tfound := if partB c p = fineF then thenF (fstW (partE c p)) (portQ c p) (parC c p).Ports.xs.length else partB c p
theorem unl_fine {b : Bool} {e : Int} {w : TWhere} (he : e ≠ 0) : unl b e w = fineF ↔ b = true := by
  unfold unl fineF
  cases b
  · simp [he]
  · simp
theorem partQ_fine {c : TConfig} {p : Nat} (h : partQ c p = fineF) : partB c p = fineF := by
  unfold partQ at h
  by_cases hb : partB c p = fineF
  · exact hb
  · rw [if_neg hb] at h; exact absurd h hb
theorem partB_bd {c : TConfig} {p : Nat} (hF : c.Frames ≤ 1024) (h : partB c p = fineF) : ∀ n, n < (parC c p).Regions.xs.length → Bd (regC c p n) := fun n hn => regB_bd hF (regQ_fine ((thenF_all h).2 n hn))
theorem bd_all {c : TConfig} {p k : Nat} (hF : 1 ≤ c.Frames ∧ c.Frames ≤ 1024) (hpf : ∀ q, q < p → partQ c q = fineF) (hk : ∀ i, i < k → regQ c p i = fineF) : ∀ q n, q ≤ p → n < (gd c.Partitions.xs q).Regions.xs.length → (q < p ∨ n < k) → Bd (regC c q n) := fun q n hq hn h => by
  by_cases e : q < p
  · exact partB_bd hF.2 (partQ_fine (hpf q e)) n hn
  · have e2 : q = p := by omega
    subst e2
    exact regB_bd hF.2 (regQ_fine (hk n (by omega)))
abbrev q90v_0 (n35 : Nat) (c : TConfig) (p : Nat) (y8 : TPartition) : Ch := bk n35 #[i6 ((unl (namedP c p) 405 ⟨(p : Int), -1⟩).e), i6 ((unl (namedP c p) 405 ⟨(p : Int), -1⟩).where_.First), i6 ((unl (namedP c p) 405 ⟨(p : Int), -1⟩).where_.Second), i6 ((unl (win y8.Restarts 0 15) 406 ⟨(p : Int), -1⟩).e), i6 ((unl (win y8.Restarts 0 15) 406 ⟨(p : Int), -1⟩).where_.First), i6 ((unl (win y8.Restarts 0 15) 406 ⟨(p : Int), -1⟩).where_.Second), i6 ((unl (win y8.Outputs 0 16) 407 ⟨(p : Int), -1⟩).e), i6 ((unl (win y8.Outputs 0 16) 407 ⟨(p : Int), -1⟩).where_.First), i6 ((unl (win y8.Outputs 0 16) 407 ⟨(p : Int), -1⟩).where_.Second), i6 ((unl (win ((y8.Regions.xs.length : Nat) : Int) 1 8) 408 ⟨(p : Int), -1⟩).e), i6 ((unl (win ((y8.Regions.xs.length : Nat) : Int) 1 8) 408 ⟨(p : Int), -1⟩).where_.First), i6 ((unl (win ((y8.Regions.xs.length : Nat) : Int) 1 8) 408 ⟨(p : Int), -1⟩).where_.Second)] 73
abbrev q90v_1 (b43 : Nat) (c : TConfig) (p : Nat) (y8 : TPartition) : Ch := bk b43 #[i6 ((unl (namedP c p) 405 ⟨(p : Int), -1⟩).e), i6 ((unl (namedP c p) 405 ⟨(p : Int), -1⟩).where_.First), i6 ((unl (namedP c p) 405 ⟨(p : Int), -1⟩).where_.Second), i6 ((unl (win y8.Restarts 0 15) 406 ⟨(p : Int), -1⟩).e), i6 ((unl (win y8.Restarts 0 15) 406 ⟨(p : Int), -1⟩).where_.First), i6 ((unl (win y8.Restarts 0 15) 406 ⟨(p : Int), -1⟩).where_.Second), i6 ((unl (win y8.Outputs 0 16) 407 ⟨(p : Int), -1⟩).e), i6 ((unl (win y8.Outputs 0 16) 407 ⟨(p : Int), -1⟩).where_.First), i6 ((unl (win y8.Outputs 0 16) 407 ⟨(p : Int), -1⟩).where_.Second), i6 ((unl (win ((y8.Regions.xs.length : Nat) : Int) 1 8) 408 ⟨(p : Int), -1⟩).e), i6 ((unl (win ((y8.Regions.xs.length : Nat) : Int) 1 8) 408 ⟨(p : Int), -1⟩).where_.First), i6 ((unl (win ((y8.Regions.xs.length : Nat) : Int) 1 8) 408 ⟨(p : Int), -1⟩).where_.Second)] 73
abbrev q90v_2 (n32 : Nat) (c : TConfig) (p : Nat) (y8 : TPartition) : Ch := bk n32 #[i6 ((unl (namedP c p) 405 ⟨(p : Int), -1⟩).e), i6 ((unl (namedP c p) 405 ⟨(p : Int), -1⟩).where_.First), i6 ((unl (namedP c p) 405 ⟨(p : Int), -1⟩).where_.Second), i6 ((unl (win y8.Restarts 0 15) 406 ⟨(p : Int), -1⟩).e), i6 ((unl (win y8.Restarts 0 15) 406 ⟨(p : Int), -1⟩).where_.First), i6 ((unl (win y8.Restarts 0 15) 406 ⟨(p : Int), -1⟩).where_.Second), i6 ((unl (win y8.Outputs 0 16) 407 ⟨(p : Int), -1⟩).e), i6 ((unl (win y8.Outputs 0 16) 407 ⟨(p : Int), -1⟩).where_.First), i6 ((unl (win y8.Outputs 0 16) 407 ⟨(p : Int), -1⟩).where_.Second), i6 ((unl (win ((y8.Regions.xs.length : Nat) : Int) 1 8) 408 ⟨(p : Int), -1⟩).e), i6 ((unl (win ((y8.Regions.xs.length : Nat) : Int) 1 8) 408 ⟨(p : Int), -1⟩).where_.First), i6 ((unl (win ((y8.Regions.xs.length : Nat) : Int) 1 8) 408 ⟨(p : Int), -1⟩).where_.Second)] 73
abbrev q90v_3 (n78 : Nat) (c : TConfig) (p : Nat) (y8 : TPartition) : Ch := bk n78 #[i6 ((unl (namedP c p) 405 ⟨(p : Int), -1⟩).e), i6 ((unl (namedP c p) 405 ⟨(p : Int), -1⟩).where_.First), i6 ((unl (namedP c p) 405 ⟨(p : Int), -1⟩).where_.Second), i6 ((unl (win y8.Restarts 0 15) 406 ⟨(p : Int), -1⟩).e), i6 ((unl (win y8.Restarts 0 15) 406 ⟨(p : Int), -1⟩).where_.First), i6 ((unl (win y8.Restarts 0 15) 406 ⟨(p : Int), -1⟩).where_.Second), i6 ((unl false 407 ⟨(p : Int), -1⟩).e), i6 ((unl false 407 ⟨(p : Int), -1⟩).where_.First), i6 ((unl false 407 ⟨(p : Int), -1⟩).where_.Second), i6 ((unl (win ((y8.Regions.xs.length : Nat) : Int) 1 8) 408 ⟨(p : Int), -1⟩).e), i6 ((unl (win ((y8.Regions.xs.length : Nat) : Int) 1 8) 408 ⟨(p : Int), -1⟩).where_.First), i6 ((unl (win ((y8.Regions.xs.length : Nat) : Int) 1 8) 408 ⟨(p : Int), -1⟩).where_.Second)] 73
abbrev q90v_4 (b86 : Nat) (c : TConfig) (p : Nat) (y8 : TPartition) : Ch := bk b86 #[i6 ((unl (namedP c p) 405 ⟨(p : Int), -1⟩).e), i6 ((unl (namedP c p) 405 ⟨(p : Int), -1⟩).where_.First), i6 ((unl (namedP c p) 405 ⟨(p : Int), -1⟩).where_.Second), i6 ((unl (win y8.Restarts 0 15) 406 ⟨(p : Int), -1⟩).e), i6 ((unl (win y8.Restarts 0 15) 406 ⟨(p : Int), -1⟩).where_.First), i6 ((unl (win y8.Restarts 0 15) 406 ⟨(p : Int), -1⟩).where_.Second), i6 ((unl false 407 ⟨(p : Int), -1⟩).e), i6 ((unl false 407 ⟨(p : Int), -1⟩).where_.First), i6 ((unl false 407 ⟨(p : Int), -1⟩).where_.Second), i6 ((unl (win ((y8.Regions.xs.length : Nat) : Int) 1 8) 408 ⟨(p : Int), -1⟩).e), i6 ((unl (win ((y8.Regions.xs.length : Nat) : Int) 1 8) 408 ⟨(p : Int), -1⟩).where_.First), i6 ((unl (win ((y8.Regions.xs.length : Nat) : Int) 1 8) 408 ⟨(p : Int), -1⟩).where_.Second)] 73
abbrev q90v_5 (n75 : Nat) (c : TConfig) (p : Nat) (y8 : TPartition) : Ch := bk n75 #[i6 ((unl (namedP c p) 405 ⟨(p : Int), -1⟩).e), i6 ((unl (namedP c p) 405 ⟨(p : Int), -1⟩).where_.First), i6 ((unl (namedP c p) 405 ⟨(p : Int), -1⟩).where_.Second), i6 ((unl (win y8.Restarts 0 15) 406 ⟨(p : Int), -1⟩).e), i6 ((unl (win y8.Restarts 0 15) 406 ⟨(p : Int), -1⟩).where_.First), i6 ((unl (win y8.Restarts 0 15) 406 ⟨(p : Int), -1⟩).where_.Second), i6 ((unl false 407 ⟨(p : Int), -1⟩).e), i6 ((unl false 407 ⟨(p : Int), -1⟩).where_.First), i6 ((unl false 407 ⟨(p : Int), -1⟩).where_.Second), i6 ((unl (win ((y8.Regions.xs.length : Nat) : Int) 1 8) 408 ⟨(p : Int), -1⟩).e), i6 ((unl (win ((y8.Regions.xs.length : Nat) : Int) 1 8) 408 ⟨(p : Int), -1⟩).where_.First), i6 ((unl (win ((y8.Regions.xs.length : Nat) : Int) 1 8) 408 ⟨(p : Int), -1⟩).where_.Second)] 73
abbrev q90v_6 (n123 : Nat) (c : TConfig) (p : Nat) (y8 : TPartition) : Ch := bk n123 #[i6 ((unl (namedP c p) 405 ⟨(p : Int), -1⟩).e), i6 ((unl (namedP c p) 405 ⟨(p : Int), -1⟩).where_.First), i6 ((unl (namedP c p) 405 ⟨(p : Int), -1⟩).where_.Second), i6 ((unl false 406 ⟨(p : Int), -1⟩).e), i6 ((unl false 406 ⟨(p : Int), -1⟩).where_.First), i6 ((unl false 406 ⟨(p : Int), -1⟩).where_.Second), i6 ((unl (win y8.Outputs 0 16) 407 ⟨(p : Int), -1⟩).e), i6 ((unl (win y8.Outputs 0 16) 407 ⟨(p : Int), -1⟩).where_.First), i6 ((unl (win y8.Outputs 0 16) 407 ⟨(p : Int), -1⟩).where_.Second), i6 ((unl (win ((y8.Regions.xs.length : Nat) : Int) 1 8) 408 ⟨(p : Int), -1⟩).e), i6 ((unl (win ((y8.Regions.xs.length : Nat) : Int) 1 8) 408 ⟨(p : Int), -1⟩).where_.First), i6 ((unl (win ((y8.Regions.xs.length : Nat) : Int) 1 8) 408 ⟨(p : Int), -1⟩).where_.Second)] 73
abbrev q90v_7 (b131 : Nat) (c : TConfig) (p : Nat) (y8 : TPartition) : Ch := bk b131 #[i6 ((unl (namedP c p) 405 ⟨(p : Int), -1⟩).e), i6 ((unl (namedP c p) 405 ⟨(p : Int), -1⟩).where_.First), i6 ((unl (namedP c p) 405 ⟨(p : Int), -1⟩).where_.Second), i6 ((unl false 406 ⟨(p : Int), -1⟩).e), i6 ((unl false 406 ⟨(p : Int), -1⟩).where_.First), i6 ((unl false 406 ⟨(p : Int), -1⟩).where_.Second), i6 ((unl (win y8.Outputs 0 16) 407 ⟨(p : Int), -1⟩).e), i6 ((unl (win y8.Outputs 0 16) 407 ⟨(p : Int), -1⟩).where_.First), i6 ((unl (win y8.Outputs 0 16) 407 ⟨(p : Int), -1⟩).where_.Second), i6 ((unl (win ((y8.Regions.xs.length : Nat) : Int) 1 8) 408 ⟨(p : Int), -1⟩).e), i6 ((unl (win ((y8.Regions.xs.length : Nat) : Int) 1 8) 408 ⟨(p : Int), -1⟩).where_.First), i6 ((unl (win ((y8.Regions.xs.length : Nat) : Int) 1 8) 408 ⟨(p : Int), -1⟩).where_.Second)] 73
abbrev q90v_8 (n120 : Nat) (c : TConfig) (p : Nat) (y8 : TPartition) : Ch := bk n120 #[i6 ((unl (namedP c p) 405 ⟨(p : Int), -1⟩).e), i6 ((unl (namedP c p) 405 ⟨(p : Int), -1⟩).where_.First), i6 ((unl (namedP c p) 405 ⟨(p : Int), -1⟩).where_.Second), i6 ((unl false 406 ⟨(p : Int), -1⟩).e), i6 ((unl false 406 ⟨(p : Int), -1⟩).where_.First), i6 ((unl false 406 ⟨(p : Int), -1⟩).where_.Second), i6 ((unl (win y8.Outputs 0 16) 407 ⟨(p : Int), -1⟩).e), i6 ((unl (win y8.Outputs 0 16) 407 ⟨(p : Int), -1⟩).where_.First), i6 ((unl (win y8.Outputs 0 16) 407 ⟨(p : Int), -1⟩).where_.Second), i6 ((unl (win ((y8.Regions.xs.length : Nat) : Int) 1 8) 408 ⟨(p : Int), -1⟩).e), i6 ((unl (win ((y8.Regions.xs.length : Nat) : Int) 1 8) 408 ⟨(p : Int), -1⟩).where_.First), i6 ((unl (win ((y8.Regions.xs.length : Nat) : Int) 1 8) 408 ⟨(p : Int), -1⟩).where_.Second)] 73
abbrev q90v_9 (n165 : Nat) (c : TConfig) (p : Nat) (y8 : TPartition) : Ch := bk n165 #[i6 ((unl (namedP c p) 405 ⟨(p : Int), -1⟩).e), i6 ((unl (namedP c p) 405 ⟨(p : Int), -1⟩).where_.First), i6 ((unl (namedP c p) 405 ⟨(p : Int), -1⟩).where_.Second), i6 ((unl false 406 ⟨(p : Int), -1⟩).e), i6 ((unl false 406 ⟨(p : Int), -1⟩).where_.First), i6 ((unl false 406 ⟨(p : Int), -1⟩).where_.Second), i6 ((unl false 407 ⟨(p : Int), -1⟩).e), i6 ((unl false 407 ⟨(p : Int), -1⟩).where_.First), i6 ((unl false 407 ⟨(p : Int), -1⟩).where_.Second), i6 ((unl (win ((y8.Regions.xs.length : Nat) : Int) 1 8) 408 ⟨(p : Int), -1⟩).e), i6 ((unl (win ((y8.Regions.xs.length : Nat) : Int) 1 8) 408 ⟨(p : Int), -1⟩).where_.First), i6 ((unl (win ((y8.Regions.xs.length : Nat) : Int) 1 8) 408 ⟨(p : Int), -1⟩).where_.Second)] 73
abbrev q90v_10 (b173 : Nat) (c : TConfig) (p : Nat) (y8 : TPartition) : Ch := bk b173 #[i6 ((unl (namedP c p) 405 ⟨(p : Int), -1⟩).e), i6 ((unl (namedP c p) 405 ⟨(p : Int), -1⟩).where_.First), i6 ((unl (namedP c p) 405 ⟨(p : Int), -1⟩).where_.Second), i6 ((unl false 406 ⟨(p : Int), -1⟩).e), i6 ((unl false 406 ⟨(p : Int), -1⟩).where_.First), i6 ((unl false 406 ⟨(p : Int), -1⟩).where_.Second), i6 ((unl false 407 ⟨(p : Int), -1⟩).e), i6 ((unl false 407 ⟨(p : Int), -1⟩).where_.First), i6 ((unl false 407 ⟨(p : Int), -1⟩).where_.Second), i6 ((unl (win ((y8.Regions.xs.length : Nat) : Int) 1 8) 408 ⟨(p : Int), -1⟩).e), i6 ((unl (win ((y8.Regions.xs.length : Nat) : Int) 1 8) 408 ⟨(p : Int), -1⟩).where_.First), i6 ((unl (win ((y8.Regions.xs.length : Nat) : Int) 1 8) 408 ⟨(p : Int), -1⟩).where_.Second)] 73
abbrev q90v_11 (n162 : Nat) (c : TConfig) (p : Nat) (y8 : TPartition) : Ch := bk n162 #[i6 ((unl (namedP c p) 405 ⟨(p : Int), -1⟩).e), i6 ((unl (namedP c p) 405 ⟨(p : Int), -1⟩).where_.First), i6 ((unl (namedP c p) 405 ⟨(p : Int), -1⟩).where_.Second), i6 ((unl false 406 ⟨(p : Int), -1⟩).e), i6 ((unl false 406 ⟨(p : Int), -1⟩).where_.First), i6 ((unl false 406 ⟨(p : Int), -1⟩).where_.Second), i6 ((unl false 407 ⟨(p : Int), -1⟩).e), i6 ((unl false 407 ⟨(p : Int), -1⟩).where_.First), i6 ((unl false 407 ⟨(p : Int), -1⟩).where_.Second), i6 ((unl (win ((y8.Regions.xs.length : Nat) : Int) 1 8) 408 ⟨(p : Int), -1⟩).e), i6 ((unl (win ((y8.Regions.xs.length : Nat) : Int) 1 8) 408 ⟨(p : Int), -1⟩).where_.First), i6 ((unl (win ((y8.Regions.xs.length : Nat) : Int) 1 8) 408 ⟨(p : Int), -1⟩).where_.Second)] 73
abbrev q90v_12 (n208 : Nat) (y8 : TPartition) (p : Nat) : Ch := bk n208 #[i6 ((unl (runsP y8) 412 ⟨(p : Int), -1⟩).e), i6 ((unl (runsP y8) 412 ⟨(p : Int), -1⟩).where_.First), i6 ((unl (runsP y8) 412 ⟨(p : Int), -1⟩).where_.Second), i6 ((unl false 413 ⟨(p : Int), -1⟩).e), i6 ((unl false 413 ⟨(p : Int), -1⟩).where_.First), i6 ((unl false 413 ⟨(p : Int), -1⟩).where_.Second)] 73
abbrev q90v_13 (n219 : Nat) (y8 : TPartition) (p : Nat) : Ch := bk n219 #[i6 ((unl (runsP y8) 412 ⟨(p : Int), -1⟩).e), i6 ((unl (runsP y8) 412 ⟨(p : Int), -1⟩).where_.First), i6 ((unl (runsP y8) 412 ⟨(p : Int), -1⟩).where_.Second), i6 ((unl true 413 ⟨(p : Int), -1⟩).e), i6 ((unl true 413 ⟨(p : Int), -1⟩).where_.First), i6 ((unl true 413 ⟨(p : Int), -1⟩).where_.Second)] 73
abbrev q90v_14 (n231 : Nat) (p : Nat) : Ch := bk n231 #[i6 ((unl false 412 ⟨(p : Int), -1⟩).e), i6 ((unl false 412 ⟨(p : Int), -1⟩).where_.First), i6 ((unl false 412 ⟨(p : Int), -1⟩).where_.Second), i6 ((unl false 413 ⟨(p : Int), -1⟩).e), i6 ((unl false 413 ⟨(p : Int), -1⟩).where_.First), i6 ((unl false 413 ⟨(p : Int), -1⟩).where_.Second)] 73
abbrev q90v_15 (n241 : Nat) (p : Nat) : Ch := bk n241 #[i6 ((unl false 412 ⟨(p : Int), -1⟩).e), i6 ((unl false 412 ⟨(p : Int), -1⟩).where_.First), i6 ((unl false 412 ⟨(p : Int), -1⟩).where_.Second), i6 ((unl true 413 ⟨(p : Int), -1⟩).e), i6 ((unl true 413 ⟨(p : Int), -1⟩).where_.First), i6 ((unl true 413 ⟨(p : Int), -1⟩).where_.Second)] 73
abbrev q90v_16 (b36 : Nat) (c : TConfig) (p : Nat) (y8 : TPartition) : Ch := .blk b36 (.cells (Tfound.arr (fstW [(unl (namedP c p) 405 ⟨(p : Int), -1⟩), (unl (win y8.Restarts 0 15) 406 ⟨(p : Int), -1⟩), (unl (win y8.Outputs 0 16) 407 ⟨(p : Int), -1⟩), (unl (win ((y8.Regions.xs.length : Nat) : Int) 1 8) 408 ⟨(p : Int), -1⟩)])) 73 (0, 0)) true
abbrev q90v_17 (b42 : Nat) (c : TConfig) (p : Nat) (y8 : TPartition) : Ch := .blk b42 (.cells (Tfound.arr (fstW [(unl (namedP c p) 405 ⟨(p : Int), -1⟩), (unl (win y8.Restarts 0 15) 406 ⟨(p : Int), -1⟩), (unl (win y8.Outputs 0 16) 407 ⟨(p : Int), -1⟩), (unl (win ((y8.Regions.xs.length : Nat) : Int) 1 8) 408 ⟨(p : Int), -1⟩)])) 73 (0, 0)) true
abbrev q90v_18 (b17 : Nat) (c : TConfig) (p : Nat) (y8 : TPartition) : Ch := .blk b17 (.cells (Tfound.arr (fstW [(unl (namedP c p) 405 ⟨(p : Int), -1⟩), (unl (win y8.Restarts 0 15) 406 ⟨(p : Int), -1⟩), (unl (win y8.Outputs 0 16) 407 ⟨(p : Int), -1⟩), (unl (win ((y8.Regions.xs.length : Nat) : Int) 1 8) 408 ⟨(p : Int), -1⟩)])) 73 (0, 0)) true
abbrev q90v_19 (b79 : Nat) (c : TConfig) (p : Nat) (y8 : TPartition) : Ch := .blk b79 (.cells (Tfound.arr (fstW [(unl (namedP c p) 405 ⟨(p : Int), -1⟩), (unl (win y8.Restarts 0 15) 406 ⟨(p : Int), -1⟩), (unl false 407 ⟨(p : Int), -1⟩), (unl (win ((y8.Regions.xs.length : Nat) : Int) 1 8) 408 ⟨(p : Int), -1⟩)])) 73 (0, 0)) true
abbrev q90v_20 (b85 : Nat) (c : TConfig) (p : Nat) (y8 : TPartition) : Ch := .blk b85 (.cells (Tfound.arr (fstW [(unl (namedP c p) 405 ⟨(p : Int), -1⟩), (unl (win y8.Restarts 0 15) 406 ⟨(p : Int), -1⟩), (unl false 407 ⟨(p : Int), -1⟩), (unl (win ((y8.Regions.xs.length : Nat) : Int) 1 8) 408 ⟨(p : Int), -1⟩)])) 73 (0, 0)) true
abbrev q90v_21 (b61 : Nat) (c : TConfig) (p : Nat) (y8 : TPartition) : Ch := .blk b61 (.cells (Tfound.arr (fstW [(unl (namedP c p) 405 ⟨(p : Int), -1⟩), (unl (win y8.Restarts 0 15) 406 ⟨(p : Int), -1⟩), (unl false 407 ⟨(p : Int), -1⟩), (unl (win ((y8.Regions.xs.length : Nat) : Int) 1 8) 408 ⟨(p : Int), -1⟩)])) 73 (0, 0)) true
abbrev q90v_22 (b124 : Nat) (c : TConfig) (p : Nat) (y8 : TPartition) : Ch := .blk b124 (.cells (Tfound.arr (fstW [(unl (namedP c p) 405 ⟨(p : Int), -1⟩), (unl false 406 ⟨(p : Int), -1⟩), (unl (win y8.Outputs 0 16) 407 ⟨(p : Int), -1⟩), (unl (win ((y8.Regions.xs.length : Nat) : Int) 1 8) 408 ⟨(p : Int), -1⟩)])) 73 (0, 0)) true
abbrev q90v_23 (b130 : Nat) (c : TConfig) (p : Nat) (y8 : TPartition) : Ch := .blk b130 (.cells (Tfound.arr (fstW [(unl (namedP c p) 405 ⟨(p : Int), -1⟩), (unl false 406 ⟨(p : Int), -1⟩), (unl (win y8.Outputs 0 16) 407 ⟨(p : Int), -1⟩), (unl (win ((y8.Regions.xs.length : Nat) : Int) 1 8) 408 ⟨(p : Int), -1⟩)])) 73 (0, 0)) true
abbrev q90v_24 (b106 : Nat) (c : TConfig) (p : Nat) (y8 : TPartition) : Ch := .blk b106 (.cells (Tfound.arr (fstW [(unl (namedP c p) 405 ⟨(p : Int), -1⟩), (unl false 406 ⟨(p : Int), -1⟩), (unl (win y8.Outputs 0 16) 407 ⟨(p : Int), -1⟩), (unl (win ((y8.Regions.xs.length : Nat) : Int) 1 8) 408 ⟨(p : Int), -1⟩)])) 73 (0, 0)) true
abbrev q90v_25 (b166 : Nat) (c : TConfig) (p : Nat) (y8 : TPartition) : Ch := .blk b166 (.cells (Tfound.arr (fstW [(unl (namedP c p) 405 ⟨(p : Int), -1⟩), (unl false 406 ⟨(p : Int), -1⟩), (unl false 407 ⟨(p : Int), -1⟩), (unl (win ((y8.Regions.xs.length : Nat) : Int) 1 8) 408 ⟨(p : Int), -1⟩)])) 73 (0, 0)) true
abbrev q90v_26 (b172 : Nat) (c : TConfig) (p : Nat) (y8 : TPartition) : Ch := .blk b172 (.cells (Tfound.arr (fstW [(unl (namedP c p) 405 ⟨(p : Int), -1⟩), (unl false 406 ⟨(p : Int), -1⟩), (unl false 407 ⟨(p : Int), -1⟩), (unl (win ((y8.Regions.xs.length : Nat) : Int) 1 8) 408 ⟨(p : Int), -1⟩)])) 73 (0, 0)) true
abbrev q90v_27 (b149 : Nat) (c : TConfig) (p : Nat) (y8 : TPartition) : Ch := .blk b149 (.cells (Tfound.arr (fstW [(unl (namedP c p) 405 ⟨(p : Int), -1⟩), (unl false 406 ⟨(p : Int), -1⟩), (unl false 407 ⟨(p : Int), -1⟩), (unl (win ((y8.Regions.xs.length : Nat) : Int) 1 8) 408 ⟨(p : Int), -1⟩)])) 73 (0, 0)) true
abbrev q90v_28 (b6 : Nat) (y8 : TPartition) (p : Nat) : Ch := .blk b6 (.cells (Tfound.arr (fstW [(unl (runsP y8) 412 ⟨(p : Int), -1⟩), (unl false 413 ⟨(p : Int), -1⟩)])) 73 (0, 0)) true
abbrev q90v_29 (b6 : Nat) (y8 : TPartition) (p : Nat) : Ch := .blk b6 (.cells (Tfound.arr (fstW [(unl (runsP y8) 412 ⟨(p : Int), -1⟩), (unl true 413 ⟨(p : Int), -1⟩)])) 73 (0, 0)) true
abbrev q90v_30 (b6 : Nat) (p : Nat) : Ch := .blk b6 (.cells (Tfound.arr (fstW [(unl false 412 ⟨(p : Int), -1⟩), (unl false 413 ⟨(p : Int), -1⟩)])) 73 (0, 0)) true
abbrev q90v_31 (b6 : Nat) (p : Nat) : Ch := .blk b6 (.cells (Tfound.arr (fstW [(unl false 412 ⟨(p : Int), -1⟩), (unl true 413 ⟨(p : Int), -1⟩)])) 73 (0, 0)) true
abbrev q90v_32 (b6 : Nat) (c : TConfig) (p : Nat) (k : Nat) : Ch := .blk b6 (.cells (Tfound.arr (thenF (fstW (partE c p)) (portQ c p) k)) 73 (0, 0)) true
abbrev q90v_33 (z : Nat) : Ch := bk (z + 1) #[i6 0, i6 0, i6 0] 73
abbrev q90v_34 (z : Nat) (y8 : TPartition) : Ch := bk (z + 2) (TPartition.arr y8) 41
abbrev q90v_35 (b6 : Nat) (c : TConfig) (p : Nat) : Ch := bk b6 (Tfound.arr (partB c p)) 73
abbrev q90v_36 (z : Nat) (c : TConfig) : Ch := bk z (TConfig.arr c) 26
abbrev q90v_37 (c : TConfig) (p : Nat) (y8 : TPartition) : Nat × Value := (50, .agg (Tfound.arr (fstW [(unl (namedP c p) 405 ⟨(p : Int), -1⟩), (unl (win y8.Restarts 0 15) 406 ⟨(p : Int), -1⟩), (unl (win y8.Outputs 0 16) 407 ⟨(p : Int), -1⟩), (unl (win ((y8.Regions.xs.length : Nat) : Int) 1 8) 408 ⟨(p : Int), -1⟩)])))
abbrev q90v_38 (c : TConfig) (p : Nat) (y8 : TPartition) : Nat × Value := (50, .agg (Tfound.arr (fstW [(unl (namedP c p) 405 ⟨(p : Int), -1⟩), (unl (win y8.Restarts 0 15) 406 ⟨(p : Int), -1⟩), (unl false 407 ⟨(p : Int), -1⟩), (unl (win ((y8.Regions.xs.length : Nat) : Int) 1 8) 408 ⟨(p : Int), -1⟩)])))
abbrev q90v_39 (c : TConfig) (p : Nat) (y8 : TPartition) : Nat × Value := (50, .agg (Tfound.arr (fstW [(unl (namedP c p) 405 ⟨(p : Int), -1⟩), (unl false 406 ⟨(p : Int), -1⟩), (unl (win y8.Outputs 0 16) 407 ⟨(p : Int), -1⟩), (unl (win ((y8.Regions.xs.length : Nat) : Int) 1 8) 408 ⟨(p : Int), -1⟩)])))
abbrev q90v_40 (c : TConfig) (p : Nat) (y8 : TPartition) : Nat × Value := (50, .agg (Tfound.arr (fstW [(unl (namedP c p) 405 ⟨(p : Int), -1⟩), (unl false 406 ⟨(p : Int), -1⟩), (unl false 407 ⟨(p : Int), -1⟩), (unl (win ((y8.Regions.xs.length : Nat) : Int) 1 8) 408 ⟨(p : Int), -1⟩)])))
abbrev q90v_41 (y8 : TPartition) (p : Nat) : Nat × Value := (48, .agg (Tfound.arr (unl (win ((y8.Regions.xs.length : Nat) : Int) 1 8) 408 ⟨(p : Int), -1⟩)))
abbrev q90v_42 (y8 : TPartition) (p : Nat) : Nat × Value := (30, .agg (Tfound.arr (unl (win y8.Restarts 0 15) 406 ⟨(p : Int), -1⟩)))
abbrev q90v_43 (y8 : TPartition) (p : Nat) : Nat × Value := (41, .agg (Tfound.arr (unl (win y8.Outputs 0 16) 407 ⟨(p : Int), -1⟩)))
abbrev q90v_44 (c : TConfig) (p : Nat) : Nat × Value := (19, .agg (Tfound.arr (unl (namedP c p) 405 ⟨(p : Int), -1⟩)))
abbrev q90v_45 (p : Nat) : Nat × Value := (41, .agg (Tfound.arr (unl false 407 ⟨(p : Int), -1⟩)))
abbrev q90v_46 (p : Nat) : Nat × Value := (30, .agg (Tfound.arr (unl false 406 ⟨(p : Int), -1⟩)))
abbrev q90v_47 (y8 : TPartition) : Nat × Value := (44, i6 ((y8.Regions.xs.length : Nat) : Int))
abbrev q90v_48 (z : Nat) : Nat × Value := (4, pt (z + 1))
abbrev q90v_49 (z : Nat) : Nat × Value := (5, pt (z + 2))
abbrev q90v_50 (b6 : Nat) : Nat × Value := (6, pt b6)
abbrev q90v_51 (w : World) (z : Nat) (c : TConfig) (y8 : TPartition) (b6 : Nat) (y259 : TPort) (p : Nat) (k : Nat) : List Ch := [(old0 w), (q90v_36 z c), (q90v_33 z), (q90v_34 z y8), (.blk b6 (.cells (Tfound.arr (unl (win y259.Channel 0 (((c.Channels.xs.length : Nat) : Int) - 1)) 414 ⟨(p : Int), (k : Int)⟩)) 73 (0, 0)) true)]
abbrev q90v_52 (w : World) (z : Nat) (c : TConfig) (y8 : TPartition) (b6 : Nat) (p : Nat) : List Ch := [(old0 w), (q90v_36 z c), (q90v_33 z), (q90v_34 z y8), (q90v_35 b6 c p)]
set_option maxHeartbeats 2000000 in
theorem partition_calls (w : World) (hL : LaidAt w) (c : TConfig) (hc : TConfig.ok Any w c) (p : Nat) (hp : p < c.Partitions.xs.length) (hFr : 1 ≤ c.Frames ∧ c.Frames ≤ 1024) (hpf : ∀ q, q < p → partQ c q = fineF) : Calls Tryd.prog 48 #[.agg (TConfig.arr c), .int .i64 (p : Int)] w fun e w' => e = .returned (.agg (Tfound.arr (partQ c p))) ∧ Keeps (fun _ => False) w w' := by
 obtain ⟨z, hz⟩ : ∃ z, z = w.heap.size := ⟨_, rfl⟩
 refine calls_G (args := [.agg (TConfig.arr c), i6 (p : Int)]) 118 ⟨w, z, [(old0 w)]⟩ Tryd.func48 rfl (by kernel_rfl) (by kernel_rfl) (sat_0 hz) ?_
 have hpl := hc.Partitions.1.len; have hpc := hc.Partitions.1.le; have hrl := (hc.Partitions.2 p hp).Regions.1.len; have hrc := (hc.Partitions.2 p hp).Regions.1.le; have hpp := (hc.Partitions.2 p hp).Ports.1.len; have hcl := hc.Channels.1.len
 refine g_keep [0, 1] [(0, .agg (TConfig.arr c)), (1, i6 (p : Int))] ?_
 refine q_c 5 0 [] [[o0, o0]] [] [(1, i6 (p : Int)), (2, pt z), (q90v_48 z)] ⟨w, z + 2, [(old0 w), (q90v_36 z c), (q90v_33 z)]⟩ rfl trivial ?_
 obtain ⟨b1, o2, ha3, hF5, hc4⟩ := (hc.Partitions).1.all (show 0 < c.Partitions.xs.length by omega)
 replace ha3 : c.Partitions.a = some ⟨b1, o2, none⟩ := ha3
 have hc6 := hc4 p (show p < c.Partitions.xs.length by omega)
 have he7 := (hc.Partitions).2 p (show p < c.Partitions.xs.length by omega)
 obtain ⟨y8, hy8⟩ : ∃ y_, y_ = gd c.Partitions.xs p := ⟨_, rfl⟩
 rw [← hy8] at he7 hc6
 (try rw [← hy8] at hrl hrc hpp)
 refine q_c 3 0 [] [[o0, ⟨.auto [.at 1], some (.slice (some ⟨b1, o2, none⟩) c.Partitions.xs.length c.Partitions.cap)⟩, o0, (oi p), (ol 0 (TPartition.arr y8)), o0, (an 8 3)]] [Qb z, Value.slice c.Partitions.a c.Partitions.xs.length c.Partitions.cap = Value.slice (some ⟨b1, o2, none⟩) c.Partitions.xs.length c.Partitions.cap, ((p : Int) : Int) = ((p : Nat) : Int), p < c.Partitions.xs.length, (none : Option Nat) = none, OldR w b1 (o2 + p * 8) (TPartition.arr y8), Qb (z + 2), Qb (z + 2), Qb (z + 2), Qb (z + 2), Qb (z + 2), Qb (z + 2), Qb (z + 2), Qb (z + 2)] [(1, i6 (p : Int)), (2, pt z), (q90v_48 z), (q90v_49 z)] ⟨w, z + 3, [(old0 w), (q90v_36 z c), (q90v_33 z), (q90v_34 z y8)]⟩ rfl ⟨rfl, congrArg (fun a => Value.slice a _ _) ha3, rfl, (by omega), rfl, old_row hc6, rfl, rfl, rfl, rfl, rfl, rfl, rfl, rfl, trivial⟩ ?_
 refine g_cut (fun a w' => ∃ (n9 : Nat) (b6 : Nat), z + 3 ≤ n9 ∧ St 118 [(1, i6 (p : Int)), (2, pt z), (q90v_48 z), (q90v_49 z), (q90v_50 b6)] [] ⟨w, n9, [(old0 w), (q90v_36 z c), (q90v_33 z), (q90v_34 z y8), (.blk b6 (.cells (Tfound.arr (fstW (partA c p))) 73 (0, 0)) true)]⟩ a w') ?_ ?_
 · by_cases h11 : (win y8.Action 0 2) = true
   · have hd12 := win_yes h11
     by_cases h13 : (win y8.Inputs 0 16) = true
     · have hd14 := win_yes h13
       refine g_draw 38 [0, 1, 2, 3] [(old0 w), (q90v_36 z c), (q90v_33 z), (q90v_34 z y8)] rfl rfl ?_
       refine w_take [(0, (an 7 1)), (1, o0), (3, o0), (6, o0), (7, (a1 3)), (14, o0), (17, o0), (18, (a1 3)), (25, o0), (28, o0), (29, (a1 3)), (30, o0), (32, o0)] [1, 2, 4, 5, 14, 15, 17, 21, 28, 32, 39, 44, 46] [Qb z, Qb z, Qb z, Qb z, Qb z, Qb z, Qb z, Qb (z + 2), Qb (z + 2), Qb (z + 2)] [true, true, false, true, false, false, true, true, false, false, false, false, false, false, true, false, false, true, true, false, false, false, false, false, false, true, false, false, true, true, true, false, true, false, false, false, false, false, false] [(1, i6 (p : Int)), (2, pt z), (q90v_48 z), (q90v_49 z), (14, .agg (TConfig.arr c)), (15, i6 (p : Int)), (17, i6 (p : Int)), (21, i6 y8.Action), (28, i6 (p : Int)), (32, i6 y8.Inputs), (39, i6 (p : Int)), (q90v_47 y8), (46, i6 (p : Int))] rfl (by as_aux_lemma => kernel_rfl) (by as_aux_lemma => kernel_rfl) ⟨rfl, rfl, rfl, rfl, rfl, rfl, rfl, rfl, rfl, rfl, trivial⟩ ?_
       refine w_join (fun x : {p : Nat × Nat × Nat // z + 3 ≤ p.1 ∧ z + 3 ≤ p.2.1 ∧ z + 3 ≤ p.2.2} => ([(1, i6 (p : Int)), (2, pt z), (q90v_48 z), (q90v_49 z), (6, pt x.1.2.2)], ⟨w, x.1.1, [(old0 w), (q90v_36 z c), (q90v_33 z), (q90v_34 z y8), (.blk x.1.2.1 (.cells #[i6 ((unl (namedP c p) 405 ⟨(p : Int), -1⟩).e), i6 ((unl (namedP c p) 405 ⟨(p : Int), -1⟩).where_.First), i6 ((unl (namedP c p) 405 ⟨(p : Int), -1⟩).where_.Second), i6 ((unl (win y8.Restarts 0 15) 406 ⟨(p : Int), -1⟩).e), i6 ((unl (win y8.Restarts 0 15) 406 ⟨(p : Int), -1⟩).where_.First), i6 ((unl (win y8.Restarts 0 15) 406 ⟨(p : Int), -1⟩).where_.Second), i6 ((unl (win y8.Outputs 0 16) 407 ⟨(p : Int), -1⟩).e), i6 ((unl (win y8.Outputs 0 16) 407 ⟨(p : Int), -1⟩).where_.First), i6 ((unl (win y8.Outputs 0 16) 407 ⟨(p : Int), -1⟩).where_.Second), i6 ((unl (win ((y8.Regions.xs.length : Nat) : Int) 1 8) 408 ⟨(p : Int), -1⟩).e), i6 ((unl (win ((y8.Regions.xs.length : Nat) : Int) 1 8) 408 ⟨(p : Int), -1⟩).where_.First), i6 ((unl (win ((y8.Regions.xs.length : Nat) : Int) 1 8) 408 ⟨(p : Int), -1⟩).where_.Second)] 73 (0, 0)) true), (.blk x.1.2.2 (.cells (Tfound.arr (fstW [(unl (namedP c p) 405 ⟨(p : Int), -1⟩), (unl (win y8.Restarts 0 15) 406 ⟨(p : Int), -1⟩), (unl (win y8.Outputs 0 16) 407 ⟨(p : Int), -1⟩), (unl (win ((y8.Regions.xs.length : Nat) : Int) 1 8) 408 ⟨(p : Int), -1⟩)])) 73 (0, 0)) true)]⟩)) (fun hK => ?_) ?_
       · refine w_chainF 37 6 [.cl 2 (.bool (namedP c p)), .cl 4 (.agg #[i6 (p : Int), i6 (-1)]), .cl 5 (.agg (Tfound.arr (unl (namedP c p) 405 ⟨(p : Int), -1⟩))), .cl 8 (.bool (win y8.Action 0 2)), .tk 9 (ov (.bool true)), .tk 10 o0, .tk 11 (a1 3), .cl 12 (.bool (win y8.Restarts 0 15)), .tk 13 o0, .cl 15 (.agg #[i6 (p : Int), i6 (-1)]), .cl 16 (.agg (Tfound.arr (unl (win y8.Restarts 0 15) 406 ⟨(p : Int), -1⟩))), .cl 19 (.bool (win y8.Inputs 0 16)), .tk 20 (ov (.bool true)), .tk 21 o0, .tk 22 (a1 3), .cl 23 (.bool (win y8.Outputs 0 16)), .tk 24 o0, .cl 26 (.agg #[i6 (p : Int), i6 (-1)]), .cl 27 (.agg (Tfound.arr (unl (win y8.Outputs 0 16) 407 ⟨(p : Int), -1⟩))), .cl 31 (.bool (win ((y8.Regions.xs.length : Nat) : Int) 1 8)), .cl 33 (.agg #[i6 (p : Int), i6 (-1)]), .cl 34 (.agg (Tfound.arr (unl (win ((y8.Regions.xs.length : Nat) : Int) 1 8) 408 ⟨(p : Int), -1⟩)))] [1, 2, 4, 5, 19, 30, 41, 48] [(66, #[.agg (TConfig.arr c), i6 (p : Int)], .bool (namedP c p)), (67, #[i6 (p : Int)], .agg #[i6 (p : Int), i6 (-1)]), (41, #[.bool (namedP c p), i6 405, .agg #[i6 (p : Int), i6 (-1)]], .agg (Tfound.arr (unl (namedP c p) 405 ⟨(p : Int), -1⟩))), (42, #[i6 y8.Action, i6 0, i6 2], .bool (win y8.Action 0 2)), (42, #[i6 y8.Restarts, i6 0, i6 15], .bool (win y8.Restarts 0 15)), (67, #[i6 (p : Int)], .agg #[i6 (p : Int), i6 (-1)]), (41, #[.bool (win y8.Restarts 0 15), i6 406, .agg #[i6 (p : Int), i6 (-1)]], .agg (Tfound.arr (unl (win y8.Restarts 0 15) 406 ⟨(p : Int), -1⟩))), (42, #[i6 y8.Inputs, i6 0, i6 16], .bool (win y8.Inputs 0 16)), (42, #[i6 y8.Outputs, i6 0, i6 16], .bool (win y8.Outputs 0 16)), (67, #[i6 (p : Int)], .agg #[i6 (p : Int), i6 (-1)]), (41, #[.bool (win y8.Outputs 0 16), i6 407, .agg #[i6 (p : Int), i6 (-1)]], .agg (Tfound.arr (unl (win y8.Outputs 0 16) 407 ⟨(p : Int), -1⟩))), (42, #[i6 ((y8.Regions.xs.length : Nat) : Int), i6 1, i6 8], .bool (win ((y8.Regions.xs.length : Nat) : Int) 1 8)), (67, #[i6 (p : Int)], .agg #[i6 (p : Int), i6 (-1)]), (41, #[.bool (win ((y8.Regions.xs.length : Nat) : Int) 1 8), i6 408, .agg #[i6 (p : Int), i6 (-1)]], .agg (Tfound.arr (unl (win ((y8.Regions.xs.length : Nat) : Int) 1 8) 408 ⟨(p : Int), -1⟩)))] [true, true, true, true, true, true, true, true, true, true, true, true, true, true, true, true, true, true, true, true, true, true, true, true, true, true, true, true, true, true, true, true, true, true, true, false, false, false, false] [Value.bool (win y8.Action 0 2) = Value.bool true, Qb (z + 2), Value.bool (win y8.Inputs 0 16) = Value.bool true, Qb (z + 2)] [(1, i6 (p : Int)), (2, pt z), (q90v_48 z), (q90v_49 z), (q90v_44 c p), (q90v_42 y8 p), (q90v_43 y8 p), (q90v_41 y8 p)] (.cells #[i6 0, i6 0, i6 0] 73 (0, 0)) [0, 1, 2, 3] ⟨(congrArg Value.bool h11), rfl, (congrArg Value.bool h13), rfl, trivial⟩ ⟨fun w18 hw18 => named_calls w18 c (hc.ext (hw18.ext rfl) (fun _ h => h)) p hp, fun w19 hw19 => at_calls w19 (p : Int), fun w20 hw20 => unless_calls w20 (hL.ext (hw20.ext rfl)) (namedP c p) 405 (p : Int) (-1), fun w21 hw21 => within_calls w21 y8.Action 0 2, fun w22 hw22 => within_calls w22 y8.Restarts 0 15, fun w23 hw23 => at_calls w23 (p : Int), fun w24 hw24 => unless_calls w24 (hL.ext (hw24.ext rfl)) (win y8.Restarts 0 15) 406 (p : Int) (-1), fun w25 hw25 => within_calls w25 y8.Inputs 0 16, fun w26 hw26 => within_calls w26 y8.Outputs 0 16, fun w27 hw27 => at_calls w27 (p : Int), fun w28 hw28 => unless_calls w28 (hL.ext (hw28.ext rfl)) (win y8.Outputs 0 16) 407 (p : Int) (-1), fun w29 hw29 => within_calls w29 ((y8.Regions.xs.length : Nat) : Int) 1 8, fun w30 hw30 => at_calls w30 (p : Int), fun w31 hw31 => unless_calls w31 (hL.ext (hw31.ext rfl)) (win ((y8.Regions.xs.length : Nat) : Int) 1 8) 408 (p : Int) (-1), trivial⟩ ?_ (fun hv34 n32 hn33 => ?_)
         · rintro ⟨⟨n35, b36⟩, hb37⟩
           simp only at hb37
           refine w_one 35 (by as_aux_lemma => kernel_rfl) rfl ?_
           refine wo_eff o0 [6, 1, 2, 4, 5, 49] [] [(6, pt b36), (1, i6 (p : Int)), (2, pt z), (q90v_48 z), (q90v_49 z), (49, .slice (some ⟨n35, 0, none⟩) 4 4)] ⟨w, n35 + 1, [(old0 w), (q90v_36 z c), (q90v_33 z), (q90v_34 z y8), (bk b36 #[i6 0, i6 0, i6 0] 73), (q90v_0 n35 c p y8)]⟩ [0, 1, 2, 3] (by as_aux_lemma => kernel_rfl) rfl trivial (.inr rfl) ?_
           refine w_one 36 (by as_aux_lemma => kernel_rfl) rfl ?_
           refine wo_con 65 #[.slice (some ⟨n35, 0, none⟩) 4 4] (some 50) (.agg (Tfound.arr (fstW [(unl (namedP c p) 405 ⟨(p : Int), -1⟩), (unl (win y8.Restarts 0 15) 406 ⟨(p : Int), -1⟩), (unl (win y8.Outputs 0 16) 407 ⟨(p : Int), -1⟩), (unl (win ((y8.Regions.xs.length : Nat) : Int) 1 8) 408 ⟨(p : Int), -1⟩)]))) [6, 1, 2, 4, 5, 50] [(6, pt b36), (1, i6 (p : Int)), (2, pt z), (q90v_48 z), (q90v_49 z), (q90v_37 c p y8)] [0, 1, 2, 3] (by as_aux_lemma => kernel_rfl) rfl rfl rfl (fun w38 hw38 => first_calls w38 (hL.ext (hw38.ext rfl)) ⟨some ⟨n35, 0, none⟩, 4, [(unl (namedP c p) 405 ⟨(p : Int), -1⟩), (unl (win y8.Restarts 0 15) 406 ⟨(p : Int), -1⟩), (unl (win y8.Outputs 0 16) 407 ⟨(p : Int), -1⟩), (unl (win ((y8.Regions.xs.length : Nat) : Int) 1 8) 408 ⟨(p : Int), -1⟩)]⟩ (slok_blk hw38 (i := 5) [(unl (namedP c p) 405 ⟨(p : Int), -1⟩), (unl (win y8.Restarts 0 15) 406 ⟨(p : Int), -1⟩), (unl (win y8.Outputs 0 16) 407 ⟨(p : Int), -1⟩), (unl (win ((y8.Regions.xs.length : Nat) : Int) 1 8) 408 ⟨(p : Int), -1⟩)]) (show 4 ≤ 1000 by decide)) (fun n39 hn40 => ?_)
           replace hn40 : n35 + 1 ≤ n39 := hn40
           refine w_one 38 (by as_aux_lemma => kernel_rfl) rfl ?_
           refine wo_eff (an 3 4) [6, 1, 2, 4, 5] [Qb b36, Qb b36, Qb b36] [(6, pt b36), (1, i6 (p : Int)), (2, pt z), (q90v_48 z), (q90v_49 z)] ⟨w, n39, [(old0 w), (q90v_36 z c), (q90v_33 z), (q90v_34 z y8), (q90v_16 b36 c p y8), (q90v_0 n35 c p y8)]⟩ [] (by as_aux_lemma => kernel_rfl) rfl ⟨rfl, rfl, rfl, trivial⟩ (.inl rfl) ?_
           refine w_free 39 [0, 1, 2, 3, 4, 5] [(old0 w), (q90v_36 z c), (q90v_33 z), (q90v_34 z y8), (q90v_16 b36 c p y8), (q90v_0 n35 c p y8)] rfl rfl ?_
           refine w_done (by as_aux_lemma => kernel_rfl) ?_
           refine e_keep [1, 2, 4, 5, 6] [(1, i6 (p : Int)), (2, pt z), (q90v_48 z), (q90v_49 z), (6, pt b36)] ?_
           refine e_pick [0, 1, 2, 3, 5, 4] [(old0 w), (q90v_36 z c), (q90v_33 z), (q90v_34 z y8), (q90v_0 n35 c p y8), (q90v_16 b36 c p y8)] rfl rfl ?_
           exact hK ⟨(n39, n35, b36), by first | omega | (dsimp only; omega)⟩
         replace hn33 : z + 3 ≤ n32 := hn33
         refine w_via (fun x : {p : Nat × Nat × Nat // n32 ≤ p.1 ∧ n32 ≤ p.2.1 ∧ n32 ≤ p.2.2} => [(1, i6 (p : Int)), (2, pt z), (q90v_48 z), (q90v_49 z), (6, pt x.1.2.1), (q90v_37 c p y8)]) (fun x => ⟨w, x.1.1, [(old0 w), (q90v_36 z c), (q90v_33 z), (q90v_34 z y8), (.blk x.1.2.1 (.cells #[i6 0, i6 0, i6 0] 73 (0, 0)) true), (.blk x.1.2.2 (.cells #[i6 ((unl (namedP c p) 405 ⟨(p : Int), -1⟩).e), i6 ((unl (namedP c p) 405 ⟨(p : Int), -1⟩).where_.First), i6 ((unl (namedP c p) 405 ⟨(p : Int), -1⟩).where_.Second), i6 ((unl (win y8.Restarts 0 15) 406 ⟨(p : Int), -1⟩).e), i6 ((unl (win y8.Restarts 0 15) 406 ⟨(p : Int), -1⟩).where_.First), i6 ((unl (win y8.Restarts 0 15) 406 ⟨(p : Int), -1⟩).where_.Second), i6 ((unl (win y8.Outputs 0 16) 407 ⟨(p : Int), -1⟩).e), i6 ((unl (win y8.Outputs 0 16) 407 ⟨(p : Int), -1⟩).where_.First), i6 ((unl (win y8.Outputs 0 16) 407 ⟨(p : Int), -1⟩).where_.Second), i6 ((unl (win ((y8.Regions.xs.length : Nat) : Int) 1 8) 408 ⟨(p : Int), -1⟩).e), i6 ((unl (win ((y8.Regions.xs.length : Nat) : Int) 1 8) 408 ⟨(p : Int), -1⟩).where_.First), i6 ((unl (win ((y8.Regions.xs.length : Nat) : Int) 1 8) 408 ⟨(p : Int), -1⟩).where_.Second)] 73 (0, 0)) true)]⟩) 1 [true, true, true, true, true, true, true, true, true, true, true, true, true, true, true, true, true, true, true, true, true, true, true, true, true, true, true, true, true, true, true, true, true, true, true, true, true, true, false] ?_ (fun hv44 => ?_)
         · rintro ⟨⟨n41, b42, b43⟩, hb45⟩
           simp only at hb45
           show Wg _ _ [(1, i6 (p : Int)), (2, pt z), (q90v_48 z), (q90v_49 z), (6, pt b42), (q90v_37 c p y8)] _ ⟨w, n41, [(old0 w), (q90v_36 z c), (q90v_33 z), (q90v_34 z y8), (bk b42 #[i6 0, i6 0, i6 0] 73), (q90v_1 b43 c p y8)]⟩ _ _ _ _ _ _ _
           refine w_one 38 (by as_aux_lemma => kernel_rfl) rfl ?_
           refine wo_eff (an 3 4) [1, 2, 4, 5, 6] [Qb b42, Qb b42, Qb b42] [(1, i6 (p : Int)), (2, pt z), (q90v_48 z), (q90v_49 z), (6, pt b42)] ⟨w, n41, [(old0 w), (q90v_36 z c), (q90v_33 z), (q90v_34 z y8), (q90v_17 b42 c p y8), (q90v_1 b43 c p y8)]⟩ [] (by as_aux_lemma => kernel_rfl) rfl ⟨rfl, rfl, rfl, trivial⟩ (.inl rfl) ?_
           refine w_free 39 [0, 1, 2, 3, 4, 5] [(old0 w), (q90v_36 z c), (q90v_33 z), (q90v_34 z y8), (q90v_17 b42 c p y8), (q90v_1 b43 c p y8)] rfl rfl ?_
           refine w_done (by as_aux_lemma => kernel_rfl) ?_
           refine e_keep [1, 2, 4, 5, 6] [(1, i6 (p : Int)), (2, pt z), (q90v_48 z), (q90v_49 z), (6, pt b42)] ?_
           refine e_pick [0, 1, 2, 3, 5, 4] [(old0 w), (q90v_36 z c), (q90v_33 z), (q90v_34 z y8), (q90v_1 b43 c p y8), (q90v_17 b42 c p y8)] rfl rfl ?_
           exact hK ⟨(n41, b43, b42), by first | omega | (dsimp only; omega)⟩
         refine w_via (fun x : {p : Nat × Nat × Nat // n32 ≤ p.1 ∧ n32 ≤ p.2.1 ∧ n32 ≤ p.2.2} => [(1, i6 (p : Int)), (2, pt z), (q90v_48 z), (q90v_49 z), (6, pt x.1.2.1), (49, .slice (some ⟨x.1.2.2, 0, none⟩) 4 4)]) (fun x => ⟨w, x.1.1, [(old0 w), (q90v_36 z c), (q90v_33 z), (q90v_34 z y8), (.blk x.1.2.1 (.cells #[i6 0, i6 0, i6 0] 73 (0, 0)) true), (.blk x.1.2.2 (.cells #[i6 ((unl (namedP c p) 405 ⟨(p : Int), -1⟩).e), i6 ((unl (namedP c p) 405 ⟨(p : Int), -1⟩).where_.First), i6 ((unl (namedP c p) 405 ⟨(p : Int), -1⟩).where_.Second), i6 ((unl (win y8.Restarts 0 15) 406 ⟨(p : Int), -1⟩).e), i6 ((unl (win y8.Restarts 0 15) 406 ⟨(p : Int), -1⟩).where_.First), i6 ((unl (win y8.Restarts 0 15) 406 ⟨(p : Int), -1⟩).where_.Second), i6 ((unl (win y8.Outputs 0 16) 407 ⟨(p : Int), -1⟩).e), i6 ((unl (win y8.Outputs 0 16) 407 ⟨(p : Int), -1⟩).where_.First), i6 ((unl (win y8.Outputs 0 16) 407 ⟨(p : Int), -1⟩).where_.Second), i6 ((unl (win ((y8.Regions.xs.length : Nat) : Int) 1 8) 408 ⟨(p : Int), -1⟩).e), i6 ((unl (win ((y8.Regions.xs.length : Nat) : Int) 1 8) 408 ⟨(p : Int), -1⟩).where_.First), i6 ((unl (win ((y8.Regions.xs.length : Nat) : Int) 1 8) 408 ⟨(p : Int), -1⟩).where_.Second)] 73 (0, 0)) true)]⟩) 2 [true, true, true, true, true, true, true, true, true, true, true, true, true, true, true, true, true, true, true, true, true, true, true, true, true, true, true, true, true, true, true, true, true, true, true, true, false, true, false] ?_ (fun hv49 => ?_)
         · rintro ⟨⟨n46, b47, b48⟩, hb50⟩
           simp only at hb50
           show Wg _ _ [(1, i6 (p : Int)), (2, pt z), (q90v_48 z), (q90v_49 z), (6, pt b47), (49, .slice (some ⟨b48, 0, none⟩) 4 4)] _ ⟨w, n46, [(old0 w), (q90v_36 z c), (q90v_33 z), (q90v_34 z y8), (bk b47 #[i6 0, i6 0, i6 0] 73), (bk b48 #[i6 ((unl (namedP c p) 405 ⟨(p : Int), -1⟩).e), i6 ((unl (namedP c p) 405 ⟨(p : Int), -1⟩).where_.First), i6 ((unl (namedP c p) 405 ⟨(p : Int), -1⟩).where_.Second), i6 ((unl (win y8.Restarts 0 15) 406 ⟨(p : Int), -1⟩).e), i6 ((unl (win y8.Restarts 0 15) 406 ⟨(p : Int), -1⟩).where_.First), i6 ((unl (win y8.Restarts 0 15) 406 ⟨(p : Int), -1⟩).where_.Second), i6 ((unl (win y8.Outputs 0 16) 407 ⟨(p : Int), -1⟩).e), i6 ((unl (win y8.Outputs 0 16) 407 ⟨(p : Int), -1⟩).where_.First), i6 ((unl (win y8.Outputs 0 16) 407 ⟨(p : Int), -1⟩).where_.Second), i6 ((unl (win ((y8.Regions.xs.length : Nat) : Int) 1 8) 408 ⟨(p : Int), -1⟩).e), i6 ((unl (win ((y8.Regions.xs.length : Nat) : Int) 1 8) 408 ⟨(p : Int), -1⟩).where_.First), i6 ((unl (win ((y8.Regions.xs.length : Nat) : Int) 1 8) 408 ⟨(p : Int), -1⟩).where_.Second)] 73)]⟩ _ _ _ _ _ _ _
           refine w_one 36 (by as_aux_lemma => kernel_rfl) rfl ?_
           refine wo_con 65 #[.slice (some ⟨b48, 0, none⟩) 4 4] (some 50) (.agg (Tfound.arr (fstW [(unl (namedP c p) 405 ⟨(p : Int), -1⟩), (unl (win y8.Restarts 0 15) 406 ⟨(p : Int), -1⟩), (unl (win y8.Outputs 0 16) 407 ⟨(p : Int), -1⟩), (unl (win ((y8.Regions.xs.length : Nat) : Int) 1 8) 408 ⟨(p : Int), -1⟩)]))) [1, 2, 4, 5, 6, 50] [(1, i6 (p : Int)), (2, pt z), (q90v_48 z), (q90v_49 z), (6, pt b47), (q90v_37 c p y8)] [0, 1, 2, 3] (by as_aux_lemma => kernel_rfl) rfl rfl rfl (fun w51 hw51 => first_calls w51 (hL.ext (hw51.ext rfl)) ⟨some ⟨b48, 0, none⟩, 4, [(unl (namedP c p) 405 ⟨(p : Int), -1⟩), (unl (win y8.Restarts 0 15) 406 ⟨(p : Int), -1⟩), (unl (win y8.Outputs 0 16) 407 ⟨(p : Int), -1⟩), (unl (win ((y8.Regions.xs.length : Nat) : Int) 1 8) 408 ⟨(p : Int), -1⟩)]⟩ (slok_blk hw51 (i := 5) [(unl (namedP c p) 405 ⟨(p : Int), -1⟩), (unl (win y8.Restarts 0 15) 406 ⟨(p : Int), -1⟩), (unl (win y8.Outputs 0 16) 407 ⟨(p : Int), -1⟩), (unl (win ((y8.Regions.xs.length : Nat) : Int) 1 8) 408 ⟨(p : Int), -1⟩)]) (show 4 ≤ 1000 by decide)) (fun n52 hn53 => ?_)
           replace hn53 : n46 ≤ n52 := hn53
           refine w_keep [1, 2, 4, 5, 6, 50] [(1, i6 (p : Int)), (2, pt z), (q90v_48 z), (q90v_49 z), (6, pt b47), (q90v_37 c p y8)] ?_
           exact hv44 ⟨(n52, b47, b48), by first | omega | (dsimp only; omega)⟩
         refine w_all [35, 37] (by as_aux_lemma => kernel_rfl) rfl rfl ?_
         refine List.forall_mem_cons.2 ⟨?_, List.forall_mem_cons.2 ⟨?_, fun _ h => absurd h List.not_mem_nil⟩⟩
         · refine wo_eff o0 [1, 2, 4, 5, 49] [] [(1, i6 (p : Int)), (2, pt z), (q90v_48 z), (q90v_49 z), (49, .slice (some ⟨n32, 0, none⟩) 4 4)] ⟨w, n32 + 1, [(old0 w), (q90v_36 z c), (q90v_33 z), (q90v_34 z y8), (q90v_2 n32 c p y8)]⟩ [0, 1, 2, 3] (by as_aux_lemma => kernel_rfl) rfl trivial (.inr rfl) ?_
           refine w_all [36, 37] (by as_aux_lemma => kernel_rfl) rfl rfl ?_
           refine List.forall_mem_cons.2 ⟨?_, List.forall_mem_cons.2 ⟨?_, fun _ h => absurd h List.not_mem_nil⟩⟩
           · refine wo_con 65 #[.slice (some ⟨n32, 0, none⟩) 4 4] (some 50) (.agg (Tfound.arr (fstW [(unl (namedP c p) 405 ⟨(p : Int), -1⟩), (unl (win y8.Restarts 0 15) 406 ⟨(p : Int), -1⟩), (unl (win y8.Outputs 0 16) 407 ⟨(p : Int), -1⟩), (unl (win ((y8.Regions.xs.length : Nat) : Int) 1 8) 408 ⟨(p : Int), -1⟩)]))) [1, 2, 4, 5, 50] [(1, i6 (p : Int)), (2, pt z), (q90v_48 z), (q90v_49 z), (q90v_37 c p y8)] [0, 1, 2, 3] (by as_aux_lemma => kernel_rfl) rfl rfl rfl (fun w54 hw54 => first_calls w54 (hL.ext (hw54.ext rfl)) ⟨some ⟨n32, 0, none⟩, 4, [(unl (namedP c p) 405 ⟨(p : Int), -1⟩), (unl (win y8.Restarts 0 15) 406 ⟨(p : Int), -1⟩), (unl (win y8.Outputs 0 16) 407 ⟨(p : Int), -1⟩), (unl (win ((y8.Regions.xs.length : Nat) : Int) 1 8) 408 ⟨(p : Int), -1⟩)]⟩ (slok_blk hw54 (i := 4) [(unl (namedP c p) 405 ⟨(p : Int), -1⟩), (unl (win y8.Restarts 0 15) 406 ⟨(p : Int), -1⟩), (unl (win y8.Outputs 0 16) 407 ⟨(p : Int), -1⟩), (unl (win ((y8.Regions.xs.length : Nat) : Int) 1 8) 408 ⟨(p : Int), -1⟩)]) (show 4 ≤ 1000 by decide)) (fun n55 hn56 => ?_)
             replace hn56 : n32 + 1 ≤ n55 := hn56
             refine w_one 37 (by as_aux_lemma => kernel_rfl) rfl ?_
             refine wo_eff o0 [1, 2, 4, 5, 50, 6] [] [(1, i6 (p : Int)), (2, pt z), (q90v_48 z), (q90v_49 z), (q90v_37 c p y8), (6, pt n55)] ⟨w, n55 + 1, [(old0 w), (q90v_36 z c), (q90v_33 z), (q90v_34 z y8), (q90v_2 n32 c p y8), (bk n55 #[i6 0, i6 0, i6 0] 73)]⟩ [0, 1, 2, 3] (by as_aux_lemma => kernel_rfl) rfl trivial (.inr rfl) ?_
             refine w_pick [0, 1, 2, 3, 5, 4] [(old0 w), (q90v_36 z c), (q90v_33 z), (q90v_34 z y8), (bk n55 #[i6 0, i6 0, i6 0] 73), (q90v_2 n32 c p y8)] rfl rfl ?_
             refine w_keep [1, 2, 4, 5, 6, 50] [(1, i6 (p : Int)), (2, pt z), (q90v_48 z), (q90v_49 z), (6, pt n55), (q90v_37 c p y8)] ?_
             exact hv44 ⟨(n55 + 1, n55, n32), by first | omega | (dsimp only; omega)⟩
           · refine wo_eff o0 [1, 2, 4, 5, 49, 6] [] [(1, i6 (p : Int)), (2, pt z), (q90v_48 z), (q90v_49 z), (49, .slice (some ⟨n32, 0, none⟩) 4 4), (6, pt (n32 + 1))] ⟨w, n32 + 2, [(old0 w), (q90v_36 z c), (q90v_33 z), (q90v_34 z y8), (q90v_2 n32 c p y8), (bk (n32 + 1) #[i6 0, i6 0, i6 0] 73)]⟩ [0, 1, 2, 3] (by as_aux_lemma => kernel_rfl) rfl trivial (.inr rfl) ?_
             refine w_pick [0, 1, 2, 3, 5, 4] [(old0 w), (q90v_36 z c), (q90v_33 z), (q90v_34 z y8), (bk (n32 + 1) #[i6 0, i6 0, i6 0] 73), (q90v_2 n32 c p y8)] rfl rfl ?_
             refine w_keep [1, 2, 4, 5, 6, 49] [(1, i6 (p : Int)), (2, pt z), (q90v_48 z), (q90v_49 z), (6, pt (n32 + 1)), (49, .slice (some ⟨n32, 0, none⟩) 4 4)] ?_
             exact hv49 ⟨(n32 + 2, n32 + 1, n32), by first | omega | (dsimp only; omega)⟩
         · refine wo_eff o0 [1, 2, 4, 5, 19, 30, 41, 48, 6] [] [(1, i6 (p : Int)), (2, pt z), (q90v_48 z), (q90v_49 z), (q90v_44 c p), (q90v_42 y8 p), (q90v_43 y8 p), (q90v_41 y8 p), (6, pt n32)] ⟨w, n32 + 1, [(old0 w), (q90v_36 z c), (q90v_33 z), (q90v_34 z y8), (bk n32 #[i6 0, i6 0, i6 0] 73)]⟩ [0, 1, 2, 3] (by as_aux_lemma => kernel_rfl) rfl trivial (.inr rfl) ?_
           refine w_keep [6, 1, 2, 4, 5, 19, 30, 41, 48] [(6, pt n32), (1, i6 (p : Int)), (2, pt z), (q90v_48 z), (q90v_49 z), (q90v_44 c p), (q90v_42 y8 p), (q90v_43 y8 p), (q90v_41 y8 p)] ?_
           exact hv34 ⟨(n32 + 1, n32), by first | omega | (dsimp only; omega)⟩
       rintro ⟨⟨n15, b16, b17⟩, hJ57⟩
       simp only at hJ57
       show E _ _ [(1, i6 (p : Int)), (2, pt z), (q90v_48 z), (q90v_49 z), (6, pt b17)] _ ⟨w, n15, [(old0 w), (q90v_36 z c), (q90v_33 z), (q90v_34 z y8), (bk b16 #[i6 ((unl (namedP c p) 405 ⟨(p : Int), -1⟩).e), i6 ((unl (namedP c p) 405 ⟨(p : Int), -1⟩).where_.First), i6 ((unl (namedP c p) 405 ⟨(p : Int), -1⟩).where_.Second), i6 ((unl (win y8.Restarts 0 15) 406 ⟨(p : Int), -1⟩).e), i6 ((unl (win y8.Restarts 0 15) 406 ⟨(p : Int), -1⟩).where_.First), i6 ((unl (win y8.Restarts 0 15) 406 ⟨(p : Int), -1⟩).where_.Second), i6 ((unl (win y8.Outputs 0 16) 407 ⟨(p : Int), -1⟩).e), i6 ((unl (win y8.Outputs 0 16) 407 ⟨(p : Int), -1⟩).where_.First), i6 ((unl (win y8.Outputs 0 16) 407 ⟨(p : Int), -1⟩).where_.Second), i6 ((unl (win ((y8.Regions.xs.length : Nat) : Int) 1 8) 408 ⟨(p : Int), -1⟩).e), i6 ((unl (win ((y8.Regions.xs.length : Nat) : Int) 1 8) 408 ⟨(p : Int), -1⟩).where_.First), i6 ((unl (win ((y8.Regions.xs.length : Nat) : Int) 1 8) 408 ⟨(p : Int), -1⟩).where_.Second)] 73), (q90v_18 b17 c p y8)]⟩ _ _ _
       refine e_pick [0, 1, 2, 3, 5] [(old0 w), (q90v_36 z c), (q90v_33 z), (q90v_34 z y8), (q90v_18 b17 c p y8)] rfl rfl ?_
       have eA : fstW (partA c p) = (fstW [(unl (namedP c p) 405 ⟨(p : Int), -1⟩), (unl (win y8.Restarts 0 15) 406 ⟨(p : Int), -1⟩), (unl (win y8.Outputs 0 16) 407 ⟨(p : Int), -1⟩), (unl (win ((y8.Regions.xs.length : Nat) : Int) 1 8) 408 ⟨(p : Int), -1⟩)]) := by have e0 : parC c p = y8 := hy8.symm; unfold partA; simp only [e0]; simp [h11, h13]
       refine e_keep [1, 2, 4, 5, 6] [(1, i6 (p : Int)), (2, pt z), (q90v_48 z), (q90v_49 z), (6, pt b17)] ?_
       refine e_inv (fun a w' hs => ⟨n15, b17, by omega, (by (try dsimp only [q90v_0, q90v_1, q90v_2, q90v_3, q90v_4, q90v_5, q90v_6, q90v_7, q90v_8, q90v_9, q90v_10, q90v_11, q90v_12, q90v_13, q90v_14, q90v_15, q90v_16, q90v_17, q90v_18, q90v_19, q90v_20, q90v_21, q90v_22, q90v_23, q90v_24, q90v_25, q90v_26, q90v_27, q90v_28, q90v_29, q90v_30, q90v_31, q90v_32, q90v_33, q90v_34, q90v_35, q90v_36, q90v_37, q90v_38, q90v_39, q90v_40, q90v_41, q90v_42, q90v_43, q90v_44, q90v_45, q90v_46, q90v_47, q90v_48, q90v_49, q90v_50, q90v_51, q90v_52] at hs ⊢); rw [eA]; exact hs)⟩)
     · have hd58 := win_no h13
       refine g_draw 38 [0, 1, 2, 3] [(old0 w), (q90v_36 z c), (q90v_33 z), (q90v_34 z y8)] rfl rfl ?_
       refine w_take [(0, (an 7 1)), (1, o0), (3, o0), (6, o0), (7, (a1 3)), (14, o0), (17, o0), (18, (a1 3)), (25, o0), (28, o0), (29, (a1 3)), (30, o0), (32, o0)] [1, 2, 4, 5, 14, 15, 17, 21, 28, 32, 39, 44, 46] [Qb z, Qb z, Qb z, Qb z, Qb z, Qb z, Qb z, Qb (z + 2), Qb (z + 2), Qb (z + 2)] [true, true, false, true, false, false, true, true, false, false, false, false, false, false, true, false, false, true, true, false, false, false, false, false, false, true, false, false, true, true, true, false, true, false, false, false, false, false, false] [(1, i6 (p : Int)), (2, pt z), (q90v_48 z), (q90v_49 z), (14, .agg (TConfig.arr c)), (15, i6 (p : Int)), (17, i6 (p : Int)), (21, i6 y8.Action), (28, i6 (p : Int)), (32, i6 y8.Inputs), (39, i6 (p : Int)), (q90v_47 y8), (46, i6 (p : Int))] rfl (by as_aux_lemma => kernel_rfl) (by as_aux_lemma => kernel_rfl) ⟨rfl, rfl, rfl, rfl, rfl, rfl, rfl, rfl, rfl, rfl, trivial⟩ ?_
       refine w_join (fun x : {p : Nat × Nat × Nat // z + 3 ≤ p.1 ∧ z + 3 ≤ p.2.1 ∧ z + 3 ≤ p.2.2} => ([(1, i6 (p : Int)), (2, pt z), (q90v_48 z), (q90v_49 z), (6, pt x.1.2.2)], ⟨w, x.1.1, [(old0 w), (q90v_36 z c), (q90v_33 z), (q90v_34 z y8), (.blk x.1.2.1 (.cells #[i6 ((unl (namedP c p) 405 ⟨(p : Int), -1⟩).e), i6 ((unl (namedP c p) 405 ⟨(p : Int), -1⟩).where_.First), i6 ((unl (namedP c p) 405 ⟨(p : Int), -1⟩).where_.Second), i6 ((unl (win y8.Restarts 0 15) 406 ⟨(p : Int), -1⟩).e), i6 ((unl (win y8.Restarts 0 15) 406 ⟨(p : Int), -1⟩).where_.First), i6 ((unl (win y8.Restarts 0 15) 406 ⟨(p : Int), -1⟩).where_.Second), i6 ((unl false 407 ⟨(p : Int), -1⟩).e), i6 ((unl false 407 ⟨(p : Int), -1⟩).where_.First), i6 ((unl false 407 ⟨(p : Int), -1⟩).where_.Second), i6 ((unl (win ((y8.Regions.xs.length : Nat) : Int) 1 8) 408 ⟨(p : Int), -1⟩).e), i6 ((unl (win ((y8.Regions.xs.length : Nat) : Int) 1 8) 408 ⟨(p : Int), -1⟩).where_.First), i6 ((unl (win ((y8.Regions.xs.length : Nat) : Int) 1 8) 408 ⟨(p : Int), -1⟩).where_.Second)] 73 (0, 0)) true), (.blk x.1.2.2 (.cells (Tfound.arr (fstW [(unl (namedP c p) 405 ⟨(p : Int), -1⟩), (unl (win y8.Restarts 0 15) 406 ⟨(p : Int), -1⟩), (unl false 407 ⟨(p : Int), -1⟩), (unl (win ((y8.Regions.xs.length : Nat) : Int) 1 8) 408 ⟨(p : Int), -1⟩)])) 73 (0, 0)) true)]⟩)) (fun hK => ?_) ?_
       · refine w_chainF 37 6 [.cl 2 (.bool (namedP c p)), .cl 4 (.agg #[i6 (p : Int), i6 (-1)]), .cl 5 (.agg (Tfound.arr (unl (namedP c p) 405 ⟨(p : Int), -1⟩))), .cl 8 (.bool (win y8.Action 0 2)), .tk 9 (ov (.bool true)), .tk 10 o0, .tk 11 (a1 3), .cl 12 (.bool (win y8.Restarts 0 15)), .tk 13 o0, .cl 15 (.agg #[i6 (p : Int), i6 (-1)]), .cl 16 (.agg (Tfound.arr (unl (win y8.Restarts 0 15) 406 ⟨(p : Int), -1⟩))), .cl 19 (.bool (win y8.Inputs 0 16)), .tk 20 (ov (.bool false)), .tk 21 o0, .tk 22 o0, .tk 23 o0, .tk 24 o0, .cl 26 (.agg #[i6 (p : Int), i6 (-1)]), .cl 27 (.agg (Tfound.arr (unl false 407 ⟨(p : Int), -1⟩))), .cl 31 (.bool (win ((y8.Regions.xs.length : Nat) : Int) 1 8)), .cl 33 (.agg #[i6 (p : Int), i6 (-1)]), .cl 34 (.agg (Tfound.arr (unl (win ((y8.Regions.xs.length : Nat) : Int) 1 8) 408 ⟨(p : Int), -1⟩)))] [1, 2, 4, 5, 19, 30, 41, 48] [(66, #[.agg (TConfig.arr c), i6 (p : Int)], .bool (namedP c p)), (67, #[i6 (p : Int)], .agg #[i6 (p : Int), i6 (-1)]), (41, #[.bool (namedP c p), i6 405, .agg #[i6 (p : Int), i6 (-1)]], .agg (Tfound.arr (unl (namedP c p) 405 ⟨(p : Int), -1⟩))), (42, #[i6 y8.Action, i6 0, i6 2], .bool (win y8.Action 0 2)), (42, #[i6 y8.Restarts, i6 0, i6 15], .bool (win y8.Restarts 0 15)), (67, #[i6 (p : Int)], .agg #[i6 (p : Int), i6 (-1)]), (41, #[.bool (win y8.Restarts 0 15), i6 406, .agg #[i6 (p : Int), i6 (-1)]], .agg (Tfound.arr (unl (win y8.Restarts 0 15) 406 ⟨(p : Int), -1⟩))), (42, #[i6 y8.Inputs, i6 0, i6 16], .bool (win y8.Inputs 0 16)), (67, #[i6 (p : Int)], .agg #[i6 (p : Int), i6 (-1)]), (41, #[.bool false, i6 407, .agg #[i6 (p : Int), i6 (-1)]], .agg (Tfound.arr (unl false 407 ⟨(p : Int), -1⟩))), (42, #[i6 ((y8.Regions.xs.length : Nat) : Int), i6 1, i6 8], .bool (win ((y8.Regions.xs.length : Nat) : Int) 1 8)), (67, #[i6 (p : Int)], .agg #[i6 (p : Int), i6 (-1)]), (41, #[.bool (win ((y8.Regions.xs.length : Nat) : Int) 1 8), i6 408, .agg #[i6 (p : Int), i6 (-1)]], .agg (Tfound.arr (unl (win ((y8.Regions.xs.length : Nat) : Int) 1 8) 408 ⟨(p : Int), -1⟩)))] [true, true, true, true, true, true, true, true, true, true, true, true, true, true, true, true, true, true, true, true, true, true, true, true, true, true, true, true, true, true, true, true, true, true, true, false, false, false, false] [Value.bool (win y8.Action 0 2) = Value.bool true, Qb (z + 2), Value.bool (win y8.Inputs 0 16) = Value.bool false] [(1, i6 (p : Int)), (2, pt z), (q90v_48 z), (q90v_49 z), (q90v_44 c p), (q90v_42 y8 p), (q90v_45 p), (q90v_41 y8 p)] (.cells #[i6 0, i6 0, i6 0] 73 (0, 0)) [0, 1, 2, 3] ⟨(congrArg Value.bool h11), rfl, (congrArg Value.bool (Bool.eq_false_iff.2 h13)), trivial⟩ ⟨fun w62 hw62 => named_calls w62 c (hc.ext (hw62.ext rfl) (fun _ h => h)) p hp, fun w63 hw63 => at_calls w63 (p : Int), fun w64 hw64 => unless_calls w64 (hL.ext (hw64.ext rfl)) (namedP c p) 405 (p : Int) (-1), fun w65 hw65 => within_calls w65 y8.Action 0 2, fun w66 hw66 => within_calls w66 y8.Restarts 0 15, fun w67 hw67 => at_calls w67 (p : Int), fun w68 hw68 => unless_calls w68 (hL.ext (hw68.ext rfl)) (win y8.Restarts 0 15) 406 (p : Int) (-1), fun w69 hw69 => within_calls w69 y8.Inputs 0 16, fun w70 hw70 => at_calls w70 (p : Int), fun w71 hw71 => unless_calls w71 (hL.ext (hw71.ext rfl)) false 407 (p : Int) (-1), fun w72 hw72 => within_calls w72 ((y8.Regions.xs.length : Nat) : Int) 1 8, fun w73 hw73 => at_calls w73 (p : Int), fun w74 hw74 => unless_calls w74 (hL.ext (hw74.ext rfl)) (win ((y8.Regions.xs.length : Nat) : Int) 1 8) 408 (p : Int) (-1), trivial⟩ ?_ (fun hv77 n75 hn76 => ?_)
         · rintro ⟨⟨n78, b79⟩, hb80⟩
           simp only at hb80
           refine w_one 35 (by as_aux_lemma => kernel_rfl) rfl ?_
           refine wo_eff o0 [6, 1, 2, 4, 5, 49] [] [(6, pt b79), (1, i6 (p : Int)), (2, pt z), (q90v_48 z), (q90v_49 z), (49, .slice (some ⟨n78, 0, none⟩) 4 4)] ⟨w, n78 + 1, [(old0 w), (q90v_36 z c), (q90v_33 z), (q90v_34 z y8), (bk b79 #[i6 0, i6 0, i6 0] 73), (q90v_3 n78 c p y8)]⟩ [0, 1, 2, 3] (by as_aux_lemma => kernel_rfl) rfl trivial (.inr rfl) ?_
           refine w_one 36 (by as_aux_lemma => kernel_rfl) rfl ?_
           refine wo_con 65 #[.slice (some ⟨n78, 0, none⟩) 4 4] (some 50) (.agg (Tfound.arr (fstW [(unl (namedP c p) 405 ⟨(p : Int), -1⟩), (unl (win y8.Restarts 0 15) 406 ⟨(p : Int), -1⟩), (unl false 407 ⟨(p : Int), -1⟩), (unl (win ((y8.Regions.xs.length : Nat) : Int) 1 8) 408 ⟨(p : Int), -1⟩)]))) [6, 1, 2, 4, 5, 50] [(6, pt b79), (1, i6 (p : Int)), (2, pt z), (q90v_48 z), (q90v_49 z), (q90v_38 c p y8)] [0, 1, 2, 3] (by as_aux_lemma => kernel_rfl) rfl rfl rfl (fun w81 hw81 => first_calls w81 (hL.ext (hw81.ext rfl)) ⟨some ⟨n78, 0, none⟩, 4, [(unl (namedP c p) 405 ⟨(p : Int), -1⟩), (unl (win y8.Restarts 0 15) 406 ⟨(p : Int), -1⟩), (unl false 407 ⟨(p : Int), -1⟩), (unl (win ((y8.Regions.xs.length : Nat) : Int) 1 8) 408 ⟨(p : Int), -1⟩)]⟩ (slok_blk hw81 (i := 5) [(unl (namedP c p) 405 ⟨(p : Int), -1⟩), (unl (win y8.Restarts 0 15) 406 ⟨(p : Int), -1⟩), (unl false 407 ⟨(p : Int), -1⟩), (unl (win ((y8.Regions.xs.length : Nat) : Int) 1 8) 408 ⟨(p : Int), -1⟩)]) (show 4 ≤ 1000 by decide)) (fun n82 hn83 => ?_)
           replace hn83 : n78 + 1 ≤ n82 := hn83
           refine w_one 38 (by as_aux_lemma => kernel_rfl) rfl ?_
           refine wo_eff (an 3 4) [6, 1, 2, 4, 5] [Qb b79, Qb b79, Qb b79] [(6, pt b79), (1, i6 (p : Int)), (2, pt z), (q90v_48 z), (q90v_49 z)] ⟨w, n82, [(old0 w), (q90v_36 z c), (q90v_33 z), (q90v_34 z y8), (q90v_19 b79 c p y8), (q90v_3 n78 c p y8)]⟩ [] (by as_aux_lemma => kernel_rfl) rfl ⟨rfl, rfl, rfl, trivial⟩ (.inl rfl) ?_
           refine w_free 39 [0, 1, 2, 3, 4, 5] [(old0 w), (q90v_36 z c), (q90v_33 z), (q90v_34 z y8), (q90v_19 b79 c p y8), (q90v_3 n78 c p y8)] rfl rfl ?_
           refine w_done (by as_aux_lemma => kernel_rfl) ?_
           refine e_keep [1, 2, 4, 5, 6] [(1, i6 (p : Int)), (2, pt z), (q90v_48 z), (q90v_49 z), (6, pt b79)] ?_
           refine e_pick [0, 1, 2, 3, 5, 4] [(old0 w), (q90v_36 z c), (q90v_33 z), (q90v_34 z y8), (q90v_3 n78 c p y8), (q90v_19 b79 c p y8)] rfl rfl ?_
           exact hK ⟨(n82, n78, b79), by first | omega | (dsimp only; omega)⟩
         replace hn76 : z + 3 ≤ n75 := hn76
         refine w_via (fun x : {p : Nat × Nat × Nat // n75 ≤ p.1 ∧ n75 ≤ p.2.1 ∧ n75 ≤ p.2.2} => [(1, i6 (p : Int)), (2, pt z), (q90v_48 z), (q90v_49 z), (6, pt x.1.2.1), (q90v_38 c p y8)]) (fun x => ⟨w, x.1.1, [(old0 w), (q90v_36 z c), (q90v_33 z), (q90v_34 z y8), (.blk x.1.2.1 (.cells #[i6 0, i6 0, i6 0] 73 (0, 0)) true), (.blk x.1.2.2 (.cells #[i6 ((unl (namedP c p) 405 ⟨(p : Int), -1⟩).e), i6 ((unl (namedP c p) 405 ⟨(p : Int), -1⟩).where_.First), i6 ((unl (namedP c p) 405 ⟨(p : Int), -1⟩).where_.Second), i6 ((unl (win y8.Restarts 0 15) 406 ⟨(p : Int), -1⟩).e), i6 ((unl (win y8.Restarts 0 15) 406 ⟨(p : Int), -1⟩).where_.First), i6 ((unl (win y8.Restarts 0 15) 406 ⟨(p : Int), -1⟩).where_.Second), i6 ((unl false 407 ⟨(p : Int), -1⟩).e), i6 ((unl false 407 ⟨(p : Int), -1⟩).where_.First), i6 ((unl false 407 ⟨(p : Int), -1⟩).where_.Second), i6 ((unl (win ((y8.Regions.xs.length : Nat) : Int) 1 8) 408 ⟨(p : Int), -1⟩).e), i6 ((unl (win ((y8.Regions.xs.length : Nat) : Int) 1 8) 408 ⟨(p : Int), -1⟩).where_.First), i6 ((unl (win ((y8.Regions.xs.length : Nat) : Int) 1 8) 408 ⟨(p : Int), -1⟩).where_.Second)] 73 (0, 0)) true)]⟩) 1 [true, true, true, true, true, true, true, true, true, true, true, true, true, true, true, true, true, true, true, true, true, true, true, true, true, true, true, true, true, true, true, true, true, true, true, true, true, true, false] ?_ (fun hv87 => ?_)
         · rintro ⟨⟨n84, b85, b86⟩, hb88⟩
           simp only at hb88
           show Wg _ _ [(1, i6 (p : Int)), (2, pt z), (q90v_48 z), (q90v_49 z), (6, pt b85), (q90v_38 c p y8)] _ ⟨w, n84, [(old0 w), (q90v_36 z c), (q90v_33 z), (q90v_34 z y8), (bk b85 #[i6 0, i6 0, i6 0] 73), (q90v_4 b86 c p y8)]⟩ _ _ _ _ _ _ _
           refine w_one 38 (by as_aux_lemma => kernel_rfl) rfl ?_
           refine wo_eff (an 3 4) [1, 2, 4, 5, 6] [Qb b85, Qb b85, Qb b85] [(1, i6 (p : Int)), (2, pt z), (q90v_48 z), (q90v_49 z), (6, pt b85)] ⟨w, n84, [(old0 w), (q90v_36 z c), (q90v_33 z), (q90v_34 z y8), (q90v_20 b85 c p y8), (q90v_4 b86 c p y8)]⟩ [] (by as_aux_lemma => kernel_rfl) rfl ⟨rfl, rfl, rfl, trivial⟩ (.inl rfl) ?_
           refine w_free 39 [0, 1, 2, 3, 4, 5] [(old0 w), (q90v_36 z c), (q90v_33 z), (q90v_34 z y8), (q90v_20 b85 c p y8), (q90v_4 b86 c p y8)] rfl rfl ?_
           refine w_done (by as_aux_lemma => kernel_rfl) ?_
           refine e_keep [1, 2, 4, 5, 6] [(1, i6 (p : Int)), (2, pt z), (q90v_48 z), (q90v_49 z), (6, pt b85)] ?_
           refine e_pick [0, 1, 2, 3, 5, 4] [(old0 w), (q90v_36 z c), (q90v_33 z), (q90v_34 z y8), (q90v_4 b86 c p y8), (q90v_20 b85 c p y8)] rfl rfl ?_
           exact hK ⟨(n84, b86, b85), by first | omega | (dsimp only; omega)⟩
         refine w_via (fun x : {p : Nat × Nat × Nat // n75 ≤ p.1 ∧ n75 ≤ p.2.1 ∧ n75 ≤ p.2.2} => [(1, i6 (p : Int)), (2, pt z), (q90v_48 z), (q90v_49 z), (6, pt x.1.2.1), (49, .slice (some ⟨x.1.2.2, 0, none⟩) 4 4)]) (fun x => ⟨w, x.1.1, [(old0 w), (q90v_36 z c), (q90v_33 z), (q90v_34 z y8), (.blk x.1.2.1 (.cells #[i6 0, i6 0, i6 0] 73 (0, 0)) true), (.blk x.1.2.2 (.cells #[i6 ((unl (namedP c p) 405 ⟨(p : Int), -1⟩).e), i6 ((unl (namedP c p) 405 ⟨(p : Int), -1⟩).where_.First), i6 ((unl (namedP c p) 405 ⟨(p : Int), -1⟩).where_.Second), i6 ((unl (win y8.Restarts 0 15) 406 ⟨(p : Int), -1⟩).e), i6 ((unl (win y8.Restarts 0 15) 406 ⟨(p : Int), -1⟩).where_.First), i6 ((unl (win y8.Restarts 0 15) 406 ⟨(p : Int), -1⟩).where_.Second), i6 ((unl false 407 ⟨(p : Int), -1⟩).e), i6 ((unl false 407 ⟨(p : Int), -1⟩).where_.First), i6 ((unl false 407 ⟨(p : Int), -1⟩).where_.Second), i6 ((unl (win ((y8.Regions.xs.length : Nat) : Int) 1 8) 408 ⟨(p : Int), -1⟩).e), i6 ((unl (win ((y8.Regions.xs.length : Nat) : Int) 1 8) 408 ⟨(p : Int), -1⟩).where_.First), i6 ((unl (win ((y8.Regions.xs.length : Nat) : Int) 1 8) 408 ⟨(p : Int), -1⟩).where_.Second)] 73 (0, 0)) true)]⟩) 2 [true, true, true, true, true, true, true, true, true, true, true, true, true, true, true, true, true, true, true, true, true, true, true, true, true, true, true, true, true, true, true, true, true, true, true, true, false, true, false] ?_ (fun hv92 => ?_)
         · rintro ⟨⟨n89, b90, b91⟩, hb93⟩
           simp only at hb93
           show Wg _ _ [(1, i6 (p : Int)), (2, pt z), (q90v_48 z), (q90v_49 z), (6, pt b90), (49, .slice (some ⟨b91, 0, none⟩) 4 4)] _ ⟨w, n89, [(old0 w), (q90v_36 z c), (q90v_33 z), (q90v_34 z y8), (bk b90 #[i6 0, i6 0, i6 0] 73), (bk b91 #[i6 ((unl (namedP c p) 405 ⟨(p : Int), -1⟩).e), i6 ((unl (namedP c p) 405 ⟨(p : Int), -1⟩).where_.First), i6 ((unl (namedP c p) 405 ⟨(p : Int), -1⟩).where_.Second), i6 ((unl (win y8.Restarts 0 15) 406 ⟨(p : Int), -1⟩).e), i6 ((unl (win y8.Restarts 0 15) 406 ⟨(p : Int), -1⟩).where_.First), i6 ((unl (win y8.Restarts 0 15) 406 ⟨(p : Int), -1⟩).where_.Second), i6 ((unl false 407 ⟨(p : Int), -1⟩).e), i6 ((unl false 407 ⟨(p : Int), -1⟩).where_.First), i6 ((unl false 407 ⟨(p : Int), -1⟩).where_.Second), i6 ((unl (win ((y8.Regions.xs.length : Nat) : Int) 1 8) 408 ⟨(p : Int), -1⟩).e), i6 ((unl (win ((y8.Regions.xs.length : Nat) : Int) 1 8) 408 ⟨(p : Int), -1⟩).where_.First), i6 ((unl (win ((y8.Regions.xs.length : Nat) : Int) 1 8) 408 ⟨(p : Int), -1⟩).where_.Second)] 73)]⟩ _ _ _ _ _ _ _
           refine w_one 36 (by as_aux_lemma => kernel_rfl) rfl ?_
           refine wo_con 65 #[.slice (some ⟨b91, 0, none⟩) 4 4] (some 50) (.agg (Tfound.arr (fstW [(unl (namedP c p) 405 ⟨(p : Int), -1⟩), (unl (win y8.Restarts 0 15) 406 ⟨(p : Int), -1⟩), (unl false 407 ⟨(p : Int), -1⟩), (unl (win ((y8.Regions.xs.length : Nat) : Int) 1 8) 408 ⟨(p : Int), -1⟩)]))) [1, 2, 4, 5, 6, 50] [(1, i6 (p : Int)), (2, pt z), (q90v_48 z), (q90v_49 z), (6, pt b90), (q90v_38 c p y8)] [0, 1, 2, 3] (by as_aux_lemma => kernel_rfl) rfl rfl rfl (fun w94 hw94 => first_calls w94 (hL.ext (hw94.ext rfl)) ⟨some ⟨b91, 0, none⟩, 4, [(unl (namedP c p) 405 ⟨(p : Int), -1⟩), (unl (win y8.Restarts 0 15) 406 ⟨(p : Int), -1⟩), (unl false 407 ⟨(p : Int), -1⟩), (unl (win ((y8.Regions.xs.length : Nat) : Int) 1 8) 408 ⟨(p : Int), -1⟩)]⟩ (slok_blk hw94 (i := 5) [(unl (namedP c p) 405 ⟨(p : Int), -1⟩), (unl (win y8.Restarts 0 15) 406 ⟨(p : Int), -1⟩), (unl false 407 ⟨(p : Int), -1⟩), (unl (win ((y8.Regions.xs.length : Nat) : Int) 1 8) 408 ⟨(p : Int), -1⟩)]) (show 4 ≤ 1000 by decide)) (fun n95 hn96 => ?_)
           replace hn96 : n89 ≤ n95 := hn96
           refine w_keep [1, 2, 4, 5, 6, 50] [(1, i6 (p : Int)), (2, pt z), (q90v_48 z), (q90v_49 z), (6, pt b90), (q90v_38 c p y8)] ?_
           exact hv87 ⟨(n95, b90, b91), by first | omega | (dsimp only; omega)⟩
         refine w_all [35, 37] (by as_aux_lemma => kernel_rfl) rfl rfl ?_
         refine List.forall_mem_cons.2 ⟨?_, List.forall_mem_cons.2 ⟨?_, fun _ h => absurd h List.not_mem_nil⟩⟩
         · refine wo_eff o0 [1, 2, 4, 5, 49] [] [(1, i6 (p : Int)), (2, pt z), (q90v_48 z), (q90v_49 z), (49, .slice (some ⟨n75, 0, none⟩) 4 4)] ⟨w, n75 + 1, [(old0 w), (q90v_36 z c), (q90v_33 z), (q90v_34 z y8), (q90v_5 n75 c p y8)]⟩ [0, 1, 2, 3] (by as_aux_lemma => kernel_rfl) rfl trivial (.inr rfl) ?_
           refine w_all [36, 37] (by as_aux_lemma => kernel_rfl) rfl rfl ?_
           refine List.forall_mem_cons.2 ⟨?_, List.forall_mem_cons.2 ⟨?_, fun _ h => absurd h List.not_mem_nil⟩⟩
           · refine wo_con 65 #[.slice (some ⟨n75, 0, none⟩) 4 4] (some 50) (.agg (Tfound.arr (fstW [(unl (namedP c p) 405 ⟨(p : Int), -1⟩), (unl (win y8.Restarts 0 15) 406 ⟨(p : Int), -1⟩), (unl false 407 ⟨(p : Int), -1⟩), (unl (win ((y8.Regions.xs.length : Nat) : Int) 1 8) 408 ⟨(p : Int), -1⟩)]))) [1, 2, 4, 5, 50] [(1, i6 (p : Int)), (2, pt z), (q90v_48 z), (q90v_49 z), (q90v_38 c p y8)] [0, 1, 2, 3] (by as_aux_lemma => kernel_rfl) rfl rfl rfl (fun w97 hw97 => first_calls w97 (hL.ext (hw97.ext rfl)) ⟨some ⟨n75, 0, none⟩, 4, [(unl (namedP c p) 405 ⟨(p : Int), -1⟩), (unl (win y8.Restarts 0 15) 406 ⟨(p : Int), -1⟩), (unl false 407 ⟨(p : Int), -1⟩), (unl (win ((y8.Regions.xs.length : Nat) : Int) 1 8) 408 ⟨(p : Int), -1⟩)]⟩ (slok_blk hw97 (i := 4) [(unl (namedP c p) 405 ⟨(p : Int), -1⟩), (unl (win y8.Restarts 0 15) 406 ⟨(p : Int), -1⟩), (unl false 407 ⟨(p : Int), -1⟩), (unl (win ((y8.Regions.xs.length : Nat) : Int) 1 8) 408 ⟨(p : Int), -1⟩)]) (show 4 ≤ 1000 by decide)) (fun n98 hn99 => ?_)
             replace hn99 : n75 + 1 ≤ n98 := hn99
             refine w_one 37 (by as_aux_lemma => kernel_rfl) rfl ?_
             refine wo_eff o0 [1, 2, 4, 5, 50, 6] [] [(1, i6 (p : Int)), (2, pt z), (q90v_48 z), (q90v_49 z), (q90v_38 c p y8), (6, pt n98)] ⟨w, n98 + 1, [(old0 w), (q90v_36 z c), (q90v_33 z), (q90v_34 z y8), (q90v_5 n75 c p y8), (bk n98 #[i6 0, i6 0, i6 0] 73)]⟩ [0, 1, 2, 3] (by as_aux_lemma => kernel_rfl) rfl trivial (.inr rfl) ?_
             refine w_pick [0, 1, 2, 3, 5, 4] [(old0 w), (q90v_36 z c), (q90v_33 z), (q90v_34 z y8), (bk n98 #[i6 0, i6 0, i6 0] 73), (q90v_5 n75 c p y8)] rfl rfl ?_
             refine w_keep [1, 2, 4, 5, 6, 50] [(1, i6 (p : Int)), (2, pt z), (q90v_48 z), (q90v_49 z), (6, pt n98), (q90v_38 c p y8)] ?_
             exact hv87 ⟨(n98 + 1, n98, n75), by first | omega | (dsimp only; omega)⟩
           · refine wo_eff o0 [1, 2, 4, 5, 49, 6] [] [(1, i6 (p : Int)), (2, pt z), (q90v_48 z), (q90v_49 z), (49, .slice (some ⟨n75, 0, none⟩) 4 4), (6, pt (n75 + 1))] ⟨w, n75 + 2, [(old0 w), (q90v_36 z c), (q90v_33 z), (q90v_34 z y8), (q90v_5 n75 c p y8), (bk (n75 + 1) #[i6 0, i6 0, i6 0] 73)]⟩ [0, 1, 2, 3] (by as_aux_lemma => kernel_rfl) rfl trivial (.inr rfl) ?_
             refine w_pick [0, 1, 2, 3, 5, 4] [(old0 w), (q90v_36 z c), (q90v_33 z), (q90v_34 z y8), (bk (n75 + 1) #[i6 0, i6 0, i6 0] 73), (q90v_5 n75 c p y8)] rfl rfl ?_
             refine w_keep [1, 2, 4, 5, 6, 49] [(1, i6 (p : Int)), (2, pt z), (q90v_48 z), (q90v_49 z), (6, pt (n75 + 1)), (49, .slice (some ⟨n75, 0, none⟩) 4 4)] ?_
             exact hv92 ⟨(n75 + 2, n75 + 1, n75), by first | omega | (dsimp only; omega)⟩
         · refine wo_eff o0 [1, 2, 4, 5, 19, 30, 41, 48, 6] [] [(1, i6 (p : Int)), (2, pt z), (q90v_48 z), (q90v_49 z), (q90v_44 c p), (q90v_42 y8 p), (q90v_45 p), (q90v_41 y8 p), (6, pt n75)] ⟨w, n75 + 1, [(old0 w), (q90v_36 z c), (q90v_33 z), (q90v_34 z y8), (bk n75 #[i6 0, i6 0, i6 0] 73)]⟩ [0, 1, 2, 3] (by as_aux_lemma => kernel_rfl) rfl trivial (.inr rfl) ?_
           refine w_keep [6, 1, 2, 4, 5, 19, 30, 41, 48] [(6, pt n75), (1, i6 (p : Int)), (2, pt z), (q90v_48 z), (q90v_49 z), (q90v_44 c p), (q90v_42 y8 p), (q90v_45 p), (q90v_41 y8 p)] ?_
           exact hv77 ⟨(n75 + 1, n75), by first | omega | (dsimp only; omega)⟩
       rintro ⟨⟨n59, b60, b61⟩, hJ100⟩
       simp only at hJ100
       show E _ _ [(1, i6 (p : Int)), (2, pt z), (q90v_48 z), (q90v_49 z), (6, pt b61)] _ ⟨w, n59, [(old0 w), (q90v_36 z c), (q90v_33 z), (q90v_34 z y8), (bk b60 #[i6 ((unl (namedP c p) 405 ⟨(p : Int), -1⟩).e), i6 ((unl (namedP c p) 405 ⟨(p : Int), -1⟩).where_.First), i6 ((unl (namedP c p) 405 ⟨(p : Int), -1⟩).where_.Second), i6 ((unl (win y8.Restarts 0 15) 406 ⟨(p : Int), -1⟩).e), i6 ((unl (win y8.Restarts 0 15) 406 ⟨(p : Int), -1⟩).where_.First), i6 ((unl (win y8.Restarts 0 15) 406 ⟨(p : Int), -1⟩).where_.Second), i6 ((unl false 407 ⟨(p : Int), -1⟩).e), i6 ((unl false 407 ⟨(p : Int), -1⟩).where_.First), i6 ((unl false 407 ⟨(p : Int), -1⟩).where_.Second), i6 ((unl (win ((y8.Regions.xs.length : Nat) : Int) 1 8) 408 ⟨(p : Int), -1⟩).e), i6 ((unl (win ((y8.Regions.xs.length : Nat) : Int) 1 8) 408 ⟨(p : Int), -1⟩).where_.First), i6 ((unl (win ((y8.Regions.xs.length : Nat) : Int) 1 8) 408 ⟨(p : Int), -1⟩).where_.Second)] 73), (q90v_21 b61 c p y8)]⟩ _ _ _
       refine e_pick [0, 1, 2, 3, 5] [(old0 w), (q90v_36 z c), (q90v_33 z), (q90v_34 z y8), (q90v_21 b61 c p y8)] rfl rfl ?_
       have eA : fstW (partA c p) = (fstW [(unl (namedP c p) 405 ⟨(p : Int), -1⟩), (unl (win y8.Restarts 0 15) 406 ⟨(p : Int), -1⟩), (unl false 407 ⟨(p : Int), -1⟩), (unl (win ((y8.Regions.xs.length : Nat) : Int) 1 8) 408 ⟨(p : Int), -1⟩)]) := by have e0 : parC c p = y8 := hy8.symm; unfold partA; simp only [e0]; simp [h11, h13]
       refine e_keep [1, 2, 4, 5, 6] [(1, i6 (p : Int)), (2, pt z), (q90v_48 z), (q90v_49 z), (6, pt b61)] ?_
       refine e_inv (fun a w' hs => ⟨n59, b61, by omega, (by (try dsimp only [q90v_0, q90v_1, q90v_2, q90v_3, q90v_4, q90v_5, q90v_6, q90v_7, q90v_8, q90v_9, q90v_10, q90v_11, q90v_12, q90v_13, q90v_14, q90v_15, q90v_16, q90v_17, q90v_18, q90v_19, q90v_20, q90v_21, q90v_22, q90v_23, q90v_24, q90v_25, q90v_26, q90v_27, q90v_28, q90v_29, q90v_30, q90v_31, q90v_32, q90v_33, q90v_34, q90v_35, q90v_36, q90v_37, q90v_38, q90v_39, q90v_40, q90v_41, q90v_42, q90v_43, q90v_44, q90v_45, q90v_46, q90v_47, q90v_48, q90v_49, q90v_50, q90v_51, q90v_52] at hs ⊢); rw [eA]; exact hs)⟩)
   · have hd101 := win_no h11
     by_cases h102 : (win y8.Inputs 0 16) = true
     · have hd103 := win_yes h102
       refine g_draw 38 [0, 1, 2, 3] [(old0 w), (q90v_36 z c), (q90v_33 z), (q90v_34 z y8)] rfl rfl ?_
       refine w_take [(0, (an 7 1)), (1, o0), (3, o0), (6, o0), (7, (a1 3)), (14, o0), (17, o0), (18, (a1 3)), (25, o0), (28, o0), (29, (a1 3)), (30, o0), (32, o0)] [1, 2, 4, 5, 14, 15, 17, 21, 28, 32, 39, 44, 46] [Qb z, Qb z, Qb z, Qb z, Qb z, Qb z, Qb z, Qb (z + 2), Qb (z + 2), Qb (z + 2)] [true, true, false, true, false, false, true, true, false, false, false, false, false, false, true, false, false, true, true, false, false, false, false, false, false, true, false, false, true, true, true, false, true, false, false, false, false, false, false] [(1, i6 (p : Int)), (2, pt z), (q90v_48 z), (q90v_49 z), (14, .agg (TConfig.arr c)), (15, i6 (p : Int)), (17, i6 (p : Int)), (21, i6 y8.Action), (28, i6 (p : Int)), (32, i6 y8.Inputs), (39, i6 (p : Int)), (q90v_47 y8), (46, i6 (p : Int))] rfl (by as_aux_lemma => kernel_rfl) (by as_aux_lemma => kernel_rfl) ⟨rfl, rfl, rfl, rfl, rfl, rfl, rfl, rfl, rfl, rfl, trivial⟩ ?_
       refine w_join (fun x : {p : Nat × Nat × Nat // z + 3 ≤ p.1 ∧ z + 3 ≤ p.2.1 ∧ z + 3 ≤ p.2.2} => ([(1, i6 (p : Int)), (2, pt z), (q90v_48 z), (q90v_49 z), (6, pt x.1.2.2)], ⟨w, x.1.1, [(old0 w), (q90v_36 z c), (q90v_33 z), (q90v_34 z y8), (.blk x.1.2.1 (.cells #[i6 ((unl (namedP c p) 405 ⟨(p : Int), -1⟩).e), i6 ((unl (namedP c p) 405 ⟨(p : Int), -1⟩).where_.First), i6 ((unl (namedP c p) 405 ⟨(p : Int), -1⟩).where_.Second), i6 ((unl false 406 ⟨(p : Int), -1⟩).e), i6 ((unl false 406 ⟨(p : Int), -1⟩).where_.First), i6 ((unl false 406 ⟨(p : Int), -1⟩).where_.Second), i6 ((unl (win y8.Outputs 0 16) 407 ⟨(p : Int), -1⟩).e), i6 ((unl (win y8.Outputs 0 16) 407 ⟨(p : Int), -1⟩).where_.First), i6 ((unl (win y8.Outputs 0 16) 407 ⟨(p : Int), -1⟩).where_.Second), i6 ((unl (win ((y8.Regions.xs.length : Nat) : Int) 1 8) 408 ⟨(p : Int), -1⟩).e), i6 ((unl (win ((y8.Regions.xs.length : Nat) : Int) 1 8) 408 ⟨(p : Int), -1⟩).where_.First), i6 ((unl (win ((y8.Regions.xs.length : Nat) : Int) 1 8) 408 ⟨(p : Int), -1⟩).where_.Second)] 73 (0, 0)) true), (.blk x.1.2.2 (.cells (Tfound.arr (fstW [(unl (namedP c p) 405 ⟨(p : Int), -1⟩), (unl false 406 ⟨(p : Int), -1⟩), (unl (win y8.Outputs 0 16) 407 ⟨(p : Int), -1⟩), (unl (win ((y8.Regions.xs.length : Nat) : Int) 1 8) 408 ⟨(p : Int), -1⟩)])) 73 (0, 0)) true)]⟩)) (fun hK => ?_) ?_
       · refine w_chainF 37 6 [.cl 2 (.bool (namedP c p)), .cl 4 (.agg #[i6 (p : Int), i6 (-1)]), .cl 5 (.agg (Tfound.arr (unl (namedP c p) 405 ⟨(p : Int), -1⟩))), .cl 8 (.bool (win y8.Action 0 2)), .tk 9 (ov (.bool false)), .tk 10 o0, .tk 11 o0, .tk 12 o0, .tk 13 o0, .cl 15 (.agg #[i6 (p : Int), i6 (-1)]), .cl 16 (.agg (Tfound.arr (unl false 406 ⟨(p : Int), -1⟩))), .cl 19 (.bool (win y8.Inputs 0 16)), .tk 20 (ov (.bool true)), .tk 21 o0, .tk 22 (a1 3), .cl 23 (.bool (win y8.Outputs 0 16)), .tk 24 o0, .cl 26 (.agg #[i6 (p : Int), i6 (-1)]), .cl 27 (.agg (Tfound.arr (unl (win y8.Outputs 0 16) 407 ⟨(p : Int), -1⟩))), .cl 31 (.bool (win ((y8.Regions.xs.length : Nat) : Int) 1 8)), .cl 33 (.agg #[i6 (p : Int), i6 (-1)]), .cl 34 (.agg (Tfound.arr (unl (win ((y8.Regions.xs.length : Nat) : Int) 1 8) 408 ⟨(p : Int), -1⟩)))] [1, 2, 4, 5, 19, 30, 41, 48] [(66, #[.agg (TConfig.arr c), i6 (p : Int)], .bool (namedP c p)), (67, #[i6 (p : Int)], .agg #[i6 (p : Int), i6 (-1)]), (41, #[.bool (namedP c p), i6 405, .agg #[i6 (p : Int), i6 (-1)]], .agg (Tfound.arr (unl (namedP c p) 405 ⟨(p : Int), -1⟩))), (42, #[i6 y8.Action, i6 0, i6 2], .bool (win y8.Action 0 2)), (67, #[i6 (p : Int)], .agg #[i6 (p : Int), i6 (-1)]), (41, #[.bool false, i6 406, .agg #[i6 (p : Int), i6 (-1)]], .agg (Tfound.arr (unl false 406 ⟨(p : Int), -1⟩))), (42, #[i6 y8.Inputs, i6 0, i6 16], .bool (win y8.Inputs 0 16)), (42, #[i6 y8.Outputs, i6 0, i6 16], .bool (win y8.Outputs 0 16)), (67, #[i6 (p : Int)], .agg #[i6 (p : Int), i6 (-1)]), (41, #[.bool (win y8.Outputs 0 16), i6 407, .agg #[i6 (p : Int), i6 (-1)]], .agg (Tfound.arr (unl (win y8.Outputs 0 16) 407 ⟨(p : Int), -1⟩))), (42, #[i6 ((y8.Regions.xs.length : Nat) : Int), i6 1, i6 8], .bool (win ((y8.Regions.xs.length : Nat) : Int) 1 8)), (67, #[i6 (p : Int)], .agg #[i6 (p : Int), i6 (-1)]), (41, #[.bool (win ((y8.Regions.xs.length : Nat) : Int) 1 8), i6 408, .agg #[i6 (p : Int), i6 (-1)]], .agg (Tfound.arr (unl (win ((y8.Regions.xs.length : Nat) : Int) 1 8) 408 ⟨(p : Int), -1⟩)))] [true, true, true, true, true, true, true, true, true, true, true, true, true, true, true, true, true, true, true, true, true, true, true, true, true, true, true, true, true, true, true, true, true, true, true, false, false, false, false] [Value.bool (win y8.Action 0 2) = Value.bool false, Value.bool (win y8.Inputs 0 16) = Value.bool true, Qb (z + 2)] [(1, i6 (p : Int)), (2, pt z), (q90v_48 z), (q90v_49 z), (q90v_44 c p), (q90v_46 p), (q90v_43 y8 p), (q90v_41 y8 p)] (.cells #[i6 0, i6 0, i6 0] 73 (0, 0)) [0, 1, 2, 3] ⟨(congrArg Value.bool (Bool.eq_false_iff.2 h11)), (congrArg Value.bool h102), rfl, trivial⟩ ⟨fun w107 hw107 => named_calls w107 c (hc.ext (hw107.ext rfl) (fun _ h => h)) p hp, fun w108 hw108 => at_calls w108 (p : Int), fun w109 hw109 => unless_calls w109 (hL.ext (hw109.ext rfl)) (namedP c p) 405 (p : Int) (-1), fun w110 hw110 => within_calls w110 y8.Action 0 2, fun w111 hw111 => at_calls w111 (p : Int), fun w112 hw112 => unless_calls w112 (hL.ext (hw112.ext rfl)) false 406 (p : Int) (-1), fun w113 hw113 => within_calls w113 y8.Inputs 0 16, fun w114 hw114 => within_calls w114 y8.Outputs 0 16, fun w115 hw115 => at_calls w115 (p : Int), fun w116 hw116 => unless_calls w116 (hL.ext (hw116.ext rfl)) (win y8.Outputs 0 16) 407 (p : Int) (-1), fun w117 hw117 => within_calls w117 ((y8.Regions.xs.length : Nat) : Int) 1 8, fun w118 hw118 => at_calls w118 (p : Int), fun w119 hw119 => unless_calls w119 (hL.ext (hw119.ext rfl)) (win ((y8.Regions.xs.length : Nat) : Int) 1 8) 408 (p : Int) (-1), trivial⟩ ?_ (fun hv122 n120 hn121 => ?_)
         · rintro ⟨⟨n123, b124⟩, hb125⟩
           simp only at hb125
           refine w_one 35 (by as_aux_lemma => kernel_rfl) rfl ?_
           refine wo_eff o0 [6, 1, 2, 4, 5, 49] [] [(6, pt b124), (1, i6 (p : Int)), (2, pt z), (q90v_48 z), (q90v_49 z), (49, .slice (some ⟨n123, 0, none⟩) 4 4)] ⟨w, n123 + 1, [(old0 w), (q90v_36 z c), (q90v_33 z), (q90v_34 z y8), (bk b124 #[i6 0, i6 0, i6 0] 73), (q90v_6 n123 c p y8)]⟩ [0, 1, 2, 3] (by as_aux_lemma => kernel_rfl) rfl trivial (.inr rfl) ?_
           refine w_one 36 (by as_aux_lemma => kernel_rfl) rfl ?_
           refine wo_con 65 #[.slice (some ⟨n123, 0, none⟩) 4 4] (some 50) (.agg (Tfound.arr (fstW [(unl (namedP c p) 405 ⟨(p : Int), -1⟩), (unl false 406 ⟨(p : Int), -1⟩), (unl (win y8.Outputs 0 16) 407 ⟨(p : Int), -1⟩), (unl (win ((y8.Regions.xs.length : Nat) : Int) 1 8) 408 ⟨(p : Int), -1⟩)]))) [6, 1, 2, 4, 5, 50] [(6, pt b124), (1, i6 (p : Int)), (2, pt z), (q90v_48 z), (q90v_49 z), (q90v_39 c p y8)] [0, 1, 2, 3] (by as_aux_lemma => kernel_rfl) rfl rfl rfl (fun w126 hw126 => first_calls w126 (hL.ext (hw126.ext rfl)) ⟨some ⟨n123, 0, none⟩, 4, [(unl (namedP c p) 405 ⟨(p : Int), -1⟩), (unl false 406 ⟨(p : Int), -1⟩), (unl (win y8.Outputs 0 16) 407 ⟨(p : Int), -1⟩), (unl (win ((y8.Regions.xs.length : Nat) : Int) 1 8) 408 ⟨(p : Int), -1⟩)]⟩ (slok_blk hw126 (i := 5) [(unl (namedP c p) 405 ⟨(p : Int), -1⟩), (unl false 406 ⟨(p : Int), -1⟩), (unl (win y8.Outputs 0 16) 407 ⟨(p : Int), -1⟩), (unl (win ((y8.Regions.xs.length : Nat) : Int) 1 8) 408 ⟨(p : Int), -1⟩)]) (show 4 ≤ 1000 by decide)) (fun n127 hn128 => ?_)
           replace hn128 : n123 + 1 ≤ n127 := hn128
           refine w_one 38 (by as_aux_lemma => kernel_rfl) rfl ?_
           refine wo_eff (an 3 4) [6, 1, 2, 4, 5] [Qb b124, Qb b124, Qb b124] [(6, pt b124), (1, i6 (p : Int)), (2, pt z), (q90v_48 z), (q90v_49 z)] ⟨w, n127, [(old0 w), (q90v_36 z c), (q90v_33 z), (q90v_34 z y8), (q90v_22 b124 c p y8), (q90v_6 n123 c p y8)]⟩ [] (by as_aux_lemma => kernel_rfl) rfl ⟨rfl, rfl, rfl, trivial⟩ (.inl rfl) ?_
           refine w_free 39 [0, 1, 2, 3, 4, 5] [(old0 w), (q90v_36 z c), (q90v_33 z), (q90v_34 z y8), (q90v_22 b124 c p y8), (q90v_6 n123 c p y8)] rfl rfl ?_
           refine w_done (by as_aux_lemma => kernel_rfl) ?_
           refine e_keep [1, 2, 4, 5, 6] [(1, i6 (p : Int)), (2, pt z), (q90v_48 z), (q90v_49 z), (6, pt b124)] ?_
           refine e_pick [0, 1, 2, 3, 5, 4] [(old0 w), (q90v_36 z c), (q90v_33 z), (q90v_34 z y8), (q90v_6 n123 c p y8), (q90v_22 b124 c p y8)] rfl rfl ?_
           exact hK ⟨(n127, n123, b124), by first | omega | (dsimp only; omega)⟩
         replace hn121 : z + 3 ≤ n120 := hn121
         refine w_via (fun x : {p : Nat × Nat × Nat // n120 ≤ p.1 ∧ n120 ≤ p.2.1 ∧ n120 ≤ p.2.2} => [(1, i6 (p : Int)), (2, pt z), (q90v_48 z), (q90v_49 z), (6, pt x.1.2.1), (q90v_39 c p y8)]) (fun x => ⟨w, x.1.1, [(old0 w), (q90v_36 z c), (q90v_33 z), (q90v_34 z y8), (.blk x.1.2.1 (.cells #[i6 0, i6 0, i6 0] 73 (0, 0)) true), (.blk x.1.2.2 (.cells #[i6 ((unl (namedP c p) 405 ⟨(p : Int), -1⟩).e), i6 ((unl (namedP c p) 405 ⟨(p : Int), -1⟩).where_.First), i6 ((unl (namedP c p) 405 ⟨(p : Int), -1⟩).where_.Second), i6 ((unl false 406 ⟨(p : Int), -1⟩).e), i6 ((unl false 406 ⟨(p : Int), -1⟩).where_.First), i6 ((unl false 406 ⟨(p : Int), -1⟩).where_.Second), i6 ((unl (win y8.Outputs 0 16) 407 ⟨(p : Int), -1⟩).e), i6 ((unl (win y8.Outputs 0 16) 407 ⟨(p : Int), -1⟩).where_.First), i6 ((unl (win y8.Outputs 0 16) 407 ⟨(p : Int), -1⟩).where_.Second), i6 ((unl (win ((y8.Regions.xs.length : Nat) : Int) 1 8) 408 ⟨(p : Int), -1⟩).e), i6 ((unl (win ((y8.Regions.xs.length : Nat) : Int) 1 8) 408 ⟨(p : Int), -1⟩).where_.First), i6 ((unl (win ((y8.Regions.xs.length : Nat) : Int) 1 8) 408 ⟨(p : Int), -1⟩).where_.Second)] 73 (0, 0)) true)]⟩) 1 [true, true, true, true, true, true, true, true, true, true, true, true, true, true, true, true, true, true, true, true, true, true, true, true, true, true, true, true, true, true, true, true, true, true, true, true, true, true, false] ?_ (fun hv132 => ?_)
         · rintro ⟨⟨n129, b130, b131⟩, hb133⟩
           simp only at hb133
           show Wg _ _ [(1, i6 (p : Int)), (2, pt z), (q90v_48 z), (q90v_49 z), (6, pt b130), (q90v_39 c p y8)] _ ⟨w, n129, [(old0 w), (q90v_36 z c), (q90v_33 z), (q90v_34 z y8), (bk b130 #[i6 0, i6 0, i6 0] 73), (q90v_7 b131 c p y8)]⟩ _ _ _ _ _ _ _
           refine w_one 38 (by as_aux_lemma => kernel_rfl) rfl ?_
           refine wo_eff (an 3 4) [1, 2, 4, 5, 6] [Qb b130, Qb b130, Qb b130] [(1, i6 (p : Int)), (2, pt z), (q90v_48 z), (q90v_49 z), (6, pt b130)] ⟨w, n129, [(old0 w), (q90v_36 z c), (q90v_33 z), (q90v_34 z y8), (q90v_23 b130 c p y8), (q90v_7 b131 c p y8)]⟩ [] (by as_aux_lemma => kernel_rfl) rfl ⟨rfl, rfl, rfl, trivial⟩ (.inl rfl) ?_
           refine w_free 39 [0, 1, 2, 3, 4, 5] [(old0 w), (q90v_36 z c), (q90v_33 z), (q90v_34 z y8), (q90v_23 b130 c p y8), (q90v_7 b131 c p y8)] rfl rfl ?_
           refine w_done (by as_aux_lemma => kernel_rfl) ?_
           refine e_keep [1, 2, 4, 5, 6] [(1, i6 (p : Int)), (2, pt z), (q90v_48 z), (q90v_49 z), (6, pt b130)] ?_
           refine e_pick [0, 1, 2, 3, 5, 4] [(old0 w), (q90v_36 z c), (q90v_33 z), (q90v_34 z y8), (q90v_7 b131 c p y8), (q90v_23 b130 c p y8)] rfl rfl ?_
           exact hK ⟨(n129, b131, b130), by first | omega | (dsimp only; omega)⟩
         refine w_via (fun x : {p : Nat × Nat × Nat // n120 ≤ p.1 ∧ n120 ≤ p.2.1 ∧ n120 ≤ p.2.2} => [(1, i6 (p : Int)), (2, pt z), (q90v_48 z), (q90v_49 z), (6, pt x.1.2.1), (49, .slice (some ⟨x.1.2.2, 0, none⟩) 4 4)]) (fun x => ⟨w, x.1.1, [(old0 w), (q90v_36 z c), (q90v_33 z), (q90v_34 z y8), (.blk x.1.2.1 (.cells #[i6 0, i6 0, i6 0] 73 (0, 0)) true), (.blk x.1.2.2 (.cells #[i6 ((unl (namedP c p) 405 ⟨(p : Int), -1⟩).e), i6 ((unl (namedP c p) 405 ⟨(p : Int), -1⟩).where_.First), i6 ((unl (namedP c p) 405 ⟨(p : Int), -1⟩).where_.Second), i6 ((unl false 406 ⟨(p : Int), -1⟩).e), i6 ((unl false 406 ⟨(p : Int), -1⟩).where_.First), i6 ((unl false 406 ⟨(p : Int), -1⟩).where_.Second), i6 ((unl (win y8.Outputs 0 16) 407 ⟨(p : Int), -1⟩).e), i6 ((unl (win y8.Outputs 0 16) 407 ⟨(p : Int), -1⟩).where_.First), i6 ((unl (win y8.Outputs 0 16) 407 ⟨(p : Int), -1⟩).where_.Second), i6 ((unl (win ((y8.Regions.xs.length : Nat) : Int) 1 8) 408 ⟨(p : Int), -1⟩).e), i6 ((unl (win ((y8.Regions.xs.length : Nat) : Int) 1 8) 408 ⟨(p : Int), -1⟩).where_.First), i6 ((unl (win ((y8.Regions.xs.length : Nat) : Int) 1 8) 408 ⟨(p : Int), -1⟩).where_.Second)] 73 (0, 0)) true)]⟩) 2 [true, true, true, true, true, true, true, true, true, true, true, true, true, true, true, true, true, true, true, true, true, true, true, true, true, true, true, true, true, true, true, true, true, true, true, true, false, true, false] ?_ (fun hv137 => ?_)
         · rintro ⟨⟨n134, b135, b136⟩, hb138⟩
           simp only at hb138
           show Wg _ _ [(1, i6 (p : Int)), (2, pt z), (q90v_48 z), (q90v_49 z), (6, pt b135), (49, .slice (some ⟨b136, 0, none⟩) 4 4)] _ ⟨w, n134, [(old0 w), (q90v_36 z c), (q90v_33 z), (q90v_34 z y8), (bk b135 #[i6 0, i6 0, i6 0] 73), (bk b136 #[i6 ((unl (namedP c p) 405 ⟨(p : Int), -1⟩).e), i6 ((unl (namedP c p) 405 ⟨(p : Int), -1⟩).where_.First), i6 ((unl (namedP c p) 405 ⟨(p : Int), -1⟩).where_.Second), i6 ((unl false 406 ⟨(p : Int), -1⟩).e), i6 ((unl false 406 ⟨(p : Int), -1⟩).where_.First), i6 ((unl false 406 ⟨(p : Int), -1⟩).where_.Second), i6 ((unl (win y8.Outputs 0 16) 407 ⟨(p : Int), -1⟩).e), i6 ((unl (win y8.Outputs 0 16) 407 ⟨(p : Int), -1⟩).where_.First), i6 ((unl (win y8.Outputs 0 16) 407 ⟨(p : Int), -1⟩).where_.Second), i6 ((unl (win ((y8.Regions.xs.length : Nat) : Int) 1 8) 408 ⟨(p : Int), -1⟩).e), i6 ((unl (win ((y8.Regions.xs.length : Nat) : Int) 1 8) 408 ⟨(p : Int), -1⟩).where_.First), i6 ((unl (win ((y8.Regions.xs.length : Nat) : Int) 1 8) 408 ⟨(p : Int), -1⟩).where_.Second)] 73)]⟩ _ _ _ _ _ _ _
           refine w_one 36 (by as_aux_lemma => kernel_rfl) rfl ?_
           refine wo_con 65 #[.slice (some ⟨b136, 0, none⟩) 4 4] (some 50) (.agg (Tfound.arr (fstW [(unl (namedP c p) 405 ⟨(p : Int), -1⟩), (unl false 406 ⟨(p : Int), -1⟩), (unl (win y8.Outputs 0 16) 407 ⟨(p : Int), -1⟩), (unl (win ((y8.Regions.xs.length : Nat) : Int) 1 8) 408 ⟨(p : Int), -1⟩)]))) [1, 2, 4, 5, 6, 50] [(1, i6 (p : Int)), (2, pt z), (q90v_48 z), (q90v_49 z), (6, pt b135), (q90v_39 c p y8)] [0, 1, 2, 3] (by as_aux_lemma => kernel_rfl) rfl rfl rfl (fun w139 hw139 => first_calls w139 (hL.ext (hw139.ext rfl)) ⟨some ⟨b136, 0, none⟩, 4, [(unl (namedP c p) 405 ⟨(p : Int), -1⟩), (unl false 406 ⟨(p : Int), -1⟩), (unl (win y8.Outputs 0 16) 407 ⟨(p : Int), -1⟩), (unl (win ((y8.Regions.xs.length : Nat) : Int) 1 8) 408 ⟨(p : Int), -1⟩)]⟩ (slok_blk hw139 (i := 5) [(unl (namedP c p) 405 ⟨(p : Int), -1⟩), (unl false 406 ⟨(p : Int), -1⟩), (unl (win y8.Outputs 0 16) 407 ⟨(p : Int), -1⟩), (unl (win ((y8.Regions.xs.length : Nat) : Int) 1 8) 408 ⟨(p : Int), -1⟩)]) (show 4 ≤ 1000 by decide)) (fun n140 hn141 => ?_)
           replace hn141 : n134 ≤ n140 := hn141
           refine w_keep [1, 2, 4, 5, 6, 50] [(1, i6 (p : Int)), (2, pt z), (q90v_48 z), (q90v_49 z), (6, pt b135), (q90v_39 c p y8)] ?_
           exact hv132 ⟨(n140, b135, b136), by first | omega | (dsimp only; omega)⟩
         refine w_all [35, 37] (by as_aux_lemma => kernel_rfl) rfl rfl ?_
         refine List.forall_mem_cons.2 ⟨?_, List.forall_mem_cons.2 ⟨?_, fun _ h => absurd h List.not_mem_nil⟩⟩
         · refine wo_eff o0 [1, 2, 4, 5, 49] [] [(1, i6 (p : Int)), (2, pt z), (q90v_48 z), (q90v_49 z), (49, .slice (some ⟨n120, 0, none⟩) 4 4)] ⟨w, n120 + 1, [(old0 w), (q90v_36 z c), (q90v_33 z), (q90v_34 z y8), (q90v_8 n120 c p y8)]⟩ [0, 1, 2, 3] (by as_aux_lemma => kernel_rfl) rfl trivial (.inr rfl) ?_
           refine w_all [36, 37] (by as_aux_lemma => kernel_rfl) rfl rfl ?_
           refine List.forall_mem_cons.2 ⟨?_, List.forall_mem_cons.2 ⟨?_, fun _ h => absurd h List.not_mem_nil⟩⟩
           · refine wo_con 65 #[.slice (some ⟨n120, 0, none⟩) 4 4] (some 50) (.agg (Tfound.arr (fstW [(unl (namedP c p) 405 ⟨(p : Int), -1⟩), (unl false 406 ⟨(p : Int), -1⟩), (unl (win y8.Outputs 0 16) 407 ⟨(p : Int), -1⟩), (unl (win ((y8.Regions.xs.length : Nat) : Int) 1 8) 408 ⟨(p : Int), -1⟩)]))) [1, 2, 4, 5, 50] [(1, i6 (p : Int)), (2, pt z), (q90v_48 z), (q90v_49 z), (q90v_39 c p y8)] [0, 1, 2, 3] (by as_aux_lemma => kernel_rfl) rfl rfl rfl (fun w142 hw142 => first_calls w142 (hL.ext (hw142.ext rfl)) ⟨some ⟨n120, 0, none⟩, 4, [(unl (namedP c p) 405 ⟨(p : Int), -1⟩), (unl false 406 ⟨(p : Int), -1⟩), (unl (win y8.Outputs 0 16) 407 ⟨(p : Int), -1⟩), (unl (win ((y8.Regions.xs.length : Nat) : Int) 1 8) 408 ⟨(p : Int), -1⟩)]⟩ (slok_blk hw142 (i := 4) [(unl (namedP c p) 405 ⟨(p : Int), -1⟩), (unl false 406 ⟨(p : Int), -1⟩), (unl (win y8.Outputs 0 16) 407 ⟨(p : Int), -1⟩), (unl (win ((y8.Regions.xs.length : Nat) : Int) 1 8) 408 ⟨(p : Int), -1⟩)]) (show 4 ≤ 1000 by decide)) (fun n143 hn144 => ?_)
             replace hn144 : n120 + 1 ≤ n143 := hn144
             refine w_one 37 (by as_aux_lemma => kernel_rfl) rfl ?_
             refine wo_eff o0 [1, 2, 4, 5, 50, 6] [] [(1, i6 (p : Int)), (2, pt z), (q90v_48 z), (q90v_49 z), (q90v_39 c p y8), (6, pt n143)] ⟨w, n143 + 1, [(old0 w), (q90v_36 z c), (q90v_33 z), (q90v_34 z y8), (q90v_8 n120 c p y8), (bk n143 #[i6 0, i6 0, i6 0] 73)]⟩ [0, 1, 2, 3] (by as_aux_lemma => kernel_rfl) rfl trivial (.inr rfl) ?_
             refine w_pick [0, 1, 2, 3, 5, 4] [(old0 w), (q90v_36 z c), (q90v_33 z), (q90v_34 z y8), (bk n143 #[i6 0, i6 0, i6 0] 73), (q90v_8 n120 c p y8)] rfl rfl ?_
             refine w_keep [1, 2, 4, 5, 6, 50] [(1, i6 (p : Int)), (2, pt z), (q90v_48 z), (q90v_49 z), (6, pt n143), (q90v_39 c p y8)] ?_
             exact hv132 ⟨(n143 + 1, n143, n120), by first | omega | (dsimp only; omega)⟩
           · refine wo_eff o0 [1, 2, 4, 5, 49, 6] [] [(1, i6 (p : Int)), (2, pt z), (q90v_48 z), (q90v_49 z), (49, .slice (some ⟨n120, 0, none⟩) 4 4), (6, pt (n120 + 1))] ⟨w, n120 + 2, [(old0 w), (q90v_36 z c), (q90v_33 z), (q90v_34 z y8), (q90v_8 n120 c p y8), (bk (n120 + 1) #[i6 0, i6 0, i6 0] 73)]⟩ [0, 1, 2, 3] (by as_aux_lemma => kernel_rfl) rfl trivial (.inr rfl) ?_
             refine w_pick [0, 1, 2, 3, 5, 4] [(old0 w), (q90v_36 z c), (q90v_33 z), (q90v_34 z y8), (bk (n120 + 1) #[i6 0, i6 0, i6 0] 73), (q90v_8 n120 c p y8)] rfl rfl ?_
             refine w_keep [1, 2, 4, 5, 6, 49] [(1, i6 (p : Int)), (2, pt z), (q90v_48 z), (q90v_49 z), (6, pt (n120 + 1)), (49, .slice (some ⟨n120, 0, none⟩) 4 4)] ?_
             exact hv137 ⟨(n120 + 2, n120 + 1, n120), by first | omega | (dsimp only; omega)⟩
         · refine wo_eff o0 [1, 2, 4, 5, 19, 30, 41, 48, 6] [] [(1, i6 (p : Int)), (2, pt z), (q90v_48 z), (q90v_49 z), (q90v_44 c p), (q90v_46 p), (q90v_43 y8 p), (q90v_41 y8 p), (6, pt n120)] ⟨w, n120 + 1, [(old0 w), (q90v_36 z c), (q90v_33 z), (q90v_34 z y8), (bk n120 #[i6 0, i6 0, i6 0] 73)]⟩ [0, 1, 2, 3] (by as_aux_lemma => kernel_rfl) rfl trivial (.inr rfl) ?_
           refine w_keep [6, 1, 2, 4, 5, 19, 30, 41, 48] [(6, pt n120), (1, i6 (p : Int)), (2, pt z), (q90v_48 z), (q90v_49 z), (q90v_44 c p), (q90v_46 p), (q90v_43 y8 p), (q90v_41 y8 p)] ?_
           exact hv122 ⟨(n120 + 1, n120), by first | omega | (dsimp only; omega)⟩
       rintro ⟨⟨n104, b105, b106⟩, hJ145⟩
       simp only at hJ145
       show E _ _ [(1, i6 (p : Int)), (2, pt z), (q90v_48 z), (q90v_49 z), (6, pt b106)] _ ⟨w, n104, [(old0 w), (q90v_36 z c), (q90v_33 z), (q90v_34 z y8), (bk b105 #[i6 ((unl (namedP c p) 405 ⟨(p : Int), -1⟩).e), i6 ((unl (namedP c p) 405 ⟨(p : Int), -1⟩).where_.First), i6 ((unl (namedP c p) 405 ⟨(p : Int), -1⟩).where_.Second), i6 ((unl false 406 ⟨(p : Int), -1⟩).e), i6 ((unl false 406 ⟨(p : Int), -1⟩).where_.First), i6 ((unl false 406 ⟨(p : Int), -1⟩).where_.Second), i6 ((unl (win y8.Outputs 0 16) 407 ⟨(p : Int), -1⟩).e), i6 ((unl (win y8.Outputs 0 16) 407 ⟨(p : Int), -1⟩).where_.First), i6 ((unl (win y8.Outputs 0 16) 407 ⟨(p : Int), -1⟩).where_.Second), i6 ((unl (win ((y8.Regions.xs.length : Nat) : Int) 1 8) 408 ⟨(p : Int), -1⟩).e), i6 ((unl (win ((y8.Regions.xs.length : Nat) : Int) 1 8) 408 ⟨(p : Int), -1⟩).where_.First), i6 ((unl (win ((y8.Regions.xs.length : Nat) : Int) 1 8) 408 ⟨(p : Int), -1⟩).where_.Second)] 73), (q90v_24 b106 c p y8)]⟩ _ _ _
       refine e_pick [0, 1, 2, 3, 5] [(old0 w), (q90v_36 z c), (q90v_33 z), (q90v_34 z y8), (q90v_24 b106 c p y8)] rfl rfl ?_
       have eA : fstW (partA c p) = (fstW [(unl (namedP c p) 405 ⟨(p : Int), -1⟩), (unl false 406 ⟨(p : Int), -1⟩), (unl (win y8.Outputs 0 16) 407 ⟨(p : Int), -1⟩), (unl (win ((y8.Regions.xs.length : Nat) : Int) 1 8) 408 ⟨(p : Int), -1⟩)]) := by have e0 : parC c p = y8 := hy8.symm; unfold partA; simp only [e0]; simp [h11, h102]
       refine e_keep [1, 2, 4, 5, 6] [(1, i6 (p : Int)), (2, pt z), (q90v_48 z), (q90v_49 z), (6, pt b106)] ?_
       refine e_inv (fun a w' hs => ⟨n104, b106, by omega, (by (try dsimp only [q90v_0, q90v_1, q90v_2, q90v_3, q90v_4, q90v_5, q90v_6, q90v_7, q90v_8, q90v_9, q90v_10, q90v_11, q90v_12, q90v_13, q90v_14, q90v_15, q90v_16, q90v_17, q90v_18, q90v_19, q90v_20, q90v_21, q90v_22, q90v_23, q90v_24, q90v_25, q90v_26, q90v_27, q90v_28, q90v_29, q90v_30, q90v_31, q90v_32, q90v_33, q90v_34, q90v_35, q90v_36, q90v_37, q90v_38, q90v_39, q90v_40, q90v_41, q90v_42, q90v_43, q90v_44, q90v_45, q90v_46, q90v_47, q90v_48, q90v_49, q90v_50, q90v_51, q90v_52] at hs ⊢); rw [eA]; exact hs)⟩)
     · have hd146 := win_no h102
       refine g_draw 38 [0, 1, 2, 3] [(old0 w), (q90v_36 z c), (q90v_33 z), (q90v_34 z y8)] rfl rfl ?_
       refine w_take [(0, (an 7 1)), (1, o0), (3, o0), (6, o0), (7, (a1 3)), (14, o0), (17, o0), (18, (a1 3)), (25, o0), (28, o0), (29, (a1 3)), (30, o0), (32, o0)] [1, 2, 4, 5, 14, 15, 17, 21, 28, 32, 39, 44, 46] [Qb z, Qb z, Qb z, Qb z, Qb z, Qb z, Qb z, Qb (z + 2), Qb (z + 2), Qb (z + 2)] [true, true, false, true, false, false, true, true, false, false, false, false, false, false, true, false, false, true, true, false, false, false, false, false, false, true, false, false, true, true, true, false, true, false, false, false, false, false, false] [(1, i6 (p : Int)), (2, pt z), (q90v_48 z), (q90v_49 z), (14, .agg (TConfig.arr c)), (15, i6 (p : Int)), (17, i6 (p : Int)), (21, i6 y8.Action), (28, i6 (p : Int)), (32, i6 y8.Inputs), (39, i6 (p : Int)), (q90v_47 y8), (46, i6 (p : Int))] rfl (by as_aux_lemma => kernel_rfl) (by as_aux_lemma => kernel_rfl) ⟨rfl, rfl, rfl, rfl, rfl, rfl, rfl, rfl, rfl, rfl, trivial⟩ ?_
       refine w_join (fun x : {p : Nat × Nat × Nat // z + 3 ≤ p.1 ∧ z + 3 ≤ p.2.1 ∧ z + 3 ≤ p.2.2} => ([(1, i6 (p : Int)), (2, pt z), (q90v_48 z), (q90v_49 z), (6, pt x.1.2.2)], ⟨w, x.1.1, [(old0 w), (q90v_36 z c), (q90v_33 z), (q90v_34 z y8), (.blk x.1.2.1 (.cells #[i6 ((unl (namedP c p) 405 ⟨(p : Int), -1⟩).e), i6 ((unl (namedP c p) 405 ⟨(p : Int), -1⟩).where_.First), i6 ((unl (namedP c p) 405 ⟨(p : Int), -1⟩).where_.Second), i6 ((unl false 406 ⟨(p : Int), -1⟩).e), i6 ((unl false 406 ⟨(p : Int), -1⟩).where_.First), i6 ((unl false 406 ⟨(p : Int), -1⟩).where_.Second), i6 ((unl false 407 ⟨(p : Int), -1⟩).e), i6 ((unl false 407 ⟨(p : Int), -1⟩).where_.First), i6 ((unl false 407 ⟨(p : Int), -1⟩).where_.Second), i6 ((unl (win ((y8.Regions.xs.length : Nat) : Int) 1 8) 408 ⟨(p : Int), -1⟩).e), i6 ((unl (win ((y8.Regions.xs.length : Nat) : Int) 1 8) 408 ⟨(p : Int), -1⟩).where_.First), i6 ((unl (win ((y8.Regions.xs.length : Nat) : Int) 1 8) 408 ⟨(p : Int), -1⟩).where_.Second)] 73 (0, 0)) true), (.blk x.1.2.2 (.cells (Tfound.arr (fstW [(unl (namedP c p) 405 ⟨(p : Int), -1⟩), (unl false 406 ⟨(p : Int), -1⟩), (unl false 407 ⟨(p : Int), -1⟩), (unl (win ((y8.Regions.xs.length : Nat) : Int) 1 8) 408 ⟨(p : Int), -1⟩)])) 73 (0, 0)) true)]⟩)) (fun hK => ?_) ?_
       · refine w_chainF 37 6 [.cl 2 (.bool (namedP c p)), .cl 4 (.agg #[i6 (p : Int), i6 (-1)]), .cl 5 (.agg (Tfound.arr (unl (namedP c p) 405 ⟨(p : Int), -1⟩))), .cl 8 (.bool (win y8.Action 0 2)), .tk 9 (ov (.bool false)), .tk 10 o0, .tk 11 o0, .tk 12 o0, .tk 13 o0, .cl 15 (.agg #[i6 (p : Int), i6 (-1)]), .cl 16 (.agg (Tfound.arr (unl false 406 ⟨(p : Int), -1⟩))), .cl 19 (.bool (win y8.Inputs 0 16)), .tk 20 (ov (.bool false)), .tk 21 o0, .tk 22 o0, .tk 23 o0, .tk 24 o0, .cl 26 (.agg #[i6 (p : Int), i6 (-1)]), .cl 27 (.agg (Tfound.arr (unl false 407 ⟨(p : Int), -1⟩))), .cl 31 (.bool (win ((y8.Regions.xs.length : Nat) : Int) 1 8)), .cl 33 (.agg #[i6 (p : Int), i6 (-1)]), .cl 34 (.agg (Tfound.arr (unl (win ((y8.Regions.xs.length : Nat) : Int) 1 8) 408 ⟨(p : Int), -1⟩)))] [1, 2, 4, 5, 19, 30, 41, 48] [(66, #[.agg (TConfig.arr c), i6 (p : Int)], .bool (namedP c p)), (67, #[i6 (p : Int)], .agg #[i6 (p : Int), i6 (-1)]), (41, #[.bool (namedP c p), i6 405, .agg #[i6 (p : Int), i6 (-1)]], .agg (Tfound.arr (unl (namedP c p) 405 ⟨(p : Int), -1⟩))), (42, #[i6 y8.Action, i6 0, i6 2], .bool (win y8.Action 0 2)), (67, #[i6 (p : Int)], .agg #[i6 (p : Int), i6 (-1)]), (41, #[.bool false, i6 406, .agg #[i6 (p : Int), i6 (-1)]], .agg (Tfound.arr (unl false 406 ⟨(p : Int), -1⟩))), (42, #[i6 y8.Inputs, i6 0, i6 16], .bool (win y8.Inputs 0 16)), (67, #[i6 (p : Int)], .agg #[i6 (p : Int), i6 (-1)]), (41, #[.bool false, i6 407, .agg #[i6 (p : Int), i6 (-1)]], .agg (Tfound.arr (unl false 407 ⟨(p : Int), -1⟩))), (42, #[i6 ((y8.Regions.xs.length : Nat) : Int), i6 1, i6 8], .bool (win ((y8.Regions.xs.length : Nat) : Int) 1 8)), (67, #[i6 (p : Int)], .agg #[i6 (p : Int), i6 (-1)]), (41, #[.bool (win ((y8.Regions.xs.length : Nat) : Int) 1 8), i6 408, .agg #[i6 (p : Int), i6 (-1)]], .agg (Tfound.arr (unl (win ((y8.Regions.xs.length : Nat) : Int) 1 8) 408 ⟨(p : Int), -1⟩)))] [true, true, true, true, true, true, true, true, true, true, true, true, true, true, true, true, true, true, true, true, true, true, true, true, true, true, true, true, true, true, true, true, true, true, true, false, false, false, false] [Value.bool (win y8.Action 0 2) = Value.bool false, Value.bool (win y8.Inputs 0 16) = Value.bool false] [(1, i6 (p : Int)), (2, pt z), (q90v_48 z), (q90v_49 z), (q90v_44 c p), (q90v_46 p), (q90v_45 p), (q90v_41 y8 p)] (.cells #[i6 0, i6 0, i6 0] 73 (0, 0)) [0, 1, 2, 3] ⟨(congrArg Value.bool (Bool.eq_false_iff.2 h11)), (congrArg Value.bool (Bool.eq_false_iff.2 h102)), trivial⟩ ⟨fun w150 hw150 => named_calls w150 c (hc.ext (hw150.ext rfl) (fun _ h => h)) p hp, fun w151 hw151 => at_calls w151 (p : Int), fun w152 hw152 => unless_calls w152 (hL.ext (hw152.ext rfl)) (namedP c p) 405 (p : Int) (-1), fun w153 hw153 => within_calls w153 y8.Action 0 2, fun w154 hw154 => at_calls w154 (p : Int), fun w155 hw155 => unless_calls w155 (hL.ext (hw155.ext rfl)) false 406 (p : Int) (-1), fun w156 hw156 => within_calls w156 y8.Inputs 0 16, fun w157 hw157 => at_calls w157 (p : Int), fun w158 hw158 => unless_calls w158 (hL.ext (hw158.ext rfl)) false 407 (p : Int) (-1), fun w159 hw159 => within_calls w159 ((y8.Regions.xs.length : Nat) : Int) 1 8, fun w160 hw160 => at_calls w160 (p : Int), fun w161 hw161 => unless_calls w161 (hL.ext (hw161.ext rfl)) (win ((y8.Regions.xs.length : Nat) : Int) 1 8) 408 (p : Int) (-1), trivial⟩ ?_ (fun hv164 n162 hn163 => ?_)
         · rintro ⟨⟨n165, b166⟩, hb167⟩
           simp only at hb167
           refine w_one 35 (by as_aux_lemma => kernel_rfl) rfl ?_
           refine wo_eff o0 [6, 1, 2, 4, 5, 49] [] [(6, pt b166), (1, i6 (p : Int)), (2, pt z), (q90v_48 z), (q90v_49 z), (49, .slice (some ⟨n165, 0, none⟩) 4 4)] ⟨w, n165 + 1, [(old0 w), (q90v_36 z c), (q90v_33 z), (q90v_34 z y8), (bk b166 #[i6 0, i6 0, i6 0] 73), (q90v_9 n165 c p y8)]⟩ [0, 1, 2, 3] (by as_aux_lemma => kernel_rfl) rfl trivial (.inr rfl) ?_
           refine w_one 36 (by as_aux_lemma => kernel_rfl) rfl ?_
           refine wo_con 65 #[.slice (some ⟨n165, 0, none⟩) 4 4] (some 50) (.agg (Tfound.arr (fstW [(unl (namedP c p) 405 ⟨(p : Int), -1⟩), (unl false 406 ⟨(p : Int), -1⟩), (unl false 407 ⟨(p : Int), -1⟩), (unl (win ((y8.Regions.xs.length : Nat) : Int) 1 8) 408 ⟨(p : Int), -1⟩)]))) [6, 1, 2, 4, 5, 50] [(6, pt b166), (1, i6 (p : Int)), (2, pt z), (q90v_48 z), (q90v_49 z), (q90v_40 c p y8)] [0, 1, 2, 3] (by as_aux_lemma => kernel_rfl) rfl rfl rfl (fun w168 hw168 => first_calls w168 (hL.ext (hw168.ext rfl)) ⟨some ⟨n165, 0, none⟩, 4, [(unl (namedP c p) 405 ⟨(p : Int), -1⟩), (unl false 406 ⟨(p : Int), -1⟩), (unl false 407 ⟨(p : Int), -1⟩), (unl (win ((y8.Regions.xs.length : Nat) : Int) 1 8) 408 ⟨(p : Int), -1⟩)]⟩ (slok_blk hw168 (i := 5) [(unl (namedP c p) 405 ⟨(p : Int), -1⟩), (unl false 406 ⟨(p : Int), -1⟩), (unl false 407 ⟨(p : Int), -1⟩), (unl (win ((y8.Regions.xs.length : Nat) : Int) 1 8) 408 ⟨(p : Int), -1⟩)]) (show 4 ≤ 1000 by decide)) (fun n169 hn170 => ?_)
           replace hn170 : n165 + 1 ≤ n169 := hn170
           refine w_one 38 (by as_aux_lemma => kernel_rfl) rfl ?_
           refine wo_eff (an 3 4) [6, 1, 2, 4, 5] [Qb b166, Qb b166, Qb b166] [(6, pt b166), (1, i6 (p : Int)), (2, pt z), (q90v_48 z), (q90v_49 z)] ⟨w, n169, [(old0 w), (q90v_36 z c), (q90v_33 z), (q90v_34 z y8), (q90v_25 b166 c p y8), (q90v_9 n165 c p y8)]⟩ [] (by as_aux_lemma => kernel_rfl) rfl ⟨rfl, rfl, rfl, trivial⟩ (.inl rfl) ?_
           refine w_free 39 [0, 1, 2, 3, 4, 5] [(old0 w), (q90v_36 z c), (q90v_33 z), (q90v_34 z y8), (q90v_25 b166 c p y8), (q90v_9 n165 c p y8)] rfl rfl ?_
           refine w_done (by as_aux_lemma => kernel_rfl) ?_
           refine e_keep [1, 2, 4, 5, 6] [(1, i6 (p : Int)), (2, pt z), (q90v_48 z), (q90v_49 z), (6, pt b166)] ?_
           refine e_pick [0, 1, 2, 3, 5, 4] [(old0 w), (q90v_36 z c), (q90v_33 z), (q90v_34 z y8), (q90v_9 n165 c p y8), (q90v_25 b166 c p y8)] rfl rfl ?_
           exact hK ⟨(n169, n165, b166), by first | omega | (dsimp only; omega)⟩
         replace hn163 : z + 3 ≤ n162 := hn163
         refine w_via (fun x : {p : Nat × Nat × Nat // n162 ≤ p.1 ∧ n162 ≤ p.2.1 ∧ n162 ≤ p.2.2} => [(1, i6 (p : Int)), (2, pt z), (q90v_48 z), (q90v_49 z), (6, pt x.1.2.1), (q90v_40 c p y8)]) (fun x => ⟨w, x.1.1, [(old0 w), (q90v_36 z c), (q90v_33 z), (q90v_34 z y8), (.blk x.1.2.1 (.cells #[i6 0, i6 0, i6 0] 73 (0, 0)) true), (.blk x.1.2.2 (.cells #[i6 ((unl (namedP c p) 405 ⟨(p : Int), -1⟩).e), i6 ((unl (namedP c p) 405 ⟨(p : Int), -1⟩).where_.First), i6 ((unl (namedP c p) 405 ⟨(p : Int), -1⟩).where_.Second), i6 ((unl false 406 ⟨(p : Int), -1⟩).e), i6 ((unl false 406 ⟨(p : Int), -1⟩).where_.First), i6 ((unl false 406 ⟨(p : Int), -1⟩).where_.Second), i6 ((unl false 407 ⟨(p : Int), -1⟩).e), i6 ((unl false 407 ⟨(p : Int), -1⟩).where_.First), i6 ((unl false 407 ⟨(p : Int), -1⟩).where_.Second), i6 ((unl (win ((y8.Regions.xs.length : Nat) : Int) 1 8) 408 ⟨(p : Int), -1⟩).e), i6 ((unl (win ((y8.Regions.xs.length : Nat) : Int) 1 8) 408 ⟨(p : Int), -1⟩).where_.First), i6 ((unl (win ((y8.Regions.xs.length : Nat) : Int) 1 8) 408 ⟨(p : Int), -1⟩).where_.Second)] 73 (0, 0)) true)]⟩) 1 [true, true, true, true, true, true, true, true, true, true, true, true, true, true, true, true, true, true, true, true, true, true, true, true, true, true, true, true, true, true, true, true, true, true, true, true, true, true, false] ?_ (fun hv174 => ?_)
         · rintro ⟨⟨n171, b172, b173⟩, hb175⟩
           simp only at hb175
           show Wg _ _ [(1, i6 (p : Int)), (2, pt z), (q90v_48 z), (q90v_49 z), (6, pt b172), (q90v_40 c p y8)] _ ⟨w, n171, [(old0 w), (q90v_36 z c), (q90v_33 z), (q90v_34 z y8), (bk b172 #[i6 0, i6 0, i6 0] 73), (q90v_10 b173 c p y8)]⟩ _ _ _ _ _ _ _
           refine w_one 38 (by as_aux_lemma => kernel_rfl) rfl ?_
           refine wo_eff (an 3 4) [1, 2, 4, 5, 6] [Qb b172, Qb b172, Qb b172] [(1, i6 (p : Int)), (2, pt z), (q90v_48 z), (q90v_49 z), (6, pt b172)] ⟨w, n171, [(old0 w), (q90v_36 z c), (q90v_33 z), (q90v_34 z y8), (q90v_26 b172 c p y8), (q90v_10 b173 c p y8)]⟩ [] (by as_aux_lemma => kernel_rfl) rfl ⟨rfl, rfl, rfl, trivial⟩ (.inl rfl) ?_
           refine w_free 39 [0, 1, 2, 3, 4, 5] [(old0 w), (q90v_36 z c), (q90v_33 z), (q90v_34 z y8), (q90v_26 b172 c p y8), (q90v_10 b173 c p y8)] rfl rfl ?_
           refine w_done (by as_aux_lemma => kernel_rfl) ?_
           refine e_keep [1, 2, 4, 5, 6] [(1, i6 (p : Int)), (2, pt z), (q90v_48 z), (q90v_49 z), (6, pt b172)] ?_
           refine e_pick [0, 1, 2, 3, 5, 4] [(old0 w), (q90v_36 z c), (q90v_33 z), (q90v_34 z y8), (q90v_10 b173 c p y8), (q90v_26 b172 c p y8)] rfl rfl ?_
           exact hK ⟨(n171, b173, b172), by first | omega | (dsimp only; omega)⟩
         refine w_via (fun x : {p : Nat × Nat × Nat // n162 ≤ p.1 ∧ n162 ≤ p.2.1 ∧ n162 ≤ p.2.2} => [(1, i6 (p : Int)), (2, pt z), (q90v_48 z), (q90v_49 z), (6, pt x.1.2.1), (49, .slice (some ⟨x.1.2.2, 0, none⟩) 4 4)]) (fun x => ⟨w, x.1.1, [(old0 w), (q90v_36 z c), (q90v_33 z), (q90v_34 z y8), (.blk x.1.2.1 (.cells #[i6 0, i6 0, i6 0] 73 (0, 0)) true), (.blk x.1.2.2 (.cells #[i6 ((unl (namedP c p) 405 ⟨(p : Int), -1⟩).e), i6 ((unl (namedP c p) 405 ⟨(p : Int), -1⟩).where_.First), i6 ((unl (namedP c p) 405 ⟨(p : Int), -1⟩).where_.Second), i6 ((unl false 406 ⟨(p : Int), -1⟩).e), i6 ((unl false 406 ⟨(p : Int), -1⟩).where_.First), i6 ((unl false 406 ⟨(p : Int), -1⟩).where_.Second), i6 ((unl false 407 ⟨(p : Int), -1⟩).e), i6 ((unl false 407 ⟨(p : Int), -1⟩).where_.First), i6 ((unl false 407 ⟨(p : Int), -1⟩).where_.Second), i6 ((unl (win ((y8.Regions.xs.length : Nat) : Int) 1 8) 408 ⟨(p : Int), -1⟩).e), i6 ((unl (win ((y8.Regions.xs.length : Nat) : Int) 1 8) 408 ⟨(p : Int), -1⟩).where_.First), i6 ((unl (win ((y8.Regions.xs.length : Nat) : Int) 1 8) 408 ⟨(p : Int), -1⟩).where_.Second)] 73 (0, 0)) true)]⟩) 2 [true, true, true, true, true, true, true, true, true, true, true, true, true, true, true, true, true, true, true, true, true, true, true, true, true, true, true, true, true, true, true, true, true, true, true, true, false, true, false] ?_ (fun hv179 => ?_)
         · rintro ⟨⟨n176, b177, b178⟩, hb180⟩
           simp only at hb180
           show Wg _ _ [(1, i6 (p : Int)), (2, pt z), (q90v_48 z), (q90v_49 z), (6, pt b177), (49, .slice (some ⟨b178, 0, none⟩) 4 4)] _ ⟨w, n176, [(old0 w), (q90v_36 z c), (q90v_33 z), (q90v_34 z y8), (bk b177 #[i6 0, i6 0, i6 0] 73), (bk b178 #[i6 ((unl (namedP c p) 405 ⟨(p : Int), -1⟩).e), i6 ((unl (namedP c p) 405 ⟨(p : Int), -1⟩).where_.First), i6 ((unl (namedP c p) 405 ⟨(p : Int), -1⟩).where_.Second), i6 ((unl false 406 ⟨(p : Int), -1⟩).e), i6 ((unl false 406 ⟨(p : Int), -1⟩).where_.First), i6 ((unl false 406 ⟨(p : Int), -1⟩).where_.Second), i6 ((unl false 407 ⟨(p : Int), -1⟩).e), i6 ((unl false 407 ⟨(p : Int), -1⟩).where_.First), i6 ((unl false 407 ⟨(p : Int), -1⟩).where_.Second), i6 ((unl (win ((y8.Regions.xs.length : Nat) : Int) 1 8) 408 ⟨(p : Int), -1⟩).e), i6 ((unl (win ((y8.Regions.xs.length : Nat) : Int) 1 8) 408 ⟨(p : Int), -1⟩).where_.First), i6 ((unl (win ((y8.Regions.xs.length : Nat) : Int) 1 8) 408 ⟨(p : Int), -1⟩).where_.Second)] 73)]⟩ _ _ _ _ _ _ _
           refine w_one 36 (by as_aux_lemma => kernel_rfl) rfl ?_
           refine wo_con 65 #[.slice (some ⟨b178, 0, none⟩) 4 4] (some 50) (.agg (Tfound.arr (fstW [(unl (namedP c p) 405 ⟨(p : Int), -1⟩), (unl false 406 ⟨(p : Int), -1⟩), (unl false 407 ⟨(p : Int), -1⟩), (unl (win ((y8.Regions.xs.length : Nat) : Int) 1 8) 408 ⟨(p : Int), -1⟩)]))) [1, 2, 4, 5, 6, 50] [(1, i6 (p : Int)), (2, pt z), (q90v_48 z), (q90v_49 z), (6, pt b177), (q90v_40 c p y8)] [0, 1, 2, 3] (by as_aux_lemma => kernel_rfl) rfl rfl rfl (fun w181 hw181 => first_calls w181 (hL.ext (hw181.ext rfl)) ⟨some ⟨b178, 0, none⟩, 4, [(unl (namedP c p) 405 ⟨(p : Int), -1⟩), (unl false 406 ⟨(p : Int), -1⟩), (unl false 407 ⟨(p : Int), -1⟩), (unl (win ((y8.Regions.xs.length : Nat) : Int) 1 8) 408 ⟨(p : Int), -1⟩)]⟩ (slok_blk hw181 (i := 5) [(unl (namedP c p) 405 ⟨(p : Int), -1⟩), (unl false 406 ⟨(p : Int), -1⟩), (unl false 407 ⟨(p : Int), -1⟩), (unl (win ((y8.Regions.xs.length : Nat) : Int) 1 8) 408 ⟨(p : Int), -1⟩)]) (show 4 ≤ 1000 by decide)) (fun n182 hn183 => ?_)
           replace hn183 : n176 ≤ n182 := hn183
           refine w_keep [1, 2, 4, 5, 6, 50] [(1, i6 (p : Int)), (2, pt z), (q90v_48 z), (q90v_49 z), (6, pt b177), (q90v_40 c p y8)] ?_
           exact hv174 ⟨(n182, b177, b178), by first | omega | (dsimp only; omega)⟩
         refine w_all [35, 37] (by as_aux_lemma => kernel_rfl) rfl rfl ?_
         refine List.forall_mem_cons.2 ⟨?_, List.forall_mem_cons.2 ⟨?_, fun _ h => absurd h List.not_mem_nil⟩⟩
         · refine wo_eff o0 [1, 2, 4, 5, 49] [] [(1, i6 (p : Int)), (2, pt z), (q90v_48 z), (q90v_49 z), (49, .slice (some ⟨n162, 0, none⟩) 4 4)] ⟨w, n162 + 1, [(old0 w), (q90v_36 z c), (q90v_33 z), (q90v_34 z y8), (q90v_11 n162 c p y8)]⟩ [0, 1, 2, 3] (by as_aux_lemma => kernel_rfl) rfl trivial (.inr rfl) ?_
           refine w_all [36, 37] (by as_aux_lemma => kernel_rfl) rfl rfl ?_
           refine List.forall_mem_cons.2 ⟨?_, List.forall_mem_cons.2 ⟨?_, fun _ h => absurd h List.not_mem_nil⟩⟩
           · refine wo_con 65 #[.slice (some ⟨n162, 0, none⟩) 4 4] (some 50) (.agg (Tfound.arr (fstW [(unl (namedP c p) 405 ⟨(p : Int), -1⟩), (unl false 406 ⟨(p : Int), -1⟩), (unl false 407 ⟨(p : Int), -1⟩), (unl (win ((y8.Regions.xs.length : Nat) : Int) 1 8) 408 ⟨(p : Int), -1⟩)]))) [1, 2, 4, 5, 50] [(1, i6 (p : Int)), (2, pt z), (q90v_48 z), (q90v_49 z), (q90v_40 c p y8)] [0, 1, 2, 3] (by as_aux_lemma => kernel_rfl) rfl rfl rfl (fun w184 hw184 => first_calls w184 (hL.ext (hw184.ext rfl)) ⟨some ⟨n162, 0, none⟩, 4, [(unl (namedP c p) 405 ⟨(p : Int), -1⟩), (unl false 406 ⟨(p : Int), -1⟩), (unl false 407 ⟨(p : Int), -1⟩), (unl (win ((y8.Regions.xs.length : Nat) : Int) 1 8) 408 ⟨(p : Int), -1⟩)]⟩ (slok_blk hw184 (i := 4) [(unl (namedP c p) 405 ⟨(p : Int), -1⟩), (unl false 406 ⟨(p : Int), -1⟩), (unl false 407 ⟨(p : Int), -1⟩), (unl (win ((y8.Regions.xs.length : Nat) : Int) 1 8) 408 ⟨(p : Int), -1⟩)]) (show 4 ≤ 1000 by decide)) (fun n185 hn186 => ?_)
             replace hn186 : n162 + 1 ≤ n185 := hn186
             refine w_one 37 (by as_aux_lemma => kernel_rfl) rfl ?_
             refine wo_eff o0 [1, 2, 4, 5, 50, 6] [] [(1, i6 (p : Int)), (2, pt z), (q90v_48 z), (q90v_49 z), (q90v_40 c p y8), (6, pt n185)] ⟨w, n185 + 1, [(old0 w), (q90v_36 z c), (q90v_33 z), (q90v_34 z y8), (q90v_11 n162 c p y8), (bk n185 #[i6 0, i6 0, i6 0] 73)]⟩ [0, 1, 2, 3] (by as_aux_lemma => kernel_rfl) rfl trivial (.inr rfl) ?_
             refine w_pick [0, 1, 2, 3, 5, 4] [(old0 w), (q90v_36 z c), (q90v_33 z), (q90v_34 z y8), (bk n185 #[i6 0, i6 0, i6 0] 73), (q90v_11 n162 c p y8)] rfl rfl ?_
             refine w_keep [1, 2, 4, 5, 6, 50] [(1, i6 (p : Int)), (2, pt z), (q90v_48 z), (q90v_49 z), (6, pt n185), (q90v_40 c p y8)] ?_
             exact hv174 ⟨(n185 + 1, n185, n162), by first | omega | (dsimp only; omega)⟩
           · refine wo_eff o0 [1, 2, 4, 5, 49, 6] [] [(1, i6 (p : Int)), (2, pt z), (q90v_48 z), (q90v_49 z), (49, .slice (some ⟨n162, 0, none⟩) 4 4), (6, pt (n162 + 1))] ⟨w, n162 + 2, [(old0 w), (q90v_36 z c), (q90v_33 z), (q90v_34 z y8), (q90v_11 n162 c p y8), (bk (n162 + 1) #[i6 0, i6 0, i6 0] 73)]⟩ [0, 1, 2, 3] (by as_aux_lemma => kernel_rfl) rfl trivial (.inr rfl) ?_
             refine w_pick [0, 1, 2, 3, 5, 4] [(old0 w), (q90v_36 z c), (q90v_33 z), (q90v_34 z y8), (bk (n162 + 1) #[i6 0, i6 0, i6 0] 73), (q90v_11 n162 c p y8)] rfl rfl ?_
             refine w_keep [1, 2, 4, 5, 6, 49] [(1, i6 (p : Int)), (2, pt z), (q90v_48 z), (q90v_49 z), (6, pt (n162 + 1)), (49, .slice (some ⟨n162, 0, none⟩) 4 4)] ?_
             exact hv179 ⟨(n162 + 2, n162 + 1, n162), by first | omega | (dsimp only; omega)⟩
         · refine wo_eff o0 [1, 2, 4, 5, 19, 30, 41, 48, 6] [] [(1, i6 (p : Int)), (2, pt z), (q90v_48 z), (q90v_49 z), (q90v_44 c p), (q90v_46 p), (q90v_45 p), (q90v_41 y8 p), (6, pt n162)] ⟨w, n162 + 1, [(old0 w), (q90v_36 z c), (q90v_33 z), (q90v_34 z y8), (bk n162 #[i6 0, i6 0, i6 0] 73)]⟩ [0, 1, 2, 3] (by as_aux_lemma => kernel_rfl) rfl trivial (.inr rfl) ?_
           refine w_keep [6, 1, 2, 4, 5, 19, 30, 41, 48] [(6, pt n162), (1, i6 (p : Int)), (2, pt z), (q90v_48 z), (q90v_49 z), (q90v_44 c p), (q90v_46 p), (q90v_45 p), (q90v_41 y8 p)] ?_
           exact hv164 ⟨(n162 + 1, n162), by first | omega | (dsimp only; omega)⟩
       rintro ⟨⟨n147, b148, b149⟩, hJ187⟩
       simp only at hJ187
       show E _ _ [(1, i6 (p : Int)), (2, pt z), (q90v_48 z), (q90v_49 z), (6, pt b149)] _ ⟨w, n147, [(old0 w), (q90v_36 z c), (q90v_33 z), (q90v_34 z y8), (bk b148 #[i6 ((unl (namedP c p) 405 ⟨(p : Int), -1⟩).e), i6 ((unl (namedP c p) 405 ⟨(p : Int), -1⟩).where_.First), i6 ((unl (namedP c p) 405 ⟨(p : Int), -1⟩).where_.Second), i6 ((unl false 406 ⟨(p : Int), -1⟩).e), i6 ((unl false 406 ⟨(p : Int), -1⟩).where_.First), i6 ((unl false 406 ⟨(p : Int), -1⟩).where_.Second), i6 ((unl false 407 ⟨(p : Int), -1⟩).e), i6 ((unl false 407 ⟨(p : Int), -1⟩).where_.First), i6 ((unl false 407 ⟨(p : Int), -1⟩).where_.Second), i6 ((unl (win ((y8.Regions.xs.length : Nat) : Int) 1 8) 408 ⟨(p : Int), -1⟩).e), i6 ((unl (win ((y8.Regions.xs.length : Nat) : Int) 1 8) 408 ⟨(p : Int), -1⟩).where_.First), i6 ((unl (win ((y8.Regions.xs.length : Nat) : Int) 1 8) 408 ⟨(p : Int), -1⟩).where_.Second)] 73), (q90v_27 b149 c p y8)]⟩ _ _ _
       refine e_pick [0, 1, 2, 3, 5] [(old0 w), (q90v_36 z c), (q90v_33 z), (q90v_34 z y8), (q90v_27 b149 c p y8)] rfl rfl ?_
       have eA : fstW (partA c p) = (fstW [(unl (namedP c p) 405 ⟨(p : Int), -1⟩), (unl false 406 ⟨(p : Int), -1⟩), (unl false 407 ⟨(p : Int), -1⟩), (unl (win ((y8.Regions.xs.length : Nat) : Int) 1 8) 408 ⟨(p : Int), -1⟩)]) := by have e0 : parC c p = y8 := hy8.symm; unfold partA; simp only [e0]; simp [h11, h102]
       refine e_keep [1, 2, 4, 5, 6] [(1, i6 (p : Int)), (2, pt z), (q90v_48 z), (q90v_49 z), (6, pt b149)] ?_
       refine e_inv (fun a w' hs => ⟨n147, b149, by omega, (by (try dsimp only [q90v_0, q90v_1, q90v_2, q90v_3, q90v_4, q90v_5, q90v_6, q90v_7, q90v_8, q90v_9, q90v_10, q90v_11, q90v_12, q90v_13, q90v_14, q90v_15, q90v_16, q90v_17, q90v_18, q90v_19, q90v_20, q90v_21, q90v_22, q90v_23, q90v_24, q90v_25, q90v_26, q90v_27, q90v_28, q90v_29, q90v_30, q90v_31, q90v_32, q90v_33, q90v_34, q90v_35, q90v_36, q90v_37, q90v_38, q90v_39, q90v_40, q90v_41, q90v_42, q90v_43, q90v_44, q90v_45, q90v_46, q90v_47, q90v_48, q90v_49, q90v_50, q90v_51, q90v_52] at hs ⊢); rw [eA]; exact hs)⟩)
 · rintro a w' ⟨n9, b6, hn10, hs⟩
   refine (?_ : G Tryd.prog 118 [(1, i6 (p : Int)), (2, pt z), (q90v_48 z), (q90v_49 z), (q90v_50 b6)] [] ⟨w, n9, [(old0 w), (q90v_36 z c), (q90v_33 z), (q90v_34 z y8), (.blk b6 (.cells (Tfound.arr (fstW (partA c p))) 73 (0, 0)) true)]⟩ _ _ _) a w' hs
   clear hs a w'
   refine g_cut (fun a w' => ∃ (n188 : Nat), n9 ≤ n188 ∧ St 118 [(1, i6 (p : Int)), (2, pt z), (q90v_48 z), (q90v_49 z), (q90v_50 b6)] [] ⟨w, n188, (q90v_52 w z c y8 b6 p)⟩ a w') ?_ ?_
   · refine q_cS 5 0 [] [[o0]] [] [(1, i6 (p : Int)), (2, pt z), (q90v_48 z), (q90v_49 z), (q90v_50 b6), (7, i6 0)] rfl trivial ?_
     refine g_loop (fun m a w' => ∃ (n191 : Nat) (k : Nat), m = y8.Regions.xs.length - k ∧ n9 ≤ n191 ∧ (k ≤ y8.Regions.xs.length) ∧ St 118 [(1, i6 (p : Int)), (2, pt z), (q90v_48 z), (q90v_49 z), (q90v_50 b6), (7, i6 (k : Int))] [] ⟨w, n191, [(old0 w), (q90v_36 z c), (q90v_33 z), (q90v_34 z y8), (.blk b6 (.cells (Tfound.arr (thenF (fstW (partA c p)) (regQ c p) k)) 73 (0, 0)) true)]⟩ a w') (y8.Regions.xs.length - 0) ?_ ?_
     · intro a w' hs; exact ⟨n9, 0, rfl, Nat.le_refl _, Nat.zero_le _, (by (try dsimp only [q90v_0, q90v_1, q90v_2, q90v_3, q90v_4, q90v_5, q90v_6, q90v_7, q90v_8, q90v_9, q90v_10, q90v_11, q90v_12, q90v_13, q90v_14, q90v_15, q90v_16, q90v_17, q90v_18, q90v_19, q90v_20, q90v_21, q90v_22, q90v_23, q90v_24, q90v_25, q90v_26, q90v_27, q90v_28, q90v_29, q90v_30, q90v_31, q90v_32, q90v_33, q90v_34, q90v_35, q90v_36, q90v_37, q90v_38, q90v_39, q90v_40, q90v_41, q90v_42, q90v_43, q90v_44, q90v_45, q90v_46, q90v_47, q90v_48, q90v_49, q90v_50, q90v_51, q90v_52] at hs ⊢); rw [thenF_zero]; exact hs)⟩
     · rintro m a w' ⟨n191, k, rfl, hn190, hkk, hs⟩
       refine (?_ : G Tryd.prog 118 [(1, i6 (p : Int)), (2, pt z), (q90v_48 z), (q90v_49 z), (q90v_50 b6), (7, i6 (k : Int))] [] ⟨w, n191, [(old0 w), (q90v_36 z c), (q90v_33 z), (q90v_34 z y8), (.blk b6 (.cells (Tfound.arr (thenF (fstW (partA c p)) (regQ c p) k)) 73 (0, 0)) true)]⟩ _ _ _) a w' hs
       clear hs a w'
       refine g_seq <| g_seq ?_
       by_cases h192 : ((k : Int) : Int) < ((y8.Regions.xs.length : Nat) : Int)
       · by_cases h193 : (((thenF (fstW (partA c p)) (regQ c p) k).e : Int) == (0 : Int) && ((((thenF (fstW (partA c p)) (regQ c p) k).where_.First : Int) == (0 : Int) && (((thenF (fstW (partA c p)) (regQ c p) k).where_.Second : Int) == (0 : Int) && true)) && true)) = true
         · refine q_cS 9 3 [1] [[o0, o0, (a1 3), o0, oT, o0, (an 3 4), (oa [.via 0 (i6 0), .via 0 (i6 0), .via 0 (i6 0)]), ⟨.seq true, none⟩, o0], [(an 7 1), o0, o0]] [Qb (z + 2), BT (((k : Int) : Int) < ((y8.Regions.xs.length : Nat) : Int)), Qb b6, Qb b6, Qb b6, Old w 0 0 (i6 0), Old w 0 1 (i6 0), Old w 0 2 (i6 0), (((thenF (fstW (partA c p)) (regQ c p) k).e : Int) == (0 : Int) && ((((thenF (fstW (partA c p)) (regQ c p) k).where_.First : Int) == (0 : Int) && (((thenF (fstW (partA c p)) (regQ c p) k).where_.Second : Int) == (0 : Int) && true)) && true)) = true, Qb z, Qb z, Qb z, Qb z, Qb z, Qb z, Qb z] [(1, i6 (p : Int)), (2, pt z), (q90v_48 z), (q90v_49 z), (q90v_50 b6), (7, i6 (k : Int)), (63, .agg (TConfig.arr c)), (64, i6 (p : Int)), (65, i6 (k : Int))] rfl ⟨rfl, bt (by omega), rfl, rfl, rfl, old_cell' (hL.2 0 _ rfl), old_cell' (hL.2 1 _ rfl), old_cell' (hL.2 2 _ rfl), h193, rfl, rfl, rfl, rfl, rfl, rfl, rfl, trivial⟩ ?_
           refine l_call [] [] 68 #[.agg (TConfig.arr c), i6 (p : Int), i6 (k : Int)] (some 66) trivial ?_
           intro w194 hw194
           refine (region_calls w194 (hL.ext (hw194.ext rfl)) c (hc.ext (hw194.ext rfl) (fun _ h => h)) p k hp (by rw [← hy8]; omega) hFr (bd_all hFr hpf (thenF_all (fine_eq.1 h193)).2)).mono ?_
           rintro e w195 ⟨rfl, hkw195⟩
           have hnw195 : n191 ≤ w195.heap.size := size_of hw194 hkw195
           refine ⟨_, _, rfl, hw194.keeps hkw195, ?_⟩
           refine q_r 5 0 [] [[(an 3 4)], [o0, (ov (i6 ((k + 1 : Nat) : Int))), o0]] [Qb b6, Qb b6, Qb b6, Wr (((k : Int) : Int) + 1) (((k + 1 : Nat) : Int))] [(1, i6 (p : Int)), (2, pt z), (q90v_48 z), (q90v_49 z), (q90v_50 b6), (7, i6 ((k + 1 : Nat) : Int))] ⟨w, w195.heap.size, [(old0 w), (q90v_36 z c), (q90v_33 z), (q90v_34 z y8), (bk b6 (Tfound.arr (regQ c p k)) 73)]⟩ rfl ⟨rfl, rfl, rfl, wrI, trivial⟩ ?_
           have eS := thenF_succ (fine_eq.1 h193)
           refine e_keep [1, 2, 4, 5, 6, 7] [(1, i6 (p : Int)), (2, pt z), (q90v_48 z), (q90v_49 z), (q90v_50 b6), (7, i6 ((k + 1 : Nat) : Int))] ?_
           refine e_inv (fun a w' hs => ⟨y8.Regions.xs.length - (k + 1), by omega, w195.heap.size, (k + 1), rfl, by omega, by omega, (by (try dsimp only [q90v_0, q90v_1, q90v_2, q90v_3, q90v_4, q90v_5, q90v_6, q90v_7, q90v_8, q90v_9, q90v_10, q90v_11, q90v_12, q90v_13, q90v_14, q90v_15, q90v_16, q90v_17, q90v_18, q90v_19, q90v_20, q90v_21, q90v_22, q90v_23, q90v_24, q90v_25, q90v_26, q90v_27, q90v_28, q90v_29, q90v_30, q90v_31, q90v_32, q90v_33, q90v_34, q90v_35, q90v_36, q90v_37, q90v_38, q90v_39, q90v_40, q90v_41, q90v_42, q90v_43, q90v_44, q90v_45, q90v_46, q90v_47, q90v_48, q90v_49, q90v_50, q90v_51, q90v_52] at hs ⊢); rw [eS]; exact hs)⟩)
         · refine q_cS 8 0 [0] [[o0, o0, (a1 3), o0, oT, o0, (an 3 4), (oa [.via 0 (i6 0), .via 0 (i6 0), .via 0 (i6 0)]), ⟨.seq false, none⟩, o0]] [Qb (z + 2), BT (((k : Int) : Int) < ((y8.Regions.xs.length : Nat) : Int)), Qb b6, Qb b6, Qb b6, Old w 0 0 (i6 0), Old w 0 1 (i6 0), Old w 0 2 (i6 0), (((thenF (fstW (partA c p)) (regQ c p) k).e : Int) == (0 : Int) && ((((thenF (fstW (partA c p)) (regQ c p) k).where_.First : Int) == (0 : Int) && (((thenF (fstW (partA c p)) (regQ c p) k).where_.Second : Int) == (0 : Int) && true)) && true)) = false] [(1, i6 (p : Int)), (2, pt z), (q90v_48 z), (q90v_49 z), (q90v_50 b6), (7, i6 (k : Int)), (60, .bool false)] rfl ⟨rfl, bt (by omega), rfl, rfl, rfl, old_cell' (hL.2 0 _ rfl), old_cell' (hL.2 1 _ rfl), old_cell' (hL.2 2 _ rfl), (Bool.eq_false_iff.2 h193), trivial⟩ ?_
           have eB : (partB c p) = (thenF (fstW (partA c p)) (regQ c p) k) := thenF_stop (fun e => h193 (fine_eq.2 e)) (by dsimp only [parC]; rw [← hy8]; omega)
           refine e_keep [1, 2, 4, 5, 6] [(1, i6 (p : Int)), (2, pt z), (q90v_48 z), (q90v_49 z), (q90v_50 b6)] ?_
           refine e_inv (fun a w' hs => ⟨n191, by omega, (by (try dsimp only [q90v_0, q90v_1, q90v_2, q90v_3, q90v_4, q90v_5, q90v_6, q90v_7, q90v_8, q90v_9, q90v_10, q90v_11, q90v_12, q90v_13, q90v_14, q90v_15, q90v_16, q90v_17, q90v_18, q90v_19, q90v_20, q90v_21, q90v_22, q90v_23, q90v_24, q90v_25, q90v_26, q90v_27, q90v_28, q90v_29, q90v_30, q90v_31, q90v_32, q90v_33, q90v_34, q90v_35, q90v_36, q90v_37, q90v_38, q90v_39, q90v_40, q90v_41, q90v_42, q90v_43, q90v_44, q90v_45, q90v_46, q90v_47, q90v_48, q90v_49, q90v_50, q90v_51, q90v_52] at hs ⊢); rw [eB]; exact hs)⟩)
       · refine q_cS 8 0 [0] [[o0, o0, (a1 3), o0, oF, o0, o0]] [Qb (z + 2), BF (((k : Int) : Int) < ((y8.Regions.xs.length : Nat) : Int))] [(1, i6 (p : Int)), (2, pt z), (q90v_48 z), (q90v_49 z), (q90v_50 b6), (7, i6 (k : Int)), (60, .bool false)] rfl ⟨rfl, bf (by omega), trivial⟩ ?_
         have eB : (partB c p) = (thenF (fstW (partA c p)) (regQ c p) k) := congrArg (thenF _ _) (by dsimp only [parC]; rw [← hy8]; omega)
         refine e_keep [1, 2, 4, 5, 6] [(1, i6 (p : Int)), (2, pt z), (q90v_48 z), (q90v_49 z), (q90v_50 b6)] ?_
         refine e_inv (fun a w' hs => ⟨n191, by omega, (by (try dsimp only [q90v_0, q90v_1, q90v_2, q90v_3, q90v_4, q90v_5, q90v_6, q90v_7, q90v_8, q90v_9, q90v_10, q90v_11, q90v_12, q90v_13, q90v_14, q90v_15, q90v_16, q90v_17, q90v_18, q90v_19, q90v_20, q90v_21, q90v_22, q90v_23, q90v_24, q90v_25, q90v_26, q90v_27, q90v_28, q90v_29, q90v_30, q90v_31, q90v_32, q90v_33, q90v_34, q90v_35, q90v_36, q90v_37, q90v_38, q90v_39, q90v_40, q90v_41, q90v_42, q90v_43, q90v_44, q90v_45, q90v_46, q90v_47, q90v_48, q90v_49, q90v_50, q90v_51, q90v_52] at hs ⊢); rw [eB]; exact hs)⟩)
   · rintro a w' ⟨n188, hn189, hs⟩
     refine (?_ : G Tryd.prog 118 [(1, i6 (p : Int)), (2, pt z), (q90v_48 z), (q90v_49 z), (q90v_50 b6)] [] ⟨w, n188, (q90v_52 w z c y8 b6 p)⟩ _ _ _) a w' hs
     clear hs a w'
     refine g_seq <| g_seq ?_
     by_cases h196 : (((partB c p).e : Int) == (0 : Int) && ((((partB c p).where_.First : Int) == (0 : Int) && (((partB c p).where_.Second : Int) == (0 : Int) && true)) && true)) = true
     · have hB0 := fine_eq.1 h196
       refine q_cS 6 0 [0] [[(an 3 4), (oa [.via 0 (i6 0), .via 0 (i6 0), .via 0 (i6 0)]), ⟨.seq true, none⟩]] [Qb b6, Qb b6, Qb b6, Old w 0 0 (i6 0), Old w 0 1 (i6 0), Old w 0 2 (i6 0), (((partB c p).e : Int) == (0 : Int) && ((((partB c p).where_.First : Int) == (0 : Int) && (((partB c p).where_.Second : Int) == (0 : Int) && true)) && true)) = true] [(1, i6 (p : Int)), (2, pt z), (q90v_48 z), (q90v_49 z), (q90v_50 b6), (69, .bool false)] rfl ⟨rfl, rfl, rfl, old_cell' (hL.2 0 _ rfl), old_cell' (hL.2 1 _ rfl), old_cell' (hL.2 2 _ rfl), h196, trivial⟩ ?_
       refine g_cut (fun a w' => ∃ (n197 : Nat), n188 ≤ n197 ∧ St 118 [(1, i6 (p : Int)), (2, pt z), (q90v_48 z), (q90v_49 z), (q90v_50 b6)] [] ⟨w, n197, [(old0 w), (q90v_36 z c), (q90v_33 z), (q90v_34 z y8), (.blk b6 (.cells (Tfound.arr (fstW (partE c p))) 73 (0, 0)) true)]⟩ a w') ?_ ?_
       · by_cases h199 : (win y8.Entry 0 4095) = true
         · have hd200 := win_yes h199
           by_cases h201 : (8 : Int) < ((y8.Ports.xs.length : Nat) : Int)
           · refine g_draw 19 [0, 1, 2, 3, 4] (q90v_52 w z c y8 b6 p) rfl rfl ?_
             refine w_chainN [.tk 0 o0, .tk 1 (a1 3), .tk 7 o0, .tk 10 o0, .tk 11 (a1 3), .tk 12 o0, .tk 13 oF, .tk 14 o0, .cl 2 (.bool (win y8.Entry 0 4095)), .tk 3 (ov (.bool true)), .tk 4 (an 8 3), .cl 5 (.bool (runsP y8)), .tk 6 o0, .cl 8 (.agg #[i6 (p : Int), i6 (-1)]), .cl 9 (.agg (Tfound.arr (unl (runsP y8) 412 ⟨(p : Int), -1⟩))), .cl 15 (.agg #[i6 (p : Int), i6 (-1)]), .cl 16 (.agg (Tfound.arr (unl false 413 ⟨(p : Int), -1⟩)))] [1, 2, 4, 5, 6, 80, 87] [(42, #[i6 y8.Entry, i6 0, i6 4095], .bool (win y8.Entry 0 4095)), (69, #[.agg (TPartition.arr y8)], .bool (runsP y8)), (67, #[i6 (p : Int)], .agg #[i6 (p : Int), i6 (-1)]), (41, #[.bool (runsP y8), i6 412, .agg #[i6 (p : Int), i6 (-1)]], .agg (Tfound.arr (unl (runsP y8) 412 ⟨(p : Int), -1⟩))), (67, #[i6 (p : Int)], .agg #[i6 (p : Int), i6 (-1)]), (41, #[.bool false, i6 413, .agg #[i6 (p : Int), i6 (-1)]], .agg (Tfound.arr (unl false 413 ⟨(p : Int), -1⟩)))] [true, true, true, true, true, true, true, true, true, true, true, true, true, true, true, true, true, false, false, false] [Qb (z + 2), Qb (z + 2), BF ((((y8.Ports.xs.length : Nat) : Int) : Int) ≤ 8), Value.bool (win y8.Entry 0 4095) = Value.bool true, Qb (z + 2), Qb (z + 2), Qb (z + 2), Qb (z + 2), Qb (z + 2), Qb (z + 2), Qb (z + 2), Qb (z + 2)] [(1, i6 (p : Int)), (2, pt z), (q90v_48 z), (q90v_49 z), (q90v_50 b6), (80, .agg (Tfound.arr (unl (runsP y8) 412 ⟨(p : Int), -1⟩))), (87, .agg (Tfound.arr (unl false 413 ⟨(p : Int), -1⟩)))] [0, 1, 2, 3, 4] ⟨rfl, rfl, bf (by omega), (congrArg Value.bool h199), rfl, rfl, rfl, rfl, rfl, rfl, rfl, rfl, trivial⟩ ⟨fun w202 hw202 => within_calls w202 y8.Entry 0 4095, fun w203 hw203 => runs_calls w203 y8 (he7.ext (hw203.ext rfl) (fun _ h => h)) (by omega) (fun k hk => by have hz := partB_bd hFr.2 hB0 k (by dsimp only [parC]; rw [← hy8]; exact hk); dsimp only [regC] at hz; rw [← hy8] at hz; exact ⟨hz.1, hz.2.1⟩), fun w204 hw204 => at_calls w204 (p : Int), fun w205 hw205 => unless_calls w205 (hL.ext (hw205.ext rfl)) (runsP y8) 412 (p : Int) (-1), fun w206 hw206 => at_calls w206 (p : Int), fun w207 hw207 => unless_calls w207 (hL.ext (hw207.ext rfl)) false 413 (p : Int) (-1), trivial⟩ (fun n208 hn209 => ?_)
             replace hn209 : n188 ≤ n208 := hn209
             refine w_one 17 (by as_aux_lemma => kernel_rfl) rfl ?_
             refine wo_eff o0 [1, 2, 4, 5, 6, 88] [] [(1, i6 (p : Int)), (2, pt z), (q90v_48 z), (q90v_49 z), (q90v_50 b6), (88, .slice (some ⟨n208, 0, none⟩) 2 2)] ⟨w, n208 + 1, [(old0 w), (q90v_36 z c), (q90v_33 z), (q90v_34 z y8), (q90v_35 b6 c p), (q90v_12 n208 y8 p)]⟩ [0, 1, 2, 3, 4] (by as_aux_lemma => kernel_rfl) rfl trivial (.inr rfl) ?_
             refine w_one 18 (by as_aux_lemma => kernel_rfl) rfl ?_
             refine wo_con 65 #[.slice (some ⟨n208, 0, none⟩) 2 2] (some 89) (.agg (Tfound.arr (fstW [(unl (runsP y8) 412 ⟨(p : Int), -1⟩), (unl false 413 ⟨(p : Int), -1⟩)]))) [1, 2, 4, 5, 6, 89] [(1, i6 (p : Int)), (2, pt z), (q90v_48 z), (q90v_49 z), (q90v_50 b6), (89, .agg (Tfound.arr (fstW [(unl (runsP y8) 412 ⟨(p : Int), -1⟩), (unl false 413 ⟨(p : Int), -1⟩)])))] [0, 1, 2, 3, 4] (by as_aux_lemma => kernel_rfl) rfl rfl rfl (fun w210 hw210 => first_calls w210 (hL.ext (hw210.ext rfl)) ⟨some ⟨n208, 0, none⟩, 2, [(unl (runsP y8) 412 ⟨(p : Int), -1⟩), (unl false 413 ⟨(p : Int), -1⟩)]⟩ (slok_blk hw210 (i := 5) [(unl (runsP y8) 412 ⟨(p : Int), -1⟩), (unl false 413 ⟨(p : Int), -1⟩)]) (show 2 ≤ 1000 by decide)) (fun n211 hn212 => ?_)
             replace hn212 : n208 + 1 ≤ n211 := hn212
             refine w_one 19 (by as_aux_lemma => kernel_rfl) rfl ?_
             refine wo_eff (an 3 4) [1, 2, 4, 5, 6] [Qb b6, Qb b6, Qb b6] [(1, i6 (p : Int)), (2, pt z), (q90v_48 z), (q90v_49 z), (q90v_50 b6)] ⟨w, n211, [(old0 w), (q90v_36 z c), (q90v_33 z), (q90v_34 z y8), (q90v_28 b6 y8 p), (q90v_12 n208 y8 p)]⟩ [] (by as_aux_lemma => kernel_rfl) rfl ⟨rfl, rfl, rfl, trivial⟩ (.inl rfl) ?_
             refine w_free 20 [0, 1, 2, 3, 4, 5] [(old0 w), (q90v_36 z c), (q90v_33 z), (q90v_34 z y8), (q90v_28 b6 y8 p), (q90v_12 n208 y8 p)] rfl rfl ?_
             refine w_done (by as_aux_lemma => kernel_rfl) ?_
             refine e_keep [1, 2, 4, 5, 6] [(1, i6 (p : Int)), (2, pt z), (q90v_48 z), (q90v_49 z), (q90v_50 b6)] ?_
             refine e_pick [0, 1, 2, 3, 4] [(old0 w), (q90v_36 z c), (q90v_33 z), (q90v_34 z y8), (q90v_28 b6 y8 p)] rfl rfl ?_
             have eB : (fstW (partE c p)) = (fstW [(unl (runsP y8) 412 ⟨(p : Int), -1⟩), (unl false 413 ⟨(p : Int), -1⟩)]) := by have e0 : parC c p = y8 := hy8.symm; unfold partE; simp only [e0]; first | simp [h199, show ¬ y8.Ports.xs.length ≤ 8 by omega] | simp [h199, show y8.Ports.xs.length ≤ 8 by omega]
             refine e_keep [1, 2, 4, 5, 6] [(1, i6 (p : Int)), (2, pt z), (q90v_48 z), (q90v_49 z), (q90v_50 b6)] ?_
             refine e_inv (fun a w' hs => ⟨n211, by omega, (by (try dsimp only [q90v_0, q90v_1, q90v_2, q90v_3, q90v_4, q90v_5, q90v_6, q90v_7, q90v_8, q90v_9, q90v_10, q90v_11, q90v_12, q90v_13, q90v_14, q90v_15, q90v_16, q90v_17, q90v_18, q90v_19, q90v_20, q90v_21, q90v_22, q90v_23, q90v_24, q90v_25, q90v_26, q90v_27, q90v_28, q90v_29, q90v_30, q90v_31, q90v_32, q90v_33, q90v_34, q90v_35, q90v_36, q90v_37, q90v_38, q90v_39, q90v_40, q90v_41, q90v_42, q90v_43, q90v_44, q90v_45, q90v_46, q90v_47, q90v_48, q90v_49, q90v_50, q90v_51, q90v_52] at hs ⊢); rw [eB]; exact hs)⟩)
           · refine g_draw 19 [0, 1, 2, 3, 4] (q90v_52 w z c y8 b6 p) rfl rfl ?_
             refine w_chainN [.tk 0 o0, .tk 1 (a1 3), .tk 7 o0, .tk 10 o0, .tk 11 (a1 3), .tk 12 o0, .tk 13 oT, .tk 14 o0, .cl 2 (.bool (win y8.Entry 0 4095)), .tk 3 (ov (.bool true)), .tk 4 (an 8 3), .cl 5 (.bool (runsP y8)), .tk 6 o0, .cl 8 (.agg #[i6 (p : Int), i6 (-1)]), .cl 9 (.agg (Tfound.arr (unl (runsP y8) 412 ⟨(p : Int), -1⟩))), .cl 15 (.agg #[i6 (p : Int), i6 (-1)]), .cl 16 (.agg (Tfound.arr (unl true 413 ⟨(p : Int), -1⟩)))] [1, 2, 4, 5, 6, 80, 87] [(42, #[i6 y8.Entry, i6 0, i6 4095], .bool (win y8.Entry 0 4095)), (69, #[.agg (TPartition.arr y8)], .bool (runsP y8)), (67, #[i6 (p : Int)], .agg #[i6 (p : Int), i6 (-1)]), (41, #[.bool (runsP y8), i6 412, .agg #[i6 (p : Int), i6 (-1)]], .agg (Tfound.arr (unl (runsP y8) 412 ⟨(p : Int), -1⟩))), (67, #[i6 (p : Int)], .agg #[i6 (p : Int), i6 (-1)]), (41, #[.bool true, i6 413, .agg #[i6 (p : Int), i6 (-1)]], .agg (Tfound.arr (unl true 413 ⟨(p : Int), -1⟩)))] [true, true, true, true, true, true, true, true, true, true, true, true, true, true, true, true, true, false, false, false] [Qb (z + 2), Qb (z + 2), BT ((((y8.Ports.xs.length : Nat) : Int) : Int) ≤ 8), Value.bool (win y8.Entry 0 4095) = Value.bool true, Qb (z + 2), Qb (z + 2), Qb (z + 2), Qb (z + 2), Qb (z + 2), Qb (z + 2), Qb (z + 2), Qb (z + 2)] [(1, i6 (p : Int)), (2, pt z), (q90v_48 z), (q90v_49 z), (q90v_50 b6), (80, .agg (Tfound.arr (unl (runsP y8) 412 ⟨(p : Int), -1⟩))), (87, .agg (Tfound.arr (unl true 413 ⟨(p : Int), -1⟩)))] [0, 1, 2, 3, 4] ⟨rfl, rfl, bt (by omega), (congrArg Value.bool h199), rfl, rfl, rfl, rfl, rfl, rfl, rfl, rfl, trivial⟩ ⟨fun w213 hw213 => within_calls w213 y8.Entry 0 4095, fun w214 hw214 => runs_calls w214 y8 (he7.ext (hw214.ext rfl) (fun _ h => h)) (by omega) (fun k hk => by have hz := partB_bd hFr.2 hB0 k (by dsimp only [parC]; rw [← hy8]; exact hk); dsimp only [regC] at hz; rw [← hy8] at hz; exact ⟨hz.1, hz.2.1⟩), fun w215 hw215 => at_calls w215 (p : Int), fun w216 hw216 => unless_calls w216 (hL.ext (hw216.ext rfl)) (runsP y8) 412 (p : Int) (-1), fun w217 hw217 => at_calls w217 (p : Int), fun w218 hw218 => unless_calls w218 (hL.ext (hw218.ext rfl)) true 413 (p : Int) (-1), trivial⟩ (fun n219 hn220 => ?_)
             replace hn220 : n188 ≤ n219 := hn220
             refine w_one 17 (by as_aux_lemma => kernel_rfl) rfl ?_
             refine wo_eff o0 [1, 2, 4, 5, 6, 88] [] [(1, i6 (p : Int)), (2, pt z), (q90v_48 z), (q90v_49 z), (q90v_50 b6), (88, .slice (some ⟨n219, 0, none⟩) 2 2)] ⟨w, n219 + 1, [(old0 w), (q90v_36 z c), (q90v_33 z), (q90v_34 z y8), (q90v_35 b6 c p), (q90v_13 n219 y8 p)]⟩ [0, 1, 2, 3, 4] (by as_aux_lemma => kernel_rfl) rfl trivial (.inr rfl) ?_
             refine w_one 18 (by as_aux_lemma => kernel_rfl) rfl ?_
             refine wo_con 65 #[.slice (some ⟨n219, 0, none⟩) 2 2] (some 89) (.agg (Tfound.arr (fstW [(unl (runsP y8) 412 ⟨(p : Int), -1⟩), (unl true 413 ⟨(p : Int), -1⟩)]))) [1, 2, 4, 5, 6, 89] [(1, i6 (p : Int)), (2, pt z), (q90v_48 z), (q90v_49 z), (q90v_50 b6), (89, .agg (Tfound.arr (fstW [(unl (runsP y8) 412 ⟨(p : Int), -1⟩), (unl true 413 ⟨(p : Int), -1⟩)])))] [0, 1, 2, 3, 4] (by as_aux_lemma => kernel_rfl) rfl rfl rfl (fun w221 hw221 => first_calls w221 (hL.ext (hw221.ext rfl)) ⟨some ⟨n219, 0, none⟩, 2, [(unl (runsP y8) 412 ⟨(p : Int), -1⟩), (unl true 413 ⟨(p : Int), -1⟩)]⟩ (slok_blk hw221 (i := 5) [(unl (runsP y8) 412 ⟨(p : Int), -1⟩), (unl true 413 ⟨(p : Int), -1⟩)]) (show 2 ≤ 1000 by decide)) (fun n222 hn223 => ?_)
             replace hn223 : n219 + 1 ≤ n222 := hn223
             refine w_one 19 (by as_aux_lemma => kernel_rfl) rfl ?_
             refine wo_eff (an 3 4) [1, 2, 4, 5, 6] [Qb b6, Qb b6, Qb b6] [(1, i6 (p : Int)), (2, pt z), (q90v_48 z), (q90v_49 z), (q90v_50 b6)] ⟨w, n222, [(old0 w), (q90v_36 z c), (q90v_33 z), (q90v_34 z y8), (q90v_29 b6 y8 p), (q90v_13 n219 y8 p)]⟩ [] (by as_aux_lemma => kernel_rfl) rfl ⟨rfl, rfl, rfl, trivial⟩ (.inl rfl) ?_
             refine w_free 20 [0, 1, 2, 3, 4, 5] [(old0 w), (q90v_36 z c), (q90v_33 z), (q90v_34 z y8), (q90v_29 b6 y8 p), (q90v_13 n219 y8 p)] rfl rfl ?_
             refine w_done (by as_aux_lemma => kernel_rfl) ?_
             refine e_keep [1, 2, 4, 5, 6] [(1, i6 (p : Int)), (2, pt z), (q90v_48 z), (q90v_49 z), (q90v_50 b6)] ?_
             refine e_pick [0, 1, 2, 3, 4] [(old0 w), (q90v_36 z c), (q90v_33 z), (q90v_34 z y8), (q90v_29 b6 y8 p)] rfl rfl ?_
             have eB : (fstW (partE c p)) = (fstW [(unl (runsP y8) 412 ⟨(p : Int), -1⟩), (unl true 413 ⟨(p : Int), -1⟩)]) := by have e0 : parC c p = y8 := hy8.symm; unfold partE; simp only [e0]; first | simp [h199, show ¬ y8.Ports.xs.length ≤ 8 by omega] | simp [h199, show y8.Ports.xs.length ≤ 8 by omega]
             refine e_keep [1, 2, 4, 5, 6] [(1, i6 (p : Int)), (2, pt z), (q90v_48 z), (q90v_49 z), (q90v_50 b6)] ?_
             refine e_inv (fun a w' hs => ⟨n222, by omega, (by (try dsimp only [q90v_0, q90v_1, q90v_2, q90v_3, q90v_4, q90v_5, q90v_6, q90v_7, q90v_8, q90v_9, q90v_10, q90v_11, q90v_12, q90v_13, q90v_14, q90v_15, q90v_16, q90v_17, q90v_18, q90v_19, q90v_20, q90v_21, q90v_22, q90v_23, q90v_24, q90v_25, q90v_26, q90v_27, q90v_28, q90v_29, q90v_30, q90v_31, q90v_32, q90v_33, q90v_34, q90v_35, q90v_36, q90v_37, q90v_38, q90v_39, q90v_40, q90v_41, q90v_42, q90v_43, q90v_44, q90v_45, q90v_46, q90v_47, q90v_48, q90v_49, q90v_50, q90v_51, q90v_52] at hs ⊢); rw [eB]; exact hs)⟩)
         · have hd224 := win_no h199
           by_cases h225 : (8 : Int) < ((y8.Ports.xs.length : Nat) : Int)
           · refine g_draw 19 [0, 1, 2, 3, 4] (q90v_52 w z c y8 b6 p) rfl rfl ?_
             refine w_chainN [.tk 0 o0, .tk 1 (a1 3), .tk 7 o0, .tk 10 o0, .tk 11 (a1 3), .tk 12 o0, .tk 13 oF, .tk 14 o0, .cl 2 (.bool (win y8.Entry 0 4095)), .tk 3 (ov (.bool false)), .tk 4 o0, .tk 5 o0, .tk 6 o0, .cl 8 (.agg #[i6 (p : Int), i6 (-1)]), .cl 9 (.agg (Tfound.arr (unl false 412 ⟨(p : Int), -1⟩))), .cl 15 (.agg #[i6 (p : Int), i6 (-1)]), .cl 16 (.agg (Tfound.arr (unl false 413 ⟨(p : Int), -1⟩)))] [1, 2, 4, 5, 6, 80, 87] [(42, #[i6 y8.Entry, i6 0, i6 4095], .bool (win y8.Entry 0 4095)), (67, #[i6 (p : Int)], .agg #[i6 (p : Int), i6 (-1)]), (41, #[.bool false, i6 412, .agg #[i6 (p : Int), i6 (-1)]], .agg (Tfound.arr (unl false 412 ⟨(p : Int), -1⟩))), (67, #[i6 (p : Int)], .agg #[i6 (p : Int), i6 (-1)]), (41, #[.bool false, i6 413, .agg #[i6 (p : Int), i6 (-1)]], .agg (Tfound.arr (unl false 413 ⟨(p : Int), -1⟩)))] [true, true, true, true, true, true, true, true, true, true, true, true, true, true, true, true, true, false, false, false] [Qb (z + 2), Qb (z + 2), BF ((((y8.Ports.xs.length : Nat) : Int) : Int) ≤ 8), Value.bool (win y8.Entry 0 4095) = Value.bool false] [(1, i6 (p : Int)), (2, pt z), (q90v_48 z), (q90v_49 z), (q90v_50 b6), (80, .agg (Tfound.arr (unl false 412 ⟨(p : Int), -1⟩))), (87, .agg (Tfound.arr (unl false 413 ⟨(p : Int), -1⟩)))] [0, 1, 2, 3, 4] ⟨rfl, rfl, bf (by omega), (congrArg Value.bool (Bool.eq_false_iff.2 h199)), trivial⟩ ⟨fun w226 hw226 => within_calls w226 y8.Entry 0 4095, fun w227 hw227 => at_calls w227 (p : Int), fun w228 hw228 => unless_calls w228 (hL.ext (hw228.ext rfl)) false 412 (p : Int) (-1), fun w229 hw229 => at_calls w229 (p : Int), fun w230 hw230 => unless_calls w230 (hL.ext (hw230.ext rfl)) false 413 (p : Int) (-1), trivial⟩ (fun n231 hn232 => ?_)
             replace hn232 : n188 ≤ n231 := hn232
             refine w_one 17 (by as_aux_lemma => kernel_rfl) rfl ?_
             refine wo_eff o0 [1, 2, 4, 5, 6, 88] [] [(1, i6 (p : Int)), (2, pt z), (q90v_48 z), (q90v_49 z), (q90v_50 b6), (88, .slice (some ⟨n231, 0, none⟩) 2 2)] ⟨w, n231 + 1, [(old0 w), (q90v_36 z c), (q90v_33 z), (q90v_34 z y8), (q90v_35 b6 c p), (q90v_14 n231 p)]⟩ [0, 1, 2, 3, 4] (by as_aux_lemma => kernel_rfl) rfl trivial (.inr rfl) ?_
             refine w_one 18 (by as_aux_lemma => kernel_rfl) rfl ?_
             refine wo_con 65 #[.slice (some ⟨n231, 0, none⟩) 2 2] (some 89) (.agg (Tfound.arr (fstW [(unl false 412 ⟨(p : Int), -1⟩), (unl false 413 ⟨(p : Int), -1⟩)]))) [1, 2, 4, 5, 6, 89] [(1, i6 (p : Int)), (2, pt z), (q90v_48 z), (q90v_49 z), (q90v_50 b6), (89, .agg (Tfound.arr (fstW [(unl false 412 ⟨(p : Int), -1⟩), (unl false 413 ⟨(p : Int), -1⟩)])))] [0, 1, 2, 3, 4] (by as_aux_lemma => kernel_rfl) rfl rfl rfl (fun w233 hw233 => first_calls w233 (hL.ext (hw233.ext rfl)) ⟨some ⟨n231, 0, none⟩, 2, [(unl false 412 ⟨(p : Int), -1⟩), (unl false 413 ⟨(p : Int), -1⟩)]⟩ (slok_blk hw233 (i := 5) [(unl false 412 ⟨(p : Int), -1⟩), (unl false 413 ⟨(p : Int), -1⟩)]) (show 2 ≤ 1000 by decide)) (fun n234 hn235 => ?_)
             replace hn235 : n231 + 1 ≤ n234 := hn235
             refine w_one 19 (by as_aux_lemma => kernel_rfl) rfl ?_
             refine wo_eff (an 3 4) [1, 2, 4, 5, 6] [Qb b6, Qb b6, Qb b6] [(1, i6 (p : Int)), (2, pt z), (q90v_48 z), (q90v_49 z), (q90v_50 b6)] ⟨w, n234, [(old0 w), (q90v_36 z c), (q90v_33 z), (q90v_34 z y8), (q90v_30 b6 p), (q90v_14 n231 p)]⟩ [] (by as_aux_lemma => kernel_rfl) rfl ⟨rfl, rfl, rfl, trivial⟩ (.inl rfl) ?_
             refine w_free 20 [0, 1, 2, 3, 4, 5] [(old0 w), (q90v_36 z c), (q90v_33 z), (q90v_34 z y8), (q90v_30 b6 p), (q90v_14 n231 p)] rfl rfl ?_
             refine w_done (by as_aux_lemma => kernel_rfl) ?_
             refine e_keep [1, 2, 4, 5, 6] [(1, i6 (p : Int)), (2, pt z), (q90v_48 z), (q90v_49 z), (q90v_50 b6)] ?_
             refine e_pick [0, 1, 2, 3, 4] [(old0 w), (q90v_36 z c), (q90v_33 z), (q90v_34 z y8), (q90v_30 b6 p)] rfl rfl ?_
             have eB : (fstW (partE c p)) = (fstW [(unl false 412 ⟨(p : Int), -1⟩), (unl false 413 ⟨(p : Int), -1⟩)]) := by have e0 : parC c p = y8 := hy8.symm; unfold partE; simp only [e0]; first | simp [h199, show ¬ y8.Ports.xs.length ≤ 8 by omega] | simp [h199, show y8.Ports.xs.length ≤ 8 by omega]
             refine e_keep [1, 2, 4, 5, 6] [(1, i6 (p : Int)), (2, pt z), (q90v_48 z), (q90v_49 z), (q90v_50 b6)] ?_
             refine e_inv (fun a w' hs => ⟨n234, by omega, (by (try dsimp only [q90v_0, q90v_1, q90v_2, q90v_3, q90v_4, q90v_5, q90v_6, q90v_7, q90v_8, q90v_9, q90v_10, q90v_11, q90v_12, q90v_13, q90v_14, q90v_15, q90v_16, q90v_17, q90v_18, q90v_19, q90v_20, q90v_21, q90v_22, q90v_23, q90v_24, q90v_25, q90v_26, q90v_27, q90v_28, q90v_29, q90v_30, q90v_31, q90v_32, q90v_33, q90v_34, q90v_35, q90v_36, q90v_37, q90v_38, q90v_39, q90v_40, q90v_41, q90v_42, q90v_43, q90v_44, q90v_45, q90v_46, q90v_47, q90v_48, q90v_49, q90v_50, q90v_51, q90v_52] at hs ⊢); rw [eB]; exact hs)⟩)
           · refine g_draw 19 [0, 1, 2, 3, 4] (q90v_52 w z c y8 b6 p) rfl rfl ?_
             refine w_chainN [.tk 0 o0, .tk 1 (a1 3), .tk 7 o0, .tk 10 o0, .tk 11 (a1 3), .tk 12 o0, .tk 13 oT, .tk 14 o0, .cl 2 (.bool (win y8.Entry 0 4095)), .tk 3 (ov (.bool false)), .tk 4 o0, .tk 5 o0, .tk 6 o0, .cl 8 (.agg #[i6 (p : Int), i6 (-1)]), .cl 9 (.agg (Tfound.arr (unl false 412 ⟨(p : Int), -1⟩))), .cl 15 (.agg #[i6 (p : Int), i6 (-1)]), .cl 16 (.agg (Tfound.arr (unl true 413 ⟨(p : Int), -1⟩)))] [1, 2, 4, 5, 6, 80, 87] [(42, #[i6 y8.Entry, i6 0, i6 4095], .bool (win y8.Entry 0 4095)), (67, #[i6 (p : Int)], .agg #[i6 (p : Int), i6 (-1)]), (41, #[.bool false, i6 412, .agg #[i6 (p : Int), i6 (-1)]], .agg (Tfound.arr (unl false 412 ⟨(p : Int), -1⟩))), (67, #[i6 (p : Int)], .agg #[i6 (p : Int), i6 (-1)]), (41, #[.bool true, i6 413, .agg #[i6 (p : Int), i6 (-1)]], .agg (Tfound.arr (unl true 413 ⟨(p : Int), -1⟩)))] [true, true, true, true, true, true, true, true, true, true, true, true, true, true, true, true, true, false, false, false] [Qb (z + 2), Qb (z + 2), BT ((((y8.Ports.xs.length : Nat) : Int) : Int) ≤ 8), Value.bool (win y8.Entry 0 4095) = Value.bool false] [(1, i6 (p : Int)), (2, pt z), (q90v_48 z), (q90v_49 z), (q90v_50 b6), (80, .agg (Tfound.arr (unl false 412 ⟨(p : Int), -1⟩))), (87, .agg (Tfound.arr (unl true 413 ⟨(p : Int), -1⟩)))] [0, 1, 2, 3, 4] ⟨rfl, rfl, bt (by omega), (congrArg Value.bool (Bool.eq_false_iff.2 h199)), trivial⟩ ⟨fun w236 hw236 => within_calls w236 y8.Entry 0 4095, fun w237 hw237 => at_calls w237 (p : Int), fun w238 hw238 => unless_calls w238 (hL.ext (hw238.ext rfl)) false 412 (p : Int) (-1), fun w239 hw239 => at_calls w239 (p : Int), fun w240 hw240 => unless_calls w240 (hL.ext (hw240.ext rfl)) true 413 (p : Int) (-1), trivial⟩ (fun n241 hn242 => ?_)
             replace hn242 : n188 ≤ n241 := hn242
             refine w_one 17 (by as_aux_lemma => kernel_rfl) rfl ?_
             refine wo_eff o0 [1, 2, 4, 5, 6, 88] [] [(1, i6 (p : Int)), (2, pt z), (q90v_48 z), (q90v_49 z), (q90v_50 b6), (88, .slice (some ⟨n241, 0, none⟩) 2 2)] ⟨w, n241 + 1, [(old0 w), (q90v_36 z c), (q90v_33 z), (q90v_34 z y8), (q90v_35 b6 c p), (q90v_15 n241 p)]⟩ [0, 1, 2, 3, 4] (by as_aux_lemma => kernel_rfl) rfl trivial (.inr rfl) ?_
             refine w_one 18 (by as_aux_lemma => kernel_rfl) rfl ?_
             refine wo_con 65 #[.slice (some ⟨n241, 0, none⟩) 2 2] (some 89) (.agg (Tfound.arr (fstW [(unl false 412 ⟨(p : Int), -1⟩), (unl true 413 ⟨(p : Int), -1⟩)]))) [1, 2, 4, 5, 6, 89] [(1, i6 (p : Int)), (2, pt z), (q90v_48 z), (q90v_49 z), (q90v_50 b6), (89, .agg (Tfound.arr (fstW [(unl false 412 ⟨(p : Int), -1⟩), (unl true 413 ⟨(p : Int), -1⟩)])))] [0, 1, 2, 3, 4] (by as_aux_lemma => kernel_rfl) rfl rfl rfl (fun w243 hw243 => first_calls w243 (hL.ext (hw243.ext rfl)) ⟨some ⟨n241, 0, none⟩, 2, [(unl false 412 ⟨(p : Int), -1⟩), (unl true 413 ⟨(p : Int), -1⟩)]⟩ (slok_blk hw243 (i := 5) [(unl false 412 ⟨(p : Int), -1⟩), (unl true 413 ⟨(p : Int), -1⟩)]) (show 2 ≤ 1000 by decide)) (fun n244 hn245 => ?_)
             replace hn245 : n241 + 1 ≤ n244 := hn245
             refine w_one 19 (by as_aux_lemma => kernel_rfl) rfl ?_
             refine wo_eff (an 3 4) [1, 2, 4, 5, 6] [Qb b6, Qb b6, Qb b6] [(1, i6 (p : Int)), (2, pt z), (q90v_48 z), (q90v_49 z), (q90v_50 b6)] ⟨w, n244, [(old0 w), (q90v_36 z c), (q90v_33 z), (q90v_34 z y8), (q90v_31 b6 p), (q90v_15 n241 p)]⟩ [] (by as_aux_lemma => kernel_rfl) rfl ⟨rfl, rfl, rfl, trivial⟩ (.inl rfl) ?_
             refine w_free 20 [0, 1, 2, 3, 4, 5] [(old0 w), (q90v_36 z c), (q90v_33 z), (q90v_34 z y8), (q90v_31 b6 p), (q90v_15 n241 p)] rfl rfl ?_
             refine w_done (by as_aux_lemma => kernel_rfl) ?_
             refine e_keep [1, 2, 4, 5, 6] [(1, i6 (p : Int)), (2, pt z), (q90v_48 z), (q90v_49 z), (q90v_50 b6)] ?_
             refine e_pick [0, 1, 2, 3, 4] [(old0 w), (q90v_36 z c), (q90v_33 z), (q90v_34 z y8), (q90v_31 b6 p)] rfl rfl ?_
             have eB : (fstW (partE c p)) = (fstW [(unl false 412 ⟨(p : Int), -1⟩), (unl true 413 ⟨(p : Int), -1⟩)]) := by have e0 : parC c p = y8 := hy8.symm; unfold partE; simp only [e0]; first | simp [h199, show ¬ y8.Ports.xs.length ≤ 8 by omega] | simp [h199, show y8.Ports.xs.length ≤ 8 by omega]
             refine e_keep [1, 2, 4, 5, 6] [(1, i6 (p : Int)), (2, pt z), (q90v_48 z), (q90v_49 z), (q90v_50 b6)] ?_
             refine e_inv (fun a w' hs => ⟨n244, by omega, (by (try dsimp only [q90v_0, q90v_1, q90v_2, q90v_3, q90v_4, q90v_5, q90v_6, q90v_7, q90v_8, q90v_9, q90v_10, q90v_11, q90v_12, q90v_13, q90v_14, q90v_15, q90v_16, q90v_17, q90v_18, q90v_19, q90v_20, q90v_21, q90v_22, q90v_23, q90v_24, q90v_25, q90v_26, q90v_27, q90v_28, q90v_29, q90v_30, q90v_31, q90v_32, q90v_33, q90v_34, q90v_35, q90v_36, q90v_37, q90v_38, q90v_39, q90v_40, q90v_41, q90v_42, q90v_43, q90v_44, q90v_45, q90v_46, q90v_47, q90v_48, q90v_49, q90v_50, q90v_51, q90v_52] at hs ⊢); rw [eB]; exact hs)⟩)
       · rintro a w' ⟨n197, hn198, hs⟩
         refine (?_ : G Tryd.prog 118 [(1, i6 (p : Int)), (2, pt z), (q90v_48 z), (q90v_49 z), (q90v_50 b6)] [] ⟨w, n197, [(old0 w), (q90v_36 z c), (q90v_33 z), (q90v_34 z y8), (.blk b6 (.cells (Tfound.arr (fstW (partE c p))) 73 (0, 0)) true)]⟩ _ _ _) a w' hs
         clear hs a w'
         refine g_cut (fun a w' => ∃ (n246 : Nat), n197 ≤ n246 ∧ St 118 [(q90v_48 z), (q90v_50 b6)] [] ⟨w, n246, [(old0 w), (q90v_36 z c), (q90v_33 z), (q90v_34 z y8), (bk b6 (Tfound.arr (partQ c p)) 73)]⟩ a w') ?_ ?_
         · refine q_cS 5 0 [] [[o0]] [] [(1, i6 (p : Int)), (2, pt z), (q90v_48 z), (q90v_49 z), (q90v_50 b6), (8, i6 0)] rfl trivial ?_
           refine g_loop (fun m a w' => ∃ (n249 : Nat) (k : Nat), m = y8.Ports.xs.length - k ∧ n197 ≤ n249 ∧ (k ≤ y8.Ports.xs.length) ∧ St 118 [(1, i6 (p : Int)), (2, pt z), (q90v_48 z), (q90v_49 z), (q90v_50 b6), (8, i6 (k : Int))] [] ⟨w, n249, [(old0 w), (q90v_36 z c), (q90v_33 z), (q90v_34 z y8), (q90v_32 b6 c p k)]⟩ a w') (y8.Ports.xs.length - 0) ?_ ?_
           · intro a w' hs; exact ⟨n197, 0, rfl, Nat.le_refl _, Nat.zero_le _, (by (try dsimp only [q90v_0, q90v_1, q90v_2, q90v_3, q90v_4, q90v_5, q90v_6, q90v_7, q90v_8, q90v_9, q90v_10, q90v_11, q90v_12, q90v_13, q90v_14, q90v_15, q90v_16, q90v_17, q90v_18, q90v_19, q90v_20, q90v_21, q90v_22, q90v_23, q90v_24, q90v_25, q90v_26, q90v_27, q90v_28, q90v_29, q90v_30, q90v_31, q90v_32, q90v_33, q90v_34, q90v_35, q90v_36, q90v_37, q90v_38, q90v_39, q90v_40, q90v_41, q90v_42, q90v_43, q90v_44, q90v_45, q90v_46, q90v_47, q90v_48, q90v_49, q90v_50, q90v_51, q90v_52] at hs ⊢); rw [thenF_zero]; exact hs)⟩
           · rintro m a w' ⟨n249, k, rfl, hn248, hkk, hs⟩
             refine (?_ : G Tryd.prog 118 [(1, i6 (p : Int)), (2, pt z), (q90v_48 z), (q90v_49 z), (q90v_50 b6), (8, i6 (k : Int))] [] ⟨w, n249, [(old0 w), (q90v_36 z c), (q90v_33 z), (q90v_34 z y8), (q90v_32 b6 c p k)]⟩ _ _ _) a w' hs
             clear hs a w'
             refine g_seq <| g_seq ?_
             by_cases h250 : ((k : Int) : Int) < ((y8.Ports.xs.length : Nat) : Int)
             · by_cases h251 : (((thenF (fstW (partE c p)) (portQ c p) k).e : Int) == (0 : Int) && ((((thenF (fstW (partE c p)) (portQ c p) k).where_.First : Int) == (0 : Int) && (((thenF (fstW (partE c p)) (portQ c p) k).where_.Second : Int) == (0 : Int) && true)) && true)) = true
               · refine q_cS 8 0 [1] [[o0, o0, (a1 3), o0, oT, o0, (an 3 4), (oa [.via 0 (i6 0), .via 0 (i6 0), .via 0 (i6 0)]), ⟨.seq true, none⟩, o0]] [Qb (z + 2), BT (((k : Int) : Int) < ((y8.Ports.xs.length : Nat) : Int)), Qb b6, Qb b6, Qb b6, Old w 0 0 (i6 0), Old w 0 1 (i6 0), Old w 0 2 (i6 0), (((thenF (fstW (partE c p)) (portQ c p) k).e : Int) == (0 : Int) && ((((thenF (fstW (partE c p)) (portQ c p) k).where_.First : Int) == (0 : Int) && (((thenF (fstW (partE c p)) (portQ c p) k).where_.Second : Int) == (0 : Int) && true)) && true)) = true] [(1, i6 (p : Int)), (2, pt z), (q90v_48 z), (q90v_49 z), (q90v_50 b6), (8, i6 (k : Int)), (99, .bool true)] rfl ⟨rfl, bt (by omega), rfl, rfl, rfl, old_cell' (hL.2 0 _ rfl), old_cell' (hL.2 1 _ rfl), old_cell' (hL.2 2 _ rfl), h251, trivial⟩ ?_
                 obtain ⟨b252, o253, ha254, hF256, hc255⟩ := (he7.Ports).1.all (show 0 < y8.Ports.xs.length by omega)
                 replace ha254 : y8.Ports.a = some ⟨b252, o253, none⟩ := ha254
                 have hc257 := hc255 k (show k < y8.Ports.xs.length by omega)
                 have he258 := (he7.Ports).2 k (show k < y8.Ports.xs.length by omega)
                 obtain ⟨y259, hy259⟩ : ∃ y_, y_ = gd y8.Ports.xs k := ⟨_, rfl⟩
                 rw [← hy259] at he258 hc257
                 refine g_draw 15 [0, 1, 2, 3, 4] [(old0 w), (q90v_36 z c), (q90v_33 z), (q90v_34 z y8), (q90v_32 b6 c p k)] rfl rfl ?_
                 refine w_chainN [.tk 0 o0, .tk 1 ⟨.auto [.at 3], some (.slice (some ⟨b252, o253, none⟩) y8.Ports.xs.length y8.Ports.cap)⟩, .tk 2 o0, .tk 3 (oi k), .tk 4 o0, .tk 5 (oa [.via 0 (i6 y259.Channel)]), .tk 6 o0, .tk 7 (a1 1), .tk 8 o0, .tk 9 (ov (i6 (((c.Channels.xs.length : Nat) : Int) - 1))), .tk 11 o0, .tk 12 o0, .cl 10 (.bool (win y259.Channel 0 (((c.Channels.xs.length : Nat) : Int) - 1))), .cl 13 (.agg #[i6 (p : Int), i6 (k : Int)]), .cl 14 (.agg (Tfound.arr (unl (win y259.Channel 0 (((c.Channels.xs.length : Nat) : Int) - 1)) 414 ⟨(p : Int), (k : Int)⟩)))] [1, 2, 4, 5, 6, 8, 116] [(42, #[i6 y259.Channel, i6 0, i6 (((c.Channels.xs.length : Nat) : Int) - 1)], .bool (win y259.Channel 0 (((c.Channels.xs.length : Nat) : Int) - 1))), (70, #[i6 (p : Int), i6 (k : Int)], .agg #[i6 (p : Int), i6 (k : Int)]), (41, #[.bool (win y259.Channel 0 (((c.Channels.xs.length : Nat) : Int) - 1)), i6 414, .agg #[i6 (p : Int), i6 (k : Int)]], .agg (Tfound.arr (unl (win y259.Channel 0 (((c.Channels.xs.length : Nat) : Int) - 1)) 414 ⟨(p : Int), (k : Int)⟩)))] [true, true, true, true, true, true, true, true, true, true, true, true, true, true, true, false] [Qb (z + 2), Value.slice y8.Ports.a y8.Ports.xs.length y8.Ports.cap = Value.slice (some ⟨b252, o253, none⟩) y8.Ports.xs.length y8.Ports.cap, ((k : Int) : Int) = ((k : Nat) : Int), k < y8.Ports.xs.length, (none : Option Nat) = none, Old w b252 (o253 + k * 2) (i6 y259.Channel), Qb z, Wr ((((c.Channels.xs.length : Nat) : Int) : Int) - 1) (((c.Channels.xs.length : Nat) : Int) - 1)] [(1, i6 (p : Int)), (2, pt z), (q90v_48 z), (q90v_49 z), (q90v_50 b6), (8, i6 (k : Int)), (116, .agg (Tfound.arr (unl (win y259.Channel 0 (((c.Channels.xs.length : Nat) : Int) - 1)) 414 ⟨(p : Int), (k : Int)⟩)))] [0, 1, 2, 3, 4] ⟨rfl, congrArg (fun a => Value.slice a _ _) ha254, rfl, (by omega), rfl, old_cell' (hc257 0 _ rfl), rfl, wrI, trivial⟩ ⟨fun w260 hw260 => within_calls w260 y259.Channel 0 (((c.Channels.xs.length : Nat) : Int) - 1), fun w261 hw261 => both_calls w261 (p : Int) (k : Int), fun w262 hw262 => unless_calls w262 (hL.ext (hw262.ext rfl)) (win y259.Channel 0 (((c.Channels.xs.length : Nat) : Int) - 1)) 414 (p : Int) (k : Int), trivial⟩ (fun n263 hn264 => ?_)
                 replace hn264 : n249 ≤ n263 := hn264
                 refine w_one 15 (by as_aux_lemma => kernel_rfl) rfl ?_
                 refine wo_eff (an 3 4) [1, 2, 4, 5, 6, 8] [Qb b6, Qb b6, Qb b6] [(1, i6 (p : Int)), (2, pt z), (q90v_48 z), (q90v_49 z), (q90v_50 b6), (8, i6 (k : Int))] ⟨w, n263, (q90v_51 w z c y8 b6 y259 p k)⟩ [] (by as_aux_lemma => kernel_rfl) rfl ⟨rfl, rfl, rfl, trivial⟩ (.inl rfl) ?_
                 refine w_free 16 [0, 1, 2, 3, 4] (q90v_51 w z c y8 b6 y259 p k) rfl rfl ?_
                 refine w_done (by as_aux_lemma => kernel_rfl) ?_
                 refine q_oS 4 0 [] [[o0, (ov (i6 ((k + 1 : Nat) : Int))), o0]] [Wr (((k : Int) : Int) + 1) (((k + 1 : Nat) : Int))] [(1, i6 (p : Int)), (2, pt z), (q90v_48 z), (q90v_49 z), (q90v_50 b6), (8, i6 ((k + 1 : Nat) : Int))] rfl ⟨wrI, trivial⟩ ?_
                 have eS := thenF_succ (fine_eq.1 h251)
                 have eP : portQ c p k = (unl (win y259.Channel 0 (((c.Channels.xs.length : Nat) : Int) - 1)) 414 ⟨(p : Int), (k : Int)⟩) := by have e0 : prtC c p k = y259 := (by dsimp only [prtC]; rw [← hy8, ← hy259]); unfold portQ; rw [e0]
                 refine e_keep [1, 2, 4, 5, 6, 8] [(1, i6 (p : Int)), (2, pt z), (q90v_48 z), (q90v_49 z), (q90v_50 b6), (8, i6 ((k + 1 : Nat) : Int))] ?_
                 refine e_inv (fun a w' hs => ⟨y8.Ports.xs.length - (k + 1), by omega, n263, (k + 1), rfl, by omega, by omega, (by (try dsimp only [q90v_0, q90v_1, q90v_2, q90v_3, q90v_4, q90v_5, q90v_6, q90v_7, q90v_8, q90v_9, q90v_10, q90v_11, q90v_12, q90v_13, q90v_14, q90v_15, q90v_16, q90v_17, q90v_18, q90v_19, q90v_20, q90v_21, q90v_22, q90v_23, q90v_24, q90v_25, q90v_26, q90v_27, q90v_28, q90v_29, q90v_30, q90v_31, q90v_32, q90v_33, q90v_34, q90v_35, q90v_36, q90v_37, q90v_38, q90v_39, q90v_40, q90v_41, q90v_42, q90v_43, q90v_44, q90v_45, q90v_46, q90v_47, q90v_48, q90v_49, q90v_50, q90v_51, q90v_52] at hs ⊢); rw [eS, eP]; exact hs)⟩)
               · refine q_cS 8 0 [0] [[o0, o0, (a1 3), o0, oT, o0, (an 3 4), (oa [.via 0 (i6 0), .via 0 (i6 0), .via 0 (i6 0)]), ⟨.seq false, none⟩, o0]] [Qb (z + 2), BT (((k : Int) : Int) < ((y8.Ports.xs.length : Nat) : Int)), Qb b6, Qb b6, Qb b6, Old w 0 0 (i6 0), Old w 0 1 (i6 0), Old w 0 2 (i6 0), (((thenF (fstW (partE c p)) (portQ c p) k).e : Int) == (0 : Int) && ((((thenF (fstW (partE c p)) (portQ c p) k).where_.First : Int) == (0 : Int) && (((thenF (fstW (partE c p)) (portQ c p) k).where_.Second : Int) == (0 : Int) && true)) && true)) = false] [(1, i6 (p : Int)), (2, pt z), (q90v_48 z), (q90v_49 z), (q90v_50 b6), (8, i6 (k : Int)), (99, .bool false)] rfl ⟨rfl, bt (by omega), rfl, rfl, rfl, old_cell' (hL.2 0 _ rfl), old_cell' (hL.2 1 _ rfl), old_cell' (hL.2 2 _ rfl), (Bool.eq_false_iff.2 h251), trivial⟩ ?_
                 have eB : (partQ c p) = (thenF (fstW (partE c p)) (portQ c p) k) := (if_pos hB0).trans (thenF_stop (fun e => h251 (fine_eq.2 e)) (by dsimp only [parC]; rw [← hy8]; omega))
                 refine e_keep [4, 6] [(q90v_48 z), (q90v_50 b6)] ?_
                 refine e_inv (fun a w' hs => ⟨n249, by omega, (by (try dsimp only [q90v_0, q90v_1, q90v_2, q90v_3, q90v_4, q90v_5, q90v_6, q90v_7, q90v_8, q90v_9, q90v_10, q90v_11, q90v_12, q90v_13, q90v_14, q90v_15, q90v_16, q90v_17, q90v_18, q90v_19, q90v_20, q90v_21, q90v_22, q90v_23, q90v_24, q90v_25, q90v_26, q90v_27, q90v_28, q90v_29, q90v_30, q90v_31, q90v_32, q90v_33, q90v_34, q90v_35, q90v_36, q90v_37, q90v_38, q90v_39, q90v_40, q90v_41, q90v_42, q90v_43, q90v_44, q90v_45, q90v_46, q90v_47, q90v_48, q90v_49, q90v_50, q90v_51, q90v_52] at hs ⊢); rw [eB]; exact hs)⟩)
             · refine q_cS 8 0 [0] [[o0, o0, (a1 3), o0, oF, o0, o0]] [Qb (z + 2), BF (((k : Int) : Int) < ((y8.Ports.xs.length : Nat) : Int))] [(1, i6 (p : Int)), (2, pt z), (q90v_48 z), (q90v_49 z), (q90v_50 b6), (8, i6 (k : Int)), (99, .bool false)] rfl ⟨rfl, bf (by omega), trivial⟩ ?_
               have eB : (partQ c p) = (thenF (fstW (partE c p)) (portQ c p) k) := (if_pos hB0).trans (congrArg (thenF _ _) (by dsimp only [parC]; rw [← hy8]; omega))
               refine e_keep [4, 6] [(q90v_48 z), (q90v_50 b6)] ?_
               refine e_inv (fun a w' hs => ⟨n249, by omega, (by (try dsimp only [q90v_0, q90v_1, q90v_2, q90v_3, q90v_4, q90v_5, q90v_6, q90v_7, q90v_8, q90v_9, q90v_10, q90v_11, q90v_12, q90v_13, q90v_14, q90v_15, q90v_16, q90v_17, q90v_18, q90v_19, q90v_20, q90v_21, q90v_22, q90v_23, q90v_24, q90v_25, q90v_26, q90v_27, q90v_28, q90v_29, q90v_30, q90v_31, q90v_32, q90v_33, q90v_34, q90v_35, q90v_36, q90v_37, q90v_38, q90v_39, q90v_40, q90v_41, q90v_42, q90v_43, q90v_44, q90v_45, q90v_46, q90v_47, q90v_48, q90v_49, q90v_50, q90v_51, q90v_52] at hs ⊢); rw [eB]; exact hs)⟩)
         · rintro a w' ⟨n246, hn247, hs⟩
           refine (?_ : G Tryd.prog 118 [(q90v_48 z), (q90v_50 b6)] [] ⟨w, n246, [(old0 w), (q90v_36 z c), (q90v_33 z), (q90v_34 z y8), (bk b6 (Tfound.arr (partQ c p)) 73)]⟩ _ _ _) a w' hs
           clear hs a w'
           refine q_c 5 0 [] [[(an 3 4), (an 3 2)]] [Qb b6, Qb b6, Qb b6, Qb (z + 1), Qb (z + 1), Qb (z + 1)] [(q90v_48 z)] ⟨w, n246, [(old0 w), (q90v_36 z c), (bk (z + 1) (Tfound.arr (partQ c p)) 73), (q90v_34 z y8), (bk b6 (Tfound.arr (partQ c p)) 73)]⟩ rfl ⟨rfl, rfl, rfl, rfl, rfl, rfl, trivial⟩ ?_
           refine e_ret [.at 2, .at 2, .at 2] [Qb (z + 1), Qb (z + 1), Qb (z + 1)] (.agg #[i6 ((partQ c p).e), i6 ((partQ c p).where_.First), i6 ((partQ c p).where_.Second)]) ⟨rfl, rfl, rfl, trivial⟩ ?_
           intro w265 hw265
           exact ⟨rfl, back0 hw265⟩
     · refine q_c 9 0 [1] [[(an 3 4), (oa [.via 0 (i6 0), .via 0 (i6 0), .via 0 (i6 0)]), ⟨.seq false, none⟩], [(an 3 4), (an 3 2)]] [Qb b6, Qb b6, Qb b6, Old w 0 0 (i6 0), Old w 0 1 (i6 0), Old w 0 2 (i6 0), (((partB c p).e : Int) == (0 : Int) && ((((partB c p).where_.First : Int) == (0 : Int) && (((partB c p).where_.Second : Int) == (0 : Int) && true)) && true)) = false, Qb b6, Qb b6, Qb b6, Qb (z + 1), Qb (z + 1), Qb (z + 1)] [(q90v_48 z)] ⟨w, n188, [(old0 w), (q90v_36 z c), (bk (z + 1) (Tfound.arr (partB c p)) 73), (q90v_34 z y8), (q90v_35 b6 c p)]⟩ rfl ⟨rfl, rfl, rfl, old_cell' (hL.2 0 _ rfl), old_cell' (hL.2 1 _ rfl), old_cell' (hL.2 2 _ rfl), (Bool.eq_false_iff.2 h196), rfl, rfl, rfl, rfl, rfl, rfl, trivial⟩ ?_
       refine e_ret [.at 2, .at 2, .at 2] [Qb (z + 1), Qb (z + 1), Qb (z + 1)] (.agg #[i6 ((partB c p).e), i6 ((partB c p).where_.First), i6 ((partB c p).where_.Second)]) ⟨rfl, rfl, rfl, trivial⟩ ?_
       intro w266 hw266
       exact ⟨by rw [show partQ c p = partB c p from if_neg (fun e => h196 (fine_eq.2 e))], back0 hw266⟩
end Go.Proofs.YtnjhekfgmbpmlaaDoor.Ad
