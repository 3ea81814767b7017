/- admit: a name. No conditions. -/
import Derived.Test.YtnjhekfgmbpmlaaDoorAa
namespace Go.Proofs.YtnjhekfgmbpmlaaDoor.Ad
open Go Go.Proofs.YtnjhekfgmbpmlaaDoor.Eng Go.Proofs.YtnjhekfgmbpmlaaDoor.Mem Go.Proofs.YtnjhekfgmbpmlaaDoor.Ly
set_option linter.unusedSimpArgs false
set_option linter.unusedVariables false
set_option maxRecDepth 100000

def bAt (s : ByteArray) (i : Nat) : UInt8 := (s[i]?).getD 0
theorem bat_at {s : ByteArray} {i : Int} {k : Nat} (h : i = (k : Int)) (hk : k < s.size) : s[i.toNat]? = some (bAt s k) := by
  subst h
  show s[k]? = some (bAt s k)
  unfold bAt
  rw [getElem?_pos s k hk]; rfl
def lowB (c : UInt8) : Bool := win c.toNat 97 122
def nameB (c : UInt8) : Bool := win c.toNat 97 122 || win c.toNat 48 57 || decide ((c.toNat : Int) = 45)
def isNameP (s : ByteArray) : Bool := win s.size 1 16 && lowB (bAt s 0) && (List.range s.size).all (fun i => nameB (bAt s i))
theorem range_all {p : Nat → Bool} {n : Nat} (h : ∀ i, i < n → p i = true) : (List.range n).all p = true := by
  rw [List.all_eq_true]; intro i hi; exact h i (List.mem_range.1 hi)
theorem range_not {p : Nat → Bool} {n k : Nat} (hk : k < n) (h : p k = false) : (List.range n).all p = false := by
  rw [List.all_eq_false]; exact ⟨k, List.mem_range.2 hk, by simp [h]⟩
theorem range_any {p : Nat → Bool} {n k : Nat} (hk : k < n) (h : p k = true) : (List.range n).any p = true := by
  rw [List.any_eq_true]; exact ⟨k, List.mem_range.2 hk, h⟩
theorem range_none {p : Nat → Bool} {n : Nat} (h : ∀ i, i < n → p i = false) : (List.range n).any p = false := by
  rw [List.any_eq_false]; intro i hi; simp [h i (List.mem_range.1 hi)]
abbrev parC (c : TConfig) (p : Nat) : TPartition := gd c.Partitions.xs p
abbrev regC (c : TConfig) (p k : Nat) : TRegion := gd (gd c.Partitions.xs p).Regions.xs k
def namedP (c : TConfig) (p : Nat) : Bool := (List.range p).all (fun q => !((parC c q).Name.toList == (parC c p).Name.toList)) && isNameP (parC c p).Name
def ba64 (a b : Int) : Int := IntKind.i64.wrap ((BitVec.ofInt IntKind.i64.bits a &&& BitVec.ofInt IntKind.i64.bits b).toNat)
def runsAt (x : TPartition) (k : Nat) : Bool := win (x.Entry / 16) (gd x.Regions.xs k).Page ((gd x.Regions.xs k).Page + (gd x.Regions.xs k).Pages - 1) && !decide (ba64 (gd x.Regions.xs k).Rights 4 = 0)
def runsP (x : TPartition) : Bool := (List.range x.Regions.xs.length).any (runsAt x)
abbrev corC (c : TConfig) (k : Nat) : Sl TWindow := gd c.Cores.xs k
def splitAt_ (c : TConfig) (p : Int) (k : Nat) : Bool := (List.range (corC c k).xs.length).any (fun i => decide (0 ≤ p) && decide ((gd (corC c k).xs i).Partition = p))
def splitP (c : TConfig) (k : Nat) (p : Int) : Bool := (List.range k).any (splitAt_ c p)
abbrev q8h4_0 (s : ByteArray) : Nat × Value := (24, i6 ((s.size : Nat) : Int))
abbrev q8h4_1 (k : Nat) : Nat × Value := (25, i6 ((k + 1 : Nat) : Int))
theorem isName_calls (w : World) (s : ByteArray) (hs : s.size ≤ 140737488351232) : Calls Tryd.prog 79 #[.string s] w fun e w' => e = .returned (.bool (isNameP s)) ∧ Keeps (fun _ => False) w w' := by
 obtain ⟨z, hz⟩ : ∃ z, z = w.heap.size := ⟨_, rfl⟩
 refine calls_G (args := [.string s]) 50 ⟨w, z, [(old0 w)]⟩ Tryd.func79 rfl (by kernel_rfl) (by kernel_rfl) (sat_0 hz) ?_
 refine g_keep [0] [(0, .string s)] ?_
 refine q_cS 6 0 [] [[o0]] [] [(0, .string s)] rfl trivial ?_
 by_cases h1 : (((s.size : Nat) : Int) : Int) < 1
 · refine q_cS 9 0 [1] [[o0, o0, oT, o0, o0, o0, o0, o0, o0], [o0]] [BT ((((s.size : Nat) : Int) : Int) < 1)] [(2, .bool false)] rfl ⟨bt (by omega), trivial⟩ ?_
   refine e_ret [] [] (.bool false) trivial ?_
   intro w2 hw2
   refine ⟨congrArg (fun b => Ending.returned (Value.bool b)) (?_ : false = isNameP s), back0 hw2⟩
   refine Eq.symm ?_
   unfold isNameP lowB win
   rw [Bool.and_eq_false_iff]; left; simp; omega
 · by_cases h3 : (16 : Int) < ((s.size : Nat) : Int)
   · refine q_cS 9 0 [1] [[o0, o0, oF, o0, o0, o0, oT, o0, o0, o0, o0, o0], [o0]] [BF ((((s.size : Nat) : Int) : Int) < 1), BT ((((s.size : Nat) : Int) : Int) > 16)] [(2, .bool false)] rfl ⟨bf (by omega), bt (by omega), trivial⟩ ?_
     refine e_ret [] [] (.bool false) trivial ?_
     intro w4 hw4
     refine ⟨congrArg (fun b => Ending.returned (Value.bool b)) (?_ : false = isNameP s), back0 hw4⟩
     refine Eq.symm ?_
     unfold isNameP lowB win
     rw [Bool.and_eq_false_iff]; left; simp; omega
   · by_cases h5 : (((bAt s 0).toNat : Int) : Int) < 97
     · refine q_cS 9 0 [1] [[o0, o0, oF, o0, o0, o0, oF, o0, o0, o0, ⟨.sidx (bAt s 0), none⟩, oT, o0, o0, o0], [o0]] [BF ((((s.size : Nat) : Int) : Int) < 1), BF ((((s.size : Nat) : Int) : Int) > 16), 0 ≤ (0 : Int), s[(0 : Int).toNat]? = some (bAt s 0), BT ((((bAt s 0).toNat : Int) : Int) < 97)] [(2, .bool false)] rfl ⟨bf (by omega), bf (by omega), (by omega), bat_at rfl (by omega), bt (by omega), trivial⟩ ?_
       refine e_ret [] [] (.bool false) trivial ?_
       intro w6 hw6
       refine ⟨congrArg (fun b => Ending.returned (Value.bool b)) (?_ : false = isNameP s), back0 hw6⟩
       refine Eq.symm ?_
       unfold isNameP lowB win
       rw [Bool.and_eq_false_iff]; left; simp; omega
     · by_cases h7 : (122 : Int) < ((bAt s 0).toNat : Int)
       · refine q_cS 9 0 [1] [[o0, o0, oF, o0, o0, o0, oF, o0, o0, o0, ⟨.sidx (bAt s 0), none⟩, oF, o0, o0, o0, ⟨.sidx (bAt s 0), none⟩, oT, o0], [o0]] [BF ((((s.size : Nat) : Int) : Int) < 1), BF ((((s.size : Nat) : Int) : Int) > 16), 0 ≤ (0 : Int), s[(0 : Int).toNat]? = some (bAt s 0), BF ((((bAt s 0).toNat : Int) : Int) < 97), 0 ≤ (0 : Int), s[(0 : Int).toNat]? = some (bAt s 0), BT ((((bAt s 0).toNat : Int) : Int) > 122)] [(2, .bool false)] rfl ⟨bf (by omega), bf (by omega), (by omega), bat_at rfl (by omega), bf (by omega), (by omega), bat_at rfl (by omega), bt (by omega), trivial⟩ ?_
         refine e_ret [] [] (.bool false) trivial ?_
         intro w8 hw8
         refine ⟨congrArg (fun b => Ending.returned (Value.bool b)) (?_ : false = isNameP s), back0 hw8⟩
         refine Eq.symm ?_
         unfold isNameP lowB win
         rw [Bool.and_eq_false_iff]; left; simp; omega
       · refine q_cS 12 0 [0] [[o0, o0, oF, o0, o0, o0, oF, o0, o0, o0, ⟨.sidx (bAt s 0), none⟩, oF, o0, o0, o0, ⟨.sidx (bAt s 0), none⟩, oF, o0], [o0, o0, o0]] [BF ((((s.size : Nat) : Int) : Int) < 1), BF ((((s.size : Nat) : Int) : Int) > 16), 0 ≤ (0 : Int), s[(0 : Int).toNat]? = some (bAt s 0), BF ((((bAt s 0).toNat : Int) : Int) < 97), 0 ≤ (0 : Int), s[(0 : Int).toNat]? = some (bAt s 0), BF ((((bAt s 0).toNat : Int) : Int) > 122)] [(0, .string s), (q8h4_0 s), (25, i6 0)] rfl ⟨bf (by omega), bf (by omega), (by omega), bat_at rfl (by omega), bf (by omega), (by omega), bat_at rfl (by omega), bf (by omega), trivial⟩ ?_
         refine g_loop (fun m a w' => ∃ (n10 : Nat) (k : Nat), m = s.size - k ∧ z ≤ n10 ∧ (k ≤ s.size) ∧ (∀ i, i < k → nameB (bAt s i) = true) ∧ St 50 [(0, .string s), (q8h4_0 s), (25, i6 (k : Int))] [] ⟨w, n10, [(old0 w)]⟩ a w') (s.size - 0) ?_ ?_
         · intro a w' hs; exact ⟨z, 0, rfl, Nat.le_refl _, Nat.zero_le _, fun i hi => absurd hi (Nat.not_lt_zero i), hs⟩
         · rintro m a w' ⟨n10, k, rfl, hn9, hkk, hf, hs⟩
           refine (?_ : G Tryd.prog 50 [(0, .string s), (q8h4_0 s), (25, i6 (k : Int))] [] ⟨w, n10, [(old0 w)]⟩ _ _ _) a w' hs
           clear hs a w'
           refine g_seq ?_
           by_cases h11 : ((k : Int) : Int) < ((s.size : Nat) : Int)
           · refine q_cS 18 0 [1] [[oT], [o0, o0], [o0, o0, ⟨.sidx (bAt s k), none⟩, o0]] [BT (((k : Int) : Int) < ((s.size : Nat) : Int)), 0 ≤ ((k : Int) : Int), s[((k : Int) : Int).toNat]? = some (bAt s k)] [(0, .string s), (q8h4_0 s), (25, i6 (k : Int)), (4, .int .u8 ((bAt s k).toNat : Int))] rfl ⟨bt (by omega), (by omega), bat_at rfl (by omega), trivial⟩ ?_
             by_cases h12 : (((bAt s k).toNat : Int) : Int) < 97
             · by_cases h13 : (((bAt s k).toNat : Int) : Int) < 48
               · by_cases h14 : (((bAt s k).toNat : Int) : Int) = 45
                 · refine q_cS 9 0 [0] [[o0, oT, o0, o0, o0, o0, oT, o0, o0, o0, o0, o0, oF, o0], [(ov (i6 ((k + 1 : Nat) : Int))), o0]] [BT ((((bAt s k).toNat : Int) : Int) < 97), BT ((((bAt s k).toNat : Int) : Int) < 48), NF ((bAt s k).toNat : Int) 45, Wr (((k : Int) : Int) + 1) (((k + 1 : Nat) : Int))] [(0, .string s), (q8h4_0 s), (q8h4_1 k)] rfl ⟨bt (by omega), bt (by omega), nf (by omega), wrI, trivial⟩ ?_
                   refine e_inv (fun a w' hs => ⟨s.size - (k + 1), by omega, n10, (k + 1), rfl, by omega, by omega, upto_ hf (by unfold nameB win; simp; omega), hs⟩)
                 · refine q_cS 9 0 [1] [[o0, oT, o0, o0, o0, o0, oT, o0, o0, o0, o0, o0, oT, o0], [o0]] [BT ((((bAt s k).toNat : Int) : Int) < 97), BT ((((bAt s k).toNat : Int) : Int) < 48), NT ((bAt s k).toNat : Int) 45] [(2, .bool false)] rfl ⟨bt (by omega), bt (by omega), nt (by omega), trivial⟩ ?_
                   refine e_ret [] [] (.bool false) trivial ?_
                   intro w15 hw15
                   refine ⟨congrArg (fun b => Ending.returned (Value.bool b)) (?_ : false = isNameP s), back0 hw15⟩
                   refine Eq.symm ?_
                   unfold isNameP
                   rw [range_not (k := k) (by omega) (by unfold nameB win; simp; omega), Bool.and_false]
               · by_cases h16 : (57 : Int) < ((bAt s k).toNat : Int)
                 · by_cases h17 : (((bAt s k).toNat : Int) : Int) = 45
                   · refine q_cS 9 0 [0] [[o0, oT, o0, o0, o0, o0, oF, o0, o0, oT, o0, o0, o0, o0, oF, o0], [(ov (i6 ((k + 1 : Nat) : Int))), o0]] [BT ((((bAt s k).toNat : Int) : Int) < 97), BF ((((bAt s k).toNat : Int) : Int) < 48), BT ((((bAt s k).toNat : Int) : Int) > 57), NF ((bAt s k).toNat : Int) 45, Wr (((k : Int) : Int) + 1) (((k + 1 : Nat) : Int))] [(0, .string s), (q8h4_0 s), (q8h4_1 k)] rfl ⟨bt (by omega), bf (by omega), bt (by omega), nf (by omega), wrI, trivial⟩ ?_
                     refine e_inv (fun a w' hs => ⟨s.size - (k + 1), by omega, n10, (k + 1), rfl, by omega, by omega, upto_ hf (by unfold nameB win; simp; omega), hs⟩)
                   · refine q_cS 9 0 [1] [[o0, oT, o0, o0, o0, o0, oF, o0, o0, oT, o0, o0, o0, o0, oT, o0], [o0]] [BT ((((bAt s k).toNat : Int) : Int) < 97), BF ((((bAt s k).toNat : Int) : Int) < 48), BT ((((bAt s k).toNat : Int) : Int) > 57), NT ((bAt s k).toNat : Int) 45] [(2, .bool false)] rfl ⟨bt (by omega), bf (by omega), bt (by omega), nt (by omega), trivial⟩ ?_
                     refine e_ret [] [] (.bool false) trivial ?_
                     intro w18 hw18
                     refine ⟨congrArg (fun b => Ending.returned (Value.bool b)) (?_ : false = isNameP s), back0 hw18⟩
                     refine Eq.symm ?_
                     unfold isNameP
                     rw [range_not (k := k) (by omega) (by unfold nameB win; simp; omega), Bool.and_false]
                 · refine q_cS 9 0 [0] [[o0, oT, o0, o0, o0, o0, oF, o0, o0, oF, o0, o0, o0, o0], [(ov (i6 ((k + 1 : Nat) : Int))), o0]] [BT ((((bAt s k).toNat : Int) : Int) < 97), BF ((((bAt s k).toNat : Int) : Int) < 48), BF ((((bAt s k).toNat : Int) : Int) > 57), Wr (((k : Int) : Int) + 1) (((k + 1 : Nat) : Int))] [(0, .string s), (q8h4_0 s), (q8h4_1 k)] rfl ⟨bt (by omega), bf (by omega), bf (by omega), wrI, trivial⟩ ?_
                   refine e_inv (fun a w' hs => ⟨s.size - (k + 1), by omega, n10, (k + 1), rfl, by omega, by omega, upto_ hf (by unfold nameB win; simp; omega), hs⟩)
             · by_cases h19 : (122 : Int) < ((bAt s k).toNat : Int)
               · by_cases h20 : (((bAt s k).toNat : Int) : Int) < 48
                 · by_cases h21 : (((bAt s k).toNat : Int) : Int) = 45
                   · refine q_cS 9 0 [0] [[o0, oF, o0, o0, oT, o0, o0, o0, oT, o0, o0, o0, o0, o0, oF, o0], [(ov (i6 ((k + 1 : Nat) : Int))), o0]] [BF ((((bAt s k).toNat : Int) : Int) < 97), BT ((((bAt s k).toNat : Int) : Int) > 122), BT ((((bAt s k).toNat : Int) : Int) < 48), NF ((bAt s k).toNat : Int) 45, Wr (((k : Int) : Int) + 1) (((k + 1 : Nat) : Int))] [(0, .string s), (q8h4_0 s), (q8h4_1 k)] rfl ⟨bf (by omega), bt (by omega), bt (by omega), nf (by omega), wrI, trivial⟩ ?_
                     refine e_inv (fun a w' hs => ⟨s.size - (k + 1), by omega, n10, (k + 1), rfl, by omega, by omega, upto_ hf (by unfold nameB win; simp; omega), hs⟩)
                   · refine q_cS 9 0 [1] [[o0, oF, o0, o0, oT, o0, o0, o0, oT, o0, o0, o0, o0, o0, oT, o0], [o0]] [BF ((((bAt s k).toNat : Int) : Int) < 97), BT ((((bAt s k).toNat : Int) : Int) > 122), BT ((((bAt s k).toNat : Int) : Int) < 48), NT ((bAt s k).toNat : Int) 45] [(2, .bool false)] rfl ⟨bf (by omega), bt (by omega), bt (by omega), nt (by omega), trivial⟩ ?_
                     refine e_ret [] [] (.bool false) trivial ?_
                     intro w22 hw22
                     refine ⟨congrArg (fun b => Ending.returned (Value.bool b)) (?_ : false = isNameP s), back0 hw22⟩
                     refine Eq.symm ?_
                     unfold isNameP
                     rw [range_not (k := k) (by omega) (by unfold nameB win; simp; omega), Bool.and_false]
                 · by_cases h23 : (57 : Int) < ((bAt s k).toNat : Int)
                   · by_cases h24 : (((bAt s k).toNat : Int) : Int) = 45
                     · refine q_cS 9 0 [0] [[o0, oF, o0, o0, oT, o0, o0, o0, oF, o0, o0, oT, o0, o0, o0, o0, oF, o0], [(ov (i6 ((k + 1 : Nat) : Int))), o0]] [BF ((((bAt s k).toNat : Int) : Int) < 97), BT ((((bAt s k).toNat : Int) : Int) > 122), BF ((((bAt s k).toNat : Int) : Int) < 48), BT ((((bAt s k).toNat : Int) : Int) > 57), NF ((bAt s k).toNat : Int) 45, Wr (((k : Int) : Int) + 1) (((k + 1 : Nat) : Int))] [(0, .string s), (q8h4_0 s), (q8h4_1 k)] rfl ⟨bf (by omega), bt (by omega), bf (by omega), bt (by omega), nf (by omega), wrI, trivial⟩ ?_
                       refine e_inv (fun a w' hs => ⟨s.size - (k + 1), by omega, n10, (k + 1), rfl, by omega, by omega, upto_ hf (by unfold nameB win; simp; omega), hs⟩)
                     · refine q_cS 9 0 [1] [[o0, oF, o0, o0, oT, o0, o0, o0, oF, o0, o0, oT, o0, o0, o0, o0, oT, o0], [o0]] [BF ((((bAt s k).toNat : Int) : Int) < 97), BT ((((bAt s k).toNat : Int) : Int) > 122), BF ((((bAt s k).toNat : Int) : Int) < 48), BT ((((bAt s k).toNat : Int) : Int) > 57), NT ((bAt s k).toNat : Int) 45] [(2, .bool false)] rfl ⟨bf (by omega), bt (by omega), bf (by omega), bt (by omega), nt (by omega), trivial⟩ ?_
                       refine e_ret [] [] (.bool false) trivial ?_
                       intro w25 hw25
                       refine ⟨congrArg (fun b => Ending.returned (Value.bool b)) (?_ : false = isNameP s), back0 hw25⟩
                       refine Eq.symm ?_
                       unfold isNameP
                       rw [range_not (k := k) (by omega) (by unfold nameB win; simp; omega), Bool.and_false]
                   · refine q_cS 9 0 [0] [[o0, oF, o0, o0, oT, o0, o0, o0, oF, o0, o0, oF, o0, o0, o0, o0], [(ov (i6 ((k + 1 : Nat) : Int))), o0]] [BF ((((bAt s k).toNat : Int) : Int) < 97), BT ((((bAt s k).toNat : Int) : Int) > 122), BF ((((bAt s k).toNat : Int) : Int) < 48), BF ((((bAt s k).toNat : Int) : Int) > 57), Wr (((k : Int) : Int) + 1) (((k + 1 : Nat) : Int))] [(0, .string s), (q8h4_0 s), (q8h4_1 k)] rfl ⟨bf (by omega), bt (by omega), bf (by omega), bf (by omega), wrI, trivial⟩ ?_
                     refine e_inv (fun a w' hs => ⟨s.size - (k + 1), by omega, n10, (k + 1), rfl, by omega, by omega, upto_ hf (by unfold nameB win; simp; omega), hs⟩)
               · refine q_cS 9 0 [0] [[o0, oF, o0, o0, oF, o0, o0, o0, o0, o0], [(ov (i6 ((k + 1 : Nat) : Int))), o0]] [BF ((((bAt s k).toNat : Int) : Int) < 97), BF ((((bAt s k).toNat : Int) : Int) > 122), Wr (((k : Int) : Int) + 1) (((k + 1 : Nat) : Int))] [(0, .string s), (q8h4_0 s), (q8h4_1 k)] rfl ⟨bf (by omega), bf (by omega), wrI, trivial⟩ ?_
                 refine e_inv (fun a w' hs => ⟨s.size - (k + 1), by omega, n10, (k + 1), rfl, by omega, by omega, upto_ hf (by unfold nameB win; simp; omega), hs⟩)
           · refine q_cS 15 0 [0] [[oF], [o0]] [BF (((k : Int) : Int) < ((s.size : Nat) : Int))] [(2, .bool true)] rfl ⟨bf (by omega), trivial⟩ ?_
             refine e_ret [] [] (.bool true) trivial ?_
             intro w26 hw26
             refine ⟨congrArg (fun b => Ending.returned (Value.bool b)) (?_ : true = isNameP s), back0 hw26⟩
             refine Eq.symm ?_
             unfold isNameP
             rw [range_all (fun i hi => hf i (by omega))]
             unfold lowB win; simp; omega
abbrev qgs6_0 (z : Nat) (c : TConfig) : Ch := bk z (TConfig.arr c) 26
abbrev qgs6_1 (b4 : Nat) (o5 : Nat) (p : Nat) (c : TConfig) : Nat × Value := (10, .slice (some ⟨b4, o5, none⟩) (p - 0) (c.Partitions.cap - 0))
abbrev qgs6_2 (c : TConfig) (p : Nat) : Nat × Value := (10, .slice c.Partitions.a (p - 0) (c.Partitions.cap - 0))
abbrev qgs6_3 (p : Nat) : Nat × Value := (11, i6 ((p - 0 : Nat) : Int))
theorem named_calls (w : World) (c : TConfig) (hc : TConfig.ok Any w c) (p : Nat) (hp : p < c.Partitions.xs.length) : Calls Tryd.prog 66 #[.agg (TConfig.arr c), .int .i64 (p : Int)] w fun e w' => e = .returned (.bool (namedP c p)) ∧ Keeps (fun _ => False) w w' := by
 obtain ⟨z, hz⟩ : ∃ z, z = w.heap.size := ⟨_, rfl⟩
 refine calls_G (args := [.agg (TConfig.arr c), i6 (p : Int)]) 33 ⟨w, z, [(old0 w)]⟩ Tryd.func66 rfl (by kernel_rfl) (by kernel_rfl) (sat_0 hz) ?_
 have hpl := hc.Partitions.1.len; have hpc := hc.Partitions.1.le
 refine g_keep [0, 1] [(0, .agg (TConfig.arr c)), (1, i6 (p : Int))] ?_
 refine q_c 10 0 [] [[o0, o0], [o0, (a1 1), o0, ⟨.slc 0 p false, none⟩, o0, o0]] [Qb z, (0 : Int) = ((0 : Nat) : Int), ((p : Int) : Int) = ((p : Nat) : Int), 0 ≤ p, p ≤ c.Partitions.cap, c.Partitions.cap = 0 ∨ (0 : Nat) = 0] [(1, i6 (p : Int)), (2, pt z), (qgs6_2 c p), (qgs6_3 p), (12, i6 0)] ⟨w, z + 1, [(old0 w), (qgs6_0 z c)]⟩ rfl ⟨rfl, rfl, rfl, (by omega), (by omega), .inr rfl, trivial⟩ ?_
 refine g_loop (fun m a w' => ∃ (n2 : Nat) (k : Nat), m = p - k ∧ z + 1 ≤ n2 ∧ (k ≤ p) ∧ (∀ i, i < k → (!((parC c i).Name.toList == (parC c p).Name.toList)) = true) ∧ St 33 [(1, i6 (p : Int)), (2, pt z), (qgs6_2 c p), (qgs6_3 p), (12, i6 (k : Int))] [] ⟨w, n2, [(old0 w), (qgs6_0 z c)]⟩ a w') (p - 0) ?_ ?_
 · intro a w' hs; exact ⟨(z + 1), 0, rfl, Nat.le_refl _, Nat.zero_le _, fun i hi => absurd hi (Nat.not_lt_zero i), hs⟩
 · rintro m a w' ⟨n2, k, rfl, hn1, hkk, hf, hs⟩
   refine (?_ : G Tryd.prog 33 [(1, i6 (p : Int)), (2, pt z), (qgs6_2 c p), (qgs6_3 p), (12, i6 (k : Int))] [] ⟨w, n2, [(old0 w), (qgs6_0 z c)]⟩ _ _ _) a w' hs
   clear hs a w'
   refine g_seq ?_
   by_cases h3 : ((k : Int) : Int) < ((p - 0 : Nat) : Int)
   · refine q_cS 10 0 [1] [[oT]] [BT (((k : Int) : Int) < ((p - 0 : Nat) : Int))] [(1, i6 (p : Int)), (2, pt z), (qgs6_2 c p), (qgs6_3 p), (12, i6 (k : Int)), (13, .bool true)] rfl ⟨bt (by omega), trivial⟩ ?_
     obtain ⟨b4, o5, ha6, hF8, hc7⟩ := (hc.Partitions).1.all (show 0 < c.Partitions.xs.length by omega)
     replace ha6 : c.Partitions.a = some ⟨b4, o5, none⟩ := ha6
     refine g_eq [(1, i6 (p : Int)), (2, pt z), (qgs6_1 b4 o5 p c), (qgs6_3 p), (12, i6 (k : Int)), (13, .bool true)] (by (try dsimp only [qgs6_0, qgs6_1, qgs6_2, qgs6_3]); simp only [ha6]) ?_
     have hc9 := hc7 k (show k < c.Partitions.xs.length by omega)
     have he10 := (hc.Partitions).2 k (show k < c.Partitions.xs.length by omega)
     obtain ⟨y11, hy11⟩ : ∃ y_, y_ = gd c.Partitions.xs k := ⟨_, rfl⟩
     rw [← hy11] at he10 hc9
     refine q_c 4 0 [] [[(oi k), (ol 0 (TPartition.arr y11)), o0, (an 8 2)]] [((k : Int) : Int) = ((k : Nat) : Int), k < p - 0, (none : Option Nat) = none, OldR w b4 (o5 + k * 8) (TPartition.arr y11), Qb n2, Qb n2, Qb n2, Qb n2, Qb n2, Qb n2, Qb n2, Qb n2] [(1, i6 (p : Int)), (2, pt z), (qgs6_1 b4 o5 p c), (qgs6_3 p), (12, i6 (k : Int)), (6, pt n2)] ⟨w, n2 + 1, [(old0 w), (qgs6_0 z c), (bk n2 (TPartition.arr y11) 41)]⟩ rfl ⟨rfl, (by omega), rfl, old_row hc9, rfl, rfl, rfl, rfl, rfl, rfl, rfl, rfl, trivial⟩ ?_
     have hc12 := hc7 p (show p < c.Partitions.xs.length by omega)
     have he13 := (hc.Partitions).2 p (show p < c.Partitions.xs.length by omega)
     obtain ⟨y14, hy14⟩ : ∃ y_, y_ = gd c.Partitions.xs p := ⟨_, rfl⟩
     rw [← hy14] at he13 hc12
     by_cases h15 : y11.Name.toList = y14.Name.toList
     · refine g_draw 9 [0, 1, 2] [(old0 w), (qgs6_0 z c), (bk n2 (TPartition.arr y11) 41)] rfl rfl ?_
       refine w_take [(0, o0), (1, (a1 2)), (2, o0), (3, ⟨.auto [.at 1], some (.slice (some ⟨b4, o5, none⟩) c.Partitions.xs.length c.Partitions.cap)⟩), (4, o0), (5, (oi p)), (6, o0), (7, (oa [.via 0 (.string y14.Name)])), (8, (ov (.bool true)))] [1, 2, 10, 11, 12, 24] [Qb n2, Qb z, Value.slice c.Partitions.a c.Partitions.xs.length c.Partitions.cap = Value.slice (some ⟨b4, o5, none⟩) c.Partitions.xs.length c.Partitions.cap, ((p : Int) : Int) = ((p : Nat) : Int), p < c.Partitions.xs.length, (none : Option Nat) = none, Old w b4 (o5 + p * 8) (.string y14.Name), Value.bool ((y11.Name.toList == y14.Name.toList)) = Value.bool true] [true, true, true, true, true, true, true, true, true] [(1, i6 (p : Int)), (2, pt z), (qgs6_1 b4 o5 p c), (qgs6_3 p), (12, i6 (k : Int)), (24, .bool true)] rfl (by as_aux_lemma => kernel_rfl) (by as_aux_lemma => kernel_rfl) ⟨rfl, rfl, congrArg (fun a => Value.slice a _ _) ha6, rfl, (by omega), rfl, old_cell' (hc12 0 _ rfl), congrArg (fun t => Value.bool (t)) (beq_iff_eq.2 h15), trivial⟩ ?_
       refine w_done (by as_aux_lemma => kernel_rfl) ?_
       refine q_oS 7 0 [1] [[o0]] [] [(4, .bool false)] rfl trivial ?_
       refine e_ret [] [] (.bool false) trivial ?_
       intro w16 hw16
       refine ⟨congrArg (fun b => Ending.returned (Value.bool b)) (?_ : false = namedP c p), back0 hw16⟩
       refine Eq.symm ?_
       unfold namedP
       rw [range_not (k := k) (by omega) (by dsimp only [parC]; rw [← hy11, ← hy14, beq_iff_eq.2 h15]; rfl), Bool.false_and]
     · refine g_draw 9 [0, 1, 2] [(old0 w), (qgs6_0 z c), (bk n2 (TPartition.arr y11) 41)] rfl rfl ?_
       refine w_take [(0, o0), (1, (a1 2)), (2, o0), (3, ⟨.auto [.at 1], some (.slice (some ⟨b4, o5, none⟩) c.Partitions.xs.length c.Partitions.cap)⟩), (4, o0), (5, (oi p)), (6, o0), (7, (oa [.via 0 (.string y14.Name)])), (8, (ov (.bool false)))] [1, 2, 10, 11, 12, 24] [Qb n2, Qb z, Value.slice c.Partitions.a c.Partitions.xs.length c.Partitions.cap = Value.slice (some ⟨b4, o5, none⟩) c.Partitions.xs.length c.Partitions.cap, ((p : Int) : Int) = ((p : Nat) : Int), p < c.Partitions.xs.length, (none : Option Nat) = none, Old w b4 (o5 + p * 8) (.string y14.Name), Value.bool ((y11.Name.toList == y14.Name.toList)) = Value.bool false] [true, true, true, true, true, true, true, true, true] [(1, i6 (p : Int)), (2, pt z), (qgs6_1 b4 o5 p c), (qgs6_3 p), (12, i6 (k : Int)), (24, .bool false)] rfl (by as_aux_lemma => kernel_rfl) (by as_aux_lemma => kernel_rfl) ⟨rfl, rfl, congrArg (fun a => Value.slice a _ _) ha6, rfl, (by omega), rfl, old_cell' (hc12 0 _ rfl), congrArg (fun t => Value.bool (t)) (beq_eq_false_iff_ne.2 h15), trivial⟩ ?_
       refine w_done (by as_aux_lemma => kernel_rfl) ?_
       refine q_oS 7 0 [0] [[(ov (i6 ((k + 1 : Nat) : Int))), o0]] [Wr (((k : Int) : Int) + 1) (((k + 1 : Nat) : Int))] [(1, i6 (p : Int)), (2, pt z), (qgs6_1 b4 o5 p c), (qgs6_3 p), (12, i6 ((k + 1 : Nat) : Int))] rfl ⟨wrI, trivial⟩ ?_
       refine e_pick [0, 1] [(old0 w), (qgs6_0 z c)] rfl rfl ?_
       refine e_eqk [1, 2, 10, 11, 12] [(1, i6 (p : Int)), (2, pt z), (qgs6_2 c p), (qgs6_3 p), (12, i6 ((k + 1 : Nat) : Int))] (by (try dsimp only [qgs6_0, qgs6_1, qgs6_2, qgs6_3]); simp only [ha6]; rfl) ?_
       refine e_inv (fun a w' hs => ⟨p - (k + 1), by omega, (n2 + 1), (k + 1), rfl, by omega, by omega, upto_ hf (by dsimp only [parC]; rw [← hy11, ← hy14, beq_eq_false_iff_ne.2 h15]; rfl), hs⟩)
   · refine q_cS 11 0 [0] [[oF]] [BF (((k : Int) : Int) < ((p - 0 : Nat) : Int))] [(1, i6 (p : Int)), (2, pt z), (qgs6_2 c p), (qgs6_3 p), (12, i6 (k : Int)), (13, .bool false)] rfl ⟨bf (by omega), trivial⟩ ?_
     obtain ⟨b17, o18, ha19, hF21, hc20⟩ := (hc.Partitions).1.all (show 0 < c.Partitions.xs.length by omega)
     replace ha19 : c.Partitions.a = some ⟨b17, o18, none⟩ := ha19
     refine g_eq [(1, i6 (p : Int)), (2, pt z), (10, .slice (some ⟨b17, o18, none⟩) (p - 0) (c.Partitions.cap - 0)), (qgs6_3 p), (12, i6 (k : Int)), (13, .bool false)] (by (try dsimp only [qgs6_0, qgs6_1, qgs6_2, qgs6_3]); simp only [ha19]) ?_
     have hc22 := hc20 p (show p < c.Partitions.xs.length by omega)
     have he23 := (hc.Partitions).2 p (show p < c.Partitions.xs.length by omega)
     obtain ⟨y24, hy24⟩ : ∃ y_, y_ = gd c.Partitions.xs p := ⟨_, rfl⟩
     rw [← hy24] at he23 hc22
     refine q_cS 1 6 [] [[o0, ⟨.auto [.at 1], some (.slice (some ⟨b17, o18, none⟩) c.Partitions.xs.length c.Partitions.cap)⟩, o0, (oi p), o0, (oa [.via 0 (.string y24.Name)])]] [Qb z, Value.slice c.Partitions.a c.Partitions.xs.length c.Partitions.cap = Value.slice (some ⟨b17, o18, none⟩) c.Partitions.xs.length c.Partitions.cap, ((p : Int) : Int) = ((p : Nat) : Int), p < c.Partitions.xs.length, (none : Option Nat) = none, Old w b17 (o18 + p * 8) (.string y24.Name)] [(31, .string y24.Name)] rfl ⟨rfl, congrArg (fun a => Value.slice a _ _) ha19, rfl, (by omega), rfl, old_cell' (hc22 0 _ rfl), trivial⟩ ?_
     refine l_call [] [] 79 #[.string y24.Name] (some 32) trivial ?_
     intro w25 hw25
     refine (isName_calls w25 y24.Name he23.Name).mono ?_
     rintro e w26 ⟨rfl, hkw26⟩
     have hnw26 : n2 ≤ w26.heap.size := size_of hw25 hkw26
     refine ⟨_, _, rfl, hw25.keeps hkw26, ?_⟩
     refine q_rS 3 0 [] [[o0]] [] [(4, .bool (isNameP y24.Name))] rfl trivial ?_
     refine e_ret [] [] (.bool (isNameP y24.Name)) trivial ?_
     intro w27 hw27
     refine ⟨congrArg (fun b => Ending.returned (Value.bool b)) (?_ : isNameP y24.Name = namedP c p), back0 hw27⟩
     refine Eq.symm ?_
     unfold namedP
     rw [range_all (fun i hi => hf i (by omega)), Bool.true_and]; dsimp only [parC]; rw [← hy24]
abbrev q4na_0 (z : Nat) (x : TPartition) : Ch := bk z (TPartition.arr x) 41
abbrev q4na_1 (b4 : Nat) (o5 : Nat) (x : TPartition) : Nat × Value := (6, .slice (some ⟨b4, o5, none⟩) x.Regions.xs.length x.Regions.cap)
abbrev q4na_2 (x : TPartition) : Nat × Value := (6, .slice x.Regions.a x.Regions.xs.length x.Regions.cap)
abbrev q4na_3 (x : TPartition) : Nat × Value := (7, i6 ((x.Regions.xs.length : Nat) : Int))
theorem runs_calls (w : World) (x : TPartition) (hx : TPartition.ok Any w x) (he : 0 ≤ x.Entry) (hr : ∀ k, k < x.Regions.xs.length → (0 ≤ (gd x.Regions.xs k).Page ∧ (gd x.Regions.xs k).Page ≤ 255) ∧ (1 ≤ (gd x.Regions.xs k).Pages ∧ (gd x.Regions.xs k).Pages ≤ 256)) : Calls Tryd.prog 69 #[.agg (TPartition.arr x)] w fun e w' => e = .returned (.bool (runsP x)) ∧ Keeps (fun _ => False) w w' := by
 obtain ⟨z, hz⟩ : ∃ z, z = w.heap.size := ⟨_, rfl⟩
 refine calls_G (args := [.agg (TPartition.arr x)]) 31 ⟨w, z, [(old0 w)]⟩ Tryd.func69 rfl (by kernel_rfl) (by kernel_rfl) (sat_0 hz) ?_
 have hpl := hx.Regions.1.len; have hxe : (-9223372036854775808 : Int) ≤ x.Entry ∧ x.Entry ≤ 9223372036854775807 := hx.Entry
 refine g_keep [0] [(0, .agg (TPartition.arr x))] ?_
 refine q_c 10 0 [] [[o0, o0], [o0, (a1 1), o0, o0]] [Qb z] [(1, pt z), (q4na_2 x), (q4na_3 x), (8, i6 0)] ⟨w, z + 1, [(old0 w), (q4na_0 z x)]⟩ rfl ⟨rfl, trivial⟩ ?_
 refine g_loop (fun m a w' => ∃ (n2 : Nat) (k : Nat), m = x.Regions.xs.length - k ∧ z + 1 ≤ n2 ∧ (k ≤ x.Regions.xs.length) ∧ (∀ i, i < k → runsAt x i = false) ∧ St 31 [(1, pt z), (q4na_2 x), (q4na_3 x), (8, i6 (k : Int))] [] ⟨w, n2, [(old0 w), (q4na_0 z x)]⟩ a w') (x.Regions.xs.length - 0) ?_ ?_
 · intro a w' hs; exact ⟨(z + 1), 0, rfl, Nat.le_refl _, Nat.zero_le _, fun i hi => absurd hi (Nat.not_lt_zero i), hs⟩
 · rintro m a w' ⟨n2, k, rfl, hn1, hkk, hf, hs⟩
   refine (?_ : G Tryd.prog 31 [(1, pt z), (q4na_2 x), (q4na_3 x), (8, i6 (k : Int))] [] ⟨w, n2, [(old0 w), (q4na_0 z x)]⟩ _ _ _) a w' hs
   clear hs a w'
   refine g_seq ?_
   by_cases h3 : ((k : Int) : Int) < ((x.Regions.xs.length : Nat) : Int)
   · refine q_cS 10 0 [1] [[oT]] [BT (((k : Int) : Int) < ((x.Regions.xs.length : Nat) : Int))] [(1, pt z), (q4na_2 x), (q4na_3 x), (8, i6 (k : Int)), (9, .bool true)] rfl ⟨bt (by omega), trivial⟩ ?_
     obtain ⟨b4, o5, ha6, hF8, hc7⟩ := (hx.Regions).1.all (show 0 < x.Regions.xs.length by omega)
     replace ha6 : x.Regions.a = some ⟨b4, o5, none⟩ := ha6
     refine g_eq [(1, pt z), (q4na_1 b4 o5 x), (q4na_3 x), (8, i6 (k : Int)), (9, .bool true)] (by (try dsimp only [q4na_0, q4na_1, q4na_2, q4na_3]); simp only [ha6]) ?_
     have hc9 := hc7 k (show k < x.Regions.xs.length by omega)
     have he10 := (hx.Regions).2 k (show k < x.Regions.xs.length by omega)
     obtain ⟨y11, hy11⟩ : ∃ y_, y_ = gd x.Regions.xs k := ⟨_, rfl⟩
     rw [← hy11] at he10 hc9
     have hb12 := hr k (by omega); rw [← hy11] at hb12
     refine q_c 5 11 [] [[(oi k), (ol 0 (TRegion.arr y11)), o0, (an 4 2)], [o0, (a1 1), (ov (i6 (x.Entry / 16))), o0, (a1 2), o0, (a1 2), o0, (a1 2), (ov (i6 (y11.Page + y11.Pages))), (ov (i6 ((y11.Page + y11.Pages) - 1)))]] [((k : Int) : Int) = ((k : Nat) : Int), k < x.Regions.xs.length, (none : Option Nat) = none, OldR w b4 (o5 + k * 4) (TRegion.arr y11), Qb n2, Qb n2, Qb n2, Qb n2, Qb z, Wr (Int.tdiv (x.Entry) 16) (x.Entry / 16), Qb n2, Qb n2, Qb n2, Wr ((y11.Page : Int) + y11.Pages) (y11.Page + y11.Pages), Wr ((y11.Page + y11.Pages : Int) - 1) ((y11.Page + y11.Pages) - 1)] [(1, pt z), (q4na_1 b4 o5 x), (q4na_3 x), (8, i6 (k : Int)), (4, pt n2), (14, i6 (x.Entry / 16)), (16, i6 y11.Page), (22, i6 ((y11.Page + y11.Pages) - 1))] ⟨w, n2 + 1, [(old0 w), (q4na_0 z x), (bk n2 (TRegion.arr y11) 49)]⟩ rfl ⟨rfl, (by omega), rfl, old_row hc9, rfl, rfl, rfl, rfl, rfl, congrArg (Value.int .i64) (wr_div (by omega) (by omega) (by omega)), rfl, rfl, rfl, wrI, wrI, trivial⟩ ?_
     refine l_call [] [] 42 #[i6 (x.Entry / 16), i6 y11.Page, i6 ((y11.Page + y11.Pages) - 1)] (some 23) trivial ?_
     intro w13 hw13
     refine (within_calls w13 (x.Entry / 16) y11.Page ((y11.Page + y11.Pages) - 1)).mono ?_
     rintro e w14 ⟨rfl, hkw14⟩
     have hnw14 : n2 + 1 ≤ w14.heap.size := size_of hw13 hkw14
     refine ⟨_, _, rfl, hw13.keeps hkw14, ?_⟩
     refine l_keep [1, 6, 7, 8, 4, 23] [(1, pt z), (q4na_1 b4 o5 x), (q4na_3 x), (8, i6 (k : Int)), (4, pt n2), (23, .bool (win (x.Entry / 16) y11.Page ((y11.Page + y11.Pages) - 1)))] ?_
     by_cases h15 : (win (x.Entry / 16) y11.Page ((y11.Page + y11.Pages) - 1)) = true
     · have hd16 := win_yes h15
       by_cases h17 : ((ba64 y11.Rights 4) : Int) = 0
       · refine q_rS 8 0 [0] [[(ov (.bool true)), o0, (a1 2), o0, oF, o0], [(ov (i6 ((k + 1 : Nat) : Int))), o0]] [Value.bool (win (x.Entry / 16) y11.Page ((y11.Page + y11.Pages) - 1)) = Value.bool true, Qb n2, NF (ba64 y11.Rights 4) 0, Wr (((k : Int) : Int) + 1) (((k + 1 : Nat) : Int))] [(1, pt z), (q4na_1 b4 o5 x), (q4na_3 x), (8, i6 ((k + 1 : Nat) : Int))] rfl ⟨(congrArg Value.bool h15), rfl, nf (by omega), wrI, trivial⟩ ?_
         refine e_pick [0, 1] [(old0 w), (q4na_0 z x)] rfl rfl ?_
         refine e_eqk [1, 6, 7, 8] [(1, pt z), (q4na_2 x), (q4na_3 x), (8, i6 ((k + 1 : Nat) : Int))] (by (try dsimp only [q4na_0, q4na_1, q4na_2, q4na_3]); simp only [ha6]; rfl) ?_
         refine e_inv (fun a w' hs => ⟨x.Regions.xs.length - (k + 1), by omega, w14.heap.size, (k + 1), rfl, by omega, by omega, upto_ hf (by unfold runsAt; rw [← hy11]; simp [h15, h17]), hs⟩)
       · refine q_rS 8 0 [1] [[(ov (.bool true)), o0, (a1 2), o0, oT, o0], [o0]] [Value.bool (win (x.Entry / 16) y11.Page ((y11.Page + y11.Pages) - 1)) = Value.bool true, Qb n2, NT (ba64 y11.Rights 4) 0] [(2, .bool true)] rfl ⟨(congrArg Value.bool h15), rfl, nt (by omega), trivial⟩ ?_
         refine e_ret [] [] (.bool true) trivial ?_
         intro w18 hw18
         refine ⟨congrArg (fun b => Ending.returned (Value.bool b)) (?_ : true = runsP x), back0 hw18⟩
         refine Eq.symm (range_any (k := k) (by omega) ?_)
         unfold runsAt
         rw [← hy11]; simp [h15, h17]
     · have hd19 := win_no h15
       refine q_rS 8 0 [0] [[(ov (.bool false)), o0], [(ov (i6 ((k + 1 : Nat) : Int))), o0]] [Value.bool (win (x.Entry / 16) y11.Page ((y11.Page + y11.Pages) - 1)) = Value.bool false, Wr (((k : Int) : Int) + 1) (((k + 1 : Nat) : Int))] [(1, pt z), (q4na_1 b4 o5 x), (q4na_3 x), (8, i6 ((k + 1 : Nat) : Int))] rfl ⟨(congrArg Value.bool (Bool.eq_false_iff.2 h15)), wrI, trivial⟩ ?_
       refine e_pick [0, 1] [(old0 w), (q4na_0 z x)] rfl rfl ?_
       refine e_eqk [1, 6, 7, 8] [(1, pt z), (q4na_2 x), (q4na_3 x), (8, i6 ((k + 1 : Nat) : Int))] (by (try dsimp only [q4na_0, q4na_1, q4na_2, q4na_3]); simp only [ha6]; rfl) ?_
       refine e_inv (fun a w' hs => ⟨x.Regions.xs.length - (k + 1), by omega, w14.heap.size, (k + 1), rfl, by omega, by omega, upto_ hf (by unfold runsAt; rw [← hy11]; simp [h15]), hs⟩)
   · refine q_cS 15 0 [0] [[oF], [o0]] [BF (((k : Int) : Int) < ((x.Regions.xs.length : Nat) : Int))] [(2, .bool false)] rfl ⟨bf (by omega), trivial⟩ ?_
     refine e_ret [] [] (.bool false) trivial ?_
     intro w20 hw20
     refine ⟨congrArg (fun b => Ending.returned (Value.bool b)) (?_ : false = runsP x), back0 hw20⟩
     exact (range_none (fun i hi => hf i (by omega))).symm

end Go.Proofs.YtnjhekfgmbpmlaaDoor.Ad
