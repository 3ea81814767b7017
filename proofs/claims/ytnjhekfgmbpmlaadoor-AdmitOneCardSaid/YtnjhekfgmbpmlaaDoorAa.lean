/- admit: within, unless, at, both, meet, first. No conditions. -/
import Derived.Test.YtnjhekfgmbpmlaaDoorTf
import Derived.Test.YtnjhekfgmbpmlaaDoorEngY
namespace Go.Proofs.YtnjhekfgmbpmlaaDoor.Ad
open Go Go.Proofs.YtnjhekfgmbpmlaaDoor.Eng Go.Proofs.YtnjhekfgmbpmlaaDoor.Mem Go.Proofs.YtnjhekfgmbpmlaaDoor.Ly
set_option linter.unusedSimpArgs false
set_option linter.unusedVariables false
set_option maxRecDepth 100000

def LaidAt (w : World) : Prop := (∀ (k : Nat) (v : Value), [Value.int .i64 (-1), .int .i64 (-1)][k]? = some v → w.cell? ⟨1, 0 + k, none⟩ = some v) ∧ (∀ (k : Nat) (v : Value), [Value.int .i64 0, .int .i64 0, .int .i64 0][k]? = some v → w.cell? ⟨0, 0 + k, none⟩ = some v)
theorem LaidAt.ext {w w' : World} (h : LaidAt w) (he : Ext Any w w') : LaidAt w' := ⟨fun k v hk => he _ _ _ trivial (h.1 k v hk), fun k v hk => he _ _ _ trivial (h.2 k v hk)⟩
def win (n a b : Int) : Bool := decide (a ≤ n) && decide (n ≤ b)
theorem win_yes {n a b : Int} (h : win n a b = true) : a ≤ n ∧ n ≤ b := by
  unfold win at h; simpa using h
theorem win_no {n a b : Int} (h : ¬ win n a b = true) : ¬ (a ≤ n ∧ n ≤ b) := fun x => h (by unfold win; simpa using x)
theorem slok_blk {A : AW} {w : World} (h : Sat A w) {i b : Nat} {t : TypeId} {cs : Array Value} (xs : List Tfound) (hi : A.σ[i]? = some (.blk b (.cells cs t (0, 0)) true) := by rfl) (hx : xs.flatMap Tfound.cells = cs.toList := by rfl) (hl : cs.size = xs.length * 3 := by rfl) (hm : Nat.ble xs.length 1000 = true := by rfl) : SlOk Tfound.cells 3 (fun _ _ _ => True) Any w ⟨some ⟨b, 0, none⟩, xs.length, xs⟩ := by
  have hle := Nat.le_of_ble_eq_true hm
  have h1 := h.blkrow hi hx hl (Nat.zero_le b) (Nat.le_trans hle (by decide))
  have hlt : i < A.σ.length := (List.getElem?_eq_some_iff.1 hi).1
  have h0 : w.ownsRow 0 t 3 (.slice (some ⟨b, 0, none⟩) xs.length xs.length) xs.length (xs.flatMap Tfound.cells) := h1.at (i := i) (c := rowL 0 t 3 Tfound.cells (.slice (some ⟨b, 0, none⟩) xs.length xs.length) xs) (by show (A.σ.set i _)[i]? = _; rw [List.getElem?_set_self hlt])
  have h2 := row_sl (cells := Tfound.cells) (sz := 3) (fun _ => rfl) h0 (Nat.le_trans hle (by decide))
  refine ⟨⟨h2.len, h2.le, fun hne => ?_⟩, fun _ _ => trivial⟩
  obtain ⟨b', off, ha, -, hh⟩ := h2.cells hne
  exact ⟨b', off, ha, trivial, hh⟩
def fineF : Tfound := ⟨0, ⟨0, 0⟩⟩
def unl (h : Bool) (e : Int) (w : TWhere) : Tfound := bif h then fineF else ⟨e, w⟩
theorem upto_ {p : Nat → Prop} {k : Nat} (h : ∀ i, i < k → p i) (hk : p k) : ∀ i, i < k + 1 → p i := fun i hi => by
  by_cases e : i = k
  · subst e; exact hk
  · exact h i (by omega)
def fstW : List Tfound → Tfound
  | [] => fineF
  | x :: r => if x = fineF then fstW r else x
theorem fine_eq {x : Tfound} : (x.e == 0 && ((x.where_.First == 0 && (x.where_.Second == 0 && true)) && true)) = true ↔ x = fineF := by
  obtain ⟨e, ⟨a, b⟩⟩ := x
  simp [fineF]
theorem fst_all {xs : List Tfound} (h : ∀ i, i < xs.length → gd xs i = fineF) : fstW xs = fineF := by
  induction xs with
  | nil => rfl
  | cons x r ih =>
    have h0 : x = fineF := h 0 (by simp)
    unfold fstW
    rw [if_pos h0]
    exact ih fun i hi => h (i + 1) (by simp; omega)
theorem fst_at {xs : List Tfound} {k : Nat} (hk : k < xs.length) (h : ∀ i, i < k → gd xs i = fineF) (hn : gd xs k ≠ fineF) : fstW xs = gd xs k := by
  induction xs generalizing k with
  | nil => simp at hk
  | cons x r ih =>
    unfold fstW
    cases k with
    | zero => rw [if_neg (show x ≠ fineF from hn)]; rfl
    | succ k =>
      rw [if_pos (show x = fineF from h 0 (by omega))]
      exact ih (by simp at hk; omega) (fun i hi => h (i + 1) (by omega)) hn
theorem within_calls (w : World) (n a b : Int) : Calls Tryd.prog 42 #[.int .i64 n, .int .i64 a, .int .i64 b] w fun e w' => e = .returned (.bool (win n a b)) ∧ Keeps (fun _ => False) w w' := by
 obtain ⟨z, hz⟩ : ∃ z, z = w.heap.size := ⟨_, rfl⟩
 refine calls_G (args := [i6 n, i6 a, i6 b]) 15 ⟨w, z, [(old0 w)]⟩ Tryd.func42 rfl (by kernel_rfl) (by kernel_rfl) (sat_0 hz) ?_
 refine g_keep [0, 1, 2] [(0, i6 n), (1, i6 a), (2, i6 b)] ?_
 refine q_cS 5 0 [] [[o0]] [] [(0, i6 n), (1, i6 a), (2, i6 b)] rfl trivial ?_
 by_cases h1 : (n : Int) < a
 · refine q_cS 4 0 [] [[o0, o0, oF, o0, o0, o0]] [BF ((n : Int) ≥ a)] [(6, .bool false)] rfl ⟨bf (by omega), trivial⟩ ?_
   refine e_ret [] [] (.bool false) trivial ?_
   intro w2 hw2
   refine ⟨congrArg Ending.returned (?_ : Value.bool false = .bool (win n a b)), back0 hw2⟩
   unfold win; congr 1; simp; omega
 · by_cases h3 : (b : Int) < n
   · refine q_cS 4 0 [] [[o0, o0, oT, o0, o0, o0, oF, o0, o0]] [BT ((n : Int) ≥ a), BF ((n : Int) ≤ b)] [(6, .bool false)] rfl ⟨bt (by omega), bf (by omega), trivial⟩ ?_
     refine e_ret [] [] (.bool false) trivial ?_
     intro w4 hw4
     refine ⟨congrArg Ending.returned (?_ : Value.bool false = .bool (win n a b)), back0 hw4⟩
     unfold win; congr 1; simp; omega
   · refine q_cS 4 0 [] [[o0, o0, oT, o0, o0, o0, oT, o0, o0]] [BT ((n : Int) ≥ a), BT ((n : Int) ≤ b)] [(6, .bool true)] rfl ⟨bt (by omega), bt (by omega), trivial⟩ ?_
     refine e_ret [] [] (.bool true) trivial ?_
     intro w5 hw5
     refine ⟨congrArg Ending.returned (?_ : Value.bool true = .bool (win n a b)), back0 hw5⟩
     unfold win; congr 1; simp; omega
theorem unless_calls (w : World) (hL : LaidAt w) (h : Bool) (n a b : Int) : Calls Tryd.prog 41 #[.bool h, .int .i64 n, .agg #[.int .i64 a, .int .i64 b]] w fun e w' => e = .returned (.agg (Tfound.arr (unl h n ⟨a, b⟩))) ∧ Keeps (fun _ => False) w w' := by
 obtain ⟨z, hz⟩ : ∃ z, z = w.heap.size := ⟨_, rfl⟩
 refine calls_G (args := [.bool h, i6 n, .agg #[i6 a, i6 b]]) 12 ⟨w, z, [(old0 w)]⟩ Tryd.func41 rfl (by kernel_rfl) (by kernel_rfl) (sat_0 hz) ?_
 refine g_keep [0, 1, 2] [(0, .bool h), (1, i6 n), (2, .agg #[i6 a, i6 b])] ?_
 refine q_c 9 0 [] [[o0, o0], [o0]] [] [(1, i6 n), (5, pt z), (6, pt (z + 1)), (7, .bool h)] ⟨w, z + 2, [(old0 w), (bk z #[i6 a, i6 b] 34), (bk (z + 1) #[i6 0, i6 0, i6 0] 73)]⟩ rfl trivial ?_
 by_cases h1 : h = true
 · refine q_cS 6 0 [3] [[(oa [.via 0 (i6 0), .via 0 (i6 0), .via 0 (i6 0)]), (an 3 2)]] [Value.bool h = Value.bool true, Old w 0 0 (i6 0), Old w 0 1 (i6 0), Old w 0 2 (i6 0), Qb (z + 1), Qb (z + 1), Qb (z + 1)] [(6, pt (z + 1))] rfl ⟨(congrArg Value.bool h1), old_cell' (hL.2 0 _ rfl), old_cell' (hL.2 1 _ rfl), old_cell' (hL.2 2 _ rfl), rfl, rfl, rfl, trivial⟩ ?_
   refine e_ret [.at 2, .at 2, .at 2] [Qb (z + 1), Qb (z + 1), Qb (z + 1)] (.agg #[i6 0, i6 0, i6 0]) ⟨rfl, rfl, rfl, trivial⟩ ?_
   intro w2 hw2
   refine ⟨congrArg Ending.returned (?_ : Value.agg #[i6 0, i6 0, i6 0] = .agg (Tfound.arr (unl h n ⟨a, b⟩))), back0 hw2⟩
   unfold unl fineF; cases h <;> first | rfl | contradiction
 · refine q_c 8 0 [2] [[o0, (an 2 1), o0, (an 3 2)]] [Value.bool h = Value.bool false, Qb z, Qb z, Qb (z + 1), Qb (z + 1), Qb (z + 1)] [(6, pt (z + 1))] ⟨w, z + 2, [(old0 w), (bk z #[i6 a, i6 b] 34), (bk (z + 1) #[i6 n, i6 a, i6 b] 73)]⟩ rfl ⟨(congrArg Value.bool (Bool.eq_false_iff.2 h1)), rfl, rfl, rfl, rfl, rfl, trivial⟩ ?_
   refine e_ret [.at 2, .at 2, .at 2] [Qb (z + 1), Qb (z + 1), Qb (z + 1)] (.agg #[i6 n, i6 a, i6 b]) ⟨rfl, rfl, rfl, trivial⟩ ?_
   intro w3 hw3
   refine ⟨congrArg Ending.returned (?_ : Value.agg #[i6 n, i6 a, i6 b] = .agg (Tfound.arr (unl h n ⟨a, b⟩))), back0 hw3⟩
   unfold unl fineF; cases h <;> first | rfl | contradiction
theorem at_calls (w : World) (n : Int) : Calls Tryd.prog 67 #[.int .i64 n] w fun e w' => e = .returned (.agg #[.int .i64 n, .int .i64 (-1)]) ∧ Keeps (fun _ => False) w w' := by
 obtain ⟨z, hz⟩ : ∃ z, z = w.heap.size := ⟨_, rfl⟩
 refine calls_G (args := [i6 n]) 5 ⟨w, z, [(old0 w)]⟩ Tryd.func67 rfl (by kernel_rfl) (by kernel_rfl) (sat_0 hz) ?_
 refine g_keep [0] [(0, i6 n)] ?_
 refine q_c 9 0 [] [[o0], [o0, o0, (an 2 1)]] [Qb z, Qb z] [(2, pt z)] ⟨w, z + 1, [(old0 w), (bk z #[i6 n, i6 (-1)] 34)]⟩ rfl ⟨rfl, rfl, trivial⟩ ?_
 refine e_ret [.at 1, .at 1] [Qb z, Qb z] (.agg #[i6 n, i6 (-1)]) ⟨rfl, rfl, trivial⟩ ?_
 intro w1 hw1
 refine ⟨congrArg Ending.returned (?_ : Value.agg #[i6 n, i6 (-1)] = .agg #[i6 n, i6 (-1)]), back0 hw1⟩
 rfl
theorem both_calls (w : World) (n m : Int) : Calls Tryd.prog 70 #[.int .i64 n, .int .i64 m] w fun e w' => e = .returned (.agg #[.int .i64 n, .int .i64 m]) ∧ Keeps (fun _ => False) w w' := by
 obtain ⟨z, hz⟩ : ∃ z, z = w.heap.size := ⟨_, rfl⟩
 refine calls_G (args := [i6 n, i6 m]) 8 ⟨w, z, [(old0 w)]⟩ Tryd.func70 rfl (by kernel_rfl) (by kernel_rfl) (sat_0 hz) ?_
 refine g_keep [0, 1] [(0, i6 n), (1, i6 m)] ?_
 refine q_c 9 0 [] [[o0], [o0, o0, o0, (an 2 1)]] [Qb z, Qb z] [(4, pt z)] ⟨w, z + 1, [(old0 w), (bk z #[i6 n, i6 m] 34)]⟩ rfl ⟨rfl, rfl, trivial⟩ ?_
 refine e_ret [.at 1, .at 1] [Qb z, Qb z] (.agg #[i6 n, i6 m]) ⟨rfl, rfl, trivial⟩ ?_
 intro w1 hw1
 refine ⟨congrArg Ending.returned (?_ : Value.agg #[i6 n, i6 m] = .agg #[i6 n, i6 m]), back0 hw1⟩
 rfl
def meet (a m b o : Int) : Bool := decide (a < b + o) && decide (b < a + m)
theorem meet_calls (w : World) (a m b o : Int) (h1 : -4611686018427387904 ≤ a ∧ a ≤ 4611686018427387903) (h2 : -4611686018427387904 ≤ m ∧ m ≤ 4611686018427387903) (h3 : -4611686018427387904 ≤ b ∧ b ≤ 4611686018427387903) (h4 : -4611686018427387904 ≤ o ∧ o ≤ 4611686018427387903) : Calls Tryd.prog 73 #[.int .i64 a, .int .i64 m, .int .i64 b, .int .i64 o] w fun e w' => e = .returned (.bool (meet a m b o)) ∧ Keeps (fun _ => False) w w' := by
 obtain ⟨z, hz⟩ : ∃ z, z = w.heap.size := ⟨_, rfl⟩
 refine calls_G (args := [i6 a, i6 m, i6 b, i6 o]) 21 ⟨w, z, [(old0 w)]⟩ Tryd.func73 rfl (by kernel_rfl) (by kernel_rfl) (sat_0 hz) ?_
 refine g_keep [0, 1, 2, 3] [(0, i6 a), (1, i6 m), (2, i6 b), (3, i6 o)] ?_
 refine q_cS 5 0 [] [[o0]] [] [(0, i6 a), (1, i6 m), (2, i6 b), (3, i6 o)] rfl trivial ?_
 by_cases h1 : (a : Int) < b + o
 · by_cases h2 : (b : Int) < a + m
   · refine q_cS 4 0 [] [[o0, o0, o0, (ov (i6 (b + o))), oT, o0, o0, o0, o0, (ov (i6 (a + m))), oT, o0, o0]] [Wr ((b : Int) + o) (b + o), BT ((a : Int) < (b + o)), Wr ((a : Int) + m) (a + m), BT ((b : Int) < (a + m))] [(8, .bool true)] rfl ⟨wrI, bt (by omega), wrI, bt (by omega), trivial⟩ ?_
     refine e_ret [] [] (.bool true) trivial ?_
     intro w3 hw3
     refine ⟨congrArg Ending.returned (?_ : Value.bool true = .bool (meet a m b o)), back0 hw3⟩
     unfold meet; congr 1; simp; omega
   · refine q_cS 4 0 [] [[o0, o0, o0, (ov (i6 (b + o))), oT, o0, o0, o0, o0, (ov (i6 (a + m))), oF, o0, o0]] [Wr ((b : Int) + o) (b + o), BT ((a : Int) < (b + o)), Wr ((a : Int) + m) (a + m), BF ((b : Int) < (a + m))] [(8, .bool false)] rfl ⟨wrI, bt (by omega), wrI, bf (by omega), trivial⟩ ?_
     refine e_ret [] [] (.bool false) trivial ?_
     intro w4 hw4
     refine ⟨congrArg Ending.returned (?_ : Value.bool false = .bool (meet a m b o)), back0 hw4⟩
     unfold meet; congr 1; simp; omega
 · refine q_cS 4 0 [] [[o0, o0, o0, (ov (i6 (b + o))), oF, o0, o0, o0]] [Wr ((b : Int) + o) (b + o), BF ((a : Int) < (b + o))] [(8, .bool false)] rfl ⟨wrI, bf (by omega), trivial⟩ ?_
   refine e_ret [] [] (.bool false) trivial ?_
   intro w5 hw5
   refine ⟨congrArg Ending.returned (?_ : Value.bool false = .bool (meet a m b o)), back0 hw5⟩
   unfold meet; congr 1; simp; omega
abbrev q85h_0 (z : Nat) : Ch := bk z #[i6 0, i6 0, i6 0] 73
abbrev q85h_1 (l : Sl Tfound) : Nat × Value := (6, i6 ((l.xs.length : Nat) : Int))
theorem first_calls (w : World) (hL : LaidAt w) (l : Sl Tfound) (hl : SlOk Tfound.cells 3 (fun _ _ _ => True) Any w l) (hn : l.xs.length ≤ 1000) : Calls Tryd.prog 65 #[.slice l.a l.xs.length l.cap] w fun e w' => e = .returned (.agg (Tfound.arr (fstW l.xs))) ∧ Keeps (fun _ => False) w w' := by
 obtain ⟨z, hz⟩ : ∃ z, z = w.heap.size := ⟨_, rfl⟩
 refine calls_G (args := [.slice l.a l.xs.length l.cap]) 17 ⟨w, z, [(old0 w)]⟩ Tryd.func65 rfl (by kernel_rfl) (by kernel_rfl) (sat_0 hz) ?_
 refine g_keep [0] [(0, .slice l.a l.xs.length l.cap)] ?_
 refine q_c 10 0 [] [[o0], [o0, o0, o0]] [] [(2, pt z), (5, .slice l.a l.xs.length l.cap), (q85h_1 l), (7, i6 0)] ⟨w, z + 1, [(old0 w), (q85h_0 z)]⟩ rfl trivial ?_
 refine g_loop (fun m a w' => ∃ (n2 : Nat) (k : Nat), m = l.xs.length - k ∧ z + 1 ≤ n2 ∧ (k ≤ l.xs.length) ∧ (∀ i, i < k → gd l.xs i = fineF) ∧ St 17 [(2, pt z), (5, .slice l.a l.xs.length l.cap), (q85h_1 l), (7, i6 (k : Int))] [] ⟨w, n2, [(old0 w), (q85h_0 z)]⟩ a w') (l.xs.length - 0) ?_ ?_
 · intro a w' hs; exact ⟨(z + 1), 0, rfl, Nat.le_refl _, Nat.zero_le _, fun i hi => absurd hi (Nat.not_lt_zero i), hs⟩
 · rintro m a w' ⟨n2, k, rfl, hn1, hkk, hf, hs⟩
   refine (?_ : G Tryd.prog 17 [(2, pt z), (5, .slice l.a l.xs.length l.cap), (q85h_1 l), (7, i6 (k : Int))] [] ⟨w, n2, [(old0 w), (q85h_0 z)]⟩ _ _ _) a w' hs
   clear hs a w'
   refine g_seq ?_
   by_cases h3 : ((k : Int) : Int) < ((l.xs.length : Nat) : Int)
   · refine q_cS 10 0 [1] [[oT]] [BT (((k : Int) : Int) < ((l.xs.length : Nat) : Int))] [(2, pt z), (5, .slice l.a l.xs.length l.cap), (q85h_1 l), (7, i6 (k : Int)), (8, .bool true)] rfl ⟨bt (by omega), trivial⟩ ?_
     obtain ⟨b4, o5, ha6, hF8, hc7⟩ := (hl).1.all (show 0 < l.xs.length by omega)
     replace ha6 : l.a = some ⟨b4, o5, none⟩ := ha6
     refine g_eq [(2, pt z), (5, .slice (some ⟨b4, o5, none⟩) l.xs.length l.cap), (q85h_1 l), (7, i6 (k : Int)), (8, .bool true)] (by (try dsimp only [q85h_0, q85h_1]); simp only [ha6]) ?_
     have hc9 := hc7 k (show k < l.xs.length by omega)
     have he10 := (hl).2 k (show k < l.xs.length by omega)
     obtain ⟨y11, hy11⟩ : ∃ y_, y_ = gd l.xs k := ⟨_, rfl⟩
     rw [← hy11] at he10 hc9
     refine q_c 4 0 [] [[(oi k), (ol 0 (Tfound.arr y11)), o0, (an 3 2)]] [((k : Int) : Int) = ((k : Nat) : Int), k < l.xs.length, (none : Option Nat) = none, OldR w b4 (o5 + k * 3) (Tfound.arr y11), Qb n2, Qb n2, Qb n2] [(2, pt z), (5, .slice (some ⟨b4, o5, none⟩) l.xs.length l.cap), (q85h_1 l), (7, i6 (k : Int)), (4, pt n2)] ⟨w, n2 + 1, [(old0 w), (q85h_0 z), (bk n2 (Tfound.arr y11) 73)]⟩ rfl ⟨rfl, (by omega), rfl, old_row hc9, rfl, rfl, rfl, trivial⟩ ?_
     by_cases h12 : ((y11.e : Int) == (0 : Int) && (((y11.where_.First : Int) == (0 : Int) && ((y11.where_.Second : Int) == (0 : Int) && true)) && true)) = true
     · refine q_cS 9 0 [0] [[(an 3 2), (oa [.via 0 (i6 0), .via 0 (i6 0), .via 0 (i6 0)]), ⟨.seq true, none⟩], [(ov (i6 ((k + 1 : Nat) : Int))), o0]] [Qb n2, Qb n2, Qb n2, Old w 0 0 (i6 0), Old w 0 1 (i6 0), Old w 0 2 (i6 0), ((y11.e : Int) == (0 : Int) && (((y11.where_.First : Int) == (0 : Int) && ((y11.where_.Second : Int) == (0 : Int) && true)) && true)) = true, Wr (((k : Int) : Int) + 1) (((k + 1 : Nat) : Int))] [(2, pt z), (5, .slice (some ⟨b4, o5, none⟩) l.xs.length l.cap), (q85h_1 l), (7, i6 ((k + 1 : Nat) : Int))] rfl ⟨rfl, rfl, rfl, old_cell' (hL.2 0 _ rfl), old_cell' (hL.2 1 _ rfl), old_cell' (hL.2 2 _ rfl), h12, wrI, trivial⟩ ?_
       refine e_pick [0, 1] [(old0 w), (q85h_0 z)] rfl rfl ?_
       refine e_eqk [2, 5, 6, 7] [(2, pt z), (5, .slice l.a l.xs.length l.cap), (q85h_1 l), (7, i6 ((k + 1 : Nat) : Int))] (by (try dsimp only [q85h_0, q85h_1]); simp only [ha6]; rfl) ?_
       refine e_inv (fun a w' hs => ⟨l.xs.length - (k + 1), by omega, (n2 + 1), (k + 1), rfl, by omega, by omega, upto_ hf (by rw [← hy11]; exact fine_eq.1 h12), hs⟩)
     · refine q_c 9 0 [1] [[(an 3 2), (oa [.via 0 (i6 0), .via 0 (i6 0), .via 0 (i6 0)]), ⟨.seq false, none⟩], [(an 3 2), (an 3 1)]] [Qb n2, Qb n2, Qb n2, Old w 0 0 (i6 0), Old w 0 1 (i6 0), Old w 0 2 (i6 0), ((y11.e : Int) == (0 : Int) && (((y11.where_.First : Int) == (0 : Int) && ((y11.where_.Second : Int) == (0 : Int) && true)) && true)) = false, Qb n2, Qb n2, Qb n2, Qb z, Qb z, Qb z] [(2, pt z)] ⟨w, n2 + 1, [(old0 w), (bk z (Tfound.arr y11) 73), (bk n2 (Tfound.arr y11) 73)]⟩ rfl ⟨rfl, rfl, rfl, old_cell' (hL.2 0 _ rfl), old_cell' (hL.2 1 _ rfl), old_cell' (hL.2 2 _ rfl), (Bool.eq_false_iff.2 h12), rfl, rfl, rfl, rfl, rfl, rfl, trivial⟩ ?_
       refine e_ret [.at 1, .at 1, .at 1] [Qb z, Qb z, Qb z] (.agg #[i6 y11.e, i6 y11.where_.First, i6 y11.where_.Second]) ⟨rfl, rfl, rfl, trivial⟩ ?_
       intro w13 hw13
       refine ⟨congrArg Ending.returned (?_ : Value.agg #[i6 y11.e, i6 y11.where_.First, i6 y11.where_.Second] = .agg (Tfound.arr (fstW l.xs))), back0 hw13⟩
       rw [fst_at (xs := l.xs) (k := k) (by omega) hf (by rw [← hy11]; exact fun x => h12 (fine_eq.2 x)), ← hy11]
   · refine q_cS 15 0 [0] [[oF], [(oa [.via 0 (i6 0), .via 0 (i6 0), .via 0 (i6 0)]), (an 3 1)]] [BF (((k : Int) : Int) < ((l.xs.length : Nat) : Int)), Old w 0 0 (i6 0), Old w 0 1 (i6 0), Old w 0 2 (i6 0), Qb z, Qb z, Qb z] [(2, pt z)] rfl ⟨bf (by omega), old_cell' (hL.2 0 _ rfl), old_cell' (hL.2 1 _ rfl), old_cell' (hL.2 2 _ rfl), rfl, rfl, rfl, trivial⟩ ?_
     refine e_ret [.at 1, .at 1, .at 1] [Qb z, Qb z, Qb z] (.agg #[i6 0, i6 0, i6 0]) ⟨rfl, rfl, rfl, trivial⟩ ?_
     intro w14 hw14
     refine ⟨congrArg Ending.returned (?_ : Value.agg #[i6 0, i6 0, i6 0] = .agg (Tfound.arr (fstW l.xs))), back0 hw14⟩
     rw [fst_all (fun i hi => hf i (by omega))]; rfl

end Go.Proofs.YtnjhekfgmbpmlaaDoor.Ad
