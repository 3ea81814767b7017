/- bulkheadkeep: Ints, IntsKept, SpoilInts. No conditions but on lengths. -/
import Derived.Test.YtigaldgbkeoilaaCaG
import Derived.Laws.MakeOwn
namespace Go.Proofs.Ytigaldgbkeoilaa.Ca
open Go.RowKit Go.Proofs.Ytigaldgbkeoilaa.Mem Go.Proofs.Ytigaldgbkeoilaa.Sh Go.Proofs.Ytigaldgbkeoilaa.Rng
set_option linter.unusedSimpArgs false
set_option linter.unusedVariables false

def spare (x : List Int) (i : Nat) : Value := match x[i]? with | some u => .int .i64 u | none => .int .i64 (-5000 - (i : Int))

/-- What Ints has made. -/
structure Spare (w : World) (g : Nat) (x : List Int) (c : Array Value) : Prop where
  here : At w g (.cells c 3 (0, 0))
  size : c.size = x.length + 70
  cell : ∀ i, i < x.length + 70 → c[i]? = some (spare x i)

theorem wrap_id {z : Int} (h0 : -9223372036854775808 ≤ z) (h1 : z ≤ 9223372036854775807) : wrap64 z = z := by unfold wrap64; omega

def IntsPost (w : World) (x : List Int) (e : Ending) (w' : World) : Prop :=
  ∃ c, e = .returned (.slice (some ⟨w.heap.size, 0, none⟩) x.length (x.length + 70)) ∧ Spare w' w.heap.size x c ∧ w'.heap.size = w.heap.size + 1 ∧ Keeps (fun _ => False) w w'

set_option maxHeartbeats 1000000 in
theorem ints_calls (w : World) (A : Nat → Prop) (v : Value) (x : List Int) (h : IntsAt w A v x) (hl : x.length ≤ 2147483647) : Calls Try.prog 32 #[v] w (IntsPost w x) := by
  obtain ⟨i0, hi, hz0, hz1, hz2⟩ := info_parts infoInt
  obtain ⟨a, cap, rfl, -, hc⟩ := id h
  have hw : wrap64 ((x.length : Int) + 70) = ((x.length + 70 : Nat) : Int) := by rw [wrap_id (by omega) (by omega)]; omega
  obtain ⟨c0, hc0, hmk⟩ : ∃ c0 : Array Value, c0.size = x.length + 70 ∧ (Instr.makeSlice 67 (.int .i64 ((x.length : Int) + 70)) (.int .i64 ((x.length : Int) + 70))).run Try.prog w = .ok (.slice (some ⟨w.heap.size, 0, none⟩) (x.length + 70) (x.length + 70)) (w.alloc (.cells c0 3)) := by
    have e : ((x.length : Int) + 70).toNat = x.length + 70 := by omega
    have h := run_make (P := Try.prog) w 67 3 i0 (.int .i64 0) Try.underlying67 hi hz0 .i64 .i64 ((x.length : Int) + 70) ((x.length : Int) + 70) (by omega) (by omega) (by rw [hz2]; omega) (by omega)
    rw [e] at h
    exact ⟨_, by rw [size_madeCells, hz1]; omega, h⟩
  go_enter Try.func32, Try.ntmps32
  go_wp2
  go_loopg [4] (x.length + 70) (fun g i wr => ∃ (k : Nat) (c : Array Value), g = x.length + 70 - k ∧ k ≤ x.length + 70 ∧ i = .int .i64 k ∧ At wr w.heap.size (.cells c 3 (0, 0)) ∧ c.size = x.length + 70 ∧
    (∀ i, i < k → c[i]? = some (.int .i64 (-5000 - (i : Int)))) ∧ wr.heap.size = w.heap.size + 1 ∧ Keeps (fun _ => False) w wr)
  case atStart => exact ⟨0, c0, rfl, by omega, rfl, At.new w _, hc0, fun i hi => by omega, size_alloc _ _, (Keeps.refl _ _).alloc _⟩
  case round =>
    obtain ⟨k, c, rfl, hk, rfl, hA, hcs, hck, hz, hK⟩ := hrel
    by_cases hlt : k < x.length + 70
    · have hlt1 : (k : Int) < (x.length : Int) + 70 := by omega
      have hlt2 : (k : Int) < ((x.length + 70 : Nat) : Int) := by omega
      have q0 : wr.cell? ⟨w.heap.size, k, none⟩ = some c[k] := hA.cell (Array.getElem?_eq_getElem (by omega))
      have q1 : wr.frozen? ⟨w.heap.size, k, none⟩ = false := hA.free k
      have hwk : wrap64 (-5000 - (k : Int)) = -5000 - (k : Int) := wrap_id (by omega) (by omega)
      go_wp2
      go_roundg (x.length + 70 - (k + 1))
      case measure => omega
      case rel =>
        refine ⟨k + 1, _, rfl, by omega, rfl, hA.setCell_same k _, by simp [hcs], fun i hi => ?_, by rw [size_setCell]; exact hz, hK.setCell (.inr (Nat.le_refl _))⟩
        by_cases e : i = k
        · subst e; simp [hcs, hlt]
        · rw [Array.getElem?_setIfInBounds_ne (Ne.symm e)]; exact hck i (by omega)
    · have hk' : k = x.length + 70 := by omega
      subst hk'
      have hno : ¬ ((x.length + 70 : Nat) : Int) < (x.length : Int) + 70 := by omega
      have hA0 : At wr w.heap.size (.cells c 3 (0, 0)) := hA
      clear hmk
      go_wp2
      go_loopg [5] x.length (fun g i wr => ∃ (k : Nat) (c : Array Value), g = x.length - k ∧ k ≤ x.length ∧ i = .int .i64 k ∧ At wr w.heap.size (.cells c 3 (0, 0)) ∧ c.size = x.length + 70 ∧
        (∀ i, i < k → c[i]? = some (spare x i)) ∧ (∀ i, k ≤ i → i < x.length + 70 → c[i]? = some (.int .i64 (-5000 - (i : Int)))) ∧ wr.heap.size = w.heap.size + 1 ∧ Keeps (fun _ => False) w wr)
      case atStart => exact ⟨0, c, rfl, by omega, rfl, hA0, hcs, fun i hi => by omega, fun i _ hi => hck i hi, hz, hK⟩
      case round =>
        clear hA hA0 hcs hck hz hK hno c
        obtain ⟨k, c, rfl, hk, rfl, hA, hcs, hck, hcr, hz, hK⟩ := hrel
        by_cases hlt : k < x.length
        · obtain ⟨u, hu⟩ : ∃ u, x[k]? = some u := ⟨_, List.getElem?_eq_getElem hlt⟩
          obtain ⟨b, off, rfl, hAb, q⟩ := hc k u hu
          have q2 := cell_keeps hK q (fun x => x)
          have hlt1 : (k : Int) < (x.length : Int) := by omega
          have hlt2 : (k : Int) < ((x.length + 70 : Nat) : Int) := by omega
          have hlt3 : (k : Int) < (x.length : Int) + 70 := by omega
          have q0 : wr.cell? ⟨w.heap.size, k, none⟩ = some c[k] := hA.cell (Array.getElem?_eq_getElem (by omega))
          have q1 : wr.frozen? ⟨w.heap.size, k, none⟩ = false := hA.free k
          clear q
          go_wp2
          go_roundg (x.length - (k + 1))
          case measure => omega
          case rel =>
            refine ⟨k + 1, _, rfl, by omega, rfl, hA.setCell_same k _, by simp [hcs], fun i hi => ?_, fun i hi1 hi2 => ?_, by rw [size_setCell]; exact hz, hK.setCell (.inr (Nat.le_refl _))⟩
            · by_cases e : i = k
              · subst e; unfold spare; rw [hu, Array.getElem?_setIfInBounds, if_pos rfl, if_pos (by omega)]
              · rw [Array.getElem?_setIfInBounds_ne (Ne.symm e)]; exact hck i (by omega)
            · rw [Array.getElem?_setIfInBounds_ne (by omega)]; exact hcr i (by omega) hi2
        · have hno : ¬ (k : Int) < (x.length : Int) := by omega
          have hk' : k = x.length := by omega
          subst hk'
          have hle : (x.length : Int) ≤ (x.length : Int) + 70 := by omega
          have hle2 : (x.length : Int) ≤ ((x.length + 70 : Nat) : Int) := by omega
          go_wp2
          go_ret
          refine ⟨c, rfl, ⟨hA, hcs, fun i hi => ?_⟩, hz, hK⟩
          by_cases e : i < x.length
          · exact hck i e
          · unfold spare; rw [List.getElem?_eq_none (by omega)]; exact hcr i (by omega) hi

set_option maxHeartbeats 1000000 in
theorem kept_calls (w : World) (A : Nat → Prop) (g : Nat) (v : Value) (x : List Int) (c : Array Value) (h : IntsAt w A v x) (hs : Spare w g x c) (hl : x.length ≤ 2147483647) :
    Calls Try.prog 33 #[.slice (some ⟨g, 0, none⟩) x.length (x.length + 70), v] w fun e w' => e = .returned (.bool true) ∧ w = w' := by
  obtain ⟨a, cap, rfl, -, hc⟩ := id h
  have hne : ((x.length : Int) != (x.length : Int)) = false := by simp
  have hle : (x.length : Int) + 70 ≤ ((x.length + 70 : Nat) : Int) := by omega
  go_enter Try.func33, Try.ntmps33
  go_wp2
  go_loopg [6] (x.length + 70) (fun g i wr => ∃ k : Nat, g = x.length + 70 - k ∧ k ≤ x.length + 70 ∧ i = .int .i64 k ∧ w = wr)
  case atStart => exact ⟨0, rfl, by omega, rfl, rfl⟩
  case round =>
    obtain ⟨k, rfl, hk, rfl, rfl⟩ := hrel
    by_cases hlt : k < x.length + 70
    · have hlt1 : (k : Int) < (x.length : Int) + 70 := by omega
      have hlt2 : (k : Int) < ((x.length + 70 : Nat) : Int) := by omega
      have hwk : wrap64 (-5000 - (k : Int)) = -5000 - (k : Int) := wrap_id (by omega) (by omega)
      have q := hs.here.cell (hs.cell k hlt)
      by_cases hin : k < x.length
      · obtain ⟨u, hu⟩ : ∃ u, x[k]? = some u := ⟨_, List.getElem?_eq_getElem hin⟩
        obtain ⟨b, off, rfl, hAb, q2⟩ := hc k u hu
        have q' : w.cell? ⟨g, k, none⟩ = some (.int .i64 u) := by rw [q]; unfold spare; rw [hu]
        have hin1 : (k : Int) < (x.length : Int) := by omega
        have hne2 : (u != u) = false := by simp
        clear q
        go_wp2
        go_roundg (x.length + 70 - (k + 1))
        case measure => omega
        case rel => exact ⟨k + 1, rfl, by omega, rfl, rfl⟩
      · have q' : w.cell? ⟨g, k, none⟩ = some (.int .i64 (-5000 - (k : Int))) := by rw [q]; unfold spare; rw [List.getElem?_eq_none (by omega)]
        have hno : ¬ (k : Int) < (x.length : Int) := by omega
        have hne2 : ((-5000 - (k : Int)) != (-5000 - (k : Int))) = false := by simp
        clear q
        go_wp2
        go_roundg (x.length + 70 - (k + 1))
        case measure => omega
        case rel => exact ⟨k + 1, rfl, by omega, rfl, rfl⟩
    · have hk' : k = x.length + 70 := by omega
      subst hk'
      have hno : ¬ ((x.length + 70 : Nat) : Int) < (x.length : Int) + 70 := by omega
      go_wp2
      go_ret
      exact ⟨rfl, rfl⟩

theorem own_of_at {w : World} {g n cap base : Nat} {c : Array Value} {e : TypeId} (h : At w g (.cells c e (0, 0))) (hn : n ≤ cap) (hc : c.size = cap) (hm : cap ≤ maxLen) (hb : base ≤ g) : w.ownsRow base e 1 (.slice (some ⟨g, 0, none⟩) n cap) n (c.toList.take n) := by
  refine ⟨by simp [hc]; omega, .inr ⟨g, cap, c, rfl, hb, h, hn, hm, by omega, by rw [Nat.mul_one]⟩⟩

theorem spoil_step {w wr w1 : World} {g : Nat} {v v1 : Value} {X : Obj} (hK : Keeps (fun b => b = g) w wr) (hb : ∀ b, v.ownBlock = some b → b = g ∨ w.heap.size ≤ b) (hg : (wr.alloc X).grownBy w1 v.ownBlock)
    (hat : v1.ownBlock = v.ownBlock ∨ v1.ownBlock = some (wr.alloc X).heap.size) : (∀ b, v1.ownBlock = some b → b = g ∨ w.heap.size ≤ b) ∧ Keeps (fun b => b = g) w w1 := by
  refine ⟨fun b e => ?_, (hK.alloc X).trans (Keeps.of_grownBy hg) (fun i hi e => (hb i e.symm).elim id (fun x => by omega))⟩
  rcases hat with x | x
  · exact hb b (x ▸ e)
  · rw [x, size_alloc] at e
    simp only [Option.some.injEq] at e
    have := hK.size
    right; omega

set_option maxHeartbeats 1000000 in
theorem spoil_ints (w : World) (g n cap : Nat) (mark : Int) (c : Array Value) (h : At w g (.cells c 3 (0, 0))) (hc : c.size = cap) (hn : n ≤ cap) (hl : cap ≤ 2147483717) :
    Calls Try.prog 34 #[.slice (some ⟨g, 0, none⟩) n cap, .int .i64 mark] w fun e w' => e = .returned (.tuple #[]) ∧ Keeps (fun b => b = g) w w' := by
  obtain ⟨i0, hi, hz0, hz1, hz2⟩ := info_parts infoInt
  go_enter Try.func34, Try.ntmps34
  go_wp2
  go_loopg [4] n (fun m i wr => ∃ (k : Nat) (c : Array Value), m = n - k ∧ k ≤ n ∧ i = .int .i64 k ∧ At wr g (.cells c 3 (0, 0)) ∧ c.size = cap ∧ Keeps (fun b => b = g) w wr)
  case atStart => exact ⟨0, c, rfl, by omega, rfl, h, hc, Keeps.refl _ _⟩
  case round =>
    obtain ⟨k, c, rfl, hk, rfl, hA, hcs, hK⟩ := hrel
    by_cases hlt : k < n
    · have hlt1 : (k : Int) < (n : Int) := by omega
      have q0 : wr.cell? ⟨g, k, none⟩ = some c[k] := hA.cell (Array.getElem?_eq_getElem (by omega))
      have q1 : wr.frozen? ⟨g, k, none⟩ = false := hA.free k
      go_wp2
      go_roundg (n - (k + 1))
      case measure => omega
      case rel => exact ⟨k + 1, _, rfl, by omega, rfl, hA.setCell_same k _, by simp [hcs], hK.setCell (.inl rfl)⟩
    · have hno : ¬ (k : Int) < (n : Int) := by omega
      have hO := own_of_at (base := 0) hA hn hcs (by unfold maxLen; omega) (Nat.zero_le _)
      go_wp2
      go_loopg [0, 5] 72 (fun m l i wr => ∃ (k : Nat) (xs : List Value), m = 72 - k ∧ k ≤ 72 ∧ i = .int .i64 k ∧ wr.ownsRow 0 3 1 l (n + k) xs ∧ (∀ b, l.ownBlock = some b → b = g ∨ w.heap.size ≤ b) ∧ Keeps (fun b => b = g) w wr)
      case atStart => exact ⟨0, _, rfl, by omega, rfl, hO, fun b hb => .inl (by simpa [Value.ownBlock, eq_comm] using hb), hK⟩
      case round =>
        obtain ⟨j, xs, rfl, hj, rfl, hR, hb, hKj⟩ := hrel
        by_cases hlj : j < 72
        · have hj1 : (j : Int) < 72 := by omega
          have c3 : n + j + 1 ≤ maxLen := by unfold maxLen; omega
          have c4 : (n + j + 1) * 8 ≤ 140737488355328 := by omega
          have c5 : ∀ X : Obj, 0 ≤ (wr.alloc X).heap.size := fun X => Nat.zero_le _
          obtain ⟨la, lc, rfl⟩ := own_slice hR
          go_wp2_with (at_builtin; refine wpList_append_own_at _ rfl _ _ 67 rfl 0 3 i0 (.int .i64 0) 1 8 Try.underlying67 hi hz0 hz1 hz2 rfl (by decide) (.slice la (n + j) lc) _ _ rfl (hR.alloc _) ⟨wr.heap.size, 0, none⟩ 1 1 [.int .i64 (wrap64 (wrap64 (-mark) - (j : Int)))] rfl rfl (cell_one_new _ _ _) (by simp [Value.oneCell']) c3 c4 (c5 _) ?_; intro v1 w1 ho1 hg1 _ hat1; obtain ⟨hb1, hK1⟩ := spoil_step hKj hb hg1 hat1; clear hR hb hg1 hat1)
          go_roundg (72 - (j + 1))
          case measure => omega
          case rel => exact ⟨j + 1, _, rfl, by omega, rfl, ho1, hb1, hK1⟩
        · have hno : ¬ (j : Int) < 72 := by omega
          have hj' : j = 72 := by omega
          subst hj'
          go_wp2
          go_end0
          exact ⟨rfl, hKj⟩
end Go.Proofs.Ytigaldgbkeoilaa.Ca
