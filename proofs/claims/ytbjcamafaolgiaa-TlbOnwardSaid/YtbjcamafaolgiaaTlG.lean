/- tlb: Find. No conditions. -/
import Derived.Test.YtbjcamafaolgiaaTlF
namespace Go.Proofs.Ytbjcamafaolgiaa.Tl
open Go.RowKit Go.Proofs.Ytbjcamafaolgiaa.Mem Go.Proofs.Ytbjcamafaolgiaa.Sh Go.Proofs.Ytbjcamafaolgiaa.Rng
set_option linter.unusedSimpArgs false
set_option linter.unusedVariables false

theorem tfind_no (w : World) (t : Nat) (F : Nat → Prop) (L : List (Int × V)) (k : Int) (h : TlbIs w t F L) (hn : k ∉ L.map (·.1)) :
    Calls Try.prog 10 #[.pointer (some ⟨t, 0, none⟩), .int .i64 k] w fun e w' => e = .returned (.tuple #[(Value.agg #[.int .i64 0, .int .i64 0, .int .i64 0]), .bool false]) ∧ Keeps (fun _ => False) w w' := by
  obtain ⟨s, G, hh, hd, hl, hGt, hF, hGF, hB⟩ := h
  have q0 : ∀ X, (w.alloc X).cell? ⟨t, 0, none⟩ = some (.pointer (some ⟨s, 0, none⟩)) := fun X => (hh.alloc X).cell rfl
  have hk1 : ∀ X, Keeps (fun _ => False) w (w.alloc X) := fun X => (Keeps.refl _ w).alloc X
  go_enter Try.func10, Try.ntmps10
  go_wp2_with fail
  refine (hget_no _ s G 4 L k (hd.keeps (hk1 _) (fun _ _ => id)) hn).mono ?_
  rintro e w1 ⟨rfl, hk2⟩
  have hres := hk2.get (At.new w (.cells #[.int .i64 0, .int .i64 0, .int .i64 0] 26 (0, 0))) id
  have g1 : w1.cell? ⟨w.heap.size, 0, none⟩ = some (.int .i64 0) := hres.cell rfl
  have g2 : w1.cell? ⟨w.heap.size, 1, none⟩ = some (.int .i64 0) := hres.cell rfl
  have g3 : w1.cell? ⟨w.heap.size, 2, none⟩ = some (.int .i64 0) := hres.cell rfl
  have g4 : w1.frozen? ⟨w.heap.size, 0, none⟩ = false := hres.free 0
  have g5 : w1.frozen? ⟨w.heap.size, 1, none⟩ = false := hres.free 1
  have g6 : w1.frozen? ⟨w.heap.size, 2, none⟩ = false := hres.free 2
  have hkw := (hk1 (.cells #[.int .i64 0, .int .i64 0, .int .i64 0] 26)).trans hk2 (fun _ _ x => x)
  have HN := Lib.hid hres
  clear hres q0 hk2 hk1 hh hd
  go_wp2_with fail
  obtain ⟨w4, hw4⟩ : ∃ w4, ((w1.setCell ⟨w.heap.size, 0, none⟩ (.int .i64 0)).setCell ⟨w.heap.size, 1, none⟩ (.int .i64 0)).setCell ⟨w.heap.size, 2, none⟩ (.int .i64 0) = w4 := ⟨_, rfl⟩
  rw [hw4]
  have r4 : At w4 w.heap.size (.cells #[.int .i64 0, .int .i64 0, .int .i64 0] 26 (0, 0)) := by
    rw [← hw4]; exact ((HN.out.setCell_same 0 (.int .i64 0)).setCell_same 1 (.int .i64 0)).setCell_same 2 (.int .i64 0)
  have hk5 : Keeps (fun _ => False) w w4 := by rw [← hw4]; exact ((hkw.setCell (.inr (Nat.le_refl _))).setCell (.inr (Nat.le_refl _))).setCell (.inr (Nat.le_refl _))
  have b1 : w4.cell? ⟨w.heap.size, 0, none⟩ = some (.int .i64 0) := r4.cell rfl
  have b2 : w4.cell? ⟨w.heap.size, 1, none⟩ = some (.int .i64 0) := r4.cell rfl
  have b3 : w4.cell? ⟨w.heap.size, 2, none⟩ = some (.int .i64 0) := r4.cell rfl
  exact bodyPost_ret (v := .tuple #[(Value.agg #[.int .i64 0, .int .i64 0, .int .i64 0]), .bool false]) (by simp [results, Try.results10, go_sem, b1, b2, b3]) rfl ⟨rfl, hk5⟩

theorem tfind_yes (w : World) (t : Nat) (F : Nat → Prop) (xs ys : List (Int × V)) (k : Int) (v : V) (h : TlbIs w t F (xs ++ (k, v) :: ys)) :
    Calls Try.prog 10 #[.pointer (some ⟨t, 0, none⟩), .int .i64 k] w fun e w' => e = .returned (.tuple #[leafV v, .bool true]) ∧ TlbIs w' t F (xs ++ ys ++ [(k, v)]) ∧ Keeps F w w' := by
  obtain ⟨s, G, hh, hd, hl, hGt, hF, hGF, hB⟩ := h
  have q0 : ∀ X, (w.alloc X).cell? ⟨t, 0, none⟩ = some (.pointer (some ⟨s, 0, none⟩)) := fun X => (hh.alloc X).cell rfl
  have hk1 : ∀ X, Keeps (fun _ => False) w (w.alloc X) := fun X => (Keeps.refl _ w).alloc X
  go_enter Try.func10, Try.ntmps10
  go_wp2_with fail
  refine (hget_yes _ s G 4 xs ys k v (hd.keeps (hk1 _) (fun _ _ => id))).mono ?_
  rintro e w1 ⟨rfl, hd1, hk2⟩
  have hnew : ¬ G w.heap.size := fun x => by have := hB _ (hGF _ x); omega
  have hres := hk2.get (At.new w (.cells #[.int .i64 0, .int .i64 0, .int .i64 0] 26 (0, 0))) hnew
  have hh1 := hk2.get (hh.alloc (.cells #[.int .i64 0, .int .i64 0, .int .i64 0] 26)) hGt
  have g1 : w1.cell? ⟨w.heap.size, 0, none⟩ = some (.int .i64 0) := hres.cell rfl
  have g2 : w1.cell? ⟨w.heap.size, 1, none⟩ = some (.int .i64 0) := hres.cell rfl
  have g3 : w1.cell? ⟨w.heap.size, 2, none⟩ = some (.int .i64 0) := hres.cell rfl
  have g4 : w1.frozen? ⟨w.heap.size, 0, none⟩ = false := hres.free 0
  have g5 : w1.frozen? ⟨w.heap.size, 1, none⟩ = false := hres.free 1
  have g6 : w1.frozen? ⟨w.heap.size, 2, none⟩ = false := hres.free 2
  have hkw := ((hk1 (.cells #[.int .i64 0, .int .i64 0, .int .i64 0] 26)).mono (T := G) (fun _ _ x => x.elim)).trans hk2 (fun _ _ x => x)
  have HN := Lib.hid (And.intro hres (And.intro hh1 hd1))
  clear hres q0 hk2 hk1 hd hh1 hd1
  go_wp2_with fail
  obtain ⟨w4, hw4⟩ : ∃ w4, ((w1.setCell ⟨w.heap.size, 0, none⟩ (.int .i64 v.1)).setCell ⟨w.heap.size, 1, none⟩ (.int .i64 v.2.1)).setCell ⟨w.heap.size, 2, none⟩ (.int .i64 v.2.2) = w4 := ⟨_, rfl⟩
  rw [hw4]
  have r4 : At w4 w.heap.size (.cells #[.int .i64 v.1, .int .i64 v.2.1, .int .i64 v.2.2] 26 (0, 0)) := by
    rw [← hw4]; exact ((HN.out.1.setCell_same 0 (.int .i64 v.1)).setCell_same 1 (.int .i64 v.2.1)).setCell_same 2 (.int .i64 v.2.2)
  have k4 : Keeps (fun b => b = w.heap.size) w1 w4 := by rw [← hw4]; exact (((Keeps.refl (fun b => b = w.heap.size) w1).setCell (.inl rfl)).setCell (.inl rfl)).setCell (.inl rfl)
  have hk5 : Keeps F w w4 := by rw [← hw4]; exact (((hkw.mono (fun b _ hb => hGF b hb)).setCell (.inr (Nat.le_refl _))).setCell (.inr (Nat.le_refl _))).setCell (.inr (Nat.le_refl _))
  have b1 : w4.cell? ⟨w.heap.size, 0, none⟩ = some (.int .i64 v.1) := r4.cell rfl
  have b2 : w4.cell? ⟨w.heap.size, 1, none⟩ = some (.int .i64 v.2.1) := r4.cell rfl
  have b3 : w4.cell? ⟨w.heap.size, 2, none⟩ = some (.int .i64 v.2.2) := r4.cell rfl
  refine bodyPost_ret (v := .tuple #[leafV v, .bool true]) (by simp [results, Try.results10, go_sem, b1, b2, b3]) rfl ⟨rfl, ⟨s, G, k4.get HN.out.2.1 (fun e => ?_), HN.out.2.2.keeps k4 (fun b hb e => ?_), ?_, hGt, hF, hGF, fun b hb => Nat.lt_of_lt_of_le (hB b hb) hk5.size⟩, hk5⟩
  · have := hh.lt; omega
  · have := hB b (hGF b hb); omega
  · simp at hl ⊢; omega
end Go.Proofs.Ytbjcamafaolgiaa.Tl
