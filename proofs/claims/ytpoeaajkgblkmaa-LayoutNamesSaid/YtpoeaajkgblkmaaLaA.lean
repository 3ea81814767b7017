/- layout.Of of a configuration with a kernel alone. No conditions. -/
import Derived.Test.YtpoeaajkgblkmaaMem
import Derived.LoopN
import Derived.Handy
namespace Go.Proofs.Ytpoeaajkgblkmaa.La
open Go.RowKit Go.Proofs.Ytpoeaajkgblkmaa.Mem
set_option linter.unusedSimpArgs false
set_option linter.unusedVariables false

theorem counter_calls (w : World) (k : Int) : Calls Try.prog 37 #[.int .i64 k] w fun e w' => e = .returned (.func (.func 49) #[] #[.pointer (some ⟨w.heap.size, 0, none⟩)]) ∧ w.alloc (.cells #[.int .i64 k] 3) = w' := by
  go_enter Try.func37, Try.ntmps37
  go_wp2
  go_ret
  exact ⟨rfl, rfl⟩

theorem count_calls (w : World) (a : Addr) (n k : Int) (hc : w.cell? a = some (.int .i64 k)) (hf : w.frozen? a = false) : Calls Try.prog 49 #[.int .i64 n, .pointer (some a)] w fun e w' => e = .returned (.int .i64 k) ∧ w.setCell a (.int .i64 (wrap64 (k + n))) = w' := by
  go_enter Try.func49, Try.ntmps49
  go_wp2
  go_ret
  exact ⟨rfl, rfl⟩

abbrev E0 : Value := .agg #[.int .i64 0, .int .i64 0, .int .i64 3, .int .i64 0, .slice none 0 0, .slice none 0 0, .slice none 0 0]
abbrev E0cells : Array Value := #[.int .i64 0, .int .i64 0, .int .i64 3, .int .i64 0, .slice none 0 0, .slice none 0 0, .slice none 0 0]

theorem can_calls (w : World) : Calls Try.prog 36 #[E0] w fun e w' => e = .returned (.bool true) ∧ w.alloc (.cells E0cells 30) = w' := by
  go_enter Try.func36, Try.ntmps36
  go_wp2_with fail
  go_rounds 1
  go_wp2
  go_rounds 1
  go_wp2
  go_ret
  exact ⟨rfl, rfl⟩

theorem of_calls (w : World) : Calls Try.prog 15 #[E0] w fun e w' => e = .returned (.tuple #[.agg #[.int .i64 48, .slice none 0 0, .slice none 0 0, .int .i64 4], .int .i64 0]) ∧ Below w.heap.size w w' := by
  go_enter Try.func15, Try.ntmps15
  go_wp2_with fail
  refine (can_calls _).mono ?_
  rintro e w1 ⟨rfl, rfl⟩
  go_wp2_with fail
  refine (counter_calls _ _).mono ?_
  rintro e w2 ⟨rfl, hw2⟩
  have k2 : Keeps (fun _ => False) w w2 := by rw [← hw2]; exact ((((Keeps.refl _ _).alloc _).alloc _).alloc _).alloc _
  have z2 : w2.heap.size = w.heap.size + 4 := by rw [← hw2]; simp
  have a0 : At w2 w.heap.size (.cells E0cells 30 (0, 0)) := by rw [← hw2]; exact (((At.new w _).alloc _).alloc _).alloc _
  have a1 : At w2 (w.heap.size + 1) (.cells #[.int .i64 0, .slice none 0 0, .slice none 0 0, .int .i64 0] 34 (0, 0)) := by
    rw [← hw2]; refine At.alloc (At.alloc ?_ _) _; have := At.new (w.alloc (.cells E0cells 30)) (.cells #[.int .i64 0, .slice none 0 0, .slice none 0 0, .int .i64 0] 34); rwa [size_alloc] at this
  have a3 : At w2 (w.heap.size + 1 + 1 + 1) (.cells #[.int .i64 48] 3 (0, 0)) := by
    rw [← hw2]; have := At.new (((w.alloc (.cells E0cells 30)).alloc (.cells #[.int .i64 0, .slice none 0 0, .slice none 0 0, .int .i64 0] 34)).alloc (.cells E0cells 30)) (.cells #[.int .i64 48] 3); simpa using this
  clear hw2
  simp only [size_alloc]
  generalize hD : w.heap.size + 1 + 1 + 1 = D at *
  go_wp2_with fail
  refine (count_calls w2 _ _ _ (a3.cell rfl) (a3.free 0)).mono ?_
  rintro e w3 ⟨rfl, hw3⟩
  have k3 : Keeps (fun _ => False) w w3 := by rw [← hw3]; exact k2.setCell (.inr (by omega))
  have z3 : w3.heap.size = w.heap.size + 4 := by rw [← hw3, size_setCell]; exact z2
  have b0 : At w3 w.heap.size (.cells E0cells 30 (0, 0)) := by rw [← hw3]; exact a0.setCell_ne (by omega) _ _
  have b1 : At w3 (w.heap.size + 1) (.cells #[.int .i64 0, .slice none 0 0, .slice none 0 0, .int .i64 0] 34 (0, 0)) := by rw [← hw3]; exact a1.setCell_ne (by omega) _ _
  have b3 : At w3 D (.cells #[.int .i64 50] 3 (0, 0)) := by rw [← hw3, show wrap64 (48 + 2) = 50 from by simp [wrap64]]; exact a3.setCell_same 0 (.int .i64 50)
  clear hw3
  have c5 : ∀ X, (w3.alloc X).cell? ⟨w.heap.size, 5, none⟩ = some (.slice none 0 0) := fun X => (b0.alloc X).cell rfl
  have c6 : ∀ X, (w3.alloc X).cell? ⟨w.heap.size, 6, none⟩ = some (.slice none 0 0) := fun X => (b0.alloc X).cell rfl
  go_wp2_with fail
  refine wp_loop_rounds 1 ?_
  rw [rounds_succ]
  go_wp2_with fail
  refine wp_loop_rounds 1 ?_
  rw [rounds_succ]
  go_wp2_with fail
  have d3 : ∀ X, (w3.alloc X).cell? ⟨D, 0, none⟩ = some (.int .i64 50) := fun X => (b3.alloc X).cell rfl
  refine (count_calls _ _ _ _ (d3 _) ((b3.alloc _).free 0)).mono ?_
  rintro e w4 ⟨rfl, hw4⟩
  have l4 : At (w3.alloc (.cells #[.int .i64 48, .slice none 0 0, .slice none 0 0, .int .i64 0] 34)) (w.heap.size + 4) (.cells #[.int .i64 48, .slice none 0 0, .slice none 0 0, .int .i64 0] 34 (0, 0)) := by
    have := At.new w3 (.cells #[.int .i64 48, .slice none 0 0, .slice none 0 0, .int .i64 0] 34); rwa [z3] at this
  have k4 : Keeps (fun _ => False) w w4 := by rw [← hw4]; exact (k3.alloc _).setCell (.inr (by omega))
  have z4 : w4.heap.size = w.heap.size + 5 := by rw [← hw4, size_setCell, size_alloc, z3]
  have e0 : At w4 w.heap.size (.cells E0cells 30 (0, 0)) := by rw [← hw4]; exact (b0.alloc _).setCell_ne (by omega) _ _
  have e1 : At w4 (w.heap.size + 1) (.cells #[.int .i64 0, .slice none 0 0, .slice none 0 0, .int .i64 0] 34 (0, 0)) := by rw [← hw4]; exact (b1.alloc _).setCell_ne (by omega) _ _
  have e4 : At w4 (w.heap.size + 4) (.cells #[.int .i64 48, .slice none 0 0, .slice none 0 0, .int .i64 0] 34 (0, 0)) := by rw [← hw4]; exact l4.setCell_ne (by omega) _ _
  clear hw4 l4
  go_wp2_with fail
  refine (counter_calls _ _).mono ?_
  rintro e w5 ⟨rfl, hw5⟩
  rw [z4]
  have k5 : Keeps (fun _ => False) w w5 := by rw [← hw5]; exact k4.alloc _
  have z5 : w5.heap.size = w.heap.size + 6 := by rw [← hw5, size_alloc, z4]
  have f0 : At w5 w.heap.size (.cells E0cells 30 (0, 0)) := by rw [← hw5]; exact e0.alloc _
  have f1 : At w5 (w.heap.size + 1) (.cells #[.int .i64 0, .slice none 0 0, .slice none 0 0, .int .i64 0] 34 (0, 0)) := by rw [← hw5]; exact e1.alloc _
  have f4 : At w5 (w.heap.size + 4) (.cells #[.int .i64 48, .slice none 0 0, .slice none 0 0, .int .i64 0] 34 (0, 0)) := by rw [← hw5]; exact e4.alloc _
  have f5 : At w5 (w.heap.size + 5) (.cells #[.int .i64 4] 3 (0, 0)) := by rw [← hw5]; have := At.new w4 (.cells #[.int .i64 4] 3 (0, 0)); rwa [z4] at this
  clear hw5
  have g5 : w5.cell? ⟨w.heap.size, 5, none⟩ = some (.slice none 0 0) := f0.cell rfl
  go_wp2_with fail
  refine wp_loop_rounds 1 ?_
  rw [rounds_succ]
  go_wp2_with fail
  refine (count_calls _ _ _ _ (f5.cell rfl) (f5.free 0)).mono ?_
  rintro e w6 ⟨rfl, hw6⟩
  have k6 : Keeps (fun _ => False) w w6 := by rw [← hw6]; exact k5.setCell (.inr (by omega))
  have z6 : w6.heap.size = w.heap.size + 6 := by rw [← hw6, size_setCell, z5]
  have h1 : At w6 (w.heap.size + 1) (.cells #[.int .i64 0, .slice none 0 0, .slice none 0 0, .int .i64 0] 34 (0, 0)) := by rw [← hw6]; exact f1.setCell_ne (by omega) _ _
  have h4 : At w6 (w.heap.size + 4) (.cells #[.int .i64 48, .slice none 0 0, .slice none 0 0, .int .i64 0] 34 (0, 0)) := by rw [← hw6]; exact f4.setCell_ne (by omega) _ _
  clear hw6
  have i3 : w6.cell? ⟨w.heap.size + 4, 3, none⟩ = some (.int .i64 0) := h4.cell rfl
  have i3' : w6.frozen? ⟨w.heap.size + 4, 3, none⟩ = false := h4.free 3
  have h4' := h4.setCell_same 3 (.int .i64 4)
  have h1' := h1.setCell_ne (b' := w.heap.size + 4) (by omega) 3 (.int .i64 4)
  have j0 : (w6.setCell ⟨w.heap.size + 4, 3, none⟩ (.int .i64 4)).cell? ⟨w.heap.size + 4, 0, none⟩ = some (.int .i64 48) := h4'.cell rfl
  have j1 : (w6.setCell ⟨w.heap.size + 4, 3, none⟩ (.int .i64 4)).cell? ⟨w.heap.size + 4, 1, none⟩ = some (.slice none 0 0) := h4'.cell rfl
  have j2 : (w6.setCell ⟨w.heap.size + 4, 3, none⟩ (.int .i64 4)).cell? ⟨w.heap.size + 4, 2, none⟩ = some (.slice none 0 0) := h4'.cell rfl
  have j3 : (w6.setCell ⟨w.heap.size + 4, 3, none⟩ (.int .i64 4)).cell? ⟨w.heap.size + 4, 3, none⟩ = some (.int .i64 4) := h4'.cell rfl
  have p0 : w6.cell? ⟨w.heap.size + 1, 0, none⟩ = some (.int .i64 0) := h1.cell rfl
  have p1 : w6.cell? ⟨w.heap.size + 1, 1, none⟩ = some (.slice none 0 0) := h1.cell rfl
  have p2 : w6.cell? ⟨w.heap.size + 1, 2, none⟩ = some (.slice none 0 0) := h1.cell rfl
  have p3 : w6.cell? ⟨w.heap.size + 1, 3, none⟩ = some (.int .i64 0) := h1.cell rfl
  have r0 : w6.frozen? ⟨w.heap.size + 1, 0, none⟩ = false := h1.free 0
  have r1 : w6.frozen? ⟨w.heap.size + 1, 1, none⟩ = false := h1.free 1
  have r2 : w6.frozen? ⟨w.heap.size + 1, 2, none⟩ = false := h1.free 2
  have r3 : w6.frozen? ⟨w.heap.size + 1, 3, none⟩ = false := h1.free 3
  go_wp2_with fail
  have hfin : At (((((w6.setCell ⟨w.heap.size + 4, 3, none⟩ (.int .i64 4)).setCell ⟨w.heap.size + 1, 0, none⟩ (.int .i64 48)).setCell ⟨w.heap.size + 1, 1, none⟩ (.slice none 0 0)).setCell ⟨w.heap.size + 1, 2, none⟩ (.slice none 0 0)).setCell ⟨w.heap.size + 1, 3, none⟩ (.int .i64 4)) (w.heap.size + 1) (.cells #[.int .i64 48, .slice none 0 0, .slice none 0 0, .int .i64 4] 34 (0, 0)) :=
    (((h1'.setCell_same 0 (.int .i64 48)).setCell_same 1 (.slice none 0 0)).setCell_same 2 (.slice none 0 0)).setCell_same 3 (.int .i64 4)
  have hk : Keeps (fun _ => False) w (((((w6.setCell ⟨w.heap.size + 4, 3, none⟩ (.int .i64 4)).setCell ⟨w.heap.size + 1, 0, none⟩ (.int .i64 48)).setCell ⟨w.heap.size + 1, 1, none⟩ (.slice none 0 0)).setCell ⟨w.heap.size + 1, 2, none⟩ (.slice none 0 0)).setCell ⟨w.heap.size + 1, 3, none⟩ (.int .i64 4)) :=
    ((((k6.setCell (.inr (by omega))).setCell (.inr (by omega))).setCell (.inr (by omega))).setCell (.inr (by omega))).setCell (.inr (by omega))
  generalize (((((w6.setCell ⟨w.heap.size + 4, 3, none⟩ (.int .i64 4)).setCell ⟨w.heap.size + 1, 0, none⟩ (.int .i64 48)).setCell ⟨w.heap.size + 1, 1, none⟩ (.slice none 0 0)).setCell ⟨w.heap.size + 1, 2, none⟩ (.slice none 0 0)).setCell ⟨w.heap.size + 1, 3, none⟩ (.int .i64 4)) = w7 at *
  have t0 : w7.cell? ⟨w.heap.size + 1, 0, none⟩ = some (.int .i64 48) := hfin.cell rfl
  have t1 : w7.cell? ⟨w.heap.size + 1, 1, none⟩ = some (.slice none 0 0) := hfin.cell rfl
  have t2 : w7.cell? ⟨w.heap.size + 1, 2, none⟩ = some (.slice none 0 0) := hfin.cell rfl
  have t3 : w7.cell? ⟨w.heap.size + 1, 3, none⟩ = some (.int .i64 4) := hfin.cell rfl
  exact bodyPost_ret (v := .tuple #[.agg #[.int .i64 48, .slice none 0 0, .slice none 0 0, .int .i64 4], .int .i64 0]) (by simp [results, Try.results15, go_sem, t0, t1, t2, t3]) rfl ⟨rfl, hk.below (Nat.le_refl _) (fun _ _ => id)⟩

theorem names_calls (w : World) : Calls Try.prog 6 #[] w fun e w' => e = .returned (.bool true) ∧ Below w.heap.size w w' := by
  go_enter Try.func6, Try.ntmps6
  go_wp2_with fail
  refine (of_calls _).mono ?_
  rintro e w1 ⟨rfl, hb⟩
  go_wp2_with fail
  go_ret
  exact ⟨rfl, hb.trans ((Below.refl _ w1).alloc hb.size _)⟩
end Go.Proofs.Ytpoeaajkgblkmaa.La
