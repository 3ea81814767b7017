/- TlbNil, walked once. No conditions. -/
import Derived.Test.YtbjcamafaolgiaaTlE
namespace Go.Proofs.Ytbjcamafaolgiaa.Tl
open Go.RowKit Go.Proofs.Ytbjcamafaolgiaa.Mem Go.Proofs.Ytbjcamafaolgiaa.Sh Go.Proofs.Ytbjcamafaolgiaa.Rng
set_option linter.unusedSimpArgs false
set_option linter.unusedVariables false

set_option maxHeartbeats 2000000 in
theorem tlbNil_calls (w : World) (x : V) : Calls Try.prog 6 #[leafV x] w fun e w' => e = .returned (.bool true) ∧ Keeps (fun _ => False) w w' := by
  go_enter Try.func6, Try.ntmps6
  go_wp2_with fail
  refine (nil_find _ _).mono ?_
  rintro e w2 ⟨rfl, hk2⟩
  have hb2 := hk2.get (At.new w (.cells #[.int .i64 x.1, .int .i64 x.2.1, .int .i64 x.2.2] 26 (0, 0))) id
  have q1 : ∀ X, (w2.alloc X).cell? ⟨w.heap.size, 0, none⟩ = some (.int .i64 x.1) := fun X => (hb2.alloc X).cell rfl
  have q2 : ∀ X, (w2.alloc X).cell? ⟨w.heap.size, 1, none⟩ = some (.int .i64 x.2.1) := fun X => (hb2.alloc X).cell rfl
  have q3 : ∀ X, (w2.alloc X).cell? ⟨w.heap.size, 2, none⟩ = some (.int .i64 x.2.2) := fun X => (hb2.alloc X).cell rfl
  have hk02 : Keeps (fun _ => False) w w2 := ((Keeps.refl _ w).alloc _).trans hk2 (fun _ _ x => x.elim)
  go_wp2_with fail
  refine (nil_put _ x).mono ?_
  rintro e w3 ⟨rfl, hk3⟩
  go_wp2_with fail
  refine (nil_leaves _).mono ?_
  rintro e w4 ⟨rfl, hk4⟩
  have hb4 := hk4.get (hk3.get (hb2.alloc _) id) id
  have hk04 : Keeps (fun _ => False) w w4 := ((hk02.alloc _).trans hk3 (fun _ _ x => x.elim)).trans hk4 (fun _ _ x => x.elim)
  have s1 : w4.cell? ⟨w.heap.size, 0, none⟩ = some (.int .i64 x.1) := hb4.cell rfl
  have s2 : w4.cell? ⟨w.heap.size, 1, none⟩ = some (.int .i64 x.2.1) := hb4.cell rfl
  have s3 : w4.cell? ⟨w.heap.size, 2, none⟩ = some (.int .i64 x.2.2) := hb4.cell rfl
  clear q1 q2 q3 hb2 hk2 hk3 hk4 hk02
  go_wp2_with fail
  refine (nil_flush _).mono ?_
  rintro e _ ⟨rfl, rfl⟩
  go_wp2_with fail
  refine (nil_restore _ _).mono ?_
  rintro e w5 ⟨rfl, hw5⟩
  have hk05 : Keeps (fun _ => False) w w5 := by rw [← hw5]; exact hk04.alloc _
  clear hw5 s1 s2 s3 hb4 hk04
  go_wp2_with fail
  refine (tnew _).mono ?_
  rintro e w6 ⟨t, rfl, hT, hk6⟩
  have hk06 := hk05.trans hk6 (fun _ _ x => x)
  have hz5 := hk05.size
  go_wp2_with fail
  refine (tput_calls w6 t _ _ (0, 0, 0) hT).mono ?_
  rintro e w7 ⟨rfl, hT7, hk7⟩
  have hk07 : Keeps (fun _ => False) w w7 := hk06.trans hk7 (fun i hi x => by omega)
  clear hT hk6 hk06 hk7
  go_wp2_with fail
  refine (leaves_calls w7 t _ _ hT7).mono ?_
  rintro e w8 ⟨v8, rfl, ho8, hk8⟩
  have hk08 := hk07.trans hk8 (fun _ _ x => x)
  obtain ⟨va, vc, rfl⟩ := own_slice ho8
  clear hT7 hk07 hk8 ho8
  go_wp2_with fail
  go_ret
  exact ⟨rfl, hk08⟩
end Go.Proofs.Ytbjcamafaolgiaa.Tl
