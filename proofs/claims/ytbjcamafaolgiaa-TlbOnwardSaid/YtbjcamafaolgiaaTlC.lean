/- tlb: all of a nil one. No conditions. -/
import Derived.Test.YtbjcamafaolgiaaTlB
namespace Go.Proofs.Ytbjcamafaolgiaa.Tl
open Go.RowKit Go.Proofs.Ytbjcamafaolgiaa.Mem Go.Proofs.Ytbjcamafaolgiaa.Sh
set_option linter.unusedSimpArgs false
set_option linter.unusedVariables false

theorem nil_find (w : World) (k : Int) : Calls Try.prog 10 #[.pointer none, .int .i64 k] w fun e w' => e = .returned (.tuple #[(Value.agg #[.int .i64 0, .int .i64 0, .int .i64 0]), .bool false]) ∧ Keeps (fun _ => False) w w' := by
  go_enter Try.func10, Try.ntmps10
  go_wp2
  refine bodyPost_ret (v := .tuple #[(Value.agg #[.int .i64 0, .int .i64 0, .int .i64 0]), .bool false]) (by simp [results, Try.results10, go_sem]) rfl ⟨rfl, ?_⟩
  exact (Keeps.refl _ w).alloc _

theorem nil_put (w : World) (v : V) : Calls Try.prog 8 #[.pointer none, leafV v] w fun e w' => e = .returned (.int .i64 3) ∧ Keeps (fun _ => False) w w' := by
  go_enter Try.func8, Try.ntmps8
  go_wp2
  go_ret
  exact ⟨rfl, (Keeps.refl _ _).alloc _⟩

theorem nil_flush (w : World) : Calls Try.prog 15 #[.pointer none] w fun e w' => e = .returned (.tuple #[]) ∧ w = w' := by
  go_enter Try.func15, Try.ntmps15
  go_wp2
  go_end0
  exact ⟨rfl, rfl⟩

theorem nil_restore (w : World) (l : Value) : Calls Try.prog 14 #[.pointer none, l] w fun e w' => e = .returned (.int .i64 3) ∧ w = w' := by
  go_enter Try.func14, Try.ntmps14
  go_wp2
  go_ret
  exact ⟨rfl, rfl⟩

theorem nil_leaves (w : World) : Calls Try.prog 9 #[.pointer none] w fun e w' => e = .returned (.slice none 0 0) ∧ Keeps (fun _ => False) w w' := by
  go_enter Try.func9, Try.ntmps9
  go_wp2
  go_ret
  exact ⟨rfl, (Keeps.refl _ _).alloc _⟩
end Go.Proofs.Ytbjcamafaolgiaa.Tl
