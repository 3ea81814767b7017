/- shelf: unlink and append, walked once: which cells they write. No conditions. -/
import Derived.Test.YtbjcamafaolgiaaMem
namespace Go.Proofs.Ytbjcamafaolgiaa.Sh
open Go.RowKit Go.Proofs.Ytbjcamafaolgiaa.Mem

/-- Alike but for the draws. -/
structure Eqv (w w' : World) : Prop where
  heap : w'.heap = w.heap
  os : w'.os = w.os
  tape : w'.tape = w.tape
  output : w'.output = w.output
theorem Eqv.refl (w : World) : Eqv w w := ⟨rfl, rfl, rfl, rfl⟩

def np (p : Option Nat) : Value := .pointer (p.map fun b => ⟨b, 0, none⟩)
theorem np_none : np none = .pointer none := rfl
theorem np_some (b : Nat) : np (some b) = .pointer (some ⟨b, 0, none⟩) := rfl

/-- What unlink leaves. -/
def unlinked (w : World) (s n : Nat) (pe pl : Option Nat) : World :=
  let w1 := match pe with | none => w.setCell ⟨s, 2, none⟩ (np pl) | some x => w.setCell ⟨x, 5, none⟩ (np pl)
  let w2 := match pl with | none => w1.setCell ⟨s, 3, none⟩ (np pe) | some y => w1.setCell ⟨y, 4, none⟩ (np pe)
  (w2.setCell ⟨n, 4, none⟩ (.pointer none)).setCell ⟨n, 5, none⟩ (.pointer none)

set_option maxHeartbeats 1000000 in
theorem unlink_cells (w : World) (s n : Nat) (pe pl : Option Nat) (v2 v3 : Value)
    (h2 : w.cell? ⟨s, 2, none⟩ = some v2) (h3 : w.cell? ⟨s, 3, none⟩ = some v3) (g2 : w.frozen? ⟨s, 2, none⟩ = false) (g3 : w.frozen? ⟨s, 3, none⟩ = false)
    (n1 : w.cell? ⟨n, 4, none⟩ = some (np pe)) (n2 : w.cell? ⟨n, 5, none⟩ = some (np pl)) (f1 : w.frozen? ⟨n, 4, none⟩ = false) (f2 : w.frozen? ⟨n, 5, none⟩ = false)
    (hne : s ≠ n) (hx : ∀ x, pe = some x → x ≠ n ∧ (∃ v, w.cell? ⟨x, 5, none⟩ = some v) ∧ w.frozen? ⟨x, 5, none⟩ = false)
    (hy : ∀ y, pl = some y → y ≠ n ∧ (∀ x, pe = some x → x ≠ y) ∧ (∃ v, w.cell? ⟨y, 4, none⟩ = some v) ∧ w.frozen? ⟨y, 4, none⟩ = false) :
    Calls Try.prog 31 #[.pointer (some ⟨s, 0, none⟩), .pointer (some ⟨n, 0, none⟩)] w fun e w' => e = .returned (.tuple #[]) ∧ Eqv (unlinked w s n pe pl) w' := by
  have hne' : n ≠ s := Ne.symm hne
  cases pe with
  | none =>
    cases pl with
    | none =>
      simp only [np_none] at n1 n2
      clear hx hy
      go_enter Try.func31, Try.ntmps31
      go_wp2
      go_end0
      exact ⟨rfl, ⟨rfl, rfl, rfl, rfl⟩⟩
    | some y =>
      obtain ⟨yn, -, ⟨vy, y1⟩, yf⟩ := hy y rfl
      have yn' := Ne.symm yn
      simp only [np_none, np_some] at n1 n2
      clear hx hy
      go_enter Try.func31, Try.ntmps31
      go_wp2
      go_region
      all_goals go_wp2
      all_goals go_end0
      all_goals exact ⟨rfl, ⟨rfl, rfl, rfl, rfl⟩⟩
  | some x =>
    obtain ⟨xn, ⟨vx, x1⟩, xf⟩ := hx x rfl
    have xn' := Ne.symm xn
    cases pl with
    | none =>
      simp only [np_none, np_some] at n1 n2
      clear hx hy
      go_enter Try.func31, Try.ntmps31
      go_wp2
      go_region
      all_goals go_wp2
      all_goals go_end0
      all_goals exact ⟨rfl, ⟨rfl, rfl, rfl, rfl⟩⟩
    | some y =>
      obtain ⟨yn, xy, ⟨vy, y1⟩, yf⟩ := hy y rfl
      have xy1 := xy x rfl
      have xy2 := Ne.symm xy1
      have yn' := Ne.symm yn
      simp only [np_some] at n1 n2
      clear hx hy xy
      go_enter Try.func31, Try.ntmps31
      go_wp2
      go_region
      all_goals go_wp2
      all_goals go_region
      all_goals go_wp2
      all_goals go_end0
      all_goals exact ⟨rfl, ⟨rfl, rfl, rfl, rfl⟩⟩

/-- What append leaves. -/
def appended (w : World) (s n : Nat) (pe : Option Nat) : World :=
  let w1 := w.setCell ⟨n, 4, none⟩ (np pe)
  let w2 := match pe with | none => w1.setCell ⟨s, 2, none⟩ (np (some n)) | some x => w1.setCell ⟨x, 5, none⟩ (np (some n))
  w2.setCell ⟨s, 3, none⟩ (np (some n))

set_option maxHeartbeats 1000000 in
theorem append_cells (w : World) (s n : Nat) (pe : Option Nat) (v1 v2 : Value)
    (h2 : w.cell? ⟨s, 2, none⟩ = some v2) (h3 : w.cell? ⟨s, 3, none⟩ = some (np pe)) (g2 : w.frozen? ⟨s, 2, none⟩ = false) (g3 : w.frozen? ⟨s, 3, none⟩ = false)
    (n1 : w.cell? ⟨n, 4, none⟩ = some v1) (f1 : w.frozen? ⟨n, 4, none⟩ = false)
    (hne : s ≠ n) (hx : ∀ x, pe = some x → x ≠ n ∧ x ≠ s ∧ (∃ v, w.cell? ⟨x, 5, none⟩ = some v) ∧ w.frozen? ⟨x, 5, none⟩ = false) :
    Calls Try.prog 32 #[.pointer (some ⟨s, 0, none⟩), .pointer (some ⟨n, 0, none⟩)] w fun e w' => e = .returned (.tuple #[]) ∧ Eqv (appended w s n pe) w' := by
  have hne' : n ≠ s := Ne.symm hne
  cases pe with
  | none =>
    simp only [np_none] at h3
    clear hx
    go_enter Try.func32, Try.ntmps32
    go_wp2
    go_end0
    exact ⟨rfl, ⟨rfl, rfl, rfl, rfl⟩⟩
  | some x =>
    obtain ⟨xn, xs, ⟨vx, x1⟩, xf⟩ := hx x rfl
    have xn' := Ne.symm xn
    have xs' := Ne.symm xs
    simp only [np_some] at h3
    clear hx
    go_enter Try.func32, Try.ntmps32
    go_wp2
    go_end0
    exact ⟨rfl, ⟨rfl, rfl, rfl, rfl⟩⟩
end Go.Proofs.Ytbjcamafaolgiaa.Sh
