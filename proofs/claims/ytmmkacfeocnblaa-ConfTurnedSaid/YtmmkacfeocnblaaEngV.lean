/- The engine: a division by what is not a constant. No conditions. -/
import Derived.Test.YtmmkacfeocnblaaEngS
namespace Go.Proofs.Ytmmkacfeocnblaa.Eng
open Go Go.Lib Go.Proofs.Ytmmkacfeocnblaa.Mem
set_option linter.unusedSimpArgs false
set_option linter.unusedVariables false
section
variable {P : Program} {N : Nat} {env : Env} {ds : List Deferred} {A : AW} {ops : Array Oper} {l : List Oper} {s : List Kt} {Q : Exit → Act → World → Prop}
/-- The next operation divides: quotient or not, kinds, numbers. -/
def divA (N : Nat) (ops : Array Oper) (env : Env) : List Oper → Option (Bool × IntKind × IntKind × Int × Int × Option Nat)
  | [] => none
  | o :: _ => match o.op, wantE ops env o, knownOp env o, inN N o.dst with
    | .binOp .quo _ x y _, some true, true, true => match evalE env x, evalE env y with
      | .int k a, .int k' b => some (true, k, k', a, b, o.dst)
      | _, _ => none
    | .binOp .rem _ x y _, some true, true, true => match evalE env x, evalE env y with
      | .int k a, .int k' b => some (false, k, k', a, b, o.dst)
      | _, _ => none
    | _, _, _, _ => none
theorem l_div (q : Bool) (k : IntKind) (a b v : Int) (d : Option Nat) (hb : b ≠ 0) (hv : (if q then k.wrap (a.tdiv b) else a.tmod b) = v) (K : Lg P N (putE env d (.int k v)) ds A ops (l.drop 1) s Q) (h : divA N ops env l = some (q, k, k, a, b, d) := by as_aux_lemma => kernel_rfl) : Lg P N env ds A ops l s Q := by
  intro a0 w hst
  cases l with
  | nil => cases h
  | cons o l =>
    simp only [divA] at h
    split at h
    · rename_i t x y t2 hop hw hkn hdst
      split at h
      · rename_i k1 a1 k2 b1 hx hy
        simp only [Option.some.injEq, Prod.mk.injEq] at h
        obtain ⟨rfl, rfl, rfl, rfl, rfl, rfl⟩ := h
        have hr2 : (execOp a0.eval o).run P w = .ok (.value (.int k2 v)) w := by
          rw [eval_congr hst hkn]
          unfold execOp
          simp only [hop, hx, hy, eqGuard_quo, binOp_quo, Op.intDiv, hb, if_false, Sem.run_bind, Result.andThen_ok, Sem.run_pure]
          rw [← hv]; rfl
        exact step_yields (wantE_sound hw hst) (.inl hr2) (K _ _ (hst.put hst.mem _ hdst _))
      · cases h
    · rename_i t x y t2 hop hw hkn hdst
      split at h
      · rename_i k1 a1 k2 b1 hx hy
        simp only [Option.some.injEq, Prod.mk.injEq] at h
        obtain ⟨rfl, rfl, rfl, rfl, rfl, rfl⟩ := h
        have hr2 : (execOp a0.eval o).run P w = .ok (.value (.int k2 v)) w := by
          rw [eval_congr hst hkn]
          unfold execOp
          simp only [hop, hx, hy, eqGuard_rem, binOp_rem, Op.intDiv, hb, if_false, Sem.run_bind, Result.andThen_ok, Sem.run_pure]
          rw [← hv]; rfl
        exact step_yields (wantE_sound hw hst) (.inl hr2) (K _ _ (hst.put hst.mem _ hdst _))
      · cases h
    · cases h
theorem mod_nat (a b : Nat) : (if false then IntKind.i64.wrap ((a : Int).tdiv (b : Int)) else (a : Int).tmod (b : Int)) = ((a % b : Nat) : Int) := (Int.ofNat_tmod a b).symm
theorem div_nat (a b : Nat) (h : a ≤ 9223372036854775807) : (if true then IntKind.i64.wrap ((a : Int).tdiv (b : Int)) else (a : Int).tmod (b : Int)) = ((a / b : Nat) : Int) := by
  show IntKind.i64.wrap ((a : Int).tdiv (b : Int)) = _
  rw [Int.tdiv_eq_ediv_of_nonneg (by omega)]
  have h1 := Nat.div_le_self a b
  have h2 : ((a : Int) / (b : Int)) = ((a / b : Nat) : Int) := rfl
  rw [h2]; clear h2; generalize a / b = q at *; exact wr_i64 rfl (by omega) (by omega)
end
end Go.Proofs.Ytmmkacfeocnblaa.Eng
