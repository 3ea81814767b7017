/- The engine, fifteenth part: calls that panic; a function that defers a call. No conditions. -/
import Derived.Test.YtnjhekfgmbpmlaaDoorEngN
import Derived.Defers
import Derived.Recover
namespace Go.Proofs.YtnjhekfgmbpmlaaDoor.Eng
open Go Go.Proofs.YtnjhekfgmbpmlaaDoor.Mem
set_option linter.unusedSimpArgs false
set_option linter.unusedVariables false
section
variable {P : Program} {N : Nat} {env : Env} {ds : List Deferred} {A : AW} {ops : Array Oper} {l : List Oper} {s : List Kt} {Q : Exit → Act → World → Prop} {c : Code}
theorem qq_panic {ch : List PanicEntry} : ∀ (s : List Kt) {a : Act} {w : World}, Q (.panic ch) a w → QQ P s Q (.panic ch) a w
  | [], _, _, h => h
  | .seq _ :: s, _, _, h => qq_panic s h
  | .blk _ :: s, _, _, h => qq_panic s h
  | .inv _ :: s, _, _, h => qq_panic s h
theorem e_panic {ch : List PanicEntry} (h : ∀ a w, St N env ds A a w → Q (.panic ch) a w) : E P N env ds A (.panic ch) s Q := fun a w hs => qq_panic s (h a w hs)
/-- The end by a panic. -/
theorem e_panicR {fn : Func} {R : Ending → World → Prop} {ch : List PanicEntry} (K : ∀ w, Sat A w → R (.panicked ch) w) : E P N env [] A (.panic ch) s (bodyPost P fn R) := e_panic (fun a w hs => ⟨hs.df, K w hs.mem⟩)
/-- A call that may panic. -/
theorem l_callX (cs : List LC) (vs : List Prop) (f : FuncId) (args : Array Value) (d : Option Nat) (hv : Alls vs)
    (hc : ∀ w, Sat A w → Calls P f args w fun e w' => (∃ v A', e = .returned v ∧ Sat A' w' ∧ Lg P N (putE env d v) ds A' ops (l.drop 1) s Q) ∨ (∃ ch A', e = .panicked ch ∧ Sat A' w' ∧ E P N env ds A' (.panic ch) s Q)) (h : callA P env A cs ops l = some (vs, f, args, d) := by as_aux_lemma => kernel_rfl) (hd : inN N d = true := by kernel_rfl) : Lg P N env ds A ops l s Q := by
  intro a w hs
  cases l with
  | nil => simp [callA] at h
  | cons o l =>
    simp only [callA] at h
    split at h
    · rename_i vs' f' args' A' hw hk hr
      simp only [Option.some.injEq, Prod.mk.injEq] at h
      obtain ⟨rfl, rfl, rfl, rfl⟩ := h
      obtain ⟨hrun, -⟩ := runR_sound _ _ _ _ _ _ _ hr hv w hs.mem.all
      unfold wpList
      rw [if_pos (wantE_sound hw hs)]
      left
      unfold Oper.wp
      rw [eval_congr hs hk, hrun]
      refine (hc w hs.mem).mono ?_
      rintro e w' (⟨v, A1, rfl, hs1, K⟩ | ⟨ch, A1, rfl, hs1, K⟩)
      · exact K _ _ (hs.put hs1 _ hd v)
      · exact K _ _ ⟨hs.sz, hs.df, hs.kn, hs1⟩
    · cases h
/-- The next operation panics. -/
def panicA (ops : Array Oper) (env : Env) : List Oper → Option Value
  | [] => none
  | o :: _ => match o.op, wantE ops env o, knownOp env o with
    | .panic x, some true, true => match evalE env x with
      | .iface t v => some (.iface t v)
      | _ => none
    | _, _, _ => none
theorem l_panic (v : Value) (K : E P N env ds A (.panic [{ v, recovered := false }]) s Q) (h : panicA ops env l = some v := by as_aux_lemma => kernel_rfl) : Lg P N env ds A ops l s Q := by
  intro a w hs
  cases l with
  | nil => cases h
  | cons o l =>
    simp only [panicA] at h
    split at h
    · rename_i x hop hw hk
      split at h
      · rename_i t u hx
        simp only [Option.some.injEq] at h
        subst h
        unfold wpList
        rw [if_pos (wantE_sound hw hs)]
        left
        unfold Oper.wp
        rw [eval_congr hs hk]
        have hr : (execOp (evalE env) o).run P w = .halt (.panic (.iface t u)) w := by
          unfold execOp
          simp only [hop, hx]
          rfl
        rw [hr]
        exact K a w hs
      · cases h
    · cases h
/-- The next operation defers a call. -/
def deferA (ops : Array Oper) (env : Env) : List Oper → Option Deferred
  | [] => none
  | o :: _ => match o.op, wantE ops env o, knownOp env o, o.dst with
    | .defer c, some true, true, none => match c.callee with
      | .value f => match evalE env f with
        | .func (.func i) first cap => some { target := .fn (.func i) cap, args := first ++ c.args.map (evalE env) }
        | _ => none
      | _ => none
    | _, _, _, _ => none
theorem l_defer (d : Deferred) (K : Lg P N env (d :: ds) A ops (l.drop 1) s Q) (h : deferA ops env l = some d := by as_aux_lemma => kernel_rfl) : Lg P N env ds A ops l s Q := by
  intro a w hs
  cases l with
  | nil => cases h
  | cons o l =>
    simp only [deferA] at h
    split at h
    · rename_i c hop hw hk hd
      split at h
      · rename_i f hf
        split at h
        · rename_i i first cap hv
          simp only [Option.some.injEq] at h
          subst h
          unfold wpList
          rw [if_pos (wantE_sound hw hs)]
          left
          unfold Oper.wp
          rw [eval_congr hs hk]
          have hr : (execOp (evalE env) o).run P w = .ok (.defer { target := .fn (.func i) cap, args := first ++ c.args.map (evalE env) }) w := by
            unfold execOp
            simp only [hop, resolve, hf, hv]
            rfl
          rw [hr]
          show wpList P ops (QQ P s Q) l (({ a with defers := _ :: a.defers } : Act).put o.dst undef) w
          rw [hd]
          exact K _ w ⟨hs.sz, by show _ :: a.defers = _ :: ds; rw [hs.df], hs.kn, hs.mem⟩
        · cases h
      · cases h
    · cases h
end
/-- A function that defers calls. -/
theorem calls_GD {P : Program} {f : FuncId} {fn : Func} {c : Code} {args : List Value} {w : World} {R : Ending → World → Prop} (N : Nat) (A : AW) (hf : P.funcs[f]? = some fn) (hb : fn.body = some c) (hn : fn.ntmps = N) (hl : Nat.ble args.length N = true) (hs : Sat A w)
    (h : G P N (argE args 0) [] A c [] (bodyPostD P fn R)) : Calls P f args.toArray w R := by
  refine calls_of_wp_defers hf hb (h _ _ ⟨?_, rfl, ?_, hs⟩)
  · have := Nat.le_of_ble_eq_true hl
    simp [hn]; omega
  · intro t v ht
    obtain ⟨-, h2⟩ := look_arg args 0 t v ht
    have hlt : t < args.length := (List.getElem?_eq_some_iff.1 h2).1
    simp only [Array.getD_eq_getD_getElem?]
    rw [Array.getElem?_append_left (by simpa using hlt)]
    simp at h2 ⊢
    rw [h2]; rfl
section
variable {P : Program} {N : Nat} {env : Env} {A : AW} {s : List Kt} {fn : Func} {R : Ending → World → Prop}
theorem leaves_one {u : FrameMode} (hu : u ≠ .run) {fv : Fn} {cap dargs args : Array Value} {f : FuncId} {a : Act} {w : World} (hst : St N env [{ target := .fn fv cap, args := dargs }] A a w) (hinv : ∀ w, (invoke (.fn fv cap) dargs).run P w = .ok (.enter f args) w)
    (hc : ∀ w, Sat A w → CallsD P f args u w fun e u' w' => ∃ v, e = .returned v ∧ settle u' = .returning ∧ ∃ A', Sat A' w' ∧ E P N env [] A' .ret [] (bodyPost P fn R)) : Leaves P fn a.tmps R a.defers u w := by
  rw [hst.df]
  refine leaves_cons hu (hinv w) ((hc w hst.mem).mono ?_)
  rintro e u' w' ⟨v, rfl, hu', A', hS, K⟩
  show Leaves P fn a.tmps R [] (settle u') w'
  rw [hu']
  obtain ⟨-, v', hr, hR⟩ := K { a with defers := [] } w' ⟨hst.sz, rfl, hst.kn, hS⟩
  exact ⟨v', hr, hR⟩
theorem e_retD {fv : Fn} {cap dargs args : Array Value} {f : FuncId} (hinv : ∀ w, (invoke (.fn fv cap) dargs).run P w = .ok (.enter f args) w)
    (hc : ∀ w, Sat A w → CallsD P f args .returning w fun e u' w' => ∃ v, e = .returned v ∧ settle u' = .returning ∧ ∃ A', Sat A' w' ∧ E P N env [] A' .ret [] (bodyPost P fn R)) : E P N env [{ target := .fn fv cap, args := dargs }] A .ret s (bodyPostD P fn R) :=
  fun a w hst => qq_ret s (leaves_one (by simp) hst hinv hc)
theorem e_panicD {ch : List PanicEntry} {fv : Fn} {cap dargs args : Array Value} {f : FuncId} (hinv : ∀ w, (invoke (.fn fv cap) dargs).run P w = .ok (.enter f args) w)
    (hc : ∀ w, Sat A w → CallsD P f args (.panicking ch) w fun e u' w' => ∃ v, e = .returned v ∧ settle u' = .returning ∧ ∃ A', Sat A' w' ∧ E P N env [] A' .ret [] (bodyPost P fn R)) : E P N env [{ target := .fn fv cap, args := dargs }] A (.panic ch) s (bodyPostD P fn R) :=
  e_panic (fun a w hst => leaves_one (by simp) hst hinv hc)
end
end Go.Proofs.YtnjhekfgmbpmlaaDoor.Eng
