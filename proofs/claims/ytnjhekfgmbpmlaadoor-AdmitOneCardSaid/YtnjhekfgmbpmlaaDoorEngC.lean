/- The engine, third part: lists of operations, code. No conditions. -/
import Derived.Test.YtnjhekfgmbpmlaaDoorEngB
namespace Go.Proofs.YtnjhekfgmbpmlaaDoor.Eng
open Go
set_option linter.unusedSimpArgs false
set_option linter.unusedVariables false

theorem opX_still {P : Program} {ro : Bool} {ρ : Operand → Value} {o : Oper} {A A' : AW} {k : OK} {vs : List Prop} {v : Value} (hk : ∀ cs, k ≠ .auto cs) (h : opX P ro ρ o A k = some (vs, v, A')) (hv : Alls vs) : A' = A ∧ ∀ w : World, (∀ c ∈ A.σ, c.holds w) → (execOp ρ o).run P w = .ok (.value v) w := by
  cases k with
  | auto cs => exact absurd rfl (hk cs)
  | idx j =>
    simp only [opX] at h
    split at h
    · rename_i t x ix hop
      split at h
      · rename_i a len cap k i e hx hix ht
        split at h
        · rename_i f he
          simp only [Option.some.injEq, Prod.mk.injEq] at h
          obtain ⟨rfl, rfl, rfl⟩ := h
          obtain ⟨h1, h2, h3, -⟩ := hv
          exact ⟨rfl, fun w _ => by simp [execOp, hop, hx, hix, run_indexAt_slice ht he h1 h2 h3, Sem.run, Result.andThen]⟩
        · cases h
      · rename_i a k i len e hx hix ht
        split at h
        · rename_i f he
          simp only [Option.some.injEq, Prod.mk.injEq] at h
          obtain ⟨rfl, rfl, rfl⟩ := h
          obtain ⟨h1, h2, h3, -⟩ := hv
          exact ⟨rfl, fun w _ => by simp [execOp, hop, hx, hix, run_indexAt_array ht he h1 h2 h3, Sem.run, Result.andThen]⟩
        · cases h
      · cases h
    · cases h
  | aidx j u =>
    simp only [opX] at h
    split at h
    · rename_i t x ix hop
      split at h
      · rename_i cs k i len e hx hix ht
        split at h
        · cases h
        · cases h
        · rename_i f d hn1 hn2 he hd
          simp only [Option.some.injEq, Prod.mk.injEq] at h
          obtain ⟨rfl, rfl, rfl⟩ := h
          obtain ⟨h1, h2, h3, -⟩ := hv
          exact ⟨rfl, fun w _ => by simp [execOp, hop, hx, hix, run_index_array ht he hd hn1 hn2 h1 h2 h3, Sem.run, Result.andThen]⟩
        · cases h
      · cases h
    · cases h
  | sidx c =>
    simp only [opX] at h
    split at h
    · rename_i t x ix hop
      split at h
      · rename_i s k i hx hix ht
        simp only [Option.some.injEq, Prod.mk.injEq] at h
        obtain ⟨rfl, rfl, rfl⟩ := h
        obtain ⟨h1, h2, -⟩ := hv
        exact ⟨rfl, fun w _ => by simp [execOp, hop, hx, hix, run_index_string ht h1 h2, Sem.run, Result.andThen]⟩
      · cases h
    · cases h
  | row i arr =>
    simp only [opX] at h
    split at h
    · rename_i t x hop
      split at h
      · rename_i a c f hx hi hf
        split at h
        · rename_i hs hn hagg
          simp only [Option.some.injEq, Prod.mk.injEq] at h
          obtain ⟨rfl, rfl, rfl⟩ := h
          exact ⟨rfl, fun w hw => by simp [execOp, hop, hx, run_loadAt (hv.1 w (hw c (List.mem_of_getElem? hi))) hs hf (Nat.eq_of_beq_eq_true hn) hagg, Sem.run, Result.andThen]⟩
        · cases h
      · cases h
    · cases h
  | aeq b =>
    simp only [opX] at h
    split at h
    · rename_i t x y tt hop
      split at h
      · rename_i xs ys n e hx hy hm hu
        split at h
        · rename_i i k0 r hi hek hc hr
          simp only [Option.some.injEq, Prod.mk.injEq] at h
          obtain ⟨rfl, rfl, rfl⟩ := h
          obtain ⟨rfl, -⟩ := hv
          have hc1 : P.cellsOf e = 1 := Nat.eq_of_beq_eq_true hc
          have eqr : ∀ w, (Op.equalIn 10000 t (.agg xs) (.agg ys)).run P w = .ok r w := fun w => by
            rw [run_equalIn_array (P := P) w 9999 xs ys hu hi, hc1]
            exact eqIs_run hek 9998 _ _ hr w
          exact ⟨rfl, fun w _ => by simp [execOp, hop, hx, hy, run_eqGuard_agg (P := P) w .eql t x y xs ys hm, run_eql_struct, eqr w, Sem.run, Result.andThen]⟩
        · cases h
      · cases h
    · cases h
  | seq b =>
    have eqr : ∀ (t : TypeId) (xs ys : Array Value) (fs : Array Field) (r : Bool) (w : World), P.stoodInHeld t = false → P.underlying t = some (.struct fs) → eqSt P 4 t xs ys = some r → (Op.equalIn 10000 t (.agg xs) (.agg ys)).run P w = .ok r w := fun t xs ys fs r w _ _ he => eqSt_run 9995 4 t xs ys r he w
    simp only [opX] at h
    split at h
    · rename_i t x y tt hop
      split at h
      · rename_i xs ys fs hx hy hm hp hu
        split at h
        · rename_i r hr
          simp only [Option.some.injEq, Prod.mk.injEq] at h
          obtain ⟨rfl, rfl, rfl⟩ := h
          obtain ⟨rfl, -⟩ := hv
          exact ⟨rfl, fun w _ => by simp [execOp, hop, hx, hy, run_eqGuard_agg (P := P) w .eql t x y xs ys hm, run_eql_struct, eqr t xs ys fs _ w hp hu hr, Sem.run, Result.andThen]⟩
        · cases h
      · cases h
    · rename_i t x y tt hop
      split at h
      · rename_i xs ys fs hx hy hm hp hu
        split at h
        · rename_i r hr
          simp only [Option.some.injEq, Prod.mk.injEq] at h
          obtain ⟨rfl, rfl, rfl⟩ := h
          obtain ⟨rfl, -⟩ := hv
          exact ⟨rfl, fun w _ => by simp [execOp, hop, hx, hy, run_eqGuard_agg (P := P) w .neq t x y xs ys hm, run_neq_struct, eqr t xs ys fs _ w hp hu hr, Sem.run, Result.andThen]⟩
        · cases h
      · cases h
    · cases h
  | slc l m moved =>
    simp only [opX] at h
    split at h
    · rename_i t x lo hi hop
      split at h
      · rename_i a len cap e lo' hx ht h1
        split at h
        · rename_i f hi' he h2
          split at h
          · simp only [Option.some.injEq, Prod.mk.injEq] at h
            obtain ⟨rfl, rfl, rfl⟩ := h
            obtain ⟨e1, e2, e3, e4, e5, -⟩ := hv
            refine ⟨rfl, fun w _ => ?_⟩
            have hr := run_sliceAt (a := a) (cap := cap) ht he h1 h2 e1 e2 e3 e4 w
            have ha : (if cap = l then a else a.map (·.add (l * f.size))) = a := by
              rcases e5 with rfl | rfl
              · simp
              · split
                · rfl
                · cases a <;> simp [Addr.add]
            rw [ha] at hr
            simp [execOp, hop, hx, hr, Sem.run, Result.andThen]
          · rename_i a
            simp only [Option.some.injEq, Prod.mk.injEq] at h
            obtain ⟨rfl, rfl, rfl⟩ := h
            obtain ⟨e1, e2, e3, e4, e5, e6, -⟩ := hv
            refine ⟨rfl, fun w _ => ?_⟩
            have hr := run_sliceAt (a := some a) (cap := cap) ht he h1 h2 e1 e2 e3 e4 w
            rw [if_neg e5] at hr
            simp only [Option.map_some, addr_eta e6] at hr
            simp [execOp, hop, hx, hr, Sem.run, Result.andThen, offs_eq]
          · cases h
        · cases h
      · cases h
    · cases h

theorem opX_sound {P : Program} {ro : Bool} {ρ : Operand → Value} {o : Oper} {A A' : AW} {k : OK} {vs : List Prop} {v : Value} (h : opX P ro ρ o A k = some (vs, v, A')) (hv : Alls vs) {w : World} (hw : Sat A w) :
    ∃ w', Yields P ρ o v w w' ∧ Sat A' w' ∧ A'.w0 = A.w0 := by
  by_cases hk : ∃ cs, k = .auto cs
  · obtain ⟨cs, rfl⟩ := hk
    simp only [opX] at h
    split at h
    · rename_i vs' v' A'' hr
      simp only [Option.some.injEq, Prod.mk.injEq] at h
      obtain ⟨rfl, rfl, rfl⟩ := h
      obtain ⟨w', h1, h2, h3⟩ := runA_sound _ _ _ _ _ _ _ hr hv w hw
      exact ⟨w', .inl h1, h2, h3⟩
    · rename_i vs' A'' hr
      split at h
      · simp only [Option.some.injEq, Prod.mk.injEq] at h
        obtain ⟨rfl, rfl, rfl⟩ := h
        obtain ⟨w', h1, h2, h3⟩ := runA_sound _ _ _ _ _ _ _ hr hv w hw
        exact ⟨w', .inr ⟨h1, rfl⟩, h2, h3⟩
      · cases h
    · cases h
  · obtain ⟨rfl, h1⟩ := opX_still (fun cs e => hk ⟨cs, e⟩) h hv
    exact ⟨w, .inl (h1 w hw.all), hw, rfl⟩

theorem opX_read {P : Program} {ρ : Operand → Value} {o : Oper} {A A' : AW} {k : OK} {vs : List Prop} {v : Value} (h : opX P true ρ o A k = some (vs, v, A')) (hv : Alls vs) {w : World} (hw : ∀ c ∈ A.σ, c.holds w) :
    (execOp ρ o).run P w = .ok (.value v) w := by
  by_cases hk : ∃ cs, k = .auto cs
  · obtain ⟨cs, rfl⟩ := hk
    simp only [opX] at h
    split at h
    · rename_i vs' v' A'' hr
      simp only [Option.some.injEq, Prod.mk.injEq] at h
      obtain ⟨rfl, rfl, rfl⟩ := h
      exact (runR_sound _ _ _ _ _ _ _ hr hv w hw).1
    · cases h
    · cases h
  · exact (opX_still (fun cs e => hk ⟨cs, e⟩) h hv).2 w hw

/-! ### Lists of operations -/
/-- Is an operation wanted? -/
def wantE (ops : Array Oper) (env : Env) (o : Oper) : Option Bool := match o.guard with
  | none => some true
  | some (j, want) => match (ops[j]?).bind (·.dst) with
    | some d => match look env d with
      | some (.bool b) => some (b == want)
      | some (.tuple _) => some false
      | _ => none
    | none => none
theorem wantE_sound {N : Nat} {env : Env} {ds : List Deferred} {A : AW} {a : Act} {w : World} {ops : Array Oper} {o : Oper} {b : Bool} (h : wantE ops env o = some b) (hs : St N env ds A a w) : Region.wanted o (yielded ops a.tmps) = b := by
  unfold wantE at h
  unfold Region.wanted
  split at h
  · rename_i hg; simp only [hg]; simpa using h
  · rename_i j want hg
    simp only [hg]
    split at h
    · rename_i d hd
      split at h
      · rename_i c hc
        have hk := hs.kn _ _ hc
        have hy : yielded ops a.tmps j = some c := by
          have h1 : a.tmps[d]? = some (.bool c) := by
            rw [Array.getD_eq_getD_getElem?] at hk
            cases h2 : a.tmps[d]? with
            | none => rw [h2] at hk; cases hk
            | some y => rw [h2] at hk; exact congrArg some hk
          unfold yielded
          simp only [hd, Option.bind_some, h1]
        simp only [Option.some.injEq] at h
        rw [hy, ← h]; cases c <;> cases want <;> rfl
      · rename_i c hc
        have hk := hs.kn _ _ hc
        have hy : yielded ops a.tmps j = none := by
          have h1 : a.tmps[d]? = some (.tuple c) ∨ a.tmps[d]? = none := by
            rw [Array.getD_eq_getD_getElem?] at hk
            cases h2 : a.tmps[d]? with
            | none => exact .inr rfl
            | some y => rw [h2] at hk; exact .inl (congrArg some hk)
          unfold yielded
          rcases h1 with h1 | h1 <;> simp only [hd, Option.bind_some, h1]
        simp only [Option.some.injEq] at h
        rw [hy, ← h]; cases want <;> rfl
      · cases h
    · cases h

def knownOp (env : Env) (o : Oper) : Bool := noSel o.op && o.op.operands.all (known env)

abbrev LRes := Option (List Prop × Env × AW)
def LRes.and (ps : List Prop) (r : LRes) : LRes := match r with
  | some (qs, x) => some (ps ++ qs, x)
  | none => none
theorem LRes.and_some {ps vs : List Prop} {r : LRes} {x : Env × AW} (h : LRes.and ps r = some (vs, x)) : ∃ qs, r = some (qs, x) ∧ vs = ps ++ qs := by
  unfold LRes.and at h
  split at h
  · rename_i qs y; simp at h; exact ⟨qs, by rw [h.2], h.1.symm⟩
  · cases h

/-- The first m operations, those that are not wanted among them. -/
def listA (P : Program) (N : Nat) (ops : Array Oper) : Nat → List OC → List Oper → Env → AW → LRes
  | 0, [], _, env, A => some ([], env, A)
  | 0, _ :: _, _, _, _ => none
  | _ + 1, _, [], _, _ => none
  | m + 1, cs, o :: l, env, A => match wantE ops env o with
    | some false => match inN N o.dst with
      | true => listA P N ops m cs l (putE env o.dst undef) A
      | false => none
    | some true => match cs with
      | [] => none
      | c :: cs => match knownOp env o, inN N o.dst, opX P false (evalE env) o A c.k with
        | true, true, some (vs, v, A') => match c.as with
          | none => (listA P N ops m cs l (putE env o.dst v) A').and vs
          | some u => (listA P N ops m cs l (putE env o.dst u) A').and (vs ++ [v = u])
        | _, _, _ => none
    | none => none

/-- What the code that is still to come lies in: what follows; a block; what a round must hand on. -/
inductive Kt where
  | seq (c : Code)
  | blk (id : Nat)
  | inv (R : Act → World → Prop)
def QQ (P : Program) : List Kt → (Exit → Act → World → Prop) → Exit → Act → World → Prop
  | [], Q => Q
  | .seq c :: s, Q => Exit.then (c.wp P (QQ P s Q)) (QQ P s Q)
  | .blk id :: s, Q => Exit.inBlock id (QQ P s Q)
  | .inv R :: s, Q => Exit.then R (QQ P s Q)

def Lg (P : Program) (N : Nat) (env : Env) (ds : List Deferred) (A : AW) (ops : Array Oper) (l : List Oper) (s : List Kt) (Q : Exit → Act → World → Prop) : Prop :=
  ∀ a w, St N env ds A a w → wpList P ops (QQ P s Q) l a w
def G (P : Program) (N : Nat) (env : Env) (ds : List Deferred) (A : AW) (c : Code) (s : List Kt) (Q : Exit → Act → World → Prop) : Prop :=
  ∀ a w, St N env ds A a w → c.wp P (QQ P s Q) a w
/-- .. and where it is left. -/
def E (P : Program) (N : Nat) (env : Env) (ds : List Deferred) (A : AW) (e : Exit) (s : List Kt) (Q : Exit → Act → World → Prop) : Prop :=
  ∀ a w, St N env ds A a w → QQ P s Q e a w

theorem step_yields {P : Program} {ops : Array Oper} {Q : Exit → Act → World → Prop} {l : List Oper} {o : Oper} {a : Act} {w w' : World} {v : Value} (hw : Region.wanted o (yielded ops a.tmps) = true) (hy : Yields P a.eval o v w w') (h : wpList P ops Q l (a.put o.dst v) w') : wpList P ops Q (o :: l) a w := by
  unfold wpList
  rw [if_pos hw]
  left
  unfold Oper.wp
  rcases hy with hy | ⟨hy, rfl⟩ <;> rw [hy] <;> exact h

theorem eval_congr {N : Nat} {env : Env} {ds : List Deferred} {A : AW} {a : Act} {w : World} {o : Oper} (hs : St N env ds A a w) (hk : knownOp env o = true) : execOp a.eval o = execOp (evalE env) o := by
  simp only [knownOp, Bool.and_eq_true, Array.all_eq_true_iff_forall_mem] at hk
  exact execOp_congr hk.1 (fun x hx => hs.eval (hk.2 x hx))

theorem listA_sound {P : Program} {N : Nat} {ops : Array Oper} {ds : List Deferred} {s : List Kt} {Q : Exit → Act → World → Prop} : ∀ (m : Nat) (cs : List OC) (l : List Oper) (env : Env) (A : AW) (vs : List Prop) (env' : Env) (A' : AW),
    listA P N ops m cs l env A = some (vs, env', A') → Alls vs → (A'.w0 = A.w0 → Lg P N env' ds A' ops (l.drop m) s Q) → Lg P N env ds A ops l s Q := by
  intro m
  induction m with
  | zero =>
    intro cs l env A vs env' A' h hv K
    cases cs with
    | nil => simp only [listA, Option.some.injEq, Prod.mk.injEq] at h; obtain ⟨-, rfl, rfl⟩ := h; simpa using K rfl
    | cons c cs => simp [listA] at h
  | succ m ih =>
    intro cs l env A vs env' A' h hv K a w hs
    cases l with
    | nil => simp [listA] at h
    | cons o l =>
      simp only [listA] at h
      split at h
      · rename_i hw
        have hw' := wantE_sound hw hs
        unfold wpList
        rw [if_neg (by rw [hw']; simp)]
        split at h
        · rename_i hd
          exact ih cs l _ A vs env' A' h hv K _ _ (hs.put hs.mem _ hd _)
        · cases h
      · rename_i hw
        have hw' := wantE_sound hw hs
        cases cs with
        | nil => cases h
        | cons c cs =>
          simp only at h
          split at h
          · rename_i vs1 v A1 hk hd hx
            have hcg := eval_congr hs hk
            split at h
            · rename_i hcas
              obtain ⟨qs, h', rfl⟩ := LRes.and_some h
              rw [alls_append] at hv
              obtain ⟨w', hy, hsat, h0⟩ := opX_sound hx hv.1 hs.mem
              refine step_yields hw' (by unfold Yields at hy ⊢; rw [hcg]; exact hy) ?_
              exact ih cs l _ _ qs env' A' h' hv.2 (fun h1 => K (h1.trans h0)) _ _ (hs.put hsat _ hd v)
            · rename_i u hcas
              obtain ⟨qs, h', rfl⟩ := LRes.and_some h
              rw [alls_append, alls_append] at hv
              obtain ⟨⟨hv1, hvu, -⟩, hv2⟩ := hv
              have hvu' : v = u := hvu
              subst hvu'
              obtain ⟨w', hy, hsat, h0⟩ := opX_sound hx hv1 hs.mem
              refine step_yields hw' (by unfold Yields at hy ⊢; rw [hcg]; exact hy) ?_
              exact ih cs l _ _ qs env' A' h' hv2 (fun h1 => K (h1.trans h0)) _ _ (hs.put hsat _ hd v)
          · cases h
      · cases h

section rules
variable {P : Program} {N : Nat} {env : Env} {ds : List Deferred} {A : AW} {ops : Array Oper} {l : List Oper} {s : List Kt} {Q : Exit → Act → World → Prop}

/-- The first m operations at one stroke; what is kept of the slots. -/
def runL (P : Program) (N : Nat) (ops : Array Oper) (m : Nat) (cs : List OC) (keep : List Nat) (l : List Oper) (env : Env) (A : AW) : LRes := match listA P N ops m cs l env A with
  | some (vs, e, A') => some (vs, keepE keep e, A')
  | none => none
theorem l_run (m : Nat) (cs : List OC) (keep : List Nat) (vs : List Prop) (env' : Env) (A' : AW)
    (hv : Alls vs) (K : Lg P N env' ds A' ops (l.drop m) s Q) (h : runL P N ops m cs keep l env A = some (vs, env', A') := by as_aux_lemma => kernel_rfl) : Lg P N env ds A ops l s Q := by
  unfold runL at h
  split at h
  · rename_i vs' e A1 h1
    simp only [Option.some.injEq, Prod.mk.injEq] at h
    obtain ⟨rfl, rfl, rfl⟩ := h
    exact listA_sound m cs l env A _ e _ h1 hv (fun h0 a w hs => K a w (hs.sub (fun t v => look_keep)))
  · cases h
/-- .. and all of them. -/
theorem l_all (m : Nat) (cs : List OC) (keep : List Nat) (vs : List Prop) (env' : Env) (A' : AW)
    (hv : Alls vs) (K : E P N env' ds A' .normal s Q) (h : runL P N ops m cs keep l env A = some (vs, env', A') := by as_aux_lemma => kernel_rfl) (hm : Nat.ble l.length m = true := by kernel_rfl) : Lg P N env ds A ops l s Q := by
  refine l_run m cs keep vs env' A' hv (fun a w hs => ?_) h
  rw [List.drop_eq_nil_of_le (by simpa using hm)]
  exact K a w hs
theorem l_nil (hl : List.isEmpty l = true) (K : E P N env ds A .normal s Q) : Lg P N env ds A ops l s Q := by
  intro a w hs
  cases l with
  | nil => exact K a w hs
  | cons x l => cases hl
theorem l_keep (keep : List Nat) (env' : Env) (K : Lg P N env' ds A ops l s Q) (h : keepE keep env = env' := by as_aux_lemma => kernel_rfl) : Lg P N env ds A ops l s Q := fun a w hs => K a w (hs.sub (fun t v ht => look_keep (by rw [h]; exact ht)))
theorem g_keep {c : Code} (keep : List Nat) (env' : Env) (K : G P N env' ds A c s Q) (h : keepE keep env = env' := by as_aux_lemma => kernel_rfl) : G P N env ds A c s Q := fun a w hs => K a w (hs.sub (fun t v ht => look_keep (by rw [h]; exact ht)))

/-- The next operation calls a Go function: which, with what. -/
def callA (P : Program) (env : Env) (A : AW) (cs : List LC) (ops : Array Oper) : List Oper → Option (List Prop × FuncId × Array Value × Option Nat)
  | [] => none
  | o :: _ => match wantE ops env o, knownOp env o, runA P true (execOp (evalE env) o) cs A with
    | some true, true, some (vs, [], .enter f args, _) => some (vs, f, args, o.dst)
    | _, _, _ => none

theorem l_call (cs : List LC) (vs : List Prop) (f : FuncId) (args : Array Value) (d : Option Nat) (hv : Alls vs)
    (hc : ∀ w, Sat A w → Calls P f args w fun e w' => ∃ v A', e = .returned v ∧ Sat A' w' ∧ Lg P N (putE env d v) ds A' ops (l.drop 1) s Q) (h : callA P env A cs ops l = some (vs, f, args, d) := by as_aux_lemma => kernel_rfl) (hd : inN N d = true := by kernel_rfl) : Lg P N env ds A ops l s Q := by
  intro a w hs
  cases l with
  | nil => simp [callA] at h
  | cons o l =>
    simp only [callA] at h
    split at h
    · rename_i vs' f' args' A' hw hk hr
      simp only [Option.some.injEq, Prod.mk.injEq] at h
      obtain ⟨rfl, rfl, rfl, rfl⟩ := h
      obtain ⟨hrun, -⟩ := runR_sound _ _ _ _ _ _ _ hr hv w hs.mem.all
      unfold wpList
      rw [if_pos (wantE_sound hw hs)]
      left
      unfold Oper.wp
      rw [eval_congr hs hk, hrun]
      refine (hc w hs.mem).mono ?_
      rintro e w' ⟨v, A1, rfl, hs1, K⟩
      exact K _ _ (hs.put hs1 _ hd v)
    · cases h

/-! ### Code -/
theorem g_region {id : Nat} {os : Array Oper} (h : Lg P N env ds A os os.toList s Q) : G P N env ds A (.region id os false) s Q := fun a w hs => wp_region_list (h a w hs)
theorem g_seq {x y : Code} (h : G P N env ds A x (.seq y :: s) Q) : G P N env ds A (.seq x y) s Q := fun a w hs => wp_seq (h a w hs)
theorem g_skip (h : E P N env ds A .normal s Q) : G P N env ds A .skip s Q := fun a w hs => wp_skip (h a w hs)
theorem g_label {n : Nat} (h : E P N env ds A .normal s Q) : G P N env ds A (.label n) s Q := fun a w hs => wp_label (h a w hs)
theorem g_block {id : Nat} {c : Code} (h : G P N env ds A c (.blk id :: s) Q) : G P N env ds A (.block id c) s Q := fun a w hs => wp_block (h a w hs)
theorem g_exit {id : Nat} (h : E P N env ds A (.exit id) s Q) : G P N env ds A (.exit id) s Q := fun a w hs => wp_exit (h a w hs)
theorem g_ret (h : E P N env ds A .ret s Q) : G P N env ds A .ret s Q := fun a w hs => wp_ret (h a w hs)
theorem g_true {c : Operand} {x y : Code} (h : G P N env ds A x s Q) (hc : evalE env c = .bool true := by rfl) (hk : known env c = true := by rfl) : G P N env ds A (.cond c x y) s Q := fun a w hs => wp_cond_true ((hs.eval hk).trans hc) (h a w hs)
theorem g_false {c : Operand} {x y : Code} (h : G P N env ds A y s Q) (hc : evalE env c = .bool false := by rfl) (hk : known env c = true := by rfl) : G P N env ds A (.cond c x y) s Q := fun a w hs => wp_cond_false ((hs.eval hk).trans hc) (h a w hs)
/-- A loop: what holds ahead of each round, with a number that each round lowers. -/
theorem g_loop {c : Code} (I : Nat → Act → World → Prop) (n₀ : Nat) (h₀ : ∀ a w, St N env ds A a w → I n₀ a w) (round : ∀ n a w, I n a w → c.wp P (QQ P (.inv (fun a' w' => ∃ n', n' < n ∧ I n' a' w') :: s) Q) a w) : G P N env ds A (.loop c) s Q :=
  fun a w hs => wp_loop_ghost I n₀ (h₀ a w hs) round
theorem e_seq {c : Code} (h : G P N env ds A c s Q) : E P N env ds A .normal (.seq c :: s) Q := h
theorem e_blk {id : Nat} (h : E P N env ds A .normal s Q) : E P N env ds A .normal (.blk id :: s) Q := h
theorem e_inv {R : Act → World → Prop} (h : ∀ a w, St N env ds A a w → R a w) : E P N env ds A .normal (.inv R :: s) Q := h
theorem e_hit {id : Nat} (h : E P N env ds A .normal s Q) : E P N env ds A (.exit id) (.blk id :: s) Q := fun a w hs => by
  show Exit.inBlock id (QQ P s Q) (.exit id) a w
  simp only [Exit.inBlock, if_true]; exact h a w hs
theorem e_miss {id id' : Nat} (hne : Nat.beq id id' = false) (h : E P N env ds A (.exit id) s Q) : E P N env ds A (.exit id) (.blk id' :: s) Q := fun a w hs => by
  show Exit.inBlock id' (QQ P s Q) (.exit id) a w
  simp only [Exit.inBlock]
  rw [if_neg (fun e => by subst e; rw [Nat.beq_refl] at hne; cases hne)]
  exact h a w hs
theorem e_out {id : Nat} {c : Code} (h : E P N env ds A (.exit id) s Q) : E P N env ds A (.exit id) (.seq c :: s) Q := h
theorem e_outI {id : Nat} {R : Act → World → Prop} (h : E P N env ds A (.exit id) s Q) : E P N env ds A (.exit id) (.inv R :: s) Q := h
theorem qq_ret : ∀ (s : List Kt) {a : Act} {w : World}, Q .ret a w → QQ P s Q .ret a w
  | [], _, _, h => h
  | .seq _ :: s, _, _, h => qq_ret s h
  | .blk _ :: s, _, _, h => qq_ret s h
  | .inv _ :: s, _, _, h => qq_ret s h

/-- The end: what the function's results read. -/
def resE (fn : Func) (env : Env) : Sem Value := do
  let vs ← fn.results.mapM fun
    | .tmp t => pure ((look env t).getD undef)
    | .cell a t => do loadVar t (← asAddr ((look env a).getD undef))
  pure (if h : vs.size = 1 then vs[0] else .tuple vs)
def knownRes (env : Env) : ResultVar → Bool
  | .tmp t => (look env t).isSome
  | .cell t _ => (look env t).isSome
theorem look_some {t : Nat} (h : (look env t).isSome = true) {a : Act} {w : World} (hs : St N env ds A a w) : a.tmps.getD t undef = (look env t).getD undef := by
  simp only [Option.isSome_iff_exists] at h
  obtain ⟨v, hv⟩ := h
  rw [hv]; exact hs.kn t v hv
theorem mapM_congr {α β : Type} {f g : α → Sem β} : ∀ (l : List α), (∀ x ∈ l, f x = g x) → l.mapM f = l.mapM g
  | [], _ => rfl
  | x :: l, h => by simp only [List.mapM_cons, h x (by simp), mapM_congr l (fun y hy => h y (by simp [hy]))]
theorem results_eq {fn : Func} {a : Act} {w : World} (hk : fn.results.all (knownRes env) = true) (hs : St N env ds A a w) : results fn a.tmps = resE fn env := by
  simp only [Array.all_eq_true_iff_forall_mem] at hk
  unfold results resE
  simp only [Array.mapM_eq_mapM_toList]
  refine congrArg (fun z : Sem (List Value) => (List.toArray <$> z >>= fun vs => pure (if h : vs.size = 1 then vs[0] else Value.tuple vs))) (mapM_congr _ fun x hx => ?_)
  have hx' := hk x (by simpa using hx)
  cases x with
  | tmp t => simp only [look_some (by simpa [knownRes] using hx') hs]
  | cell b t => simp only [look_some (by simpa [knownRes] using hx') hs]

theorem e_ret {fn : Func} {R : Ending → World → Prop} (cs : List LC) (vs : List Prop) (v : Value) (hv : Alls vs) (K : ∀ w, Sat A w → R (.returned v) w) (hk : fn.results.all (knownRes env) = true := by kernel_rfl) (h : runA P true (resE fn env) cs A = some (vs, [], v, A) := by as_aux_lemma => kernel_rfl) : E P N env [] A .ret s (bodyPost P fn R) := by
  intro a w hs
  obtain ⟨hrun, -⟩ := runR_sound _ _ _ _ _ _ _ h hv w hs.mem.all
  exact qq_ret s ⟨hs.df, v, by rw [results_eq hk hs]; exact hrun, K w hs.mem⟩
theorem e_end {fn : Func} {R : Ending → World → Prop} (cs : List LC) (vs : List Prop) (v : Value) (hv : Alls vs) (K : ∀ w, Sat A w → R (.returned v) w) (hk : fn.results.all (knownRes env) = true := by kernel_rfl) (h : runA P true (resE fn env) cs A = some (vs, [], v, A) := by as_aux_lemma => kernel_rfl) : E P N env [] A .normal [] (bodyPost P fn R) := by
  intro a w hs
  obtain ⟨hrun, -⟩ := runR_sound _ _ _ _ _ _ _ h hv w hs.mem.all
  exact ⟨hs.df, v, by rw [results_eq hk hs]; exact hrun, K w hs.mem⟩
end rules

/-- The slots of the arguments. -/
def argE : List Value → Nat → Env
  | [], _ => []
  | v :: r, i => (i, v) :: argE r (i + 1)
theorem look_arg : ∀ (l : List Value) (i t : Nat) (v : Value), look (argE l i) t = some v → i ≤ t ∧ l[t - i]? = some v
  | [], _, _, _, h => by simp [argE, look] at h
  | x :: r, i, t, v, h => by
    simp only [argE, look] at h
    cases hb : Nat.beq i t with
    | true => rw [hb] at h; have := Nat.eq_of_beq_eq_true hb; subst this; simp at h; simp [h]
    | false =>
      rw [hb] at h
      obtain ⟨h1, h2⟩ := look_arg r (i + 1) t v h
      refine ⟨by omega, ?_⟩
      rw [show t - i = (t - (i + 1)) + 1 from by omega]; simpa using h2

/-- A function's call: its body from the arguments on. -/
theorem calls_G {P : Program} {f : FuncId} {fn : Func} {c : Code} {args : List Value} {w : World} {R : Ending → World → Prop} (N : Nat) (A : AW) (hf : P.funcs[f]? = some fn) (hb : fn.body = some c) (hn : fn.ntmps = N) (hl : Nat.ble args.length N = true) (hs : Sat A w)
    (h : G P N (argE args 0) [] A c [] (bodyPost P fn R)) : Calls P f args.toArray w R := by
  refine calls_of_wp hf hb (h _ _ ⟨?_, rfl, ?_, hs⟩)
  · have := Nat.le_of_ble_eq_true hl
    simp [hn]; omega
  · intro t v ht
    obtain ⟨-, h2⟩ := look_arg args 0 t v ht
    have hlt : t < args.length := (List.getElem?_eq_some_iff.1 h2).1
    simp only [Array.getD_eq_getD_getElem?]
    rw [Array.getElem?_append_left (by simpa using hlt)]
    simp at h2 ⊢
    rw [h2]; rfl
end Go.Proofs.YtnjhekfgmbpmlaaDoor.Eng
