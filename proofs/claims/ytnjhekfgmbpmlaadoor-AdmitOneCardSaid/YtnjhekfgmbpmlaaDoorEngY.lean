/- The engine: a chain of operations within a region that draws its order: reads and calls that keep all, one behind the other, and one operation (fl) that makes a block and may come up anywhere between them. No conditions. -/
import Derived.Test.YtnjhekfgmbpmlaaDoorEngW
namespace Go.Proofs.YtnjhekfgmbpmlaaDoor.Eng
open Go Go.Proofs.YtnjhekfgmbpmlaaDoor.Mem
set_option linter.unusedSimpArgs false
set_option linter.unusedVariables false

/-- What a piece of the model's own text gives without looking into memory. -/
def pureA (P : Program) {α : Type} : Sem α → Option α
  | .pure a => some a
  | .program k => pureA P (k P)
  | .mark _ k => pureA P k
  | _ => none
theorem pureA_run {P : Program} {α : Type} (s : Sem α) : ∀ {x : α}, pureA P s = some x → ∀ w, s.run P w = .ok x w := by
  induction s with
  | pure a => intro x h w; simp [pureA] at h; subst h; rfl
  | program k ih => intro x h w; exact ih P h w
  | mark m k ih => intro x h w; exact ih h w
  | _ => intro x h; simp [pureA] at h
inductive Cst where
  | tk (i : Nat) (c : OC)
  | cl (i : Nat) (v : Value)
abbrev CallR := FuncId × Array Value × Value
def AllCK (P : Program) (σC : List Ch) : List CallR → Prop
  | [] => True
  | (f, args, v) :: r => (∀ w, Cs σC w → Calls P f args w fun e w' => e = .returned v ∧ Keeps (fun _ => False) w w') ∧ AllCK P σC r
theorem Cs.ext {σC : List Ch} {W w : World} (h : Cs σC w) (hi : σC[0]? = some (old0 W)) : Ext Any W w := fun b k v _ hv => old_cell' hv w (h _ (List.mem_of_getElem? hi))
def takeV (P : Program) (N : Nat) (ops : Array Oper) (σC : List Ch) (w0 : World) (env : Env) (c : OC) (o : Oper) : Option (List Prop × Value) := match inN N o.dst, wantE ops env o with
  | true, some false => some ([], undef)
  | true, some true => match knownOp env o, opX P true (evalE env) o ⟨w0, 0, σC⟩ c.k with
    | true, some (vs, v, _) => match c.as with
      | none => some (vs, v)
      | some u => some (vs ++ [v = u], u)
    | _, _ => none
  | _, _ => none
def callV (P : Program) (ops : Array Oper) (env : Env) (o : Oper) : Option (FuncId × Array Value) := match wantE ops env o, knownOp env o, pureA P (execOp (evalE env) o) with
  | some true, true, some (.enter f args) => some (f, args)
  | _, _, _ => none
def notDst (d : Nat) : Option Nat → Bool
  | none => true
  | some t => !Nat.beq t d
/-- fl: none, or the number of what floats and the slot that it fills. -/
def flset : Option (Nat × Nat) → List Bool → List Bool
  | none, l => l
  | some (f, _), l => l.set f true
def flnot : Option (Nat × Nat) → Option Nat → Bool
  | none, _ => true
  | some (_, d), x => notDst d x
def flready : Option (Nat × Nat) → Nat → List Nat → Bool
  | none, i, l => l == [i]
  | some (f, _), i, l => !Nat.beq i f && (l == [i, f] || l == [f, i])
def tkOk (ops : Array Oper) (late i : Nat) (l : List Bool) : Bool := ahead .any ops late i && !Nat.beq i late && Region.free .any ops l.toArray i && (Region.ready .any ops l.toArray).contains i
def chainA (P : Program) (N : Nat) (ops : Array Oper) (σC : List Ch) (w0 : World) (late : Nat) (fl : Option (Nat × Nat)) : List Cst → List Bool → Env → Option (List Prop × List CallR × List Bool × Env)
  | [], l, env => some ([], [], l, env)
  | .tk i c :: r, l, env => match tkOk ops late i l && tkOk ops late i (flset fl l), ops[i]? with
    | true, some o => match takeV P N ops σC w0 env c o, flnot fl o.dst with
      | some (vs, v), true => match chainA P N ops σC w0 late fl r (l.set i true) (putE env o.dst v) with
        | some (us, x) => some (vs ++ us, x)
        | none => none
      | _, _ => none
    | _, _ => none
  | .cl i v :: r, l, env => match Nat.blt i l.length && !Nat.beq i late && flready fl i (Region.ready .any ops l.toArray) && (Region.ready .any ops (flset fl l).toArray == [i]), ops[i]? with
    | true, some o => match callV P ops env o, flnot fl o.dst && inN N o.dst with
      | some (f, args), true => match chainA P N ops σC w0 late fl r (l.set i true) (putE env o.dst v) with
        | some (us, cs, x) => some (us, (f, args, v) :: cs, x)
        | none => none
      | _, _ => none
    | _, _ => none

theorem beq_ne {k t : Nat} (h : ¬ k = t) : Nat.beq k t = false := by
  cases e : Nat.beq k t with
  | false => rfl
  | true => exact absurd (Nat.eq_of_beq_eq_true e) h
theorem look_del_ne {d t : Nat} {u : Value} (h : d ≠ t) : ∀ {env : Env}, look env t = some u → look (delE env d) t = some u
  | [], hu => by simp [look] at hu
  | (k, v) :: r, hu => by
    simp only [look] at hu
    simp only [delE]
    by_cases hkd : k = d
    · subst hkd
      rw [beq_ne h] at hu
      rw [Nat.beq_refl]
      exact look_del_ne h (by simpa using hu)
    · rw [beq_ne hkd]
      simp only [cond_false, look]
      by_cases hkt : k = t
      · subst hkt; rw [Nat.beq_refl] at hu ⊢; exact hu
      · rw [beq_ne hkt] at hu ⊢
        exact look_del_ne h (by simpa using hu)
theorem look_put_none {d : Nat} {env : Env} {dst : Option Nat} {v : Value} (h : look env d = none) (hn : notDst d dst = true) : look (putE env dst v) d = none := by
  cases dst with
  | none => exact h
  | some t =>
    simp only [notDst, Bool.not_eq_true'] at hn
    simp only [putE, look, hn, cond_false]
    cases e : look (delE env t) d with
    | none => rfl
    | some x => rw [(look_del e).2] at h; cases h
section
variable {P : Program} {N : Nat} {env : Env} {ds : List Deferred} {A : AW} {ops : Array Oper} {σC : List Ch} {late fuel : Nat} {listed : List Bool} {s : List Kt} {Q : Exit → Act → World → Prop}
/-- .. of acts of which R holds. -/
def WR (R : Act → Prop) (P : Program) (N : Nat) (env : Env) (ds : List Deferred) (A : AW) (ops : Array Oper) (σC : List Ch) (late fuel : Nat) (listed : List Bool) (s : List Kt) (Q : Exit → Act → World → Prop) : Prop :=
  ∀ a w, R a → St N env ds A a w → Closed .any ops listed.toArray → (listed.toArray.getD late false = false → Cs σC w) → wpAnyI P .any ops (Quiet (QQ P s Q)) late (Cs σC) fuel listed.toArray a w
theorem set_arr (l : List Bool) (i : Nat) : l.toArray.setIfInBounds i true = (l.set i true).toArray := by simp
theorem tk_one {R : Act → Prop} {i : Nat} {c : OC} {o : Oper} {vs : List Prop} {v : Value} (hs : Region.noSelect ops = true) (ht : tkOk ops late i listed = true) (hi : ops[i]? = some o) (hv : takeV P N ops σC A.w0 env c o = some (vs, v)) (hall : Alls vs)
    (hR : ∀ a u, R a → R (a.put o.dst u)) (K : WR R P N (putE env o.dst v) ds A ops σC late fuel (listed.set i true) s Q) : WR R P N env ds A ops σC late (fuel + 1) listed s Q := by
  simp only [tkOk, Bool.and_eq_true, Bool.not_eq_true'] at ht
  obtain ⟨⟨⟨hah, hil0⟩, hfr⟩, hrd⟩ := ht
  intro a w hRa hst hcl hC
  have hil : i ≠ late := fun e => by subst e; rw [Nat.beq_refl] at hil0; cases hil0
  have hrd' : i ∈ Region.ready .any ops listed.toArray := by simpa using hrd
  have hC0 := hC (ahead_late hah hi hcl hrd')
  have hQ : ∀ v c a w, Quiet (QQ P s Q) (.panic c) (a.put o.dst v) w → Quiet (QQ P s Q) (.panic c) a w := fun _ _ _ _ h => quiet_put h
  have hcl' : Closed .any ops (listed.set i true).toArray := by rw [← set_arr]; exact closed_set hcl hrd'
  have go : ∀ u, YieldsIf P ops (Cs σC) o u a → wpAnyI P .any ops (Quiet (QQ P s Q)) late (Cs σC) fuel (listed.set i true).toArray (a.put o.dst u) w → wpAnyI P .any ops (Quiet (QQ P s Q)) late (Cs σC) (fuel + 1) listed.toArray a w := by
    intro u hy hw
    exact first (md := .any) (late := late) (C := Cs σC) hah hi (Region.noSelect_spec hs) (hQ u) fuel listed.toArray a w hcl (Region.free_spec hi hfr) hrd' hy hC0 hil (by rw [set_arr]; exact hw)
  unfold takeV at hv
  split at hv
  · rename_i hd hw
    simp only [Option.some.injEq, Prod.mk.injEq] at hv
    obtain ⟨rfl, rfl⟩ := hv
    exact go undef (.inr ⟨wantE_sound hw hst, rfl⟩) (K _ _ (hR _ _ hRa) (hst.put hst.mem _ hd undef) hcl' (fun _ => hC0))
  · rename_i hd hw
    have hw' := wantE_sound hw hst
    split at hv
    · rename_i vs1 v1 A1 hk hx
      have hcg := eval_congr hst hk
      have hy : Alls vs1 → YieldsIf P ops (Cs σC) o v1 a := fun h1 => .inl ⟨hw', fun w1 hC1 => by rw [hcg]; exact opX_read hx h1 hC1⟩
      split at hv
      · simp only [Option.some.injEq, Prod.mk.injEq] at hv
        obtain ⟨rfl, rfl⟩ := hv
        exact go _ (hy hall) (K _ _ (hR _ _ hRa) (hst.put hst.mem _ hd _) hcl' (fun _ => hC0))
      · simp only [Option.some.injEq, Prod.mk.injEq] at hv
        obtain ⟨rfl, rfl⟩ := hv
        rw [alls_append] at hall
        obtain ⟨h1, h2, -⟩ := hall
        have h2' : v1 = _ := h2
        subst h2'
        exact go _ (hy h1) (K _ _ (hR _ _ hRa) (hst.put hst.mem _ hd _) hcl' (fun _ => hC0))
    · cases hv
  · cases hv
theorem cl_op {R : Act → Prop} {i n : Nat} {o : Oper} {v : Value} {f : FuncId} {args : Array Value} {a : Act} {w : World} {σ : List Ch} (hi : ops[i]? = some o) (hc : callV P ops env o = some (f, args)) (hd : inN N o.dst = true) (hck : ∀ w, Cs σC w → Calls P f args w fun e w' => e = .returned v ∧ Keeps (fun _ => False) w w')
    (hsub : ∀ c ∈ σC, c ∈ σ) (hRa : R a) (hR : ∀ a u, R a → R (a.put o.dst u)) (hst : St N env ds ⟨A.w0, n, σ⟩ a w) (hcl : Closed .any ops (listed.set i true).toArray)
    (K : ∀ n', n ≤ n' → WR R P N (putE env o.dst v) ds ⟨A.w0, n', σ⟩ ops σC late fuel (listed.set i true) s Q) :
    wpOp P ops (Quiet (QQ P s Q)) i (fun a' w' => ((listed.set i true).toArray.getD late false = false → Cs σC w') ∧ wpAnyI P .any ops (Quiet (QQ P s Q)) late (Cs σC) fuel (listed.set i true).toArray a' w') a w := by
  unfold callV at hc
  split at hc
  · rename_i f' args' x hw hk hr
    simp only [Option.some.injEq, Prod.mk.injEq] at hc
    obtain ⟨rfl, rfl⟩ := hc
    unfold wpOp
    simp only [hi]
    rw [if_pos (wantE_sound hw hst)]
    left
    unfold Oper.wp
    rw [eval_congr hst hk, pureA_run _ hr w]
    refine (hck w (fun c hc => hst.mem.all c (hsub c hc))).mono ?_
    rintro e w' ⟨rfl, hkp⟩
    have hs1 := hst.mem.keeps hkp
    have hcs : Cs σC w' := fun c hc => hs1.all c (hsub c hc)
    exact ⟨fun _ => hcs, K _ (size_of hst.mem hkp) _ _ (hR _ _ hRa) (hst.put hs1 _ hd _) hcl (fun _ => hcs)⟩
  · cases hc
theorem flset_set {fl : Option (Nat × Nat)} {l : List Bool} {i : Nat} : (flset fl l).set i true = flset fl (l.set i true) := by
  cases fl with
  | none => rfl
  | some x =>
    obtain ⟨f, d⟩ := x
    show (l.set f true).set i true = (l.set i true).set f true
    by_cases h : f = i
    · subst h; rfl
    · exact List.set_comm _ _ h
/-- The chain, where what floats has come up already (or nothing does). -/
theorem chain_T {R : Act → Prop} {fl : Option (Nat × Nat)} (hs : Region.noSelect ops = true) {σ : List Ch} {w0 : World} (hsub : ∀ c ∈ σC, c ∈ σ) (hR : ∀ a dst u, flnot fl dst = true → R a → R (a.put dst u)) {m : Nat} :
    ∀ (steps : List Cst) (l : List Bool) (env : Env) (vs : List Prop) (cs : List CallR) (l' : List Bool) (env' : Env) (n : Nat), chainA P N ops σC w0 late fl steps l env = some (vs, cs, l', env') → Alls vs → AllCK P σC cs →
      (∀ n', n ≤ n' → WR R P N env' ds ⟨w0, n', σ⟩ ops σC late m (flset fl l') s Q) → WR R P N env ds ⟨w0, n, σ⟩ ops σC late (m + steps.length) (flset fl l) s Q := by
  intro steps
  induction steps with
  | nil =>
    intro l env vs cs l' env' n h hv hc K
    simp only [chainA, Option.some.injEq, Prod.mk.injEq] at h
    obtain ⟨-, -, rfl, rfl⟩ := h
    exact K n (Nat.le_refl _)
  | cons x r ih =>
    intro l env vs cs l' env' n h hv hc K
    cases x with
    | tk i c =>
      simp only [chainA] at h
      split at h
      · rename_i o hok hi
        rw [Bool.and_eq_true] at hok
        split at h
        · rename_i vs1 v hx hfl
          split at h
          · rename_i us y hy
            obtain ⟨cs1, l1, e1⟩ := y
            simp only [Option.some.injEq, Prod.mk.injEq] at h
            obtain ⟨rfl, rfl, rfl, rfl⟩ := h
            rw [alls_append] at hv
            have := ih (l.set i true) _ us _ _ _ n hy hv.2 hc K
            refine tk_one (A := ⟨w0, n, σ⟩) (fuel := m + r.length) hs hok.2 hi hx hv.1 (fun a u => hR a _ u hfl) ?_
            rw [flset_set]; exact this
          · cases h
        · cases h
      · cases h
    | cl i v =>
      simp only [chainA] at h
      split at h
      · rename_i o hok hi
        simp only [Bool.and_eq_true] at hok
        obtain ⟨⟨⟨hlt, hlate⟩, hrd0⟩, hrd⟩ := hok
        split at h
        · rename_i f args hx hfl
          rw [Bool.and_eq_true] at hfl
          split at h
          · rename_i us cs1 y hy
            obtain ⟨l1, e1⟩ := y
            simp only [Option.some.injEq, Prod.mk.injEq] at h
            obtain ⟨rfl, rfl, rfl, rfl⟩ := h
            obtain ⟨hc1, hc2⟩ := hc
            intro a w hRa hst hcl hC
            have hr : Region.ready .any ops (flset fl l).toArray = [i] := by simpa using hrd
            refine ⟨fun h0 => (by rw [hr] at h0; cases h0), fun j hj => ?_⟩
            have hcl' : Closed .any ops ((flset fl l).set j true).toArray := by rw [← set_arr]; exact closed_set hcl hj
            rw [hr] at hj
            obtain rfl := List.mem_singleton.1 hj
            rw [set_arr]
            refine cl_op (A := ⟨w0, n, σ⟩) (R := R) hi hx hfl.2 hc1 hsub hRa (fun a u => hR a _ u hfl.1) hst hcl' (fun n' hn' => ?_)
            rw [flset_set]
            exact ih (l.set j true) _ us _ _ _ n' hy hv hc2 (fun n2 hn2 => K n2 (Nat.le_trans hn' hn2))
          · cases h
        · cases h
      · cases h
/-- The chain, where it may come up yet. -/
theorem chain_S {f d : Nat} {of_ : Oper} {obj : Obj} (hs : Region.noSelect ops = true) {σ : List Ch} {w0 : World} (hsub : ∀ c ∈ σC, c ∈ σ) (hof : ops[f]? = some of_) (hod : of_.dst = some d) (hdN : Nat.blt d N = true) (hog : of_.guard = none) (hfl : Nat.beq f late = false)
    (hop : ∀ (n : Nat) (ρ : Operand → Value), opX P false ρ of_ ⟨w0, n, σ⟩ (.auto []) = some ([], .pointer (some ⟨n, 0, none⟩), ⟨w0, n + 1, σ ++ [.blk n obj true]⟩)) {m : Nat} :
    ∀ (steps : List Cst) (l : List Bool) (env : Env) (vs : List Prop) (cs : List CallR) (l' : List Bool) (env' : Env) (n : Nat), look env d = none → chainA P N ops σC w0 late (some (f, d)) steps l env = some (vs, cs, l', env') → Alls vs → AllCK P σC cs →
      (∀ n' b, n ≤ n' → n ≤ b → Wg P N (putE env' (some d) (.pointer (some ⟨b, 0, none⟩))) ds ⟨w0, n', σ ++ [.blk b obj true]⟩ ops σC late m (l'.set f true) s Q) →
      (∀ n', n ≤ n' → Wg P N env' ds ⟨w0, n', σ⟩ ops σC late (m + 1) l' s Q) → Wg P N env ds ⟨w0, n, σ⟩ ops σC late (m + 1 + steps.length) l s Q := by
  have toR : ∀ {env : Env} {A : AW} {fuel : Nat} {l : List Bool}, Wg P N env ds A ops σC late fuel l s Q → WR (fun _ => True) P N env ds A ops σC late fuel l s Q := fun h a w _ => h a w
  intro steps
  induction steps with
  | nil =>
    intro l env vs cs l' env' n hnew h hv hc KT KS
    simp only [chainA, Option.some.injEq, Prod.mk.injEq] at h
    obtain ⟨-, -, rfl, rfl⟩ := h
    exact KS n (Nat.le_refl _)
  | cons x r ih =>
    intro l env vs cs l' env' n hnew h hv hc KT KS
    have h00 := h
    cases x with
    | tk i c =>
      simp only [chainA] at h
      split at h
      · rename_i o hok hi
        rw [Bool.and_eq_true] at hok
        split at h
        · rename_i vs1 v hx hfl
          split at h
          · rename_i us y hy
            obtain ⟨cs1, l1, e1⟩ := y
            simp only [Option.some.injEq, Prod.mk.injEq] at h
            obtain ⟨rfl, rfl, rfl, rfl⟩ := h
            rw [alls_append] at hv
            have := ih (l.set i true) _ us _ _ _ n (look_put_none hnew hfl) hy hv.2 hc KT KS
            exact fun a w hst hcl hC => tk_one (R := fun _ => True) (A := ⟨w0, n, σ⟩) (fuel := m + 1 + r.length) hs hok.1 hi hx hv.1 (fun a u h => h) (toR this) a w trivial hst hcl hC
          · cases h
        · cases h
      · cases h
    | cl i v =>
      simp only [chainA] at h
      split at h
      · rename_i o hok hi
        simp only [Bool.and_eq_true] at hok
        obtain ⟨⟨⟨hlt, hlate⟩, hrd0⟩, hrd⟩ := hok
        split at h
        · rename_i g args hx hfl'
          rw [Bool.and_eq_true] at hfl'
          split at h
          · rename_i us cs1 y hy
            obtain ⟨l1, e1⟩ := y
            simp only [Option.some.injEq, Prod.mk.injEq] at h
            obtain ⟨rfl, rfl, rfl, rfl⟩ := h
            have hcc := hc
            obtain ⟨hc1, hc2⟩ := hc
            intro a w hst hcl hC
            simp only [flready, Bool.and_eq_true, Bool.or_eq_true] at hrd0
            have hmem : ∀ j ∈ Region.ready .any ops l.toArray, j = i ∨ j = f := by
              intro j hj
              rcases hrd0.2 with e | e
              · rw [show Region.ready .any ops l.toArray = [i, f] by simpa using e] at hj; simpa using hj
              · rw [show Region.ready .any ops l.toArray = [f, i] by simpa using e] at hj
                rcases List.mem_cons.1 hj with rfl | hj
                · exact .inr rfl
                · exact .inl (List.mem_singleton.1 hj)
            have hne : Region.ready .any ops l.toArray ≠ [] := by
              rcases hrd0.2 with e | e
              · rw [show Region.ready .any ops l.toArray = [i, f] by simpa using e]; simp
              · rw [show Region.ready .any ops l.toArray = [f, i] by simpa using e]; simp
            refine ⟨fun h0 => absurd h0 hne, fun j hj => ?_⟩
            have hcl' : Closed .any ops (l.set j true).toArray := by rw [← set_arr]; exact closed_set hcl hj
            rw [set_arr]
            rcases hmem j hj with rfl | rfl
            · refine cl_op (A := ⟨w0, n, σ⟩) (R := fun _ => True) hi hx hfl'.2 hc1 hsub trivial (fun _ _ h => h) hst hcl' (fun n' hn' => ?_)
              exact toR (ih (l.set j true) _ us _ _ _ n' (look_put_none hnew hfl'.1) hy hv hc2 (fun n2 b hn2 hb => KT n2 b (Nat.le_trans hn' hn2) (Nat.le_trans hn' hb)) (fun n2 hn2 => KS n2 (Nat.le_trans hn' hn2)))
            · obtain ⟨w', hyl, hsat, -⟩ := opX_sound (hop n a.eval) trivial hst.mem
              have hlN : inN N of_.dst = true := by rw [hod]; exact hdN
              have hst' := hst.put hsat of_.dst hlN (.pointer (some ⟨n, 0, none⟩))
              have hcs : Cs σC w' := fun c hc => hsat.all c (List.mem_append_left _ (hsub c hc))
              have hT := chain_T (R := fun a => a.tmps.size = N ∧ a.tmps.getD d undef = .pointer (some ⟨n, 0, none⟩)) (fl := some (j, d)) (ds := ds) (s := s) (Q := Q) (m := m) hs (σ := σ ++ [.blk n obj true]) (w0 := w0) (fun c hc => List.mem_append_left _ (hsub c hc)) (by
                intro a dst u hnd hRa
                cases dst with
                | none => exact hRa
                | some t =>
                  simp only [flnot, notDst, Bool.not_eq_true'] at hnd
                  have htd : t ≠ d := fun e => by subst e; rw [Nat.beq_refl] at hnd; cases hnd
                  refine ⟨by simp [Act.put, hRa.1], ?_⟩
                  rw [← hRa.2]
                  simp only [Act.put, getD_set]
                  rw [if_neg (by intro e; exact htd (by first | exact e | exact e.1 | exact e.symm | exact e.1.symm))]) (.cl i v :: r) l env us ((g, args, v) :: cs1) l1 e1 (n + 1) h00 hv hcc (fun n' hn' a' w2 hRa hst2 hcl2 hC2 => by
                  refine KT n' n (by omega) (Nat.le_refl _) a' w2 ⟨hst2.sz, hst2.df, fun t u hu => ?_, hst2.mem⟩ hcl2 hC2
                  simp only [putE, look] at hu
                  by_cases htd : d = t
                  · subst htd
                    rw [Nat.beq_refl] at hu
                    simp only [cond_true, Option.some.injEq] at hu
                    rw [← hu]; exact hRa.2
                  · rw [beq_ne htd] at hu
                    exact hst2.kn t u (look_del hu).2)
              have hRa : (a.put of_.dst (.pointer (some ⟨n, 0, none⟩))).tmps.size = N ∧ (a.put of_.dst (.pointer (some ⟨n, 0, none⟩))).tmps.getD d undef = .pointer (some ⟨n, 0, none⟩) := ⟨hst'.sz, hst'.kn d _ (by rw [hod]; simp [putE, look])⟩
              have hst2 : St N env ds ⟨w0, n + 1, σ ++ [.blk n obj true]⟩ (a.put of_.dst (.pointer (some ⟨n, 0, none⟩))) w' := ⟨hst'.sz, hst'.df, fun t u hu => by
                by_cases htd : d = t
                · subst htd
                  exfalso
                  rw [hnew] at hu; cases hu
                · exact hst'.kn t u (by rw [hod]; simp only [putE, look]; rw [beq_ne htd]; simpa using look_del_ne htd hu), hst'.mem⟩
              have hfin := hT _ _ hRa hst2 hcl' (fun _ => hcs)
              rw [show m + (Cst.cl i v :: r).length = m + 1 + r.length from by simp only [List.length_cons]; omega] at hfin
              unfold wpOp
              simp only [hof]
              rw [if_pos (wantE_sound (b := true) (by unfold wantE; rw [hog]) hst)]
              left
              unfold Oper.wp
              rcases hyl with hy | ⟨hy, he⟩
              · rw [hy]; exact ⟨fun _ => hcs, hfin⟩
              · cases he
          · cases h
        · cases h
      · cases h
theorem picks_sub {is : List Nat} {l cs : List Ch} (h : picks is l = some cs) : ∀ c ∈ cs, c ∈ l := picks_mem h
theorem w_chainF (f d : Nat) (steps : List Cst) (keep : List Nat) (cs : List CallR) (l' : List Bool) (vs : List Prop) (env' : Env) (obj : Obj) (cix : List Nat)
    (hv : Alls vs) (hc : AllCK P σC cs)
    (KT : ∀ x : {p : Nat × Nat // A.n ≤ p.1 ∧ A.n ≤ p.2}, Wg P N (putE env' (some d) (.pointer (some ⟨x.1.2, 0, none⟩))) ds ⟨A.w0, x.1.1, A.σ ++ [.blk x.1.2 obj true]⟩ ops σC late (fuel - steps.length - 1) (l'.set f true) s Q)
    (KS : (∀ x : {p : Nat × Nat // A.n ≤ p.1 ∧ A.n ≤ p.2}, Wg P N (putE env' (some d) (.pointer (some ⟨x.1.2, 0, none⟩))) ds ⟨A.w0, x.1.1, A.σ ++ [.blk x.1.2 obj true]⟩ ops σC late (fuel - steps.length - 1) (l'.set f true) s Q) → ∀ n, A.n ≤ n → Wg P N env' ds ⟨A.w0, n, A.σ⟩ ops σC late (fuel - steps.length) l' s Q)
    (h : (match chainA P N ops σC A.w0 late (some (f, d)) steps listed env with | some (vs, cs, l, e) => some (vs, cs, l, keepE keep e) | none => none) = some (vs, cs, l', env') := by as_aux_lemma => kernel_rfl)
    (hop : ∀ (n : Nat) (ρ : Operand → Value), (match ops[f]? with | some o => opX P false ρ o ⟨A.w0, n, A.σ⟩ (.auto []) | none => none) = some ([], .pointer (some ⟨n, 0, none⟩), ⟨A.w0, n + 1, A.σ ++ [.blk n obj true]⟩) := by (intros; as_aux_lemma => kernel_rfl))
    (ho : (match ops[f]? with | some o => (o.dst == some d) && o.guard.isNone && Nat.blt d N && !Nat.beq f late && (look env d).isNone | none => false) = true := by as_aux_lemma => kernel_rfl)
    (hC : picks cix A.σ = some σC := by rfl) (hf : Nat.ble (steps.length + 1) fuel = true := by as_aux_lemma => kernel_rfl) (hs : Region.noSelect ops = true := by as_aux_lemma => kernel_rfl) : Wg P N env ds A ops σC late fuel listed s Q := by
  split at h
  · rename_i vs1 cs1 l1 e1 h1
    simp only [Option.some.injEq, Prod.mk.injEq] at h
    obtain ⟨rfl, rfl, rfl, rfl⟩ := h
    split at ho
    · rename_i of_ hof
      simp only [hof, Bool.and_eq_true, beq_iff_eq, Bool.not_eq_true', Option.isNone_iff_eq_none] at ho hop
      obtain ⟨⟨⟨⟨hod, hog⟩, hdN⟩, hfl⟩, hnew⟩ := ho
      have hle := Nat.le_of_ble_eq_true hf
      obtain ⟨w0, n, σ⟩ := A
      have key := chain_S (m := fuel - steps.length - 1) (ds := ds) (s := s) (Q := Q) hs (picks_sub hC) hof hod hdN hog hfl hop steps listed env _ _ _ _ n hnew h1 hv hc (fun n' b hn hb a w hst hcl hcc => KT ⟨(n', b), hn, hb⟩ a w (hst.sub (fun t v ht => by
        simp only [putE, look] at ht ⊢
        by_cases e : d = t
        · subst e; rw [Nat.beq_refl] at ht ⊢; exact ht
        · rw [beq_ne e] at ht ⊢
          exact look_del_ne e (look_keep (look_del ht).2))) hcl hcc) (fun n' hn a w hst hcl hcc => by
        have := KS KT n' hn a w (hst.sub (fun t v => look_keep)) hcl hcc
        rwa [show fuel - steps.length = fuel - steps.length - 1 + 1 from by omega] at this)
      rwa [show fuel - steps.length - 1 + 1 + steps.length = fuel from by omega] at key
    · cases ho
  · cases h
theorem w_chainN (steps : List Cst) (keep : List Nat) (cs : List CallR) (l' : List Bool) (vs : List Prop) (env' : Env) (cix : List Nat)
    (hv : Alls vs) (hc : AllCK P σC cs) (K : ∀ n, A.n ≤ n → Wg P N env' ds ⟨A.w0, n, A.σ⟩ ops σC late (fuel - steps.length) l' s Q)
    (h : (match chainA P N ops σC A.w0 late none steps listed env with | some (vs, cs, l, e) => some (vs, cs, l, keepE keep e) | none => none) = some (vs, cs, l', env') := by as_aux_lemma => kernel_rfl)
    (hC : picks cix A.σ = some σC := by rfl) (hf : Nat.ble steps.length fuel = true := by as_aux_lemma => kernel_rfl) (hs : Region.noSelect ops = true := by as_aux_lemma => kernel_rfl) : Wg P N env ds A ops σC late fuel listed s Q := by
  split at h
  · rename_i vs1 cs1 l1 e1 h1
    simp only [Option.some.injEq, Prod.mk.injEq] at h
    obtain ⟨rfl, rfl, rfl, rfl⟩ := h
    have hle := Nat.le_of_ble_eq_true hf
    obtain ⟨w0, n, σ⟩ := A
    have key := chain_T (R := fun _ => True) (m := fuel - steps.length) (ds := ds) (s := s) (Q := Q) (fl := none) hs (picks_sub hC) (fun _ _ _ _ h => h) steps listed env _ _ _ _ n h1 hv hc (fun n' hn a w _ hst hcl hcc => K n' hn a w (hst.sub (fun t v => look_keep)) hcl hcc)
    rw [show fuel - steps.length + steps.length = fuel from by omega] at key
    exact fun a w => key a w trivial
  · cases h
end
end Go.Proofs.YtnjhekfgmbpmlaaDoor.Eng
