/- The engine, fourth part: a region that draws its order. What only reads is taken first (while the pieces that are read, C, stand); of what writes or makes memory, whichever may come up. No conditions. -/
import Derived.Test.YtnjhekfgmbpmlaaDoorEngU
import Derived.OrdersHeld
namespace Go.Proofs.YtnjhekfgmbpmlaaDoor.Eng
open Go
set_option linter.unusedSimpArgs false
set_option linter.unusedVariables false

section
variable {P : Program} {ops : Array Oper} {Q : Exit → Act → World → Prop} {md : Region.Mode} {C : World → Prop} {late : Nat}

def Closed (md : Region.Mode) (ops : Array Oper) (listed : Array Bool) : Prop :=
  (∀ j oj, ops[j]? = some oj → listed.getD j false = true → ∀ e ∈ oj.after, Region.binds md e = true → listed.getD e.on false = true) ∧ ∀ j, listed.getD j false = true → j < ops.size

/-- Those that number j waits for, through others too. -/
def anc (md : Region.Mode) (ops : Array Oper) : Nat → Nat → List Nat
  | 0, _ => []
  | f + 1, j => match ops[j]? with
    | none => []
    | some o => o.after.toList.flatMap fun e => if Region.binds md e then e.on :: anc md ops f e.on else []

theorem anc_listed {listed : Array Bool} (hc : Closed md ops listed) : ∀ (f j : Nat) (o : Oper), ops[j]? = some o → (∀ e ∈ o.after, Region.binds md e = true → listed.getD e.on false = true) → ∀ m ∈ anc md ops f j, listed.getD m false = true := by
  intro f
  induction f with
  | zero => intro j o _ _ m hm; simp [anc] at hm
  | succ f ih =>
    intro j o ho ha m hm
    simp only [anc, ho, List.mem_flatMap] at hm
    obtain ⟨e, he, hm⟩ := hm
    have he' : e ∈ o.after := by simpa using he
    split at hm
    · rename_i hb
      have h1 := ha e he' hb
      rcases List.mem_cons.1 hm with rfl | hm
      · exact h1
      · cases hoe : ops[e.on]? with
        | none => cases f <;> simp [anc, hoe] at hm
        | some oe => exact ih e.on oe hoe (hc.1 e.on oe hoe h1) m hm
    · cases hm

theorem closed_set {listed : Array Bool} {i : Nat} (hc : Closed md ops listed) (hi : i ∈ Region.ready md ops listed) : Closed md ops (listed.setIfInBounds i true) := by
  obtain ⟨-, o, ho, hall⟩ := mem_ready.1 hi
  refine ⟨?_, fun j hl => ?_⟩
  · intro j oj hj hl e he hb
    by_cases hij : i = j
    · subst hij
      rw [hj] at ho; cases ho
      exact getD_set_true (hall e he hb)
    · rw [getD_set_ne false hij] at hl
      exact getD_set_true (hc.1 j oj hj hl e he hb)
  · by_cases hij : i = j
    · subst hij; exact (Array.getElem?_eq_some_iff.1 ho).1
    · rw [getD_set_ne false hij] at hl
      exact hc.2 j hl

def wpAnyI (P : Program) (md : Region.Mode) (ops : Array Oper) (Q : Exit → Act → World → Prop) (late : Nat) (C : World → Prop) : Nat → Array Bool → Act → World → Prop
  | 0, listed, a, w => Region.ready md ops listed = [] ∧ Q .normal a w
  | fuel + 1, listed, a, w =>
    (Region.ready md ops listed = [] → Q .normal a w) ∧
    ∀ i ∈ Region.ready md ops listed, wpOp P ops Q i (fun a' w' => ((listed.setIfInBounds i true).getD late false = false → C w') ∧ wpAnyI P md ops Q late C fuel (listed.setIfInBounds i true) a' w') a w

/-- Is it sure that number i comes ahead of the late one? -/
def ahead (md : Region.Mode) (ops : Array Oper) (late i : Nat) : Bool := Nat.ble ops.size late || (anc md ops ops.size late).contains i

theorem ahead_late {i : Nat} {oi : Oper} {listed : Array Bool} (hl : ahead md ops late i = true) (hi : ops[i]? = some oi) (hc : Closed md ops listed) (hr : i ∈ Region.ready md ops listed) : listed.getD late false = false := by
  cases hb : listed.getD late false with
  | false => rfl
  | true =>
    exfalso
    have hlt := hc.2 late hb
    unfold ahead at hl
    rcases Bool.or_eq_true_iff.1 hl with hl | hl
    · have h1 := Nat.le_of_ble_eq_true hl
      omega
    · have h0 := (mem_ready.1 hr).1
      have h1 := anc_listed hc ops.size late ops[late] (by simp [hlt]) (hc.1 late ops[late] (by simp [hlt]) hb) i (by simpa using hl)
      rcases Nat.lt_or_ge i listed.size with h' | h'
      · simp [h'] at h0 h1; rw [h0] at h1; cases h1
      · simp [Array.getElem?_eq_none h'] at h1

theorem first {i : Nat} {oi : Oper} {v : Value} (hl : ahead md ops late i = true) (hi : ops[i]? = some oi) (hsel : ∀ (j : Nat) (o : Oper) cs b, ops[j]? = some o → o.op ≠ .select cs b)
    (hQ : ∀ c a w, Q (.panic c) (a.put oi.dst v) w → Q (.panic c) a w) :
    ∀ (fuel : Nat) (listed : Array Bool) (a : Act) (w : World), Closed md ops listed →
      (∀ j oj, ops[j]? = some oj → j ≠ i → listed.getD j true = false → (∀ e ∈ oj.after, Region.binds md e = true → e.on ≠ i) → oi.apart ops oj = true) →
      i ∈ Region.ready md ops listed → YieldsIf P ops C oi v a → C w → i ≠ late →
      wpAnyI P md ops Q late C fuel (listed.setIfInBounds i true) (a.put oi.dst v) w → wpAnyI P md ops Q late C (fuel + 1) listed a w := by
  intro fuel
  induction fuel with
  | zero =>
    intro listed a w _ _ hr hy hS hil H
    refine ⟨fun h => (by rw [h] at hr; cases hr), fun j hj => ?_⟩
    by_cases hji : j = i
    · subst hji; exact hy.wpOp hi hS ⟨fun _ => hS, H⟩
    · have := ready_mono hj hji
      rw [H.1] at this
      cases this
  | succ fuel ih =>
    intro listed a w hcl hfree hr hy hS hil H
    refine ⟨fun h => (by rw [h] at hr; cases hr), fun j hj => ?_⟩
    by_cases hji : j = i
    · subst hji; exact hy.wpOp hi hS ⟨fun _ => hS, H⟩
    · have h1 := H.2 j (ready_mono hj hji)
      obtain ⟨hjun, oj, hoj, hall⟩ := mem_ready.1 hj
      have hnot : ∀ e ∈ oj.after, Region.binds md e = true → e.on ≠ i := fun e he hb heq => by
        have h1 := hall e he hb
        have h0 := (mem_ready.1 hr).1
        rw [heq] at h1
        rcases Nat.lt_or_ge i listed.size with h' | h'
        · simp [h'] at h0 h1; rw [h0] at h1; cases h1
        · simp [Array.getElem?_eq_none h'] at h1
      have hlate : (listed.setIfInBounds j true).getD late false = false := ahead_late hl hi (closed_set hcl hj) (ready_mono hr (Ne.symm hji))
      have hlate2 : ((listed.setIfInBounds i true).setIfInBounds j true).getD late false = (listed.setIfInBounds j true).getD late false ∨ i = late := by
        by_cases hil : i = late
        · exact .inr hil
        · left; rw [Array.setIfInBounds_comm _ _ (Ne.symm hji), getD_set_ne false hil]
      have h2 := wpOp_putIf hoj (hfree j oj hoj hji hjun hnot) (fun cs b => hsel i oi cs b hi) (fun cs b => hsel j oj cs b hoj) hQ hy h1
      have hfree' : ∀ k ok, ops[k]? = some ok → k ≠ i → (listed.setIfInBounds j true).getD k true = false →
          (∀ e ∈ ok.after, Region.binds md e = true → e.on ≠ i) → oi.apart ops ok = true := fun k ok hk hki hun hno => by
        refine hfree k ok hk hki ?_ hno
        by_cases hjk : j = k
        · subst hjk; exact hjun
        · rw [getD_set_ne true hjk] at hun; exact hun
      refine wpOp_mono (fun a' w' h3 => ?_) h2
      have hCw : C w' := h3.2.1 (by
        rcases hlate2 with e | e
        · rw [e]; exact hlate
        · exact absurd e hil)
      refine ⟨fun _ => hCw, ih (listed.setIfInBounds j true) a' w' (closed_set hcl hj) hfree' (ready_mono hr (Ne.symm hji)) h3.1 hCw hil ?_⟩
      rw [Array.setIfInBounds_comm _ _ hji]
      exact h3.2.2

theorem anyI_mono {C' : World → Prop} (hC : ∀ w, C' w → C w) : ∀ (fuel : Nat) (listed : Array Bool) (a : Act) (w : World), wpAnyI P md ops Q late C' fuel listed a w → wpAnyI P md ops Q late C fuel listed a w := by
  intro fuel
  induction fuel with
  | zero => exact fun _ _ _ h => h
  | succ fuel ih => exact fun listed a w h => ⟨h.1, fun i hi => wpOp_mono (fun a' w' h3 => ⟨fun hn => hC _ (h3.1 hn), ih _ _ _ h3.2⟩) (h.2 i hi)⟩

/-- An end by a panic may not hang on what the slots hold. -/
def Quiet (Q : Exit → Act → World → Prop) (e : Exit) (a : Act) (w : World) : Prop := (e = .normal ∧ Q .normal a w) ∨ ∃ ch, e = .panic ch ∧ ∀ a' : Act, a'.tmps.size = a.tmps.size → a'.defers = a.defers → Q (.panic ch) a' w
theorem quiet_normal {a : Act} {w : World} (h : Quiet Q .normal a w) : Q .normal a w := by
  rcases h with h | ⟨ch, e, -⟩
  · exact h.2
  · cases e
theorem quiet_panic {ch : List PanicEntry} {a : Act} {w : World} (h : Quiet Q (.panic ch) a w) : Q (.panic ch) a w := by
  rcases h with h | ⟨ch, e, h⟩
  · exact absurd h.1 (by simp)
  · cases e; exact h a rfl rfl
theorem quiet_put {ch : List PanicEntry} {a : Act} {w : World} {d : Option Tmp} {v : Value} (h : Quiet Q (.panic ch) (a.put d v) w) : Quiet Q (.panic ch) a w := by
  rcases h with h | ⟨ch, e, h⟩
  · exact absurd h.1 (by simp)
  · refine .inr ⟨ch, e, fun a' h1 h2 => h a' ?_ ?_⟩
    · cases d <;> simp [Act.put, h1]
    · cases d <;> simp [Act.put, h2]

theorem any_plain : ∀ (fuel : Nat) (listed : Array Bool) (a : Act) (w : World), wpAnyI P md ops (Quiet Q) late C fuel listed a w → wpAny P md ops Q fuel listed a w := by
  intro fuel
  induction fuel with
  | zero => exact fun _ _ _ h => ⟨h.1, quiet_normal h.2⟩
  | succ fuel ih =>
    intro listed a w h
    refine ⟨fun h0 => quiet_normal (h.1 h0), fun i hi => ?_⟩
    have h1 := h.2 i hi
    unfold wpOp at h1 ⊢
    cases ho : ops[i]? with
    | none => simp only [ho] at h1; exact ih _ _ _ h1.2
    | some o =>
      simp only [ho] at h1
      simp only []
      split
      · rename_i hw
        simp only [hw, if_true] at h1
        rcases h1 with h1 | ⟨-, a', w', e⟩
        · left
          unfold Oper.wp at h1 ⊢
          generalize (execOp a.eval o).run P w = r at *
          cases r with
          | ok x w' =>
            cases x <;> simp only [Oper.upon] at h1 ⊢ <;> first
              | exact ih _ _ _ h1.2
              | exact h1
              | exact Calls.mono h1 (fun e w'' he => by cases e <;> first | exact ih _ _ _ he.2 | exact quiet_panic he | (obtain ⟨_, _, ⟨e, -⟩ | ⟨_, e, -⟩⟩ := he <;> cases e))
              | exact Rows.mono h1 (fun _ _ he => ih _ _ _ he.2)
          | halt x w' => cases x <;> simp only [Oper.upon] at h1 ⊢ <;> first | exact h1 | exact quiet_panic h1
        · rcases e with ⟨e, -⟩ | ⟨_, e, -⟩ <;> cases e
      · rename_i hw
        simp only [hw, Bool.false_eq_true, if_false] at h1
        exact ih _ _ _ h1.2
end

/-- What is asked of the world while the region goes: these pieces. -/
def Cs (σC : List Ch) (w : World) : Prop := ∀ c ∈ σC, c.holds w

/-- The part of a region's proof that goes on from what has come up (listed). -/
def Wg (P : Program) (N : Nat) (env : Env) (ds : List Deferred) (A : AW) (ops : Array Oper) (σC : List Ch) (late fuel : Nat) (listed : List Bool) (s : List Kt) (Q : Exit → Act → World → Prop) : Prop :=
  ∀ a w, St N env ds A a w → Closed .any ops listed.toArray → (listed.toArray.getD late false = false → Cs σC w) → wpAnyI P .any ops (Quiet (QQ P s Q)) late (Cs σC) fuel listed.toArray a w
/-- .. at number i. -/
def WO (P : Program) (N : Nat) (env : Env) (ds : List Deferred) (A : AW) (ops : Array Oper) (σC : List Ch) (late fuel : Nat) (listed : List Bool) (s : List Kt) (Q : Exit → Act → World → Prop) (i : Nat) : Prop :=
  ∀ a w, St N env ds A a w → Closed .any ops (listed.set i true).toArray → wpOp P ops (Quiet (QQ P s Q)) i (fun a' w' => ((listed.set i true).toArray.getD late false = false → Cs σC w') ∧ wpAnyI P .any ops (Quiet (QQ P s Q)) late (Cs σC) fuel (listed.set i true).toArray a' w') a w

section
variable {P : Program} {N : Nat} {env : Env} {ds : List Deferred} {A : AW} {ops : Array Oper} {σC : List Ch} {late fuel : Nat} {listed : List Bool} {s : List Kt} {Q : Exit → Act → World → Prop}

/-- Takes: number, justification. -/
def takes (P : Program) (N : Nat) (ops : Array Oper) (σC : List Ch) (w0 : World) (late : Nat) : List (Nat × OC) → List Bool → Env → Option (List Prop × List Bool × Env)
  | [], listed, env => some ([], listed, env)
  | (i, c) :: r, listed, env => match ahead .any ops late i && !Nat.beq i late, Region.free .any ops listed.toArray i, (Region.ready .any ops listed.toArray).contains i, ops[i]? with
    | true, true, true, some o => match inN N o.dst, wantE ops env o with
      | true, some false => takes P N ops σC w0 late r (listed.set i true) (putE env o.dst undef)
      | true, some true => match knownOp env o, opX P true (evalE env) o ⟨w0, 0, σC⟩ c.k with
        | true, some (vs, v, _) => match c.as with
          | none => match takes P N ops σC w0 late r (listed.set i true) (putE env o.dst v) with
            | some (us, x) => some (vs ++ us, x)
            | none => none
          | some u => match takes P N ops σC w0 late r (listed.set i true) (putE env o.dst u) with
            | some (us, x) => some (vs ++ (v = u) :: us, x)
            | none => none
        | _, _ => none
      | _, _ => none
    | _, _, _, _ => none

theorem takes_sound (hs : Region.noSelect ops = true) {w0 : World} : ∀ (cs : List (Nat × OC)) (listed : List Bool) (env : Env) (vs : List Prop) (listed' : List Bool) (env' : Env),
    takes P N ops σC w0 late cs listed env = some (vs, listed', env') → Alls vs → Wg P N env' ds A ops σC late fuel listed' s Q → Wg P N env ds A ops σC late (fuel + cs.length) listed s Q := by
  intro cs
  induction cs with
  | nil =>
    intro listed env vs listed' env' h hv K
    simp only [takes, Option.some.injEq, Prod.mk.injEq] at h
    obtain ⟨-, rfl, rfl⟩ := h
    exact K
  | cons x r ih =>
    obtain ⟨i, c⟩ := x
    intro listed env vs listed' env' h hv K a w hst hcl hC
    simp only [takes] at h
    split at h
    · rename_i o hah0 hfr hrd hi
      rw [Bool.and_eq_true] at hah0
      obtain ⟨hah, hil0⟩ := hah0
      have hil : i ≠ late := fun e => by subst e; rw [Nat.beq_refl] at hil0; cases hil0
      have hrd' : i ∈ Region.ready .any ops listed.toArray := by simpa using hrd
      have hC0 := hC (ahead_late hah hi hcl hrd')
      have hQ : ∀ v c a w, Quiet (QQ P s Q) (.panic c) (a.put o.dst v) w → Quiet (QQ P s Q) (.panic c) a w := fun _ _ _ _ h => quiet_put h
      have hset : ∀ l : List Bool, l.toArray.setIfInBounds i true = (l.set i true).toArray := fun l => by simp
      have hcl' : Closed .any ops (listed.set i true).toArray := by rw [← hset]; exact closed_set hcl hrd'
      have go : ∀ v, YieldsIf P ops (Cs σC) o v a → wpAnyI P .any ops (Quiet (QQ P s Q)) late (Cs σC) (fuel + r.length) (listed.set i true).toArray (a.put o.dst v) w → wpAnyI P .any ops (Quiet (QQ P s Q)) late (Cs σC) (fuel + (r.length + 1)) listed.toArray a w := by
        intro v hy hw
        exact first (md := .any) (late := late) (C := Cs σC) hah hi (Region.noSelect_spec hs) (hQ v) (fuel + r.length) listed.toArray a w hcl (Region.free_spec hi hfr) hrd' hy hC0 hil (by rw [hset]; exact hw)
      split at h
      · rename_i hd hw
        exact go undef (.inr ⟨wantE_sound hw hst, rfl⟩) (ih _ _ vs listed' env' h hv K _ _ (hst.put hst.mem _ hd undef) hcl' (fun _ => hC0))
      · rename_i hd hw
        have hw' := wantE_sound hw hst
        split at h
        · rename_i vs1 v A1 hk hx
          have hcg := eval_congr hst hk
          have hy : Alls vs1 → YieldsIf P ops (Cs σC) o v a := fun h1 => .inl ⟨hw', fun w1 hC1 => by rw [hcg]; exact opX_read hx h1 hC1⟩
          split at h
          · split at h
            · rename_i us x hx2
              simp only [Option.some.injEq, Prod.mk.injEq] at h
              obtain ⟨rfl, rfl, rfl⟩ := h
              rw [alls_append] at hv
              exact go v (hy hv.1) (ih _ _ us _ _ hx2 hv.2 K _ _ (hst.put hst.mem _ hd v) hcl' (fun _ => hC0))
            · cases h
          · rename_i u hcas
            split at h
            · rename_i us x hx2
              simp only [Option.some.injEq, Prod.mk.injEq] at h
              obtain ⟨rfl, rfl, rfl⟩ := h
              rw [alls_append] at hv
              obtain ⟨h1, h2, h3⟩ := hv
              have h2' : v = u := h2
              subst h2'
              exact go v (hy h1) (ih _ _ us _ _ hx2 h3 K _ _ (hst.put hst.mem _ hd v) hcl' (fun _ => hC0))
            · cases h
        · cases h
      · cases h
    · cases h

/-- What only reads comes first. -/
theorem w_take (cs : List (Nat × OC)) (keep : List Nat) (vs : List Prop) (listed' : List Bool) (env' : Env) (hf : Nat.ble cs.length fuel = true)
    (h : (match takes P N ops σC A.w0 late cs listed env with | some (vs, l, e) => some (vs, l, keepE keep e) | none => none) = some (vs, listed', env')) (hs : Region.noSelect ops = true) (hv : Alls vs) (K : Wg P N env' ds A ops σC late (fuel - cs.length) listed' s Q) : Wg P N env ds A ops σC late fuel listed s Q := by
  split at h
  · rename_i vs' l e h1
    simp only [Option.some.injEq, Prod.mk.injEq] at h
    obtain ⟨rfl, rfl, rfl⟩ := h
    have hle := Nat.le_of_ble_eq_true hf
    have := takes_sound (fuel := fuel - cs.length) hs cs listed env _ _ _ h1 hv (fun a w hst hcl hC => K a w (hst.sub (fun t v => look_keep)) hcl hC)
    rwa [Nat.sub_add_cancel hle] at this
  · cases h

/-- Whichever may come up comes up. -/
theorem w_all (rs : List Nat) (hr : Region.ready .any ops listed.toArray = rs) (hne : List.isEmpty rs = false) (hf : Nat.ble 1 fuel = true) (h : ∀ i ∈ rs, WO P N env ds A ops σC late (fuel - 1) listed s Q i) : Wg P N env ds A ops σC late fuel listed s Q := by
  intro a w hst hcl hC
  obtain ⟨f, rfl⟩ : ∃ f, fuel = f + 1 := ⟨fuel - 1, by have := Nat.le_of_ble_eq_true hf; omega⟩
  refine ⟨fun h0 => ?_, fun i hi => ?_⟩
  · rw [h0] at hr; subst hr; cases hne
  · have hset : listed.toArray.setIfInBounds i true = (listed.set i true).toArray := by simp
    have hcl' : Closed .any ops (listed.set i true).toArray := by rw [← hset]; exact closed_set hcl hi
    rw [hr] at hi
    have := h i hi a w hst hcl'
    rw [hset]; exact this

/-- All have come up. -/
theorem w_done (hr : Region.ready .any ops listed.toArray = []) (K : E P N env ds A .normal s Q) : Wg P N env ds A ops σC late fuel listed s Q := by
  intro a w hst hcl hC
  cases fuel with
  | zero => exact ⟨hr, .inl ⟨rfl, K a w hst⟩⟩
  | succ f => exact ⟨fun _ => .inl ⟨rfl, K a w hst⟩, by rw [hr]; simp⟩

/-- More is asked of the world from here on. -/
theorem w_more (σC' : List Ch) (hin : ∀ c ∈ σC, c ∈ σC') (hσ : ∀ c ∈ σC', c ∈ A.σ) (h : Wg P N env ds A ops σC' late fuel listed s Q) : Wg P N env ds A ops σC late fuel listed s Q :=
  fun a w hst hcl hC => anyI_mono (fun w1 h1 c hc => h1 c (hin c hc)) _ _ _ _ (h a w hst hcl (fun _ c hc => hst.mem.all c (hσ c hc)))

/-- The pieces by number. -/
def picks : List Nat → List Ch → Option (List Ch)
  | [], _ => some []
  | i :: r, l => match l[i]?, picks r l with
    | some c, some cs => some (c :: cs)
    | _, _ => none
theorem picks_mem : ∀ {is : List Nat} {l cs : List Ch}, picks is l = some cs → ∀ c ∈ cs, c ∈ l
  | [], _, _, h, c, hc => by simp [picks] at h; subst h; cases hc
  | i :: r, l, cs, h, c, hc => by
    simp only [picks] at h
    split at h
    · rename_i d ds hd hds
      simp only [Option.some.injEq] at h; subst h
      rcases List.mem_cons.1 hc with rfl | hc
      · exact List.mem_of_getElem? hd
      · exact picks_mem hds c hc
    · cases h

/-- At one number: an operation that the model's own run tells. -/
def effA (P : Program) (N : Nat) (ops : Array Oper) (i : Nat) (c : OC) (env : Env) (A : AW) : LRes := match ops[i]? with
  | some o => match inN N o.dst, wantE ops env o, knownOp env o, opX P false (evalE env) o A c.k with
    | true, some true, true, some (vs, v, A') => match c.as with
      | none => some (vs, putE env o.dst v, A')
      | some u => some (vs ++ [v = u], putE env o.dst u, A')
    | true, some false, _, _ => some ([], putE env o.dst undef, A)
    | _, _, _, _ => none
  | none => none

/-- What the others may rely on still stands, or need not. -/
theorem cs_of {i : Nat} {A' : AW} {w' : World} {cix : List Nat} (hcl : Closed .any ops (listed.set i true).toArray) (hC : Nat.beq i late = true ∨ picks cix A'.σ = some σC) (hi : i < listed.length) (hs : Sat A' w') : (listed.set i true).toArray.getD late false = false → Cs σC w' := by
  intro hl
  rcases hC with hC | hC
  · have := Nat.eq_of_beq_eq_true hC
    subst this
    simp [hi] at hl
  · exact fun c hc => hs.all c (picks_mem hC c hc)

theorem wo_eff {i : Nat} (c : OC) (keep : List Nat) (vs : List Prop) (env' : Env) (A' : AW) (cix : List Nat)
    (h : (match effA P N ops i c env A with | some (vs, e, A') => some (vs, keepE keep e, A') | none => none) = some (vs, env', A')) (hi : Nat.blt i listed.length = true) (hv : Alls vs) (hC : Nat.beq i late = true ∨ picks cix A'.σ = some σC)
    (K : Wg P N env' ds A' ops σC late fuel (listed.set i true) s Q) : WO P N env ds A ops σC late fuel listed s Q i := by
  intro a w hst hcl
  have hlt : i < listed.length := by simpa using hi
  split at h
  · rename_i vs' e A1 h1
    simp only [Option.some.injEq, Prod.mk.injEq] at h
    obtain ⟨rfl, rfl, rfl⟩ := h
    unfold effA at h1
    unfold wpOp
    split at h1
    · rename_i o ho
      simp only [ho]
      split at h1
      · rename_i vs1 v A2 hd hw hk hx
        have hw' := wantE_sound hw hst
        rw [if_pos hw']
        left
        have done : ∀ u, e = putE env o.dst u → v = u → Alls vs1 → A2 = A1 → o.wp P a w (fun a' w' => ((listed.set i true).toArray.getD late false = false → Cs σC w') ∧ wpAnyI P .any ops (Quiet (QQ P s Q)) late (Cs σC) fuel (listed.set i true).toArray a' w') (Quiet (QQ P s Q)) := by
          rintro u rfl rfl hv1 rfl
          obtain ⟨w', hy, hsat, -⟩ := opX_sound hx hv1 hst.mem
          have hcs := cs_of (listed := listed) hcl hC hlt hsat
          have hfin := K _ _ ((hst.put hsat _ hd v).sub (fun t v => look_keep)) hcl hcs
          unfold Oper.wp
          rw [eval_congr hst hk]
          rcases hy with hy | ⟨hy, rfl⟩ <;> rw [hy] <;> exact ⟨hcs, hfin⟩
        split at h1
        · simp only [Option.some.injEq, Prod.mk.injEq] at h1
          obtain ⟨rfl, rfl, rfl⟩ := h1
          exact done v rfl rfl hv rfl
        · simp only [Option.some.injEq, Prod.mk.injEq] at h1
          obtain ⟨rfl, rfl, rfl⟩ := h1
          rw [alls_append] at hv
          exact done _ rfl hv.2.1 hv.1 rfl
      · rename_i hd hw
        have hw' := wantE_sound hw hst
        simp only [Option.some.injEq, Prod.mk.injEq] at h1
        obtain ⟨rfl, rfl, rfl⟩ := h1
        rw [if_neg (by rw [hw']; simp)]
        have hcs := cs_of (listed := listed) hcl hC hlt hst.mem
        exact ⟨hcs, K _ _ ((hst.put hst.mem _ hd undef).sub (fun t v => look_keep)) hcl hcs⟩
      · cases h1
    · cases h1
  · cases h

/-- At one number: a call of a Go function. -/
theorem wo_call {i : Nat} (cs : List LC) (vs : List Prop) (f : FuncId) (args : Array Value) (d : Option Nat) (h : (match ops[i]? with | some o => callA P env A cs ops [o] | none => none) = some (vs, f, args, d)) (hd : inN N d = true) (hi : Nat.blt i listed.length = true) (hv : Alls vs)
    (hc : ∀ w, Sat A w → Calls P f args w fun e w' => ∃ v A', e = .returned v ∧ Sat A' w' ∧ (Nat.beq i late = true ∨ Cs σC w') ∧ Wg P N (putE env d v) ds A' ops σC late fuel (listed.set i true) s Q) : WO P N env ds A ops σC late fuel listed s Q i := by
  intro a w hst hcl
  have hlt : i < listed.length := by simpa using hi
  split at h
  · rename_i o ho
    simp only [callA] at h
    split at h
    · rename_i vs' f' args' A' hw hk hr
      simp only [Option.some.injEq, Prod.mk.injEq] at h
      obtain ⟨rfl, rfl, rfl, rfl⟩ := h
      obtain ⟨hrun, -⟩ := runR_sound _ _ _ _ _ _ _ hr hv w hst.mem.all
      unfold wpOp
      simp only [ho]
      rw [if_pos (wantE_sound hw hst)]
      left
      unfold Oper.wp
      rw [eval_congr hst hk, hrun]
      refine (hc w hst.mem).mono ?_
      rintro e w' ⟨v, A1, rfl, hs1, hC1, K⟩
      have hcs : (listed.set i true).toArray.getD late false = false → Cs σC w' := by
        intro hl
        rcases hC1 with hC1 | hC1
        · have := Nat.eq_of_beq_eq_true hC1
          subst this
          simp [hlt] at hl
        · exact hC1
      exact ⟨hcs, K _ _ (hst.put hs1 _ hd v) hcl hcs⟩
    · cases h
  · cases h

/-- At one number: a call that may panic. -/
theorem wo_callX {i : Nat} (cs : List LC) (vs : List Prop) (f : FuncId) (args : Array Value) (d : Option Nat) (h : (match ops[i]? with | some o => callA P env A cs ops [o] | none => none) = some (vs, f, args, d)) (hd : inN N d = true) (hi : Nat.blt i listed.length = true) (hv : Alls vs)
    (hc : ∀ w, Sat A w → Calls P f args w fun e w' => (∃ v A', e = .returned v ∧ Sat A' w' ∧ (Nat.beq i late = true ∨ Cs σC w') ∧ Wg P N (putE env d v) ds A' ops σC late fuel (listed.set i true) s Q) ∨ (∃ ch A', e = .panicked ch ∧ Sat A' w' ∧ E P N [] ds A' (.panic ch) s Q)) : WO P N env ds A ops σC late fuel listed s Q i := by
  intro a w hst hcl
  have hlt : i < listed.length := by simpa using hi
  split at h
  · rename_i o ho
    simp only [callA] at h
    split at h
    · rename_i vs' f' args' A' hw hk hr
      simp only [Option.some.injEq, Prod.mk.injEq] at h
      obtain ⟨rfl, rfl, rfl, rfl⟩ := h
      obtain ⟨hrun, -⟩ := runR_sound _ _ _ _ _ _ _ hr hv w hst.mem.all
      unfold wpOp
      simp only [ho]
      rw [if_pos (wantE_sound hw hst)]
      left
      unfold Oper.wp
      rw [eval_congr hst hk, hrun]
      refine (hc w hst.mem).mono ?_
      rintro e w' (⟨v, A1, rfl, hs1, hC1, K⟩ | ⟨ch, A1, rfl, hs1, K⟩)
      · have hcs : (listed.set i true).toArray.getD late false = false → Cs σC w' := by
          intro hl
          rcases hC1 with hC1 | hC1
          · have := Nat.eq_of_beq_eq_true hC1
            subst this
            simp [hlt] at hl
          · exact hC1
        exact ⟨hcs, K _ _ (hst.put hs1 _ hd v) hcl hcs⟩
      · exact .inr ⟨ch, rfl, fun a' h1 h2 => K a' w' ⟨h1.trans hst.sz, h2.trans hst.df, fun t v hl => by simp [look] at hl, hs1⟩⟩
    · cases h
  · cases h

theorem anyI_free {C C' : World → Prop} {late' : Nat} {Q : Exit → Act → World → Prop} : ∀ (fuel : Nat) (listed : Array Bool) (a : Act) (w : World), listed.getD late false = true → wpAnyI P .any ops Q late' C' fuel listed a w → wpAnyI P .any ops Q late C fuel listed a w := by
  intro fuel
  induction fuel with
  | zero => exact fun _ _ _ _ h => h
  | succ fuel ih =>
    intro listed a w hl h
    refine ⟨h.1, fun i hi => wpOp_mono (fun a' w' h3 => ⟨fun hn => ?_, ih _ _ _ (getD_set_true hl) h3.2⟩) (h.2 i hi)⟩
    rw [getD_set_true hl] at hn; cases hn
/-- The late one has come: another condition. -/
theorem w_free (late' : Nat) (cix : List Nat) (σC' : List Ch) (hl : listed.toArray.getD late false = true) (hC : picks cix A.σ = some σC') (h : Wg P N env ds A ops σC' late' fuel listed s Q) : Wg P N env ds A ops σC late fuel listed s Q :=
  fun a w hst hcl _ => anyI_free _ _ _ _ hl (h a w hst hcl (fun _ c hc => hst.mem.all c (picks_mem hC c hc)))

/-- A region that draws: C, the pieces that stand till the late one comes. -/
theorem g_draw {id : Nat} (late : Nat) (cix : List Nat) (σC : List Ch) (hm : P.follows .mixedOrders = true) (hC : picks cix A.σ = some σC) (h : Wg P N env ds A ops σC late ops.size (List.replicate ops.size false) s Q) : G P N env ds A (.region id ops true) s Q := by
  intro a w hst
  have hst' : St N env ds A a w.drew := ⟨hst.sz, hst.df, hst.kn, hst.mem.drew⟩
  refine wp_region_any hm (any_plain (late := late) (C := Cs σC) _ _ _ _ ?_)
  have hr : Array.replicate ops.size false = (List.replicate ops.size false).toArray := by simp
  rw [hr]
  refine h a w.drew hst' ⟨fun j oj hj hl => ?_, fun j hl => ?_⟩ (fun _ c hc => hst'.mem.all c (picks_mem hC c hc))
  all_goals
    rw [Array.getD_eq_getD_getElem?] at hl
    by_cases hlt : j < ops.size <;> simp [List.getElem?_replicate, hlt] at hl
end
end Go.Proofs.YtnjhekfgmbpmlaaDoor.Eng
