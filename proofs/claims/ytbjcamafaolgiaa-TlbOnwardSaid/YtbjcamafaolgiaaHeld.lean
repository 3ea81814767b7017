/- A region that draws its order, in a round of a loop over a function: what reads is taken first, while the cells that are read stand (C); one operation (late) that waits for all of them may turn these cells. No conditions. -/
import Derived.Test.YtbjcamafaolgiaaRng
import Derived.OrdersHeld
import Derived.OrdersIn
namespace Go.Proofs.Ytbjcamafaolgiaa.Held
open Go
set_option linter.unusedSimpArgs false
set_option linter.unusedVariables false

section
variable {P : Program} {ops : Array Oper} {Q : Exit → Act → World → Prop} {md : Region.Mode} {C : World → Prop} {late : Nat}

def Closed (md : Region.Mode) (ops : Array Oper) (listed : Array Bool) : Prop :=
  ∀ j oj, ops[j]? = some oj → listed.getD j false = true → ∀ e ∈ oj.after, Region.binds md e = true → listed.getD e.on false = true

/-- Those that number j waits for, through others too. -/
def anc (md : Region.Mode) (ops : Array Oper) : Nat → Nat → List Nat
  | 0, _ => []
  | f + 1, j => match ops[j]? with
    | none => []
    | some o => o.after.toList.flatMap fun e => if Region.binds md e then e.on :: anc md ops f e.on else []

theorem anc_listed {listed : Array Bool} (hc : Closed md ops listed) : ∀ (f j : Nat) (o : Oper), ops[j]? = some o → (∀ e ∈ o.after, Region.binds md e = true → listed.getD e.on false = true) → ∀ m ∈ anc md ops f j, listed.getD m false = true := by
  intro f
  induction f with
  | zero => intro j o _ _ m hm; simp [anc] at hm
  | succ f ih =>
    intro j o ho ha m hm
    simp only [anc, ho, List.mem_flatMap] at hm
    obtain ⟨e, he, hm⟩ := hm
    have he' : e ∈ o.after := by simpa using he
    split at hm
    · rename_i hb
      have h1 := ha e he' hb
      rcases List.mem_cons.1 hm with rfl | hm
      · exact h1
      · cases hoe : ops[e.on]? with
        | none => cases f <;> simp [anc, hoe] at hm
        | some oe => exact ih e.on oe hoe (hc e.on oe hoe h1) m hm
    · cases hm

theorem closed_set {listed : Array Bool} {i : Nat} (hc : Closed md ops listed) (hi : i ∈ Region.ready md ops listed) : Closed md ops (listed.setIfInBounds i true) := by
  intro j oj hj hl e he hb
  by_cases hij : i = j
  · subst hij
    obtain ⟨-, o, ho, hall⟩ := mem_ready.1 hi
    rw [hj] at ho; cases ho
    exact getD_set_true (hall e he hb)
  · rw [getD_set_ne false hij] at hl
    exact getD_set_true (hc j oj hj hl e he hb)

def wpAnyI (P : Program) (md : Region.Mode) (ops : Array Oper) (Q : Exit → Act → World → Prop) (late : Nat) (C : World → Prop) : Nat → Array Bool → Act → World → Prop
  | 0, listed, a, w => Region.ready md ops listed = [] ∧ Q .normal a w
  | fuel + 1, listed, a, w =>
    (Region.ready md ops listed = [] → Q .normal a w) ∧
    ∀ i ∈ Region.ready md ops listed, wpOp P ops Q i (fun a' w' => (i ≠ late → C w') ∧ wpAnyI P md ops Q late C fuel (listed.setIfInBounds i true) a' w') a w

theorem first {i : Nat} {oi : Oper} {v : Value} (hl : (anc md ops ops.size late).contains i = true) (hi : ops[i]? = some oi) (hsel : ∀ (j : Nat) (o : Oper) cs b, ops[j]? = some o → o.op ≠ .select cs b)
    (hQ : ∀ c a w, Q (.panic c) (a.put oi.dst v) w → Q (.panic c) a w) :
    ∀ (fuel : Nat) (listed : Array Bool) (a : Act) (w : World), Closed md ops listed →
      (∀ j oj, ops[j]? = some oj → j ≠ i → listed.getD j true = false → (∀ e ∈ oj.after, Region.binds md e = true → e.on ≠ i) → oi.apart ops oj = true) →
      i ∈ Region.ready md ops listed → YieldsIf P ops C oi v a → C w →
      wpAnyI P md ops Q late C fuel (listed.setIfInBounds i true) (a.put oi.dst v) w → wpAnyI P md ops Q late C (fuel + 1) listed a w := by
  intro fuel
  induction fuel with
  | zero =>
    intro listed a w _ _ hr hy hS H
    refine ⟨fun h => (by rw [h] at hr; cases hr), fun j hj => ?_⟩
    by_cases hji : j = i
    · subst hji; exact hy.wpOp hi hS ⟨fun _ => hS, H⟩
    · have := ready_mono hj hji
      rw [H.1] at this
      cases this
  | succ fuel ih =>
    intro listed a w hcl hfree hr hy hS H
    refine ⟨fun h => (by rw [h] at hr; cases hr), fun j hj => ?_⟩
    by_cases hji : j = i
    · subst hji; exact hy.wpOp hi hS ⟨fun _ => hS, H⟩
    · have h1 := H.2 j (ready_mono hj hji)
      obtain ⟨hjun, oj, hoj, hall⟩ := mem_ready.1 hj
      have hnot : ∀ e ∈ oj.after, Region.binds md e = true → e.on ≠ i := fun e he hb heq => by
        have h1 := hall e he hb
        have h0 := (mem_ready.1 hr).1
        rw [heq] at h1
        rcases Nat.lt_or_ge i listed.size with h' | h'
        · simp [h'] at h0 h1; rw [h0] at h1; cases h1
        · simp [Array.getElem?_eq_none h'] at h1
      have hjl : j ≠ late := by
        rintro rfl
        have h0 := (mem_ready.1 hr).1
        have h1 := anc_listed hcl ops.size j oj hoj hall i (by simpa using hl)
        rcases Nat.lt_or_ge i listed.size with h' | h'
        · simp [h'] at h0 h1; rw [h0] at h1; cases h1
        · simp [Array.getElem?_eq_none h'] at h1
      have h2 := wpOp_putIf hoj (hfree j oj hoj hji hjun hnot) (fun cs b => hsel i oi cs b hi) (fun cs b => hsel j oj cs b hoj) hQ hy h1
      have hfree' : ∀ k ok, ops[k]? = some ok → k ≠ i → (listed.setIfInBounds j true).getD k true = false →
          (∀ e ∈ ok.after, Region.binds md e = true → e.on ≠ i) → oi.apart ops ok = true := fun k ok hk hki hun hno => by
        refine hfree k ok hk hki ?_ hno
        by_cases hjk : j = k
        · subst hjk; exact hjun
        · rw [getD_set_ne true hjk] at hun; exact hun
      refine wpOp_mono (fun a' w' h3 => ⟨fun _ => h3.2.1 hjl, ih (listed.setIfInBounds j true) a' w' (closed_set hcl hj) hfree' (ready_mono hr (Ne.symm hji)) h3.1 (h3.2.1 hjl) ?_⟩) h2
      rw [Array.setIfInBounds_comm _ _ hji]
      exact h3.2.2

/-- The part that a proof goes through: what has come up is closed. -/
structure Way (P : Program) (md : Region.Mode) (ops : Array Oper) (Q : Exit → Act → World → Prop) (late : Nat) (C : World → Prop) (fuel : Nat) (listed : Array Bool) (a : Act) (w : World) : Prop where
  out : Closed md ops listed → C w → wpAnyI P md ops Q late C fuel listed a w

theorem Way.take (i : Nat) {oi : Oper} {v : Value} {fuel : Nat} {listed listed' : Array Bool} {a a' : Act} {w : World} (hi : ops[i]? = some oi) (hl : (anc md ops ops.size late).contains i = true)
    (hs : Region.noSelect ops = true) (hf : Region.free md ops listed i = true) (hr : (Region.ready md ops listed).contains i = true)
    (hQ : ∀ c a w, Q (.panic c) (a.put oi.dst v) w → Q (.panic c) a w) (hy : YieldsIf P ops C oi v a) (hL : listed.setIfInBounds i true = listed') (ha : a.put oi.dst v = a')
    (h : Way P md ops Q late C fuel listed' a' w) : Way P md ops Q late C (fuel + 1) listed a w := by
  subst hL; subst ha
  have hr' : i ∈ Region.ready md ops listed := by simpa using hr
  exact ⟨fun hc hC => first hl hi (Region.noSelect_spec hs) hQ fuel listed a w hc (Region.free_spec hi hf) hr' hy hC (h.out (closed_set hc hr') hC)⟩

/-- Number i alone may come up: it does. -/
theorem Way.go (i : Nat) {o : Oper} {v : Value} {fuel : Nat} {listed listed' : Array Bool} {a a' : Act} {w w' : World} (hi : ops[i]? = some o) (hr : Region.ready md ops listed = [i]) (hw : Region.wanted o (yielded ops a.tmps) = true)
    (hy : C w → (execOp a.eval o).run P w = .ok (.value v) w') (hC : i ≠ late → C w → C w') (hL : listed.setIfInBounds i true = listed') (ha : a.put o.dst v = a')
    (h : if i = late then Q .normal a' w' ∧ Region.ready md ops listed' = [] else Way P md ops Q late C fuel listed' a' w') : Way P md ops Q late C (fuel + 1) listed a w := by
  subst hL; subst ha
  refine ⟨fun hc hC' => ⟨fun h0 => (by rw [h0] at hr; cases hr), fun j hj => ?_⟩⟩
  have hj' := hj
  rw [hr] at hj; simp only [List.mem_singleton] at hj; subst hj
  unfold wpOp
  simp only [hi, hw, if_true]
  refine .inl ?_
  unfold Oper.wp
  rw [hy hC']
  simp only [Oper.upon]
  refine ⟨fun hn => hC hn hC', ?_⟩
  split at h
  · cases fuel with
    | zero => exact ⟨h.2, h.1⟩
    | succ f => exact ⟨fun _ => h.1, by rw [h.2]; simp⟩
  · rename_i hn; exact h.out (closed_set hc hj') (hC hn hC')

/-- The same, of one that yields nothing. -/
theorem Way.skip (i : Nat) {o : Oper} {fuel : Nat} {listed listed' : Array Bool} {a a' : Act} {w w' : World} (hi : ops[i]? = some o) (hr : Region.ready md ops listed = [i]) (hw : Region.wanted o (yielded ops a.tmps) = true)
    (hy : C w → (execOp a.eval o).run P w = .ok .skip w') (hC : i ≠ late → C w → C w') (hL : listed.setIfInBounds i true = listed') (ha : a.put o.dst undef = a')
    (h : if i = late then Q .normal a' w' ∧ Region.ready md ops listed' = [] else Way P md ops Q late C fuel listed' a' w') : Way P md ops Q late C (fuel + 1) listed a w := by
  subst hL; subst ha
  refine ⟨fun hc hC' => ⟨fun h0 => (by rw [h0] at hr; cases hr), fun j hj => ?_⟩⟩
  have hj' := hj
  rw [hr] at hj; simp only [List.mem_singleton] at hj; subst hj
  unfold wpOp
  simp only [hi, hw, if_true]
  refine .inl ?_
  unfold Oper.wp
  rw [hy hC']
  simp only [Oper.upon]
  refine ⟨fun hn => hC hn hC', ?_⟩
  split at h
  · cases fuel with
    | zero => exact ⟨h.2, h.1⟩
    | succ f => exact ⟨fun _ => h.1, by rw [h.2]; simp⟩
  · rename_i hn; exact h.out (closed_set hc hj') (hC hn hC')

/-- The same, of a call of a Go function. -/
theorem Way.call (i : Nat) {o : Oper} {f : FuncId} {args : Array Value} {fuel : Nat} {listed listed' : Array Bool} {a : Act} {w : World} (hi : ops[i]? = some o) (hr : Region.ready md ops listed = [i]) (hw : Region.wanted o (yielded ops a.tmps) = true)
    (he : (execOp a.eval o).run P w = .ok (.enter f args) w) (hL : listed.setIfInBounds i true = listed') {a' : Value → Act} (ha : ∀ v, a.put o.dst v = a' v)
    (h : C w → Calls P f args w fun e w' => ∃ v, e = .returned v ∧ (i ≠ late → C w') ∧ (if i = late then Q .normal (a' v) w' ∧ Region.ready md ops listed' = [] else Way P md ops Q late C fuel listed' (a' v) w')) :
    Way P md ops Q late C (fuel + 1) listed a w := by
  subst hL
  refine ⟨fun hc hC' => ⟨fun h0 => (by rw [h0] at hr; cases hr), fun j hj => ?_⟩⟩
  have hj' := hj
  rw [hr] at hj; simp only [List.mem_singleton] at hj; subst hj
  unfold wpOp
  simp only [hi, hw, if_true]
  refine .inl ?_
  unfold Oper.wp
  rw [he]
  simp only [Oper.upon]
  refine (h hC').mono ?_
  rintro e w' ⟨v, rfl, h1, h2⟩
  refine ⟨h1, ?_⟩
  rw [ha]
  split at h2
  · cases fuel with
    | zero => exact ⟨h2.2, h2.1⟩
    | succ f => exact ⟨fun _ => h2.1, by rw [h2.2]; simp⟩
  · rename_i hn; exact h2.out (closed_set hc hj') (h1 hn)

/-! ### In a round's frame -/
theorem op_round {l n : Nat} {o : Oper} {a : Act} {w : World} {K : Act → World → Prop} (hd : ∀ c, o.op ≠ .defer c) (h : o.wp P a w K Q) : o.wpIn (Fence.wide.inRound l) n P a w K Q := by
  unfold Oper.wp at h
  refine ⟨fun _ _ => trivial, ?_⟩
  rw [Fence.inRound_round, Oper.semAt_some l _ o hd]
  generalize (execOp a.eval o).run P w = r at *
  cases r with
  | ok x w' =>
    cases x <;> simp only [Oper.upon, Oper.uponIn] at h ⊢ <;> first
      | exact h
      | exact ⟨fun hh => by simp [Fence.wide, Fence.inRound] at hh, callsIn_wide.2 h⟩
      | exact ⟨fun hh => by simp [Fence.wide, Fence.inRound] at hh, fun c cs _ => let ⟨v, w'', r, s⟩ := h c cs; ⟨v, w'', r, stepsIn_wide.2 s⟩⟩
  | halt x w' => cases x <;> simp only [Oper.upon, Oper.uponIn] at h ⊢ <;> exact h

def Quiet (Q : Exit → Act → World → Prop) (e : Exit) (a : Act) (w : World) : Prop := e = .normal ∧ Q .normal a w

def noDefer (o : Oper) : Bool := match o.op with | .defer _ => false | _ => true

theorem any_round {l n : Nat} (hd : ops.all noDefer = true) : ∀ (fuel : Nat) (listed : Array Bool) (a : Act) (w : World), wpAnyI P md ops (Quiet Q) late C fuel listed a w → wpAnyIn (Fence.wide.inRound l) n P md ops Q fuel listed a w := by
  have hd' : ∀ (i : Nat) (o : Oper), ops[i]? = some o → ∀ c, o.op ≠ .defer c := by
    intro i o ho c e
    have := Array.all_eq_true_iff_forall_mem.1 hd o (Array.mem_of_getElem? ho)
    simp [noDefer, e] at this
  intro fuel
  induction fuel with
  | zero => exact fun _ _ _ h => ⟨h.1, h.2.2⟩
  | succ fuel ih =>
    intro listed a w h
    refine ⟨fun h0 => (h.1 h0).2, fun i hi => ?_⟩
    have h1 := h.2 i hi
    unfold wpOp at h1
    unfold wpOpIn
    cases ho : ops[i]? with
    | none => simp only [ho] at h1; exact ih _ _ _ h1.2
    | some o =>
      simp only [ho] at h1
      simp only []
      split
      · rename_i hw
        simp only [hw, if_true] at h1
        rcases h1 with h1 | ⟨-, a', w', e, -⟩
        · have h2 := op_round (l := l) (n := n) (hd' i o ho) h1
          refine Oper.wpIn_mono (K := fun a' w' => (i ≠ late → C w') ∧ wpAnyI P md ops (Quiet Q) late C fuel (listed.setIfInBounds i true) a' w') (fun a' w' h3 => ih _ _ _ h3.2) (Q := Q) ?_
          unfold Oper.wpIn at h2 ⊢
          refine ⟨h2.1, ?_⟩
          have h3 := h2.2
          generalize (o.semAt (Fence.wide.inRound l).round a.eval).run P w = r at *
          cases r with
          | ok x w' =>
            cases x <;> simp only [Oper.uponIn] at h3 ⊢ <;> first
              | exact h3
              | exact ⟨h3.1, CallsIn.mono h3.2 (fun e w'' he => by cases e <;> first | exact he | exact absurd he.1 (by simp) | (obtain ⟨_, _, e, -⟩ := he; cases e))⟩
              | exact ⟨h3.1, RoundIn.mono h3.2 (fun e w'' he => by cases e <;> first | exact he | exact absurd he.1 (by simp) | (obtain ⟨_, _, e, -⟩ := he; cases e))⟩
          | halt x w' => cases x <;> simp only [Oper.uponIn] at h3 ⊢ <;> first | exact h3 | (exact absurd h3.1 (by simp))
        · cases e
      · rename_i hw
        simp only [hw, Bool.false_eq_true, if_false] at h1
        exact ⟨fun _ _ => trivial, ih _ _ _ h1.2⟩

theorem region_round {l n id : Nat} {a : Act} {w : World} (late : Nat) (C : World → Prop) (hm : P.follows .mixedOrders = true) (hd : ops.all noDefer = true) (hC : C w.drew)
    (h : Way P .any ops (Quiet Q) late C ops.size (Array.replicate ops.size false) a w.drew) : (Code.region id ops true).wpIn (Fence.wide.inRound l) n P Q a w := by
  refine wpIn_region_any hm (any_round hd _ _ _ _ (h.out ?_ hC))
  intro j oj hj hl
  rw [Array.getD_eq_getD_getElem?] at hl
  by_cases hlt : j < ops.size <;> simp [Array.getElem?_replicate, hlt] at hl

/-! ### In a plain frame -/
theorem any_plain : ∀ (fuel : Nat) (listed : Array Bool) (a : Act) (w : World), wpAnyI P md ops (Quiet Q) late C fuel listed a w → wpAny P md ops Q fuel listed a w := by
  intro fuel
  induction fuel with
  | zero => exact fun _ _ _ h => ⟨h.1, h.2.2⟩
  | succ fuel ih =>
    intro listed a w h
    refine ⟨fun h0 => (h.1 h0).2, fun i hi => ?_⟩
    have h1 := h.2 i hi
    unfold wpOp at h1 ⊢
    cases ho : ops[i]? with
    | none => simp only [ho] at h1; exact ih _ _ _ h1.2
    | some o =>
      simp only [ho] at h1
      simp only []
      split
      · rename_i hw
        simp only [hw, if_true] at h1
        rcases h1 with h1 | ⟨-, a', w', e, -⟩
        · left
          unfold Oper.wp at h1 ⊢
          generalize (execOp a.eval o).run P w = r at *
          cases r with
          | ok x w' =>
            cases x <;> simp only [Oper.upon] at h1 ⊢ <;> first
              | exact ih _ _ _ h1.2
              | exact h1
              | exact Calls.mono h1 (fun e w'' he => by cases e <;> first | exact ih _ _ _ he.2 | exact absurd he.1 (by simp) | (obtain ⟨_, _, e, -⟩ := he; cases e))
              | exact Rows.mono h1 (fun _ _ he => ih _ _ _ he.2)
          | halt x w' => cases x <;> simp only [Oper.upon] at h1 ⊢ <;> first | exact h1 | (exact absurd h1.1 (by simp))
        · cases e
      · rename_i hw
        simp only [hw, Bool.false_eq_true, if_false] at h1
        exact ih _ _ _ h1.2

theorem region_plain {id : Nat} {a : Act} {w : World} (late : Nat) (C : World → Prop) (hm : P.follows .mixedOrders = true) (hC : C w.drew)
    (h : Way P .any ops (Quiet Q) late C ops.size (Array.replicate ops.size false) a w.drew) : (Code.region id ops true).wp P Q a w := by
  refine wp_region_any hm (any_plain _ _ _ _ (h.out ?_ hC))
  intro j oj hj hl
  rw [Array.getD_eq_getD_getElem?] at hl
  by_cases hlt : j < ops.size <;> simp [Array.getElem?_replicate, hlt] at hl

theorem run_append_op {o : Oper} {a : Act} {w w' : World} {s x : Operand} {t : TypeId} {v' : Value} (ho : o.op = .call { callee := .builtin .append, args := #[s, x], argTypes := #[t, t] })
    (hr : (Builtin.append_ #[t, t] o.type #[a.eval s, a.eval x]).run P w = .ok v' w') : (execOp a.eval o).run P w = .ok (.value v') w' := by
  unfold execOp
  simp only [ho, resolve, invoke, builtin, Sem.run_bind, Sem.run_pure, Result.andThen_ok, List.map_toArray, List.map_cons, List.map_nil, hr]
end
end Go.Proofs.Ytbjcamafaolgiaa.Held
