/- The engine, first part: memory as a list of pieces that lie apart (blocks known whole, and whatever else a proof says of memory), and the model's own operations run over it. No conditions. -/
import Derived.WalkKit
import Derived.KernelRfl
import Derived.Deep.LoopGhost
import Derived.ProofKit
namespace Go.Proofs.YtnjhekfgmbpmlaaDoor.Eng
open Go
set_option linter.unusedSimpArgs false
set_option linter.unusedVariables false

/-- A piece of memory: a block that is known whole; or blocks (F) of which something is known (Φ). rw: nobody else looks into it. -/
inductive Ch where
  | blk (b : Nat) (o : Obj) (rw : Bool)
  | inv (F : Nat → Prop) (Φ : World → Prop) (rw : Bool)

def Ch.F : Ch → Nat → Prop
  | .blk b _ _ => fun k => k = b
  | .inv F _ _ => F
def Ch.rw : Ch → Bool
  | .blk _ _ r => r
  | .inv _ _ r => r
def Ch.holds : Ch → World → Prop
  | .blk b o _ => fun w => w.heap[b]? = some o
  | .inv _ Φ _ => Φ
/-- What is said of a piece hangs on its own blocks alone. -/
def Ch.stable (c : Ch) : Prop := ∀ w w' : World, (∀ b, c.F b → w'.heap[b]? = w.heap[b]?) → c.holds w → c.holds w'
theorem Ch.stable_blk (b : Nat) (o : Obj) (r : Bool) : (Ch.blk b o r).stable := fun w w' h hw => (h b rfl).trans hw

abbrev Key := (Nat → Prop) × Bool
def Ch.key (c : Ch) : Key := (c.F, c.rw)
def Key.apart (c d : Key) : Prop := (c.2 = true ∨ d.2 = true) → ∀ b, c.1 b → ¬ d.1 b

/-- What is known of memory. -/
structure AW where
  w0 : World
  n : Nat
  σ : List Ch

structure Sat (A : AW) (w : World) : Prop where
  os : w.os = A.w0.os
  tape : w.tape = A.w0.tape
  output : w.output = A.w0.output
  size : w.heap.size = A.n
  all : ∀ c ∈ A.σ, c.holds w
  bnd : ∀ c ∈ A.σ, ∀ b, c.F b → b < A.n
  stb : ∀ c ∈ A.σ, c.stable
  dis : (A.σ.map Ch.key).Pairwise Key.apart

theorem Sat.at {A : AW} {w : World} (h : Sat A w) {i : Nat} {c : Ch} (hc : A.σ[i]? = some c) : c.holds w := h.all _ (List.mem_of_getElem? hc)
theorem Sat.drew {A : AW} {w : World} (h : Sat A w) : Sat A w.drew := 
  ⟨h.os, h.tape, h.output, h.size, fun c hc => h.stb c hc w w.drew (fun _ _ => rfl) (h.all c hc), h.bnd, h.stb, h.dis⟩

/-- One way into a list of pieces: the others lie apart from number i, if that may be written. -/
theorem apart_of {l : List Key} (h : l.Pairwise Key.apart) {i j : Nat} {c d : Key} (hi : l[i]? = some c) (hj : l[j]? = some d) (hij : i ≠ j) (hr : c.2 = true) : ∀ b, c.1 b → ¬ d.1 b := by
  obtain ⟨hi', rfl⟩ := List.getElem?_eq_some_iff.1 hi
  obtain ⟨hj', rfl⟩ := List.getElem?_eq_some_iff.1 hj
  rcases Nat.lt_or_gt_of_ne hij with hlt | hlt
  · exact List.pairwise_iff_getElem.1 h i j hi' hj' hlt (.inl hr)
  · intro b hb hd
    exact List.pairwise_iff_getElem.1 h j i hj' hi' hlt (.inr hr) b hd hb

/-- A write into the blocks of number i. -/
theorem Sat.put {A : AW} {w w' : World} (h : Sat A w) {i : Nat} {c c' : Ch} (hc : A.σ[i]? = some c) (hrw : c.rw = true) (hk : c'.key = c.key) (hst : c'.stable)
    (hos : w'.os = w.os) (htp : w'.tape = w.tape) (hout : w'.output = w.output) (hsz : w'.heap.size = w.heap.size)
    (hb : ∀ b, ¬ c.F b → w'.heap[b]? = w.heap[b]?) (hh : c'.holds w') : Sat { A with σ := A.σ.set i c' } w' := by
  have hF : c'.F = c.F := congrArg Prod.fst hk
  obtain ⟨hi, hci⟩ := List.getElem?_eq_some_iff.1 hc
  have hmap : (A.σ.set i c').map Ch.key = A.σ.map Ch.key := by
    rw [List.map_set, hk]
    apply List.ext_getElem?
    intro j
    rw [List.getElem?_set]
    split
    · rename_i hij; subst hij; simp [hc, hi, hci]
    · rfl
  refine ⟨hos.trans h.os, htp.trans h.tape, hout.trans h.output, hsz.trans h.size, ?_, ?_, ?_, ?_⟩
  · intro d hd
    obtain ⟨j, hj⟩ := List.getElem?_of_mem hd
    by_cases hij : i = j
    · subst hij; rw [List.getElem?_set_self hi] at hj; cases hj; exact hh
    · rw [List.getElem?_set_ne hij] at hj
      refine h.stb d (List.mem_of_getElem? hj) w w' (fun b hbd => hb b (fun hcb => ?_)) (h.at hj)
      exact apart_of h.dis (i := i) (j := j) (by rw [List.getElem?_map, hc]; rfl) (by rw [List.getElem?_map, hj]; rfl) hij hrw b hcb hbd
  · intro d hd b hbd
    rcases List.mem_or_eq_of_mem_set hd with hd | rfl
    · exact h.bnd d hd b hbd
    · exact h.bnd c (List.mem_of_getElem? hc) b (by rw [← hF]; exact hbd)
  · intro d hd
    rcases List.mem_or_eq_of_mem_set hd with hd | rfl
    · exact h.stb d hd
    · exact hst
  · rw [hmap]; exact h.dis

theorem Sat.new {A : AW} {w : World} (h : Sat A w) (o : Obj) : Sat { A with n := A.n + 1, σ := A.σ ++ [.blk A.n o true] } { w with heap := w.heap.push o } := by
  have hget : ∀ b, b < A.n → (w.heap.push o)[b]? = w.heap[b]? := fun b hb => by
    rw [Array.getElem?_push, if_neg (by rw [h.size]; omega)]
  refine ⟨h.os, h.tape, h.output, by simp [h.size], ?_, ?_, ?_, ?_⟩
  · intro c hc
    rcases List.mem_append.1 hc with hc | hc
    · exact h.stb c hc w _ (fun b hb => hget b (h.bnd c hc b hb)) (h.all c hc)
    · simp only [List.mem_singleton] at hc; subst hc
      show (w.heap.push o)[A.n]? = some o
      rw [Array.getElem?_push, if_pos h.size.symm]
  · intro c hc b hb
    show b < A.n + 1
    rcases List.mem_append.1 hc with hc | hc
    · have := h.bnd c hc b hb; omega
    · simp only [List.mem_singleton] at hc; subst hc; cases hb; omega
  · intro c hc
    rcases List.mem_append.1 hc with hc | hc
    · exact h.stb c hc
    · simp only [List.mem_singleton] at hc; subst hc; exact Ch.stable_blk _ _ _
  · show ((A.σ ++ [Ch.blk A.n o true]).map Ch.key).Pairwise Key.apart
    rw [List.map_append, List.pairwise_append]
    refine ⟨h.dis, by simp, ?_⟩
    intro k hk k' hk' _ b hb hb'
    simp only [List.map_cons, List.map_nil, List.mem_singleton] at hk'
    subst hk'
    obtain ⟨c, hc, rfl⟩ := List.mem_map.1 hk
    have h1 := h.bnd c hc b hb
    have h2 : b = A.n := hb'
    omega

/-! ### The model's operations over what is known -/
/-- How one look into memory is justified: a block known whole (and evaluated); known whole, the value told; any piece, the value told. -/
inductive LC where
  | at (i : Nat)
  | atv (i : Nat) (v : Value)
  | via (i : Nat) (v : Value)
  | shp (i : Nat) (t n : Nat)

def Alls : List Prop → Prop
  | [] => True
  | p :: l => p ∧ Alls l
theorem alls_append {l m : List Prop} : Alls (l ++ m) ↔ Alls l ∧ Alls m := by
  induction l with
  | nil => simp [Alls]
  | cons p l ih => simp [Alls, ih, and_assoc]

def scalar : Value → Bool
  | .agg _ => false
  | .tuple _ => false
  | _ => true

abbrev Res (α : Type) := Option (List Prop × List LC × α × AW)
def Res.and {α : Type} (ps : List Prop) (r : Res α) : Res α := match r with
  | some (qs, x) => some (ps ++ qs, x)
  | none => none
theorem Res.and_some {α : Type} {ps vs : List Prop} {r : Res α} {x : List LC × α × AW} (h : Res.and ps r = some (vs, x)) : ∃ qs, r = some (qs, x) ∧ vs = ps ++ qs := by
  unfold Res.and at h
  split at h
  · rename_i qs y; simp at h; exact ⟨qs, by rw [h.2], h.1.symm⟩
  · cases h

/-- ro: nothing may be written or made. -/
def runA (P : Program) (ro : Bool) {α : Type} : Sem α → List LC → AW → Res α
  | .pure a, cs, A => some ([], cs, a, A)
  | .load _ a k, .at i :: cs, A => match A.σ[i]? with
    | some (.blk b (.cells c _ _) _) => match a.spot, c[a.off]? with
      | none, some v => (runA P ro (k v) cs A).and [a.block = b]
      | _, _ => none
    | _ => none
  | .load _ a k, .atv i v :: cs, A => match A.σ[i]? with
    | some (.blk b (.cells c _ _) _) => (runA P ro (k v) cs A).and [a.spot = none, a.block = b, c[a.off]? = some v]
    | _ => none
  | .load _ a k, .via i v :: cs, A => match A.σ[i]? with
    | some c => (runA P ro (k v) cs A).and [∀ w, c.holds w → w.cell? a = some v]
    | _ => none
  | .load _ _ _, _, _ => none
  | .store _ a v k, .at i :: cs, A => match A.σ[i]? with
    | some (.blk b (.cells c t (0, 0)) true) => match ro, scalar v, c[a.off]?, a.spot with
      | false, true, some _, none => (runA P ro k cs { A with σ := A.σ.set i (.blk b (.cells (c.setIfInBounds a.off v) t (0, 0)) true) }).and [a.block = b]
      | _, _, _, _ => none
    | _ => none
  | .store _ a v k, .atv i _ :: cs, A => match A.σ[i]? with
    | some (.blk b (.cells c t (0, 0)) true) => match ro, scalar v with
      | false, true => (runA P ro k cs { A with σ := A.σ.set i (.blk b (.cells (c.setIfInBounds a.off v) t (0, 0)) true) }).and [a.spot = none, a.block = b, a.off < c.size]
      | _, _ => none
    | _ => none
  | .store _ _ _ _, _, _ => none
  | .new o k, cs, A => match ro with
    | false => runA P ro (k A.n) cs { A with n := A.n + 1, σ := A.σ ++ [.blk A.n o true] }
    | true => none
  | .shape r k, .at i :: cs, A => match A.σ[i]? with
    | some (.blk b (.cells c t _) _) => (runA P ro (k (some (t, c.size))) cs A).and [r = b]
    | some (.blk b (.map _ _) _) => (runA P ro (k none) cs A).and [r = b]
    | _ => none
  | .shape r k, .shp i t n :: cs, A => match A.σ[i]? with
    | some c => (runA P ro (k (some (t, n))) cs A).and [∀ w, c.holds w → w.shape? r = some (t, n)]
    | _ => none
  | .shape _ _, _, _ => none
  | .freeze _ _ _, _, _ => none
  | .frozen a k, .at i :: cs, A => match A.σ[i]? with
    | some (.blk b (.cells _ _ (0, 0)) _) => (runA P ro (k false) cs A).and [a.block = b]
    | _ => none
  | .frozen _ _, _, _ => none
  | .getObj r k, .at i :: cs, A => match A.σ[i]? with
    | some (.blk b (.map es c) _) => (runA P ro (k (.map es c)) cs A).and [r = b]
    | _ => none
  | .getObj _ _, _, _ => none
  | .setObj r o k, .at i :: cs, A => match A.σ[i]? with
    | some (.blk b (.map _ _) true) => match ro with
      | false => (runA P ro k cs { A with σ := A.σ.set i (.blk b o true) }).and [r = b]
      | true => none
    | _ => none
  | .setObj _ _ _, _, _ => none
  | .choose _ _, _, _ => none
  | .sys _ _, _, _ => none
  | .program k, cs, A => runA P ro (k P) cs A
  | .mark _ k, cs, A => runA P ro k cs A
  | .halt _, _, _ => none

theorem heap_setCell' (w : World) (a : Addr) (v : Value) (b : Nat) (h : ¬ b = a.block) : (w.setCell a v).heap[b]? = w.heap[b]? := by
  simp only [World.setCell, Array.getElem?_modify]
  rw [if_neg (fun e => h e.symm)]
theorem heap_setCell_at (w : World) (a : Addr) (v : Value) (c : Array Value) (t : TypeId) (f : Nat × Nat) (hs : a.spot = none) (h : w.heap[a.block]? = some (.cells c t f)) :
    (w.setCell a v).heap[a.block]? = some (.cells (c.setIfInBounds a.off v) t f) := by
  simp only [World.setCell, Array.getElem?_modify, if_true, h, Option.map_some, hs, Option.isSome_none, Bool.false_eq_true, if_false]

theorem run_store {P : Program} {α : Type} {m : _root_.Go.Mode} {a : Addr} {v : Value} {k : Sem α} {w : World} (hs : scalar v = true) {x : Value} (hc : w.cell? a = some x) (hf : w.frozen? a = false) :
    (Sem.store m a v k).run P w = k.run P (w.setCell a v) := by
  cases v <;> first | (simp [scalar] at hs; done) | simp [Sem.run, hc, hf]

theorem runA_sound {P : Program} {ro : Bool} {α : Type} (s : Sem α) : ∀ (cs : List LC) (A : AW) (vs : List Prop) (cs' : List LC) (x : α) (A' : AW), runA P ro s cs A = some (vs, cs', x, A') → Alls vs → ∀ w, Sat A w → ∃ w', s.run P w = .ok x w' ∧ Sat A' w' ∧ A'.w0 = A.w0 := by
  induction s with
  | pure a =>
    intro cs A vs cs' x A' h hv w hw
    simp only [runA, Option.some.injEq, Prod.mk.injEq] at h
    obtain ⟨-, -, rfl, rfl⟩ := h
    exact ⟨w, rfl, hw, rfl⟩
  | load m a k ih =>
    intro cs A vs cs' x A' h hv w hw
    cases cs with
    | nil => simp [runA] at h
    | cons c cs =>
      cases c with
      | «at» i =>
        simp only [runA] at h
        split at h
        · rename_i b c t f r hi
          split at h
          · rename_i v h1 hc
            obtain ⟨qs, h', rfl⟩ := Res.and_some h
            rw [alls_append] at hv
            obtain ⟨⟨h2, -⟩, hv⟩ := hv
            have hb : w.heap[a.block]? = some (.cells c t f) := h2 ▸ hw.at hi
            have hcell : w.cell? a = some v := by simp [World.cell?, hb, h1, hc]
            obtain ⟨w', hr, hs⟩ := ih v cs A qs cs' x A' h' hv w hw
            exact ⟨w', by simp [Sem.run, hcell, hr], hs⟩
          · cases h
        · cases h
      | atv i v =>
        simp only [runA] at h
        split at h
        · rename_i b c t f r hi
          obtain ⟨qs, h', rfl⟩ := Res.and_some h
          rw [alls_append] at hv
          obtain ⟨⟨h1, h2, h3, -⟩, hv⟩ := hv
          have hb : w.heap[a.block]? = some (.cells c t f) := h2 ▸ hw.at hi
          have hcell : w.cell? a = some v := by simp [World.cell?, hb, h1, h3]
          obtain ⟨w', hr, hs⟩ := ih v cs A qs cs' x A' h' hv w hw
          exact ⟨w', by simp [Sem.run, hcell, hr], hs⟩
        · cases h
      | via i v =>
        simp only [runA] at h
        split at h
        · rename_i c hi
          obtain ⟨qs, h', rfl⟩ := Res.and_some h
          rw [alls_append] at hv
          obtain ⟨⟨h1, -⟩, hv⟩ := hv
          have hcell : w.cell? a = some v := h1 w (hw.at hi)
          obtain ⟨w', hr, hs⟩ := ih v cs A qs cs' x A' h' hv w hw
          exact ⟨w', by simp [Sem.run, hcell, hr], hs⟩
        · cases h
      | shp i t n => simp [runA] at h
  | store m a v k ih =>
    intro cs A vs cs' x A' h hv w hw
    cases cs with
    | nil => simp [runA] at h
    | cons c cs =>
      cases c with
      | «at» i =>
        simp only [runA] at h
        split at h
        · rename_i b c t hi
          split at h
          · rename_i y hsc hc h1
            obtain ⟨qs, h', rfl⟩ := Res.and_some h
            rw [alls_append] at hv
            obtain ⟨⟨h2, -⟩, hv⟩ := hv
            have hb : w.heap[a.block]? = some (.cells c t (0, 0)) := h2 ▸ hw.at hi
            have hcell : w.cell? a = some y := by simp [World.cell?, hb, h1, hc]
            have hfz : w.frozen? a = false := by simp [World.frozen?, hb]
            have hs' := hw.put (w' := w.setCell a v) hi rfl (c' := .blk b (.cells (c.setIfInBounds a.off v) t (0, 0)) true) rfl (Ch.stable_blk _ _ _) rfl rfl rfl (by simp [World.setCell]) (fun k hk => heap_setCell' w a v k (fun e => hk (e.trans h2))) (by subst h2; exact heap_setCell_at w a v c t _ h1 hb)
            obtain ⟨w', hr, hs⟩ := ih cs _ qs cs' x A' h' hv _ hs'
            exact ⟨w', by rw [run_store hsc hcell hfz]; exact hr, hs⟩
          · cases h
        · cases h
      | atv i _ =>
        simp only [runA] at h
        split at h
        · rename_i b c t hi
          split at h
          · rename_i _ hsc
            obtain ⟨qs, h', rfl⟩ := Res.and_some h
            rw [alls_append] at hv
            obtain ⟨⟨h1, h2, h3, -⟩, hv⟩ := hv
            have hb : w.heap[a.block]? = some (.cells c t (0, 0)) := h2 ▸ hw.at hi
            have hcell : w.cell? a = some c[a.off] := by simp [World.cell?, hb, h1, h3]
            have hfz : w.frozen? a = false := by simp [World.frozen?, hb]
            have hs' := hw.put (w' := w.setCell a v) hi rfl (c' := .blk b (.cells (c.setIfInBounds a.off v) t (0, 0)) true) rfl (Ch.stable_blk _ _ _) rfl rfl rfl (by simp [World.setCell]) (fun k hk => heap_setCell' w a v k (fun e => hk (e.trans h2))) (by subst h2; exact heap_setCell_at w a v c t _ h1 hb)
            obtain ⟨w', hr, hs⟩ := ih cs _ qs cs' x A' h' hv _ hs'
            exact ⟨w', by rw [run_store hsc hcell hfz]; exact hr, hs⟩
          · cases h
        · cases h
      | via i v => simp [runA] at h
      | shp i t n => simp [runA] at h
  | new o k ih =>
    intro cs A vs cs' x A' h hv w hw
    simp only [runA] at h
    split at h
    · obtain ⟨w', hr, hs⟩ := ih A.n cs _ vs cs' x A' h hv _ (hw.new o)
      exact ⟨w', by simp only [Sem.run, hw.size]; exact hr, hs⟩
    · cases h
  | shape r k ih =>
    intro cs A vs cs' x A' h hv w hw
    cases cs with
    | nil => simp [runA] at h
    | cons c cs =>
      cases c with
      | «at» i =>
        simp only [runA] at h
        split at h
        · rename_i b c t f rw hi
          obtain ⟨qs, h', rfl⟩ := Res.and_some h
          rw [alls_append] at hv
          obtain ⟨⟨h1, -⟩, hv⟩ := hv
          have hb : w.heap[r]? = some (.cells c t f) := h1 ▸ hw.at hi
          obtain ⟨w', hr, hs⟩ := ih _ cs A qs cs' x A' h' hv w hw
          exact ⟨w', by simp [Sem.run, World.shape?, hb, hr], hs⟩
        · rename_i b es c rw hi
          obtain ⟨qs, h', rfl⟩ := Res.and_some h
          rw [alls_append] at hv
          obtain ⟨⟨h1, -⟩, hv⟩ := hv
          have hb : w.heap[r]? = some (.map es c) := h1 ▸ hw.at hi
          obtain ⟨w', hr, hs⟩ := ih _ cs A qs cs' x A' h' hv w hw
          exact ⟨w', by simp [Sem.run, World.shape?, hb, hr], hs⟩
        · cases h
      | atv i v => simp [runA] at h
      | via i v => simp [runA] at h
      | shp i t n =>
        simp only [runA] at h
        split at h
        · rename_i c hi
          obtain ⟨qs, h', rfl⟩ := Res.and_some h
          rw [alls_append] at hv
          obtain ⟨⟨h1, -⟩, hv⟩ := hv
          obtain ⟨w', hr, hs⟩ := ih _ cs A qs cs' x A' h' hv w hw
          exact ⟨w', by simp [Sem.run, h1 w (hw.at hi), hr], hs⟩
        · cases h
  | freeze a n k ih => intro cs A vs cs' x A' h; simp [runA] at h
  | frozen a k ih =>
    intro cs A vs cs' x A' h hv w hw
    cases cs with
    | nil => simp [runA] at h
    | cons c cs =>
      cases c with
      | «at» i =>
        simp only [runA] at h
        split at h
        · rename_i b c t rw hi
          obtain ⟨qs, h', rfl⟩ := Res.and_some h
          rw [alls_append] at hv
          obtain ⟨⟨h1, -⟩, hv⟩ := hv
          have hb : w.heap[a.block]? = some (.cells c t (0, 0)) := h1 ▸ hw.at hi
          have hfz : w.frozen? a = false := by simp [World.frozen?, hb]
          obtain ⟨w', hr, hs⟩ := ih _ cs A qs cs' x A' h' hv w hw
          exact ⟨w', by simp [Sem.run, hfz, hr], hs⟩
        · cases h
      | atv i v => simp [runA] at h
      | via i v => simp [runA] at h
      | shp i t n => simp [runA] at h
  | getObj r k ih =>
    intro cs A vs cs' x A' h hv w hw
    cases cs with
    | nil => simp [runA] at h
    | cons c cs =>
      cases c with
      | «at» i =>
        simp only [runA] at h
        split at h
        · rename_i b es c rw hi
          obtain ⟨qs, h', rfl⟩ := Res.and_some h
          rw [alls_append] at hv
          obtain ⟨⟨h1, -⟩, hv⟩ := hv
          have hb : w.heap[r]? = some (.map es c) := h1 ▸ hw.at hi
          obtain ⟨w', hr, hs⟩ := ih _ cs A qs cs' x A' h' hv w hw
          exact ⟨w', by simp [Sem.run, hb, hr], hs⟩
        · cases h
      | atv i v => simp [runA] at h
      | via i v => simp [runA] at h
      | shp i t n => simp [runA] at h
  | setObj r o k ih =>
    intro cs A vs cs' x A' h hv w hw
    cases cs with
    | nil => simp [runA] at h
    | cons c cs =>
      cases c with
      | «at» i =>
        simp only [runA] at h
        split at h
        · rename_i b es c hi
          split at h
          case h_2 => cases h
          obtain ⟨qs, h', rfl⟩ := Res.and_some h
          rw [alls_append] at hv
          obtain ⟨⟨h1, -⟩, hv⟩ := hv
          have hb : w.heap[r]? = some (.map es c) := h1 ▸ hw.at hi
          have hlt : r < w.heap.size := (Array.getElem?_eq_some_iff.1 hb).1
          have hs' := hw.put (w' := { w with heap := w.heap.setIfInBounds r o }) hi rfl (c' := .blk b o true) rfl (Ch.stable_blk _ _ _) rfl rfl rfl (by simp) (fun k hk => by
            have hne : r ≠ k := fun e => hk (show k = b from e ▸ h1)
            simp [Array.getElem?_setIfInBounds_ne hne]) (by subst h1; simp [Ch.holds, hlt])
          obtain ⟨w', hr, hs⟩ := ih cs _ qs cs' x A' h' hv _ hs'
          exact ⟨w', by simp [Sem.run, hb]; exact hr, hs⟩
        · cases h
      | atv i v => simp [runA] at h
      | via i v => simp [runA] at h
      | shp i t n => simp [runA] at h
  | choose q k ih => intro cs A vs cs' x A' h; simp [runA] at h
  | sys c k ih => intro cs A vs cs' x A' h; simp [runA] at h
  | program k ih =>
    intro cs A vs cs' x A' h hv w hw
    simp only [runA] at h
    obtain ⟨w', hr, hs⟩ := ih P cs _ vs cs' x A' h hv _ hw
    exact ⟨w', by simp only [Sem.run]; exact hr, hs⟩
  | mark m k ih =>
    intro cs A vs cs' x A' h hv w hw
    simp only [runA] at h
    obtain ⟨w', hr, hs⟩ := ih cs _ vs cs' x A' h hv _ hw
    exact ⟨w', by simp only [Sem.run]; exact hr, hs⟩
  | halt h' => intro cs A vs cs' x A' h; simp [runA] at h

/-- The same, of what only reads: no more is asked of the world than what is known of the pieces. -/
theorem runR_sound {P : Program} {α : Type} (s : Sem α) : ∀ (cs : List LC) (A : AW) (vs : List Prop) (cs' : List LC) (x : α) (A' : AW), runA P true s cs A = some (vs, cs', x, A') → Alls vs → ∀ w : World, (∀ c ∈ A.σ, c.holds w) → s.run P w = .ok x w ∧ A' = A := by
  induction s with
  | pure a =>
    intro cs A vs cs' x A' h hv w hw
    simp only [runA, Option.some.injEq, Prod.mk.injEq] at h
    obtain ⟨-, -, rfl, rfl⟩ := h
    exact ⟨rfl, rfl⟩
  | load m a k ih =>
    intro cs A vs cs' x A' h hv w hw
    cases cs with
    | nil => simp [runA] at h
    | cons c cs =>
      cases c with
      | «at» i =>
        simp only [runA] at h
        split at h
        · rename_i b c t f r hi
          split at h
          · rename_i v h1 hc
            obtain ⟨qs, h', rfl⟩ := Res.and_some h
            rw [alls_append] at hv
            obtain ⟨⟨h2, -⟩, hv⟩ := hv
            have hb : w.heap[a.block]? = some (.cells c t f) := h2 ▸ hw _ (List.mem_of_getElem? hi)
            have hcell : w.cell? a = some v := by simp [World.cell?, hb, h1, hc]
            obtain ⟨hr, hs⟩ := ih v cs A qs cs' x A' h' hv w hw
            exact ⟨by simp [Sem.run, hcell, hr], hs⟩
          · cases h
        · cases h
      | atv i v =>
        simp only [runA] at h
        split at h
        · rename_i b c t f r hi
          obtain ⟨qs, h', rfl⟩ := Res.and_some h
          rw [alls_append] at hv
          obtain ⟨⟨h1, h2, h3, -⟩, hv⟩ := hv
          have hb : w.heap[a.block]? = some (.cells c t f) := h2 ▸ hw _ (List.mem_of_getElem? hi)
          have hcell : w.cell? a = some v := by simp [World.cell?, hb, h1, h3]
          obtain ⟨hr, hs⟩ := ih v cs A qs cs' x A' h' hv w hw
          exact ⟨by simp [Sem.run, hcell, hr], hs⟩
        · cases h
      | via i v =>
        simp only [runA] at h
        split at h
        · rename_i c hi
          obtain ⟨qs, h', rfl⟩ := Res.and_some h
          rw [alls_append] at hv
          obtain ⟨⟨h1, -⟩, hv⟩ := hv
          have hcell : w.cell? a = some v := h1 w (hw _ (List.mem_of_getElem? hi))
          obtain ⟨hr, hs⟩ := ih v cs A qs cs' x A' h' hv w hw
          exact ⟨by simp [Sem.run, hcell, hr], hs⟩
        · cases h
      | shp i t n => simp [runA] at h
  | store m a v k ih =>
    intro cs A vs cs' x A' h
    cases cs with
    | nil => simp [runA] at h
    | cons c cs => cases c <;> (simp only [runA] at h; repeat (split at h)) <;> simp_all
  | new o k ih => intro cs A vs cs' x A' h; simp [runA] at h
  | shape r k ih =>
    intro cs A vs cs' x A' h hv w hw
    cases cs with
    | nil => simp [runA] at h
    | cons c cs =>
      cases c with
      | «at» i =>
        simp only [runA] at h
        split at h
        · rename_i b c t f rw hi
          obtain ⟨qs, h', rfl⟩ := Res.and_some h
          rw [alls_append] at hv
          obtain ⟨⟨h1, -⟩, hv⟩ := hv
          have hb : w.heap[r]? = some (.cells c t f) := h1 ▸ hw _ (List.mem_of_getElem? hi)
          obtain ⟨hr, hs⟩ := ih _ cs A qs cs' x A' h' hv w hw
          exact ⟨by simp [Sem.run, World.shape?, hb, hr], hs⟩
        · rename_i b es c rw hi
          obtain ⟨qs, h', rfl⟩ := Res.and_some h
          rw [alls_append] at hv
          obtain ⟨⟨h1, -⟩, hv⟩ := hv
          have hb : w.heap[r]? = some (.map es c) := h1 ▸ hw _ (List.mem_of_getElem? hi)
          obtain ⟨hr, hs⟩ := ih _ cs A qs cs' x A' h' hv w hw
          exact ⟨by simp [Sem.run, World.shape?, hb, hr], hs⟩
        · cases h
      | atv i v => simp [runA] at h
      | via i v => simp [runA] at h
      | shp i t n =>
        simp only [runA] at h
        split at h
        · rename_i c hi
          obtain ⟨qs, h', rfl⟩ := Res.and_some h
          rw [alls_append] at hv
          obtain ⟨⟨h1, -⟩, hv⟩ := hv
          obtain ⟨hr, hs⟩ := ih _ cs A qs cs' x A' h' hv w hw
          exact ⟨by simp [Sem.run, h1 w (hw _ (List.mem_of_getElem? hi)), hr], hs⟩
        · cases h
  | freeze a n k ih => intro cs A vs cs' x A' h; simp [runA] at h
  | frozen a k ih =>
    intro cs A vs cs' x A' h hv w hw
    cases cs with
    | nil => simp [runA] at h
    | cons c cs =>
      cases c with
      | «at» i =>
        simp only [runA] at h
        split at h
        · rename_i b c t rw hi
          obtain ⟨qs, h', rfl⟩ := Res.and_some h
          rw [alls_append] at hv
          obtain ⟨⟨h1, -⟩, hv⟩ := hv
          have hb : w.heap[a.block]? = some (.cells c t (0, 0)) := h1 ▸ hw _ (List.mem_of_getElem? hi)
          have hfz : w.frozen? a = false := by simp [World.frozen?, hb]
          obtain ⟨hr, hs⟩ := ih _ cs A qs cs' x A' h' hv w hw
          exact ⟨by simp [Sem.run, hfz, hr], hs⟩
        · cases h
      | atv i v => simp [runA] at h
      | via i v => simp [runA] at h
      | shp i t n => simp [runA] at h
  | getObj r k ih =>
    intro cs A vs cs' x A' h hv w hw
    cases cs with
    | nil => simp [runA] at h
    | cons c cs =>
      cases c with
      | «at» i =>
        simp only [runA] at h
        split at h
        · rename_i b es c rw hi
          obtain ⟨qs, h', rfl⟩ := Res.and_some h
          rw [alls_append] at hv
          obtain ⟨⟨h1, -⟩, hv⟩ := hv
          have hb : w.heap[r]? = some (.map es c) := h1 ▸ hw _ (List.mem_of_getElem? hi)
          obtain ⟨hr, hs⟩ := ih _ cs A qs cs' x A' h' hv w hw
          exact ⟨by simp [Sem.run, hb, hr], hs⟩
        · cases h
      | atv i v => simp [runA] at h
      | via i v => simp [runA] at h
      | shp i t n => simp [runA] at h
  | setObj r o k ih =>
    intro cs A vs cs' x A' h
    cases cs with
    | nil => simp [runA] at h
    | cons c cs => cases c <;> (simp only [runA] at h; repeat (split at h)) <;> simp_all
  | choose q k ih => intro cs A vs cs' x A' h; simp [runA] at h
  | sys c k ih => intro cs A vs cs' x A' h; simp [runA] at h
  | program k ih =>
    intro cs A vs cs' x A' h hv w hw
    simp only [runA] at h
    obtain ⟨hr, hs⟩ := ih P cs _ vs cs' x A' h hv _ hw
    exact ⟨by simp only [Sem.run]; exact hr, hs⟩
  | mark m k ih =>
    intro cs A vs cs' x A' h hv w hw
    simp only [runA] at h
    obtain ⟨hr, hs⟩ := ih cs _ vs cs' x A' h hv _ hw
    exact ⟨by simp only [Sem.run]; exact hr, hs⟩
  | halt h' => intro cs A vs cs' x A' h; simp [runA] at h
end Go.Proofs.YtnjhekfgmbpmlaaDoor.Eng
