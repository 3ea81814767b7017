/- The engine, the long steps: many operations of many regions, and the tests between them, at one stroke. No conditions. -/
import Derived.Test.YtnjhekfgmbpmlaaDoorEngC
namespace Go.Proofs.YtnjhekfgmbpmlaaDoor.Eng
open Go
set_option linter.unusedSimpArgs false
set_option linter.unusedVariables false
abbrev pt (b : Nat) : Value := .pointer (some ⟨b, 0, none⟩)
abbrev i6 (n : Int) : Value := .int .i64 n
abbrev bk (b : Nat) (cs : Array Value) (t : TypeId) : Ch := .blk b (.cells cs t (0, 0)) true
abbrev a1 (i : Nat) : OC := ⟨.auto [.at i], none⟩
abbrev an (n i : Nat) : OC := ⟨.auto (List.replicate n (.at i)), none⟩
/-- Where a proof stands: at code; at an exit; within a region. -/
inductive Pos where
  | code (c : Code)
  | out (e : Exit)
  | reg (os : Array Oper) (l : List Oper)
/-- What is run on the way: operations; a test (decided by the value itself, or by a condition). -/
inductive Seg where
  | ops (os : Array Oper) (l : List Oper)
  | cnd (x : Operand) (b lit : Bool)
abbrev Stp := Option (List Seg × Pos × List Kt × List Nat)
/-- One step: what is run, where it leads. Tests: 0 and 1 by value, 2 and 3 by a condition. -/
def step1 : Pos → List Kt → List Nat → Stp
  | .code c, s, bs => match c with
    | .seq x y => some ([], .code x, .seq y :: s, bs)
    | .skip => some ([], .out .normal, s, bs)
    | .label _ => some ([], .out .normal, s, bs)
    | .block id c => some ([], .code c, .blk id :: s, bs)
    | .region _ os false => some ([], .reg os os.toList, s, bs)
    | .exit id => some ([], .out (.exit id), s, bs)
    | .ret => some ([], .out .ret, s, bs)
    | .cond x c d => match bs with
      | 0 :: bs => some ([.cnd x false true], .code d, s, bs)
      | 1 :: bs => some ([.cnd x true true], .code c, s, bs)
      | 2 :: bs => some ([.cnd x false false], .code d, s, bs)
      | 3 :: bs => some ([.cnd x true false], .code c, s, bs)
      | _ => none
    | _ => none
  | .reg os l, s, bs => some ([.ops os l], .out .normal, s, bs)
  | .out .normal, .seq c :: s, bs => some ([], .code c, s, bs)
  | .out .normal, .blk _ :: s, bs => some ([], .out .normal, s, bs)
  | .out (.exit id), .seq _ :: s, bs => some ([], .out (.exit id), s, bs)
  | .out (.exit id), .inv _ :: s, bs => some ([], .out (.exit id), s, bs)
  | .out (.exit id), .blk id' :: s, bs => match Nat.beq id id' with
    | true => some ([], .out .normal, s, bs)
    | false => some ([], .out (.exit id), s, bs)
  | _, _, _ => none
/-- n steps, then so many operations of the region in which they end. -/
def path : Nat → Nat → List Nat → Pos → List Kt → Option (List Seg × Pos × List Kt)
  | 0, last, _, p, s => match last with
    | 0 => some ([], p, s)
    | k + 1 => match p with
      | .reg os l => some ([.ops os (l.take (k + 1))], .reg os (l.drop (k + 1)), s)
      | _ => none
  | n + 1, last, bs, p, s => match step1 p s bs with
    | some (sg, p', s', bs') => match path n last bs' p' s' with
      | some (sgs, r) => some (sg ++ sgs, r)
      | none => none
    | none => none
def runSegs (P : Program) (N : Nat) : List Seg → List (List OC) → Env → AW → LRes
  | [], [], env, A => some ([], env, A)
  | .ops os l :: r, cs :: css, env, A => match listA P N os l.length cs l env A with
    | some (vs, env', A') => (runSegs P N r css env' A').and vs
    | none => none
  | .cnd x b lit :: r, css, env, A => match known env x with
    | true => match lit with
      | false => (runSegs P N r css env A).and [evalE env x = .bool b]
      | true => match evalE env x, b with
        | .bool true, true => runSegs P N r css env A
        | .bool false, false => runSegs P N r css env A
        | _, _ => none
    | false => none
  | _, _, _, _ => none
section
variable {P : Program} {N : Nat} {ds : List Deferred} {Q : Exit → Act → World → Prop}
abbrev Gl (P : Program) (N : Nat) (env : Env) (ds : List Deferred) (A : AW) (p : Pos) (s : List Kt) (Q : Exit → Act → World → Prop) : Prop := match p with
  | .code c => G P N env ds A c s Q
  | .out e => E P N env ds A e s Q
  | .reg os l => Lg P N env ds A os l s Q
/-- A step is sound: what its segments ask is asked. -/
theorem step1_sound {p p' : Pos} {s s' : List Kt} {bs bs' : List Nat} {sg : List Seg} (h : step1 p s bs = some (sg, p', s', bs')) :
    ∀ (css css' : List (List OC)) (env env' : Env) (A A' : AW) (vs : List Prop) (r : List Seg), runSegs P N (sg ++ r) css env A = some (vs, env', A') → Alls vs →
      (∀ (css2 : List (List OC)) (env2 : Env) (A2 : AW) (vs2 : List Prop), runSegs P N r css2 env2 A2 = some (vs2, env', A') → Alls vs2 → Gl P N env2 ds A2 p' s' Q) → Gl P N env ds A p s Q := by
  intro css css' env env' A A' vs r hr hv K
  unfold step1 at h
  split at h
  · rename_i c s0 bs0
    split at h
    · cases h; exact g_seq (K _ _ _ _ hr hv)
    · cases h; exact g_skip (K _ _ _ _ hr hv)
    · cases h; exact g_label (K _ _ _ _ hr hv)
    · cases h; exact g_block (K _ _ _ _ hr hv)
    · cases h; exact g_region (K _ _ _ _ hr hv)
    · cases h; exact g_exit (K _ _ _ _ hr hv)
    · cases h; exact g_ret (K _ _ _ _ hr hv)
    · have key : ∀ (x : Operand) (b lit : Bool), runSegs P N ([.cnd x b lit] ++ r) css env A = some (vs, env', A') → known env x = true ∧ evalE env x = .bool b ∧ ∃ vs2, runSegs P N r css env A = some (vs2, env', A') ∧ Alls vs2 := by
        intro x b lit hr
        simp only [List.cons_append, List.nil_append, runSegs] at hr
        split at hr
        · rename_i hk
          split at hr
          · obtain ⟨qs, h1, rfl⟩ := LRes.and_some hr
            rw [alls_append] at hv
            exact ⟨hk, hv.1.1, qs, h1, hv.2⟩
          · split at hr
            · rename_i he; exact ⟨hk, he, vs, hr, hv⟩
            · rename_i he; exact ⟨hk, he, vs, hr, hv⟩
            · cases hr
        · cases hr
      split at h
      · cases h
        obtain ⟨h1, h2, vs2, h3, h4⟩ := key _ _ _ hr
        exact g_false (K _ _ _ _ h3 h4) h2 h1
      · cases h
        obtain ⟨h1, h2, vs2, h3, h4⟩ := key _ _ _ hr
        exact g_true (K _ _ _ _ h3 h4) h2 h1
      · cases h
        obtain ⟨h1, h2, vs2, h3, h4⟩ := key _ _ _ hr
        exact g_false (K _ _ _ _ h3 h4) h2 h1
      · cases h
        obtain ⟨h1, h2, vs2, h3, h4⟩ := key _ _ _ hr
        exact g_true (K _ _ _ _ h3 h4) h2 h1
      · cases h
    · cases h
  · rename_i os l
    cases h
    cases css with
    | nil => simp [runSegs] at hr
    | cons cs css =>
      simp only [List.cons_append, List.nil_append, runSegs] at hr
      split at hr
      · rename_i vs1 e1 A1 h1
        obtain ⟨qs, h2, rfl⟩ := LRes.and_some hr
        rw [alls_append] at hv
        refine listA_sound l.length cs l env A vs1 e1 A1 h1 hv.1 (fun _ a w hs => ?_)
        rw [List.drop_length]
        exact K _ _ _ _ h2 hv.2 a w hs
      · cases hr
  · cases h; exact e_seq (K _ _ _ _ hr hv)
  · cases h; exact e_blk (K _ _ _ _ hr hv)
  · cases h; exact e_out (K _ _ _ _ hr hv)
  · cases h; exact e_outI (K _ _ _ _ hr hv)
  · split at h
    · rename_i hb
      cases h
      have := Nat.eq_of_beq_eq_true hb
      subst this
      exact e_hit (K _ _ _ _ hr hv)
    · rename_i hb
      cases h
      exact e_miss hb (K _ _ _ _ hr hv)
  · cases h
theorem path_sound : ∀ (n last : Nat) (bs : List Nat) (p p' : Pos) (s s' : List Kt) (sgs : List Seg), path n last bs p s = some (sgs, p', s') →
    ∀ (css : List (List OC)) (env env' : Env) (A A' : AW) (vs : List Prop), runSegs P N sgs css env A = some (vs, env', A') → Alls vs → Gl P N env' ds A' p' s' Q → Gl P N env ds A p s Q := by
  intro n
  induction n with
  | zero =>
    intro last bs p p' s s' sgs h css env env' A A' vs hr hv K
    unfold path at h
    split at h
    · cases h
      cases css with
      | nil => simp only [runSegs, Option.some.injEq, Prod.mk.injEq] at hr; obtain ⟨-, rfl, rfl⟩ := hr; exact K
      | cons c cs => simp [runSegs] at hr
    · rename_i k
      split at h
      · rename_i os l
        cases h
        cases css with
        | nil => simp [runSegs] at hr
        | cons cs css =>
          simp only [runSegs] at hr
          split at hr
          · rename_i vs1 e1 A1 h1
            obtain ⟨qs, h2, rfl⟩ := LRes.and_some hr
            rw [alls_append] at hv
            cases css with
            | nil =>
              simp only [runSegs, Option.some.injEq, Prod.mk.injEq] at h2
              obtain ⟨-, rfl, rfl⟩ := h2
              have hlen : (l.take (k + 1)).length = min (k + 1) l.length := List.length_take
              by_cases hkl : k + 1 ≤ l.length
              · have h3 := listA_take (P := P) (N := N) (ops := os) (k + 1) cs l env A hkl
                rw [hlen, Nat.min_eq_left hkl, h3] at h1
                exact listA_sound (k + 1) cs l env A vs1 _ _ h1 hv.1 (fun _ => K)
              · have ht : l.take (k + 1) = l := List.take_of_length_le (by omega)
                have hd : l.drop (k + 1) = l.drop l.length := by rw [List.drop_of_length_le (by omega), List.drop_length]
                rw [ht] at h1
                refine listA_sound l.length cs l env A vs1 _ _ h1 hv.1 (fun _ => ?_)
                rw [← hd]; exact K
            | cons c cs => simp [runSegs] at h2
          · cases hr
      · cases h
  | succ n ih =>
    intro last bs p p' s s' sgs h css env env' A A' vs hr hv K
    unfold path at h
    split at h
    · rename_i sg p1 s1 bs1 h1
      split at h
      · rename_i sgs2 r h2
        cases h
        exact step1_sound h1 css css env env' A A' vs sgs2 hr hv (fun css2 env2 A2 vs2 hr2 hv2 => ih last bs1 p1 p' s1 s' sgs2 h2 css2 env2 env' A2 A' vs2 hr2 hv2 K)
      · cases h
    · cases h
where
  listA_take : ∀ {P : Program} {N : Nat} {ops : Array Oper} (m : Nat) (cs : List OC) (l : List Oper) (env : Env) (A : AW), m ≤ l.length → listA P N ops m cs (l.take m) env A = listA P N ops m cs l env A
    | P, N, ops, 0, cs, l, env, A, _ => by cases cs <;> simp [listA]
    | P, N, ops, m + 1, cs, [], env, A, h => by simp at h
    | P, N, ops, m + 1, cs, o :: l, env, A, h => by
      have h' : m ≤ l.length := by simpa using h
      rw [List.take_succ_cons]
      simp only [listA]
      have ih := fun cs env A => listA_take (P := P) (N := N) (ops := ops) m cs l env A h'
      simp only [ih]
def runQ (P : Program) (N : Nat) (sgs : List Seg) (css : List (List OC)) (keep : List Nat) (env : Env) (A : AW) : LRes := match runSegs P N sgs css env A with
  | some (vs, e, A') => some (vs, keepE keep e, A')
  | none => none
theorem gl_keep {env env' : Env} {A : AW} {p : Pos} {s : List Kt} {keep : List Nat} (h : keepE keep env = env') (K : Gl P N env' ds A p s Q) : Gl P N env ds A p s Q := by
  cases p <;> exact fun a w hs => K a w (hs.sub (fun t v ht => look_keep (by rw [h]; exact ht)))
abbrev keysE (env : Env) : List Nat := env.map (·.1)
theorem q_any {p p' : Pos} {s s' : List Kt} {sgs : List Seg} {env : Env} {A : AW} (n last : Nat) (bs : List Nat) (css : List (List OC)) (keep : List Nat) (vs : List Prop) (env' : Env) (A' : AW) (hp : path n last bs p s = some (sgs, p', s')) (hv : Alls vs) (K : Gl P N env' ds A' p' s' Q) (h : runQ P N sgs css keep env A = some (vs, env', A')) : Gl P N env ds A p s Q := by
  unfold runQ at h
  split at h
  · rename_i vs' e A1 h1
    simp only [Option.some.injEq, Prod.mk.injEq] at h
    obtain ⟨rfl, rfl, rfl⟩ := h
    exact path_sound n last bs p p' s s' sgs hp css env e A _ _ h1 hv (gl_keep rfl K)
  · cases h
variable {env : Env} {A : AW} {p' : Pos} {s s' : List Kt} {sgs : List Seg}
theorem q_c {c : Code} (n last : Nat) (bs : List Nat) (css : List (List OC)) (vs : List Prop) (env' : Env) (A' : AW) (hp : path n last bs (.code c) s = some (sgs, p', s')) (hv : Alls vs) (K : Gl P N env' ds A' p' s' Q) (h : runQ P N sgs css (keysE env') env A = some (vs, env', A') := by as_aux_lemma => kernel_rfl) : G P N env ds A c s Q := q_any (p := .code c) n last bs css _ vs env' A' hp hv K h
theorem q_cS {c : Code} (n last : Nat) (bs : List Nat) (css : List (List OC)) (vs : List Prop) (env' : Env) (hp : path n last bs (.code c) s = some (sgs, p', s')) (hv : Alls vs) (K : Gl P N env' ds A p' s' Q) (h : runQ P N sgs css (keysE env') env A = some (vs, env', A) := by as_aux_lemma => kernel_rfl) : G P N env ds A c s Q := q_any (p := .code c) n last bs css _ vs env' A hp hv K h
theorem q_o {e : Exit} (n last : Nat) (bs : List Nat) (css : List (List OC)) (vs : List Prop) (env' : Env) (A' : AW) (hp : path n last bs (.out e) s = some (sgs, p', s')) (hv : Alls vs) (K : Gl P N env' ds A' p' s' Q) (h : runQ P N sgs css (keysE env') env A = some (vs, env', A') := by as_aux_lemma => kernel_rfl) : E P N env ds A e s Q := q_any (p := .out e) n last bs css _ vs env' A' hp hv K h
theorem q_oS {e : Exit} (n last : Nat) (bs : List Nat) (css : List (List OC)) (vs : List Prop) (env' : Env) (hp : path n last bs (.out e) s = some (sgs, p', s')) (hv : Alls vs) (K : Gl P N env' ds A p' s' Q) (h : runQ P N sgs css (keysE env') env A = some (vs, env', A) := by as_aux_lemma => kernel_rfl) : E P N env ds A e s Q := q_any (p := .out e) n last bs css _ vs env' A hp hv K h
theorem q_r {os : Array Oper} {l : List Oper} (n last : Nat) (bs : List Nat) (css : List (List OC)) (vs : List Prop) (env' : Env) (A' : AW) (hp : path n last bs (.reg os l) s = some (sgs, p', s')) (hv : Alls vs) (K : Gl P N env' ds A' p' s' Q) (h : runQ P N sgs css (keysE env') env A = some (vs, env', A') := by as_aux_lemma => kernel_rfl) : Lg P N env ds A os l s Q := q_any (p := .reg os l) n last bs css _ vs env' A' hp hv K h
theorem q_rS {os : Array Oper} {l : List Oper} (n last : Nat) (bs : List Nat) (css : List (List OC)) (vs : List Prop) (env' : Env) (hp : path n last bs (.reg os l) s = some (sgs, p', s')) (hv : Alls vs) (K : Gl P N env' ds A p' s' Q) (h : runQ P N sgs css (keysE env') env A = some (vs, env', A) := by as_aux_lemma => kernel_rfl) : Lg P N env ds A os l s Q := q_any (p := .reg os l) n last bs css _ vs env' A hp hv K h
end
end Go.Proofs.YtnjhekfgmbpmlaaDoor.Eng
