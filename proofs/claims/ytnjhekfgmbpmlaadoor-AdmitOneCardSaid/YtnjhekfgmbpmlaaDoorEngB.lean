/- The engine, second part: what is known of a frame's slots; operations, lists of operations, code. No conditions. -/
import Derived.ChangeKeysEq
import Derived.Test.YtnjhekfgmbpmlaaDoorEngA
import Derived.Laws.StructEq
namespace Go.Proofs.YtnjhekfgmbpmlaaDoor.Eng
open Go
set_option linter.unusedSimpArgs false
set_option linter.unusedVariables false

abbrev Env := List (Nat × Value)
def look : Env → Nat → Option Value
  | [], _ => none
  | (k, v) :: r, t => bif Nat.beq k t then some v else look r t
def delE : Env → Nat → Env
  | [], _ => []
  | (k, v) :: r, t => bif Nat.beq k t then delE r t else (k, v) :: delE r t
def putE (env : Env) (d : Option Nat) (v : Value) : Env := match d with
  | none => env
  | some t => (t, v) :: delE env t
def dropE (env : Env) (d : Option Nat) : Env := match d with
  | none => env
  | some t => delE env t
def keepE : List Nat → Env → Env
  | [], _ => []
  | t :: ts, env => match look env t with
    | some v => (t, v) :: keepE ts env
    | none => keepE ts env

theorem look_del {env : Env} {t u : Nat} {v : Value} (h : look (delE env t) u = some v) : u ≠ t ∧ look env u = some v := by
  induction env with
  | nil => simp [delE, look] at h
  | cons p r ih =>
    obtain ⟨k, x⟩ := p
    simp only [delE] at h
    cases hk : Nat.beq k t with
    | true =>
      simp only [hk, cond_true] at h
      obtain ⟨h1, h2⟩ := ih h
      have hkt : k = t := Nat.eq_of_beq_eq_true hk
      refine ⟨h1, ?_⟩
      simp only [look]
      have : Nat.beq k u = false := by
        cases hb : Nat.beq k u with
        | false => rfl
        | true => exact absurd ((Nat.eq_of_beq_eq_true hb).symm.trans hkt) h1
      rw [this]; exact h2
    | false =>
      simp only [hk, cond_false, look] at h
      simp only [look]
      cases hb : Nat.beq k u with
      | true =>
        rw [hb] at h
        refine ⟨fun e => ?_, h⟩
        have h1 := Nat.eq_of_beq_eq_true hb
        rw [h1, e] at hk
        rw [Nat.beq_refl] at hk; cases hk
      | false => rw [hb] at h; exact ih h

theorem look_keep {ts : List Nat} {env : Env} {u : Nat} {v : Value} (h : look (keepE ts env) u = some v) : look env u = some v := by
  induction ts with
  | nil => simp [keepE, look] at h
  | cons t ts ih =>
    simp only [keepE] at h
    split at h
    · rename_i x hx
      simp only [look] at h
      cases hb : Nat.beq t u with
      | true => rw [hb] at h; have := Nat.eq_of_beq_eq_true hb; subst this; simp at h; rw [hx, h]
      | false => rw [hb] at h; exact ih h
    · exact ih h

structure St (N : Nat) (env : Env) (ds : List Deferred) (A : AW) (a : Act) (w : World) : Prop where
  sz : a.tmps.size = N
  df : a.defers = ds
  kn : ∀ t v, look env t = some v → a.tmps.getD t undef = v
  mem : Sat A w

def known (env : Env) : Operand → Bool
  | .tmp t => (look env t).isSome
  | _ => true
def evalE (env : Env) : Operand → Value
  | .tmp t => (look env t).getD undef
  | .const v => v
  | .global g => .pointer (some ⟨g, 0, none⟩)
  | .func f => .func (.func f) #[] #[]

theorem St.eval {N : Nat} {env : Env} {ds : List Deferred} {A : AW} {a : Act} {w : World} (h : St N env ds A a w) {x : Operand} (hx : known env x = true) : a.eval x = evalE env x := by
  cases x with
  | tmp t =>
    simp only [known, Option.isSome_iff_exists] at hx
    obtain ⟨v, hv⟩ := hx
    simp only [Act.eval, evalE, hv, Option.getD_some]
    exact h.kn t v hv
  | _ => rfl

theorem getD_set (a : Array Value) (d t : Nat) (v : Value) : (a.setIfInBounds d v).getD t undef = if d = t ∧ d < a.size then v else a.getD t undef := by
  simp only [Array.getD_eq_getD_getElem?, Array.getElem?_setIfInBounds]
  by_cases h : d = t
  · subst h
    by_cases h2 : d < a.size
    · simp [h2]
    · simp [h2, Array.getElem?_eq_none (Nat.not_lt.1 h2)]
  · simp [h]

/-- Is the slot there? -/
def inN (N : Nat) : Option Nat → Bool
  | none => true
  | some d => Nat.blt d N

theorem St.put {N : Nat} {env : Env} {ds : List Deferred} {A A' : AW} {a : Act} {w w' : World} (h : St N env ds A a w) (hs : Sat A' w') (d : Option Nat) (hd : inN N d = true) (v : Value) : St N (putE env d v) ds A' (a.put d v) w' := by
  cases d with
  | none => exact ⟨h.sz, h.df, h.kn, hs⟩
  | some d =>
    have hlt : d < N := by simpa [inN] using hd
    refine ⟨by simp [Act.put, h.sz], h.df, fun t x hx => ?_, hs⟩
    simp only [Act.put, getD_set, h.sz]
    simp only [putE, look] at hx
    cases hb : Nat.beq d t with
    | true =>
      rw [hb] at hx
      simp only [cond_true, Option.some.injEq] at hx
      rw [if_pos ⟨Nat.eq_of_beq_eq_true hb, hlt⟩]; exact hx
    | false =>
      rw [hb] at hx
      simp only [cond_false] at hx
      have := look_del hx
      rw [if_neg (fun e => this.1 e.1.symm)]
      exact h.kn t x this.2
theorem St.drop {N : Nat} {env : Env} {ds : List Deferred} {A : AW} {a : Act} {w : World} (h : St N env ds A a w) (d : Option Nat) (v : Value) : St N (dropE env d) ds A (a.put d v) w := by
  cases d with
  | none => exact h
  | some d =>
    refine ⟨by simp [Act.put, h.sz], h.df, fun t x hx => ?_, h.mem⟩
    simp only [Act.put, getD_set, h.sz]
    have := look_del hx
    rw [if_neg (fun e => this.1 e.1.symm)]
    exact h.kn t x this.2
theorem St.sub {N : Nat} {env env' : Env} {ds : List Deferred} {A : AW} {a : Act} {w : World} (h : St N env ds A a w) (he : ∀ t v, look env' t = some v → look env t = some v) : St N env' ds A a w :=
  ⟨h.sz, h.df, fun t v ht => h.kn t v (he t v ht), h.mem⟩

def noSel : Op → Bool
  | .select _ _ => false
  | _ => true
theorem execOp_congr {ρ ρ' : Operand → Value} {o : Oper} (hs : noSel o.op = true) (h : ∀ x ∈ o.op.operands, ρ x = ρ' x) : execOp ρ o = execOp ρ' o := by
  have hcall : ∀ (c : Call) (t : TypeId), (∀ x ∈ c.operands, ρ x = ρ' x) → resolve ρ c t = resolve ρ' c t := by
    intro c t hc
    have hargs : c.args.map ρ = c.args.map ρ' := by
      apply Array.map_congr_left
      intro x hx
      exact hc x (by simp [Call.operands, hx])
    unfold resolve
    rw [hargs]
    cases hcal : c.callee with
    | value f => simp only [hc f (by simp [Call.operands, hcal])]
    | invoke r m => simp only [hc r (by simp [Call.operands, hcal])]
    | builtin b => rfl
  have hparts : ∀ (parts : Array (Nat × Operand)), (∀ x ∈ (parts.toList.map (·.2)).toArray, ρ x = ρ' x) → parts.map (fun (i, x) => (i, ρ x)) = parts.map (fun (i, x) => (i, ρ' x)) := by
    intro parts hp
    apply Array.map_congr_left
    rintro ⟨i, x⟩ hx
    have := hp x (by simp; exact ⟨i, hx⟩)
    simp [this]
  have hopt : ∀ (r : Option Operand), (∀ x ∈ r.toArray, ρ x = ρ' x) → r.map ρ = r.map ρ' := by
    intro r hr
    cases r with
    | none => rfl
    | some x => simp [hr x (by simp)]
  have harr : ∀ (r : Array Operand), (∀ x ∈ r, ρ x = ρ' x) → r.map ρ = r.map ρ' := fun r hr => Array.map_congr_left hr
  unfold execOp
  cases hop : o.op <;> simp only [hop, Op.operands] at h <;> simp only []
  case move x => rw [h x (by simp)]
  case assign x => rw [h x (by simp)]
  case pick c a b => rw [h c (by simp), h a (by simp), h b (by simp)]
  case box e x => rw [h x (by simp)]
  case build t ps => rw [hparts ps h]
  case buildSlice t l ps => rw [hparts ps h]
  case insert t m k v => rw [h m (by simp), h k (by simp), h v (by simp)]
  case load t a => rw [h a (by simp)]
  case store t a v => rw [h a (by simp), h v (by simp)]
  case nilCheck x => rw [h x (by simp)]
  case binOp op t x y u =>
    rw [h x (by simp), h y (by simp)]
  case unOp op t x => rw [h x (by simp)]
  case convert s d x => rw [h x (by simp)]
  case sliceToArrayPointer d x => rw [h x (by simp)]
  case makeInterface t x => rw [h x (by simp)]
  case makeFunc f a b => rw [harr a (fun x hx => h x (by simp [hx])), harr b (fun x hx => h x (by simp [hx]))]
  case makeMap t r => rw [hopt r h]
  case makeChan t s => rw [h s (by simp)]
  case makeSlice t l c => rw [h l (by simp), h c (by simp)]
  case slice t x lo hi mx => rw [h x (by simp), hopt lo (fun x hx => h x (by simp at hx; simp [hx])), hopt hi (fun x hx => h x (by simp at hx; simp [hx])), hopt mx (fun x hx => h x (by simp at hx; simp [hx]))]
  case fieldAddr t x f => rw [h x (by simp)]
  case field t x f => rw [h x (by simp)]
  case indexAddr t x i => rw [h x (by simp), h i (by simp)]
  case index t x i => rw [h x (by simp), h i (by simp)]
  case lookup t x i c => rw [h x (by simp), h i (by simp)]
  case mapUpdate t m k v => rw [h m (by simp), h k (by simp), h v (by simp)]
  case mapEntry t m k => rw [h m (by simp), h k (by simp)]
  case entryStore t m k v => rw [h m (by simp), h k (by simp), h v (by simp)]
  case range t x => rw [h x (by simp)]
  case next i s => rw [h i (by simp)]
  case entry i => rw [h i (by simp)]
  case typeAssert x a b c => rw [h x (by simp)]
  case extract t i => rw [h t (by simp)]
  case call c => rw [hcall c o.type h]
  case go c => rw [hcall c o.type h]
  case defer c => rw [hcall c o.type h]
  case panic x => rw [h x (by simp)]
  case send c x => rw [h c (by simp), h x (by simp)]
  case recv t c k => simp only [h c (by simp)]
  case select cs b => rw [hop] at hs; cases hs

/-! ### One operation -/
/-- How one operation is justified: as the model runs it; an element's address, the index told; an element of an array by value; a string's byte; a piece of a slice. -/
inductive OK where
  | auto (cs : List LC)
  | idx (j : Nat)
  | aidx (j : Nat) (v : Value)
  | sidx (c : UInt8)
  | slc (l h : Nat) (moved : Bool)
  | row (i : Nat) (arr : Array Value)
  | seq (b : Bool)
  | aeq (b : Bool)

structure OC where
  k : OK
  as : Option Value := none

abbrev ORes := Option (List Prop × Value × AW)

/-- Cells side by side. -/
def RowAt (w : World) (b k : Nat) (arr : Array Value) : Prop := ∀ i v, arr[i]? = some v → w.cell? ⟨b, k + i, none⟩ = some v
def RowOf (c : Ch) (b k : Nat) (arr : Array Value) : Prop := ∀ w, c.holds w → RowAt w b k arr

def offs (n j : Nat) : Nat := bif Nat.beq n 1 then j else j * n
theorem offs_eq (n j : Nat) : offs n j = j * n := by
  unfold offs
  cases h : Nat.beq n 1 with
  | true => have := Nat.eq_of_beq_eq_true h; subst this; simp
  | false => rfl

def optInt : Option Value → Nat → Option Int
  | none, d => some d
  | some (.int _ i), _ => some i
  | some _, _ => none

/-- '==' of two structs of numbers, Booleans, strings and structs, field by field. -/
def eqFw (P : Program) (sub : TypeId → Array Value → Array Value → Option Bool) (xs ys : Array Value) : List Field → Option Bool
  | [] => some true
  | f :: fs => match f.name == "_", P.underlying f.type, xs[f.offset]?, ys[f.offset]?, eqFw P sub xs ys fs with
    | false, some (.int _), some (.int k a), some (.int k' b), some r => match decide (k = k') with
      | true => some ((a == b) && r)
      | false => none
    | false, some .bool, some (.bool a), some (.bool b), some r => some ((a == b) && r)
    | false, some .string, some (.string a), some (.string b), some r => some ((a == b) && r)
    | false, some (.struct _), _, _, some r => match sub f.type (xs.extract f.offset (f.offset + P.cellsOf f.type)) (ys.extract f.offset (f.offset + P.cellsOf f.type)) with
      | some a => some (a && r)
      | none => none
    | _, _, _, _, _ => none
def eqSt (P : Program) : Nat → TypeId → Array Value → Array Value → Option Bool
  | 0, _, _, _ => none
  | n + 1, t, xs, ys => match P.stoodInHeld t, P.underlying t with
    | false, some (.struct fs) => eqFw P (eqSt P n) xs ys fs.toList
    | _, _ => none
theorem run_part {P : Program} {t : TypeId} {d : TypeDesc} {cs : Array Value} {off : Nat} {v : Value} (hd : P.underlying t = some d) (h1 : ∀ x, d ≠ .struct x) (h2 : ∀ x y, d ≠ .array x y) (hv : cs[off]? = some v) (w : World) : (part t cs off).run P w = .ok v w := by
  have hagg : ∀ w, (isAgg t).run P w = .ok false w := by
    intro w
    cases d <;> first | (exact absurd rfl (h1 _)) | (exact absurd rfl (h2 _ _)) | simp [isAgg, underlying, program, Sem.run, hd]
  simp [part, hagg, hv, Sem.run]
theorem run_partS {P : Program} {t : TypeId} {fs : Array Field} {cs : Array Value} {off : Nat} (hd : P.underlying t = some (.struct fs)) (w : World) : (part t cs off).run P w = .ok (.agg (cs.extract off (off + P.cellsOf t))) w := by
  have hagg : ∀ w, (isAgg t).run P w = .ok true w := by
    intro w
    simp [isAgg, underlying, program, Sem.run, hd]
  obtain ⟨ti, hi, -⟩ : ∃ ti, P.info? t = some ti ∧ True := by
    cases h : P.info? t with
    | none => simp [Program.underlying, h] at hd
    | some ti => exact ⟨ti, rfl, trivial⟩
  simp [part, hagg, Sem.run_bind, run_sizeOf w hi, Program.cellsOf, hi]
theorem eqFw_run {P : Program} {xs ys : Array Value} {sub : TypeId → Array Value → Array Value → Option Bool} (d : Nat) (hsub : ∀ t fs cs es r, P.underlying t = some (.struct fs) → sub t cs es = some r → ∀ w, (Op.equalIn (d + 1) t (.agg cs) (.agg es)).run P w = .ok r w) : ∀ (fs : List Field) (r : Bool), eqFw P sub xs ys fs = some r → ∀ w, (Op.eqFields (d + 1) xs ys fs).run P w = .ok r w
  | [], r, h, w => by simp only [eqFw, Option.some.injEq] at h; subst h; simp [Op.eqFields]
  | f :: fs, r, h, w => by
    have key : ∀ (a b : Value) (e s : Bool), (f.name == "_") = false → (part f.type xs f.offset).run P w = .ok a w → (part f.type ys f.offset).run P w = .ok b w → (Op.equalIn (d + 1) f.type a b).run P w = .ok e w → eqFw P sub xs ys fs = some s → (Op.eqFields (d + 1) xs ys (f :: fs)).run P w = .ok (e && s) w := by
      intro a b e s hn ha hb he hs
      have ih := eqFw_run d hsub fs s hs w
      have hn' : f.name ≠ "_" := by simpa using hn
      rw [Op.eqFields]
      simp only [if_pos hn', Sem.run_bind, ha, hb, he, Result.andThen_ok]
      cases e
      · simp
      · simpa using ih
    unfold eqFw at h
    split at h
    · rename_i k0 k a k' b s hn hd ha hb hs
      split at h
      · rename_i hk
        simp only [Option.some.injEq] at h; subst h
        have hk' := of_decide_eq_true hk; subst hk'
        exact key _ _ _ _ hn (run_part hd (by simp) (by simp) ha w) (run_part hd (by simp) (by simp) hb w) (run_equalIn_int w d f.type _ _ a b hd) hs
      · cases h
    · rename_i a b s hn hd ha hb hs
      simp only [Option.some.injEq] at h; subst h
      exact key _ _ _ _ hn (run_part hd (by simp) (by simp) ha w) (run_part hd (by simp) (by simp) hb w) (run_equalIn_bool' w d f.type a b hd) hs
    · rename_i a b s hn hd ha hb hs
      simp only [Option.some.injEq] at h; subst h
      exact key _ _ _ _ hn (run_part hd (by simp) (by simp) ha w) (run_part hd (by simp) (by simp) hb w) (by rw [run_equalIn_string w d f.type a b hd, beq_toListBytes]) hs
    · rename_i gs s hn hd hs
      split at h
      · rename_i a hsb
        simp only [Option.some.injEq] at h; subst h
        exact key _ _ _ _ hn (run_partS hd w) (run_partS hd w) (hsub _ _ _ _ _ hd hsb w) hs
      · cases h
    · cases h
theorem eqSt_run {P : Program} (d : Nat) : ∀ (n : Nat) (t : TypeId) (xs ys : Array Value) (r : Bool), eqSt P n t xs ys = some r → ∀ w, (Op.equalIn (d + 1 + n) t (.agg xs) (.agg ys)).run P w = .ok r w
  | 0, t, xs, ys, r, h => by cases h
  | n + 1, t, xs, ys, r, h => by
    intro w
    unfold eqSt at h
    split at h
    · rename_i fs hp hu
      have hf : P.fieldsOf t = fs := by simp [Program.fieldsOf, hu]
      rw [show d + 1 + (n + 1) = (d + 1 + n) + 1 from rfl, run_equalIn_agg (P := P) w (d + 1 + n) t xs ys (by rw [hf]; exact hu) hp, hf]
      have e : d + 1 + n = (d + n) + 1 := by omega
      rw [e]
      exact eqFw_run (d + n) (fun t fs cs es r _ hs w => by rw [← e]; exact eqSt_run d n t cs es r hs w) _ _ h w
    · cases h
/-- '==' of two arrays of numbers. -/
def eqIs (xs ys : Array Value) : List Nat → Option Bool
  | [] => some true
  | i :: is => match xs[i]?, ys[i]?, eqIs xs ys is with
    | some (.int k a), some (.int k' b), some r => match decide (k = k') with
      | true => some ((a == b) && r)
      | false => none
    | _, _, _ => none
theorem eqIs_run {P : Program} {e : TypeId} {k0 : IntKind} {xs ys : Array Value} (hu : P.underlying e = some (.int k0)) (d : Nat) : ∀ (is : List Nat) (r : Bool), eqIs xs ys is = some r → ∀ w, (Op.eqItems (d + 1) e 1 xs ys is).run P w = .ok r w
  | [], r, h, w => by simp only [eqIs, Option.some.injEq] at h; subst h; simp [Op.eqItems]
  | i :: is, r, h, w => by
    unfold eqIs at h
    split at h
    · rename_i k a k' b s ha hb hs
      split at h
      · rename_i hk
        simp only [Option.some.injEq] at h; subst h
        have hk' := of_decide_eq_true hk; subst hk'
        have ih := eqIs_run hu d is s hs w
        have pa := run_part (P := P) hu (by simp) (by simp) ha
        have pb := run_part (P := P) hu (by simp) (by simp) hb
        simp only [Op.eqItems, Nat.mul_one, Sem.run_bind, pa, pb, run_equalIn_int w d e k k0 a b hu, Result.andThen_ok]
        cases a == b
        · simp
        · simpa using ih
      · cases h
    · cases h
def opX (P : Program) (ro : Bool) (ρ : Operand → Value) (o : Oper) (A : AW) : OK → ORes
  | .auto cs => match runA P ro (execOp ρ o) cs A with
    | some (vs, [], .value v, A') => some (vs, v, A')
    | some (vs, [], .skip, A') => match ro with
      | false => some (vs, undef, A')
      | true => none
    | _ => none
  | .idx j => match o.op with
    | .indexAddr t x ix => match ρ x, ρ ix, P.underlying t with
      | .slice (some a) len _, .int _ i, some (.slice e) => match P.info? e with
        | some f => some ([i = (j : Int), j < len, a.spot = none], .pointer (some ⟨a.block, a.off + offs f.size j, none⟩), A)
        | none => none
      | .pointer (some a), .int _ i, some (.array len e) => match P.info? e with
        | some f => some ([i = (j : Int), j < len, a.spot = none], .pointer (some ⟨a.block, a.off + offs f.size j, none⟩), A)
        | none => none
      | _, _, _ => none
    | _ => none
  | .aidx j v => match o.op with
    | .index t x ix => match ρ x, ρ ix, P.underlying t with
      | .agg cs, .int _ i, some (.array len e) => match P.info? e, P.underlying e with
        | some f, some (.struct _) => none
        | some f, some (.array _ _) => none
        | some f, some _ => some ([i = (j : Int), j < len, cs[offs f.size j]? = some v], v, A)
        | _, _ => none
      | _, _, _ => none
    | _ => none
  | .sidx c => match o.op with
    | .index t x ix => match ρ x, ρ ix, P.underlying t with
      | .string s, .int _ i, some .string => some ([0 ≤ i, s[i.toNat]? = some c], .int .u8 c.toNat, A)
      | _, _, _ => none
    | _ => none
  | .row i arr => match o.op with
    | .load t x => match ρ x, A.σ[i]?, P.info? t with
      | .pointer (some a), some c, some f => match a.spot, Nat.beq arr.size f.size, (match P.underlying t with | some (.struct _) => true | some (.array _ _) => true | _ => false) with
        | none, true, true => some ([RowOf c a.block a.off arr], .agg arr, A)
        | _, _, _ => none
      | _, _, _ => none
    | _ => none
  | .aeq b => match o.op with
    | .binOp .eql t x y _ => match ρ x, ρ y, P.eqGuardType P.depth t, P.underlying t with
      | .agg xs, .agg ys, false, some (.array n e) => match P.info? e, P.underlying e, Nat.beq (P.cellsOf e) 1, eqIs xs ys (List.range n) with
        | some _, some (.int _), true, some r => some ([r = b], .bool b, A)
        | _, _, _, _ => none
      | _, _, _, _ => none
    | _ => none
  | .seq b => match o.op with
    | .binOp .eql t x y _ => match ρ x, ρ y, P.eqGuardType P.depth t, P.stoodInHeld t, P.underlying t with
      | .agg xs, .agg ys, false, false, some (.struct fs) => match eqSt P 4 t xs ys with
        | some r => some ([r = b], .bool b, A)
        | none => none
      | _, _, _, _, _ => none
    | .binOp .neq t x y _ => match ρ x, ρ y, P.eqGuardType P.depth t, P.stoodInHeld t, P.underlying t with
      | .agg xs, .agg ys, false, false, some (.struct fs) => match eqSt P 4 t xs ys with
        | some r => some ([r = b], .bool (!b), A)
        | none => none
      | _, _, _, _, _ => none
    | _ => none
  | .slc l h moved => match o.op with
    | .slice t x lo hi none => match ρ x, P.underlying t, optInt (lo.map ρ) 0 with
      | .slice a len cap, some (.slice e), some lo' => match P.info? e, optInt (hi.map ρ) len with
        | some f, some hi' => match a, moved with
          | a, false => some ([lo' = (l : Int), hi' = (h : Int), l ≤ h, h ≤ cap, cap = l ∨ l = 0], .slice a (h - l) (cap - l), A)
          | some a, true => some ([lo' = (l : Int), hi' = (h : Int), l ≤ h, h ≤ cap, cap ≠ l, a.spot = none], .slice (some ⟨a.block, a.off + offs f.size l, none⟩) (h - l) (cap - l), A)
          | _, _ => none
        | _, _ => none
      | _, _, _ => none
    | _ => none

/-- What an operation comes to: a value, or nothing. -/
def Yields (P : Program) (ρ : Operand → Value) (o : Oper) (v : Value) (w w' : World) : Prop :=
  (execOp ρ o).run P w = .ok (.value v) w' ∨ ((execOp ρ o).run P w = .ok .skip w' ∧ v = undef)

theorem addr_eta {a : Addr} (h : a.spot = none) (k : Nat) : a.add k = ⟨a.block, a.off + k, none⟩ := by
  obtain ⟨b, o, s⟩ := a
  simp only at h; subst h
  simp [Addr.add]

theorem run_indexAt_slice {P : Program} {t e : TypeId} {f : TypeInfo} {a : Addr} {len cap : Nat} {k : IntKind} {i : Int} {j : Nat} (ht : P.underlying t = some (.slice e)) (he : P.info? e = some f) (hi : i = (j : Int)) (hj : j < len) (hs : a.spot = none) (w : World) :
    (Instr.indexAt t (.slice (some a) len cap) (.int k i)).run P w = .ok (.pointer (some ⟨a.block, a.off + offs f.size j, none⟩)) w := by
  subst hi
  have hb : (0 : Int) ≤ (j : Int) ∧ (j : Int) < (len : Int) := ⟨Int.natCast_nonneg j, by exact_mod_cast hj⟩
  simp [Instr.indexAt, asIntOf, underlying, program, Sem.run, ht, sizeOf, typeInfo, he, hj, offs_eq, addr_eta hs]
theorem run_indexAt_array {P : Program} {t e : TypeId} {f : TypeInfo} {a : Addr} {len : Nat} {k : IntKind} {i : Int} {j : Nat} (ht : P.underlying t = some (.array len e)) (he : P.info? e = some f) (hi : i = (j : Int)) (hj : j < len) (hs : a.spot = none) (w : World) :
    (Instr.indexAt t (.pointer (some a)) (.int k i)).run P w = .ok (.pointer (some ⟨a.block, a.off + offs f.size j, none⟩)) w := by
  subst hi
  have hb : (0 : Int) ≤ (j : Int) ∧ (j : Int) < (len : Int) := ⟨Int.natCast_nonneg j, by exact_mod_cast hj⟩
  simp [Instr.indexAt, asIntOf, underlying, program, Sem.run, ht, sizeOf, typeInfo, he, hj, offs_eq, addr_eta hs, Instr.sureAddr]
theorem run_index_array {P : Program} {t e : TypeId} {f : TypeInfo} {d : TypeDesc} {cs : Array Value} {len : Nat} {k : IntKind} {i : Int} {j : Nat} {v : Value} (ht : P.underlying t = some (.array len e)) (he : P.info? e = some f) (hd : P.underlying e = some d) (h1 : ∀ x, d ≠ .struct x) (h2 : ∀ x y, d ≠ .array x y) (hi : i = (j : Int)) (hj : j < len) (hv : cs[offs f.size j]? = some v) (w : World) :
    (Instr.index t (.agg cs) (.int k i)).run P w = .ok v w := by
  subst hi
  have hagg : ∀ w, (isAgg e).run P w = .ok false w := by
    intro w
    cases d <;> first | (exact absurd rfl (h1 _)) | (exact absurd rfl (h2 _ _)) | simp [isAgg, underlying, program, Sem.run, hd]
  rw [offs_eq] at hv
  simp [Instr.index, asIntOf, underlying, program, Sem.run, ht, sizeOf, typeInfo, he, hj, part, hagg, hv]
theorem run_index_string {P : Program} {t : TypeId} {s : ByteArray} {k : IntKind} {i : Int} {c : UInt8} (ht : P.underlying t = some .string) (hi : 0 ≤ i) (hv : s[i.toNat]? = some c) (w : World) :
    (Instr.index t (.string s) (.int k i)).run P w = .ok (.int .u8 c.toNat) w := by
  simp [Instr.index, asIntOf, underlying, program, Sem.run, ht, hi, hv]

theorem run_sliceAt {P : Program} {t e : TypeId} {f : TypeInfo} {a : Option Addr} {len cap : Nat} {lo hi : Option Value} {lo' hi' : Int} {l h : Nat} (ht : P.underlying t = some (.slice e)) (he : P.info? e = some f)
    (h1 : optInt lo 0 = some lo') (h2 : optInt hi len = some hi') (e1 : lo' = (l : Int)) (e2 : hi' = (h : Int)) (hlh : l ≤ h) (hc : h ≤ cap) (w : World) :
    (Instr.sliceAt t (.slice a len cap) lo hi none).run P w = .ok (.slice (if cap = l then a else a.map (·.add (l * f.size))) (h - l) (cap - l)) w := by
  subst e1; subst e2
  have hb : ∀ w, (Instr.sliceBounds true len cap lo hi none).run P w = .ok (l, h, cap) w := by
    intro w
    have B : ∀ (x : Value) (y n : Nat) (c : BoundsCode) (d : Nat), optInt (some x) d = some (n : Int) → n ≤ y → ∀ w, (Instr.sliceBound x y c).run P w = .ok n w := by
      intro x y n c d hx hn w
      cases x <;> simp [optInt] at hx
      subst hx
      simp [Instr.sliceBound, asIntOf, Sem.run, hn]
    cases hi with
    | none =>
      simp [optInt] at h2
      have h2' : len = h := by exact_mod_cast h2
      subst h2'
      cases lo with
      | none =>
        simp [optInt] at h1
        have h1' : l = 0 := by omega
        subst h1'
        simp [Instr.sliceBounds]
      | some v => simp [Instr.sliceBounds, B v len l .sliceB 0 h1 hlh]
    | some u =>
      have hB := B u cap h .sliceAcap len h2 hc
      cases lo with
      | none =>
        simp [optInt] at h1
        have h1' : l = 0 := by omega
        subst h1'
        simp [Instr.sliceBounds, hB]
      | some v => simp [Instr.sliceBounds, hB, B v h l .sliceB 0 h1 hlh]
  simp [Instr.sliceAt, Instr.slice, underlying, program, Sem.run, ht, hb, sizeOf, typeInfo, he]

theorem run_loadCells {P : Program} {w : World} {b k : Nat} {arr : Array Value} (h : RowAt w b k arr) : ∀ (n i : Nat) (acc : Array Value), i + n = arr.size → (loadCellsFrom ⟨b, k, none⟩ i n acc).run P w = .ok (acc ++ (arr.toList.drop i).toArray) w := by
  intro n
  induction n with
  | zero => intro i acc hi; simp [loadCellsFrom, Sem.run, List.drop_eq_nil_of_le (show arr.toList.length ≤ i by simp; omega)]
  | succ n ih =>
    intro i acc hi
    have hlt : i < arr.size := by omega
    have hc := h i arr[i] (by simp [hlt])
    have hd : arr.toList.drop i = arr[i] :: arr.toList.drop (i + 1) := by rw [List.drop_eq_getElem_cons (by simpa using hlt)]; simp
    simp only [loadCellsFrom, load, Sem.run_bind, Sem.run, addr_eta (show (⟨b, k, none⟩ : Addr).spot = none from rfl), hc, Result.andThen_ok]
    rw [ih (i + 1) _ (by omega), hd]
    simp
theorem run_loadAt {P : Program} {w : World} {a : Addr} {arr : Array Value} {t : TypeId} {f : TypeInfo} (h : RowAt w a.block a.off arr) (hs : a.spot = none) (hf : P.info? t = some f) (hn : arr.size = f.size) (hagg : (match P.underlying t with | some (.struct _) => true | some (.array _ _) => true | _ => false) = true) :
    (Instr.loadAt t (.pointer (some a))).run P w = .ok (.agg arr) w := by
  obtain ⟨b, k, sp⟩ := a
  simp only at hs; subst hs
  have ha : ∀ w, (isAgg t).run P w = .ok true w := by
    intro w
    cases hu : P.underlying t with
    | none => rw [hu] at hagg; cases hagg
    | some d => rw [hu] at hagg; cases d <;> first | (cases hagg; done) | simp [isAgg, underlying, program, Sem.run, hu]
  have hl := run_loadCells (P := P) h f.size 0 #[] (by omega)
  simp at hl
  simp [Instr.loadAt, Instr.sureAddr, loadVar, ha, sizeOf, typeInfo, program, Sem.run, hf, loadCells, hl]
end Go.Proofs.YtnjhekfgmbpmlaaDoor.Eng
