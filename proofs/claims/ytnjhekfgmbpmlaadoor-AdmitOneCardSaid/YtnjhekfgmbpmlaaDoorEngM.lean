/- The engine, thirteenth part: a list of data is appended to a row. No conditions. -/
import Derived.Test.YtnjhekfgmbpmlaaDoorEngL
namespace Go.Proofs.YtnjhekfgmbpmlaaDoor.Eng
open Go Go.Proofs.YtnjhekfgmbpmlaaDoor.Mem
set_option linter.unusedSimpArgs false
set_option linter.unusedVariables false

theorem flat_ix {α : Type} {cells : α → List Value} {sz : Nat} (hsz : ∀ x, (cells x).length = sz) : ∀ (ys : List α) (j : Nat) (u : Value), (ys.flatMap cells)[j]? = some u → ∃ i k, j = i * sz + k ∧ ∃ h : i < ys.length, (cells ys[i])[k]? = some u
  | [], j, u, h => by simp at h
  | y :: ys, j, u, h => by
    rw [List.flatMap_cons] at h
    by_cases hj : j < (cells y).length
    · rw [List.getElem?_append_left hj] at h
      exact ⟨0, j, by omega, by simp, h⟩
    · rw [List.getElem?_append_right (by omega), hsz] at h
      obtain ⟨i, k, e, hi, hu⟩ := flat_ix hsz ys _ u h
      rw [hsz] at hj
      exact ⟨i + 1, k, by rw [Nat.succ_mul]; omega, by simpa using hi, by simpa using hu⟩
theorem sl_news {α : Type} {cells : α → List Value} {sz : Nat} {F : Nat → Prop} {W : World} {s : Sl α} (hsz : ∀ x, (cells x).length = sz) (h : SlAt cells sz F W s) {b off : Nat} (ha : s.a = some ⟨b, off, none⟩) : ∀ j u, (s.xs.flatMap cells)[j]? = some u → W.cell? ((⟨b, off, none⟩ : Addr).add j) = some u := by
  intro j u hu
  obtain ⟨i, k, rfl, hi, hc⟩ := flat_ix hsz s.xs j u hu
  obtain ⟨b', off', ha', -, hh⟩ := h.cells (fun e => by rw [e] at hi; simp at hi)
  rw [ha] at ha'
  simp only [Option.some.injEq, Addr.mk.injEq, and_true] at ha'
  obtain ⟨rfl, rfl⟩ := ha'
  have := hh i hi k u hc
  have e1 : (⟨b, off, none⟩ : Addr).add (i * sz + k) = ⟨b, off + offs sz i + k, none⟩ := by rw [addr_eta rfl, offs_eq, Nat.add_assoc]
  rw [e1]; exact this
theorem sl_old {α : Type} {cells : α → List Value} {sz : Nat} {F S : Nat → Prop} {w : World} {s : Sl α} (h : SlAt cells sz F w s) (hF : ∀ b, F b → ¬ S b) : ∀ w', (old S w).holds w' → SlAt cells sz Any w' s := fun w' hw => ⟨h.len, h.le, fun hne => by
  obtain ⟨b, off, ha, hb, hc⟩ := h.cells hne
  exact ⟨b, off, ha, trivial, fun i hi k v hv => old_cell (hc i hi k v hv) (hF b hb) w' hw⟩⟩
theorem sl_frz {α : Type} {cells : α → List Value} {sz : Nat} {S : Nat → Prop} {w : World} {s : Sl α} (h : SlAt cells sz S w s) : ∀ w', (frz S w).holds w' → SlAt cells sz Any w' s := fun w' hw => sl_mono (frz_ext hw) (fun _ _ => trivial) h
section
variable {P : Program} {N : Nat} {env : Env} {ds : List Deferred} {A : AW} {ops : Array Oper} {l : List Oper} {s : List Kt} {Q : Exit → Act → World → Prop} {c : Code}
theorem run_append_zero {w : World} {t ty e : TypeId} {f : TypeInfo} {a ya : Option Addr} {n cap cp : Nat} (ht : P.underlying t = some (.slice e)) (hf : P.info? e = some f) (hn : n ≤ cap) : (Builtin.append_ #[t, t] ty #[.slice a n cap, .slice ya 0 cp]).run P w = .ok (.slice a n cap) w := by
  cases a <;> cases ya <;> simp [Builtin.append_, run_underlying ht, sizeOf, typeInfo, hf, Builtin.lenOf, Builtin.firstCells, loadCells, loadCellsFrom, hn, storeCells]
def appS (P : Program) (N : Nat) (ops : Array Oper) (env : Env) (o : Oper) : Option (TypeId × Nat × Nat × Value × Option Addr × Nat × Nat) := match appOf o, wantE ops env o, knownOp env o, inN N o.dst with
  | some (x, y, t, u), some true, true, true => match Nat.beq t u, P.underlying t, evalE env y with
    | true, some (.slice e), .slice ad m cp => match P.info? e with
      | some f => match f.zero with
        | some z => match Nat.beq z.cells.size f.size && Nat.blt 0 f.size with
          | true => some (e, f.size, f.bytes, evalE env x, ad, m, cp)
          | false => none
        | none => none
      | none => none
    | _, _, _ => none
  | _, _, _, _ => none
theorem appS_run {α : Type} {base : Nat} {o : Oper} {e : TypeId} {sz by' : Nat} {v : Value} {ya : Option Addr} {m cp : Nat} (h : appS P N ops env o = some (e, sz, by', v, ya, m, cp)) {i : Nat} {cells : α → List Value} {xs ys : List α} {a : Act} {w : World} (hst : St N env ds A a w)
    (hi : A.σ[i]? = some (rowL base e sz cells v xs)) (hsz : ∀ x, (cells x).length = sz) (h1 : ∀ x, ∀ u ∈ cells x, u.oneCell' = true) (hd : SlAt cells sz Any w ⟨ya, cp, ys⟩) (hm : ys.length = m) (h63 : xs.length + m ≤ maxLen) (hb : (xs.length + m) * by' ≤ 140737488355328) (hbase : base ≤ A.n) :
    Region.wanted o (yielded ops a.tmps) = true ∧ inN N o.dst = true ∧ ∃ a' cap' w', (execOp a.eval o).run P w = .ok (.value (.slice a' (xs ++ ys).length cap')) w' ∧ A.n ≤ w'.heap.size ∧ Sat { A with n := w'.heap.size, σ := A.σ.set i (rowL base e sz cells (.slice a' (xs ++ ys).length cap') (xs ++ ys)) } w' := by
  unfold appS at h
  split at h
  · rename_i x y t u hop0 hw hk hd0
    have hop := appOf_spec hop0
    split at h
    · rename_i e' ad' m' cp' htu ht hy
      split at h
      · rename_i f' hf
        split at h
        · rename_i z' hz
          split at h
          · rename_i hzz
            simp only [Option.some.injEq, Prod.mk.injEq] at h
            obtain ⟨rfl, rfl, rfl, rfl, rfl, rfl, rfl⟩ := h
            have htu' := Nat.eq_of_beq_eq_true htu
            subst htu'
            rw [Bool.and_eq_true] at hzz
            refine ⟨wantE_sound hw hst, hd0, ?_⟩
            rw [eval_congr hst hk]
            by_cases h0 : ys = []
            · subst h0
              have hm0 : m' = 0 := by simpa using hm.symm
              subst hm0
              have hown : w.ownsRow base e' f'.size (evalE env x) xs.length (xs.flatMap cells) := hst.mem.at hi
              have hle : ∃ a0 cap0, evalE env x = .slice a0 xs.length cap0 ∧ xs.length ≤ cap0 := by
                rcases hown.2 with ⟨e1, e2⟩ | ⟨g, cap, cur, e1, -, -, hnc, -⟩
                · exact ⟨none, 0, by rw [e1, e2], by omega⟩
                · exact ⟨_, cap, e1, hnc⟩
              obtain ⟨a0, cap0, hx, hnc⟩ := hle
              refine ⟨a0, cap0, w, ?_, by rw [hst.mem.size]; exact Nat.le_refl _, ?_⟩
              · unfold execOp
                simp only [hop, resolve, invoke, builtin, Sem.run_bind, Sem.run_pure, Result.andThen_ok, List.map_toArray, List.map_cons, List.map_nil, hy, hx, run_append_zero ht hf hnc, List.append_nil]
              · rw [List.append_nil, ← hx, hst.mem.size]
                have hset : A.σ.set i (rowL base e' f'.size cells (evalE env x) xs) = A.σ := by
                  obtain ⟨hlt, hix⟩ := List.getElem?_eq_some_iff.1 hi
                  rw [← hix, List.set_getElem_self]
                rw [hset]; exact hst.mem
            · obtain ⟨b, off, ha, -, -⟩ := hd.cells h0
              simp only at ha
              subst ha
              obtain ⟨a', cap', w', hr, hsize, hs'⟩ := run_append (ρ := evalE env) (news := ys.flatMap cells) hop ht hf hz (Nat.eq_of_beq_eq_true hzz.1) (by simpa using hzz.2) hi rfl hy (by
                rw [← hm]
                have : ∀ zs : List α, (zs.flatMap cells).length = zs.length * f'.size := by
                  intro zs
                  induction zs with
                  | nil => simp
                  | cons z zs ih => rw [List.flatMap_cons, List.length_append, hsz, ih, List.length_cons, Nat.succ_mul]; omega
                exact this ys) (fun u hu => by
                obtain ⟨q, -, hq⟩ := List.mem_flatMap.1 hu
                exact h1 q u hq) hst.mem (sl_news hsz hd rfl) h63 hb hbase
              subst hm
              rw [rowL_push, ← List.length_append] at hs'
              rw [← List.length_append] at hr
              exact ⟨a', cap', w', hr, hsize, hs'⟩
          · cases h
        · cases h
      · cases h
    · cases h
  · cases h
/-- The next operation appends a list of data to a row. -/
theorem l_pushS {α : Type} (base i k : Nat) (xs ys : List α) (ya : Option Addr) (cells : α → List Value) (e : TypeId) (sz by' : Nat) (v : Value) (m cp : Nat) (c0 : Ch) (d : Option Nat) (h63 : xs.length + ys.length ≤ 1000000000000) (hbase : base ≤ A.n) (hd : ∀ w', c0.holds w' → SlAt cells sz Any w' ⟨ya, cp, ys⟩)
    (K : ∀ a' cap' n', A.n ≤ n' → Lg P N (putE env d (.slice a' (xs ++ ys).length cap')) ds { A with n := n', σ := A.σ.set i (rowL base e sz cells (.slice a' (xs ++ ys).length cap') (xs ++ ys)) } ops (l.drop 1) s Q)
    (hm : ys.length = m := by rfl) (h : (match l with | o :: _ => (appS P N ops env o).map (fun x => (x, o.dst)) | [] => none) = some ((e, sz, by', v, ya, m, cp), d) := by as_aux_lemma => kernel_rfl) (hi : A.σ[i]? = some (rowL base e sz cells v xs) := by rfl) (hk : A.σ[k]? = some c0 := by rfl) (hsz : ∀ x, (cells x).length = sz := by intro _; rfl) (h1 : ∀ x, (cells x).all Value.oneCell' = true := by intro _; rfl) (hb : Nat.ble by' 140 = true := by as_aux_lemma => kernel_rfl) : Lg P N env ds A ops l s Q := by
  intro a w hst
  have hb' := Nat.le_of_ble_eq_true hb
  have h64 : xs.length + m ≤ 1000000000000 := by omega
  cases l with
  | nil => cases h
  | cons o l =>
    simp only [Option.map_eq_some_iff] at h
    obtain ⟨y, hy, h⟩ := h
    simp only [Prod.mk.injEq] at h
    obtain ⟨rfl, rfl⟩ := h
    obtain ⟨hw, hdst, a', cap', w', hr, hsz', hs'⟩ := appS_run (xs := xs) (ys := ys) hy hst hi hsz (fun x u hu => List.all_eq_true.1 (h1 x) u hu) (hd w (hst.mem.at hk)) hm (by unfold maxLen; omega) (Nat.le_trans (Nat.mul_le_mul h64 hb') (by decide)) hbase
    refine step_yields hw (.inl hr) ?_
    exact K a' cap' _ hsz' _ _ (hst.put hs' _ hdst _)
end
end Go.Proofs.YtnjhekfgmbpmlaaDoor.Eng
