/- The engine, seventeenth part: the bytes of a constant text, and what is appended to them. No conditions. -/
import Derived.Test.YtmmkacfeocnblaaEngQ
import Derived.Lib.SlBytesConst
namespace Go.Proofs.Ytmmkacfeocnblaa.Eng
open Go Go.Lib Go.Proofs.Ytmmkacfeocnblaa.Mem
set_option linter.unusedSimpArgs false
set_option linter.unusedVariables false
/-- A row to which j lists were appended; as long as none was it may be one that is full and marked. -/
def rowM {α : Type} (base : Nat) (e : TypeId) (sz : Nat) (cells : α → List Value) (j : Nat) (v : Value) (xs : List α) : Ch :=
  .inv (fun b => v.ownBlock = some b) (fun w => w.ownsRow base e sz v xs.length (xs.flatMap cells) ∨ (j = 0 ∧ (xs.flatMap cells).length = xs.length * sz ∧ ∃ g cs fr, v = .slice (some ⟨g, 0, none⟩) xs.length xs.length ∧ base ≤ g ∧ w.heap[g]? = some (.cells cs e fr) ∧ cs.toList = xs.flatMap cells)) true
theorem rowM_stable {α : Type} (base : Nat) (e : TypeId) (sz : Nat) (cells : α → List Value) (j : Nat) (v : Value) (xs : List α) : (rowM base e sz cells j v xs).stable := by
  rintro w w' h (hw | ⟨h0, hl, g, cs, fr, hv, hbg, hg, hc⟩)
  · exact .inl (owns_same h hw)
  · exact .inr ⟨h0, hl, g, cs, fr, hv, hbg, (h g (by rw [hv]; rfl)).trans hg, hc⟩
theorem rowM_own {α : Type} {base : Nat} {e : TypeId} {sz : Nat} {cells : α → List Value} {j : Nat} {v : Value} {xs : List α} {w : World} (h : (rowM base e sz cells j v xs).holds w) (hj : j ≠ 0) : w.ownsRow base e sz v xs.length (xs.flatMap cells) := by
  rcases h with h | ⟨h0, -⟩
  · exact h
  · exact absurd h0 hj
theorem grown_owns {w : World} {base : Nat} {e : TypeId} {z : Value} {sz n m cap : Nat} {xs news : List Value} (hx : xs.length = n * sz) (hl : news.length = m * sz) (hz : z.cells.size = sz) (h63 : n + m ≤ maxLen) (hb : base ≤ w.heap.size) :
    (w.drew.alloc (.cells (xs.toArray ++ news.toArray ++ Builtin.zeroCells z.cells (grownCap w (n + m) cap e - (n + m))) e)).ownsRow base e sz (.slice (some ⟨w.heap.size, 0, none⟩) (n + m) (grownCap w (n + m) cap e)) (n + m) (xs ++ news) := by
  have hge := grownCap_ge w (n + m) cap e
  have hcm : grownCap w (n + m) cap e ≤ maxLen := grownCap_le_maxLen w (n + m) cap e h63
  have hlen : (xs ++ news).length = (n + m) * sz := by rw [List.length_append, hx, hl, Nat.add_mul]
  refine ⟨hlen, .inr ⟨w.heap.size, _, _, rfl, hb, heap_alloc_new w.drew _, hge, hcm, ?_, ?_⟩⟩
  · simp only [Array.size_append, List.size_toArray, size_zeroCells, hz, hx, hl]
    rw [← Nat.add_mul, ← Nat.add_mul]
    congr 1; omega
  · simp only [Array.toList_append, List.append_assoc]
    rw [← List.append_assoc, ← hlen]
    exact List.take_left
section
variable {P : Program} {N : Nat} {env : Env} {ds : List Deferred} {A : AW} {ops : Array Oper} {l : List Oper} {s : List Kt} {Q : Exit → Act → World → Prop} {c : Code}
theorem appM_run {α : Type} {base : Nat} {o : Oper} {e : TypeId} {sz by' : Nat} {v : Value} {ad : Addr} {m cp j : Nat} (h : appA P N ops env o = some (e, sz, by', v, ad, m, cp)) {i : Nat} {cells : α → List Value} {xs ys : List α} {a : Act} {w : World} (hst : St N env ds A a w)
    (hi : A.σ[i]? = some (rowM base e sz cells j v xs)) (hl : (ys.flatMap cells).length = m * sz) (h1 : (ys.flatMap cells).all Value.oneCell' = true) (hnews : ∀ j u, (ys.flatMap cells)[j]? = some u → w.cell? (ad.add j) = some u) (hm : ys.length = m) (hm0 : 0 < m) (h63 : xs.length + m ≤ maxLen) (hb : (xs.length + m) * by' ≤ 140737488355328) (hbase : base ≤ A.n) :
    Region.wanted o (yielded ops a.tmps) = true ∧ inN N o.dst = true ∧ ∃ a' cap' w', (execOp a.eval o).run P w = .ok (.value (.slice a' (xs ++ ys).length cap')) w' ∧ A.n ≤ w'.heap.size ∧ Sat { A with n := w'.heap.size, σ := A.σ.set i (rowM base e sz cells (j + 1) (.slice a' (xs ++ ys).length cap') (xs ++ ys)) } w' := by
  unfold appA at h
  split at h
  · rename_i x y t u hop0 hw hk hd
    have hop := appOf_spec hop0
    split at h
    · rename_i e' ad' m' cp' htu ht hy
      split at h
      · rename_i f' hf
        split at h
        · rename_i z' hz
          split at h
          · rename_i hsz
            simp only [Option.some.injEq, Prod.mk.injEq] at h
            obtain ⟨rfl, rfl, rfl, rfl, rfl, rfl, rfl⟩ := h
            have htu' := Nat.eq_of_beq_eq_true htu
            subst htu'
            rw [Bool.and_eq_true] at hsz
            refine ⟨wantE_sound hw hst, hd, ?_⟩
            rw [eval_congr hst hk]
            have hsize := hst.mem.size
            have key : ∀ v' w', (Builtin.append_ #[t, t] o.type #[evalE env x, .slice (some ad') m' cp']).run P w = .ok v' w' → w'.ownsRow base e' f'.size v' (xs.length + m') (xs.flatMap cells ++ ys.flatMap cells) → w.grownBy w' (evalE env x).ownBlock → (v'.ownBlock = (evalE env x).ownBlock ∨ v'.ownBlock = some w.heap.size) →
                ∃ a' cap' w', (execOp (evalE env) o).run P w = .ok (.value (.slice a' (xs ++ ys).length cap')) w' ∧ A.n ≤ w'.heap.size ∧ Sat { A with n := w'.heap.size, σ := A.σ.set i (rowM base e' f'.size cells (j + 1) (.slice a' (xs ++ ys).length cap') (xs ++ ys)) } w' := by
              intro v' w' hr ho hg hat
              rw [← hm, ← List.length_append, ← List.flatMap_append] at ho
              obtain ⟨a', cap', rfl⟩ := row_slice ho
              have hk' : Keeps (fun k => some k = (evalE env x).ownBlock) w w' := Keeps.of_grownBy hg
              refine ⟨a', cap', w', ?_, by have := hk'.size; rw [hsize] at this; exact this, ?_⟩
              · unfold execOp
                simp only [hop, resolve, invoke, builtin, Sem.run_bind, Sem.run_pure, Result.andThen_ok, List.map_toArray, List.map_cons, List.map_nil, hy, hr]
              · exact hst.mem.growN hi rfl rfl ⟨hk'.os, hk'.tape, hk'.output, hk'.size, fun b hb hS => hk'.block b hb (fun e1 => hS e1.symm)⟩ (.inl ho) (rowM_stable _ _ _ _ _ _ _) (fun b hb => by
                  rcases hat with e1 | e1
                  · have hb' : (Value.slice a' (xs ++ ys).length cap').ownBlock = some b := hb
                    rw [e1] at hb'; exact .inl hb'
                  · have hb' : (Value.slice a' (xs ++ ys).length cap').ownBlock = some b := hb
                    rw [e1] at hb'; simp only [Option.some.injEq] at hb'; exact .inr (by omega)) (fun b hb => (ho.lt b hb).2)
            rcases hst.mem.at hi with hown | ⟨h0, hxl, g, cs, fr, hv, hbg, hg, hc⟩
            · obtain ⟨v', w', hr, ho', hgr, -, hat⟩ := run_append_own_at (P := P) w base t o.type e' f' z' f'.size f'.bytes ht hf hz rfl rfl (Nat.eq_of_beq_eq_true hsz.1) (by simpa using hsz.2) (evalE env x) xs.length (xs.flatMap cells) hown ad' m' cp' (ys.flatMap cells) hl hnews (fun u hu => List.all_eq_true.1 h1 u hu) h63 hb (by rw [hsize]; exact hbase)
              exact key v' w' hr ho' hgr hat
            · have hA : At w g (.cells cs e' fr) := hg
              have holds : ∀ k u, (xs.flatMap cells)[k]? = some u → w.cell? ((⟨g, 0, none⟩ : Addr).add k) = some u := by
                intro k u hu
                have e1 : (⟨g, 0, none⟩ : Addr).add k = ⟨g, k, none⟩ := by rw [addr_eta rfl]; simp
                rw [e1]
                exact hA.cell (by rw [← Array.getElem?_toList, hc]; exact hu)
              have hr := run_append_grow (P := P) w t o.type e' f' z' ht hf hz ⟨g, 0, none⟩ xs.length xs.length (xs.flatMap cells) hxl holds ad' m' cp' (ys.flatMap cells) hl hnews (by omega) (by simp only [maxLen] at h63; omega) (growslice_fits (by omega) hb)
              rw [← hv] at hr
              refine key _ _ hr (grown_owns hxl hl (Nat.eq_of_beq_eq_true hsz.1) h63 (by rw [hsize]; exact hbase)) ⟨rfl, rfl, rfl, by simp, fun k hk _ => heap_alloc_old w.drew _ hk⟩ (.inr rfl)
          · cases h
        · cases h
      · cases h
    · cases h
  · cases h
theorem l_pushM {α : Type} (base i k j : Nat) (xs ys : List α) (cells : α → List Value) (e : TypeId) (sz by' : Nat) (v : Value) (b m cp : Nat) (cs : Array Value) (t : TypeId) (fr : Nat × Nat) (rw' : Bool) (d : Option Nat)
    (h63 : xs.length + ys.length ≤ 1000000000000) (hbase : base ≤ A.n)
    (K : ∀ a' cap' n', A.n ≤ n' → Lg P N (putE env d (.slice a' (xs ++ ys).length cap')) ds { A with n := n', σ := A.σ.set i (rowM base e sz cells (j + 1) (.slice a' (xs ++ ys).length cap') (xs ++ ys)) } ops (l.drop 1) s Q)
    (h : (match l with | o :: _ => (appA P N ops env o).map (fun x => (x, o.dst)) | [] => none) = some ((e, sz, by', v, ⟨b, 0, none⟩, m, cp), d) := by as_aux_lemma => kernel_rfl) (hi : A.σ[i]? = some (rowM base e sz cells j v xs) := by rfl) (hj : A.σ[k]? = some (.blk b (.cells cs t fr) rw') := by rfl) (hn : cs.toList = ys.flatMap cells := by rfl) (hm : ys.length = m := by rfl)
    (hl : Nat.beq (ys.flatMap cells).length (ys.length * sz) = true := by as_aux_lemma => kernel_rfl) (h1 : (ys.flatMap cells).all Value.oneCell' = true := by as_aux_lemma => kernel_rfl) (hb : Nat.ble by' 140 = true := by as_aux_lemma => kernel_rfl) (hm0 : Nat.blt 0 m = true := by rfl) : Lg P N env ds A ops l s Q := by
  intro a w hst
  have hb' := Nat.le_of_ble_eq_true hb
  subst hm
  cases l with
  | nil => cases h
  | cons o l =>
    simp only [Option.map_eq_some_iff] at h
    obtain ⟨y, hy, h⟩ := h
    simp only [Prod.mk.injEq] at h
    obtain ⟨rfl, rfl⟩ := h
    obtain ⟨hw, hdst, a', cap', w', hr, hsz, hs'⟩ := appM_run (xs := xs) (ys := ys) hy hst hi (Nat.eq_of_beq_eq_true hl) h1 (news_blk hst.mem hj hn) rfl (by simpa using hm0) (by unfold maxLen; omega) (Nat.le_trans (Nat.mul_le_mul h63 hb') (by decide)) hbase
    refine step_yields hw (.inl hr) ?_
    exact K a' cap' _ hsz _ _ (hst.put hs' _ hdst _)
/-- The next operation marks the bytes of a constant text. -/
def markA (P : Program) (N : Nat) (ops : Array Oper) (env : Env) : List Oper → Option (Nat × Nat × Nat × TypeId × Option Nat)
  | [] => none
  | o :: _ => match o.op, wantE ops env o, knownOp env o, inN N o.dst with
    | .convert src dst x, some true, true, true => match Nat.beq src dst, P.underlying src, evalE env x with
      | true, some (.slice e), .slice (some ⟨b, 0, none⟩) n cap => match P.underlying e with
        | some (.int .u8) => some (b, n, cap, e, o.dst)
        | _ => none
      | _, _, _ => none
    | _, _, _, _ => none
theorem l_mark (i b n cap : Nat) (cs : Array Value) (e : TypeId) (d : Option Nat) (K : Lg P N (putE env d (.slice (some ⟨b, 0, none⟩) n cap)) ds { A with σ := A.σ.set i (.blk b (.cells cs e (cs.size, cs.size + 1)) true) } ops (l.drop 1) s Q)
    (h : markA P N ops env l = some (b, n, cap, e, d) := by as_aux_lemma => kernel_rfl) (hi : A.σ[i]? = some (.blk b (.cells cs e (0, 0)) true) := by rfl) : Lg P N env ds A ops l s Q := by
  intro a0 w hst
  cases l with
  | nil => cases h
  | cons o l =>
    simp only [markA] at h
    split at h
    · rename_i src dst x hop hw hkn hdst
      split at h
      · rename_i e1 b1 n1 cap1 hsd hs hx
        split at h
        · rename_i he
          simp only [Option.some.injEq, Prod.mk.injEq] at h
          obtain ⟨rfl, rfl, rfl, rfl, rfl⟩ := h
          have hsd' := Nat.eq_of_beq_eq_true hsd
          subst hsd'
          have hg : w.heap[b1]? = some (.cells cs e1 (0, 0)) := hst.mem.at hi
          have hsh : w.shape? b1 = some (e1, cs.size) := by unfold World.shape?; rw [hg]
          have hfz : (w.freeze ⟨b1, cs.size, none⟩ 1).heap[b1]? = some (.cells cs e1 (cs.size, cs.size + 1)) := by
            unfold World.freeze
            rw [if_neg (by decide)]
            simp [Array.getElem?_modify, hg]
          have hoth : ∀ k, k ≠ b1 → (w.freeze ⟨b1, cs.size, none⟩ 1).heap[k]? = w.heap[k]? := by
            intro k hk
            unfold World.freeze
            rw [if_neg (by decide)]
            simp [Array.getElem?_modify, Ne.symm hk]
          have hr2 : (execOp a0.eval o).run P w = .ok (.value (.slice (some ⟨b1, 0, none⟩) n1 cap1)) (w.freeze ⟨b1, cs.size, none⟩ 1) := by
            rw [eval_congr hst hkn]
            unfold execOp
            simp [hop, hx, convert, run_underlying hs, run_underlying he, markStringish, hsh]
          refine step_yields (wantE_sound hw hst) (.inl hr2) ?_
          refine K _ _ (hst.put (hst.mem.put (c' := .blk b1 (.cells cs e1 (cs.size, cs.size + 1)) true) hi rfl rfl (Ch.stable_blk _ _ _) ?_ ?_ ?_ ?_ (fun k hk => hoth k hk) hfz) _ hdst _)
          · unfold World.freeze; rw [if_neg (by decide)]
          · unfold World.freeze; rw [if_neg (by decide)]
          · unfold World.freeze; rw [if_neg (by decide)]
          · unfold World.freeze; rw [if_neg (by decide)]; simp
        · cases h
      · cases h
    · cases h
theorem g_rowM {α : Type} (i b base : Nat) (e : TypeId) (sz : Nat) (cells : α → List Value) (xs : List α) (cs : Array Value) (fr : Nat × Nat) (hb : base ≤ b) (K : G P N env ds { A with σ := A.σ.set i (rowM base e sz cells 0 (.slice (some ⟨b, 0, none⟩) xs.length xs.length) xs) } c s Q) (hi : A.σ[i]? = some (.blk b (.cells cs e fr) true) := by rfl) (hx : xs.flatMap cells = cs.toList := by rfl) (hl : (xs.flatMap cells).length = xs.length * sz := by rfl) : G P N env ds A c s Q :=
  fun a w hst => K a w ⟨hst.sz, hst.df, hst.kn, hst.mem.conv hi (by
    show (_, true) = (_, true)
    congr 1
    funext k
    apply propext
    show some b = some k ↔ k = b
    exact ⟨fun e => (Option.some.inj e).symm, fun e => by rw [e]⟩) (fun hw => .inr ⟨rfl, hl, b, cs, fr, rfl, hb, hw, hx.symm⟩) (rowM_stable _ _ _ _ _ _ _)⟩
end
end Go.Proofs.Ytmmkacfeocnblaa.Eng
