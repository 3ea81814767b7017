/- The engine, twelfth part: a thing of a row is written whole. No conditions. -/
import Derived.Test.YtnjhekfgmbpmlaaDoorEngK
namespace Go.Proofs.YtnjhekfgmbpmlaaDoor.Eng
open Go Go.Proofs.YtnjhekfgmbpmlaaDoor.Mem
set_option linter.unusedSimpArgs false
set_option linter.unusedVariables false

theorem flat_setN {α : Type} {cells : α → List Value} {sz : Nat} (hsz : ∀ x, (cells x).length = sz) (y : α) : ∀ (xs : List α) (j : Nat), j < xs.length → (xs.set j y).flatMap cells = (xs.flatMap cells).take (j * sz) ++ cells y ++ (xs.flatMap cells).drop (j * sz + sz)
  | x :: xs, 0, _ => by
    simp only [List.set_cons_zero, List.flatMap_cons, Nat.zero_mul, List.take_zero, List.nil_append, Nat.zero_add]
    rw [List.drop_left' (hsz x)]
  | x :: xs, j + 1, h => by
    have ih := flat_setN hsz y xs j (by simpa using h)
    simp only [List.set_cons_succ, List.flatMap_cons, ih]
    rw [show (j + 1) * sz = sz + j * sz from by rw [Nat.succ_mul]; omega]
    rw [List.take_append, List.drop_append, hsz, List.take_of_length_le (l := cells x) (by rw [hsz]; omega), List.drop_of_length_le (l := cells x) (by rw [hsz]; omega)]
    rw [show sz + j * sz - sz = j * sz from by omega, show sz + j * sz + sz - sz = j * sz + sz from by omega]
    simp only [List.append_assoc, List.nil_append]
theorem take_put {α : Type} {l m : List α} {o n L : Nat} (ho : o + n ≤ L) (hm : m.length = n) (hl : L ≤ l.length) : (l.take o ++ m ++ l.drop (o + n)).take L = (l.take L).take o ++ m ++ (l.take L).drop (o + n) := by
  rw [List.take_append, List.take_append, List.take_of_length_le (l := l.take o) (by rw [List.length_take]; omega), List.take_of_length_le (l := m) (by rw [List.length_take]; omega), List.take_take, Nat.min_eq_left (by omega), List.drop_take]
  congr 2
  rw [List.length_append, List.length_take, hm]; omega
/-- A thing of a row is written whole. -/
theorem Sat.rowsetN {α : Type} {A : AW} {w : World} (h : Sat A w) {i base : Nat} {e : TypeId} {sz : Nat} {cells : α → List Value} {g n cap : Nat} {xs : List α} (hi : A.σ[i]? = some (rowL base e sz cells (.slice (some ⟨g, 0, none⟩) n cap) xs)) (hsz : ∀ x, (cells x).length = sz) {j : Nat} (hj : j < xs.length) (y : α) :
    ∃ cur, w.heap[g]? = some (.cells cur e (0, 0)) ∧ offs sz j + sz ≤ cur.size ∧ Sat { A with σ := A.σ.set i (rowL base e sz cells (.slice (some ⟨g, 0, none⟩) n cap) (xs.set j y)) } (w.setRow g (cur.toList.take (offs sz j) ++ cells y ++ cur.toList.drop (offs sz j + sz)).toArray) := by
  have hown : w.ownsRow base e sz (.slice (some ⟨g, 0, none⟩) n cap) xs.length (xs.flatMap cells) := h.at hi
  have hle : j * sz + sz ≤ xs.length * sz := by have := Nat.mul_le_mul_right sz hj; rw [Nat.succ_mul] at this; exact this
  rcases hown.2 with ⟨h1, -⟩ | ⟨g', cap', cur, h1, hb, hg, hnc, hcm, hcs, ht⟩
  · cases h1
  · cases h1
    have hlen := hown.1
    have hcl : xs.length * sz ≤ cur.size := by rw [hcs]; exact Nat.mul_le_mul_right _ hnc
    refine ⟨cur, hg, by rw [offs_eq]; omega, ?_⟩
    have hnew : (cur.toList.take (offs sz j) ++ cells y ++ cur.toList.drop (offs sz j + sz)).length = cur.size := by
      simp only [List.length_append, List.length_take, List.length_drop, Array.length_toList, hsz, offs_eq]; omega
    refine h.put (w' := w.setRow g _) hi rfl (c' := rowL base e sz cells (.slice (some ⟨g, 0, none⟩) xs.length cap) (xs.set j y)) rfl (row_stable _ _ _ _ _ _) rfl rfl rfl (by simp [World.setRow]) (fun q hq => setRow_other w g q _ (fun e1 => hq (by simp [rowL, rowC, Ch.F, Value.ownBlock, e1]))) ?_
    show (w.setRow g _).ownsRow base e sz (.slice (some ⟨g, 0, none⟩) xs.length cap) (xs.set j y).length ((xs.set j y).flatMap cells)
    have hfl : ((xs.set j y).flatMap cells).length = xs.length * sz := by
      rw [flat_setN hsz y xs j hj, List.length_append, List.length_append, List.length_take, List.length_drop, hsz, hlen]; omega
    refine ⟨by rw [hfl, List.length_set], .inr ⟨g, cap, _, by rw [List.length_set], hb, setRow_heap w g cur _ e _ hg, by rw [List.length_set]; exact hnc, hcm, by rw [List.size_toArray, hnew, hcs], ?_⟩⟩
    rw [List.length_set, flat_setN hsz y xs j hj, offs_eq]
    show List.take _ (cur.toList.take (j * sz) ++ cells y ++ cur.toList.drop (j * sz + sz)) = _
    rw [take_put hle (hsz y) (by rw [Array.length_toList]; exact hcl), ht]

section
variable {P : Program} {N : Nat} {env : Env} {ds : List Deferred} {A : AW} {ops : Array Oper} {l : List Oper} {s : List Kt} {Q : Exit → Act → World → Prop} {c : Code}
def stoN (P : Program) (N : Nat) (ops : Array Oper) (env : Env) (o : Oper) : Option (Nat × Nat × Array Value) := match o.op, wantE ops env o, knownOp env o, inN N o.dst with
  | .store t a x, some true, true, true => match evalE env a, evalE env x, P.info? t with
    | .pointer (some ⟨b, k, none⟩), .agg arr, some f => match Nat.beq f.size arr.size with
      | true => some (b, k, arr)
      | false => none
    | _, _, _ => none
  | _, _, _, _ => none
theorem stoN_run {o : Oper} {b k : Nat} {arr : Array Value} (h : stoN P N ops env o = some (b, k, arr)) {a : Act} {w : World} {cur : Array Value} {t0 : TypeId} (hst : St N env ds A a w) (hg : w.heap[b]? = some (.cells cur t0 (0, 0))) (hfit : k + arr.size ≤ cur.size) (h1 : ∀ v ∈ arr.toList, v.oneCell' = true) :
    Region.wanted o (yielded ops a.tmps) = true ∧ inN N o.dst = true ∧ (execOp a.eval o).run P w = .ok .skip (w.setRow b (cur.toList.take k ++ arr.toList ++ cur.toList.drop (k + arr.size)).toArray) := by
  unfold stoN at h
  split at h
  · rename_i t x y hop hw hk hd
    split at h
    · rename_i b' k' arr' f hx hy hf'
      split at h
      · rename_i hsz
        simp only [Option.some.injEq, Prod.mk.injEq] at h
        obtain ⟨rfl, rfl, rfl⟩ := h
        refine ⟨wantE_sound hw hst, hd, ?_⟩
        rw [eval_congr hst hk]
        have hsz' := Nat.eq_of_beq_eq_true hsz
        have hst2 := run_storeCells_at P b' k' t0 arr'.toList 0 cur w hg (by simpa using hfit) h1
        simp only [Nat.add_zero, Array.length_toList] at hst2
        unfold execOp
        simp only [hop, hx, hy]
        simp [Instr.storeAt, Instr.sureAddr, storeVar, Value.cells, sizeOf, typeInfo, program, Sem.run, hf', hsz', hst2]
      · cases h
    · cases h
  · cases h
theorem l_rowsetN {α : Type} (i j : Nat) (xs : List α) (y : α) (cells : α → List Value) (base : Nat) (e : TypeId) (sz g n cap : Nat) (arr : Array Value) (d : Option Nat)
    (hj : j < xs.length) (K : Lg P N (putE env d undef) ds { A with σ := A.σ.set i (rowL base e sz cells (.slice (some ⟨g, 0, none⟩) n cap) (xs.set j y)) } ops (l.drop 1) s Q)
    (h : (match l with | o :: _ => (stoN P N ops env o).map (fun x => (x, o.dst)) | [] => none) = some ((g, 0 + offs sz j, arr), d) := by as_aux_lemma => kernel_rfl) (ha : arr.toList = cells y := by rfl) (h1 : arr.toList.all Value.oneCell' = true := by as_aux_lemma => kernel_rfl) (hi : A.σ[i]? = some (rowL base e sz cells (.slice (some ⟨g, 0, none⟩) n cap) xs) := by rfl) (hsz : ∀ x, (cells x).length = sz := by intro _; rfl) : Lg P N env ds A ops l s Q := by
  intro a w hst
  cases l with
  | nil => cases h
  | cons o l =>
    simp only [Option.map_eq_some_iff] at h
    obtain ⟨q, hq, h⟩ := h
    simp only [Prod.mk.injEq] at h
    obtain ⟨rfl, rfl⟩ := h
    obtain ⟨cur, hg, hfit, hs'⟩ := hst.mem.rowsetN hi hsz hj y
    have hsa : arr.size = sz := by rw [← Array.length_toList, ha, hsz]
    obtain ⟨hw, hd, hr⟩ := stoN_run hq hst hg (by rw [hsa, Nat.zero_add]; exact hfit) (fun v hv => List.all_eq_true.1 h1 v hv)
    rw [ha, hsa, Nat.zero_add] at hr
    refine step_yields hw (.inr ⟨hr, rfl⟩) ?_
    exact K _ _ (hst.put hs' _ hd _)
end
end Go.Proofs.YtnjhekfgmbpmlaaDoor.Eng
