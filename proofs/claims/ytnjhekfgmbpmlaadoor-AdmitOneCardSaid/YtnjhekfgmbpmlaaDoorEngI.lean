/- The engine, ninth part: slices that are made; a row out of a family and back. No conditions. -/
import Derived.Test.YtnjhekfgmbpmlaaDoorEngG
import Derived.Laws.OwnMore
namespace Go.Proofs.YtnjhekfgmbpmlaaDoor.Eng
open Go Go.Proofs.YtnjhekfgmbpmlaaDoor.Mem
set_option linter.unusedSimpArgs false
set_option linter.unusedVariables false

theorem made_flat {z : Array Value} (hz : 0 < z.size) : ∀ (n : Nat), (madeCells z (n * z.size)).toList = (List.replicate n z.toList).flatten
  | 0 => by simp [madeCells]
  | n + 1 => by
    have ih := made_flat hz n
    rw [Nat.succ_mul]
    simp only [madeCells, Array.toList_map, Array.toList_range] at ih ⊢
    rw [List.range_add, List.map_append, ih, List.replicate_succ', List.flatten_append]
    congr 1
    rw [List.map_map]
    apply List.ext_getElem (by simp)
    intro i h1 h2
    have h1' : i < z.size := by simpa using h1
    have e1 : (n * z.size + i) % z.size = i := by rw [Nat.add_comm, Nat.add_mul_mod_self_right, Nat.mod_eq_of_lt h1']
    simp [e1, h1']
theorem rep_flat {α : Type} {cells : α → List Value} {zt : α} : ∀ (n : Nat), (List.replicate n (cells zt)).flatten = (List.replicate n zt).flatMap cells
  | 0 => rfl
  | n + 1 => by rw [List.replicate_succ, List.replicate_succ, List.flatten_cons, List.flatMap_cons, rep_flat n]

section
variable {P : Program} {N : Nat} {env : Env} {ds : List Deferred} {A : AW} {ops : Array Oper} {l : List Oper} {s : List Kt} {Q : Exit → Act → World → Prop}

/-- The facts of a slice's making that the program's text and the frame tell. -/
def makeA (P : Program) (N : Nat) (ops : Array Oper) (env : Env) (o : Oper) : Option (TypeId × Nat × Nat × Value × Int × Int) := match o.op, wantE ops env o, knownOp env o, inN N o.dst with
  | .makeSlice t x y, some true, true, true => match P.underlying t, evalE env x, evalE env y with
    | some (.slice e), .int _ i, .int _ j => match P.info? e with
      | some f => match f.zero with
        | some z => match Nat.beq z.cells.size f.size && Nat.blt 0 f.size with
          | true => some (e, f.size, f.bytes, z, i, j)
          | false => none
        | none => none
      | none => none
    | _, _, _ => none
  | _, _, _, _ => none

theorem makeA_run {α : Type} {base : Nat} {o : Oper} {e : TypeId} {sz by' : Nat} {z : Value} {i j : Int} (h : makeA P N ops env o = some (e, sz, by', z, i, j)) {n : Nat} {zt : α} {cells : α → List Value} (hi : i = (n : Int)) (hj : j = (n : Int)) (hz : z.cells.toList = cells zt) (hn : by' * n ≤ 281474976710656) (hm : n ≤ maxLen) (hbase : base ≤ A.n) {a : Act} {w : World} (hst : St N env ds A a w) :
    Region.wanted o (yielded ops a.tmps) = true ∧ inN N o.dst = true ∧ ∃ w', (execOp a.eval o).run P w = .ok (.value (.slice (some ⟨A.n, 0, none⟩) n n)) w' ∧ A.n + 1 ≤ w'.heap.size ∧ Sat { A with n := w'.heap.size, σ := A.σ ++ [rowL base e sz cells (.slice (some ⟨A.n, 0, none⟩) n n) (List.replicate n zt)] } w' := by
  unfold makeA at h
  split at h
  · rename_i t x y hop hw hk hd
    split at h
    · rename_i e' k1 i' k2 j' ht hx hy
      split at h
      · rename_i f hf
        split at h
        · rename_i z' hz'
          split at h
          · rename_i hsz
            simp only [Option.some.injEq, Prod.mk.injEq] at h
            obtain ⟨rfl, rfl, rfl, rfl, rfl, rfl⟩ := h
            rw [Bool.and_eq_true] at hsz
            have hs1 := Nat.eq_of_beq_eq_true hsz.1
            subst hi hj
            refine ⟨wantE_sound hw hst, hd, ?_⟩
            rw [eval_congr hst hk]
            obtain ⟨w', hr, ho, hg⟩ := run_make_full (P := P) w base t e' f z' f.size ht hf hz' rfl k1 k2 n hn hm (by rw [hst.mem.size]; exact hbase)
            rw [hst.mem.size] at hr ho
            have hkp : Keeps (fun _ => False) w w' := by
              have := Keeps.of_grownBy hg
              exact ⟨this.os, this.tape, this.output, this.size, fun k hk _ => this.block k hk (by simp)⟩
            have hlt : A.n < w'.heap.size := by
              rcases ho.2 with ⟨h1, -⟩ | ⟨g, cap, cur, h1, -, h2, -⟩
              · cases h1
              · cases h1; exact (Array.getElem?_eq_some_iff.1 h2).1
            rw [← hs1, made_flat (by rw [hs1]; simpa using hsz.2), hz, rep_flat, hs1] at ho
            refine ⟨w', by simp [execOp, hop, hx, hy, hr, Sem.run, Result.andThen], hlt, ?_⟩
            refine hst.mem.keeps1 hkp (rowL base e' f.size cells _ (List.replicate n zt)) ?_ (row_stable _ _ _ _ _ _) ?_
            · show w'.ownsRow base e' f.size _ (List.replicate n zt).length _
              rw [List.length_replicate]; exact ho
            · intro b hb
              have hb' : some A.n = some b := hb
              cases hb'
              exact ⟨Nat.le_refl _, hlt⟩
          · cases h
        · cases h
      · cases h
    · cases h
  · cases h

theorem l_make {α : Type} (base n : Nat) (zt : α) (cells : α → List Value) (e : TypeId) (sz by' : Nat) (z : Value) (i j : Int) (d : Option Nat) (hi : i = (n : Int)) (hj : j = (n : Int)) (hn : n ≤ 1000000000000) (hbase : base ≤ A.n)
    (K : ∀ n', A.n + 1 ≤ n' → Lg P N (putE env d (.slice (some ⟨A.n, 0, none⟩) n n)) ds { A with n := n', σ := A.σ ++ [rowL base e sz cells (.slice (some ⟨A.n, 0, none⟩) n n) (List.replicate n zt)] } ops (l.drop 1) s Q)
    (h : (match l with | o :: _ => (makeA P N ops env o).map (fun x => (x, o.dst)) | [] => none) = some ((e, sz, by', z, i, j), d) := by as_aux_lemma => kernel_rfl) (hz : z.cells.toList = cells zt := by rfl) (hb : Nat.ble by' 140 = true := by as_aux_lemma => kernel_rfl) : Lg P N env ds A ops l s Q := by
  intro a w hst
  have hb' := Nat.le_of_ble_eq_true hb
  cases l with
  | nil => cases h
  | cons o l =>
    simp only [Option.map_eq_some_iff] at h
    obtain ⟨y, hy, h⟩ := h
    simp only [Prod.mk.injEq] at h
    obtain ⟨rfl, rfl⟩ := h
    obtain ⟨hw, hd, w', hr, hsz, hs'⟩ := makeA_run hy hi hj hz (Nat.le_trans (Nat.mul_le_mul hb' hn) (by decide)) (by unfold maxLen; omega) hbase hst
    refine step_yields hw (.inl hr) ?_
    exact K _ hsz _ _ (hst.put hs' _ hd _)
theorem wo_make {α : Type} {σC : List Ch} {late fuel : Nat} {listed : List Bool} {p : Nat} (base n : Nat) (zt : α) (cells : α → List Value) (e : TypeId) (sz by' : Nat) (z : Value) (i j : Int) (d : Option Nat) (cix : List Nat) (hi : i = (n : Int)) (hj : j = (n : Int)) (hn : n ≤ 1000000000000) (hbase : base ≤ A.n)
    (hC : Nat.beq p late = true ∨ picks cix A.σ = some σC)
    (K : ∀ n', A.n + 1 ≤ n' → Wg P N (putE env d (.slice (some ⟨A.n, 0, none⟩) n n)) ds { A with n := n', σ := A.σ ++ [rowL base e sz cells (.slice (some ⟨A.n, 0, none⟩) n n) (List.replicate n zt)] } ops σC late fuel (listed.set p true) s Q)
    (hp : Nat.blt p listed.length = true := by rfl)
    (h : (match ops[p]? with | some o => (makeA P N ops env o).map (fun x => (x, o.dst)) | none => none) = some ((e, sz, by', z, i, j), d) := by as_aux_lemma => kernel_rfl) (hz : z.cells.toList = cells zt := by rfl) (hb : Nat.ble by' 140 = true := by as_aux_lemma => kernel_rfl) : WO P N env ds A ops σC late fuel listed s Q p := by
  intro a w hst hcl
  have hlt : p < listed.length := by simpa using hp
  have hb' := Nat.le_of_ble_eq_true hb
  split at h
  · rename_i o ho
    simp only [Option.map_eq_some_iff] at h
    obtain ⟨y, hy, h⟩ := h
    simp only [Prod.mk.injEq] at h
    obtain ⟨rfl, rfl⟩ := h
    obtain ⟨hw, hd, w', hr, hsz, hs'⟩ := makeA_run hy hi hj hz (Nat.le_trans (Nat.mul_le_mul hb' hn) (by decide)) (by unfold maxLen; omega) hbase hst
    unfold wpOp
    simp only [ho]
    rw [if_pos hw]
    left
    unfold Oper.wp
    rw [hr]
    have hcs : (listed.set p true).toArray.getD late false = false → Cs σC w' := by
      intro hl
      rcases hC with hC | hC
      · have := Nat.eq_of_beq_eq_true hC
        subst this
        simp [hlt] at hl
      · intro c hc
        obtain ⟨q, hq, hqs⟩ := picks_at hC c hc
        refine hs'.all c (List.mem_append_left _ (List.mem_of_getElem? hqs))
    exact ⟨hcs, K _ hsz _ _ (hst.put hs' _ hd _) hcl hcs⟩
  · cases h
end

/-- One row of a family goes out. -/
theorem Sat.famOut {α : Type} [Inhabited α] {A : AW} {w : World} (h : Sat A w) (i : Nat) (is : List Nat) {base : Nat} {e : TypeId} {sz : Nat} {cells : α → List Value} {hs : List (Sl α)} (n : Nat) (hn : n < hs.length) {kept : List Ch} (hi : A.σ[i]? = some (famC base e sz cells hs)) (hnd : nodupB is = true) (hni : is.contains i = false) (hp : picks is A.σ = some kept) :
    Sat { A with σ := kept ++ [famC base e sz cells (hs.eraseIdx n), rowL base e sz cells (gd hs n).val (gd hs n).xs] } w := by
  have h1 : (∀ s ∈ hs, w.ownsRow base e sz s.val s.xs.length (s.xs.flatMap cells)) ∧ hs.Pairwise (fun s t => ∀ b, s.val.ownBlock = some b → t.val.ownBlock ≠ some b) := h.at hi
  have hg : gd hs n = hs[n] := gd_eq hn
  have hperm : hs.Perm (hs[n] :: hs.eraseIdx n) := by
    have e1 : hs = hs.take n ++ hs[n] :: hs.drop (n + 1) := by rw [List.getElem_cons_drop, List.take_append_drop]
    rw [List.eraseIdx_eq_take_drop_succ]
    conv => lhs; rw [e1]
    exact List.perm_middle
  have hpw : (hs[n] :: hs.eraseIdx n).Pairwise (fun s t => ∀ b, s.val.ownBlock = some b → t.val.ownBlock ≠ some b) := (hperm.pairwise_iff (fun {x y} hxy b hb hb' => hxy b hb' hb)).1 h1.2
  rw [List.pairwise_cons] at hpw
  have hall : ∀ s ∈ hs.eraseIdx n, s ∈ hs := fun s hs' => hperm.mem_iff.2 (List.mem_cons_of_mem _ hs')
  have := h.exch is hnd hp (Keeps.refl (fun _ => False) w) (fun _ _ _ _ x => x) [famC base e sz cells (hs.eraseIdx n), rowL base e sz cells (gd hs n).val (gd hs n).xs] (by
    intro d hd
    simp only [List.mem_cons, List.not_mem_nil, or_false] at hd
    rcases hd with rfl | rfl
    · refine ⟨⟨fun s hs' => h1.1 s (hall s hs'), hpw.2⟩, fam_stable _ _ _ _ _, ?_⟩
      rintro b ⟨s, hs', hb⟩
      rw [h.size]; exact h.bnd _ (List.mem_of_getElem? hi) b ⟨s, hall s hs', hb⟩
    · refine ⟨?_, row_stable _ _ _ _ _ _, ?_⟩
      · show w.ownsRow base e sz (gd hs n).val (gd hs n).xs.length ((gd hs n).xs.flatMap cells)
        rw [hg]; exact h1.1 _ (List.getElem_mem hn)
      · intro b hb
        rw [h.size]; exact h.bnd _ (List.mem_of_getElem? hi) b ⟨gd hs n, by rw [hg]; exact List.getElem_mem hn, hb⟩) (by
    simp only [List.map_cons, List.map_nil, List.pairwise_cons, List.mem_singleton, List.not_mem_nil, false_imp_iff, implies_true, List.Pairwise.nil, and_true]
    rintro k rfl _ b ⟨s, hs', hb⟩ hb'
    have hb2 : (gd hs n).val.ownBlock = some b := hb'
    rw [hg] at hb2
    exact hpw.1 s hs' b hb2 hb) (by
    intro d hd d' hd' _ b hb
    obtain ⟨q, hq, hqs⟩ := picks_at hp d hd
    have hap := apart_of h.dis (i := i) (j := q) (by rw [List.getElem?_map, hi]; rfl) (by rw [List.getElem?_map, hqs]; rfl) (fun e => by subst e; simp [hq] at hni) rfl
    simp only [List.mem_cons, List.not_mem_nil, or_false] at hd'
    intro hb'
    rcases hd' with rfl | rfl
    · obtain ⟨s, hs', hbb⟩ := hb'
      exact hap b ⟨s, hall s hs', hbb⟩ hb
    · exact hap b ⟨gd hs n, by rw [hg]; exact List.getElem_mem hn, hb'⟩ hb)
  rw [h.size] at this
  exact this

/-- A row goes back into a family, at its place. -/
theorem Sat.famIn {α : Type} [Inhabited α] {A : AW} {w : World} (h : Sat A w) (i j : Nat) (is : List Nat) {base : Nat} {e : TypeId} {sz : Nat} {cells : α → List Value} {hs : List (Sl α)} (n : Nat) (hn : n < hs.length) {a : Option Addr} {cap : Nat} {xs : List α} {kept : List Ch} (hi : A.σ[i]? = some (famC base e sz cells (hs.eraseIdx n))) (hj : A.σ[j]? = some (rowL base e sz cells (.slice a xs.length cap) xs)) (hij : i ≠ j)
    (hnd : nodupB is = true) (hni : is.contains i = false) (hnj : is.contains j = false) (hp : picks is A.σ = some kept) : Sat { A with σ := kept ++ [famC base e sz cells (hs.set n ⟨a, cap, xs⟩)] } w := by
  have h1 := h.fam i j is hi hj hij hnd hni hnj hp
  have hperm : (hs.eraseIdx n ++ [(⟨a, cap, xs⟩ : Sl α)]).Perm (hs.set n ⟨a, cap, xs⟩) := by
    rw [List.eraseIdx_eq_take_drop_succ, List.set_eq_take_append_cons_drop, if_pos hn]
    rw [List.append_assoc]
    exact List.Perm.append_left _ (List.perm_append_singleton _ _)
  have hF : famC base e sz cells (hs.eraseIdx n ++ [(⟨a, cap, xs⟩ : Sl α)]) = famC base e sz cells (hs.set n ⟨a, cap, xs⟩) := by
    unfold famC
    congr 1
    · funext b
      apply propext
      exact ⟨fun ⟨s, hs', hb⟩ => ⟨s, hperm.mem_iff.1 hs', hb⟩, fun ⟨s, hs', hb⟩ => ⟨s, hperm.mem_iff.2 hs', hb⟩⟩
    · funext w
      apply propext
      have hsym : ∀ {x y : Sl α}, (∀ b, x.val.ownBlock = some b → y.val.ownBlock ≠ some b) → (∀ b, y.val.ownBlock = some b → x.val.ownBlock ≠ some b) := fun hxy b hb hb' => hxy b hb' hb
      exact ⟨fun ⟨p1, p2⟩ => ⟨fun s hs' => p1 s (hperm.mem_iff.2 hs'), (hperm.pairwise_iff hsym).1 p2⟩, fun ⟨p1, p2⟩ => ⟨fun s hs' => p1 s (hperm.mem_iff.1 hs'), (hperm.pairwise_iff hsym).2 p2⟩⟩
  rw [hF] at h1
  exact h1
section
variable {P : Program} {N : Nat} {env : Env} {ds : List Deferred} {A : AW} {ops : Array Oper} {l : List Oper} {s : List Kt} {Q : Exit → Act → World → Prop} {c : Code}
theorem g_famOut {α : Type} [Inhabited α] (i : Nat) (is : List Nat) (base : Nat) (e : TypeId) (sz : Nat) (cells : α → List Value) (hs : List (Sl α)) (n : Nat) (x : Sl α) (hx : x = gd hs n) (hn : n < hs.length) (kept : List Ch) (K : G P N env ds { A with σ := kept ++ [famC base e sz cells (hs.eraseIdx n), rowL base e sz cells (.slice x.a x.xs.length x.cap) x.xs] } c s Q)
    (hi : A.σ[i]? = some (famC base e sz cells hs) := by rfl) (hnd : nodupB is = true := by rfl) (hni : is.contains i = false := by rfl) (hp : picks is A.σ = some kept := by rfl) : G P N env ds A c s Q := by
  subst hx
  exact fun a' w hst => K a' w ⟨hst.sz, hst.df, hst.kn, hst.mem.famOut i is n hn hi hnd hni hp⟩
/-- A family of empty rows. -/
theorem g_famNil {α : Type} (base : Nat) (e : TypeId) (sz : Nat) (cells : α → List Value) (n : Nat) (h : G P N env ds { A with σ := A.σ ++ [famC base e sz cells (List.replicate n ⟨none, 0, []⟩)] } c s Q) : G P N env ds A c s Q := fun a w hst => h a w ⟨hst.sz, hst.df, hst.kn, hst.mem.more _ (show (∀ s ∈ List.replicate n (⟨none, 0, []⟩ : Sl α), w.ownsRow base e sz s.val s.xs.length (s.xs.flatMap cells)) ∧ (List.replicate n (⟨none, 0, []⟩ : Sl α)).Pairwise (fun s t => ∀ b, s.val.ownBlock = some b → t.val.ownBlock ≠ some b) from
  ⟨fun s hs => by obtain ⟨-, rfl⟩ := List.mem_replicate.1 hs; exact ⟨by simp, .inl ⟨rfl, rfl⟩⟩, List.pairwise_replicate.2 (.inr (fun b hb => by cases hb))⟩) (fam_stable _ _ _ _ _) (fun b hb => by obtain ⟨s, hm, hb⟩ := hb; obtain ⟨-, rfl⟩ := List.mem_replicate.1 hm; cases hb)⟩
theorem e_famIn {α : Type} [Inhabited α] {x : Exit} (i j : Nat) (is : List Nat) (base : Nat) (e : TypeId) (sz : Nat) (cells : α → List Value) (hs : List (Sl α)) (n : Nat) (hn : n < hs.length) (a : Option Addr) (cap : Nat) (xs : List α) (kept : List Ch) (K : E P N env ds { A with σ := kept ++ [famC base e sz cells (hs.set n ⟨a, cap, xs⟩)] } x s Q)
    (hi : A.σ[i]? = some (famC base e sz cells (hs.eraseIdx n)) := by rfl) (hj : A.σ[j]? = some (rowL base e sz cells (.slice a xs.length cap) xs) := by rfl) (hij : i ≠ j := by decide) (hnd : nodupB is = true := by rfl) (hni : is.contains i = false := by rfl) (hnj : is.contains j = false := by rfl) (hp : picks is A.σ = some kept := by rfl) : E P N env ds A x s Q :=
  fun a' w hst => K a' w ⟨hst.sz, hst.df, hst.kn, hst.mem.famIn i j is n hn hi hj hij hnd hni hnj hp⟩
end
end Go.Proofs.YtnjhekfgmbpmlaaDoor.Eng
