/- The engine, seventh part: rows read and written in place; ways that meet behind a region; blocks that a call has made or turned. No conditions. -/
import Derived.Test.YtnjhekfgmbpmlaaDoorEngF
namespace Go.Proofs.YtnjhekfgmbpmlaaDoor.Eng
open Go Go.Proofs.YtnjhekfgmbpmlaaDoor.Mem
set_option linter.unusedSimpArgs false
set_option linter.unusedVariables false

/-- A store into a block that is known whole. -/
theorem Sat.set1 {A : AW} {w : World} (h : Sat A w) {i b : Nat} {c : Array Value} {t : TypeId} (hi : A.σ[i]? = some (.blk b (.cells c t (0, 0)) true)) (k : Nat) (v : Value) : Sat { A with σ := A.σ.set i (.blk b (.cells (c.setIfInBounds k v) t (0, 0)) true) } (w.setCell ⟨b, k, none⟩ v) := by
  have hb : w.heap[b]? = some (.cells c t (0, 0)) := h.at hi
  exact h.put (w' := w.setCell ⟨b, k, none⟩ v) hi rfl (c' := .blk b (.cells (c.setIfInBounds k v) t (0, 0)) true) rfl (Ch.stable_blk _ _ _) rfl rfl rfl (by simp [World.setCell]) (fun q hq => heap_setCell' w ⟨b, k, none⟩ v q hq) (heap_setCell_at w ⟨b, k, none⟩ v c t _ rfl hb)

theorem rowL_cell {α : Type} [Inhabited α] {base : Nat} {e : TypeId} {sz : Nat} {cells : α → List Value} {g n cap : Nat} {xs : List α} {j k : Nat} {v : Value} (hsz : ∀ x, (cells x).length = sz) (hj : j < xs.length) (hv : (cells (gd xs j))[k]? = some v) :
    ∀ w', Ch.holds (rowL base e sz cells (.slice (some ⟨g, 0, none⟩) n cap) xs) w' → w'.cell? ⟨g, 0 + offs sz j + k, none⟩ = some v := by
  intro w' hw
  have hw' : w'.ownsRow base e sz (.slice (some ⟨g, 0, none⟩) n cap) xs.length (xs.flatMap cells) := hw
  rcases hw'.2 with ⟨h1, -⟩ | ⟨g', cap', cur, h1, hb, hg, hnc, hcm, hcs, ht⟩
  · cases h1
  · cases h1
    have hf := flat_at hsz xs j hj k v (by rw [← gd_eq hj]; exact hv)
    rw [← ht, List.getElem?_take] at hf
    split at hf
    · simp only [World.cell?, hg, Nat.zero_add]; simpa using hf
    · cases hf

theorem flat_set {α : Type} {cells : α → List Value} {sz : Nat} (hsz : ∀ x, (cells x).length = sz) : ∀ (xs : List α) (j : Nat) (hj : j < xs.length) (k : Nat) (hk : k < sz) (v : Value) (y : α), cells y = (cells xs[j]).set k v → (xs.set j y).flatMap cells = (xs.flatMap cells).set (offs sz j + k) v
  | x :: xs, 0, _, k, hk, v, y, hy => by
    rw [offs_eq, Nat.zero_mul, Nat.zero_add]
    simp only [List.set_cons_zero, List.flatMap_cons]
    rw [List.set_append_left _ _ (by rw [hsz]; exact hk), hy]; rfl
  | x :: xs, j + 1, hj, k, hk, v, y, hy => by
    have ih := flat_set hsz xs j (by simpa using hj) k hk v y (by simpa using hy)
    rw [offs_eq] at ih ⊢
    simp only [List.set_cons_succ, List.flatMap_cons]
    rw [List.set_append_right _ _ (by rw [hsz, Nat.succ_mul]; omega), hsz, show (j + 1) * sz + k - sz = j * sz + k from by rw [Nat.succ_mul]; omega, ih]

/-- A store into one cell of a row. -/
theorem Sat.rowset {α : Type} [Inhabited α] {A : AW} {w : World} (h : Sat A w) {i base : Nat} {e : TypeId} {sz : Nat} {cells : α → List Value} {g n cap : Nat} {xs : List α} (hi : A.σ[i]? = some (rowL base e sz cells (.slice (some ⟨g, 0, none⟩) n cap) xs))
    (hsz : ∀ x, (cells x).length = sz) {j k : Nat} (hj : j < xs.length) (hk : k < sz) {v : Value} {y : α} (hy : cells y = (cells (gd xs j)).set k v) :
    w.cell? ⟨g, 0 + offs sz j + k, none⟩ ≠ none ∧ w.frozen? ⟨g, 0 + offs sz j + k, none⟩ = false ∧ Sat { A with σ := A.σ.set i (rowL base e sz cells (.slice (some ⟨g, 0, none⟩) n cap) (xs.set j y)) } (w.setCell ⟨g, 0 + offs sz j + k, none⟩ v) := by
  have hown : w.ownsRow base e sz (.slice (some ⟨g, 0, none⟩) n cap) xs.length (xs.flatMap cells) := h.at hi
  have hcell := rowL_cell (base := base) (e := e) (g := g) (n := n) (cap := cap) hsz hj (k := k) (v := (cells (gd xs j))[k]'(by rw [hsz]; exact hk)) (by simp) w (h.at hi)
  rcases hown.2 with ⟨h1, -⟩ | ⟨g', cap', cur, h1, hb, hg, hnc, hcm, hcs, ht⟩
  · cases h1
  · cases h1
    refine ⟨by rw [hcell]; simp, by simp [World.frozen?, hg], ?_⟩
    refine h.put (w' := w.setCell ⟨g, 0 + offs sz j + k, none⟩ v) hi rfl (c' := rowL base e sz cells (.slice (some ⟨g, 0, none⟩) xs.length cap) (xs.set j y)) rfl (row_stable _ _ _ _ _ _) rfl rfl rfl (by simp [World.setCell]) (fun q hq => heap_setCell' w _ v q (fun e1 => hq (by simp [rowL, rowC, Ch.F, Value.ownBlock, e1]))) ?_
    show (w.setCell ⟨g, 0 + offs sz j + k, none⟩ v).ownsRow base e sz (.slice (some ⟨g, 0, none⟩) xs.length cap) (xs.set j y).length ((xs.set j y).flatMap cells)
    have hfs := flat_set hsz xs j hj k hk v y (by rw [← gd_eq hj]; exact hy)
    have hlen := hown.1
    refine ⟨by rw [hfs, List.length_set, List.length_set]; exact hlen, .inr ⟨g, cap, cur.setIfInBounds (0 + offs sz j + k) v, by rw [List.length_set], hb, heap_setCell_at w ⟨g, 0 + offs sz j + k, none⟩ v cur e _ rfl hg, by rw [List.length_set]; exact hnc, hcm, by simp [hcs], ?_⟩⟩
    rw [List.length_set, hfs, ← ht]
    simp only [Nat.zero_add, Array.toList_setIfInBounds]
    have hlt : offs sz j + k < xs.length * sz := by
      rw [offs_eq]
      have := Nat.mul_le_mul_right sz hj
      rw [Nat.succ_mul] at this; omega
    rw [List.take_set]

section
variable {P : Program} {N : Nat} {env : Env} {ds : List Deferred} {A : AW} {ops : Array Oper} {l : List Oper} {s : List Kt} {Q : Exit → Act → World → Prop} {c : Code}

/-- Where a row that is not empty lies. -/
theorem row_where {α : Type} {base : Nat} {e : TypeId} {sz : Nat} {cells : α → List Value} {a : Option Addr} {n cap i : Nat} {xs : List α} {w : World} (hs : Sat A w) (hi : A.σ[i]? = some (rowL base e sz cells (.slice a n cap) xs)) (hp : 0 < xs.length) : ∃ g, a = some ⟨g, 0, none⟩ ∧ base ≤ g := by
  have hown : w.ownsRow base e sz (.slice a n cap) xs.length (xs.flatMap cells) := hs.at hi
  rcases hown.2 with ⟨h1, h2⟩ | ⟨g, cap', cur, h1, hb, -⟩
  · omega
  · cases h1; exact ⟨g, rfl, hb⟩
theorem g_rowat {α : Type} {base : Nat} {e : TypeId} {sz : Nat} {cells : α → List Value} {a : Option Addr} {n cap : Nat} {xs : List α} (i : Nat) (hp : 0 < xs.length) (K : ∀ g, a = some ⟨g, 0, none⟩ → base ≤ g → G P N env ds A c s Q) (hi : A.σ[i]? = some (rowL base e sz cells (.slice a n cap) xs) := by rfl) : G P N env ds A c s Q := fun a w hs => by
  obtain ⟨g, hg, hb⟩ := row_where hs.mem hi hp
  exact K g hg hb a w hs
theorem l_rowat {α : Type} {base : Nat} {e : TypeId} {sz : Nat} {cells : α → List Value} {a : Option Addr} {n cap : Nat} {xs : List α} (i : Nat) (hp : 0 < xs.length) (K : ∀ g, a = some ⟨g, 0, none⟩ → base ≤ g → Lg P N env ds A ops l s Q) (hi : A.σ[i]? = some (rowL base e sz cells (.slice a n cap) xs) := by rfl) : Lg P N env ds A ops l s Q := fun a w hs => by
  obtain ⟨g, hg, hb⟩ := row_where hs.mem hi hp
  exact K g hg hb a w hs

/-- A store of one cell: where, what. -/
def stoA (P : Program) (N : Nat) (ops : Array Oper) (env : Env) (o : Oper) : Option (Nat × Nat × Value) := match o.op, wantE ops env o, knownOp env o, inN N o.dst with
  | .store t a x, some true, true, true => match evalE env a, scalar (evalE env x), P.info? t with
    | .pointer (some ⟨b, k, none⟩), true, some f => match Nat.beq f.size 1 with
      | true => some (b, k, evalE env x)
      | false => none
    | _, _, _ => none
  | _, _, _, _ => none
theorem cells_scalar {v : Value} (h : scalar v = true) : v.cells = #[v] := by cases v <;> first | rfl | cases h
theorem stoA_run {o : Oper} {b k : Nat} {v : Value} (h : stoA P N ops env o = some (b, k, v)) {a : Act} {w : World} (hst : St N env ds A a w) (hc : w.cell? ⟨b, k, none⟩ ≠ none) (hf : w.frozen? ⟨b, k, none⟩ = false) :
    Region.wanted o (yielded ops a.tmps) = true ∧ inN N o.dst = true ∧ (execOp a.eval o).run P w = .ok .skip (w.setCell ⟨b, k, none⟩ v) := by
  unfold stoA at h
  split at h
  · rename_i t x y hop hw hk hd
    split at h
    · rename_i b' k' f hx hsc hf'
      split at h
      · rename_i hsz
        simp only [Option.some.injEq, Prod.mk.injEq] at h
        obtain ⟨rfl, rfl, rfl⟩ := h
        refine ⟨wantE_sound hw hst, hd, ?_⟩
        rw [eval_congr hst hk]
        obtain ⟨x0, hx0⟩ := Option.ne_none_iff_exists'.1 hc
        have hsz' := Nat.eq_of_beq_eq_true hsz
        have hstore := run_store (P := P) (m := .plain) (k := (Sem.pure () : Sem Unit)) hsc hx0 hf
        unfold execOp
        simp only [hop, hx]
        simp [Instr.storeAt, Instr.sureAddr, storeVar, cells_scalar hsc, sizeOf, typeInfo, program, Sem.run, hf', hsz', storeCells, addr_eta, store, hstore]
      · cases h
    · cases h
  · cases h

/-- The next operation stores into one cell of a row (number i, thing j, cell k). -/
theorem l_rowset {α : Type} [Inhabited α] (i j k : Nat) (xs : List α) (y : α) (cells : α → List Value) (base : Nat) (e : TypeId) (sz g n cap : Nat) (v : Value) (d : Option Nat)
    (hj : j < xs.length) (hy : cells y = (cells (gd xs j)).set k v) (K : Lg P N (putE env d undef) ds { A with σ := A.σ.set i (rowL base e sz cells (.slice (some ⟨g, 0, none⟩) n cap) (xs.set j y)) } ops (l.drop 1) s Q)
    (h : (match l with | o :: _ => (stoA P N ops env o).map (fun x => (x, o.dst)) | [] => none) = some ((g, 0 + offs sz j + k, v), d) := by as_aux_lemma => kernel_rfl) (hi : A.σ[i]? = some (rowL base e sz cells (.slice (some ⟨g, 0, none⟩) n cap) xs) := by rfl) (hsz : ∀ x, (cells x).length = sz := by intro _; rfl) (hk : k < sz := by decide) : Lg P N env ds A ops l s Q := by
  intro a w hst
  cases l with
  | nil => cases h
  | cons o l =>
    simp only [Option.map_eq_some_iff] at h
    obtain ⟨q, hq, h⟩ := h
    simp only [Prod.mk.injEq] at h
    obtain ⟨rfl, rfl⟩ := h
    obtain ⟨h1, h2, hs'⟩ := hst.mem.rowset hi hsz hj hk hy
    obtain ⟨hw, hd, hr⟩ := stoA_run hq hst h1 h2
    refine step_yields hw (.inr ⟨hr, rfl⟩) ?_
    exact K _ _ (hst.put hs' _ hd _)
/-- The same, where a region draws. -/
theorem wo_rowset {α : Type} [Inhabited α] {σC : List Ch} {late fuel : Nat} {listed : List Bool} {p : Nat} (i j k : Nat) (xs : List α) (y : α) (cells : α → List Value) (base : Nat) (e : TypeId) (sz g n cap : Nat) (v : Value) (d : Option Nat) (cix : List Nat)
    (hj : j < xs.length) (hy : cells y = (cells (gd xs j)).set k v) (hC : Nat.beq p late = true ∨ (picks cix A.σ = some σC ∧ cix.contains i = false)) (K : Wg P N (putE env d undef) ds { A with σ := A.σ.set i (rowL base e sz cells (.slice (some ⟨g, 0, none⟩) n cap) (xs.set j y)) } ops σC late fuel (listed.set p true) s Q)
    (hp : Nat.blt p listed.length = true := by rfl)
    (h : (match ops[p]? with | some o => (stoA P N ops env o).map (fun x => (x, o.dst)) | none => none) = some ((g, 0 + offs sz j + k, v), d) := by as_aux_lemma => kernel_rfl) (hi : A.σ[i]? = some (rowL base e sz cells (.slice (some ⟨g, 0, none⟩) n cap) xs) := by rfl) (hsz : ∀ x, (cells x).length = sz := by intro _; rfl) (hk : k < sz := by decide) : WO P N env ds A ops σC late fuel listed s Q p := by
  intro a w hst hcl
  have hlt : p < listed.length := by simpa using hp
  split at h
  · rename_i o ho
    simp only [Option.map_eq_some_iff] at h
    obtain ⟨q, hq, h⟩ := h
    simp only [Prod.mk.injEq] at h
    obtain ⟨rfl, rfl⟩ := h
    obtain ⟨h1, h2, hs'⟩ := hst.mem.rowset hi hsz hj hk hy
    obtain ⟨hw, hd, hr⟩ := stoA_run hq hst h1 h2
    unfold wpOp
    simp only [ho]
    rw [if_pos hw]
    left
    unfold Oper.wp
    rw [hr]
    have hcs : (listed.set p true).toArray.getD late false = false → Cs σC (w.setCell ⟨g, 0 + offs sz j + k, none⟩ v) := by
      intro hl
      rcases hC with hC | ⟨hC, hci⟩
      · have := Nat.eq_of_beq_eq_true hC
        subst this
        simp [hlt] at hl
      · intro c hc
        obtain ⟨q, hq, hqs⟩ := picks_at hC c hc
        have hqi : i ≠ q := fun e1 => by subst e1; simp [hq] at hci
        refine hs'.all c (List.mem_of_getElem? (i := q) ?_)
        show (A.σ.set i _)[q]? = some c
        rw [List.getElem?_set_ne hqi]; exact hqs
    exact ⟨hcs, K _ _ (hst.put hs' _ hd _) hcl hcs⟩
  · cases h

/-- Orders meet behind a region: what holds then, of whatever blocks. -/
theorem w_join {σC : List Ch} {late fuel : Nat} {listed : List Bool} {X : Type} (J : X → Env × AW) (tree : (∀ x, E P N (J x).1 ds (J x).2 .normal s Q) → Wg P N env ds A ops σC late fuel listed s Q) (K : ∀ x, E P N (J x).1 ds (J x).2 .normal s Q) : Wg P N env ds A ops σC late fuel listed s Q := tree K
theorem e_A {x : Exit} (A' : AW) (h : A = A') (K : E P N env ds A' x s Q) : E P N env ds A x s Q := by subst h; exact K
theorem g_A (A' : AW) (h : A = A') (K : G P N env ds A' c s Q) : G P N env ds A c s Q := by subst h; exact K
end

/-- Two pieces become one (that has the blocks of both). -/
theorem Sat.merge {A : AW} {w : World} (h : Sat A w) (i j : Nat) (is : List Nat) (c ci cj : Ch) {kept : List Ch} (hi : A.σ[i]? = some ci) (hj : A.σ[j]? = some cj) (hri : ci.rw = true) (hrj : cj.rw = true) (hn : nodupB is = true) (hni : is.contains i = false) (hnj : is.contains j = false) (hp : picks is A.σ = some kept)
    (hF : ∀ b, c.F b → ci.F b ∨ cj.F b) (hc : c.holds w) (hst : c.stable) : Sat { A with σ := kept ++ [c] } w := by
  have hap : ∀ d ∈ kept, ∀ b, d.F b → ¬ c.F b := by
    intro d hd b hdb hcb
    obtain ⟨q, hq, hqs⟩ := picks_at hp d hd
    rcases hF b hcb with h1 | h1
    · exact apart_of h.dis (i := i) (j := q) (by rw [List.getElem?_map, hi]; rfl) (by rw [List.getElem?_map, hqs]; rfl) (fun e => by subst e; simp [hq] at hni) hri b h1 hdb
    · exact apart_of h.dis (i := j) (j := q) (by rw [List.getElem?_map, hj]; rfl) (by rw [List.getElem?_map, hqs]; rfl) (fun e => by subst e; simp [hq] at hnj) hrj b h1 hdb
  have hbd : ∀ b, c.F b → b < A.n := fun b hb => (hF b hb).elim (fun x => h.bnd _ (List.mem_of_getElem? hi) b x) (fun x => h.bnd _ (List.mem_of_getElem? hj) b x)
  have := h.exch is hn hp (Keeps.refl (fun _ => False) w) (fun _ _ _ _ x => x) [c] (by
    intro d hd; simp only [List.mem_singleton] at hd; subst hd
    exact ⟨hc, hst, fun b hb => by rw [h.size]; exact hbd b hb⟩) (by simp) (by
    intro d hd d' hd' _ b hb
    simp only [List.mem_singleton] at hd'; subst hd'
    exact hap d hd b hb)
  rw [h.size] at this
  exact this

/-- Rows side by side. -/
def famC {α : Type} (base : Nat) (e : TypeId) (sz : Nat) (cells : α → List Value) (hs : List (Sl α)) : Ch :=
  .inv (fun b => ∃ s ∈ hs, s.val.ownBlock = some b) (fun w => (∀ s ∈ hs, w.ownsRow base e sz s.val s.xs.length (s.xs.flatMap cells)) ∧ hs.Pairwise (fun s t => ∀ b, s.val.ownBlock = some b → t.val.ownBlock ≠ some b)) true
theorem owns_same {w w' : World} {base : Nat} {e : TypeId} {sz n : Nat} {v : Value} {xs : List Value} (h : ∀ b, v.ownBlock = some b → w'.heap[b]? = w.heap[b]?) (hw : w.ownsRow base e sz v n xs) : w'.ownsRow base e sz v n xs := row_stable base e sz v n xs w w' h hw
theorem fam_stable {α : Type} (base : Nat) (e : TypeId) (sz : Nat) (cells : α → List Value) (hs : List (Sl α)) : (famC base e sz cells hs).stable :=
  fun w w' h hw => ⟨fun s hs' => owns_same (fun b hb => h b ⟨s, hs', hb⟩) (hw.1 s hs'), hw.2⟩
theorem Sat.fam {α : Type} {A : AW} {w : World} (h : Sat A w) (i j : Nat) (is : List Nat) {base : Nat} {e : TypeId} {sz : Nat} {cells : α → List Value} {hs : List (Sl α)} {a : Option Addr} {cap : Nat} {xs : List α} {kept : List Ch} (hi : A.σ[i]? = some (famC base e sz cells hs)) (hj : A.σ[j]? = some (rowL base e sz cells (.slice a xs.length cap) xs)) (hij : i ≠ j)
    (hn : nodupB is = true) (hni : is.contains i = false) (hnj : is.contains j = false) (hp : picks is A.σ = some kept) : Sat { A with σ := kept ++ [famC base e sz cells (hs ++ [⟨a, cap, xs⟩])] } w := by
  have h1 : (∀ s ∈ hs, w.ownsRow base e sz s.val s.xs.length (s.xs.flatMap cells)) ∧ hs.Pairwise (fun s t => ∀ b, s.val.ownBlock = some b → t.val.ownBlock ≠ some b) := h.at hi
  have h2 : w.ownsRow base e sz (.slice a xs.length cap) xs.length (xs.flatMap cells) := h.at hj
  refine h.merge i j is _ _ _ hi hj rfl rfl hn hni hnj hp ?_ ⟨?_, ?_⟩ (fam_stable _ _ _ _ _)
  · rintro b ⟨s, hs', hb⟩
    rcases List.mem_append.1 hs' with hm | hm
    · exact .inl ⟨s, hm, hb⟩
    · simp only [List.mem_singleton] at hm; subst hm; exact .inr hb
  · intro s hs'
    rcases List.mem_append.1 hs' with hm | hm
    · exact h1.1 s hm
    · simp only [List.mem_singleton] at hm; subst hm; exact h2
  · rw [List.pairwise_append]
    refine ⟨h1.2, by simp, ?_⟩
    intro s hm t ht b hb hb'
    simp only [List.mem_singleton] at ht; subst ht
    exact apart_of h.dis (i := i) (j := j) (by rw [List.getElem?_map, hi]; rfl) (by rw [List.getElem?_map, hj]; rfl) hij rfl b (show (famC base e sz cells hs).F b from ⟨s, hm, hb⟩) hb'
theorem Sat.fam0 {α : Type} {A : AW} {w : World} (h : Sat A w) (base : Nat) (e : TypeId) (sz : Nat) (cells : α → List Value) : Sat { A with σ := A.σ ++ [famC base e sz cells []] } w :=
  h.more (famC base e sz cells []) (show (∀ s ∈ ([] : List (Sl α)), w.ownsRow base e sz s.val s.xs.length (s.xs.flatMap cells)) ∧ ([] : List (Sl α)).Pairwise (fun s t => ∀ b, s.val.ownBlock = some b → t.val.ownBlock ≠ some b) from ⟨fun s hm => absurd hm List.not_mem_nil, List.Pairwise.nil⟩) (fam_stable _ _ _ _ _) (fun b hb => by obtain ⟨s, hm, -⟩ := hb; cases hm)
section
variable {P : Program} {N : Nat} {env : Env} {ds : List Deferred} {A : AW} {ops : Array Oper} {l : List Oper} {s : List Kt} {Q : Exit → Act → World → Prop} {c : Code}
theorem g_fam0 {α : Type} (base : Nat) (e : TypeId) (sz : Nat) (cells : α → List Value) (h : G P N env ds { A with σ := A.σ ++ [famC base e sz cells []] } c s Q) : G P N env ds A c s Q := fun a w hs => h a w ⟨hs.sz, hs.df, hs.kn, hs.mem.fam0 base e sz cells⟩
theorem e_fam {α : Type} {x : Exit} (i j : Nat) (is : List Nat) {base : Nat} {e : TypeId} {sz : Nat} {cells : α → List Value} {hs : List (Sl α)} {a : Option Addr} {cap : Nat} {xs : List α} (kept : List Ch)
    (K : E P N env ds { A with σ := kept ++ [famC base e sz cells (hs ++ [⟨a, cap, xs⟩])] } x s Q) (hi : A.σ[i]? = some (famC base e sz cells hs) := by rfl) (hj : A.σ[j]? = some (rowL base e sz cells (.slice a xs.length cap) xs) := by rfl) (hij : i ≠ j := by decide)
    (hn : nodupB is = true := by rfl) (hni : is.contains i = false := by rfl) (hnj : is.contains j = false := by rfl) (hp : picks is A.σ = some kept := by rfl) : E P N env ds A x s Q := fun a' w hst => K a' w ⟨hst.sz, hst.df, hst.kn, hst.mem.fam i j is hi hj hij hn hni hnj hp⟩
end
end Go.Proofs.YtnjhekfgmbpmlaaDoor.Eng
