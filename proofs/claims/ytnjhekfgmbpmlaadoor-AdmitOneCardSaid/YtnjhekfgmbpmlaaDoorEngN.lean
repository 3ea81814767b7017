/- The engine, fourteenth part: long lists (bounds in bytes), slices from the middle, rows cut short. No conditions. -/
import Derived.Test.YtnjhekfgmbpmlaaDoorEngM
import Derived.Test.YtnjhekfgmbpmlaaDoorEngI
namespace Go.Proofs.YtnjhekfgmbpmlaaDoor.Eng
open Go Go.Proofs.YtnjhekfgmbpmlaaDoor.Mem
set_option linter.unusedSimpArgs false
set_option linter.unusedVariables false

section
variable {P : Program} {N : Nat} {env : Env} {ds : List Deferred} {A : AW} {ops : Array Oper} {l : List Oper} {s : List Kt} {Q : Exit → Act → World → Prop} {c : Code}
theorem l_makeB {α : Type} (base n : Nat) (zt : α) (cells : α → List Value) (e : TypeId) (sz by' : Nat) (z : Value) (i j : Int) (d : Option Nat) (hi : i = (n : Int)) (hj : j = (n : Int)) (hn : by' * n ≤ 281474976710656) (hn2 : n ≤ 281474976710656) (hbase : base ≤ A.n)
    (K : ∀ n', A.n + 1 ≤ n' → Lg P N (putE env d (.slice (some ⟨A.n, 0, none⟩) n n)) ds { A with n := n', σ := A.σ ++ [rowL base e sz cells (.slice (some ⟨A.n, 0, none⟩) n n) (List.replicate n zt)] } ops (l.drop 1) s Q)
    (h : (match l with | o :: _ => (makeA P N ops env o).map (fun x => (x, o.dst)) | [] => none) = some ((e, sz, by', z, i, j), d) := by as_aux_lemma => kernel_rfl) (hz : z.cells.toList = cells zt := by rfl) : Lg P N env ds A ops l s Q := by
  intro a w hst
  cases l with
  | nil => cases h
  | cons o l =>
    simp only [Option.map_eq_some_iff] at h
    obtain ⟨y, hy, h⟩ := h
    simp only [Prod.mk.injEq] at h
    obtain ⟨rfl, rfl⟩ := h
    obtain ⟨hw, hd, w', hr, hsz, hs'⟩ := makeA_run hy hi hj hz hn (by unfold maxLen; omega) hbase hst
    refine step_yields hw (.inl hr) ?_
    exact K _ hsz _ _ (hst.put hs' _ hd _)
theorem g_rowcap {α : Type} {base : Nat} {e : TypeId} {sz : Nat} {cells : α → List Value} {a : Option Addr} {n cap : Nat} {xs : List α} (i : Nat) (hx : xs.length = n) (K : n ≤ cap → G P N env ds A c s Q) (hi : A.σ[i]? = some (rowL base e sz cells (.slice a n cap) xs) := by rfl) : G P N env ds A c s Q := fun a' w hs => by
  refine K ?_ a' w hs
  have hown : w.ownsRow base e sz (.slice a n cap) xs.length (xs.flatMap cells) := hs.mem.at hi
  rcases hown.2 with ⟨h1, h2⟩ | ⟨g, cap', cur, h1, -, -, hnc, -⟩
  · omega
  · cases h1; omega
theorem l_pushB {α : Type} (base i j : Nat) (xs ys : List α) (cells : α → List Value) (e : TypeId) (sz by' : Nat) (v : Value) (b m cp : Nat) (cs : Array Value) (t : TypeId) (fr : Nat × Nat) (rw' : Bool) (d : Option Nat)
    (h63 : xs.length + ys.length ≤ 281474976710656) (hbytes : (xs.length + ys.length) * by' ≤ 140737488355328) (hbase : base ≤ A.n)
    (K : ∀ a' cap' n', A.n ≤ n' → Lg P N (putE env d (.slice a' (xs ++ ys).length cap')) ds { A with n := n', σ := A.σ.set i (rowL base e sz cells (.slice a' (xs ++ ys).length cap') (xs ++ ys)) } ops (l.drop 1) s Q)
    (h : (match l with | o :: _ => (appA P N ops env o).map (fun x => (x, o.dst)) | [] => none) = some ((e, sz, by', v, ⟨b, 0, none⟩, m, cp), d) := by as_aux_lemma => kernel_rfl) (hi : A.σ[i]? = some (rowL base e sz cells v xs) := by rfl) (hj : A.σ[j]? = some (.blk b (.cells cs t fr) rw') := by rfl) (hn : cs.toList = ys.flatMap cells := by rfl) (hm : ys.length = m := by rfl)
    (hl : Nat.beq (ys.flatMap cells).length (ys.length * sz) = true := by as_aux_lemma => kernel_rfl) (h1 : (ys.flatMap cells).all Value.oneCell' = true := by as_aux_lemma => kernel_rfl) : Lg P N env ds A ops l s Q := by
  subst hm
  refine l_append base i j xs.length (xs.flatMap cells) (ys.flatMap cells) e sz by' v b ys.length cp cs t fr rw' d h hi hj hn hl h1 (by unfold maxLen; omega) hbytes hbase (fun a' cap' n' hn' => ?_)
  have := K a' cap' n' hn'
  rw [← rowL_push, List.length_append] at this
  exact this
end
/-- The list without its first thing. -/
theorem sl_tail {α : Type} {cells : α → List Value} {sz : Nat} {F : Nat → Prop} {W : World} {b off cap : Nat} {x : α} {xs : List α} (h : SlAt cells sz F W ⟨some ⟨b, off, none⟩, cap, x :: xs⟩) : SlAt cells sz F W ⟨some ⟨b, off + offs sz 1, none⟩, cap - 1, xs⟩ := by
  refine ⟨by have := h.len; simp at this ⊢; omega, by have := h.le; simp at this ⊢; omega, fun hne => ?_⟩
  obtain ⟨b', off', ha, hF, hc⟩ := h.cells (by simp)
  simp only [Option.some.injEq, Addr.mk.injEq, and_true] at ha
  obtain ⟨rfl, rfl⟩ := ha
  refine ⟨b, _, rfl, hF, fun i hi k v hv => ?_⟩
  have := hc (i + 1) (by simpa using hi) k v (by simpa using hv)
  rw [offs_eq] at this ⊢
  rw [offs_eq]
  rw [show off + 1 * sz + i * sz + k = off + (i + 1) * sz + k by rw [Nat.add_mul]; omega]
  exact this
/-- The first things of a list. -/
theorem sl_take {α : Type} {cells : α → List Value} {sz : Nat} {F : Nat → Prop} {W : World} {a : Option Addr} {cap : Nat} {xs ys : List α} (h : SlAt cells sz F W ⟨a, cap, xs ++ ys⟩) : SlAt cells sz F W ⟨a, cap, xs⟩ := by
  refine ⟨by have := h.len; simp at this ⊢; omega, by have := h.le; simp at this ⊢; omega, fun hne => ?_⟩
  obtain ⟨b, off, ha, hF, hc⟩ := h.cells (by simp at hne ⊢; intro h; exact absurd h hne)
  refine ⟨b, off, ha, hF, fun i hi k v hv => hc i (by simp at hi ⊢; omega) k v (by simp only at hi ⊢; rw [List.getElem_append_left hi]; exact hv)⟩
theorem owns_take {w : World} {base : Nat} {e : TypeId} {sz : Nat} {a : Option Addr} {cap n m : Nat} {xs ys : List Value} (h : w.ownsRow base e sz (.slice a (n + m) cap) (n + m) (xs ++ ys)) (hx : xs.length = n * sz) (hm : 0 < n + m) : w.ownsRow base e sz (.slice a n cap) n xs := by
  refine ⟨hx, ?_⟩
  rcases h.2 with ⟨h1, h2⟩ | ⟨g, cap', cur, h1, hb, hg, hnc, hcm, hcs, ht⟩
  · omega
  · cases h1
    refine .inr ⟨g, cap, cur, rfl, hb, hg, by omega, hcm, hcs, ?_⟩
    have h1 := congrArg (List.take (n * sz)) ht
    rw [List.take_take, Nat.min_eq_left (Nat.mul_le_mul_right _ (by omega)), List.take_left' hx] at h1
    exact h1
/-- A piece that a call has made, out. -/
theorem own_some {w : World} {base : Nat} {e : TypeId} {sz n : Nat} {v : Value} {xs : List Value} (h : w.ownsRow base e sz v n xs) : ∀ b, v.ownBlock = some b → base ≤ b ∧ b < w.heap.size := fun b hb => h.lt b hb
/-- Data that came in, apart from pieces. -/
theorem far {α : Type} {cells : α → List Value} {sz : Nat} {A : AW} {w W : World} (h : Sat A w) (h0 : A.σ[0]? = some (old0 W)) {S : Nat → Prop} (hS : ∀ b, b < W.heap.size → ¬ S b) {s : Sl α} (hs : SlAt cells sz Any W s) (hc : ∀ x, 0 < (cells x).length) : SlAt cells sz (fun b => ¬ S b) w s := by
  refine ⟨hs.len, hs.le, fun hne => ?_⟩
  obtain ⟨b, off, ha, -, hh⟩ := hs.cells hne
  refine ⟨b, off, ha, hS b ?_, fun i hi k v hv => (h.ext h0) _ _ _ trivial (hh i hi k v hv)⟩
  have hp : 0 < s.xs.length := by
    rcases Nat.eq_zero_or_pos s.xs.length with h | h
    · exact absurd (List.eq_nil_of_length_eq_zero h) hne
    · exact h
  obtain ⟨v, hv⟩ : ∃ v, (cells s.xs[0])[0]? = some v := ⟨_, List.getElem?_eq_getElem (hc _)⟩
  exact cell_lt (hh 0 hp 0 v hv)
theorem Sat.far {A : AW} {w W : World} (h : Sat A w) (h0 : A.σ[0]? = some (old0 W)) {i : Nat} {c : Ch} (hi : A.σ[i]? = some c) (hne : 0 ≠ i) (hr : c.rw = true) : ∀ b, b < W.heap.size → ¬ c.F b := by
  intro b hb hcb
  exact apart_of (d := (old0 W).key) h.dis (i := i) (j := 0) (by rw [List.getElem?_map, hi]; rfl) (by rw [List.getElem?_map, h0]; rfl) (fun e => hne e.symm) hr b hcb ⟨hb, id⟩
/-- Two pieces lie apart. -/
theorem Sat.two {A : AW} {w : World} (h : Sat A w) {i j : Nat} {c d : Ch} (hi : A.σ[i]? = some c) (hj : A.σ[j]? = some d) (hne : i ≠ j) (hr : c.rw = true) : ∀ b, c.F b → ¬ d.F b :=
  fun b hcb hdb => apart_of h.dis (i := i) (j := j) (by rw [List.getElem?_map, hi]; rfl) (by rw [List.getElem?_map, hj]; rfl) hne hr b hcb hdb
/-- Behind a call that may write into some pieces, and into what it makes: they are told anew. -/
theorem Sat.turn {A : AW} {w w' : World} (h : Sat A w) (is js : List Nat) {cs kept new : List Ch} (hn : nodupB is = true) (hp : picks is A.σ = some kept) (hjs : picks js A.σ = some cs) (hij : is.all (fun q => !js.contains q) = true) (hrw : ∀ c ∈ cs, c.rw = true) (hk : Keeps (Blocks cs) w w')
    (h1 : ∀ c ∈ new, c.holds w' ∧ c.stable ∧ ∀ b, c.F b → b < w'.heap.size ∧ (Blocks cs b ∨ w.heap.size ≤ b)) (h2 : (new.map Ch.key).Pairwise Key.apart) : Sat { A with n := w'.heap.size, σ := kept ++ new } w' := by
  have hap : ∀ d ∈ kept, ∀ b, d.F b → ¬ Blocks cs b := by
    rintro d hd b hb ⟨c, hc, hcb⟩
    obtain ⟨q, hq, hqs⟩ := picks_at hp d hd
    obtain ⟨p, hp', hps⟩ := picks_at hjs c hc
    refine apart_of h.dis (i := p) (j := q) (by rw [List.getElem?_map, hps]; rfl) (by rw [List.getElem?_map, hqs]; rfl) (fun e => ?_) (hrw c hc) b hcb hb
    subst e
    have := List.all_eq_true.1 hij p hq
    simp [hp'] at this
  refine h.exch is hn hp hk hap new (fun c hc => ⟨(h1 c hc).1, (h1 c hc).2.1, fun b hb => ((h1 c hc).2.2 b hb).1⟩) h2 ?_
  intro d hd c hc _ b hb hcb
  rcases ((h1 c hc).2.2 b hcb).2 with h3 | h3
  · exact hap d hd b hb h3
  · have := h.bnd d (picks_mem hp d hd) b hb
    rw [← h.size] at this; omega
end Go.Proofs.YtnjhekfgmbpmlaaDoor.Eng
