/- The engine, fifth part: a call's world, pieces dropped and laid anew, what a function may turn; rows that grow. No conditions. -/
import Derived.Test.YtnjhekfgmbpmlaaDoorEngD
import Derived.Test.YtnjhekfgmbpmlaaDoorMem
import Derived.Maps.AppendAt
namespace Go.Proofs.YtnjhekfgmbpmlaaDoor.Eng
open Go Go.Proofs.YtnjhekfgmbpmlaaDoor.Mem
set_option linter.unusedSimpArgs false
set_option linter.unusedVariables false

def nodupB : List Nat → Bool
  | [] => true
  | x :: r => !(r.contains x) && nodupB r
theorem nodup_of : ∀ {l : List Nat}, nodupB l = true → l.Nodup
  | [], _ => List.nodup_nil
  | x :: r, h => by
    simp only [nodupB, Bool.and_eq_true, Bool.not_eq_true', List.contains_eq_mem, decide_eq_false_iff_not] at h
    exact List.nodup_cons.2 ⟨h.1, nodup_of h.2⟩

theorem Key.apart_symm {c d : Key} (h : Key.apart c d) : Key.apart d c := fun hr b hb hc => h (hr.symm) b hc hb
theorem apart_at {l : List Key} (h : l.Pairwise Key.apart) {i j : Nat} {c d : Key} (hi : l[i]? = some c) (hj : l[j]? = some d) (hij : i ≠ j) : Key.apart c d := by
  obtain ⟨hi', rfl⟩ := List.getElem?_eq_some_iff.1 hi
  obtain ⟨hj', rfl⟩ := List.getElem?_eq_some_iff.1 hj
  rcases Nat.lt_or_gt_of_ne hij with hlt | hlt
  · exact List.pairwise_iff_getElem.1 h i j hi' hj' hlt
  · exact Key.apart_symm (List.pairwise_iff_getElem.1 h j i hj' hi' hlt)

theorem picks_at : ∀ {is : List Nat} {l cs : List Ch}, picks is l = some cs → ∀ c ∈ cs, ∃ i ∈ is, l[i]? = some c
  | [], _, _, h, c, hc => by simp [picks] at h; subst h; cases hc
  | i :: r, l, cs, h, c, hc => by
    simp only [picks] at h
    split at h
    · rename_i d ds hd hds
      simp only [Option.some.injEq] at h; subst h
      rcases List.mem_cons.1 hc with rfl | hc
      · exact ⟨i, by simp, hd⟩
      · obtain ⟨j, hj, hl⟩ := picks_at hds c hc
        exact ⟨j, by simp [hj], hl⟩
    · cases h

theorem picks_apart {l : List Ch} (h : (l.map Ch.key).Pairwise Key.apart) : ∀ {is : List Nat} {cs : List Ch}, is.Nodup → picks is l = some cs → (cs.map Ch.key).Pairwise Key.apart
  | [], _, _, h => by simp [picks] at h; subst h; simp
  | i :: r, cs, hn, hp => by
    simp only [picks] at hp
    split at hp
    · rename_i d ds hd hds
      simp only [Option.some.injEq] at hp; subst hp
      rw [List.nodup_cons] at hn
      simp only [List.map_cons, List.pairwise_cons]
      refine ⟨?_, picks_apart h hn.2 hds⟩
      intro k hk
      obtain ⟨c, hc, rfl⟩ := List.mem_map.1 hk
      obtain ⟨j, hj, hl⟩ := picks_at hds c hc
      exact apart_at h (i := i) (j := j) (by rw [List.getElem?_map, hd]; rfl) (by rw [List.getElem?_map, hl]; rfl) (fun e => hn.1 (e ▸ hj))
    · cases hp

/-- Some of the pieces, in another order. -/
theorem Sat.pick {A : AW} {w : World} (h : Sat A w) (is : List Nat) {σ' : List Ch} (hn : nodupB is = true) (hp : picks is A.σ = some σ') : Sat { A with σ := σ' } w :=
  ⟨h.os, h.tape, h.output, h.size, fun c hc => h.all c (picks_mem hp c hc), fun c hc => h.bnd c (picks_mem hp c hc), fun c hc => h.stb c (picks_mem hp c hc), picks_apart h.dis (nodup_of hn) hp⟩

/-- The world turns in M alone; what lies apart from M is kept; new pieces are laid behind. -/
theorem Sat.exch {A : AW} {w w' : World} {M : Nat → Prop} (h : Sat A w) (is : List Nat) {kept : List Ch} (hn : nodupB is = true) (hp : picks is A.σ = some kept) (hk : Keeps M w w') (hM : ∀ c ∈ kept, ∀ b, c.F b → ¬ M b) (new : List Ch)
    (h1 : ∀ c ∈ new, c.holds w' ∧ c.stable ∧ ∀ b, c.F b → b < w'.heap.size) (h2 : (new.map Ch.key).Pairwise Key.apart) (h3 : ∀ c ∈ kept, ∀ d ∈ new, Key.apart c.key d.key) : Sat { A with n := w'.heap.size, σ := kept ++ new } w' := by
  refine ⟨hk.os.trans h.os, hk.tape.trans h.tape, hk.output.trans h.output, rfl, ?_, ?_, ?_, ?_⟩
  · intro c hc
    rcases List.mem_append.1 hc with hc | hc
    · have hm := picks_mem hp c hc
      exact h.stb c hm w w' (fun b hb => hk.block b (by rw [h.size]; exact h.bnd c hm b hb) (hM c hc b hb)) (h.all c hm)
    · exact (h1 c hc).1
  · intro c hc b hb
    rcases List.mem_append.1 hc with hc | hc
    · have := h.bnd c (picks_mem hp c hc) b hb
      have h2 := hk.size
      rw [h.size] at h2
      show b < w'.heap.size
      omega
    · exact (h1 c hc).2.2 b hb
  · intro c hc
    rcases List.mem_append.1 hc with hc | hc
    · exact h.stb c (picks_mem hp c hc)
    · exact (h1 c hc).2.1
  · show ((kept ++ new).map Ch.key).Pairwise Key.apart
    rw [List.map_append, List.pairwise_append]
    refine ⟨picks_apart h.dis (nodup_of hn) hp, h2, ?_⟩
    intro x hx y hy
    obtain ⟨c, hc, rfl⟩ := List.mem_map.1 hx
    obtain ⟨d, hd, rfl⟩ := List.mem_map.1 hy
    exact h3 c hc d hd

/-- A call that turns nothing that was there: all pieces stand. -/
theorem Sat.keeps {A : AW} {w w' : World} (h : Sat A w) (hk : Keeps (fun _ => False) w w') : Sat { A with n := w'.heap.size } w' := by
  refine ⟨hk.os.trans h.os, hk.tape.trans h.tape, hk.output.trans h.output, rfl, fun c hc => ?_, fun c hc b hb => ?_, h.stb, h.dis⟩
  · exact h.stb c hc w w' (fun b hb => hk.block b (by rw [h.size]; exact h.bnd c hc b hb) id) (h.all c hc)
  · have := h.bnd c hc b hb
    have h2 := hk.size
    rw [h.size] at h2
    show b < w'.heap.size
    omega
/-- .. and one piece more: of blocks that the call has made. -/
theorem Sat.keeps1 {A : AW} {w w' : World} (h : Sat A w) (hk : Keeps (fun _ => False) w w') (c : Ch) (hc : c.holds w') (hst : c.stable) (hF : ∀ b, c.F b → A.n ≤ b ∧ b < w'.heap.size) : Sat { A with n := w'.heap.size, σ := A.σ ++ [c] } w' := by
  have h' := h.keeps hk
  refine ⟨h'.os, h'.tape, h'.output, rfl, ?_, ?_, ?_, ?_⟩
  · intro d hd
    rcases List.mem_append.1 hd with hd | hd
    · exact h'.all d hd
    · simp only [List.mem_singleton] at hd; subst hd; exact hc
  · intro d hd b hb
    rcases List.mem_append.1 hd with hd | hd
    · exact h'.bnd d hd b hb
    · simp only [List.mem_singleton] at hd; subst hd; exact (hF b hb).2
  · intro d hd
    rcases List.mem_append.1 hd with hd | hd
    · exact h'.stb d hd
    · simp only [List.mem_singleton] at hd; subst hd; exact hst
  · show ((A.σ ++ [c]).map Ch.key).Pairwise Key.apart
    rw [List.map_append, List.pairwise_append]
    refine ⟨h.dis, by simp, ?_⟩
    intro x hx y hy _ b hb hb'
    simp only [List.map_cons, List.map_nil, List.mem_singleton] at hy
    subst hy
    obtain ⟨d, hd, rfl⟩ := List.mem_map.1 hx
    have h1 := h.bnd d hd b hb
    have h2 := (hF b hb').1
    omega

/-! ### What stood when the call began -/
/-- All blocks that stood, but those of S. -/
def old (S : Nat → Prop) (w : World) : Ch := .inv (fun b => b < w.heap.size ∧ ¬ S b) (fun w' => ∀ b, b < w.heap.size → ¬ S b → w'.heap[b]? = w.heap[b]?) false
theorem old_stable (S : Nat → Prop) (w : World) : (old S w).stable := fun w1 w2 h hw b hb hS => (h b ⟨hb, hS⟩).trans (hw b hb hS)
theorem sat_old (w : World) : Sat ⟨w, w.heap.size, [old (fun _ => False) w]⟩ w := by
  refine ⟨rfl, rfl, rfl, rfl, ?_, ?_, ?_, by simp⟩
  · intro c hc; simp only [List.mem_singleton] at hc; subst hc; exact fun _ _ _ => rfl
  · intro c hc b hb; simp only [List.mem_singleton] at hc; subst hc; exact hb.1
  · intro c hc; simp only [List.mem_singleton] at hc; subst hc; exact old_stable _ _
/-- .. with pieces of S that may be turned. -/
theorem sat_oldS (w : World) (S : Nat → Prop) (new : List Ch) (h1 : ∀ c ∈ new, c.holds w ∧ c.stable ∧ ∀ b, c.F b → b < w.heap.size ∧ S b) (h2 : (new.map Ch.key).Pairwise Key.apart) : Sat ⟨w, w.heap.size, old S w :: new⟩ w := by
  refine ⟨rfl, rfl, rfl, rfl, ?_, ?_, ?_, ?_⟩
  · intro c hc
    rcases List.mem_cons.1 hc with rfl | hc
    · exact fun _ _ _ => rfl
    · exact (h1 c hc).1
  · intro c hc b hb
    rcases List.mem_cons.1 hc with rfl | hc
    · exact hb.1
    · exact ((h1 c hc).2.2 b hb).1
  · intro c hc
    rcases List.mem_cons.1 hc with rfl | hc
    · exact old_stable _ _
    · exact (h1 c hc).2.1
  · show ((old S w).key :: new.map Ch.key).Pairwise Key.apart
    rw [List.pairwise_cons]
    refine ⟨?_, h2⟩
    intro x hx _ b hb hb'
    obtain ⟨c, hc, rfl⟩ := List.mem_map.1 hx
    exact hb.2 ((h1 c hc).2.2 b hb').2
theorem Sat.back {A : AW} {w0 w : World} {S : Nat → Prop} (h : Sat A w) (hw : A.w0 = w0) (hn : w0.heap.size ≤ A.n) (hin : old S w0 ∈ A.σ) : Keeps S w0 w := by
  subst hw
  refine ⟨h.os, h.tape, h.output, by rw [h.size]; exact hn, fun b hb hS => ?_⟩
  exact h.all _ hin b hb hS
/-- A cell that stood. -/
theorem size_of {A : AW} {w w' : World} {S : Nat → Prop} (h : Sat A w) (hk : Keeps S w w') : A.n ≤ w'.heap.size := by have := hk.size; rw [h.size] at this; exact this
theorem back0 {w w' : World} {n : Nat} {S : Nat → Prop} {σ : List Ch} (h : Sat ⟨w, n, old S w :: σ⟩ w') (hn : w.heap.size ≤ n := by omega) : Keeps S w w' := h.back rfl hn (List.mem_cons_self ..)
theorem old_cell {S : Nat → Prop} {w : World} {b k : Nat} {v : Value} (h : w.cell? ⟨b, k, none⟩ = some v) (hS : ¬ S b) : ∀ w', (old S w).holds w' → w'.cell? ⟨b, k, none⟩ = some v := by
  intro w' hw
  have hlt : b < w.heap.size := by
    simp only [World.cell?] at h
    split at h
    · rename_i hb; exact (Array.getElem?_eq_some_iff.1 hb).1
    · cases h
  rw [← h]
  simp only [World.cell?]
  rw [hw b hlt hS]
theorem old_cell' {w : World} {b k : Nat} {v : Value} (h : w.cell? ⟨b, k, none⟩ = some v) : ∀ w', (old (fun _ => False) w).holds w' → w'.cell? ⟨b, k, none⟩ = some v := old_cell h id

/-! ### A row of the call's own -/
def rowC (base : Nat) (e : TypeId) (size : Nat) (v : Value) (n : Nat) (xs : List Value) : Ch := .inv (fun b => v.ownBlock = some b) (fun w => w.ownsRow base e size v n xs) true
theorem row_stable (base : Nat) (e : TypeId) (size : Nat) (v : Value) (n : Nat) (xs : List Value) : (rowC base e size v n xs).stable := by
  intro w w' h hw
  refine ⟨hw.1, ?_⟩
  rcases hw.2 with hn | ⟨g, cap, cur, rfl, hb, hgg, rest⟩
  · exact .inl hn
  · exact .inr ⟨g, cap, cur, rfl, hb, (h g (by simp [rowC, Ch.F, Value.ownBlock])).trans hgg, rest⟩

/-- A piece more, that has no blocks yet. -/
theorem Sat.more {A : AW} {w : World} (h : Sat A w) (c : Ch) (hc : c.holds w) (hst : c.stable) (hF : ∀ b, ¬ c.F b) : Sat { A with σ := A.σ ++ [c] } w := by
  refine ⟨h.os, h.tape, h.output, h.size, ?_, ?_, ?_, ?_⟩
  · intro d hd
    rcases List.mem_append.1 hd with hd | hd
    · exact h.all d hd
    · simp only [List.mem_singleton] at hd; subst hd; exact hc
  · intro d hd b hb
    rcases List.mem_append.1 hd with hd | hd
    · exact h.bnd d hd b hb
    · simp only [List.mem_singleton] at hd; subst hd; exact absurd hb (hF b)
  · intro d hd
    rcases List.mem_append.1 hd with hd | hd
    · exact h.stb d hd
    · simp only [List.mem_singleton] at hd; subst hd; exact hst
  · show ((A.σ ++ [c]).map Ch.key).Pairwise Key.apart
    rw [List.map_append, List.pairwise_append]
    refine ⟨h.dis, by simp, ?_⟩
    intro x hx y hy _ b hb hb'
    simp only [List.map_cons, List.map_nil, List.mem_singleton] at hy
    subst hy
    exact hF b hb'
theorem Sat.row {A : AW} {w : World} (h : Sat A w) (base : Nat) (e : TypeId) (size : Nat) : Sat { A with σ := A.σ ++ [rowC base e size (.slice none 0 0) 0 []] } w :=
  h.more _ (World.ownsRow_nil w base e size) (row_stable _ _ _ _ _ _) (fun b hb => by simp [rowC, Ch.F, Value.ownBlock] at hb)

section
variable {P : Program} {N : Nat} {env : Env} {ds : List Deferred} {A : AW} {ops : Array Oper} {l : List Oper} {s : List Kt} {Q : Exit → Act → World → Prop} {c : Code}
theorem l_row (base : Nat) (e : TypeId) (size : Nat) (h : Lg P N env ds { A with σ := A.σ ++ [rowC base e size (.slice none 0 0) 0 []] } ops l s Q) : Lg P N env ds A ops l s Q := fun a w hs => h a w ⟨hs.sz, hs.df, hs.kn, hs.mem.row base e size⟩
theorem g_row (base : Nat) (e : TypeId) (size : Nat) (h : G P N env ds { A with σ := A.σ ++ [rowC base e size (.slice none 0 0) 0 []] } c s Q) : G P N env ds A c s Q := fun a w hs => h a w ⟨hs.sz, hs.df, hs.kn, hs.mem.row base e size⟩
theorem g_pick (is : List Nat) (σ' : List Ch) (hn : nodupB is = true) (hp : picks is A.σ = some σ') (h : G P N env ds { A with σ := σ' } c s Q) : G P N env ds A c s Q := fun a w hs => h a w ⟨hs.sz, hs.df, hs.kn, hs.mem.pick is hn hp⟩
theorem l_pick (is : List Nat) (σ' : List Ch) (hn : nodupB is = true) (hp : picks is A.σ = some σ') (h : Lg P N env ds { A with σ := σ' } ops l s Q) : Lg P N env ds A ops l s Q := fun a w hs => h a w ⟨hs.sz, hs.df, hs.kn, hs.mem.pick is hn hp⟩
theorem e_pick {x : Exit} (is : List Nat) (σ' : List Ch) (hn : nodupB is = true) (hp : picks is A.σ = some σ') (h : E P N env ds { A with σ := σ' } x s Q) : E P N env ds A x s Q := fun a w hs => h a w ⟨hs.sz, hs.df, hs.kn, hs.mem.pick is hn hp⟩
theorem e_keep {x : Exit} (keep : List Nat) (env' : Env) (K : E P N env' ds A x s Q) (h : keepE keep env = env' := by as_aux_lemma => kernel_rfl) : E P N env ds A x s Q := fun a w hs => K a w (hs.sub (fun t v ht => look_keep (by rw [h]; exact ht)))

theorem row_slice {w : World} {base : Nat} {e : TypeId} {size n : Nat} {v : Value} {xs : List Value} (h : w.ownsRow base e size v n xs) : ∃ a cap, v = .slice a n cap := by
  rcases h.2 with ⟨rfl, rfl⟩ | ⟨g, cap, cur, rfl, -⟩
  · exact ⟨none, 0, rfl⟩
  · exact ⟨_, cap, rfl⟩

/-- append to a row of the call's own: what the operation comes to. -/
theorem run_append {base : Nat} {ρ : Operand → Value} {o : Oper} {x y : Operand} {t e : TypeId} {f : TypeInfo} {z : Value} {i : Nat} {v : Value} {n : Nat} {xs : List Value} {ad : Addr} {m cp : Nat} {news : List Value}
    (ho : o.op = .call { callee := .builtin .append, args := #[x, y], argTypes := #[t, t] }) (ht : P.underlying t = some (.slice e)) (hf : P.info? e = some f) (hz : f.zero = some z) (hzs : z.cells.size = f.size) (hsz : 0 < f.size)
    (hi : A.σ[i]? = some (rowC base e f.size v n xs)) (hx : ρ x = v) (hy : ρ y = .slice (some ad) m cp) (hl : news.length = m * f.size) (h1 : ∀ u ∈ news, u.oneCell' = true) {w : World} (hs : Sat A w) (hnews : ∀ j u, news[j]? = some u → w.cell? (ad.add j) = some u)
    (h63 : n + m ≤ maxLen) (hb : (n + m) * f.bytes ≤ 140737488355328) (hbase : base ≤ A.n) :
    ∃ a' cap' w', (execOp ρ o).run P w = .ok (.value (.slice a' (n + m) cap')) w' ∧ A.n ≤ w'.heap.size ∧ Sat { A with n := w'.heap.size, σ := A.σ.set i (rowC base e f.size (.slice a' (n + m) cap') (n + m) (xs ++ news)) } w' := by
  have hown : w.ownsRow base e f.size v n xs := hs.at hi
  obtain ⟨v', w', hr, ho', hg, -, hat⟩ := run_append_own_at (P := P) w base t o.type e f z f.size f.bytes ht hf hz rfl rfl hzs hsz v n xs hown ad m cp news hl hnews h1 h63 hb (by rw [hs.size]; exact hbase)
  obtain ⟨a', cap', rfl⟩ := row_slice ho'
  have hk : Keeps (fun k => some k = v.ownBlock) w w' := Keeps.of_grownBy hg
  have hsize : A.n ≤ w'.heap.size := by have := hk.size; rw [hs.size] at this; exact this
  refine ⟨a', cap', w', ?_, hsize, ?_⟩
  · unfold execOp
    simp only [ho, resolve, invoke, builtin, Sem.run_bind, Sem.run_pure, Result.andThen_ok, List.map_toArray, List.map_cons, List.map_nil, hx, hy, hr]
  · obtain ⟨hlt, hix⟩ := List.getElem?_eq_some_iff.1 hi
    have hvb : ∀ b, v.ownBlock = some b → b < A.n := fun b hb => hs.bnd _ (List.mem_of_getElem? hi) b hb
    have hnew : ∀ b, (Value.slice a' (n + m) cap').ownBlock = some b → v.ownBlock = some b ∨ b = w.heap.size := by
      intro b hb
      rcases hat with e1 | e1
      · exact .inl (e1 ▸ hb)
      · rw [e1] at hb; simp at hb; exact .inr hb.symm
    have hap : ∀ j d, j ≠ i → A.σ[j]? = some d → ∀ b, d.F b → v.ownBlock ≠ some b := by
      intro j d hji hj b hd hb
      exact apart_of hs.dis (i := i) (j := j) (by rw [List.getElem?_map, hi]; rfl) (by rw [List.getElem?_map, hj]; rfl) (Ne.symm hji) rfl b hb hd
    refine ⟨hk.os.trans hs.os, hk.tape.trans hs.tape, hk.output.trans hs.output, rfl, ?_, ?_, ?_, ?_⟩
    · intro d hd
      obtain ⟨j, hj⟩ := List.getElem?_of_mem hd
      by_cases hij : i = j
      · subst hij; rw [List.getElem?_set_self hlt] at hj; cases hj; exact ho'
      · rw [List.getElem?_set_ne hij] at hj
        have hm := List.mem_of_getElem? hj
        exact hs.stb d hm w w' (fun b hb => hk.block b (by rw [hs.size]; exact hs.bnd d hm b hb) (fun e1 => hap j d (Ne.symm hij) hj b hb e1.symm)) (hs.all d hm)
    · intro d hd b hb
      show b < w'.heap.size
      rcases List.mem_or_eq_of_mem_set hd with hd | rfl
      · have := hs.bnd d hd b hb; omega
      · have := ho'.lt b hb; exact this.2
    · intro d hd
      rcases List.mem_or_eq_of_mem_set hd with hd | rfl
      · exact hs.stb d hd
      · exact row_stable _ _ _ _ _ _
    · show ((A.σ.set i _).map Ch.key).Pairwise Key.apart
      rw [List.map_set, List.pairwise_iff_getElem]
      intro p q hp hq hpq
      simp only [List.length_set, List.length_map] at hp hq
      have key : ∀ j (hj : j < A.σ.length), j ≠ i → Key.apart (Ch.key (rowC base e f.size (.slice a' (n + m) cap') (n + m) (xs ++ news))) (Ch.key A.σ[j]) := by
        intro j hj hji _ b hb hd
        have hjs : A.σ[j]? = some A.σ[j] := by simp [hj]
        rcases hnew b hb with e1 | e1
        · exact hap j _ hji hjs b hd e1
        · have := hs.bnd _ (List.mem_of_getElem? hjs) b hd
          rw [← hs.size] at this; omega
      simp only [List.getElem_set, List.getElem_map]
      by_cases h1 : i = p
      · subst h1
        rw [if_pos rfl, if_neg (by omega)]
        exact key q hq (by omega)
      · rw [if_neg h1]
        by_cases h2 : i = q
        · subst h2; rw [if_pos rfl]; exact Key.apart_symm (key p hp (by omega))
        · rw [if_neg h2]
          exact apart_at hs.dis (i := p) (j := q) (by simp [hp]) (by simp [hq]) (by omega)

def appOf (o : Oper) : Option (Operand × Operand × TypeId × TypeId) := match o.op with
  | .call c => match c.callee, c.args.toList, c.argTypes.toList with
    | .builtin .append, [x, y], [t, u] => some (x, y, t, u)
    | _, _, _ => none
  | _ => none
theorem appOf_spec {o : Oper} {x y : Operand} {t u : TypeId} (h : appOf o = some (x, y, t, u)) : o.op = .call { callee := .builtin .append, args := #[x, y], argTypes := #[t, u] } := by
  unfold appOf at h
  split at h
  · rename_i c hop
    split at h
    · rename_i x' y' t' u' h1 h2 h3
      simp only [Option.some.injEq, Prod.mk.injEq] at h
      obtain ⟨rfl, rfl, rfl, rfl⟩ := h
      obtain ⟨c1, c2, c3⟩ := c
      obtain ⟨c2⟩ := c2
      obtain ⟨c3⟩ := c3
      simp only at h1 h2 h3
      subst h1 h2 h3
      exact hop
    · cases h
  · cases h

/-- The facts of an append that the program's text and the frame tell. -/
def appA (P : Program) (N : Nat) (ops : Array Oper) (env : Env) (o : Oper) : Option (TypeId × Nat × Nat × Value × Addr × Nat × Nat) := match appOf o, wantE ops env o, knownOp env o, inN N o.dst with
  | some (x, y, t, u), some true, true, true => match Nat.beq t u, P.underlying t, evalE env y with
    | true, some (.slice e), .slice (some ad) m cp => match P.info? e with
      | some f => match f.zero with
        | some z => match Nat.beq z.cells.size f.size && Nat.blt 0 f.size with
          | true => some (e, f.size, f.bytes, evalE env x, ad, m, cp)
          | false => none
        | none => none
      | none => none
    | _, _, _ => none
  | _, _, _, _ => none

theorem appA_run {base : Nat} {o : Oper} {e : TypeId} {sz by' : Nat} {v : Value} {ad : Addr} {m cp : Nat} (h : appA P N ops env o = some (e, sz, by', v, ad, m, cp)) {i n : Nat} {xs news : List Value} {a : Act} {w : World} (hst : St N env ds A a w)
    (hi : A.σ[i]? = some (rowC base e sz v n xs)) (hl : news.length = m * sz) (h1 : news.all Value.oneCell' = true) (hnews : ∀ j u, news[j]? = some u → w.cell? (ad.add j) = some u) (h63 : n + m ≤ maxLen) (hb : (n + m) * by' ≤ 140737488355328) (hbase : base ≤ A.n) :
    Region.wanted o (yielded ops a.tmps) = true ∧ inN N o.dst = true ∧ ∃ a' cap' w', (execOp a.eval o).run P w = .ok (.value (.slice a' (n + m) cap')) w' ∧ A.n ≤ w'.heap.size ∧ Sat { A with n := w'.heap.size, σ := A.σ.set i (rowC base e sz (.slice a' (n + m) cap') (n + m) (xs ++ news)) } w' := by
  unfold appA at h
  split at h
  · rename_i x y t u hop0 hw hk hd
    have hop := appOf_spec hop0
    split at h
    · rename_i e' ad' m' cp' htu ht hy
      split at h
      · rename_i f' hf
        split at h
        · rename_i z' hz
          split at h
          · rename_i hsz
            simp only [Option.some.injEq, Prod.mk.injEq] at h
            obtain ⟨rfl, rfl, rfl, rfl, rfl, rfl, rfl⟩ := h
            have htu' := Nat.eq_of_beq_eq_true htu
            subst htu'
            rw [Bool.and_eq_true] at hsz
            refine ⟨wantE_sound hw hst, hd, ?_⟩
            rw [eval_congr hst hk]
            exact run_append (ρ := evalE env) hop ht hf hz (Nat.eq_of_beq_eq_true hsz.1) (by simpa using hsz.2) hi rfl hy hl (fun u hu => List.all_eq_true.1 h1 u hu) hst.mem hnews h63 hb hbase
          · cases h
        · cases h
      · cases h
    · cases h
  · cases h

/-- The new cells: a block known whole. -/
theorem news_blk {j b : Nat} {cs : Array Value} {t : TypeId} {fr : Nat × Nat} {rw' : Bool} {w : World} (hs : Sat A w) (hj : A.σ[j]? = some (.blk b (.cells cs t fr) rw')) {news : List Value} (hn : cs.toList = news) : ∀ k u, news[k]? = some u → w.cell? ((⟨b, 0, none⟩ : Addr).add k) = some u := by
  intro k u hu
  subst hn
  have hb : w.heap[b]? = some (.cells cs t fr) := hs.at hj
  have hadd : (⟨b, 0, none⟩ : Addr).add k = ⟨b, k, none⟩ := by rw [addr_eta rfl]; simp
  rw [hadd]
  simp only [World.cell?, hb]
  simpa using hu

/-- The next operation appends what lies in a block that is known whole (number j) to a row of the call's own (number i). -/
theorem l_append (base i j n : Nat) (xs news : List Value) (e : TypeId) (sz by' : Nat) (v : Value) (b m cp : Nat) (cs : Array Value) (t : TypeId) (fr : Nat × Nat) (rw' : Bool) (d : Option Nat)
    (h : (match l with | o :: _ => (appA P N ops env o).map (fun x => (x, o.dst)) | [] => none) = some ((e, sz, by', v, ⟨b, 0, none⟩, m, cp), d)) (hi : A.σ[i]? = some (rowC base e sz v n xs)) (hj : A.σ[j]? = some (.blk b (.cells cs t fr) rw')) (hn : cs.toList = news)
    (hl : Nat.beq news.length (m * sz) = true) (h1 : news.all Value.oneCell' = true) (h63 : n + m ≤ maxLen) (hb : (n + m) * by' ≤ 140737488355328) (hbase : base ≤ A.n)
    (K : ∀ a' cap' n', A.n ≤ n' → Lg P N (putE env d (.slice a' (n + m) cap')) ds { A with n := n', σ := A.σ.set i (rowC base e sz (.slice a' (n + m) cap') (n + m) (xs ++ news)) } ops (l.drop 1) s Q) : Lg P N env ds A ops l s Q := by
  intro a w hst
  cases l with
  | nil => cases h
  | cons o l =>
    simp only [Option.map_eq_some_iff] at h
    obtain ⟨y, hy, h⟩ := h
    simp only [Prod.mk.injEq] at h
    obtain ⟨rfl, rfl⟩ := h
    obtain ⟨hw, hd, a', cap', w', hr, hsz, hs'⟩ := appA_run hy hst hi (Nat.eq_of_beq_eq_true hl) h1 (news_blk hst.mem hj hn) h63 hb hbase
    refine step_yields hw (.inl hr) ?_
    exact K a' cap' _ hsz _ _ (hst.put hs' _ hd _)
end
end Go.Proofs.YtnjhekfgmbpmlaaDoor.Eng
