/- The engine, eleventh part: rows that grow while an old header is still read; pieces that are put away to be read alone; pieces that a call spends. No conditions. -/
import Derived.Test.YtnjhekfgmbpmlaaDoorEngJ
namespace Go.Proofs.YtnjhekfgmbpmlaaDoor.Eng
open Go Go.Proofs.YtnjhekfgmbpmlaaDoor.Mem
set_option linter.unusedSimpArgs false
set_option linter.unusedVariables false

/-- append, and what becomes of the row that was: it has grown in its place, or it stands. -/
theorem app_keep {P : Program} {w : World} (base : Nat) (t ty e : TypeId) (i : TypeInfo) (z : Value) (ht : P.underlying t = some (.slice e)) (hi : P.info? e = some i) (hz : i.zero = some z) (hzs : z.cells.size = i.size) (hsz : 0 < i.size)
    (v : Value) (n : Nat) (xs : List Value) (hown : w.ownsRow base e i.size v n xs) (a : Addr) (m c : Nat) (news : List Value) (hl : news.length = m * i.size) (hnews : ∀ j u, news[j]? = some u → w.cell? (a.add j) = some u) (h1 : ∀ u ∈ news, u.oneCell' = true)
    (h63 : n + m ≤ maxLen) (hbytes : (n + m) * i.bytes ≤ 140737488355328) (hbase : base ≤ w.heap.size) :
    ∃ v' w', (Builtin.append_ #[t, t] ty #[v, .slice (some a) m c]).run P w = .ok v' w' ∧ w'.ownsRow base e i.size v' (n + m) (xs ++ news) ∧ w.grownBy w' v.ownBlock ∧ (v'.ownBlock = v.ownBlock ∨ (v'.ownBlock = some w.heap.size ∧ w.grownBy w' none)) := by
  have hsmall : n + m ≤ 9223372036854775807 := by simp only [maxLen] at h63; omega
  obtain ⟨v', w', hr, ho, hg, hnil, hat⟩ := run_append_own_at (P := P) w base t ty e i z i.size i.bytes ht hi hz rfl rfl hzs hsz v n xs hown a m c news hl hnews h1 h63 hbytes hbase
  refine ⟨v', w', hr, ho, hg, ?_⟩
  rcases hown.2 with ⟨rfl, h0⟩ | ⟨g, cap, cur, rfl, hbg, hg', hnc, hcm, hcs, htake⟩
  · rcases hat with h | h
    · exact .inl h
    · exact .inr ⟨h, hg⟩
  · by_cases hroom : n + m ≤ cap
    · have hfit : n * i.size + news.length ≤ cur.size := by rw [hl, hcs, ← Nat.add_mul]; exact Nat.mul_le_mul_right _ hroom
      have hr2 := run_append_room (P := P) w t ty e i ht hi g n cap cur hg' a m c news hl hnews h1 hroom hfit
      rw [hr] at hr2
      injection hr2 with e1 e2
      subst e1
      exact .inl rfl
    · have holds : ∀ j u, xs[j]? = some u → w.cell? ((⟨g, 0, none⟩ : Addr).add j) = some u := hown.cells (g := g) rfl
      have hr2 := run_append_grow (P := P) w t ty e i z ht hi hz ⟨g, 0, none⟩ n cap xs hown.1 holds a m c news hl hnews (by omega) (by omega) (growslice_fits (by omega) hbytes)
      rw [hr] at hr2
      injection hr2 with e1 e2
      subst e1; subst e2
      exact .inr ⟨rfl, ⟨rfl, rfl, rfl, by simp, fun k hk _ => heap_alloc_old w.drew _ hk⟩⟩

/-- A piece that has turned within its own blocks and a new one. -/
theorem Sat.grow {A : AW} {w w' : World} (h : Sat A w) {i : Nat} {c c' : Ch} (hi : A.σ[i]? = some c) (hrw : c.rw = true) (hrw' : c'.rw = true) (hk : Keeps c.F w w') (hh : c'.holds w') (hst : c'.stable)
    (hF : ∀ b, c'.F b → c.F b ∨ b = w.heap.size) (hb : ∀ b, c'.F b → b < w'.heap.size) : Sat { A with n := w'.heap.size, σ := A.σ.set i c' } w' := by
  obtain ⟨hlt, hix⟩ := List.getElem?_eq_some_iff.1 hi
  have hsize : A.n ≤ w'.heap.size := by have := hk.size; rw [h.size] at this; exact this
  have hap : ∀ j d, j ≠ i → A.σ[j]? = some d → ∀ b, d.F b → ¬ c.F b := by
    intro j d hji hj b hd hb
    exact apart_of h.dis (i := i) (j := j) (by rw [List.getElem?_map, hi]; rfl) (by rw [List.getElem?_map, hj]; rfl) (Ne.symm hji) hrw b hb hd
  refine ⟨hk.os.trans h.os, hk.tape.trans h.tape, hk.output.trans h.output, rfl, ?_, ?_, ?_, ?_⟩
  · intro d hd
    obtain ⟨j, hj⟩ := List.getElem?_of_mem hd
    by_cases hij : i = j
    · subst hij; rw [List.getElem?_set_self hlt] at hj; cases hj; exact hh
    · rw [List.getElem?_set_ne hij] at hj
      have hm := List.mem_of_getElem? hj
      exact h.stb d hm w w' (fun b hbd => hk.block b (by rw [h.size]; exact h.bnd d hm b hbd) (hap j d (Ne.symm hij) hj b hbd)) (h.all d hm)
  · intro d hd b hbd
    show b < w'.heap.size
    rcases List.mem_or_eq_of_mem_set hd with hd | rfl
    · have := h.bnd d hd b hbd; omega
    · exact hb b hbd
  · intro d hd
    rcases List.mem_or_eq_of_mem_set hd with hd | rfl
    · exact h.stb d hd
    · exact hst
  · show ((A.σ.set i _).map Ch.key).Pairwise Key.apart
    rw [List.map_set, List.pairwise_iff_getElem]
    intro p q hp hq hpq
    simp only [List.length_set, List.length_map] at hp hq
    have key : ∀ j (hj : j < A.σ.length), j ≠ i → Key.apart (Ch.key c') (Ch.key A.σ[j]) := by
      intro j hj hji _ b hbc hd
      have hjs : A.σ[j]? = some A.σ[j] := by simp [hj]
      rcases hF b hbc with e1 | e1
      · exact hap j _ hji hjs b hd e1
      · have := h.bnd _ (List.mem_of_getElem? hjs) b hd
        rw [← h.size] at this; omega
    simp only [List.getElem_set, List.getElem_map]
    by_cases h1 : i = p
    · subst h1
      rw [if_pos rfl, if_neg (by omega)]
      exact key q hq (by omega)
    · rw [if_neg h1]
      by_cases h2 : i = q
      · subst h2; rw [if_pos rfl]; exact Key.apart_symm (key p hp (by omega))
      · rw [if_neg h2]
        exact apart_at h.dis (i := p) (j := q) (by simp [hp]) (by simp [hq]) (by omega)

/-- An old header: what it read when the row began to grow. -/
structure HdAt {α : Type} (cells : α → List Value) (w : World) (hd : Sl α) : Prop where
  len : hd.xs.length ≤ 140737488351232
  le : hd.xs.length ≤ hd.cap
  cells : hd.xs ≠ [] → ∃ g, hd.a = some ⟨g, 0, none⟩ ∧ g < w.heap.size ∧ ∀ (j : Nat) (u : Value), (hd.xs.flatMap cells)[j]? = some u → w.cell? ⟨g, j, none⟩ = some u
def rowO {α : Type} (base : Nat) (e : TypeId) (sz : Nat) (cells : α → List Value) (hd : Sl α) (v : Value) (xs : List α) : Ch :=
  .inv (fun b => v.ownBlock = some b ∨ hd.val.ownBlock = some b) (fun w => w.ownsRow base e sz v xs.length (xs.flatMap cells) ∧ HdAt cells w hd ∧ (v.ownBlock = hd.val.ownBlock → hd.xs <+: xs)) true
theorem own_a {α : Type} {hd : Sl α} {g : Nat} (h : hd.a = some ⟨g, 0, none⟩) : hd.val.ownBlock = some g := by
  obtain ⟨a, cap, xs⟩ := hd; simp only at h; subst h; rfl
theorem HdAt.same {α : Type} {cells : α → List Value} {w w' : World} {hd : Sl α} (h : HdAt cells w hd) (hb : ∀ b, hd.val.ownBlock = some b → w'.heap[b]? = w.heap[b]?) : HdAt cells w' hd :=
  ⟨h.len, h.le, fun hne => by
    obtain ⟨g, ha, hlt, hc⟩ := h.cells hne
    have hbg := hb g (own_a ha)
    refine ⟨g, ha, ?_, fun j u hu => ?_⟩
    · rcases Nat.lt_or_ge g w'.heap.size with h1 | h1
      · exact h1
      · rw [Array.getElem?_eq_none h1, Array.getElem?_eq_getElem hlt] at hbg; cases hbg
    · rw [← hc j u hu]
      simp only [World.cell?, hbg]⟩
theorem rowO_stable {α : Type} (base : Nat) (e : TypeId) (sz : Nat) (cells : α → List Value) (hd : Sl α) (v : Value) (xs : List α) : (rowO base e sz cells hd v xs).stable :=
  fun w w' h hw => ⟨owns_same (fun b hb => h b (.inl hb)) hw.1, hw.2.1.same (fun b hb => h b (.inr hb)), hw.2.2⟩
theorem row_hd {α : Type} {base : Nat} {e : TypeId} {sz : Nat} {cells : α → List Value} {a : Option Addr} {cap : Nat} {xs : List α} {w : World} (h : w.ownsRow base e sz (.slice a xs.length cap) xs.length (xs.flatMap cells)) (hl : xs.length ≤ 140737488351232) : HdAt cells w ⟨a, cap, xs⟩ := by
  rcases h.2 with ⟨h1, h2⟩ | ⟨g, cap', cur, h1, hb, hg, hnc, hcm, hcs, ht⟩
  · have hx : xs = [] := List.eq_nil_of_length_eq_zero h2
    subst hx
    exact ⟨Nat.zero_le _, Nat.zero_le _, fun hne => absurd rfl hne⟩
  · cases h1
    refine ⟨hl, hnc, fun _ => ⟨g, rfl, (Array.getElem?_eq_some_iff.1 hg).1, fun j u hu => ?_⟩⟩
    have := h.cells (g := g) rfl j u hu
    have e1 : (⟨g, 0, none⟩ : Addr).add j = ⟨g, j, none⟩ := by rw [addr_eta rfl]; simp
    rwa [e1] at this
theorem pre_flat {α : Type} {cells : α → List Value} {xs ys : List α} (h : xs <+: ys) : ∀ (j : Nat) (u : Value), (xs.flatMap cells)[j]? = some u → (ys.flatMap cells)[j]? = some u := by
  obtain ⟨r, rfl⟩ := h
  intro j u hu
  have hlt := (List.getElem?_eq_some_iff.1 hu).1
  rw [List.flatMap_append, List.getElem?_append_left hlt]; exact hu
theorem own_cellF {base : Nat} {e : TypeId} {sz n : Nat} {v : Value} {xs : List Value} {w : World} (h : w.ownsRow base e sz v n xs) {g : Nat} (hv : v.ownBlock = some g) : ∀ (j : Nat) (u : Value), xs[j]? = some u → w.cell? ⟨g, j, none⟩ = some u := by
  rcases h.2 with ⟨rfl, -⟩ | ⟨g', cap', cur, rfl, -, -, -, -, -, -⟩
  · cases hv
  · have hg : g' = g := by simpa [Value.ownBlock] using hv
    subst hg
    intro j u hu
    have := h.cells (g := g') rfl j u hu
    have e1 : (⟨g', 0, none⟩ : Addr).add j = ⟨g', j, none⟩ := by rw [addr_eta rfl]; simp
    rwa [e1] at this
/-- One thing more. -/
theorem rowO_grow {α : Type} {base : Nat} {e : TypeId} {sz : Nat} {cells : α → List Value} {hd : Sl α} {v v' : Value} {xs ys : List α} {w w' : World} (h : (rowO base e sz cells hd v xs).holds w) (ho : w'.ownsRow base e sz v' (xs ++ ys).length ((xs ++ ys).flatMap cells)) (hg : w.grownBy w' v.ownBlock)
    (hat : v'.ownBlock = v.ownBlock ∨ (v'.ownBlock = some w.heap.size ∧ w.grownBy w' none)) : (rowO base e sz cells hd v' (xs ++ ys)).holds w' := by
  obtain ⟨h1, h2, h3⟩ := h
  have hsize := hg.size
  refine ⟨ho, ⟨h2.len, h2.le, fun hne => ?_⟩, fun heq => ?_⟩
  · obtain ⟨g, ha, hlt, hc⟩ := h2.cells hne
    refine ⟨g, ha, Nat.lt_of_lt_of_le hlt hsize, fun j u hu => ?_⟩
    by_cases hgv : v.ownBlock = some g
    · rcases hat with hat | ⟨-, hn⟩
      · exact own_cellF ho (by rw [hat, hgv]) j u (pre_flat ((h3 (by rw [hgv, own_a ha])).trans (List.prefix_append _ _)) j u hu)
      · rw [← hc j u hu]; simp only [World.cell?, hn.block g hlt (by simp)]
    · rw [← hc j u hu]; simp only [World.cell?, hg.block g hlt (fun e1 => hgv e1.symm)]
  · rcases hat with hat | ⟨hat, -⟩
    · exact (h3 (by rw [← hat, heq])).trans (List.prefix_append _ _)
    · by_cases hne : hd.xs = []
      · rw [hne]; exact List.nil_prefix
      · obtain ⟨g, ha, hlt, hc⟩ := h2.cells hne
        rw [own_a ha, hat] at heq
        simp only [Option.some.injEq] at heq
        omega
/-- A row begins to grow beside its header. -/
theorem Sat.rowO {α : Type} {A : AW} {w : World} (h : Sat A w) {i : Nat} {base : Nat} {e : TypeId} {sz : Nat} {cells : α → List Value} {a : Option Addr} {cap : Nat} {xs : List α} (hi : A.σ[i]? = some (rowL base e sz cells (.slice a xs.length cap) xs)) (hl : xs.length ≤ 140737488351232) : Sat { A with σ := A.σ.set i (rowO base e sz cells ⟨a, cap, xs⟩ (.slice a xs.length cap) xs) } w := by
  refine h.conv hi ?_ (fun hw => ⟨hw, row_hd hw hl, fun _ => List.prefix_refl _⟩) (rowO_stable _ _ _ _ _ _ _)
  show (_, true) = (_, true)
  congr 1
  funext b
  apply propext
  exact ⟨fun x => x.elim id id, .inl⟩
theorem lt_own {base : Nat} {e : TypeId} {sz n : Nat} {v : Value} {xs : List Value} {w : World} (h : w.ownsRow base e sz v n xs) : ∀ b, v.ownBlock = some b → b < w.heap.size := fun b hb => (h.lt b hb).2

/-! ### Pieces that are put away -/
def frz (S : Nat → Prop) (ws : World) : Ch := .inv S (fun w => ∀ b, S b → w.heap[b]? = ws.heap[b]?) true
theorem frz_stable (S : Nat → Prop) (ws : World) : (frz S ws).stable := fun w1 w2 h hw b hb => (h b hb).trans (hw b hb)
theorem frz_cell {S : Nat → Prop} {ws : World} {b k : Nat} {v : Value} (hF : S b) (h : ws.cell? ⟨b, k, none⟩ = some v) : ∀ w', (frz S ws).holds w' → w'.cell? ⟨b, k, none⟩ = some v := fun w' hw => cell_of (hw b hF) h
theorem frz_ext {S : Nat → Prop} {ws w : World} (h : (frz S ws).holds w) : Ext S ws w := fun b k v hb hv => cell_of (h b hb) hv
/-- A piece is put to those that are put away. -/
theorem Sat.frz {A : AW} {w : World} (h : Sat A w) (i j : Nat) (is : List Nat) {S : Nat → Prop} {ws : World} {c : Ch} {kept : List Ch} (hi : A.σ[i]? = some (frz S ws)) (hj : A.σ[j]? = some c) (hr : c.rw = true) (hnd : nodupB is = true) (hni : is.contains i = false) (hnj : is.contains j = false) (hp : picks is A.σ = some kept) : Sat { A with σ := kept ++ [Eng.frz (fun b => S b ∨ c.F b) w] } w := by
  have := h.exch is hnd hp (Keeps.refl (fun _ => False) w) (fun _ _ _ _ x => x) [Eng.frz (fun b => S b ∨ c.F b) w] (by
    intro d hd
    simp only [List.mem_singleton] at hd
    subst hd
    refine ⟨fun b _ => rfl, frz_stable _ _, ?_⟩
    rintro b (hb | hb)
    · rw [h.size]; exact h.bnd _ (List.mem_of_getElem? hi) b hb
    · rw [h.size]; exact h.bnd _ (List.mem_of_getElem? hj) b hb) (by simp) (by
    intro d hd d' hd' _ b hb
    simp only [List.mem_singleton] at hd'
    subst hd'
    obtain ⟨q, hq, hqs⟩ := picks_at hp d hd
    rintro (hb' | hb')
    · exact apart_of h.dis (i := i) (j := q) (by rw [List.getElem?_map, hi]; rfl) (by rw [List.getElem?_map, hqs]; rfl) (fun e => by subst e; simp [hq] at hni) rfl b hb' hb
    · exact apart_of h.dis (i := j) (j := q) (by rw [List.getElem?_map, hj]; rfl) (by rw [List.getElem?_map, hqs]; rfl) (fun e => by subst e; simp [hq] at hnj) hr b hb' hb)
  rw [h.size] at this
  exact this
theorem sl_mono {α : Type} {cells : α → List Value} {sz : Nat} {F F' : Nat → Prop} {W W' : World} {s : Sl α} (he : Ext F W W') (hF : ∀ b, F b → F' b) (h : SlAt cells sz F W s) : SlAt cells sz F' W' s :=
  ⟨h.len, h.le, fun hne => by
    obtain ⟨b, off, ha, hb, hc⟩ := h.cells hne
    exact ⟨b, off, ha, hF b hb, fun i hi k v hv => he _ _ _ hb (hc i hi k v hv)⟩⟩
theorem row_slF {α : Type} {cells : α → List Value} {sz base : Nat} {e : TypeId} {F : Nat → Prop} {w : World} {a : Option Addr} {cap : Nat} {xs : List α} (hsz : ∀ x, (cells x).length = sz) (h : w.ownsRow base e sz (.slice a xs.length cap) xs.length (xs.flatMap cells)) (hl : xs.length ≤ 140737488351232) (hF : ∀ b, (Value.slice a xs.length cap).ownBlock = some b → F b) : SlAt cells sz F w ⟨a, cap, xs⟩ := by
  have := row_sl hsz h hl
  refine ⟨this.len, this.le, fun hne => ?_⟩
  obtain ⟨b, off, ha, hb, hc⟩ := this.cells hne
  exact ⟨b, off, ha, hF b (by simp only at ha; subst ha; rfl), hc⟩
theorem hd_sl {α : Type} {cells : α → List Value} {sz : Nat} {F : Nat → Prop} {w : World} {hd : Sl α} (hsz : ∀ x, (cells x).length = sz) (h : HdAt cells w hd) (hF : ∀ b, hd.val.ownBlock = some b → F b) : SlAt cells sz F w hd :=
  ⟨h.len, h.le, fun hne => by
    obtain ⟨g, ha, -, hc⟩ := h.cells hne
    refine ⟨g, 0, ha, hF g (own_a ha), fun i hi k v hv => ?_⟩
    rw [Nat.zero_add]
    exact hc _ _ (flat_at hsz hd.xs i hi k v hv)⟩

/-! ### Pieces that a call spends -/
def Blocks (cs : List Ch) : Nat → Prop := fun b => ∃ c ∈ cs, c.F b
theorem sat_spend {w w0 : World} {n : Nat} {cs : List Ch} (h : Sat ⟨w0, n, cs⟩ w) (hrw : ∀ c ∈ cs, c.rw = true) : Sat ⟨w, n, old (Blocks cs) w :: cs⟩ w := by
  refine ⟨rfl, rfl, rfl, h.size, ?_, ?_, ?_, ?_⟩
  · intro c hc
    rcases List.mem_cons.1 hc with rfl | hc
    · exact fun _ _ _ => rfl
    · exact h.all c hc
  · intro c hc b hb
    rcases List.mem_cons.1 hc with rfl | hc
    · have := hb.1; rw [h.size] at this; exact this
    · exact h.bnd c hc b hb
  · intro c hc
    rcases List.mem_cons.1 hc with rfl | hc
    · exact old_stable _ _
    · exact h.stb c hc
  · show ((old (Blocks cs) w :: cs).map Ch.key).Pairwise Key.apart
    rw [List.map_cons, List.pairwise_cons]
    refine ⟨fun k hk _ b hb hb' => ?_, h.dis⟩
    obtain ⟨c, hc, rfl⟩ := List.mem_map.1 hk
    exact hb.2 ⟨c, hc, hb'⟩
/-- Behind a call that has spent some pieces: what it leaves of them may be said again. -/
theorem Sat.spend {A : AW} {w w' : World} (h : Sat A w) (is js : List Nat) {cs kept : List Ch} (hn : nodupB is = true) (hp : picks is A.σ = some kept) (hjs : picks js A.σ = some cs) (hij : is.all (fun q => !js.contains q) = true) (hrw : ∀ c ∈ cs, c.rw = true) (hk : Keeps (Blocks cs) w w') : Sat { A with n := w'.heap.size, σ := kept ++ [Eng.frz (Blocks cs) w'] } w' := by
  have hap : ∀ d ∈ kept, ∀ b, d.F b → ¬ Blocks cs b := by
    rintro d hd b hb ⟨c, hc, hcb⟩
    obtain ⟨q, hq, hqs⟩ := picks_at hp d hd
    obtain ⟨p, hp', hps⟩ := picks_at hjs c hc
    refine apart_of h.dis (i := p) (j := q) (by rw [List.getElem?_map, hps]; rfl) (by rw [List.getElem?_map, hqs]; rfl) (fun e => ?_) (hrw c hc) b hcb hb
    subst e
    have := List.all_eq_true.1 hij p hq
    simp [hp'] at this
  refine h.exch is hn hp hk hap [Eng.frz (Blocks cs) w'] (by
    intro d hd
    simp only [List.mem_singleton] at hd
    subst hd
    refine ⟨fun b _ => rfl, frz_stable _ _, ?_⟩
    rintro b ⟨c, hc, hcb⟩
    obtain ⟨p, hp', hps⟩ := picks_at hjs c hc
    have h1 := h.bnd c (List.mem_of_getElem? hps) b hcb
    have h2 := hk.size
    rw [h.size] at h2
    exact Nat.lt_of_lt_of_le h1 h2) (by simp) (by
    intro d hd d' hd' _ b hb
    simp only [List.mem_singleton] at hd'
    subst hd'
    exact hap d hd b hb)
/-- Behind a call: what it has made, piece by piece. -/
theorem Sat.keepsO {A : AW} {w w' w0 : World} {cs : List Ch} (h : Sat A w) (hk : Keeps (fun _ => False) w w') (hO : Sat ⟨w0, w'.heap.size, cs⟩ w') (hn : ∀ c ∈ cs, ∀ b, c.F b → A.n ≤ b) : Sat { A with n := w'.heap.size, σ := A.σ ++ cs } w' := by
  have hsz : A.n ≤ w'.heap.size := by have := hk.size; rw [h.size] at this; exact this
  refine ⟨hk.os.trans h.os, hk.tape.trans h.tape, hk.output.trans h.output, rfl, ?_, ?_, ?_, ?_⟩
  · intro c hc
    rcases List.mem_append.1 hc with hc | hc
    · exact h.stb c hc w w' (fun b hb => hk.block b (by rw [h.size]; exact h.bnd c hc b hb) id) (h.all c hc)
    · exact hO.all c hc
  · intro c hc b hb
    rcases List.mem_append.1 hc with hc | hc
    · exact Nat.lt_of_lt_of_le (h.bnd c hc b hb) hsz
    · exact hO.bnd c hc b hb
  · intro c hc
    rcases List.mem_append.1 hc with hc | hc
    · exact h.stb c hc
    · exact hO.stb c hc
  · show ((A.σ ++ cs).map Ch.key).Pairwise Key.apart
    rw [List.map_append, List.pairwise_append]
    refine ⟨h.dis, hO.dis, fun k hk' k2 hk2 _ b hb hb' => ?_⟩
    obtain ⟨c, hc, rfl⟩ := List.mem_map.1 hk'
    obtain ⟨d, hd, rfl⟩ := List.mem_map.1 hk2
    have h1 := h.bnd c hc b hb
    have h2 := hn d hd b hb'
    omega
theorem row_new {α : Type} {base : Nat} {e : TypeId} {sz : Nat} {cells : α → List Value} {v : Value} {xs : List α} {w : World} (h : (rowL base e sz cells v xs).holds w) : ∀ b, (rowL base e sz cells v xs).F b → base ≤ b := by
  intro b hb
  have h' : w.ownsRow base e sz v xs.length (xs.flatMap cells) := h
  exact (h'.lt b hb).1
theorem fam_new {α : Type} {base : Nat} {e : TypeId} {sz : Nat} {cells : α → List Value} {hs : List (Sl α)} {w : World} (h : (famC base e sz cells hs).holds w) : ∀ b, (famC base e sz cells hs).F b → base ≤ b := by
  rintro b ⟨s, hs', hb⟩
  exact ((h.1 s hs').lt b hb).1
section
variable {P : Program} {N : Nat} {env : Env} {ds : List Deferred} {A : AW} {ops : Array Oper}
theorem appO_run {α : Type} {base : Nat} {o : Oper} {e : TypeId} {sz by' : Nat} {v : Value} {ad : Addr} {m cp : Nat} (h : appA P N ops env o = some (e, sz, by', v, ad, m, cp)) {i : Nat} {hd : Sl α} {cells : α → List Value} {xs ys : List α} {a : Act} {w : World} (hst : St N env ds A a w)
    (hi : A.σ[i]? = some (rowO base e sz cells hd v xs)) (hl : (ys.flatMap cells).length = m * sz) (h1 : (ys.flatMap cells).all Value.oneCell' = true) (hnews : ∀ j u, (ys.flatMap cells)[j]? = some u → w.cell? (ad.add j) = some u) (hm : ys.length = m) (h63 : xs.length + m ≤ maxLen) (hb : (xs.length + m) * by' ≤ 140737488355328) (hbase : base ≤ A.n) :
    Region.wanted o (yielded ops a.tmps) = true ∧ inN N o.dst = true ∧ ∃ a' cap' w', (execOp a.eval o).run P w = .ok (.value (.slice a' (xs ++ ys).length cap')) w' ∧ A.n ≤ w'.heap.size ∧ Sat { A with n := w'.heap.size, σ := A.σ.set i (rowO base e sz cells hd (.slice a' (xs ++ ys).length cap') (xs ++ ys)) } w' := by
  unfold appA at h
  split at h
  · rename_i x y t u hop0 hw hk hd0
    have hop := appOf_spec hop0
    split at h
    · rename_i e' ad' m' cp' htu ht hy
      split at h
      · rename_i f' hf
        split at h
        · rename_i z' hz
          split at h
          · rename_i hsz
            simp only [Option.some.injEq, Prod.mk.injEq] at h
            obtain ⟨rfl, rfl, rfl, rfl, rfl, rfl, rfl⟩ := h
            have htu' := Nat.eq_of_beq_eq_true htu
            subst htu'
            rw [Bool.and_eq_true] at hsz
            refine ⟨wantE_sound hw hst, hd0, ?_⟩
            rw [eval_congr hst hk]
            have hpc := hst.mem.at hi
            obtain ⟨v', w', hr, ho, hg, hat⟩ := app_keep (P := P) base t o.type e' f' z' ht hf hz (Nat.eq_of_beq_eq_true hsz.1) (by simpa using hsz.2) (evalE env x) xs.length (xs.flatMap cells) hpc.1 ad' m' cp' (ys.flatMap cells) hl hnews (fun u hu => List.all_eq_true.1 h1 u hu) h63 hb (by rw [hst.mem.size]; exact hbase)
            have ho' : w'.ownsRow base e' f'.size v' (xs ++ ys).length ((xs ++ ys).flatMap cells) := by rw [List.length_append, hm, List.flatMap_append]; exact ho
            obtain ⟨a', cap', rfl⟩ := row_slice ho'
            have hk' : Keeps (fun k => some k = (evalE env x).ownBlock) w w' := Keeps.of_grownBy hg
            have hsize : A.n ≤ w'.heap.size := by have := hk'.size; rw [hst.mem.size] at this; exact this
            refine ⟨a', cap', w', ?_, hsize, ?_⟩
            · unfold execOp
              simp only [hop, resolve, invoke, builtin, Sem.run_bind, Sem.run_pure, Result.andThen_ok, List.map_toArray, List.map_cons, List.map_nil, hy, hr, List.length_append, hm]
            · refine hst.mem.grow hi rfl rfl ⟨hk'.os, hk'.tape, hk'.output, hk'.size, fun b hb hS => hk'.block b hb (fun e1 => hS (.inl e1.symm))⟩ (rowO_grow hpc ho' hg hat) (rowO_stable _ _ _ _ _ _ _) ?_ ?_
              · rintro b (hb1 | hb1)
                · rcases hat with e1 | ⟨e1, -⟩
                  · exact .inl (.inl (by rw [← e1]; exact hb1))
                  · rw [e1] at hb1; exact .inr (by simpa using hb1.symm)
                · exact .inl (.inr hb1)
              · rintro b (hb1 | hb1)
                · exact lt_own ho' b hb1
                · have := hst.mem.bnd _ (List.mem_of_getElem? hi) b (.inr hb1); omega
          · cases h
        · cases h
      · cases h
    · cases h
  · cases h
end
section
variable {P : Program} {N : Nat} {env : Env} {ds : List Deferred} {A : AW} {ops : Array Oper} {l : List Oper} {s : List Kt} {Q : Exit → Act → World → Prop} {c : Code}
theorem g_rowO {α : Type} (i base : Nat) (e : TypeId) (sz : Nat) (cells : α → List Value) (a : Option Addr) (cap : Nat) (xs : List α) (hl : xs.length ≤ 140737488351232) (K : G P N env ds { A with σ := A.σ.set i (rowO base e sz cells ⟨a, cap, xs⟩ (.slice a xs.length cap) xs) } c s Q) (hi : A.σ[i]? = some (rowL base e sz cells (.slice a xs.length cap) xs) := by rfl) : G P N env ds A c s Q :=
  fun a' w hst => K a' w ⟨hst.sz, hst.df, hst.kn, hst.mem.rowO hi hl⟩
theorem g_frz0 (w0 : World) (K : G P N env ds { A with σ := A.σ ++ [frz (fun _ => False) w0] } c s Q) : G P N env ds A c s Q :=
  fun a w hst => K a w ⟨hst.sz, hst.df, hst.kn, hst.mem.more _ (fun _ h => h.elim) (frz_stable _ _) (fun _ h => h)⟩
theorem g_frz (i j : Nat) (is : List Nat) (S : Nat → Prop) (ws : World) (c0 : Ch) (kept : List Ch) (K : ∀ w1 S2, Ext S ws w1 → (∀ b, S b → S2 b) → (∀ b, c0.F b → S2 b) → c0.holds w1 → w1.heap.size = A.n → G P N env ds { A with σ := kept ++ [frz S2 w1] } c s Q)
    (hi : A.σ[i]? = some (frz S ws) := by rfl) (hj : A.σ[j]? = some c0 := by rfl) (hr : c0.rw = true := by rfl) (hnd : nodupB is = true := by rfl) (hni : is.contains i = false := by rfl) (hnj : is.contains j = false := by rfl) (hp : picks is A.σ = some kept := by rfl) : G P N env ds A c s Q :=
  fun a w hst => K w _ (frz_ext (hst.mem.at hi)) (fun _ h => .inl h) (fun _ h => .inr h) (hst.mem.at hj) hst.mem.size a w ⟨hst.sz, hst.df, hst.kn, hst.mem.frz i j is hi hj hr hnd hni hnj hp⟩
/-- Several pieces at once. -/
theorem g_frzs (is js : List Nat) (cs kept : List Ch) (K : ∀ w1 S2, (∀ c0 ∈ cs, ∀ b, c0.F b → S2 b) → (∀ c0 ∈ cs, c0.holds w1) → w1.heap.size = A.n → G P N env ds { A with σ := kept ++ [frz S2 w1] } c s Q)
    (hn : nodupB is = true := by rfl) (hp : picks is A.σ = some kept := by rfl) (hjs : picks js A.σ = some cs := by rfl) (hij : is.all (fun q => !js.contains q) = true := by rfl) (hrw : cs.all Ch.rw = true := by rfl) : G P N env ds A c s Q := by
  intro a w hst
  have hs := hst.mem.spend is js hn hp hjs hij (fun c0 hc => List.all_eq_true.1 hrw c0 hc) (Keeps.refl (Blocks cs) w)
  rw [hst.mem.size] at hs
  refine K w _ (fun c0 hc b hb => ⟨c0, hc, hb⟩) (fun c0 hc => ?_) hst.mem.size a w ⟨hst.sz, hst.df, hst.kn, hs⟩
  obtain ⟨q, hq, hqs⟩ := picks_at hjs c0 hc
  exact hst.mem.all c0 (List.mem_of_getElem? hqs)
/-- The next operation appends what lies in a block that is known whole to a row that grows beside its header. -/
theorem l_pushO {α : Type} (base i j : Nat) (hd : Sl α) (xs ys : List α) (cells : α → List Value) (e : TypeId) (sz by' : Nat) (v : Value) (b m cp : Nat) (cs : Array Value) (t : TypeId) (fr : Nat × Nat) (rw' : Bool) (d : Option Nat)
    (h63 : xs.length + ys.length ≤ 1000000000000) (hbase : base ≤ A.n)
    (K : ∀ a' cap' n', A.n ≤ n' → Lg P N (putE env d (.slice a' (xs ++ ys).length cap')) ds { A with n := n', σ := A.σ.set i (rowO base e sz cells hd (.slice a' (xs ++ ys).length cap') (xs ++ ys)) } ops (l.drop 1) s Q)
    (h : (match l with | o :: _ => (appA P N ops env o).map (fun x => (x, o.dst)) | [] => none) = some ((e, sz, by', v, ⟨b, 0, none⟩, m, cp), d) := by as_aux_lemma => kernel_rfl) (hi : A.σ[i]? = some (rowO base e sz cells hd v xs) := by rfl) (hj : A.σ[j]? = some (.blk b (.cells cs t fr) rw') := by rfl) (hn : cs.toList = ys.flatMap cells := by rfl) (hm : ys.length = m := by rfl)
    (hl : Nat.beq (ys.flatMap cells).length (ys.length * sz) = true := by as_aux_lemma => kernel_rfl) (h1 : (ys.flatMap cells).all Value.oneCell' = true := by as_aux_lemma => kernel_rfl) (hb : Nat.ble by' 140 = true := by as_aux_lemma => kernel_rfl) : Lg P N env ds A ops l s Q := by
  intro a w hst
  have hb' := Nat.le_of_ble_eq_true hb
  subst hm
  cases l with
  | nil => cases h
  | cons o l =>
    simp only [Option.map_eq_some_iff] at h
    obtain ⟨y, hy, h⟩ := h
    simp only [Prod.mk.injEq] at h
    obtain ⟨rfl, rfl⟩ := h
    obtain ⟨hw, hdst, a', cap', w', hr, hsz, hs'⟩ := appO_run (xs := xs) (ys := ys) hy hst hi (Nat.eq_of_beq_eq_true hl) h1 (news_blk hst.mem hj hn) rfl (by unfold maxLen; omega) (Nat.le_trans (Nat.mul_le_mul h63 hb') (by decide)) hbase
    refine step_yields hw (.inl hr) ?_
    exact K a' cap' _ hsz _ _ (hst.put hs' _ hdst _)
end
end Go.Proofs.YtnjhekfgmbpmlaaDoor.Eng
