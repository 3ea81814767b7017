/- The engine, eighth part: inputs are opened as plain data. No conditions. -/
import Derived.Test.YtnjhekfgmbpmlaaDoorEngG
import Derived.Deep.Slices
import Derived.SizedLaws
import Derived.WideShapes
import Derived.DataReads
namespace Go.Proofs.YtnjhekfgmbpmlaaDoor.Eng
open Go Go.ChangeShapes Go.WideShapes Go.Deep
set_option linter.unusedSimpArgs false
set_option linter.unusedVariables false

theorem weightsAll_mem {H : Type} {P : Program} {e : TypeId} : ∀ {l : List (DataW H)} {d : DataW H}, d ∈ l → ∀ n ∈ d.weights P e, n ∈ DataW.weightsAll P e l
  | a :: l, d, h, n, hn => by
    simp only [DataW.weightsAll, List.mem_append]
    rcases List.mem_cons.1 h with rfl | h
    · exact .inl hn
    · exact .inr (weightsAll_mem h n hn)

/-- Cells of type t that read as data are those of a thing. -/
def Rd (P : Program) {α : Type} (t : TypeId) (cells : α → List Value) (ok : (Nat → Prop) → World → α → Prop) : Prop :=
  ∀ (H : Type) (enc : TypeId × Value → H) (W : World) (fuel : Nat) (cs : List Value) (x : DataW H × List MemPlace), DataW.trod enc P W 0 (fun _ => true) true fuel t cs = some x → (∀ n ∈ x.1.weights P t, n ≤ reachBytes) → ∃ a : α, cs = cells a ∧ ok Any W a

section
variable {P : Program} {t : TypeId}
theorem rd_int {k : IntKind} (ht : P.underlying t = some (.int k)) : Rd P t (fun x : Int => [Value.int k x]) (fun _ _ x => InK k x) := by
  intro H enc W fuel cs x h _
  obtain ⟨n, rfl, rfl, hw⟩ := DataW.trod_int ht h
  refine ⟨n, rfl, ?_⟩
  simp only [Lit.wf, Bool.and_eq_true, decide_eq_true_eq] at hw
  cases k <;> simp only [InK] <;> simp [IntKind.min, IntKind.max, IntKind.bits, IntKind.signed] at hw <;> first | omega | exact ⟨by omega, by omega⟩ | trivial
theorem rd_bool (ht : P.underlying t = some .bool) : Rd P t (fun x : Bool => [Value.bool x]) (fun _ _ _ => True) := by
  intro H enc W fuel cs x h _
  obtain ⟨b, rfl, rfl⟩ := DataW.trod_bool ht h
  exact ⟨b, rfl, trivial⟩
theorem rd_string (ht : P.underlying t = some .string) : Rd P t (fun x : ByteArray => [Value.string x]) (fun _ _ x => x.size ≤ 140737488351232) := by
  intro H enc W fuel cs x h hw
  obtain ⟨s, rfl, rfl, -⟩ := DataW.trod_string ht h
  refine ⟨s, rfl, ?_⟩
  have := hw s.data.toList.length (by simp [DataW.weights])
  simpa [reachBytes] using this
theorem rd_slice {α : Type} [Inhabited α] {cells : α → List Value} {ok : (Nat → Prop) → World → α → Prop} {e : TypeId} {sz : Nat} (ht : P.underlying t = some (.slice e)) (hc : P.cellsOf e = sz) (hsz : ∀ x, (cells x).length = sz) (hs0 : 0 < sz) (hpos : Nat.blt 0 (P.bytesOf e) = true) (h : Rd P e cells ok) :
    Rd P t (fun s : Sl α => [s.val]) (fun F W s => SlOk cells sz ok F W s) := by
  intro H enc W fuel cs x hx hw
  rcases open_slice ht hx with ⟨rfl, rfl⟩ | ⟨a, len, cap, m, n, D, Pl, rfl, hb, hl, hm, hmm, rfl, hi⟩
  · exact ⟨⟨none, 0, []⟩, rfl, ⟨Nat.zero_le _, Nat.le_refl _, fun h => absurd rfl h⟩, fun i hi => absurd hi (Nat.not_lt_zero i)⟩
  · simp only [if_true] at hmm
    subst hmm
    rw [hc] at hi
    have hww : ∀ q ∈ DataW.weightsAll P e ((List.range len).map D), q ≤ reachBytes := fun q hq => hw q (by simp only [DataW.weights, ht, List.mem_cons, List.mem_append]; exact .inr (.inl hq))
    have hY : ∀ i, i < len → ∃ y : α, (W.cells? 0 (a.add (i * sz)) sz = some (cells y)) ∧ ok Any W y := by
      intro i hi'
      obtain ⟨cs', h1, h2⟩ := hi i (by omega)
      obtain ⟨y, rfl, hy⟩ := h H enc W n cs' _ h2 (fun q hq => hww q (weightsAll_mem (d := D i) (List.mem_map_of_mem (List.mem_range.2 hi')) q hq))
      exact ⟨y, h1, hy⟩
    obtain ⟨Y, hY⟩ := choose_lt hY
    have hbig : (len + (m - len)) * P.bytesOf e ≤ reachBytes := hw _ (by simp [DataW.weights, ht])
    have hlen : len + (m - len) ≤ 140737488351232 := Nat.le_trans (Nat.le_mul_of_pos_right _ (by simpa using hpos)) hbig
    have hg : ∀ i, i < len → gd ((List.range len).map Y) i = Y i := fun i hi' => by rw [gd_eq (by simpa using hi')]; simp
    refine ⟨⟨some a, m, (List.range len).map Y⟩, by simp [Sl.val], ⟨by simp; omega, by simpa using hl, fun hne => ?_⟩, fun i hi' => ?_⟩
    · have h0 : 0 < len := by
        rcases Nat.eq_zero_or_pos len with h | h
        · subst h; exact absurd rfl hne
        · exact h
      have hsp : a.spot = none := by
        obtain ⟨-, -, h3⟩ := World.cells?_some (hY 0 h0).1
        have h4 := h3 0 hs0
        rw [List.getElem?_eq_getElem (by rw [hsz]; exact hs0)] at h4
        have := World.cell?_spot h4
        simpa [Addr.add] using this
      obtain ⟨b, off, sp⟩ := a
      simp only at hsp; subst hsp
      refine ⟨b, off, rfl, trivial, fun i hi' k v hv => ?_⟩
      have hi2 : i < len := by simpa using hi'
      obtain ⟨-, -, h3⟩ := World.cells?_some (hY i hi2).1
      have hv' : (cells (Y i))[k]? = some v := by simpa using hv
      have hk : k < sz := by rw [← hsz (Y i)]; exact (List.getElem?_eq_some_iff.1 hv').1
      have := h3 k hk
      rw [hv'] at this
      rw [offs_eq]
      have e1 : (⟨b, off, none⟩ : Addr).add (i * sz) = ⟨b, off + i * sz, none⟩ := addr_eta rfl _
      have e2 : (⟨b, off + i * sz, none⟩ : Addr).add k = ⟨b, off + i * sz + k, none⟩ := addr_eta rfl _
      rw [e1, e2] at this
      exact this
    · have hi2 : i < len := by simpa using hi'
      rw [hg i hi2]; exact (hY i hi2).2
/-- One field of a struct that reads as data. -/
theorem rd_field {H : Type} {enc : TypeId × Value → H} {W : World} {α : Type} {cells : α → List Value} {ok : (Nat → Prop) → World → α → Prop} {fs : Array Field} {xs : List (DataW H × List MemPlace)} {n : Nat} {cs : List Value} (ht : P.underlying t = some (.struct fs)) (hlen : xs.length = fs.size)
    (hf : ∀ (i : Nat) (f : Field), fs[i]? = some f → DataW.trod enc P W 0 (fun _ => true) true n f.type ((cs.drop f.offset).take (P.cellsOf f.type)) = xs[i]?) (hw : ∀ n ∈ (DataW.agg (xs.map (·.1))).weights P t, n ≤ reachBytes)
    (i o c : Nat) (f : Field) (hi : fs[i]? = some f) (ho : f.offset = o) (hc : P.cellsOf f.type = c) (hr : Rd P f.type cells ok) : ∃ y : α, (cs.drop o).take c = cells y ∧ ok Any W y := by
  subst ho; subst hc
  have hlt : i < xs.length := by rw [hlen]; exact (Array.getElem?_eq_some_iff.1 hi).1
  have h1 := hf i f hi
  rw [List.getElem?_eq_getElem hlt] at h1
  refine hr H enc W n _ _ h1 (fun q hq => hw q ?_)
  simp only [DataW.weights, ht]
  exact DataW.weights_mem_each (j := i) (t := f.type) (d := (xs[i]).1) (by rw [List.getElem?_map]; simp only [Array.getElem?_toList, hi]; rfl) (by simp [hlt]) q hq
theorem cs1 {cs : List Value} (h : cs.length = 1) : ∃ a, cs = [a] := match cs, h with | [a], _ => ⟨a, rfl⟩
/-- An argument of struct type. -/
theorem rd_arg {H : Type} {enc : TypeId × Value → H} {W : World} {base j : Nat} {α : Type} {cells : α → List Value} {ok : (Nat → Prop) → World → α → Prop} {fs : Array Field} {v : Value} {d : DataW H} {p : List MemPlace} {ts : List TypeId} {ds : List (DataW H)}
    (hr : Rd P t cells ok) (ht : P.underlying t = some (.struct fs)) (hv : Value.okWide P W .any base t v) (h : DataW.Trod enc P W 0 (fun _ => true) true t v d p) (hsz : (DataW.weightsEach P ts ds).all (· ≤ reachBytes) = true) (hj : ts[j]? = some t) (hd : ds[j]? = some d) : ∃ a : α, v = .agg (cells a).toArray ∧ ok Any W a := by
  obtain ⟨arr, rfl, -⟩ := okWide_struct ht hv
  obtain ⟨fuel, h⟩ := h
  obtain ⟨a, ha, hok⟩ := hr H enc W fuel _ _ h (fun n hn => by have := List.all_eq_true.1 hsz _ (DataW.weights_mem_each hj hd n hn); simpa using this)
  refine ⟨a, ?_, hok⟩
  have ha' : arr.toList = cells a := ha
  rw [← ha']
/-- An argument of one cell. -/
theorem rd_arg1 {H : Type} {enc : TypeId × Value → H} {W : World} {j : Nat} {α : Type} {V : α → Value} {ok : (Nat → Prop) → World → α → Prop} {v : Value} {d : DataW H} {p : List MemPlace} {ts : List TypeId} {ds : List (DataW H)}
    (hr : Rd P t (fun x => [V x]) ok) (hna : v.cells = #[v]) (h : DataW.Trod enc P W 0 (fun _ => true) true t v d p) (hsz : (DataW.weightsEach P ts ds).all (· ≤ reachBytes) = true) (hj : ts[j]? = some t) (hd : ds[j]? = some d) : ∃ a : α, v = V a ∧ ok Any W a := by
  obtain ⟨fuel, h⟩ := h
  rw [hna] at h
  obtain ⟨a, ha, hok⟩ := hr H enc W fuel _ _ h (fun n hn => by have := List.all_eq_true.1 hsz _ (DataW.weights_mem_each hj hd n hn); simpa using this)
  simp only [List.cons.injEq, and_true] at ha
  exact ⟨a, ha, hok⟩
end
end Go.Proofs.YtnjhekfgmbpmlaaDoor.Eng
