/- What is read is just what is written, in plain. No conditions. -/
import Derived.Test.YtmmkacfeocnblaaYo
namespace Go.Proofs.Ytmmkacfeocnblaa.Ly
open Go Go.Proofs.Ytmmkacfeocnblaa.Eng Go.Proofs.Ytmmkacfeocnblaa.Mem
set_option linter.unusedSimpArgs false
set_option linter.unusedVariables false
set_option maxRecDepth 100000
/-- ys lies in b from a on. -/
def Lies (b : List Int) (a : Nat) (ys : List Int) : Prop := a ≤ b.length ∧ ys <+: b.drop a
theorem Lies.le {b : List Int} {a : Nat} {ys : List Int} (h : Lies b a ys) : a + ys.length ≤ b.length := by
  obtain ⟨h1, h2⟩ := h
  have h3 := h2.length_le
  rw [List.length_drop] at h3; omega
theorem lies_app {b : List Int} {a : Nat} {ys zs : List Int} : Lies b a (ys ++ zs) ↔ Lies b a ys ∧ Lies b (a + ys.length) zs := by
  constructor
  · intro h
    obtain ⟨h1, t, ht⟩ := h
    have h2 : Lies b a ys := ⟨h1, ⟨zs ++ t, by rw [← List.append_assoc]; exact ht⟩⟩
    refine ⟨h2, h2.le, ⟨t, ?_⟩⟩
    rw [← List.drop_drop, ← ht, List.append_assoc, List.drop_left]
  · rintro ⟨⟨h1, t, ht⟩, -, u, hu⟩
    refine ⟨h1, u, ?_⟩
    rw [← List.drop_drop, ← ht, List.drop_left] at hu
    rw [List.append_assoc, hu, ht]
theorem lies_nil {b : List Int} {a : Nat} : Lies b a [] ↔ a ≤ b.length := ⟨fun h => h.1, fun h => ⟨h, List.nil_prefix⟩⟩
theorem lies_cons {b : List Int} {a : Nat} {x : Int} {ys : List Int} : Lies b a (x :: ys) ↔ (a + 1 ≤ b.length ∧ gd b a = x) ∧ Lies b (a + 1) ys := by
  constructor
  · intro h
    have hle := h.le
    rw [List.length_cons] at hle
    obtain ⟨h1, t, ht⟩ := h
    have hd : b.drop a = gd b a :: b.drop (a + 1) := by rw [List.drop_eq_getElem_cons (by omega), gd_eq (by omega)]
    rw [hd, List.cons_append, List.cons.injEq] at ht
    exact ⟨⟨by omega, ht.1.symm⟩, by omega, t, ht.2⟩
  · rintro ⟨⟨h1, rfl⟩, h2, t, ht⟩
    have hd : b.drop a = gd b a :: b.drop (a + 1) := by rw [List.drop_eq_getElem_cons (by omega), gd_eq (by omega)]
    exact ⟨by omega, t, by rw [hd, List.cons_append, ht]⟩
theorem lies_cut {b : List Int} {a : Nat} {ys : List Int} (h : Lies b a ys) : cutB b a ys.length = ys := by
  obtain ⟨-, t, ht⟩ := h
  unfold cutB; rw [← ht, List.take_left]
theorem cut_lies {b : List Int} {a n : Nat} (h : a + n ≤ b.length) : Lies b a (cutB b a n) := ⟨by omega, List.take_prefix _ _⟩
theorem lies_ext {b : List Int} {a : Nat} {ys more : List Int} (h : Lies b a ys) : Lies (b ++ more) a ys := by
  obtain ⟨h1, t, ht⟩ := h
  exact ⟨by rw [List.length_append]; omega, t ++ more, by rw [List.drop_append_of_le_length h1, ← ht, List.append_assoc]⟩
theorem leB4 (n : Int) : leB n 4 = [n % 256, n / 256 % 256, n / 256 / 256 % 256, n / 256 / 256 / 256 % 256] := by
  unfold leB; simp [List.range_succ]; omega
theorem bind_iff {α β : Type} {r : PR α} {f : α → Nat → PR β} {y : β} {a2 : Nat} : r.bind f = .ok y a2 ↔ ∃ x a, r = .ok x a ∧ f x a = .ok y a2 := ⟨bind_ok_of, fun ⟨x, a, h1, h2⟩ => by rw [h1]; exact h2⟩
section
variable {b : List Int} (hB : Byt b)
include hB
theorem le4_lies {a : Nat} {n : Int} (h0 : 0 ≤ n) (h1 : n ≤ 4294967295) : Lies b a (leB n 4) ↔ a + 4 ≤ b.length ∧ leV b a 4 = n := by
  have g0 := byt_gd hB a
  have g1 := byt_gd hB (a + 1)
  have g2 := byt_gd hB (a + 2)
  have g3 := byt_gd hB (a + 3)
  rw [leB4, leV4, lies_cons, lies_cons, lies_cons, lies_cons, lies_nil]
  simp only [Nat.add_assoc, Nat.reduceAdd]
  constructor
  · rintro ⟨⟨h2, h3⟩, ⟨h4, h5⟩, ⟨h6, h7⟩, ⟨h8, h9⟩, h10⟩
    refine ⟨h10, ?_⟩
    rw [h3, h5, h7, h9]; omega
  · rintro ⟨h2, h3⟩
    have q1 : n / 256 = gd b (a + 3) * 65536 + gd b (a + 2) * 256 + gd b (a + 1) := by omega
    have q2 : n / 256 / 256 = gd b (a + 3) * 256 + gd b (a + 2) := by rw [q1]; omega
    have q3 : n / 256 / 256 / 256 = gd b (a + 3) := by rw [q2]; omega
    rw [q3, q2, q1]
    refine ⟨⟨by omega, ?_⟩, ⟨by omega, ?_⟩, ⟨by omega, ?_⟩, ⟨by omega, ?_⟩, by omega⟩ <;> omega
theorem numAt_iff {a a2 : Nat} {n : Int} : numAt b a = .ok n a2 ↔ (0 ≤ n ∧ n ≤ 4294967295) ∧ Lies b a (leB n 4) ∧ a2 = a + 4 := by
  constructor
  · intro h
    obtain ⟨h1, rfl, rfl⟩ := numAt_of h
    have h2 := leV_bd hB a
    exact ⟨h2, (le4_lies hB h2.1 h2.2).2 ⟨h1, rfl⟩, rfl⟩
  · rintro ⟨h1, h2, rfl⟩
    obtain ⟨h3, h4⟩ := (le4_lies hB h1.1 h1.2).1 h2
    rw [numAt_ok h3, h4]
theorem byteAt_iff {a a2 : Nat} {n : Int} : byteAt b a = .ok n a2 ↔ (0 ≤ n ∧ n ≤ 255) ∧ Lies b a [n] ∧ a2 = a + 1 := by
  have g0 := byt_gd hB a
  constructor
  · intro h
    obtain ⟨h1, rfl, rfl⟩ := byteAt_of h
    exact ⟨by omega, lies_cons.2 ⟨⟨h1, rfl⟩, lies_nil.2 h1⟩, rfl⟩
  · rintro ⟨h1, h2, rfl⟩
    obtain ⟨⟨h3, h4⟩, -⟩ := lies_cons.1 h2
    rw [byteAt_ok h3, h4]
theorem srcAt_iff {a a2 : Nat} {s : Bool} : srcAt b a = .ok s a2 ↔ Lies b a [if s then 1 else 0] ∧ a2 = a + 1 := by
  have g0 := byt_gd hB a
  rw [lies_cons, lies_nil]
  constructor
  · intro h
    obtain ⟨⟨h1, h2⟩, rfl, rfl⟩ := srcAt_of h
    refine ⟨⟨⟨h1, ?_⟩, h1⟩, rfl⟩
    by_cases h3 : gd b a = 1
    · rw [decide_eq_true h3, h3]; rfl
    · rw [decide_eq_false h3]; show gd b a = 0; omega
  · rintro ⟨⟨⟨h1, h2⟩, -⟩, rfl⟩
    cases s
    · have h2' : gd b a = 0 := h2
      rw [srcAt_ok ⟨h1, by omega⟩, decide_eq_false (by omega)]
    · have h2' : gd b a = 1 := h2
      rw [srcAt_ok ⟨h1, by omega⟩, decide_eq_true (by omega)]
omit hB in
theorem strB_strOf {ys : List Int} (h : Byt ys) : strB (strOf ys) = ys := by
  unfold strB strOf
  simp only [List.map_map]
  conv => rhs; rw [← List.map_id ys]
  refine List.map_congr_left (fun x hx => ?_)
  have h2 := h x hx
  simp only [Function.comp, id]
  rw [UInt8.toNat_ofNat_of_lt' (by show _ < 256; omega)]; omega
omit hB in
theorem strOf_strB (s : ByteArray) : strOf (strB s) = s := by
  unfold strOf strB
  rw [List.map_map]
  have : s.data.toList.map ((fun x : Int => UInt8.ofNat x.toNat) ∘ fun b => (b.toNat : Int)) = s.data.toList := by
    conv => rhs; rw [← List.map_id s.data.toList]
    refine List.map_congr_left (fun x _ => ?_)
    simp
  rw [this, Array.toArray_toList]
theorem textAt_iff {a a2 : Nat} {s : ByteArray} : textAt b a = .ok s a2 ↔ s.size ≤ 255 ∧ Lies b a (encName s) ∧ a2 = a + (encName s).length := by
  have hv := leV_bd hB a
  constructor
  · intro h
    obtain ⟨⟨h1, h2, h3⟩, rfl, rfl⟩ := textAt_of h
    have hl := cutB_len (b := b) (at' := a + 4) (n := (leV b a 4).toNat) h3
    have hb := strB_strOf (cutB_byt hB (a + 4) (leV b a 4).toNat)
    have hs : (strOf (cutB b (a + 4) (leV b a 4).toNat)).size = (leV b a 4).toNat := by rw [← strB_len, hb, hl]
    refine ⟨by omega, ?_, by rw [encName_len, hs]; omega⟩
    unfold encName
    rw [lies_app, hb, hs, leB_len]
    exact ⟨(le4_lies hB (by omega) (by omega)).2 ⟨h1, by omega⟩, cut_lies h3⟩
  · rintro ⟨h1, h2, rfl⟩
    unfold encName at h2
    rw [lies_app, leB_len] at h2
    obtain ⟨h3, h4⟩ := h2
    obtain ⟨h5, h6⟩ := (le4_lies hB (by omega) (by omega)).1 h3
    have h7 := h4.le
    have h8 := lies_cut h4
    rw [strB_len] at h7 h8
    have h9 : (leV b a 4).toNat = s.size := by omega
    rw [textAt_ok ⟨h5, by omega, by omega⟩, h9, h8, strOf_strB, encName_len, Nat.add_assoc]
def okw (x : TWindow) : Prop := (-1 ≤ x.Partition ∧ x.Partition ≤ 4294967294) ∧ (0 ≤ x.Usable ∧ x.Usable ≤ 4294967295) ∧ 0 ≤ x.Slack ∧ x.Slack ≤ 4294967295
def okr (x : TRegion) : Prop := (0 ≤ x.Page ∧ x.Page ≤ 4294967295) ∧ (0 ≤ x.Pages ∧ x.Pages ≤ 4294967295) ∧ (0 ≤ x.Frame ∧ x.Frame ≤ 4294967295) ∧ 0 ≤ x.Rights ∧ x.Rights ≤ 4294967295
def okp (x : TPort) : Prop := 0 ≤ x.Channel ∧ x.Channel ≤ 4294967295
def okh (x : TChannel) : Prop := (0 ≤ x.Kind ∧ x.Kind ≤ 4294967295) ∧ (0 ≤ x.Words ∧ x.Words ≤ 4294967295) ∧ 0 ≤ x.Depth ∧ x.Depth ≤ 4294967295
def encW2 (x : TWindow) : List Int := leB (x.Partition + 1) 4 ++ leB x.Usable 4 ++ leB x.Slack 4
omit hB in
theorem encW2_len (x : TWindow) : (encW2 x).length = 12 := by unfold encW2; simp only [List.length_append, leB_len]
/-- What reading says is just what encoding lays down. -/
def Reads {α : Type} (b : List Int) (one : Nat → PR α) (ok : α → Prop) (enc : α → List Int) : Prop := ∀ a x a2, one a = .ok x a2 ↔ ok x ∧ Lies b a (enc x) ∧ a2 = a + (enc x).length
theorem win_reads : Reads b (winAt b) okw encW2 := by
  intro a x a2
  unfold winAt
  simp only [bind_iff, numAt_iff hB]
  constructor
  · rintro ⟨p, _, ⟨h1, h2, rfl⟩, u, _, ⟨h3, h4, rfl⟩, s, _, ⟨h5, h6, rfl⟩, h⟩
    cases h
    refine ⟨⟨⟨by simp only; omega, by simp only; omega⟩, h3, h5⟩, ?_, by rw [encW2_len]⟩
    unfold encW2
    simp only [lies_app, leB_len, List.length_append, ← Nat.add_assoc, Int.sub_add_cancel]
    exact ⟨⟨h2, h4⟩, h6⟩
  · rintro ⟨⟨h1, h2, h3⟩, h4, rfl⟩
    unfold encW2 at h4
    simp only [lies_app, leB_len, List.length_append, ← Nat.add_assoc] at h4
    exact ⟨_, _, ⟨⟨by omega, by omega⟩, h4.1.1, rfl⟩, _, _, ⟨h2, h4.1.2, rfl⟩, _, _, ⟨h3, h4.2, rfl⟩, by rw [encW2_len, Int.add_sub_cancel]⟩
theorem reg_reads : Reads b (regAt b) okr encR := by
  intro a x a2
  unfold regAt
  simp only [bind_iff, numAt_iff hB]
  constructor
  · rintro ⟨p, _, ⟨h1, h2, rfl⟩, u, _, ⟨h3, h4, rfl⟩, s, _, ⟨h5, h6, rfl⟩, r, _, ⟨h7, h8, rfl⟩, h⟩
    cases h
    refine ⟨⟨h1, h3, h5, h7⟩, ?_, by rw [encR_len]⟩
    unfold encR
    simp only [lies_app, leB_len, List.length_append, ← Nat.add_assoc]
    exact ⟨⟨⟨h2, h4⟩, h6⟩, h8⟩
  · rintro ⟨⟨h1, h2, h3, h5⟩, h4, rfl⟩
    unfold encR at h4
    simp only [lies_app, leB_len, List.length_append, ← Nat.add_assoc] at h4
    exact ⟨_, _, ⟨h1, h4.1.1.1, rfl⟩, _, _, ⟨h2, h4.1.1.2, rfl⟩, _, _, ⟨h3, h4.1.2, rfl⟩, _, _, ⟨h5, h4.2, rfl⟩, by rw [encR_len]⟩
theorem port_reads : Reads b (portAt b) okp encP := by
  intro a x a2
  unfold portAt
  simp only [bind_iff, numAt_iff hB, srcAt_iff hB]
  constructor
  · rintro ⟨p, _, ⟨h1, h2, rfl⟩, u, _, ⟨h3, rfl⟩, h⟩
    cases h
    refine ⟨h1, ?_, by rw [encP_len]⟩
    unfold encP
    simp only [lies_app, leB_len]
    exact ⟨h2, h3⟩
  · rintro ⟨h1, h4, rfl⟩
    unfold encP at h4
    simp only [lies_app, leB_len] at h4
    exact ⟨_, _, ⟨h1, h4.1, rfl⟩, _, _, ⟨h4.2, rfl⟩, by rw [encP_len]⟩
theorem chan_reads : Reads b (chanAt b) okh encC := by
  intro a x a2
  unfold chanAt
  simp only [bind_iff, numAt_iff hB]
  constructor
  · rintro ⟨p, _, ⟨h1, h2, rfl⟩, u, _, ⟨h3, h4, rfl⟩, s, _, ⟨h5, h6, rfl⟩, h⟩
    cases h
    refine ⟨⟨h1, h3, h5⟩, ?_, by rw [encC_len]⟩
    unfold encC
    simp only [lies_app, leB_len, List.length_append, ← Nat.add_assoc]
    exact ⟨⟨h2, h4⟩, h6⟩
  · rintro ⟨⟨h1, h2, h3⟩, h4, rfl⟩
    unfold encC at h4
    simp only [lies_app, leB_len, List.length_append, ← Nat.add_assoc] at h4
    exact ⟨_, _, ⟨h1, h4.1.1, rfl⟩, _, _, ⟨h2, h4.1.2, rfl⟩, _, _, ⟨h3, h4.2, rfl⟩, by rw [encC_len]⟩
def okl {α : Type} (ok : α → Prop) (xs : List α) : Prop := xs.length ≤ 255 ∧ ∀ x ∈ xs, ok x
omit hB in
theorem many_iff {α : Type} {one : Nat → PR α} {ok : α → Prop} {enc : α → List Int} (h : Reads b one ok enc) : ∀ {n a a2 : Nat} {xs : List α}, a ≤ b.length → (many one n a = .ok xs a2 ↔ xs.length = n ∧ (∀ x ∈ xs, ok x) ∧ Lies b a (xs.flatMap enc) ∧ a2 = a + (xs.flatMap enc).length)
  | 0, a, a2, xs, ha => by
    constructor
    · intro e
      cases e
      exact ⟨rfl, by simp, by simpa using lies_nil.2 ha, by simp⟩
    · rintro ⟨h1, -, -, h4⟩
      have := List.eq_nil_of_length_eq_zero h1
      subst this
      simp at h4; subst h4; rfl
  | n + 1, a, a2, xs, ha => by
    simp only [many, bind_iff]
    constructor
    · rintro ⟨ys, a1, h1, y, a3, h2, e⟩
      cases e
      obtain ⟨g1, g2, g3, rfl⟩ := (many_iff h ha).1 h1
      obtain ⟨k1, k2, rfl⟩ := (h _ _ _).1 h2
      refine ⟨by simp [g1], ?_, ?_, by simp [Nat.add_assoc]⟩
      · intro x hx
        rcases List.mem_append.1 hx with hx | hx
        · exact g2 x hx
        · rw [List.mem_singleton] at hx; subst hx; exact k1
      · rw [List.flatMap_append, lies_app]
        exact ⟨g3, by simpa using k2⟩
    · rintro ⟨h1, h2, h3, rfl⟩
      have hne : xs ≠ [] := by intro e; subst e; simp at h1
      obtain ⟨ys, y, rfl⟩ : ∃ ys y, xs = ys ++ [y] := ⟨xs.dropLast, xs.getLast hne, (List.dropLast_concat_getLast hne).symm⟩
      rw [List.flatMap_append, lies_app] at h3
      refine ⟨ys, _, (many_iff h ha).2 ⟨by simpa using h1, fun x hx => h2 x (List.mem_append_left _ hx), h3.1, rfl⟩, y, _, (h _ _ _).2 ⟨h2 y (by simp), by simpa using h3.2, rfl⟩, ?_⟩
      simp [Nat.add_assoc]
theorem list_reads {α : Type} {one : Nat → PR α} {ok : α → Prop} {enc : α → List Int} (h : Reads b one ok enc) : Reads b (listAt b one) (okl ok) (encLst enc) := by
  intro a xs a2
  unfold listAt encLst
  simp only [bind_iff, byteAt_iff hB, lies_app, List.length_append, List.length_cons, List.length_nil, Nat.zero_add]
  constructor
  · rintro ⟨n, _, ⟨h1, h2, rfl⟩, h3⟩
    obtain ⟨g1, g2, g3, rfl⟩ := (many_iff h h2.le).1 h3
    have e : (xs.length : Int) = n := by omega
    refine ⟨⟨by omega, g2⟩, ⟨by rw [e]; exact h2, g3⟩, ?_⟩
    simp only [List.length_cons, List.length_nil]; omega
  · rintro ⟨⟨h1, h2⟩, ⟨h3, h4⟩, rfl⟩
    exact ⟨(xs.length : Int), a + 1, ⟨⟨by omega, by omega⟩, h3, rfl⟩, (many_iff h h4.1).2 ⟨(Int.toNat_natCast _).symm, h2, h4, by omega⟩⟩
def okPP (p : PPart) : Prop := p.Name.size ≤ 255 ∧ (0 ≤ p.Entry ∧ p.Entry ≤ 4294967295) ∧ (0 ≤ p.Action ∧ p.Action ≤ 4294967295) ∧ (0 ≤ p.Restarts ∧ p.Restarts ≤ 4294967295) ∧ (0 ≤ p.Inputs ∧ p.Inputs ≤ 4294967295) ∧ (0 ≤ p.Outputs ∧ p.Outputs ≤ 4294967295) ∧ okl okr p.Regions ∧ okl okp p.Ports
def encPP (p : PPart) : List Int := encName p.Name ++ (leB p.Entry 4 ++ (leB p.Action 4 ++ (leB p.Restarts 4 ++ (leB p.Inputs 4 ++ (leB p.Outputs 4 ++ (encLst encR p.Regions ++ encLst encP p.Ports))))))
theorem part_reads : Reads b (partAt b) okPP encPP := by
  intro a x a2
  unfold partAt
  simp only [bind_iff, numAt_iff hB, textAt_iff hB, (list_reads hB (reg_reads hB)) _ _ _, (list_reads hB (port_reads hB)) _ _ _]
  unfold encPP
  simp only [lies_app, leB_len, List.length_append]
  constructor
  · rintro ⟨nm, _, ⟨h1, h2, rfl⟩, n1, _, ⟨i1, j1, rfl⟩, n2, _, ⟨i2, j2, rfl⟩, n3, _, ⟨i3, j3, rfl⟩, n4, _, ⟨i4, j4, rfl⟩, n5, _, ⟨i5, j5, rfl⟩, rs, _, ⟨k1, k2, rfl⟩, ps, _, ⟨k3, k4, rfl⟩, h⟩
    cases h
    exact ⟨⟨h1, i1, i2, i3, i4, i5, k1, k3⟩, ⟨h2, j1, j2, j3, j4, j5, k2, k4⟩, by dsimp only; omega⟩
  · rintro ⟨⟨h1, i1, i2, i3, i4, i5, k1, k3⟩, ⟨h2, j1, j2, j3, j4, j5, k2, k4⟩, rfl⟩
    refine ⟨_, _, ⟨h1, h2, rfl⟩, _, _, ⟨i1, j1, rfl⟩, _, _, ⟨i2, j2, rfl⟩, _, _, ⟨i3, j3, rfl⟩, _, _, ⟨i4, j4, rfl⟩, _, _, ⟨i5, j5, rfl⟩, _, _, ⟨k1, k2, rfl⟩, _, _, ⟨k3, k4, rfl⟩, ?_⟩
    simp only [Nat.add_assoc]
def okPC (c : PConf) : Prop := (0 ≤ c.Frames ∧ c.Frames ≤ 4294967295) ∧ (0 ≤ c.Major ∧ c.Major ≤ 4294967295) ∧ (0 ≤ c.Kernel ∧ c.Kernel ≤ 4294967295) ∧ (0 ≤ c.Room ∧ c.Room ≤ 4294967295) ∧ okl (okl okw) c.Cores ∧ okl okPP c.Partitions ∧ okl okh c.Channels
def encCC (c : PConf) : List Int := leB c.Frames 4 ++ (leB c.Major 4 ++ (leB c.Kernel 4 ++ (leB c.Room 4 ++ (encLst (encLst encW2) c.Cores ++ (encLst encPP c.Partitions ++ encLst encC c.Channels)))))
theorem conf_reads : Reads b (confAt b) okPC encCC := by
  intro a x a2
  unfold confAt
  simp only [bind_iff, numAt_iff hB, (list_reads hB (list_reads hB (win_reads hB))) _ _ _, (list_reads hB (part_reads hB)) _ _ _, (list_reads hB (chan_reads hB)) _ _ _]
  unfold encCC
  simp only [lies_app, leB_len, List.length_append]
  constructor
  · rintro ⟨n2, _, ⟨i2, j2, rfl⟩, n3, _, ⟨i3, j3, rfl⟩, n4, _, ⟨i4, j4, rfl⟩, n5, _, ⟨i5, j5, rfl⟩, rs, _, ⟨k1, k2, rfl⟩, ps, _, ⟨k3, k4, rfl⟩, hs, _, ⟨k5, k6, rfl⟩, h⟩
    cases h
    exact ⟨⟨i2, i3, i4, i5, k1, k3, k5⟩, ⟨j2, j3, j4, j5, k2, k4, k6⟩, by dsimp only; omega⟩
  · rintro ⟨⟨i2, i3, i4, i5, k1, k3, k5⟩, ⟨j2, j3, j4, j5, k2, k4, k6⟩, rfl⟩
    refine ⟨_, _, ⟨i2, j2, rfl⟩, _, _, ⟨i3, j3, rfl⟩, _, _, ⟨i4, j4, rfl⟩, _, _, ⟨i5, j5, rfl⟩, _, _, ⟨k1, k2, rfl⟩, _, _, ⟨k3, k4, rfl⟩, _, _, ⟨k5, k6, rfl⟩, ?_⟩
    simp only [Nat.add_assoc]
def formP (c : PConf) : List Int := leB 826493762 4 ++ encCC c
def encPC (c : PConf) : List Int := formP c ++ leB (sumB (formP c)) 4
omit hB in
theorem formP_len (c : PConf) : (formP c).length = 4 + (encCC c).length := by unfold formP; rw [List.length_append, leB_len]
omit hB in
theorem encPC_len (c : PConf) : (encPC c).length = (formP c).length + 4 := by unfold encPC; rw [List.length_append, leB_len]
theorem mc_iff {c : PConf} {a : Nat} : (markAt b 0).bind (fun _ a => confAt b a) = .ok c a ↔ okPC c ∧ Lies b 0 (formP c) ∧ a = (formP c).length := by
  rw [bind_iff]
  unfold formP
  rw [lies_app, leB_len, List.length_append, leB_len, Nat.zero_add, le4_lies hB (by omega) (by omega)]
  constructor
  · rintro ⟨u, a1, h1, h2⟩
    unfold markAt at h1
    split at h1
    · rename_i h3
      cases h1
      obtain ⟨g1, g2, rfl⟩ := (conf_reads hB _ _ _).1 h2
      exact ⟨g1, ⟨h3, by rw [Nat.zero_add] at g2; exact g2⟩, by omega⟩
    · cases h1
  · rintro ⟨h1, ⟨h2, h3⟩, rfl⟩
    exact ⟨(), 4, by rw [markAt_ok h2], (conf_reads hB _ _ _).2 ⟨h1, h3, rfl⟩⟩
theorem dec_iff {c : PConf} : decP b = .ok c ↔ b.length ≤ 16384 ∧ okPC c ∧ b = encPC c := by
  constructor
  · intro h
    unfold decP at h
    split at h
    · cases h
    · rename_i hlen
      split at h
      · cases h
      · rename_i c' a hc
        split at h
        · cases h
        · split at h
          · cases h
          · split at h
            · rename_i h1 h2 h3
              cases h
              obtain ⟨g1, g2, rfl⟩ := (mc_iff hB).1 hc
              refine ⟨by omega, g1, ?_⟩
              have g3 := lies_cut g2
              have g4 : b.take (formP c).length = formP c := by unfold cutB at g3; rw [List.drop_zero] at g3; exact g3
              have g5 := sumB_in (b.take (formP c).length)
              have g6 := (le4_lies hB (a := (formP c).length) g5.1 (by omega)).2 ⟨by omega, h3⟩
              have g7 := lies_cut g6
              rw [leB_len] at g7
              unfold encPC
              rw [← g4, g4, ← g4]
              conv => lhs; rw [← List.take_append_drop (formP c).length b]
              congr 1
              · unfold cutB at g7
                rw [List.take_of_length_le (by rw [List.length_drop]; omega)] at g7
                exact g7
            · cases h
  · rintro ⟨h1, h2, h3⟩
    have hl := congrArg List.length h3
    rw [encPC_len] at hl
    have hL : Lies b 0 (encPC c) := ⟨by omega, by rw [List.drop_zero, ← h3]; exact List.prefix_refl _⟩
    unfold encPC at hL
    rw [lies_app, Nat.zero_add] at hL
    have g5 := sumB_in (formP c)
    have g6 := (le4_lies hB g5.1 (by omega)).1 hL.2
    have g3 := lies_cut hL.1
    have g4 : b.take (formP c).length = formP c := by unfold cutB at g3; rw [List.drop_zero] at g3; exact g3
    exact decP_ok h1 ((mc_iff hB).2 ⟨h2, hL.1, rfl⟩) (by omega) (by rw [g4]; exact g6.2)
end
theorem decP_bad {b : List Int} {e : Int} {p : Nat} (h : decP b = .bad e p) : (e = 2 ∧ 16384 < b.length ∧ p = 0) ∨ (b.length ≤ 16384 ∧ e = 110) ∨ (b.length ≤ 16384 ∧ e = 111 ∧ ∃ c, (markAt b 0).bind (fun _ a => confAt b a) = .ok c p ∧ p + 4 = b.length) := by
  unfold decP at h
  split at h
  · cases h; exact .inl ⟨rfl, by omega, rfl⟩
  · rename_i hlen
    split at h
    · cases h; exact .inr (.inl ⟨by omega, rfl⟩)
    · rename_i c a hc
      split at h
      · cases h; exact .inr (.inl ⟨by omega, rfl⟩)
      · split at h
        · cases h; exact .inr (.inl ⟨by omega, rfl⟩)
        · split at h
          · cases h
          · cases h; exact .inr (.inr ⟨by omega, rfl, c, hc, by omega⟩)

end Go.Proofs.Ytmmkacfeocnblaa.Ly
