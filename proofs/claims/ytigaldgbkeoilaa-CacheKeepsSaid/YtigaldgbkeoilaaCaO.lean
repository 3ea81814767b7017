/- grown: things are laid behind all lists of a list. No conditions but on lengths. -/
import Derived.Test.YtigaldgbkeoilaaCaM
namespace Go.Proofs.Ytigaldgbkeoilaa.Ca
open Go.RowKit Go.Proofs.Ytigaldgbkeoilaa.Mem Go.Proofs.Ytigaldgbkeoilaa.Sh Go.Proofs.Ytigaldgbkeoilaa.Rng
set_option linter.unusedSimpArgs false
set_option linter.unusedVariables false

def at10 (mark : Int) (k j : Nat) : Int := wrap64 (wrap64 (mark + 10 * (k : Int)) + (j : Int))
def nine (mark : Int) (k n : Nat) : List Value := (List.range n).map fun j => .int .i64 (at10 mark k j)
theorem nine_succ (mark : Int) (k n : Nat) : nine mark k (n + 1) = nine mark k n ++ [.int .i64 (at10 mark k n)] := by unfold nine; rw [List.range_succ, List.map_append]; rfl
theorem nine_get (mark : Int) (k n j : Nat) (h : j < n) : (nine mark k n)[j]? = some (.int .i64 (at10 mark k j)) := by unfold nine; rw [List.getElem?_map, List.getElem?_range h]; rfl

structure Grown (base : Nat) (w1 wr : World) (v : Value) (xs : List (List Int)) (rows : List Value) (mark : Int) (out : Value) (outs : List Value) : Prop where
  own : Owned base wr v xs rows
  outer : wr.ownsRow w1.heap.size 67 1 out outs.length outs
  row : ∀ (i : Nat) (o : Value) (x : List Int), outs[i]? = some o → xs[i]? = some x → wr.ownsRow base 3 1 o (x.length + 9) (x.map (Value.int .i64) ++ nine mark i 9)
  src : ∀ (i : Nat) (o : Value) (b : Nat), outs[i]? = some o → o.ownBlock = some b → (∃ r, rows[i]? = some r ∧ r.ownBlock = some b) ∨ w1.heap.size ≤ b
  apart : ∀ (i j : Nat) (o p : Value) (b : Nat), i ≠ j → outs[i]? = some o → outs[j]? = some p → o.ownBlock = some b → p.ownBlock ≠ some b
  keeps : Keeps (Blocks rows) w1 wr

structure Nine (base : Nat) (w1 wk wr : World) (v : Value) (xs : List (List Int)) (rows : List Value) (mark : Int) (out : Value) (outs : List Value) (kv : Value) (x : List Int) (j : Nat) : Prop where
  g : Grown base w1 wr v xs rows mark out outs
  here : wr.ownsRow base 3 1 kv (x.length + j) (x.map (Value.int .i64) ++ nine mark outs.length j)
  src : ∀ b, kv.ownBlock = some b → (∃ r, rows[outs.length]? = some r ∧ r.ownBlock = some b) ∨ wk.heap.size ≤ b
  size : wk.heap.size ≤ wr.heap.size

theorem own_slice' {w : World} {base e size n : Nat} {v : Value} {xs : List Value} (h : w.ownsRow base e size v n xs) : ∃ a cap, v = .slice a n cap ∧ (∀ g, v.ownBlock = some g → a = some ⟨g, 0, none⟩) := by
  rcases h.2 with ⟨rfl, rfl⟩ | ⟨g, cap, cur, rfl, -⟩
  · exact ⟨_, _, rfl, fun g e => by simp [Value.ownBlock] at e⟩
  · exact ⟨_, _, rfl, fun g' e => by simp only [Value.ownBlock, Option.some.injEq] at e; rw [e]⟩

theorem Nine.off {base : Nat} {w1 wk wr : World} {v : Value} {xs : List (List Int)} {rows : List Value} {mark : Int} {out : Value} {outs : List Value} {kv : Value} {x : List Int} {j : Nat} (h : Nine base w1 wk wr v xs rows mark out outs kv x j)
    (hrb : ∀ (i : Nat) (r : Value) (b : Nat), rows[i]? = some r → r.ownBlock = some b → b < w1.heap.size) (hlt : ∀ (i : Nat) (o : Value) (b : Nat), outs[i]? = some o → o.ownBlock = some b → b < wk.heap.size)
    (i : Nat) (o : Value) (b : Nat) (ho : outs[i]? = some o) (hb : o.ownBlock = some b) : kv.ownBlock ≠ some b := by
  intro e
  have hi := (List.getElem?_eq_some_iff.1 ho).1
  rcases h.src b e with ⟨r, hr, hrb'⟩ | h1
  · rcases h.g.src i o b ho hb with ⟨r', hr', hrb''⟩ | h2
    · exact h.g.own.apart i outs.length r' r b (by omega) hr' hr hrb'' hrb'
    · have := hrb _ r b hr hrb'; omega
  · have := hlt i o b ho hb; omega

theorem Nine.step {base : Nat} {w1 wk wr w2 : World} {v : Value} {xs : List (List Int)} {rows : List Value} {mark : Int} {out : Value} {outs : List Value} {kv kv' : Value} {x : List Int} {j : Nat} {X : Obj} (h : Nine base w1 wk wr v xs rows mark out outs kv x j)
    (hx : xs[outs.length]? = some x) (hwk : w1.heap.size ≤ wk.heap.size)
    (hrb : ∀ (i : Nat) (r : Value) (b : Nat), rows[i]? = some r → r.ownBlock = some b → b < w1.heap.size) (hlt : ∀ (i : Nat) (o : Value) (b : Nat), outs[i]? = some o → o.ownBlock = some b → b < wk.heap.size)
    (ho : w2.ownsRow base 3 1 kv' (x.length + j + 1) ((x.map (Value.int .i64) ++ nine mark outs.length j) ++ [.int .i64 (at10 mark outs.length j)])) (hg : (wr.alloc X).grownBy w2 kv.ownBlock)
    (hcase : (∃ g cap, kv = .slice (some ⟨g, 0, none⟩) (x.length + j) cap ∧ kv' = .slice (some ⟨g, 0, none⟩) (x.length + j + 1) cap) ∨ (kv'.ownBlock = some (wr.alloc X).heap.size ∧ (wr.alloc X).grownBy w2 none)) :
    Nine base w1 wk w2 v xs rows mark out outs kv' x (j + 1) := by
  have hz : (wr.alloc X).heap.size = wr.heap.size + 1 := size_alloc _ _
  have hz2 := hg.size
  have hsz := h.size
  have hblk : ∀ b, b < wr.heap.size → kv.ownBlock ≠ some b → w2.heap[b]? = wr.heap[b]? := fun b hb hn =>
    (hg.block b (by omega) (fun e => hn e.symm)).trans (by rw [heap_alloc, if_neg (by omega)])
  have hty : ∀ {base' n : Nat} {u : Value} {us : List Value}, wr.ownsRow base' 67 1 u n us → w2.ownsRow base' 67 1 u n us := fun hu =>
    own_same (Nat.le_refl _) hu (fun b e => hblk b (own_lt hu b e) (fun e' => by
      rcases rows_ne h.here hu (by decide) with y | y
      · rw [y] at e'; cases e'
      · exact y (e'.trans e.symm)))
  refine ⟨⟨⟨hty h.g.own.outer, h.g.own.len, fun i r y hr hy => ?_, h.g.own.apart⟩, hty h.g.outer, fun i o y ho' hy => ?_, h.g.src, h.g.apart, ?_⟩, ?_, ?_, by omega⟩
  · have hrow := h.g.own.row i r y hr hy
    by_cases e : i = outs.length
    · subst e
      rw [hx] at hy; cases hy
      rcases hcase with ⟨g, cap, rfl, rfl⟩ | ⟨-, hnone⟩
      · by_cases hrg : r.ownBlock = some g
        · obtain ⟨a, cr, rfl, ha⟩ := own_slice' hrow
          obtain rfl := ha g hrg
          obtain ⟨c1, hc1, hs1, hn1, ht1, hm1, hb1⟩ := own_at hrow
          obtain ⟨c2, hc2, hs2, -⟩ := own_at h.here
          have := hc1.uniq hc2
          simp only [Obj.cells.injEq, true_and, and_true] at this
          obtain rfl : cr = cap := by rw [← hs1, ← hs2, this]
          obtain ⟨c3, hc3, hs3, hn3, ht3, -⟩ := own_at ho
          have h4 := own_of_at (base := base) hc3 hn1 hs3 hm1 hb1
          have h5 : c3.toList.take x.length = x.map (Value.int .i64) := by
            have : (c3.toList.take (x.length + j + 1)).take x.length = x.map (Value.int .i64) := by
              rw [ht3, List.append_assoc]
              have := List.take_left (l₁ := x.map (Value.int .i64)) (l₂ := nine mark outs.length j ++ [.int .i64 (at10 mark outs.length j)])
              rwa [List.length_map] at this
            rwa [List.take_take, Nat.min_eq_left (by omega)] at this
          rwa [h5] at h4
        · exact own_same (Nat.le_refl _) hrow (fun b e => hblk b (own_lt hrow b e) (fun e' => hrg (by simp only [Value.ownBlock, Option.some.injEq] at e'; rw [e, e'])))
      · exact own_same (Nat.le_refl _) hrow (fun b e => by
          have := own_lt hrow b e
          exact (hnone.block b (by omega) (fun e => by cases e)).trans (by rw [heap_alloc, if_neg (by omega)]))
    · refine own_same (Nat.le_refl _) hrow (fun b e' => hblk b (own_lt hrow b e') (fun e2 => ?_))
      rcases h.src b e2 with ⟨r', hr', hb'⟩ | h1
      · exact h.g.own.apart i _ r r' b e hr hr' e' hb'
      · have := hrb i r b hr e'; omega
  · have hrow := h.g.row i o y ho' hy
    exact own_same (Nat.le_refl _) hrow (fun b e => hblk b (own_lt hrow b e) (h.off hrb hlt i o b ho' e))
  · refine (h.g.keeps.alloc X).trans (Keeps.of_grownBy hg) (fun i hi e => ?_)
    rcases h.src i e.symm with ⟨r, hr, hb⟩ | h1
    · exact ⟨_, r, hr, hb⟩
    · omega
  · rw [nine_succ, ← List.append_assoc]; exact ho
  · intro b e
    rcases hcase with ⟨g, cap, rfl, rfl⟩ | ⟨hnew, -⟩
    · exact h.src b (by simpa [Value.ownBlock] using e)
    · rw [hnew] at e; simp only [Option.some.injEq] at e; right; omega

theorem Nine.done {base : Nat} {w1 wk wr w3 : World} {v : Value} {xs : List (List Int)} {rows : List Value} {mark : Int} {out out' : Value} {outs : List Value} {kv : Value} {x : List Int} {X : Obj} (h : Nine base w1 wk wr v xs rows mark out outs kv x 9)
    (hx : xs[outs.length]? = some x) (hwk : w1.heap.size ≤ wk.heap.size) (hvb : ∀ b, v.ownBlock = some b → b < w1.heap.size)
    (hrb : ∀ (i : Nat) (r : Value) (b : Nat), rows[i]? = some r → r.ownBlock = some b → b < w1.heap.size) (hlt : ∀ (i : Nat) (o : Value) (b : Nat), outs[i]? = some o → o.ownBlock = some b → b < wk.heap.size)
    (ho : w3.ownsRow w1.heap.size 67 1 out' (outs.length + 1) (outs ++ [kv])) (hg : (wr.alloc X).grownBy w3 out.ownBlock) : Grown base w1 w3 v xs rows mark out' (outs ++ [kv]) := by
  have hz : (wr.alloc X).heap.size = wr.heap.size + 1 := size_alloc _ _
  have hblk : ∀ b, b < wr.heap.size → out.ownBlock ≠ some b → w3.heap[b]? = wr.heap[b]? := fun b hb hn =>
    (hg.block b (by omega) (fun e => hn e.symm)).trans (by rw [heap_alloc, if_neg (by omega)])
  have hty : ∀ {base' n : Nat} {u : Value} {us : List Value}, wr.ownsRow base' 3 1 u n us → w3.ownsRow base' 3 1 u n us := fun hu =>
    own_same (Nat.le_refl _) hu (fun b e => hblk b (own_lt hu b e) (fun e' => by
      rcases rows_ne h.g.outer hu (by decide) with y | y
      · rw [y] at e'; cases e'
      · exact y (e'.trans e.symm)))
  refine ⟨⟨own_same (Nat.le_refl _) h.g.own.outer (fun b e => hblk b (own_lt h.g.own.outer b e) (fun e' => by have := own_base h.g.outer b e'; have := hvb b e; omega)), h.g.own.len, fun i r y hr hy => hty (h.g.own.row i r y hr hy), h.g.own.apart⟩, by simpa using ho, fun i o y ho' hy => ?_, fun i o b ho' hb => ?_, fun i j o p b hij ho' hp hb => ?_, ?_⟩
  · rcases snoc_cases ho' with ⟨hi, ho'⟩ | ⟨rfl, rfl⟩
    · exact hty (h.g.row i o y ho' hy)
    · rw [hx] at hy; cases hy; exact hty h.here
  · rcases snoc_cases ho' with ⟨hi, ho'⟩ | ⟨rfl, rfl⟩
    · exact h.g.src i o b ho' hb
    · exact (h.src b hb).elim .inl (fun y => .inr (by omega))
  · rcases snoc_cases ho' with ⟨hi, ho1⟩ | ⟨e1, e2⟩ <;> rcases snoc_cases hp with ⟨hj, hp1⟩ | ⟨e3, e4⟩
    · exact h.g.apart i j o p b hij ho1 hp1 hb
    · rw [e4]; exact h.off hrb hlt i o b ho1 hb
    · intro e; exact h.off hrb hlt j p b hp1 e (e2 ▸ hb)
    · exact absurd (e1.trans e3.symm) hij
  · refine (h.g.keeps.alloc X).trans (Keeps.of_grownBy hg) (fun i hi e => ?_)
    have := own_base h.g.outer i e.symm; omega

set_option maxHeartbeats 2000000 in
theorem grown_calls (w : World) (base : Nat) (v : Value) (xs : List (List Int)) (rows : List Value) (mark : Int) (h : Owned base w v xs rows) (hbw : base ≤ w.heap.size) (hl : xs.length ≤ 2147483647) (hl2 : ∀ x ∈ xs, x.length ≤ 2147483647) :
    Calls Try.prog 20 #[v, .int .i64 mark] w fun e w' => e = .returned (.bool true) ∧ Keeps (Blocks rows) w w' := by
  obtain ⟨i0, hi, hz0, hz1, hz2⟩ := info_parts infoInt
  obtain ⟨i1, gi, gz0, gz1, gz2⟩ := info_parts infoSli
  have hLs := h.lists (by omega) (fun x hx => by have := hl2 x hx; omega)
  go_enter Try.func20, Try.ntmps20
  go_wp2_with fail
  refine (copied_calls w _ v xs hLs hl hl2).mono ?_
  rintro e w1 ⟨was, rowsW, rfl, hW, hk1⟩
  have hO1 := h.same (w' := w1) (Nat.le_refl _) (fun k _ hk => hk1.block k hk id)
  have hz := hk1.size
  have hrb : ∀ (i : Nat) (r : Value) (b : Nat), rows[i]? = some r → r.ownBlock = some b → b < w.heap.size := by
    intro i r b hr hb
    obtain ⟨x, -, hx⟩ := h.off hr
    exact own_lt hx b hb
  have hvb : ∀ b, v.ownBlock = some b → b < w.heap.size := fun b e => own_lt h.outer b e
  obtain ⟨a, cap, rfl⟩ := own_slice h.outer
  have hG0 : Grown base w1 w1 (.slice a xs.length cap) xs rows mark (.slice none 0 0) [] :=
    ⟨hO1, World.ownsRow_nil _ _ _ _, fun i o x h => by simp at h, fun i o b h => by simp at h, fun i j o p b _ h => by simp at h, Keeps.refl _ _⟩
  go_wp2_with fail
  go_loopg [6, 16] xs.length (fun g out i wr => ∃ (k : Nat) (outs : List Value), g = xs.length - k ∧ k ≤ xs.length ∧ i = .int .i64 k ∧ outs.length = k ∧ Grown base w1 wr (.slice a xs.length cap) xs rows mark out outs)
  case atStart => exact ⟨0, [], rfl, by omega, rfl, rfl, hG0⟩
  case round =>
    obtain ⟨k, outs, rfl, hk, rfl, hol, hG⟩ := hrel
    subst hol
    by_cases hlt : outs.length < xs.length
    · obtain ⟨wk, rfl⟩ : ∃ wk : World, wk = wr := ⟨_, rfl⟩
      obtain ⟨x, hx⟩ : ∃ x, xs[outs.length]? = some x := ⟨_, List.getElem?_eq_getElem hlt⟩
      have hx2 := hl2 x (List.mem_of_getElem? hx)
      have hkr : outs.length < rows.length := by rw [h.len]; exact hlt
      have hr0 : rows[outs.length]? = some rows[outs.length] := List.getElem?_eq_getElem hkr
      obtain ⟨go, rfl, q⟩ := own_cell hG.own.outer (j := outs.length) (u := rows[outs.length]) hr0
      have hwk := hG.keeps.size
      have hrow := hG.own.row outs.length _ x hr0 hx
      have hN0 : Nine base w1 wk wk (.slice (some ⟨go, 0, none⟩) xs.length cap) xs rows mark u6 outs rows[outs.length] x 0 :=
        ⟨hG, by simpa [nine] using hrow, fun b e => .inl ⟨_, hr0, e⟩, Nat.le_refl _⟩
      have hlo : ∀ (i : Nat) (o : Value) (b : Nat), outs[i]? = some o → o.ownBlock = some b → b < wk.heap.size := by
        intro i o b ho hb
        have hi := (List.getElem?_eq_some_iff.1 ho).1
        exact own_lt (hG.row i o _ ho (List.getElem?_eq_getElem (by omega))) b hb
      obtain ⟨ra, rc, hre⟩ := own_slice hrow
      rw [hre] at q hN0
      have hlt1 : (outs.length : Int) < (xs.length : Int) := by omega
      go_wp2_with fail
      clear q
      go_loopg [8, 23] 9 (fun g kv i wr => ∃ j : Nat, g = 9 - j ∧ j ≤ 9 ∧ i = .int .i64 j ∧ Nine base w1 wk wr (.slice (some ⟨go, 0, none⟩) xs.length cap) xs rows mark u6 outs kv x j)
      case atStart => exact ⟨0, rfl, by omega, rfl, hN0⟩
      case round =>
        obtain ⟨j, rfl, hj, rfl, hN⟩ := hrel
        by_cases hlj : j < 9
        · have hj1 : (j : Int) < 9 := by omega
          have c3 : x.length + j + 1 ≤ maxLen := by unfold maxLen; omega
          have c4 : (x.length + j + 1) * 8 ≤ 140737488355328 := by omega
          have hzN := hN.size
          have c5 : ∀ X, base ≤ (wr.alloc X).heap.size := fun X => by rw [size_alloc]; omega
          have HH := Lib.hid hN
          have hNh := hN.here
          clear hN
          obtain ⟨ka, kc, rfl⟩ := own_slice hNh
          go_wp2_with (at_builtin; refine wpList_append_one _ rfl _ _ 67 rfl base 3 i0 (.int .i64 0) 8 Try.underlying67 hi hz0 hz1 hz2 rfl (.slice ka (x.length + j) kc) _ _ rfl (hNh.alloc _) ⟨wr.heap.size, 0, none⟩ 1 (.int .i64 (at10 mark outs.length j)) rfl (cell_one_new _ _ _) (by simp [Value.oneCell']) c3 c4 (c5 _) ?_; intro v1 w2 ho1 hg1 hat1; have hN2 := HH.out.step hx hwk (fun i r b hr hb => by have := hrb i r b hr hb; omega) hlo ho1 hg1 hat1; clear hNh ho1 hg1 hat1)
          go_roundg (9 - (j + 1))
          case measure => omega
          case rel => exact ⟨j + 1, rfl, by omega, rfl, hN2⟩
        · have hno : ¬ (j : Int) < 9 := by omega
          have hj9 : j = 9 := by omega
          subst hj9
          have c3 : outs.length + 1 ≤ maxLen := by unfold maxLen; omega
          have c4 : (outs.length + 1) * 24 ≤ 140737488355328 := by omega
          have hzN := hN.size
          have c5 : ∀ X, w1.heap.size ≤ (wr.alloc X).heap.size := fun X => by rw [size_alloc]; omega
          have HH := Lib.hid hN
          have hNo := hN.g.outer
          obtain ⟨ka, kc, rfl⟩ := own_slice hN.here
          clear hN
          go_wp2_with (at_builtin; refine wpList_append_own _ rfl _ _ 35 rfl w1.heap.size 67 i1 (.slice none 0 0) 1 24 Try.underlying35 gi gz0 gz1 gz2 rfl (by decide) u6 _ _ rfl (hNo.alloc _) ⟨wr.heap.size, 0, none⟩ 1 1 [.slice ka (x.length + 9) kc] rfl rfl (cell_one_new _ _ _) (by simp [Value.oneCell']) c3 c4 (c5 _) ?_; intro v1 w3 ho1 hg1 _; have hG3 := HH.out.done hx hwk (fun b e => by have := hvb b e; omega) (fun i r b hr hb => by have := hrb i r b hr hb; omega) hlo ho1 hg1; clear hNo ho1 hg1)
          go_roundg (xs.length - (outs.length + 1))
          case measure => omega
          case rel => exact ⟨outs.length + 1, _, rfl, by omega, rfl, by simp, hG3⟩
    · have hno : ¬ (outs.length : Int) < (xs.length : Int) := by omega
      have hkk : outs.length = xs.length := by omega
      have hW2 := hW.same (w' := wr) (Nat.le_refl _) (fun k hk1 hk2 => hG.keeps.block k hk2 (fun ⟨i, r, hr, hb⟩ => by have := hrb i r k hr hb; omega))
      have hL1 := hG.own.lists (by omega) (fun x hx => by have := hl2 x hx; omega)
      have hL2 := hW2.lists (by omega) (fun x hx => by have := hl2 x hx; omega)
      go_wp2_with fail
      refine (same_calls wr _ _ _ _ _ hL1 hL2).mono ?_
      rintro e w4 ⟨rfl, hk4⟩
      obtain ⟨oa, oc, rfl⟩ := own_slice hG.outer
      have hfin : Keeps (Blocks rows) w w4 := ((hk1.mono (T := Blocks rows) (fun _ _ x => x.elim)).trans hG.keeps (fun _ _ x => x)).trans hk4 (fun _ _ x => x.elim)
      have hO : ∀ (wx : World), Keeps (fun _ => False) w4 wx → ∀ (k : Nat) (x : List Int), k < outs.length → xs[k]? = some x → ∃ og wg r g c, oa = some ⟨og, 0, none⟩ ∧ wx.cell? ⟨og, k, none⟩ = some (.slice (some ⟨g, 0, none⟩) (x.length + 9) c) ∧ was = .slice (some ⟨wg, 0, none⟩) xs.length r ∧
          (∃ wa wc, wx.cell? ⟨wg, k, none⟩ = some (.slice wa x.length wc)) ∧ ∀ j, j < 9 → wx.cell? ⟨g, x.length + j, none⟩ = some (.int .i64 (at10 mark k j)) := by
        intro wx hkx k x hk hx
        have hkw : Keeps (fun _ => False) wr wx := hk4.trans hkx (fun _ _ x => x)
        have ho := own_same (w' := wx) (Nat.le_refl _) hG.outer (fun b e => hkw.block b (own_lt hG.outer b e) id)
        obtain ⟨og, rfl, q1⟩ := own_cell ho (j := k) (u := outs[k]) (List.getElem?_eq_getElem hk)
        have hrow0 := hG.row k _ x (List.getElem?_eq_getElem hk) hx
        have hrow := own_same (w' := wx) (Nat.le_refl _) hrow0 (fun b e => hkw.block b (own_lt hrow0 b e) id)
        obtain ⟨ga, gc, hge⟩ := own_slice hrow
        rw [hge] at hrow q1
        obtain ⟨g, rfl⟩ := own_some hrow (by omega)
        have hWx := hW2.same (w' := wx) (Nat.le_refl _) (fun b _ hb => hkw.block b hb id)
        obtain ⟨wa, wc, hwe⟩ := own_slice hWx.outer
        subst hwe
        have hkr : k < rowsW.length := by rw [hWx.len]; omega
        obtain ⟨wg, rfl, q2⟩ := own_cell hWx.outer (j := k) (u := rowsW[k]) (List.getElem?_eq_getElem hkr)
        obtain ⟨wra, wrc, hwr⟩ := own_slice (hWx.row k _ x (List.getElem?_eq_getElem hkr) hx)
        rw [hwr] at q2
        refine ⟨og, wg, wc, g, gc, rfl, q1, rfl, ⟨wra, wrc, q2⟩, fun j hj => ?_⟩
        obtain ⟨g', e, q3⟩ := own_cell hrow (j := x.length + j) (u := .int .i64 (at10 mark k j)) (by
          rw [List.getElem?_append_right (by simp), List.length_map, Nat.add_sub_cancel_left]; exact nine_get _ _ _ _ hj)
        cases e; exact q3
      have HO := Lib.hid hO
      clear hO hG hW2 hL1 hL2 hG0 hO1 hLs hW hk4
      go_wp2_with fail
      go_loopg [47] outs.length (fun g i wr => ∃ k : Nat, g = outs.length - k ∧ k ≤ outs.length ∧ i = .int .i64 k ∧ Keeps (fun _ => False) w4 wr)
      case atStart => exact ⟨0, rfl, by omega, rfl, Keeps.refl _ _⟩
      case round =>
        obtain ⟨k, rfl, hk', rfl, hK⟩ := hrel
        by_cases hlt : k < outs.length
        · obtain ⟨wo, rfl⟩ : ∃ wo : World, wo = wr := ⟨_, rfl⟩
          obtain ⟨x, hx⟩ : ∃ x, xs[k]? = some x := ⟨_, List.getElem?_eq_getElem (by omega)⟩
          have hx2 := hl2 x (List.mem_of_getElem? hx)
          have hlt1 : (k : Int) < (outs.length : Int) := by omega
          have hlt2 : (k : Int) < (xs.length : Int) := by omega
          go_wp2_with fail
          go_loopg [50] 9 (fun g i wr => ∃ j : Nat, g = 9 - j ∧ j ≤ 9 ∧ i = .int .i64 j ∧ Keeps (fun _ => False) w4 wr)
          case atStart => exact ⟨0, rfl, by omega, rfl, hK⟩
          case round =>
            obtain ⟨j, rfl, hj, rfl, hKj⟩ := hrel
            by_cases hlj : j < 9
            · obtain ⟨og, wg, r, g, c, rfl, q1, rfl, ⟨wa, wc, q2⟩, q3⟩ := HO.out wr hKj k x hlt hx
              have q4 : wr.cell? ⟨g, x.length + j, none⟩ = some (.int .i64 (wrap64 (wrap64 (mark + 10 * (k : Int)) + (j : Int)))) := q3 j hlj
              have hj1 : (j : Int) < 9 := by omega
              have hj2 : (x.length : Int) + (j : Int) < ((x.length + 9 : Nat) : Int) := by omega
              have hj3 : (x.length : Int) + (j : Int) < (x.length : Int) + 9 := by omega
              have hne : (wrap64 (wrap64 (mark + 10 * (k : Int)) + (j : Int)) != wrap64 (wrap64 (mark + 10 * (k : Int)) + (j : Int))) = false := by simp
              clear q3
              go_wp2_with fail
              go_quiet (fail)
              go_wp2_with fail
              go_roundg (9 - (j + 1))
              case measure => omega
              case rel => exact ⟨j + 1, rfl, by omega, rfl, hKj.drewN _⟩
            · have hno : ¬ (j : Int) < 9 := by omega
              go_wp2_with fail
              go_roundg (outs.length - (k + 1))
              case measure => omega
              case rel => exact ⟨k + 1, rfl, by omega, rfl, hKj⟩
        · have hno : ¬ (k : Int) < (outs.length : Int) := by omega
          have hres := hfin.trans hK (fun _ _ x => x.elim)
          go_wp2_with fail
          go_ret
          exact ⟨rfl, hres⟩
end Go.Proofs.Ytigaldgbkeoilaa.Ca
