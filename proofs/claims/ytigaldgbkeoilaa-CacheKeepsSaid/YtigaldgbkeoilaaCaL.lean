/- laid: a cache restored of lists with spare room, which are written over. No conditions but on lengths. -/
import Derived.Test.YtigaldgbkeoilaaCaK
import Derived.Test.YtigaldgbkeoilaaCaJ
import Derived.Test.YtigaldgbkeoilaaCaI
namespace Go.Proofs.Ytigaldgbkeoilaa.Ca
open Go.RowKit Go.Proofs.Ytigaldgbkeoilaa.Mem Go.Proofs.Ytigaldgbkeoilaa.Sh Go.Proofs.Ytigaldgbkeoilaa.Rng
set_option linter.unusedSimpArgs false
set_option linter.unusedVariables false

theorem own_ne_at {w : World} {base e e' sz n : Nat} {v : Value} {xs : List Value} {g : Nat} {c : Array Value} {fr : Nat × Nat} (h : w.ownsRow base e sz v n xs) (hg : At w g (.cells c e' fr)) (he : e ≠ e') : v.ownBlock ≠ some g := by
  intro e1
  rcases h.2 with ⟨rfl, -⟩ | ⟨g', cap, cur, rfl, -, hg', -⟩
  · simp [Value.ownBlock] at e1
  · simp only [Value.ownBlock, Option.some.injEq] at e1
    subst e1; rw [hg.eq] at hg'; simp at hg'; exact he hg'.2.1.symm

theorem Spare.same {w w' : World} {g : Nat} {x : List Int} {c : Array Value} (h : Spare w g x c) (hk : w'.heap[g]? = w.heap[g]?) : Spare w' g x c := ⟨hk.trans h.here, h.size, h.cell⟩

theorem Spare.ints {w : World} {g : Nat} {x : List Int} {c : Array Value} {A : Nat → Prop} (h : Spare w g x c) (hA : A g) (hl : x.length ≤ 9223372036854775807) : IntsAt w A (.slice (some ⟨g, 0, none⟩) x.length (x.length + 70)) x := by
  refine ⟨_, _, rfl, ⟨hl, by omega⟩, fun j u hj => ⟨g, 0, rfl, hA, ?_⟩⟩
  have hlt := (List.getElem?_eq_some_iff.1 hj).1
  have := h.here.cell (h.cell j (by omega))
  unfold spare at this
  rw [hj] at this
  simpa using this

structure Laying (w wr : World) (xs : List (List Int)) (h m : Value) (rh rm rows : List Value) : Prop where
  handed : wr.ownsRow w.heap.size 67 1 h rh.length rh
  mine : wr.ownsRow w.heap.size 67 1 m rm.length rm
  apart : ∀ b, h.ownBlock = some b → m.ownBlock ≠ some b
  spares : ∀ (i : Nat) (r : Value), rows[i]? = some r → ∃ x g c, xs[i]? = some x ∧ r = .slice (some ⟨g, 0, none⟩) x.length (x.length + 70) ∧ w.heap.size ≤ g ∧ Spare wr g x c
  far : ∀ (i j : Nat) (r s : Value) (b : Nat), i ≠ j → rows[i]? = some r → rows[j]? = some s → r.ownBlock = some b → s.ownBlock ≠ some b
  keeps : Keeps (fun _ => False) w wr

theorem Laying.swap {w wr : World} {xs : List (List Int)} {h m : Value} {rh rm rows : List Value} (l : Laying w wr xs h m rh rm rows) : Laying w wr xs m h rm rh rows :=
  ⟨l.mine, l.handed, fun b e e' => l.apart b e' e, l.spares, l.far, l.keeps⟩

theorem snoc_cases {rows : List Value} {r s : Value} {i : Nat} (h : (rows ++ [r])[i]? = some s) : (i < rows.length ∧ rows[i]? = some s) ∨ (i = rows.length ∧ s = r) := by
  by_cases e : i < rows.length
  · exact .inl ⟨e, by rwa [List.getElem?_append_left e] at h⟩
  · rw [List.getElem?_append_right (by omega)] at h
    have : i - rows.length < 1 := by have := (List.getElem?_eq_some_iff.1 h).1; simpa using this
    have e2 : i = rows.length := by omega
    subst e2; simp at h; exact .inr ⟨rfl, h.symm⟩

theorem Laying.row {w wr w1 : World} {xs : List (List Int)} {h m : Value} {rh rm rows : List Value} {x : List Int} {c : Array Value} (l : Laying w wr xs h m rh rm rows) (hx : xs[rows.length]? = some x)
    (hs : Spare w1 wr.heap.size x c) (hk : Keeps (fun _ => False) wr w1) : Laying w w1 xs h m rh rm (rows ++ [.slice (some ⟨wr.heap.size, 0, none⟩) x.length (x.length + 70)]) := by
  have kp : ∀ {base e n : Nat} {v : Value} {us : List Value}, wr.ownsRow base e 1 v n us → w1.ownsRow base e 1 v n us := fun h => own_same (Nat.le_refl _) h (fun k e => hk.block k (own_lt h k e) id)
  have hlt : ∀ (i : Nat) (s : Value) (b : Nat), rows[i]? = some s → s.ownBlock = some b → b < wr.heap.size := by
    intro i s b hi hb
    obtain ⟨y, g, c', -, rfl, -, hsp⟩ := l.spares i s hi
    simp only [Value.ownBlock, Option.some.injEq] at hb
    subst hb; exact hsp.here.lt
  refine ⟨kp l.handed, kp l.mine, l.apart, fun i r hr => ?_, fun i j r s b hij hr hs' hb => ?_, l.keeps.trans hk (fun _ _ x => x)⟩
  · rcases snoc_cases hr with ⟨hi, hr⟩ | ⟨rfl, rfl⟩
    · obtain ⟨y, g, c', hy, e, hg, hsp⟩ := l.spares i r hr
      exact ⟨y, g, c', hy, e, hg, hsp.same (hk.block g hsp.here.lt id)⟩
    · exact ⟨x, _, c, hx, rfl, l.keeps.size, hs⟩
  · rcases snoc_cases hr with ⟨hi, hr⟩ | ⟨e1, e2⟩ <;> rcases snoc_cases hs' with ⟨hj, hs'⟩ | ⟨e3, e4⟩
    · exact l.far i j r s b hij hr hs' hb
    · have := hlt i r b hr hb
      rw [e4]; simp only [Value.ownBlock, ne_eq, Option.some.injEq]; omega
    · intro e
      have := hlt j s b hs' e
      rw [e2] at hb; simp only [Value.ownBlock, Option.some.injEq] at hb; omega
    · exact absurd (e1.trans e3.symm) hij

theorem Laying.put {w wr w1 : World} {xs : List (List Int)} {h h1 m r : Value} {rh rm rows : List Value} {X : Obj} (l : Laying w wr xs h m rh rm rows) (ho : w1.ownsRow w.heap.size 67 1 h1 (rh.length + 1) (rh ++ [r]))
    (hg : (wr.alloc X).grownBy w1 h.ownBlock) (hat : h1.ownBlock = h.ownBlock ∨ h1.ownBlock = some (wr.alloc X).heap.size) : Laying w w1 xs h1 m (rh ++ [r]) rm rows := by
  have hz : (wr.alloc X).heap.size = wr.heap.size + 1 := size_alloc _ _
  have hblk : ∀ b, b < wr.heap.size → h.ownBlock ≠ some b → w1.heap[b]? = wr.heap[b]? := fun b hb hn =>
    (hg.block b (by omega) (fun e => hn e.symm)).trans (by rw [heap_alloc, if_neg (by omega)])
  refine ⟨by simpa using ho, own_same (Nat.le_refl _) l.mine (fun k e => hblk k (own_lt l.mine k e) (fun e' => l.apart k e' e)), fun b e e' => ?_, fun i r hr => ?_, l.far, (l.keeps.alloc X).trans (Keeps.of_grownBy hg) (fun i hi e => ?_)⟩
  · rcases hat with x | x
    · exact l.apart b (x ▸ e) e'
    · rw [x, hz] at e; simp only [Option.some.injEq] at e
      have := own_lt l.mine b e'; omega
  · obtain ⟨y, g, c', hy, e, hg', hsp⟩ := l.spares i r hr
    exact ⟨y, g, c', hy, e, hg', hsp.same (hblk g hsp.here.lt (own_ne_at l.handed hsp.here (by decide)))⟩
  · have := own_base l.handed i e.symm; omega

theorem Laying.nil (w : World) (xs : List (List Int)) : Laying w w xs (.slice none 0 0) (.slice none 0 0) [] [] [] :=
  ⟨World.ownsRow_nil _ _ _ _, World.ownsRow_nil _ _ _ _, fun b e => by simp [Value.ownBlock] at e, fun i r h => by simp at h, fun i j r s b _ h => by simp at h, Keeps.refl _ _⟩

theorem Laying.lists {w wr : World} {xs : List (List Int)} {h m : Value} {rows : List Value} {rm : List Value} (l : Laying w wr xs h m rows rm rows) (hlen : rows.length = xs.length) (hl : xs.length ≤ 9223372036854775807) (hl2 : ∀ x ∈ xs, x.length ≤ 9223372036854775807) :
    ListsAt wr (fun b => w.heap.size ≤ b ∧ b < wr.heap.size) h xs := by
  have ho := l.handed
  rw [hlen] at ho
  obtain ⟨a, cap, rfl⟩ := own_slice ho
  refine ⟨a, cap, rfl, hl, fun i x hi => ?_⟩
  have hi' : i < rows.length := by rw [hlen]; exact (List.getElem?_eq_some_iff.1 hi).1
  obtain ⟨g, rfl, hc⟩ := own_cell ho (j := i) (u := rows[i]) (List.getElem?_eq_getElem hi')
  obtain ⟨y, g', c, hy, e, hg', hsp⟩ := l.spares i _ (List.getElem?_eq_getElem hi')
  rw [hi] at hy; cases hy
  exact ⟨g, 0, _, rfl, ⟨own_base ho g rfl, own_lt ho g rfl⟩, by rw [Nat.zero_add]; exact hc.trans (by rw [e]), hsp.ints ⟨hg', hsp.here.lt⟩ (hl2 x (List.mem_of_getElem? hi))⟩

/-- A row of mine, where it lies. -/
def MineRow (w2 : World) (ma : Option Addr) (x : List Int) (rows : List Value) (lo hi k : Nat) : Prop :=
  ∃ mg g c cc, ma = some ⟨mg, 0, none⟩ ∧ At w2 mg (.cells cc 67 (0, 0)) ∧ cc[k]? = some (.slice (some ⟨g, 0, none⟩) x.length (x.length + 70)) ∧ Spare w2 g x c ∧ rows[k]? = some (.slice (some ⟨g, 0, none⟩) x.length (x.length + 70)) ∧ (lo ≤ g ∧ g < hi) ∧ lo ≤ mg ∧ mg < hi

theorem Laying.mineRow {w wr : World} {xs : List (List Int)} {h : Value} {ma : Option Addr} {n cap : Nat} {rh rows : List Value} {k : Nat} {x : List Int} (l : Laying w wr xs h (.slice ma n cap) rh rows rows) (hx : xs[k]? = some x) (hk : k < rows.length) :
    MineRow wr ma x rows w.heap.size wr.heap.size k := by
  obtain ⟨y, g, c, hy, e, hg, hsp⟩ := l.spares k _ (List.getElem?_eq_getElem hk)
  rw [hx] at hy; cases hy
  rcases l.mine.2 with ⟨-, h0⟩ | ⟨mg, cap', cur, e1, hb, hm, -, -, -, ht⟩
  · omega
  · simp only [Value.slice.injEq] at e1
    have hc : cur[k]? = some rows[k] := by
      have : (cur.toList.take (rows.length * 1))[k]? = some rows[k] := by rw [ht]; exact List.getElem?_eq_getElem hk
      rw [List.getElem?_take, if_pos (by omega)] at this
      simpa using this
    exact ⟨mg, g, c, cur, e1.1, hm, by rw [hc, e], hsp, by rw [List.getElem?_eq_getElem hk, e], ⟨hg, hsp.here.lt⟩, hb, At.lt hm⟩

theorem MineRow.keeps {S : Nat → Prop} {w2 w3 : World} {ma : Option Addr} {x : List Int} {rows : List Value} {lo hi k : Nat} (h : MineRow w2 ma x rows lo hi k) (hk : Keeps S w2 w3) (hS : ∀ b, lo ≤ b → b < hi → ¬ S b) : MineRow w3 ma x rows lo hi k := by
  obtain ⟨mg, g, c, cc, e, h1, h2, h3, h4, h5, h6, h7⟩ := h
  exact ⟨mg, g, c, cc, e, hk.get h1 (hS mg h6 h7), h2, h3.same (hk.block g h3.here.lt (hS g h5.1 h5.2)), h4, h5, h6, h7⟩

/-- The blocks of the first k rows. -/
def Spoilt (rows : List Value) (k b : Nat) : Prop := ∃ i r, i < k ∧ rows[i]? = some r ∧ r.ownBlock = some b

theorem MineRow.past {w2 w3 : World} {ma : Option Addr} {x : List Int} {rows : List Value} {lo hi k : Nat} (h : MineRow w2 ma x rows lo hi k) (hk : Keeps (Spoilt rows k) w2 w3)
    (far : ∀ (i j : Nat) (r s : Value) (b : Nat), i ≠ j → rows[i]? = some r → rows[j]? = some s → r.ownBlock = some b → s.ownBlock ≠ some b) (hty : ∀ (i : Nat) (r : Value) (b : Nat), rows[i]? = some r → r.ownBlock = some b → ∃ c, At w2 b (.cells c 3 (0, 0))) :
    MineRow w3 ma x rows lo hi k := by
  obtain ⟨mg, g, c, cc, e, h1, h2, h3, h4, h5, h6, h7⟩ := h
  have n1 : ¬ Spoilt rows k mg := by
    rintro ⟨i, r, -, hr, hb⟩
    obtain ⟨c', hc'⟩ := hty i r mg hr hb
    have := h1.uniq hc'
    simp at this
  have n2 : ¬ Spoilt rows k g := by
    rintro ⟨i, r, hi, hr, hb⟩
    exact far i k r _ g (by omega) hr h4 hb (by simp [Value.ownBlock])
  exact ⟨mg, g, c, cc, e, hk.get h1 n1, h2, h3.same (hk.block g h3.here.lt n2), h4, h5, h6, h7⟩

set_option maxHeartbeats 2000000 in
theorem laid_calls (w : World) (c : Nat) (F A : Nat → Prop) (L X : Nat → List Int) (v : Value) (mark : Int) (h : CacheIs w c F L) (hv : ListsAt w A v [X 0, X 1, X 2, X 3]) (hA : ∀ b, A b → ¬ F b)
    (h2 : ∀ i, i < 4 → (X i).length ≤ 2) (hn : ∀ i, i < 4 → (X i).Nodup) (hg : Good X) :
    Calls Try.prog 18 #[.pointer (some ⟨c, 0, none⟩), v, .int .i64 mark] w fun e w' => e = .returned (.bool true) ∧ Filling w w' c F X := by
  obtain ⟨i1, gi, gz0, gz1, gz2⟩ := info_parts infoSli
  obtain ⟨a, cap, rfl, -, hc⟩ := id hv
  have hX : ∀ k, k < 4 → [X 0, X 1, X 2, X 3][k]? = some (X k) := by
    intro k hk
    obtain rfl | rfl | rfl | rfl : k = 0 ∨ k = 1 ∨ k = 2 ∨ k = 3 := by omega
    all_goals rfl
  have hlen : ([X 0, X 1, X 2, X 3] : List (List Int)).length = 4 := rfl
  have hl2 : ∀ x ∈ [X 0, X 1, X 2, X 3], x.length ≤ 2 := by
    intro x hx
    obtain ⟨i, hi, e⟩ := List.mem_iff_getElem.1 hx
    have hi4 : i < 4 := by simpa using hi
    have := hX i hi4
    rw [List.getElem?_eq_getElem hi, e] at this
    cases this; exact h2 i hi4
  rw [hlen]
  go_enter Try.func18, Try.ntmps18
  go_wp2
  go_loopg [7, 8, 16] 4 (fun g hd mn i wr => ∃ (k : Nat) (rows : List Value), g = 4 - k ∧ k ≤ 4 ∧ i = .int .i64 k ∧ rows.length = k ∧ Laying w wr [X 0, X 1, X 2, X 3] hd mn rows rows rows)
  case atStart => exact ⟨0, [], rfl, by omega, rfl, rfl, Laying.nil _ _⟩
  case round =>
    obtain ⟨k, rows, rfl, hk, rfl, hrl, hY⟩ := hrel
    by_cases hlt : k < 4
    · obtain ⟨b, off, r, rfl, hAb, q, hr⟩ := hc k _ (hX k hlt)
      have qo := cell_keeps hY.keeps q (fun x => x)
      have hro := hr.keeps hY.keeps (fun _ _ => id)
      have hlt1 : (k : Int) < 4 := by omega
      go_wp2_with fail
      refine (ints_calls wr A r (X k) hro (by have := h2 k hlt; omega)).mono ?_
      rintro e w1 ⟨c1, rfl, hsp, hz1, hk1⟩
      have hY1 := hY.row (by rw [hrl]; exact hX k hlt) hsp hk1
      have hzz := hY.keeps.size
      have c3 : rows.length + 1 ≤ maxLen := by unfold maxLen; omega
      have c4 : (rows.length + 1) * 24 ≤ 140737488355328 := by omega
      have c5 : ∀ X, w.heap.size ≤ (w1.alloc X).heap.size := fun X => by rw [size_alloc]; omega
      clear qo hro hsp hk1 q hr hz1
      go_wp2_with (first
        | (at_builtin; refine wpList_append_own_at _ rfl _ _ 35 rfl w.heap.size 67 i1 (.slice none 0 0) 1 24 Try.underlying35 gi gz0 gz1 gz2 rfl (by decide) u7 _ _ rfl (hY1.handed.alloc _) ⟨w1.heap.size, 0, none⟩ 1 1 [.slice (some ⟨wr.heap.size, 0, none⟩) (X k).length ((X k).length + 70)] rfl rfl (cell_one_new _ _ _) (by simp [Value.oneCell']) c3 c4 (c5 _) ?_; intro v2 w2 ho2 hg2 _ hat2; have hY2 := hY1.put ho2 hg2 hat2; have c6 : ∀ X, w.heap.size ≤ (w2.alloc X).heap.size := (fun X => by rw [size_alloc]; have := hY2.keeps.size; omega); clear ho2 hg2 hat2)
        | (at_builtin; refine wpList_append_own_at _ rfl _ _ 35 rfl w.heap.size 67 i1 (.slice none 0 0) 1 24 Try.underlying35 gi gz0 gz1 gz2 rfl (by decide) u8 _ _ rfl (hY2.mine.alloc _) ⟨w2.heap.size, 0, none⟩ 1 1 [.slice (some ⟨wr.heap.size, 0, none⟩) (X k).length ((X k).length + 70)] rfl rfl (cell_one_new _ _ _) (by simp [Value.oneCell']) c3 c4 (c6 _) ?_; intro v3 w3 ho3 hg3 _ hat3; have hY3 := (hY2.swap.put ho3 hg3 hat3).swap; clear ho3 hg3 hat3))
      go_roundg (4 - (k + 1))
      case measure => omega
      case rel => exact ⟨k + 1, _, rfl, by omega, rfl, by simp [hrl], hY3⟩
    · have hk4 : k = 4 := by omega
      subst hk4
      have hrl4 : rows.length = ([X 0, X 1, X 2, X 3] : List (List Int)).length := hrl
      have hB := h.bound
      have hLh := hY.lists hrl4 (by simp) (fun x hx => by have := hl2 x hx; omega)
      have hLw := hv.keeps hY.keeps (fun _ _ => id)
      have hCr := h.keeps hY.keeps (fun _ _ => id)
      have hzr := hY.keeps.size
      have hm := hY.mine
      rw [hrl] at hm
      obtain ⟨ma, mcap, rfl⟩ := own_slice hm
      go_wp2_with fail
      refine (restore_yes wr c F _ L X u7 hCr hLh (fun b hb x => by have := hB b x; omega) h2 hn hg).mono ?_
      rintro e w1 ⟨rfl, hS⟩
      have hL1 := hLh.keeps hS.keeps (fun b hb x => by have := hB b x; omega)
      have hV1 := hLw.keeps hS.keeps hA
      go_wp2_with fail
      refine (same_calls w1 _ _ u7 _ _ hL1 hV1).mono ?_
      rintro e w2 ⟨rfl, hk2⟩
      have hV2 := hV1.keeps hk2 (fun _ _ => id)
      have hR : ∀ k, k < 4 → MineRow w2 ma (X k) rows w.heap.size wr.heap.size k := fun k hk =>
        ((hY.mineRow (hX k hk) (by omega)).keeps hS.keeps (fun b hb _ x => by have := hB b x; omega)).keeps hk2 (fun _ _ _ => id)
      have hfar := hY.far
      have hty : ∀ (i : Nat) (r : Value) (b : Nat), rows[i]? = some r → r.ownBlock = some b → (w.heap.size ≤ b ∧ b < wr.heap.size) ∧ ∃ c, At w2 b (.cells c 3 (0, 0)) := by
        intro i r b hr hb
        obtain ⟨y, g, c', -, rfl, hg', hsp⟩ := hY.spares i r hr
        simp only [Value.ownBlock, Option.some.injEq] at hb
        subst hb
        exact ⟨⟨hg', hsp.here.lt⟩, c', hk2.get (hS.keeps.get hsp.here (fun x => by have := hB _ x; omega)) id⟩
      have HS := Lib.hid hS
      have HF := Lib.hid hfar
      have HT := Lib.hid hty
      have hKy := hY.keeps
      clear hL1 hV1 hLh hLw hCr hS hm hY hfar hty hv hc hg hn
      go_wp2_with fail
      go_loopg [46] 4 (fun g i wr => ∃ k : Nat, g = 4 - k ∧ k ≤ 4 ∧ i = .int .i64 k ∧ Keeps (fun _ => False) w2 wr)
      case atStart => exact ⟨0, rfl, by omega, rfl, Keeps.refl _ _⟩
      case round =>
        obtain ⟨k, rfl, hk, rfl, hK⟩ := hrel
        by_cases hlt : k < 4
        · obtain ⟨wo, rfl⟩ : ∃ wo : World, wo = wr := ⟨_, rfl⟩
          obtain ⟨mg, g, c3, cc, rfl, hm1, hm2, hsp, -, -, -, -⟩ := (hR k hlt).keeps hK (fun _ _ _ => id)
          obtain ⟨_, _, e0, -, hcv⟩ := hV2.keeps hK (fun _ _ => id)
          cases e0
          obtain ⟨b, off, r, rfl, hAb, q, hr⟩ := hcv k _ (hX k hlt)
          have q2 : wo.cell? ⟨mg, k, none⟩ = some (.slice (some ⟨g, 0, none⟩) (X k).length ((X k).length + 70)) := hm1.cell hm2
          have hq : ∀ n, Calls Try.prog 33 #[.slice (some ⟨g, 0, none⟩) (X k).length ((X k).length + 70), r] (wo.drewN n) fun e w' => e = .returned (.bool true) ∧ w' = wo.drewN n := fun n =>
            (kept_calls (wo.drewN n) A g r (X k) c3 (hr.drewN n) (hsp.same rfl) (by have := h2 k hlt; omega)).mono (fun e w' ⟨h, h'⟩ => ⟨h, h'.symm⟩)
          have hlt1 : (k : Int) < 4 := by omega
          go_wp2_with fail
          go_quiet (first | (go_at_call 33; exact Calls.quiet_of_same (hq _)))
          go_wp2_with fail
          go_roundg (4 - (k + 1))
          case measure => omega
          case rel => exact ⟨k + 1, rfl, by omega, rfl, hK.drewN _⟩
        · have hno : ¬ (k : Int) < 4 := by omega
          obtain ⟨w3, rfl⟩ : ∃ w3 : World, w3 = wr := ⟨_, rfl⟩
          have hR3 : ∀ k, k < 4 → MineRow w3 ma (X k) rows w.heap.size _ k := fun k hk => (hR k hk).keeps hK (fun _ _ _ => id)
          have HT3 : Hid (∀ (i : Nat) (r : Value) (b : Nat), rows[i]? = some r → r.ownBlock = some b → ∃ c, At w3 b (.cells c 3 (0, 0))) :=
            Lib.hid fun i r b hr hb => by obtain ⟨-, c', hc'⟩ := HT.out i r b hr hb; exact ⟨c', hK.get hc' id⟩
          clear hR hV2
          go_wp2_with fail
          go_loopg [62] 4 (fun g i wr => ∃ k : Nat, g = 4 - k ∧ k ≤ 4 ∧ i = .int .i64 k ∧ Keeps (Spoilt rows k) w3 wr)
          case atStart => exact ⟨0, rfl, by omega, rfl, Keeps.refl _ _⟩
          case round =>
            obtain ⟨k, rfl, hk, rfl, hK4⟩ := hrel
            by_cases hlt : k < 4
            · obtain ⟨mg, g, c3, cc, rfl, hm1, hm2, hsp, hrk, -, -, -⟩ := (hR3 k hlt).past hK4 HF.out HT3.out
              have q2 : wr.cell? ⟨mg, k, none⟩ = some (.slice (some ⟨g, 0, none⟩) (X k).length ((X k).length + 70)) := hm1.cell hm2
              have hlt1 : (k : Int) < 4 := by omega
              have h2k := h2 k hlt
              clear hm1 hm2
              go_wp2_with fail
              refine (spoil_ints wr g (X k).length ((X k).length + 70) _ c3 hsp.here hsp.size (by omega) (by omega)).mono ?_
              rintro e w5 ⟨rfl, hk5⟩
              have hK6 : Keeps (Spoilt rows (k + 1)) w3 w5 := (hK4.mono (T := Spoilt rows (k + 1)) (fun i _ ⟨j, r, hj, h⟩ => ⟨j, r, by omega, h⟩)).trans hk5 (fun i _ e => ⟨k, _, by omega, hrk, by rw [e]; rfl⟩)
              clear hsp hrk hK4 hk5
              go_wp2_with fail
              go_roundg (4 - (k + 1))
              case measure => omega
              case rel => exact ⟨k + 1, rfl, by omega, rfl, hK6⟩
            · have hno : ¬ (k : Int) < 4 := by omega
              go_wp2_with fail
              go_ret
              refine ⟨rfl, ?_⟩
              obtain ⟨F', hC', hF', hkF⟩ := HS.out
              have hsp : ∀ b, Spoilt rows k b → w.heap.size ≤ b ∧ ∀ x, F' b → x := by
                rintro b ⟨i, r, -, hr, hb⟩
                have hbb := (HT.out i r b hr hb).1
                refine ⟨hbb.1, fun x hx => ?_⟩
                rcases hF' b hx with h | h
                · have := hB b h; omega
                · omega
              refine ⟨F', ((hC'.keeps hk2 (fun _ _ => id)).keeps hK (fun _ _ => id)).keeps hK4 (fun b hb hs => (hsp b hs).2 _ hb), fun b hb => (hF' b hb).elim .inl (fun x => .inr (by omega)), ?_⟩
              refine (((hKy.mono (T := F) (fun _ _ x => x.elim)).trans hkF (fun _ _ x => x)).trans hk2 (fun _ _ x => x.elim)).trans hK (fun _ _ x => x.elim) |>.trans hK4 (fun i hi x => ?_)
              have := (hsp i x).1
              omega
end Go.Proofs.Ytigaldgbkeoilaa.Ca
