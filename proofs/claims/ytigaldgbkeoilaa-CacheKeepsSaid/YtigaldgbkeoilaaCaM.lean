/- spoil and grown: lists of the call's own are written over, and grow. No conditions but on lengths. -/
import Derived.Test.YtigaldgbkeoilaaCaK
import Derived.Test.YtigaldgbkeoilaaCaJ
import Derived.Test.YtigaldgbkeoilaaCaL
namespace Go.Proofs.Ytigaldgbkeoilaa.Ca
open Go.RowKit Go.Proofs.Ytigaldgbkeoilaa.Mem Go.Proofs.Ytigaldgbkeoilaa.Sh Go.Proofs.Ytigaldgbkeoilaa.Rng
set_option linter.unusedSimpArgs false
set_option linter.unusedVariables false

/-! ### append of one thing, and where it goes -/
theorem run_append_one {P : Program} (w : World) (base : Nat) (t ty e : TypeId) (i : TypeInfo) (z : Value) (bytes : Nat) (ht : P.underlying t = some (.slice e)) (hi : P.info? e = some i) (hz : i.zero = some z)
    (hsize : i.size = 1) (hby : i.bytes = bytes) (hzs : z.cells.size = 1) (v : Value) (n : Nat) (xs : List Value) (hown : w.ownsRow base e 1 v n xs) (a : Addr) (c : Nat) (u : Value) (hnews : ∀ j u', [u][j]? = some u' → w.cell? (a.add j) = some u') (h1 : u.oneCell' = true)
    (h63 : n + 1 ≤ maxLen) (hbytes : (n + 1) * bytes ≤ 140737488355328) (hbase : base ≤ w.heap.size) :
    ∃ v' w', (Builtin.append_ #[t, t] ty #[v, .slice (some a) 1 c]).run P w = .ok v' w' ∧ w'.ownsRow base e 1 v' (n + 1) (xs ++ [u]) ∧ w.grownBy w' v.ownBlock ∧
      ((∃ g cap, v = .slice (some ⟨g, 0, none⟩) n cap ∧ v' = .slice (some ⟨g, 0, none⟩) (n + 1) cap) ∨ (v'.ownBlock = some w.heap.size ∧ w.grownBy w' none)) := by
  have hcase := hown.2
  rcases hcase with ⟨rfl, rfl⟩ | ⟨g, cap, cur, rfl, hbg, hg, hnc, hcm, hcs, htake⟩
  · obtain ⟨v', w', hr, ho, hgr, -, hat⟩ := run_append_own_at (P := P) w base t ty e i z 1 bytes ht hi hz hsize hby hzs (by decide) _ _ _ hown a 1 c [u] rfl hnews (by simpa using h1) h63 hbytes hbase
    refine ⟨v', w', hr, ho, hgr, .inr ⟨?_, hgr⟩⟩
    rcases hat with x | x
    · rcases ho.2 with ⟨-, h0⟩ | ⟨g, cap, cur, rfl, -⟩
      · omega
      · simp [Value.ownBlock] at x
    · exact x
  · by_cases hroom : n + 1 ≤ cap
    · have hfit : n * i.size + [u].length ≤ cur.size := by rw [hsize]; simp; omega
      have hr := run_append_room (P := P) w t ty e i ht hi g n cap cur hg a 1 c [u] (by rw [hsize]; rfl) hnews (by simpa using h1) hroom hfit
      obtain ⟨v', w', hr', ho, hgr, -, hat⟩ := run_append_own_at (P := P) w base t ty e i z 1 bytes ht hi hz hsize hby hzs (by decide) _ _ _ hown a 1 c [u] rfl hnews (by simpa using h1) h63 hbytes hbase
      rw [hr] at hr'
      cases hr'
      exact ⟨_, _, hr, ho, hgr, .inl ⟨g, cap, rfl, rfl⟩⟩
    · have holds : ∀ j u, xs[j]? = some u → w.cell? ((⟨g, 0, none⟩ : Addr).add j) = some u := hown.cells (g := g) rfl
      have hr := run_append_grow (P := P) w t ty e i z ht hi hz ⟨g, 0, none⟩ n cap xs (by rw [hsize]; exact hown.1) holds a 1 c [u] (by rw [hsize]; rfl) hnews (by omega) (by unfold maxLen at h63; omega) (growslice_fits (by omega) (by rw [hby]; exact hbytes))
      obtain ⟨v', w', hr', ho, hgr, -, hat⟩ := run_append_own_at (P := P) w base t ty e i z 1 bytes ht hi hz hsize hby hzs (by decide) _ _ _ hown a 1 c [u] rfl hnews (by simpa using h1) h63 hbytes hbase
      rw [hr] at hr'
      cases hr'
      exact ⟨_, _, hr, ho, hgr, .inr ⟨rfl, ⟨rfl, rfl, rfl, by simp, fun k hk _ => heap_alloc_old w.drew _ hk⟩⟩⟩

theorem wpList_append_one {P : Program} (w : World) {ops : Array Oper} {rest : List Oper} {o : Oper} {a : Act} {Q : Exit → Act → World → Prop} (hgd : o.guard = none) (s x : Operand) (t : TypeId)
    (ho : o.op = .call { callee := .builtin .append, args := #[s, x], argTypes := #[t, t] })
    (base : Nat) (e : TypeId) (i : TypeInfo) (z : Value) (bytes : Nat) (ht : P.underlying t = some (.slice e)) (hi : P.info? e = some i) (hz : i.zero = some z)
    (hsize : i.size = 1) (hby : i.bytes = bytes) (hzs : z.cells.size = 1) (v : Value) (n : Nat) (xs : List Value) (hs : a.eval s = v) (hown : w.ownsRow base e 1 v n xs) (ad : Addr) (c : Nat) (u : Value) (hx : a.eval x = .slice (some ad) 1 c)
    (hnews : ∀ j u', [u][j]? = some u' → w.cell? (ad.add j) = some u') (h1 : u.oneCell' = true)
    (h63 : n + 1 ≤ maxLen) (hbytes : (n + 1) * bytes ≤ 140737488355328) (hbase : base ≤ w.heap.size)
    (h : ∀ v' w', w'.ownsRow base e 1 v' (n + 1) (xs ++ [u]) → w.grownBy w' v.ownBlock →
      ((∃ g cap, v = .slice (some ⟨g, 0, none⟩) n cap ∧ v' = .slice (some ⟨g, 0, none⟩) (n + 1) cap) ∨ (v'.ownBlock = some w.heap.size ∧ w.grownBy w' none)) → wpList P ops Q rest (a.put o.dst v') w') :
    wpList P ops Q (o :: rest) a w := by
  refine wpList_plain hgd fun K hK => ?_
  obtain ⟨v', w', hr, h2, h3, h4⟩ := run_append_one (P := P) w base t o.type e i z bytes ht hi hz hsize hby hzs v n xs hown ad c u hnews h1 h63 hbytes hbase
  unfold Oper.wp execOp
  simp only [ho, resolve, invoke, builtin, Sem.run_bind, Sem.run_pure, Result.andThen_ok, List.map_toArray, List.map_cons, List.map_nil, hs, hx, hr]
  exact hK _ _ (h v' w' h2 h3 h4)

/-! ### spoil -/
/-- The blocks of the lists of a list. -/
def Blocks (rows : List Value) (b : Nat) : Prop := ∃ (i : Nat) (r : Value), rows[i]? = some r ∧ r.ownBlock = some b

theorem own_at {w : World} {base e n cap g : Nat} {xs : List Value} (h : w.ownsRow base e 1 (.slice (some ⟨g, 0, none⟩) n cap) n xs) : ∃ cur, At w g (.cells cur e (0, 0)) ∧ cur.size = cap ∧ n ≤ cap ∧ cur.toList.take n = xs ∧ cap ≤ maxLen ∧ base ≤ g := by
  rcases h.2 with ⟨e1, -⟩ | ⟨g', cap', cur, e1, hb, hg, h1, h2, h3, h4⟩
  · cases e1
  · simp only [Value.slice.injEq, Option.some.injEq, Addr.mk.injEq] at e1
    obtain ⟨⟨rfl, -⟩, -, rfl⟩ := e1
    exact ⟨cur, hg, by omega, h1, by simpa using h4, h2, hb⟩

theorem own_set {w : World} {base n cap g m : Nat} {x : List Int} {z : Int} (h : w.ownsRow base 3 1 (.slice (some ⟨g, 0, none⟩) n cap) n (x.map (Value.int .i64))) :
    (w.setCell ⟨g, m, none⟩ (.int .i64 z)).ownsRow base 3 1 (.slice (some ⟨g, 0, none⟩) n cap) n ((x.set m z).map (Value.int .i64)) := by
  obtain ⟨cur, hA, hs, hn, ht, hm, hb⟩ := own_at h
  have h1 := own_of_at (base := base) (hA.setCell_same m (.int .i64 z)) hn (by simp [hs]) hm hb
  have : (cur.setIfInBounds m (.int .i64 z)).toList.take n = (x.set m z).map (Value.int .i64) := by
    rw [Array.toList_setIfInBounds, List.take_set, ht, List.map_set]
  rwa [this] at h1

theorem Owned.store {base : Nat} {w : World} {v : Value} {xs : List (List Int)} {rows : List Value} {k g m len cap : Nat} {x : List Int} {z : Int} (h : Owned base w v xs rows) (hr : rows[k]? = some (.slice (some ⟨g, 0, none⟩) len cap)) (hx : xs[k]? = some x) :
    Owned base (w.setCell ⟨g, m, none⟩ (.int .i64 z)) v (xs.set k (x.set m z)) rows := by
  have hk := (List.getElem?_eq_some_iff.1 hx).1
  have hrow := h.row k _ x hr hx
  have hl : len = x.length := by
    rcases hrow.2 with ⟨e1, -⟩ | ⟨g', cap', cur, e1, -⟩
    · cases e1
    · simp only [Value.slice.injEq] at e1; exact e1.2.1
  subst hl
  obtain ⟨cur, hA, -⟩ := own_at hrow
  have hoth : ∀ b, b ≠ g → (w.setCell ⟨g, m, none⟩ (.int .i64 z)).heap[b]? = w.heap[b]? := fun b hb => by rw [heap_setCell, if_neg (fun e => hb e.symm)]
  refine ⟨?_, by simp [h.len], fun i r y hr' hy => ?_, h.apart⟩
  · have := own_same (w' := w.setCell ⟨g, m, none⟩ (.int .i64 z)) (Nat.le_refl _) h.outer (fun b hb => hoth b (fun e => own_ne_at h.outer hA (by decide) (e ▸ hb)))
    simpa using this
  · by_cases e : i = k
    · subst e
      rw [hr] at hr'; cases hr'
      rw [List.getElem?_set_self hk] at hy; cases hy
      simpa using own_set hrow
    · rw [List.getElem?_set_ne (Ne.symm e)] at hy
      exact own_same (Nat.le_refl _) (h.row i r y hr' hy) (fun b hb => hoth b (fun e' => h.apart i k r _ b e hr' hr hb (by rw [e']; rfl)))

def SpoilPost (base : Nat) (w : World) (v : Value) (xs : List (List Int)) (rows : List Value) (w' : World) : Prop :=
  ∃ ys : List (List Int), ys.length = xs.length ∧ (∀ (i : Nat) (y x : List Int), ys[i]? = some y → xs[i]? = some x → y.length = x.length) ∧ Owned base w' v ys rows ∧ Keeps (Blocks rows) w w'

set_option maxHeartbeats 1000000 in
theorem spoil_calls (w : World) (base : Nat) (v : Value) (xs : List (List Int)) (rows : List Value) (mark : Int) (h : Owned base w v xs rows) (hl : xs.length ≤ 2147483647) (hl2 : ∀ x ∈ xs, x.length ≤ 2147483647) :
    Calls Try.prog 19 #[v, .int .i64 mark] w fun e w' => e = .returned (.tuple #[]) ∧ SpoilPost base w v xs rows w' := by
  obtain ⟨a, cap, rfl⟩ := own_slice h.outer
  go_enter Try.func19, Try.ntmps19
  go_wp2
  go_loopg [1, 8] xs.length (fun g mk i wr => ∃ (k : Nat) (z : Int), g = xs.length - k ∧ k ≤ xs.length ∧ i = .int .i64 k ∧ mk = .int .i64 z ∧ SpoilPost base w (.slice a xs.length cap) xs rows wr)
  case atStart => exact ⟨0, mark, rfl, by omega, rfl, rfl, xs, rfl, fun i y x hy hx => by rw [hy] at hx; cases hx; rfl, h, Keeps.refl _ _⟩
  case round =>
    obtain ⟨k, z, rfl, hk, rfl, rfl, hS⟩ := hrel
    by_cases hlt : k < xs.length
    · obtain ⟨wo, rfl⟩ : ∃ wo : World, wo = wr := ⟨_, rfl⟩
      obtain ⟨x, hx⟩ : ∃ x, xs[k]? = some x := ⟨_, List.getElem?_eq_getElem hlt⟩
      have hx2 := hl2 x (List.mem_of_getElem? hx)
      have hkr : k < rows.length := by rw [h.len]; exact hlt
      obtain ⟨ra, rc, hrow⟩ : ∃ ra rc, rows[k]? = some (.slice ra x.length rc) := by
        obtain ⟨ra, rc, e⟩ := own_slice (h.row k _ x (List.getElem?_eq_getElem hkr) hx)
        exact ⟨ra, rc, by rw [List.getElem?_eq_getElem hkr, e]⟩
      have hout : ∀ wr, SpoilPost base w (.slice a xs.length cap) xs rows wr → ∃ go, a = some ⟨go, 0, none⟩ ∧ wr.cell? ⟨go, k, none⟩ = some (.slice ra x.length rc) := by
        rintro wr ⟨ys, hyl, -, hO, -⟩
        have ho := hO.outer
        rw [hyl] at ho
        exact own_cell ho hrow
      obtain ⟨go, rfl, q⟩ := hout wo hS
      have hlt1 : (k : Int) < (xs.length : Int) := by omega
      go_wp2
      clear q
      go_loopg [1, 16] x.length (fun g mk i wr => ∃ (m : Nat) (z : Int), g = x.length - m ∧ m ≤ x.length ∧ i = .int .i64 m ∧ mk = .int .i64 z ∧ SpoilPost base w (.slice (some ⟨go, 0, none⟩) xs.length cap) xs rows wr)
      case atStart => exact ⟨0, z, rfl, by omega, rfl, rfl, hS⟩
      case round =>
        obtain ⟨m, z, rfl, hm, rfl, rfl, hS⟩ := hrel
        by_cases hlm : m < x.length
        · obtain ⟨_, e, q⟩ := hout wr hS
          cases e
          obtain ⟨ys, hyl, hye, hO, hK⟩ := hS
          obtain ⟨y, hy⟩ : ∃ y, ys[k]? = some y := ⟨_, List.getElem?_eq_getElem (by omega)⟩
          have hyx := hye k y x hy hx
          have hro := hO.row k _ y hrow hy
          rw [hyx] at hro
          obtain ⟨g, rfl⟩ := own_some hro (by omega)
          obtain ⟨cur, hA, hcs, hnc, -⟩ := own_at hro
          have q0 : wr.cell? ⟨g, m, none⟩ = some cur[m] := hA.cell (Array.getElem?_eq_getElem (by omega))
          have q1 : wr.frozen? ⟨g, m, none⟩ = false := hA.free m
          have hm1 : (m : Int) < (x.length : Int) := by omega
          have hS2 : SpoilPost base w (.slice (some ⟨go, 0, none⟩) xs.length cap) xs rows (wr.setCell ⟨g, m, none⟩ (.int .i64 z)) := by
            refine ⟨ys.set k (y.set m z), by simp [hyl], fun i y' x' hy' hx' => ?_, hO.store hrow hy, hK.setCell (.inl ⟨k, _, hrow, rfl⟩)⟩
            by_cases e : i = k
            · subst e
              rw [List.getElem?_set_self (by omega)] at hy'; cases hy'
              rw [hx] at hx'; cases hx'; simpa using hyx
            · rw [List.getElem?_set_ne (Ne.symm e)] at hy'; exact hye i y' x' hy' hx'
          clear hO hK hro hA hye
          go_wp2
          go_roundg (x.length - (m + 1))
          case measure => omega
          case rel => exact ⟨m + 1, _, rfl, by omega, rfl, rfl, hS2⟩
        · have hno : ¬ (m : Int) < (x.length : Int) := by omega
          go_wp2
          go_roundg (xs.length - (k + 1))
          case measure => omega
          case rel => exact ⟨k + 1, _, rfl, by omega, rfl, rfl, hS⟩
    · have hno : ¬ (k : Int) < (xs.length : Int) := by omega
      go_wp2
      go_end0
      exact ⟨rfl, hS⟩
end Go.Proofs.Ytigaldgbkeoilaa.Ca
