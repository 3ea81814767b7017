/- shelf: All, and the function that it answers: it goes through the things as they are when it begins, for every loop body that keeps what Kp says. No conditions. -/
import Derived.Test.YtbjcamafaolgiaaShF
import Derived.Test.YtbjcamafaolgiaaRng
namespace Go.Proofs.Ytbjcamafaolgiaa.Sh
open Go.RowKit Go.Proofs.Ytbjcamafaolgiaa.Mem Go.Proofs.Ytbjcamafaolgiaa.Rng
set_option linter.unusedSimpArgs false
set_option linter.unusedVariables false

theorem all_calls (w : World) (p : Option Addr) : Calls Try.prog 20 #[.pointer p] w fun e w' => e = .returned (.func (.func 34) #[] #[.pointer (some ⟨w.heap.size, 0, none⟩)]) ∧ w.alloc (.cells #[.pointer p] 48) = w' := by
  go_enter Try.func20, Try.ntmps20
  go_wp2
  go_ret
  exact ⟨rfl, rfl⟩

theorem infoInt : (Try.prog.info? 3).map (fun i => (i.zero, i.size, i.bytes)) = some (some (.int .i64 0), 1, 8) := by kernel_rfl
theorem infoV : (Try.prog.info? 26).map (fun i => (i.zero, i.size, i.bytes)) = some (some (Value.agg #[.int .i64 0, .int .i64 0, .int .i64 0]), 3, 24) := by kernel_rfl

/-- What has been gathered of the row. -/
structure Gather (w wr : World) (ks vv : Value) (pre : List Node) : Prop where
  keys : wr.ownsRow w.heap.size 3 1 ks pre.length (pre.map fun n => .int .i64 n.k)
  vals : wr.ownsRow w.heap.size 26 3 vv pre.length ((pre).flatMap fun n => [Value.int .i64 n.v.1, .int .i64 n.v.2.1, .int .i64 n.v.2.2])
  below : Below w.heap.size w wr

theorem rows_ne {w : World} {base base' e e' size size' n n' : Nat} {v v' : Value} {xs xs' : List Value} (h : w.ownsRow base e size v n xs) (h' : w.ownsRow base' e' size' v' n' xs') (hne : e ≠ e') : v.ownBlock = none ∨ v.ownBlock ≠ v'.ownBlock := by
  rcases h.2 with ⟨rfl, -⟩ | ⟨g, cap, cur, rfl, -, hg, -⟩
  · exact .inl rfl
  · right
    rcases h'.2 with ⟨rfl, -⟩ | ⟨g', cap', cur', rfl, -, hg', -⟩
    · simp [Value.ownBlock]
    · simp only [Value.ownBlock, ne_eq, Option.some.injEq]
      rintro rfl
      rw [hg] at hg'; simp at hg'; exact hne hg'.2
theorem own_base {w : World} {base e size n : Nat} {v : Value} {xs : List Value} (h : w.ownsRow base e size v n xs) : ∀ k, v.ownBlock = some k → base ≤ k := by
  intro k hk
  rcases h.2 with ⟨rfl, -⟩ | ⟨g, cap, cur, rfl, hb, hg, -⟩
  · simp [Value.ownBlock] at hk
  · simp [Value.ownBlock] at hk; omega

theorem Below.at {B : Nat} {w w' : World} (h : Below B w w') {b : Nat} {o : Obj} (hb : At w b o) (hlt : b < B) : At w' b o := (h.block b hlt).trans hb

theorem own_lt {w : World} {base e size n : Nat} {v : Value} {xs : List Value} (h : w.ownsRow base e size v n xs) : ∀ k, v.ownBlock = some k → k < w.heap.size := by
  intro k hk
  rcases h.2 with ⟨rfl, -⟩ | ⟨g, cap, cur, rfl, hb, hg, -⟩
  · simp [Value.ownBlock] at hk
  · simp [Value.ownBlock] at hk; exact hk ▸ (Array.getElem?_eq_some_iff.1 hg).1
theorem own_slice {w : World} {base e size n : Nat} {v : Value} {xs : List Value} (h : w.ownsRow base e size v n xs) : ∃ a cap, v = .slice a n cap := by
  rcases h.2 with ⟨rfl, rfl⟩ | ⟨g, cap, cur, rfl, hb, hg, -⟩
  · exact ⟨_, _, rfl⟩
  · exact ⟨_, _, rfl⟩

/-- What has been gathered, while it is told. -/
structure Told (W wr : World) (q : Addr) (ks vv : Value) (pre : List Node) : Prop where
  keys : wr.ownsRow W.heap.size 3 1 ks pre.length (pre.map fun n => .int .i64 n.k)
  vals : wr.ownsRow W.heap.size 26 3 vv pre.length ((pre).flatMap fun n => [Value.int .i64 n.v.1, .int .i64 n.v.2.1, .int .i64 n.v.2.2])
  off : ∀ k, rowOf wr q = some k → ks.ownBlock ≠ some k ∧ vv.ownBlock ≠ some k

theorem own_cell {w : World} {base e n cap : Nat} {a : Option Addr} {xs : List Value} (h : w.ownsRow base e 1 (.slice a n cap) n xs) {j : Nat} {u : Value} (hj : xs[j]? = some u) : ∃ g, a = some ⟨g, 0, none⟩ ∧ w.cell? ⟨g, j, none⟩ = some u := by
  rcases h.2 with ⟨e1, rfl⟩ | ⟨g, cap', cur, e1, hb, hg, -, -, -, ht⟩
  · have := h.1; simp at this; subst this; simp at hj
  · cases e1
    refine ⟨g, rfl, ?_⟩
    have := h.cells (g := g) rfl j u hj
    unfold Addr.add at this; split at this
    · rename_i e; subst e; exact this
    · simpa using this
theorem own_some {w : World} {base e size n cap : Nat} {a : Option Addr} {xs : List Value} (h : w.ownsRow base e size (.slice a n cap) n xs) (hn : 0 < n) : ∃ g, a = some ⟨g, 0, none⟩ := by
  rcases h.2 with ⟨e1, rfl⟩ | ⟨g, cap', cur, e1, hb, hg, -⟩
  · omega
  · cases e1; exact ⟨g, rfl⟩

theorem own_kp {A B : World} {q : Addr} {n₀ base e size n : Nat} {v : Value} {xs : List Value} (h : A.ownsRow base e size v n xs) (hk : Kp q n₀ A B) (hn : n₀ ≤ base) (hoff : ∀ k, rowOf A q = some k → v.ownBlock ≠ some k) : B.ownsRow base e size v n xs := by
  refine ⟨h.1, ?_⟩
  rcases h.2 with x | ⟨g, cap, cur, rfl, hb, hg, r⟩
  · exact .inl x
  · exact .inr ⟨g, cap, cur, rfl, hb, hk.same g cur e (0, 0) (by omega) hg (fun x => hoff g x (by simp [Value.ownBlock])), r⟩
theorem told_kp {W A B : World} {q : Addr} {n₀ : Nat} {ks vv : Value} {pre : List Node} (h : Told W A q ks vv pre) (hk : Kp q n₀ A B) (hn : n₀ ≤ W.heap.size) : Told W B q ks vv pre := by
  refine ⟨own_kp h.keys hk hn (fun k x => (h.off k x).1), own_kp h.vals hk hn (fun k x => (h.off k x).2), fun k x => ?_⟩
  rcases hk.row k x with y | y
  · exact h.off k y
  · exact ⟨fun z => by have := own_lt h.keys k z; omega, fun z => by have := own_lt h.vals k z; omega⟩

theorem gather_told {W wr : World} {q : Addr} {ks vv : Value} {pre : List Node} (h : Gather W wr ks vv pre) (hq : q.block < W.heap.size) (hr : ∀ k, rowOf W q = some k → k < W.heap.size) : Told W wr q ks vv pre := by
  refine ⟨h.keys, h.vals, fun k x => ?_⟩
  have e : rowOf wr q = rowOf W q := rowOf_of (h.below.cell hq)
  rw [e] at x
  have := hr k x
  exact ⟨fun z => by have := own_base h.keys k z; omega, fun z => by have := own_base h.vals k z; omega⟩

theorem gather_step {W wr w1 : World} {ks vv v1 : Value} {pre : List Node} {nd : Node} {X : Obj} (h : Gather W wr ks vv pre)
    (h1 : w1.ownsRow W.heap.size 3 1 v1 (pre.length + 1) ((pre.map fun n => .int .i64 n.k) ++ [.int .i64 nd.k])) (g1 : (wr.alloc X).grownBy w1 ks.ownBlock) :
    Below W.heap.size W w1 ∧ w1.ownsRow W.heap.size 26 3 vv pre.length ((pre).flatMap fun n => [Value.int .i64 n.v.1, .int .i64 n.v.2.1, .int .i64 n.v.2.2]) := by
  have hz := h.below.size
  refine ⟨(h.below.alloc hz X).grown g1 (by rw [size_alloc]; omega) (fun k e => own_base h.keys k e), (h.vals.alloc X).kept g1 (rows_ne (h.vals.alloc X) (h.keys.alloc X) (by decide))⟩

theorem gather_step2 {W w1 w2 : World} {vv v1 v2 : Value} {pre : List Node} {nd : Node} {Y : Obj} (hb : Below W.heap.size W w1)
    (h1 : w1.ownsRow W.heap.size 3 1 v1 (pre.length + 1) ((pre.map fun n => .int .i64 n.k) ++ [.int .i64 nd.k])) (hv : w1.ownsRow W.heap.size 26 3 vv pre.length ((pre).flatMap fun n => [Value.int .i64 n.v.1, .int .i64 n.v.2.1, .int .i64 n.v.2.2]))
    (h2 : w2.ownsRow W.heap.size 26 3 v2 (pre.length + 1) ((pre ++ [nd]).flatMap fun n => [Value.int .i64 n.v.1, .int .i64 n.v.2.1, .int .i64 n.v.2.2])) (g2 : (w1.alloc Y).grownBy w2 vv.ownBlock) : Gather W w2 v1 v2 (pre ++ [nd]) := by
  have hz := hb.size
  refine ⟨?_, ?_, (hb.alloc hz Y).grown g2 (by rw [size_alloc]; omega) (fun k e => own_base hv k e)⟩
  · have := (h1.alloc Y).kept g2 (rows_ne (h1.alloc Y) (hv.alloc Y) (by decide))
    simpa using this
  · simpa using h2

set_option maxHeartbeats 2000000 in
theorem all1_calls (n l Bs : Nat) (q : Addr) (n₀ : Nat) (J Jx : List (Int × V) → World → Prop)
    (W : World) (s m : Nat) (room : Int) (ns : List Node) (es : List (Int × Value)) (h : Full W s m room ns es) (hBs : W.cell? ⟨Bs, 0, none⟩ = some (.pointer (some ⟨s, 0, none⟩)))
    (hn₀ : n₀ ≤ W.heap.size) (hq : q.block < n₀) (hr : ∀ k, rowOf W q = some k → k < W.heap.size) (hlen : ns.length ≤ 4096) (hJ : AbidesFrom W.heap.size J)
    (hY : ∀ pre x W1, J pre W1 → pre.length < ns.length → YieldAt Fence.wide n Try.prog l #[.int .i64 x.1, (Value.agg #[.int .i64 (x.2).1, .int .i64 (x.2).2.1, .int .i64 (x.2).2.2])] W1 fun e W' =>
      (e = .returned (.bool true) ∧ J (pre ++ [x]) W' ∧ Kp q n₀ W1 W') ∨ (e = .returned (.bool false) ∧ Jx (pre ++ [x]) W')) (h0 : J [] W) :
    Calls Try.prog 34 #[.func (.yield l) #[] #[], .pointer (some ⟨Bs, 0, none⟩)] W fun e W' => (∃ v, e = .returned v) ∧
      ((∃ xs, xs = ns.map (fun n => (n.k, n.v)) ∧ J xs W') ∨ (∃ pre, pre <+: ns.map (fun n => (n.k, n.v)) ∧ Jx pre W')) := by
  obtain ⟨i0, hi, hz0, hz1, hz2⟩ := info_parts infoInt
  obtain ⟨i1, gi, gz0, gz1, gz2⟩ := info_parts infoV
  have hf : W.cell? ⟨s, 2, none⟩ = some (np (first ns none)) := h.raw.head.cell rfl
  have HY := Lib.hid hY
  have HJ := Lib.hid hJ
  clear hY hJ
  go_enter Try.func34, Try.ntmps34
  go_wp2
  go_loopg [3, 4, 5] ns.length (fun g ks vv p wr => ∃ pre rest, ns = pre ++ rest ∧ g = rest.length ∧ p = np (first rest none) ∧ Gather W wr ks vv pre)
  case atStart => exact ⟨[], ns, rfl, rfl, rfl, World.ownsRow_nil _ _ _ _, World.ownsRow_nil _ _ _ _, Below.refl _ _⟩
  case round =>
    obtain ⟨pre, rest, hns, rfl, rfl, hG⟩ := hrel
    have HN := Lib.hid hns
    clear hns
    cases rest with
    | nil =>
      simp only [first_nil, np_none]
      obtain ⟨ka, kc, rfl⟩ := own_slice hG.keys
      obtain ⟨va, vc, rfl⟩ := own_slice hG.vals
      have hTd := gather_told hG (Nat.lt_of_lt_of_le hq hn₀) hr
      have hJ0 : J [] wr := HJ.out [] W wr none h0 ⟨hG.below.os, hG.below.tape, hG.below.output, hG.below.size, fun k hk _ => hG.below.block k hk⟩ (fun r e => by cases e)
      have hpn : Hid (pre = ns) := Lib.hid (by have := HN.out; simpa using this.symm)
      obtain ⟨wo, rfl⟩ : ∃ wo : World, wo = wr := ⟨_, rfl⟩
      go_wp2
      go_loopg [36] pre.length (fun g i w2 => ∃ j : Nat, g = pre.length - j ∧ j ≤ pre.length ∧ i = .int .i64 j ∧ J ((pre.map (fun n => (n.k, n.v))).take j) w2 ∧ Told W w2 q (.slice ka pre.length kc) (.slice va pre.length vc) pre)
      case atStart => exact ⟨0, rfl, by omega, rfl, by simpa using hJ0, hTd⟩
      case round =>
        obtain ⟨j, rfl, hj, rfl, hJj, hT2⟩ := hrel
        by_cases hlt : j < pre.length
        · obtain ⟨nd, hnd⟩ : ∃ nd, pre[j]? = some nd := ⟨pre[j], by simp [hlt]⟩
          obtain ⟨g1, rfl, hc1⟩ := own_cell hT2.keys (j := j) (u := .int .i64 nd.k) (by simp [hnd])
          obtain ⟨g2, rfl⟩ := own_some hT2.vals (by omega)
          have hpl : pre.length ≤ 4096 := by have := congrArg List.length hpn.out; omega
          obtain ⟨fn, tmps, assign, body, hy, hR⟩ := HY.out _ (nd.k, nd.v) wr hJj (by have := congrArg List.length hpn.out; simp; omega)
          dsimp only at hy
          have htell : ∀ i u, i < 3 → [Value.int .i64 nd.v.1, .int .i64 nd.v.2.1, .int .i64 nd.v.2.2][i]? = some u → wr.cell? ⟨g2, j * 3 + i, none⟩ = some u := by
            intro i u hi hu
            have := hT2.vals.cells (g := g2) rfl (j * 3 + i) u (by rw [flat3 _ (fun _ => rfl) pre j nd i hnd hi]; exact hu)
            unfold Addr.add at this
            split at this
            · rename_i e; rw [e]; exact this
            · simpa using this
          have ht1 : wr.cell? ⟨g2, j * 3, none⟩ = some (.int .i64 nd.v.1) := htell 0 _ (by omega) rfl
          have ht2 : wr.cell? ⟨g2, j * 3 + 1, none⟩ = some (.int .i64 nd.v.2.1) := htell 1 _ (by omega) rfl
          have ht3 : wr.cell? ⟨g2, j * 3 + 2, none⟩ = some (.int .i64 nd.v.2.2) := htell 2 _ (by omega) rfl
          clear htell
          go_upto_region 11 with (fail)
          refine (wpIn_wide (n := n + 1)).1 ?_
          gi_wp2
          refine hR.mono ?_
          rintro e W3 (⟨rfl, hJ3, hk3⟩ | ⟨rfl, hJx3⟩)
          · have hT3 := told_kp hT2 hk3 hn₀
            have htake : (pre.map (fun n => (n.k, n.v))).take j ++ [(nd.k, nd.v)] = (pre.map (fun n => (n.k, n.v))).take (j + 1) := by
              rw [List.take_add_one]; simp [hnd]
            rw [htake] at hJ3
            clear htake hJj hT2 hc1 hR hy hTd hG
            gi_wp2
            go_wp2
            go_roundg (pre.length - (j + 1))
            case measure => omega
            case rel => exact ⟨j + 1, rfl, by omega, by go_num, hJ3, hT3⟩
          · have hpf : Hid ((pre.map (fun n => (n.k, n.v))).take j ++ [(nd.k, nd.v)] <+: ns.map (fun n => (n.k, n.v))) := Lib.hid (by
              have e : (pre.map (fun n => (n.k, n.v))).take j ++ [(nd.k, nd.v)] = (pre.map (fun n => (n.k, n.v))).take (j + 1) := by
                rw [List.take_add_one]; simp [hnd]
              rw [e, ← hpn.out]; exact List.take_prefix _ _)
            clear hJj hT2 hc1 hR hy hTd hG
            gi_wp2
            go_wp2
            refine bodyPost_ret (results_none rfl _ _ _) rfl ?_
            exact ⟨⟨_, rfl⟩, .inr ⟨_, hpf.out, hJx3⟩⟩
        · obtain rfl : j = pre.length := by omega
          go_wp2
          go_end0
          refine ⟨⟨_, rfl⟩, .inl ⟨_, rfl, ?_⟩⟩
          rw [List.take_of_length_le (by simp), hpn.out] at hJj
          exact hJj
    | cons nd rest =>
      have hnd : At W nd.b (nodeObj nd (last none pre) (first rest none)) := by
        have := h.raw.chain; rw [HN.out] at this; exact (chain_append.1 this).2.1
      have hlt : nd.b < W.heap.size := hnd.lt
      have hpl : pre.length + 1 ≤ 4096 := by have := congrArg List.length HN.out; simp at this; omega
      have hwn := Below.at hG.below hnd hlt
      have c0 : wr.cell? ⟨nd.b, 0, none⟩ = some (.int .i64 nd.k) := hwn.cell rfl
      have hsz := hG.below.size
      have c3 : pre.length + 1 ≤ maxLen := by unfold maxLen; omega
      have c4 : (pre.length + 1) * 8 ≤ 140737488355328 := by omega
      have c4v : (pre.length + 1) * 24 ≤ 140737488355328 := by omega
      have c5 : ∀ X, W.heap.size ≤ (wr.alloc X).heap.size := fun X => by rw [size_alloc]; omega
      simp only [first_cons, np_some]
      go_wp2_with (first | (at_builtin; refine wpList_append_own _ rfl _ _ 69 rfl W.heap.size 3 i0 (.int .i64 0) 1 8 Try.underlying69 hi hz0 hz1 hz2 rfl (by decide) u3 _ _ rfl (hG.keys.alloc _) ⟨wr.heap.size, 0, none⟩ 1 1 [.int .i64 nd.k] rfl rfl (cell_one_new _ _ _) (by simp [Value.oneCell']) c3 c4 (c5 _) ?_; intro v1 w1 ho1 hg1 _; obtain ⟨hb1, hv1⟩ := gather_step hG ho1 hg1; clear hG; have hn1 := Below.at hb1 hnd hlt; have c6 : ∀ X, W.heap.size ≤ (w1.alloc X).heap.size := (fun X => by rw [size_alloc]; have := hb1.size; omega); have hp1 : w1.cell? ⟨nd.b, 1, none⟩ = some (.int .i64 nd.v.1) := hn1.cell rfl; have hp2 : w1.cell? ⟨nd.b, 2, none⟩ = some (.int .i64 nd.v.2.1) := hn1.cell rfl; have hp3 : w1.cell? ⟨nd.b, 3, none⟩ = some (.int .i64 nd.v.2.2) := hn1.cell rfl) | (at_builtin; refine wpList_append_own _ rfl _ _ 22 rfl W.heap.size 26 i1 (Value.agg #[.int .i64 0, .int .i64 0, .int .i64 0]) 3 24 Try.underlying22 gi gz0 gz1 gz2 rfl (by decide) u4 _ _ rfl (hv1.alloc _) ⟨w1.heap.size, 0, none⟩ 1 1 [.int .i64 nd.v.1, .int .i64 nd.v.2.1, .int .i64 nd.v.2.2] rfl rfl (cell_three_new _ _ _ _ _) (by simp [Value.oneCell']) c3 c4v (c6 _) ?_; intro v2 w2 ho2 hg2 _; have hG2 := gather_step2 hb1 ho1 hv1 (by simpa using ho2) hg2; have hn2 := Below.at hG2.below hnd hlt; have c2 : w2.cell? ⟨nd.b, 5, none⟩ = some (np (first rest none)) := hn2.cell rfl))
      have hx : ns = (pre ++ [nd]) ++ rest := by rw [HN.out]; simp
      clear hv1 ho1 hg1 hb1 hn1 hp1 c0 c2 hn2
      go_roundg rest.length
      case measure => simp
      case rel => exact ⟨pre ++ [nd], rest, hx, rfl, rfl, hG2⟩

/-- All's function, as a loop over it takes it. -/
theorem all_stops (n : Nat) (w : World) (s m : Nat) (room : Int) (ns : List Node) (es : List (Int × Value)) (h : Full w s m room ns es) (Bs : Nat) (hB : Bs < w.heap.size) (hBs : w.cell? ⟨Bs, 0, none⟩ = some (.pointer (some ⟨s, 0, none⟩)))
    (q : Addr) (n₀ : Nat) (hn₀ : n₀ ≤ w.heap.size) (hq : q.block < n₀) (hr : ∀ k, rowOf w q = some k → k < w.heap.size) (hlen : ns.length ≤ 4096) :
    SeqStopsK Fence.wide (n + 1) Try.prog 34 #[.pointer (some ⟨Bs, 0, none⟩)] (fun x : Int × V => #[.int .i64 x.1, (Value.agg #[.int .i64 (x.2).1, .int .i64 (x.2).2.1, .int .i64 (x.2).2.2])]) (Kp q n₀) (fun xs => xs = ns.map (fun n => (n.k, n.v))) (fun pre => pre <+: ns.map (fun n => (n.k, n.v))) ns.length w := by
  intro l J Jx W hW hJ hJx hY h0
  refine callsIn_wide.2 ?_
  have hW' : Full W s m room ns es := h.frame fun b hb => hW.block b (h.lt hb)
  refine all1_calls n l Bs q n₀ J Jx W s m room ns es hW' ((hW.cell (p := ⟨Bs, 0, none⟩) hB).trans hBs) (Nat.le_trans hn₀ hW.size) hq (fun k hk => ?_) hlen hJ hY h0
  rw [rowOf_of (hW.cell (by omega))] at hk
  exact Nat.lt_of_lt_of_le (hr k hk) hW.size
end Go.Proofs.Ytbjcamafaolgiaa.Sh
