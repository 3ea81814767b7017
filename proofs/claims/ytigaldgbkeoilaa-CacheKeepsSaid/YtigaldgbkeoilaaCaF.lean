/- cache: Lines, walked once: a new list of four lists, each its own. No conditions. -/
import Derived.Test.YtigaldgbkeoilaaCaC
import Derived.Test.YtigaldgbkeoilaaShG
import Derived.Test.YtigaldgbkeoilaaHeld
namespace Go.Proofs.Ytigaldgbkeoilaa.Ca
open Go.RowKit Go.Proofs.Ytigaldgbkeoilaa.Mem Go.Proofs.Ytigaldgbkeoilaa.Sh Go.Proofs.Ytigaldgbkeoilaa.Rng
set_option linter.unusedSimpArgs false
set_option linter.unusedVariables false
attribute [local go_sem] Oper.semAt_some

/-- A row of a list of lists grows while a loop over a function goes: what the other blocks hold stays. -/
structure Row (w0 : World) (bo k : Nat) (cs : Array Value) (pre : List Int) (W : World) : Prop where
  keeps : Keeps (fun b => b = bo) w0 W
  row : ∃ v, At W bo (.cells (cs.setIfInBounds k v) 67 (0, 0)) ∧ W.ownsRow w0.heap.size 3 1 v pre.length (pre.map (Value.int .i64))

theorem ints_ne {w : World} {base n : Nat} {v : Value} {xs : List Value} (h : w.ownsRow base 3 1 v n xs) {b : Nat} {c : Array Value} (hb : At w b (.cells c 67 (0, 0))) : v.ownBlock ≠ some b := by
  intro e
  rcases h.2 with ⟨rfl, -⟩ | ⟨g, cap, cur, rfl, -, hg, -⟩
  · simp [Value.ownBlock] at e
  · simp only [Value.ownBlock, Option.some.injEq] at e
    subst e; rw [hb.eq] at hg; simp at hg

theorem row_own {w0 : World} {bo k : Nat} {cs : Array Value} (hbo : bo < w0.heap.size) : OwnFrom w0.heap.size (fun (pre : List (Int × V)) W => Row w0 bo k cs (pre.map (·.1)) W) := by
  rintro s W W' row ⟨hk, v, ha, ho⟩ hg hr
  have hW : W.heap.size ≤ W'.heap.size := hg.size
  have hne : ∀ b c t fr, At W b (.cells c t fr) → some b ≠ row := by
    intro b c t fr hb e
    obtain ⟨-, o, ho', hc⟩ := hr b e.symm
    rw [hb.eq] at ho'; cases ho'; cases hc
  refine ⟨⟨hg.os.trans hk.os, hg.tape.trans hk.tape, hg.output.trans hk.output, Nat.le_trans hk.size hW, fun i hi hn => ?_⟩, v, ?_, ho.kept hg ?_⟩
  · refine (hg.block i (Nat.lt_of_lt_of_le hi hk.size) (fun e => ?_)).trans (hk.block i hi hn)
    have := (hr i e.symm).1; omega
  · exact (hg.block bo (Nat.lt_of_lt_of_le hbo hk.size) (hne bo _ _ _ ha)).trans ha
  · rcases ho.2 with ⟨rfl, -⟩ | ⟨g, cap, cur, rfl, -, hgg, -⟩
    · exact .inl rfl
    · exact .inr (hne g _ _ _ hgg)

/-- One round: what is behind the append and the store. -/
theorem row_step {w0 W w2 : World} {bo k : Nat} {cs : Array Value} {pre : List Int} {v v' : Value} {x : Int} (h : Keeps (fun b => b = bo) w0 W) (hbo : bo < w0.heap.size) (hk : k < cs.size)
    (ha : At W bo (.cells (cs.setIfInBounds k v) 67 (0, 0))) (ho : W.ownsRow w0.heap.size 3 1 v pre.length (pre.map (Value.int .i64)))
    (ho2 : w2.ownsRow w0.heap.size 3 1 v' (pre.length + 1) (pre.map (Value.int .i64) ++ [.int .i64 x])) (hg : ((W.alloc (.cells #[.int .i64 x] 3)).drew).grownBy w2 v.ownBlock)
    (hat : v'.ownBlock = v.ownBlock ∨ v'.ownBlock = some (W.heap.size + 1)) :
    KeepsFrom w0.heap.size W (w2.setCell ⟨bo, k, none⟩ v') ∧ Kp ⟨bo, k, none⟩ w0.heap.size W (w2.setCell ⟨bo, k, none⟩ v') ∧ Row w0 bo k cs (pre ++ [x]) (w2.setCell ⟨bo, k, none⟩ v') := by
  have hz := h.size
  have hoff := ints_ne ho ha
  have hsz : W.heap.size + 1 ≤ w2.heap.size := by have := hg.size; rw [size_drew, size_alloc] at this; exact this
  have hblk : ∀ i, i < W.heap.size → v.ownBlock ≠ some i → w2.heap[i]? = W.heap[i]? := by
    intro i hi hn
    refine (hg.block i (by rw [size_drew, size_alloc]; omega) (fun e => hn e.symm)).trans ?_
    rw [heap_drew, heap_alloc, if_neg (by omega)]
  have ha2 : At w2 bo (.cells (cs.setIfInBounds k v) 67 (0, 0)) := (hblk bo (by omega) hoff).trans ha
  have hrow : rowOf W ⟨bo, k, none⟩ = v.ownBlock := by
    unfold rowOf; rw [ha.cell (v := v) (by simp [hk])]
  have ha3 : At (w2.setCell ⟨bo, k, none⟩ v') bo (.cells (cs.setIfInBounds k v') 67 (0, 0)) := by
    have := ha2.setCell_same k v'
    rwa [Array.setIfInBounds_setIfInBounds] at this
  have hrow2 : rowOf (w2.setCell ⟨bo, k, none⟩ v') ⟨bo, k, none⟩ = v'.ownBlock := by
    unfold rowOf; rw [ha3.cell (v := v') (by simp [hk])]
  have hoff2 := ints_ne ho2 ha2
  refine ⟨⟨by rw [size_setCell]; omega, fun i o hi hio hc => ?_⟩, ⟨by rw [size_setCell]; omega, fun i c t fr hi hA hr => ?_, fun i hi => ?_⟩, ⟨⟨?_, ?_, ?_, ?_, fun i hi hn => ?_⟩, v', ha3, ?_⟩⟩
  · rw [heap_setCell, if_neg (by omega)]
    refine (hblk i (Array.getElem?_eq_some_iff.1 hio).1 (fun e => ?_)).trans hio
    rcases ho.2 with ⟨rfl, -⟩ | ⟨g, cap, cur, rfl, -, hgg, -⟩
    · simp [Value.ownBlock] at e
    · simp only [Value.ownBlock, Option.some.injEq] at e
      subst e; rw [hgg] at hio; cases hio; cases hc
  · refine At.setCell_ne ?_ (by omega) _ _
    exact (hblk i hA.lt (fun e => hr (hrow.trans e))).trans hA
  · rw [hrow2] at hi
    rcases hat with e | e
    · exact .inl (hrow.trans (e ▸ hi))
    · right; rw [e] at hi; simp at hi; omega
  · exact hg.os.trans h.os
  · exact hg.tape.trans h.tape
  · exact hg.output.trans h.output
  · rw [size_setCell]; omega
  · rw [heap_setCell, if_neg (fun e => hn e.symm)]
    refine (hblk i (by omega) (fun e => ?_)).trans (h.block i hi hn)
    have := own_base ho i e; omega
  · have : w2.ownsRow w0.heap.size 3 1 v' (pre ++ [x]).length ((pre ++ [x]).map (Value.int .i64)) := by simpa using ho2
    refine this.kept (row := some bo) ⟨rfl, rfl, rfl, by rw [size_setCell]; exact Nat.le_refl _, fun i hi hn => by rw [heap_setCell, if_neg (fun e => hn (by rw [e]))]⟩ (.inr hoff2)

theorem set_same {cs : Array Value} {k : Nat} {v : Value} (h : cs[k]? = some v) : cs.setIfInBounds k v = cs := by
  apply Array.ext_getElem?
  intro i
  rw [Array.getElem?_setIfInBounds]
  split
  · rename_i e; subst e; split
    · exact h.symm
    · rename_i hh; rw [Array.getElem?_eq_none (by omega)] at h; cases h
  · rfl

theorem ix0 (a b c d : Addr) (w : World) : (Instr.index 53 (.agg #[.pointer (some a), .pointer (some b), .pointer (some c), .pointer (some d)]) (.int .i64 0)).run Try.prog w = .ok (.pointer (some a)) w := by kernel_rfl
theorem ix1 (a b c d : Addr) (w : World) : (Instr.index 53 (.agg #[.pointer (some a), .pointer (some b), .pointer (some c), .pointer (some d)]) (.int .i64 1)).run Try.prog w = .ok (.pointer (some b)) w := by kernel_rfl
theorem ix2 (a b c d : Addr) (w : World) : (Instr.index 53 (.agg #[.pointer (some a), .pointer (some b), .pointer (some c), .pointer (some d)]) (.int .i64 2)).run Try.prog w = .ok (.pointer (some c)) w := by kernel_rfl
theorem ix3 (a b c d : Addr) (w : World) : (Instr.index 53 (.agg #[.pointer (some a), .pointer (some b), .pointer (some c), .pointer (some d)]) (.int .i64 3)).run Try.prog w = .ok (.pointer (some d)) w := by kernel_rfl
theorem run_index (ss : Nat → Nat) (k : Nat) (hk : k < 4) (w : World) : (Instr.index 53 (.agg #[.pointer (some ⟨ss 0, 0, none⟩), .pointer (some ⟨ss 1, 0, none⟩), .pointer (some ⟨ss 2, 0, none⟩), .pointer (some ⟨ss 3, 0, none⟩)]) (.int .i64 (k : Int))).run Try.prog w = .ok (.pointer (some ⟨ss k, 0, none⟩)) w := by
  obtain rfl | rfl | rfl | rfl : k = 0 ∨ k = 1 ∨ k = 2 ∨ k = 3 := by omega
  · exact ix0 _ _ _ _ w
  · exact ix1 _ _ _ _ w
  · exact ix2 _ _ _ _ w
  · exact ix3 _ _ _ _ w

/-- n rows of the four have been filled: the outer row's cells cs. -/
structure Filled (base : Nat) (L : Nat → List Int) (wr : World) (bo n : Nat) (cs : Array Value) : Prop where
  outer : At wr bo (.cells cs 67 (0, 0))
  size : cs.size = 4
  rows : ∀ i, i < 4 → ∃ v, cs[i]? = some v ∧ (if i < n then wr.ownsRow base 3 1 v (L i).length ((L i).map (Value.int .i64)) else v = .slice none 0 0)
  apart : ∀ i j u v k, i < 4 → j < 4 → i ≠ j → cs[i]? = some u → cs[j]? = some v → u.ownBlock = some k → v.ownBlock ≠ some k

theorem own_same {w w' : World} {base base' e sz n : Nat} {v : Value} {xs : List Value} (hb : base' ≤ base) (h : w.ownsRow base e sz v n xs) (hk : ∀ k, v.ownBlock = some k → w'.heap[k]? = w.heap[k]?) : w'.ownsRow base' e sz v n xs := by
  refine ⟨h.1, ?_⟩
  rcases h.2 with h2 | ⟨g, cap, cur, rfl, hbg, hg, h3⟩
  · exact .inl h2
  · exact .inr ⟨g, cap, cur, rfl, by omega, (hk g rfl).trans hg, h3⟩

/-- The next row of the four has been filled. -/
theorem Filled.next {base bo k : Nat} {L : Nat → List Int} {wr w0 W : World} {cs : Array Value} (hfl : Filled base L wr bo k cs) (hk : k < 4) (hb : base ≤ w0.heap.size) (h0 : Keeps (fun _ => False) wr w0) (hr : Row w0 bo k cs (L k) W) : ∃ cs', Filled base L W bo (k + 1) cs' := by
  obtain ⟨hkp, v, ha, ho⟩ := hr
  have hbo := h0.get hfl.outer id
  have hold : ∀ u b, (∃ i, i < 4 ∧ i ≠ k ∧ cs[i]? = some u) → u.ownBlock = some b → W.heap[b]? = wr.heap[b]? ∧ b < wr.heap.size := by
    rintro u b ⟨i, hi, hik, hu⟩ hub
    obtain ⟨u', hu', hi2⟩ := hfl.rows i hi
    rw [hu] at hu'; cases hu'
    split at hi2
    · have hlt := own_lt hi2 b hub
      refine ⟨(hkp.block b (by have := h0.size; omega) (fun e => ?_)).trans (h0.block b hlt id), hlt⟩
      subst e
      exact ints_ne hi2 hfl.outer hub
    · subst hi2; simp [Value.ownBlock] at hub
  refine ⟨cs.setIfInBounds k v, ha, by simp [hfl.size], fun i hi => ?_, ?_⟩
  · by_cases hik : i = k
    · subst hik
      refine ⟨v, by simp [hfl.size, hk], ?_⟩
      rw [if_pos (by omega)]
      exact own_same hb ho (fun _ _ => rfl)
    · obtain ⟨u, hu, hi2⟩ := hfl.rows i hi
      refine ⟨u, by rw [Array.getElem?_setIfInBounds_ne (Ne.symm hik)]; exact hu, ?_⟩
      by_cases hlt : i < k
      · rw [if_pos hlt] at hi2
        rw [if_pos (by omega)]
        exact own_same (Nat.le_refl _) hi2 (fun b hb => (hold u b ⟨i, hi, hik, hu⟩ hb).1)
      · rw [if_neg hlt] at hi2
        rw [if_neg (by omega)]; exact hi2
  · intro i j u u' b hi hj hij hu hu' hub hub'
    have hcase : ∀ i u, i < 4 → (cs.setIfInBounds k v)[i]? = some u → (i = k ∧ u = v) ∨ (i ≠ k ∧ cs[i]? = some u) := by
      intro i u hi hu
      by_cases hik : i = k
      · subst hik; left; refine ⟨rfl, ?_⟩; simpa [hfl.size, hk, eq_comm] using hu
      · exact .inr ⟨hik, by rwa [Array.getElem?_setIfInBounds_ne (Ne.symm hik)] at hu⟩
    have hv := own_base ho
    have hz := h0.size
    rcases hcase i u hi hu with ⟨e1, e2⟩ | ⟨hik, hu⟩ <;> rcases hcase j u' hj hu' with ⟨e3, e4⟩ | ⟨hjk, hu'⟩
    · exact hij (e1.trans e3.symm)
    · have := (hold u' b ⟨j, hj, hjk, hu'⟩ hub').2; have := hv b (e2 ▸ hub); omega
    · have := (hold u b ⟨i, hi, hik, hu⟩ hub).2; have := hv b (e4 ▸ hub'); omega
    · exact hfl.apart i j u u' b hi hj hij hu hu' hub hub'

/-- What a closed block of deferred calls leaves as it is. -/
theorem Filled.shut {base bo n r : Nat} {L : Nat → List Int} {w : World} {cs : Array Value} {d : Option (List Deferred)} (h : Filled base L w bo n cs) (hr : w.heap[r]? = some (.deferred d)) : Filled base L (w.putObj r (.deferred none)) bo n cs := by
  have hne : ∀ b o, At w b o → (∀ d, o ≠ .deferred d) → b ≠ r := by
    rintro b o hb hn rfl
    rw [hb.eq] at hr; cases hr; exact hn _ rfl
  refine ⟨(World.putObj_heap_other (hne _ _ h.outer (fun _ => by simp))).trans h.outer, h.size, fun i hi => ?_, h.apart⟩
  obtain ⟨u, hu, h2⟩ := h.rows i hi
  refine ⟨u, hu, ?_⟩
  split
  · rename_i hlt
    rw [if_pos hlt] at h2
    refine own_same (Nat.le_refl _) h2 (fun k hk => World.putObj_heap_other (fun e => ?_))
    subst e
    rcases h2.2 with ⟨rfl, -⟩ | ⟨g, cap, cur, rfl, -, hg, -⟩
    · simp [Value.ownBlock] at hk
    · simp only [Value.ownBlock, Option.some.injEq] at hk; subst hk; rw [hg] at hr; cases hr
  · rename_i hlt
    rw [if_neg hlt] at h2; exact h2

/-- The marks that the loops over a function have left. -/
structure Marks (base : Nat) (W : World) (rs : List Nat) : Prop where
  nodup : rs.Nodup
  live : ∀ r ∈ rs, base ≤ r ∧ W.heap[r]? = some (.deferred (some []))

def marks (rs : List Nat) : List Deferred := rs.map fun r => { target := .collected r, args := #[] }

theorem leaves_marks {F : Fence} {n : Nat} {fn : Func} {tmps : Array Value} {v : Value} {base bo m : Nat} {L : Nat → List Int} {cs : Array Value} {w0 : World} {R : Ending → World → Prop} (hR : ∀ W, Filled w0.heap.size L W bo m cs → Keeps (fun _ => False) w0 W → R (.returned v) W) (hb : w0.heap.size ≤ base) (hres : ∀ w, (results fn tmps).run Try.prog w = .ok v w) :
    ∀ (rs : List Nat) (W : World), Marks base W rs → Filled w0.heap.size L W bo m cs → Keeps (fun _ => False) w0 W →
      LeavesInM F n Try.prog fn tmps R (marks rs) .returning W := by
  intro rs
  induction rs with
  | nil => intro W _ hf hk; exact ⟨v, hres W, hR W hf hk⟩
  | cons r rs ih =>
    intro W hm hf hk
    obtain ⟨hbr, hlr⟩ := hm.live r (by simp)
    refine ⟨by simp, .inl ⟨r, _, rfl, run_takeDeferred hlr, ih _ ⟨(List.nodup_cons.1 hm.nodup).2, fun r' hr' => ⟨(hm.live r' (by simp [hr'])).1, ?_⟩⟩ (hf.shut hlr) ?_⟩⟩
    · refine (World.putObj_heap_other (fun e => ?_)).trans (hm.live r' (by simp [hr'])).2
      subst e; exact (List.nodup_cons.1 hm.nodup).1 hr'
    · exact hk.putObj (.inr (by omega))

theorem vs_keys' {L : List Int} {ns : List Sh.Node} (h : vs L = ns.map fun n => (n.k, n.v)) : (ns.map fun n => (n.k, n.v)).map (·.1) = L := by
  rw [← h]; unfold vs; rw [List.map_map]; exact (List.map_congr_left (fun _ _ => rfl)).trans (List.map_id _)

set_option maxHeartbeats 2000000 in
theorem lines_calls (w : World) (c : Nat) (F : Nat → Prop) (L : Nat → List Int) (h : CacheIs w c F L) :
    Calls Try.prog 14 #[.pointer (some ⟨c, 0, none⟩)] w fun e w' => ∃ bo cs, e = .returned (.slice (some ⟨bo, 0, none⟩) 4 4) ∧ w.heap.size ≤ bo ∧ Filled w.heap.size L w' bo 4 cs ∧ Keeps (fun _ => False) w w' := by
  obtain ⟨ss, G, hp, hc, hF, hB⟩ := h
  have hmk : ∀ w, (Instr.makeSlice 35 (.int .i64 4) (.int .i64 4)).run Try.prog w = .ok (.slice (some ⟨w.heap.size, 0, none⟩) 4 4) (w.alloc (.cells #[.slice none 0 0, .slice none 0 0, .slice none 0 0, .slice none 0 0] 67)) := fun _ => by kernel_rfl
  have c0 : ∀ A B, ((w.alloc A).alloc B).cell? ⟨c, 0, none⟩ = some (.pointer (some ⟨ss 0, 0, none⟩)) := old_cell hp.head rfl
  have c1 : ∀ A B, ((w.alloc A).alloc B).cell? ⟨c, 1, none⟩ = some (.pointer (some ⟨ss 1, 0, none⟩)) := old_cell hp.head rfl
  have c2 : ∀ A B, ((w.alloc A).alloc B).cell? ⟨c, 2, none⟩ = some (.pointer (some ⟨ss 2, 0, none⟩)) := old_cell hp.head rfl
  have c3 : ∀ A B, ((w.alloc A).alloc B).cell? ⟨c, 3, none⟩ = some (.pointer (some ⟨ss 3, 0, none⟩)) := old_cell hp.head rfl
  obtain ⟨i0, hi, hz0', hz1, hz2⟩ := info_parts infoInt
  refine callsIn_wide.1 (callsIn_of_wp_marks (F := Fence.wide) (n := 9) Try.func14 rfl trivial (wpIn_wide.2 ?_))
  simp only [Try.ntmps14, List.size_toArray, List.length_cons, List.length_nil, Nat.reduceAdd, Nat.reduceSub, Array.replicate_succ, Array.replicate_zero, List.push_toArray, List.append_toArray, List.nil_append, List.cons_append]
  go_wp2
  refine wp_loop_ghost_k (fun g a wr => ∃ u4 u5 u6 u14 u15 u16 u17 u18 u19 u22 u23 u24 u25 u26 u27 u28 u29 u30 u31 u32 ds, (∃ (k : Nat) (cs : Array Value) (rs : List Nat), g = 4 - k ∧ k ≤ 4 ∧ u14 = .int .i64 k ∧ Filled w.heap.size L wr w.heap.size k cs ∧
    At wr (w.heap.size + 1) (.cells #[.slice (some ⟨w.heap.size, 0, none⟩) 4 4] 35 (0, 0)) ∧ Keeps (fun _ => False) w wr ∧ ds = marks rs ∧ Marks (w.heap.size + 2) wr rs) ∧ a = { tmps := #[.pointer (some ⟨c, 0, none⟩), undef, .slice none 0 0, .pointer (some ⟨w.heap.size + 1, 0, none⟩), u4, u5, u6, .pointer (some ⟨c, 0, none⟩), .bool false, .slice (some ⟨w.heap.size, 0, none⟩) 4 4, .pointer (some ⟨c, 0, none⟩), .pointer (some ⟨c, 0, none⟩), .pointer (some ⟨c, 0, none⟩), .agg #[.pointer (some ⟨ss 0, 0, none⟩), .pointer (some ⟨ss 1, 0, none⟩), .pointer (some ⟨ss 2, 0, none⟩), .pointer (some ⟨ss 3, 0, none⟩)], u14, u15, u16, u17, u18, u19, undef, undef, u22, u23, u24, u25, u26, u27, u28, u29, u30, u31, u32, undef], defers := ds }) 4 ?atStart ?round
  case atStart =>
    (repeat apply Exists.intro)
    refine ⟨⟨0, #[.slice none 0 0, .slice none 0 0, .slice none 0 0, .slice none 0 0], [], rfl, by omega, rfl, ⟨(At.new w _).alloc _, rfl, ?_, ?_⟩, ?_, ((Keeps.refl _ _).alloc _).alloc _, rfl, List.nodup_nil, fun _ h => by cases h⟩, rfl⟩
    · intro i hi
      obtain rfl | rfl | rfl | rfl : i = 0 ∨ i = 1 ∨ i = 2 ∨ i = 3 := by omega
      all_goals exact ⟨_, rfl, by simp⟩
    · intro i j u v k hi hj _ hu _ hk
      obtain rfl | rfl | rfl | rfl : i = 0 ∨ i = 1 ∨ i = 2 ∨ i = 3 := by omega
      all_goals (simp at hu; subst hu; simp [Value.ownBlock] at hk)
    · have := At.new (w.alloc (.cells #[.slice none 0 0, .slice none 0 0, .slice none 0 0, .slice none 0 0] 67)) (.cells #[.slice (some ⟨w.heap.size, 0, none⟩) 4 4] 35 (0, 0))
      rwa [size_alloc] at this
  case round =>
    rintro gk _ wr ⟨u4, u5, u6, u14, u15, u16, u17, u18, u19, u22, u23, u24, u25, u26, u27, u28, u29, u30, u31, u32, ds, ⟨k, cs, rs, rfl, hk, rfl, hfl, hbx, hK, rfl, hM⟩, rfl⟩ J K hJ hKK
    by_cases hlt : k < 4
    · have hix := run_index ss k hlt
      go_wp2_with fail
      refine (all_calls _ _).mono ?_
      rintro e w0 ⟨rfl, hw0⟩
      have hz0 : w0.heap.size = wr.heap.size + 2 := by rw [← hw0]; simp
      have hK0 : Keeps (fun _ => False) wr w0 := by rw [← hw0]; exact ((Keeps.refl _ _).alloc _).alloc _
      have hbi : At w0 wr.heap.size (.cells #[.int .i64 k] 3 (0, 0)) := by rw [← hw0]; exact (At.new _ _).alloc _
      have hbs : At w0 (wr.heap.size + 1) (.cells #[.pointer (some ⟨ss k, 0, none⟩)] 52 (0, 0)) := by
        rw [← hw0]; have := At.new (wr.alloc (.cells #[.int .i64 k] 3)) (.cells #[.pointer (some ⟨ss k, 0, none⟩)] 52); rwa [size_alloc] at this
      clear hw0
      have ho0 := hK0.get hfl.outer id
      have hb0 := hK0.get hbx id
      have hbol := hfl.outer.lt
      obtain ⟨m, ns, es, hfull, hFo, hvs⟩ := ((hp.held k hlt).keeps hK (fun _ _ => id)).keeps hK0 (fun _ _ => id)
      have hnl : ns.length ≤ 4096 := by
        have := congrArg List.length hvs; simp [vs_len] at this; have := hp.small k hlt; omega
      obtain ⟨v0, hv0, hv0'⟩ := hfl.rows k hlt
      rw [if_neg (by omega)] at hv0'
      subst hv0'
      have hrow0 : ∀ i, rowOf w0 ⟨w.heap.size, k, none⟩ = some i → i < w0.heap.size := by
        intro i hi
        unfold rowOf at hi; rw [ho0.cell hv0] at hi; simp [Value.ownBlock] at hi
      have hI0 : Row w0 w.heap.size k cs [] w0 := ⟨Keeps.refl _ _, .slice none 0 0, by
        rw [set_same hv0]; exact ho0, World.ownsRow_nil _ _ _ _⟩
      go_wp2_with fail
      refine (wpIn_wide (n := 8)).1 ?_
      refine' wpIn_rangeFunc_ownG (F := Fence.wide) (n := 8) (α := Int × V) rfl (by omega) (gf := 44) (lb := #[.pointer (some ⟨wr.heap.size + 1, 0, none⟩)]) rfl trivial (enters_of Try.func44 (by kernel_rfl) rfl)
        (all_stops 6 w0 (ss k) m 2 ns es hfull (wr.heap.size + 1) (by omega) (hbs.cell rfl) ⟨w.heap.size, k, none⟩ w0.heap.size (Nat.le_refl _) (by show w.heap.size < _; omega) hrow0 hnl) (fun h k => kp_t h k) (kp_b (by show w.heap.size < _; omega)) (Below.refl _ _) (fun _ => rfl)
        (fun pre W => Row w0 w.heap.size k cs (pre.map (·.1)) W) (fun _ _ _ => False) (row_own (by omega)) (fun _ _ _ _ _ hs _ _ => hs) hI0 _ ?assign ?body ?done ?stop
      case assign =>
        intro l x W K hK
        gi_wp2
        exact hK
      case body =>
        rintro l pre x W ⟨hkW, v, haW, hoW⟩ hlen
        have hpl : pre.length < 4096 := by omega
        have hzW := hkW.size
        have hoW' : W.ownsRow w0.heap.size 3 1 v (pre.map (·.1)).length ((pre.map (·.1)).map (Value.int .i64)) := hoW
        obtain ⟨v', w2, hrun, ho2, hg2, -, hat⟩ := run_append_own_at (P := Try.prog) ((W.alloc (.cells #[.int .i64 x.1] 3)).drew) w0.heap.size 67 67 3 i0 (.int .i64 0) 1 8 Try.underlying67 hi hz0' hz1 hz2 rfl (by decide) v _ _ ((hoW'.alloc _).kept (w' := (W.alloc (.cells #[.int .i64 x.1] 3)).drew) (row := none) ⟨rfl, rfl, rfl, Nat.le_refl _, fun _ _ _ => rfl⟩ (by cases v.ownBlock <;> simp))
          ⟨W.heap.size, 0, none⟩ 1 1 [.int .i64 x.1] rfl (cell_one_new W _ _) (by simp [Value.oneCell']) (by simp; unfold maxLen; omega) (by simp; omega) (by rw [size_drew, size_alloc]; omega)
        have hstep := row_step hkW (by omega) (by rw [hfl.size]; exact hlt) haW hoW' ho2 hg2 (by rw [size_drew, size_alloc] at hat; exact hat)
        have hbW := hkW.get hb0 (by omega)
        have hiW := hkW.get hbi (by omega)
        have hoff := own_base hoW'
        have hsame : ∀ b o, At W b o → v.ownBlock ≠ some b → At w2 b o := by
          intro b o hb hn
          have hlt := hb.lt
          refine (hg2.block b (by rw [size_drew, size_alloc]; omega) (fun e => hn e.symm)).trans ?_
          rw [heap_drew, heap_alloc, if_neg (by omega)]; exact hb
        have hbw2 := hsame _ _ hbW (fun e => by have := hoff _ e; omega)
        have hiw2 := hsame _ _ hiW (fun e => by have := hoff _ e; omega)
        have haw2 := hsame _ _ haW (ints_ne hoW' haW)
        have hck : (cs.setIfInBounds k v)[k]? = some v := by simp [hfl.size, hlt]
        obtain ⟨g', cap', rfl⟩ := ownsRow_succ ho2
        have q1 : W.cell? ⟨w.heap.size + 1, 0, none⟩ = some (.slice (some ⟨w.heap.size, 0, none⟩) 4 4) := hbW.cell rfl
        have q2 : W.cell? ⟨wr.heap.size, 0, none⟩ = some (.int .i64 k) := hiW.cell rfl
        have q3 : W.cell? ⟨w.heap.size, k, none⟩ = some v := haW.cell hck
        have q4 : ∀ X, (W.alloc X).cell? ⟨w.heap.size + 1, 0, none⟩ = some (.slice (some ⟨w.heap.size, 0, none⟩) 4 4) := fun X => (hbW.alloc X).cell rfl
        have q5 : ∀ X, (W.alloc X).cell? ⟨wr.heap.size, 0, none⟩ = some (.int .i64 k) := fun X => (hiW.alloc X).cell rfl
        have q6 : ∀ X, (W.alloc X).cell? ⟨w.heap.size, k, none⟩ = some v := fun X => (haW.alloc X).cell hck
        have q7 : w2.cell? ⟨w.heap.size + 1, 0, none⟩ = some (.slice (some ⟨w.heap.size, 0, none⟩) 4 4) := hbw2.cell rfl
        have q8 : w2.cell? ⟨wr.heap.size, 0, none⟩ = some (.int .i64 k) := hiw2.cell rfl
        have q9 : w2.cell? ⟨w.heap.size, k, none⟩ = some v := haw2.cell hck
        have q10 : w2.frozen? ⟨w.heap.size, k, none⟩ = false := haw2.free k
        have hrun2 : (Builtin.append_ #[67, 67] 67 #[v, .slice (some ⟨W.heap.size, 0, none⟩) 1 1]).run Try.prog (W.drew.alloc (.cells #[.int .i64 x.1] 3)) = .ok (.slice (some ⟨g', 0, none⟩) ((pre.map (·.1)).length + 1) cap') w2 := hrun
        have HS := Lib.hid hstep
        clear hstep hsame hbw2 hiw2 haw2 hck hoff hat hg2 ho2 hoW hoW' haW hkW hbW hiW hI0 hrow0 hvs hfull hnl hFo
        gi_wp2
        refine Held.region_round 10 (fun W' => W'.cell? ⟨w.heap.size + 1, 0, none⟩ = some (.slice (some ⟨w.heap.size, 0, none⟩) 4 4) ∧ W'.cell? ⟨wr.heap.size, 0, none⟩ = some (.int .i64 k) ∧ W'.cell? ⟨w.heap.size, k, none⟩ = some v) (by kernel_rfl) (by kernel_rfl) ⟨q1, q2, q3⟩ ?_
        have hput : ∀ (ts : List Value) (d : Nat) (v : Value) (ds : List Deferred), Act.put { tmps := ts.toArray, defers := ds } (some d) v = { tmps := (ts.set d v).toArray, defers := ds } := fun _ _ _ _ => by simp [Act.put]
        refine Held.Way.take 0 (v := .slice (some ⟨w.heap.size, 0, none⟩) 4 4) rfl (by kernel_rfl) (by kernel_rfl) (by kernel_rfl) (by kernel_rfl) (fun _ _ _ h => h) (.inl ⟨by rfl, ?_⟩) rfl (hput _ 22 _ _) ?_
        · rintro W' ⟨h1, h2, h3⟩; go_simp
        simp only [List.set_cons_zero, List.set_cons_succ]
        refine Held.Way.take 1 (v := .int .i64 k) rfl (by kernel_rfl) (by kernel_rfl) (by kernel_rfl) (by kernel_rfl) (fun _ _ _ h => h) (.inl ⟨by rfl, ?_⟩) rfl (hput _ 23 _ _) ?_
        · rintro W' ⟨h1, h2, h3⟩; go_simp
        simp only [List.set_cons_zero, List.set_cons_succ]
        refine Held.Way.take 2 (v := .slice (some ⟨w.heap.size, 0, none⟩) 4 4) rfl (by kernel_rfl) (by kernel_rfl) (by kernel_rfl) (by kernel_rfl) (fun _ _ _ h => h) (.inl ⟨by rfl, ?_⟩) rfl (hput _ 24 _ _) ?_
        · rintro W' ⟨h1, h2, h3⟩; go_simp
        simp only [List.set_cons_zero, List.set_cons_succ]
        refine Held.Way.take 3 (v := .int .i64 k) rfl (by kernel_rfl) (by kernel_rfl) (by kernel_rfl) (by kernel_rfl) (fun _ _ _ h => h) (.inl ⟨by rfl, ?_⟩) rfl (hput _ 25 _ _) ?_
        · rintro W' ⟨h1, h2, h3⟩; go_simp
        simp only [List.set_cons_zero, List.set_cons_succ]
        refine Held.Way.take 4 (v := .pointer (some ⟨w.heap.size, k, none⟩)) rfl (by kernel_rfl) (by kernel_rfl) (by kernel_rfl) (by kernel_rfl) (fun _ _ _ h => h) (.inl ⟨by rfl, ?_⟩) rfl (hput _ 26 _ _) ?_
        · rintro W' ⟨h1, h2, h3⟩; go_simp
        simp only [List.set_cons_zero, List.set_cons_succ]
        refine Held.Way.take 5 (v := v) rfl (by kernel_rfl) (by kernel_rfl) (by kernel_rfl) (by kernel_rfl) (fun _ _ _ h => h) (.inl ⟨by rfl, ?_⟩) rfl (hput _ 27 _ _) ?_
        · rintro W' ⟨h1, h2, h3⟩; go_simp
        simp only [List.set_cons_zero, List.set_cons_succ]
        refine Held.Way.take 6 (v := .int .i64 x.1) rfl (by kernel_rfl) (by kernel_rfl) (by kernel_rfl) (by kernel_rfl) (fun _ _ _ h => h) (.inl ⟨by rfl, ?_⟩) rfl (hput _ 28 _ _) ?_
        · rintro W' ⟨h1, h2, h3⟩; go_simp
        simp only [List.set_cons_zero, List.set_cons_succ]
        refine Held.Way.go 7 (v := .slice (some ⟨W.heap.size, 0, none⟩) 1 1) (w' := W.drew.alloc (.cells #[.int .i64 x.1] 3)) rfl (by kernel_rfl) (by rfl) (fun _ => by go_simp) (fun _ _ => ⟨q4 _, q5 _, q6 _⟩) rfl (hput _ 29 _ _) ?_
        simp only [List.set_cons_zero, List.set_cons_succ]
        rw [if_neg (by decide)]
        refine Held.Way.go 8 (v := .slice (some ⟨g', 0, none⟩) ((pre.map (·.1)).length + 1) cap') (w' := w2) rfl (by kernel_rfl) (by rfl) (fun _ => Held.run_append_op rfl hrun2) (fun _ _ => ⟨q7, q8, q9⟩) rfl (hput _ 30 _ _) ?_
        simp only [List.set_cons_zero, List.set_cons_succ]
        rw [if_neg (by decide)]
        refine Held.Way.go 9 (v := .pointer (some ⟨w.heap.size, k, none⟩)) (w' := w2) rfl (by kernel_rfl) (by rfl) (fun _ => by go_simp) (fun _ _ => ⟨q7, q8, q9⟩) rfl (hput _ 31 _ _) ?_
        simp only [List.set_cons_zero, List.set_cons_succ]
        rw [if_neg (by decide)]
        refine Held.Way.skip 10 (w' := w2.setCell ⟨w.heap.size, k, none⟩ (.slice (some ⟨g', 0, none⟩) ((pre.map (·.1)).length + 1) cap')) rfl (by kernel_rfl) (by rfl) (fun _ => by go_simp) (fun h => absurd rfl h) rfl rfl ?_
        rw [if_pos rfl]
        refine ⟨⟨rfl, ?_⟩, by kernel_rfl⟩
        obtain ⟨s1, s2, s3⟩ := HS.out
        refine ⟨s1, s2, ?_⟩
        show Row w0 w.heap.size k cs ((pre ++ [x]).map (·.1)) _
        rw [List.map_append]; exact s3
      case done =>
        rintro D xs W hDs rfl hrow hD
        rw [vs_keys' hvs] at hrow
        obtain ⟨cs', hfl'⟩ := hfl.next hlt (by omega) hK0 hrow
        have hMs : ∀ r ∈ rs, r < wr.heap.size := fun r hr => (Array.getElem?_eq_some_iff.1 (hM.live r hr).2).1
        have hW : Keeps (fun _ => False) w W := by
          refine ⟨hrow.keeps.os.trans (hK0.os.trans hK.os), hrow.keeps.tape.trans (hK0.tape.trans hK.tape), hrow.keeps.output.trans (hK0.output.trans hK.output), by have := hrow.keeps.size; omega, fun i hi _ => ?_⟩
          exact (hrow.keeps.block i (by omega) (by omega)).trans ((hK0.block i (by omega) id).trans (hK.block i hi id))
        have hbW := hrow.keeps.get hb0 (by omega)
        have hM' : Marks (w.heap.size + 2) W (D :: rs) := by
          refine ⟨List.nodup_cons.2 ⟨fun h => by have := hMs D h; omega, hM.nodup⟩, fun r hr => ?_⟩
          rcases List.mem_cons.1 hr with rfl | hr
          · exact ⟨by omega, hD⟩
          · have := hMs r hr
            have := (hM.live r hr).1
            exact ⟨this, (hrow.keeps.block r (by omega) (by omega)).trans ((hK0.block r (by omega) id).trans (hM.live r hr).2)⟩
        go_wp2
        refine Handed.intro (4 - (k + 1)) (by omega) (hJ _ _ _ ?_)
        (repeat apply Exists.intro)
        exact ⟨⟨k + 1, cs', D :: rs, rfl, by omega, rfl, hfl', hbW, hW, rfl, hM'⟩, rfl⟩
      case stop => rintro D c pre W _ _ h _; exact h.elim
    · have h4 : k = 4 := by omega
      subst h4
      have q1 : wr.cell? ⟨w.heap.size + 1, 0, none⟩ = some (.slice (some ⟨w.heap.size, 0, none⟩) 4 4) := hbx.cell rfl
      go_wp2
      exact leaves_marks (fun W hf hk => ⟨_, rfl, Nat.le_refl _, ⟨_, hf⟩, hk⟩) (by omega) (fun w => results_tmp rfl _ _ _) rs wr hM hfl hK
end Go.Proofs.Ytigaldgbkeoilaa.Ca
