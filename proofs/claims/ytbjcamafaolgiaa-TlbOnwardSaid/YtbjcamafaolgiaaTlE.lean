/- tlb: Leaves, walked once. No conditions. -/
import Derived.Test.YtbjcamafaolgiaaTlD
import Derived.RangeFuncNested
namespace Go.Proofs.Ytbjcamafaolgiaa.Tl
open Go.RowKit Go.Proofs.Ytbjcamafaolgiaa.Mem Go.Proofs.Ytbjcamafaolgiaa.Sh Go.Proofs.Ytbjcamafaolgiaa.Rng
set_option linter.unusedSimpArgs false
set_option linter.unusedVariables false
attribute [local go_sem] Oper.semAt_some

def AxIs (box lo : Nat) (frame : Nat → Act) (x : V) (a' : Act) (W : World) : Prop :=
  ∃ B, lo ≤ B ∧ a' = frame B ∧ At W B (.cells #[.int .i64 x.1, .int .i64 x.2.1, .int .i64 x.2.2] 26 (0, 0)) ∧ rowOf W ⟨box, 0, none⟩ ≠ some B ∧ ∃ c t, At W box (.cells c t (0, 0))

theorem axIs_own {box lo base : Nat} {frame : Nat → Act} {x : V} {a' : Act} : OwnFrom base (fun (_ : Unit) W => AxIs box lo frame x a' W) := by
  rintro _ W W' row ⟨B, hB, ha, hA, hr, c, t, hb⟩ hg hrw
  have hne : ∀ b c t fr, At W b (.cells c t fr) → some b ≠ row := by
    intro b c t fr hb e
    obtain ⟨-, o, ho', hc⟩ := hrw b e.symm
    rw [hb.eq] at ho'; cases ho'; cases hc
  have hb' : W'.heap[box]? = W.heap[box]? := hg.block box hb.lt (hne _ _ _ _ hb)
  refine ⟨B, hB, ha, (hg.block B hA.lt (hne _ _ _ _ hA)).trans hA, ?_, c, t, hb'.trans hb⟩
  rw [rowOf_of (World.cell?_of_block (w := W) hb')]; exact hr

theorem own_same {w w' : World} {base base' e sz n : Nat} {v : Value} {xs : List Value} (hb : base' ≤ base) (h : w.ownsRow base e sz v n xs) (hk : ∀ k, v.ownBlock = some k → w'.heap[k]? = w.heap[k]?) : w'.ownsRow base' e sz v n xs := by
  refine ⟨h.1, ?_⟩
  rcases h.2 with h2 | ⟨g, cap, cur, rfl, hbg, hg, h3⟩
  · exact .inl h2
  · exact .inr ⟨g, cap, cur, rfl, by omega, (hk g rfl).trans hg, h3⟩

def LeavesPost (w : World) (L : List (Int × V)) (e : Ending) (w' : World) : Prop :=
  ∃ v, e = .returned v ∧ w'.ownsRow w.heap.size 26 3 v L.length (rows3 (L.map (·.2))) ∧ Keeps (fun _ => False) w w'

set_option maxHeartbeats 2000000 in
theorem leaves_calls (w : World) (t : Nat) (F : Nat → Prop) (L : List (Int × V)) (h : TlbIs w t F L) : Calls Try.prog 9 #[.pointer (some ⟨t, 0, none⟩)] w (LeavesPost w L) := by
  obtain ⟨s, G, hh, ⟨m, ns, es, hfull, hFo, hL⟩, hl, hGt, hF, hGF, hB⟩ := h
  obtain ⟨i1, gi, gz0, gz1, gz2⟩ := info_parts infoV
  have q0 : ∀ X, (w.alloc X).cell? ⟨t, 0, none⟩ = some (.pointer (some ⟨s, 0, none⟩)) := fun X => (hh.alloc X).cell rfl
  refine callsIn_wide.1 (callsIn_of_wp_marks (F := Fence.wide) (n := 9) Try.func9 rfl trivial (wpIn_wide.2 ?_))
  simp only [Try.ntmps9, List.size_toArray, List.length_cons, List.length_nil, Nat.reduceAdd, Nat.reduceSub, Array.replicate_succ, Array.replicate_zero, List.push_toArray, List.append_toArray, List.nil_append, List.cons_append]
  go_wp2_with fail
  refine (all_calls _ _).mono ?_
  rintro e w0 ⟨rfl, hw0⟩
  have hz0 : w0.heap.size = w.heap.size + 2 := by rw [← hw0]; simp
  have hk0 : Keeps (fun _ => False) w w0 := by rw [← hw0]; exact ((Keeps.refl _ w).alloc _).alloc _
  have hbox : At w0 w.heap.size (.cells #[.slice none 0 0] 22 (0, 0)) := by rw [← hw0]; exact (At.new w _).alloc _
  have hbs : At w0 (w.heap.size + 1) (.cells #[.pointer (some ⟨s, 0, none⟩)] 48 (0, 0)) := by
    rw [← hw0]; have := At.new (w.alloc (.cells #[.slice none 0 0] 22)) (.cells #[.pointer (some ⟨s, 0, none⟩)] 48); rwa [size_alloc] at this
  clear hw0 q0
  simp only [size_alloc]
  have hf0 := hfull.keeps hk0 (fun _ _ => id)
  have hnl : ns.length ≤ 4096 := by
    have := congrArg List.length hL; simp at this; omega
  have hrow0 : ∀ i, rowOf w0 ⟨w.heap.size, 0, none⟩ = some i → i < w0.heap.size := by
    intro i hi
    unfold rowOf at hi; rw [hbox.cell (v := .slice none 0 0) rfl] at hi; simp [Value.ownBlock] at hi
  have hI0 : Row3 w0 w.heap.size [] w0 := ⟨Keeps.refl _ _, .slice none 0 0, hbox, World.ownsRow_nil _ _ _ _⟩
  go_wp2_with fail
  refine (wpIn_wide (n := 8)).1 ?_
  refine' wpIn_rangeFunc_ownH (F := Fence.wide) (n := 8) (α := Int × V) rfl (by omega) (gf := 34) (lb := #[.pointer (some ⟨w.heap.size + 1, 0, none⟩)]) rfl trivial (enters_of Try.func34 (by kernel_rfl) rfl)
    (all_stops 6 w0 s m 4 ns es hf0 (w.heap.size + 1) (by omega) (hbs.cell rfl) ⟨w.heap.size, 0, none⟩ w0.heap.size (Nat.le_refl _) (by show w.heap.size < _; omega) hrow0 hnl) (fun h k => kp_t h k) (kp_b (by show w.heap.size < _; omega)) (Below.refl _ _) (fun _ => rfl)
    (fun pre W => Row3 w0 w.heap.size (pre.map (·.2)) W) (fun _ _ _ => False) (row3_own (by omega)) (fun _ _ _ _ _ hs _ _ => hs) hI0 (fun x a' W => AxIs w.heap.size w0.heap.size (fun B => { tmps := #[.pointer (some ⟨t, 0, none⟩), undef, .slice none 0 0, .pointer (some ⟨w.heap.size, 0, none⟩), undef, .pointer (some ⟨B, 0, none⟩), .pointer (some ⟨t, 0, none⟩), .bool false, undef, .pointer (some ⟨t, 0, none⟩), .pointer (some ⟨t, 0, none⟩), .pointer (some ⟨t, 0, none⟩), .pointer (some ⟨s, 0, none⟩), .func (.func 34) #[] #[.pointer (some ⟨w.heap.size + 1, 0, none⟩)], .int .i64 x.1, leafV x.2, undef, undef, undef, undef, undef], defers := [] }) x.2 a' W) (fun x a' => axIs_own) ?assign ?body ?done ?stop
  case assign =>
    intro l pre x W K hI hK
    obtain ⟨hkI, v, haI, hoI⟩ := hI
    have hzI := hkI.size
    have HK := Lib.hid hK
    clear hK
    gi_wp2
    refine HK.out _ _ ⟨by rw [size_alloc]; omega, fun i o hi hio hc => ?_⟩ ⟨by rw [size_alloc]; omega, fun i c t fr hi hA hr => hA.alloc _, fun i hi => .inl ?_⟩ ⟨hkI.alloc _, v, haI.alloc _, hoI.alloc _⟩ ⟨W.heap.size, hzI, rfl, At.new W _, ?_, _, _, haI.alloc _⟩
    · rw [heap_alloc, if_neg (by have := (Array.getElem?_eq_some_iff.1 hio).1; omega)]; exact hio
    · rwa [rowOf_of (World.cell?_of_block (w := W) (by rw [heap_alloc, if_neg (by show w.heap.size ≠ W.heap.size; omega)]))] at hi
    · have e : rowOf (W.alloc (.cells #[.int .i64 x.2.1, .int .i64 x.2.2.1, .int .i64 x.2.2.2] 26)) ⟨w.heap.size, 0, none⟩ = v.ownBlock := by unfold rowOf; rw [(haI.alloc _).cell (v := v) rfl]
      rw [e]; intro e2; have := own_lt hoI _ e2; omega
  case body =>
    rintro l pre x a' W hlW - ⟨hkW, v, haW, hoW⟩ ⟨B, hBlo, rfl, hAB, hrB, -⟩ hlen
    have hzW := hkW.size
    have hrowv : rowOf W ⟨w.heap.size, 0, none⟩ = v.ownBlock := by unfold rowOf; rw [haW.cell (v := v) rfl]
    rw [hrowv] at hrB
    have p1 : W.cell? ⟨w.heap.size, 0, none⟩ = some v := haW.cell rfl
    have p2 : W.cell? ⟨B, 0, none⟩ = some (.int .i64 x.2.1) := hAB.cell rfl
    have p3 : W.cell? ⟨B, 1, none⟩ = some (.int .i64 x.2.2.1) := hAB.cell rfl
    have p4 : W.cell? ⟨B, 2, none⟩ = some (.int .i64 x.2.2.2) := hAB.cell rfl
    have hpl : (pre.map (·.2)).length ≤ 4096 := by rw [List.length_map]; omega
    have c3 : (pre.map (·.2)).length + 1 ≤ maxLen := by unfold maxLen; omega
    have c4 : ((pre.map (·.2)).length + 1) * 24 ≤ 140737488355328 := by omega
    have c5 : ∀ X, w0.heap.size ≤ (W.alloc X).heap.size := fun X => by rw [size_alloc]; omega
    have hoff := own_ne_at hoW haW (by decide)
    have hbw : w.heap.size < w0.heap.size := by omega
    dsimp only
    gi_wp2_with (gi_at_builtin; refine wpListIn_append_own_at _ rfl _ _ 22 rfl w0.heap.size 26 i1 (Value.agg #[.int .i64 0, .int .i64 0, .int .i64 0]) 3 24 Try.underlying22 gi gz0 gz1 gz2 rfl (by decide) v _ _ rfl (hoW.alloc _) ⟨W.heap.size, 0, none⟩ 1 1 (cells3 x.2) rfl rfl (cell_three_new _ _ _ _ _) (by simp [cells3, Value.oneCell']) c3 c4 (c5 _) ?_; intro v1 w2 ho2 hg2 _ hat2; have HS := Lib.hid (row3_step hkW hbw haW hoW ho2 hg2 (by rw [size_alloc] at hat2; exact hat2)); have hb2 : At w2 w.heap.size (.cells #[v] 22 (0, 0)) := (hg2.block _ (by rw [size_alloc]; omega) (fun e => hoff e.symm)).trans (haW.alloc _); have r1 : w2.cell? ⟨w.heap.size, 0, none⟩ = some v := hb2.cell rfl; have r2 : w2.frozen? ⟨w.heap.size, 0, none⟩ = false := hb2.free 0; obtain ⟨va, vn, vc, rfl⟩ : ∃ va vn vc, v1 = .slice va vn vc := (by obtain ⟨x, y, e⟩ := own_slice ho2; exact ⟨x, _, y, e⟩); clear ho2 hg2 hat2 hb2 hkW haW hoW)
    obtain ⟨s1, s2, s3⟩ := HS.out
    refine ⟨s1, s2, ?_⟩
    show Row3 w0 w.heap.size ((pre ++ [x]).map (·.2)) _
    rw [List.map_append]; exact s3
  case done =>
    rintro D xs W hDs rfl ⟨hkW, v, haW, hoW⟩ hD
    have p1 : W.cell? ⟨w.heap.size, 0, none⟩ = some v := haW.cell rfl
    have HP : Hid (LeavesPost w L (.returned v) (W.putObj D (.deferred none))) := Lib.hid (by
      refine ⟨v, rfl, ?_, ?_⟩
      · rw [hL]
        refine own_same (base := w0.heap.size) (base' := w.heap.size) (by omega) (by simpa using hoW) (fun k e => World.putObj_heap_other (fun e2 => ?_))
        subst e2
        rcases hoW.2 with ⟨rfl, -⟩ | ⟨g, cap, cur, rfl, -, hg, -⟩
        · simp [Value.ownBlock] at e
        · simp only [Value.ownBlock, Option.some.injEq] at e; subst e; rw [hg] at hD; cases hD
      · exact (hk0.trans hkW (fun i hi x => by omega)).putObj (.inr (by omega)))
    clear hkW haW hoW hh hfull hf0 hbox hbs hI0 hrow0
    go_wp2_with fail
    refine ⟨by simp, .inl ⟨D, _, rfl, run_takeDeferred hD, v, ?_, HP.out⟩⟩
    simp [results, Try.results9, go_sem]
  case stop => rintro D c pre W _ _ h _; exact h.elim
end Go.Proofs.Ytbjcamafaolgiaa.Tl
