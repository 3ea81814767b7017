/- conf.Encode of the empty configuration. No conditions. -/
import Derived.Test.YtmmkacfeocnblaaWrB
import Derived.Tactics2
import Derived.Defers
import Derived.Recover
import Derived.Laws.Pointers
import Derived.Laws.IdiomStrings
namespace Go.Proofs.Ytmmkacfeocnblaa.Wr
open Go.RowKit Go.Proofs.Ytmmkacfeocnblaa.Mem Go.Proofs.Ytmmkacfeocnblaa.Rng
set_option linter.unusedSimpArgs false
set_option linter.unusedVariables false

theorem enc1_idle (p q : Addr) (w : World) :
    CallsD Try.prog 23 #[.pointer (some p), .pointer (some q)] .returning w fun e u' w' => e = .returned (.tuple #[]) ∧ u' = .returning ∧ w' = w := by
  refine callsD_of_wpS Try.func23 rfl fun c₀ cs hu => ?_
  apply wpS_seq
  apply wpS_region
  simp [wpOpsS, go_sem, recoverD, hu, Try.ntmps23, Exit.thenS]
  refine wpS_of_wp ?_
  go_wp2
  cases c₀
  simp_all [bodyPostS, results, Try.results23]

theorem leB_in (n : Int) (k : Nat) : ∀ x ∈ leB n k, 0 ≤ x ∧ x < 256 := by
  intro x hx
  obtain ⟨i, -, rfl⟩ := List.mem_map.1 hx
  omega

/-- The mark has been laid down, and n bytes behind it. -/
def Bytes (base : Nat) (w : World) (pw pr n : Nat) : Prop := ∃ t : List Int, WriterIs base w pw pr (leB 826493762 4 ++ t) ∧ t.length = n ∧ ∀ x ∈ t, 0 ≤ x ∧ x < 256

theorem Bytes.more {base : Nat} {w' : World} {pw pr n k : Nat} {m : Int} {t : List Int} (ht : t.length = n) (hx : ∀ x ∈ t, 0 ≤ x ∧ x < 256) (h : WriterIs base w' pw pr (leB 826493762 4 ++ t ++ leB m k)) : Bytes base w' pw pr (n + k) :=
  ⟨t ++ leB m k, by rw [← List.append_assoc]; exact h, by rw [List.length_append, leB_len, ht], fun x hx' => (List.mem_append.1 hx').elim (hx x) (leB_in m k x)⟩

theorem number_b (base : Nat) (w : World) (pw pr n : Nat) (h : Bytes base w pw pr n) (hbw : base ≤ w.heap.size) (hn : n ≤ 100) :
    Calls Try.prog 26 #[.agg #[.pointer (some ⟨pw, 0, none⟩)], .int .i64 0] w fun e w' => e = .returned (.tuple #[]) ∧ Bytes base w' pw pr (n + 4) ∧ Lays base pr w w' := by
  obtain ⟨t, hW, ht, hx⟩ := h
  refine (number_calls base w pw pr _ 0 hW hbw (by omega) (by omega) (by rw [List.length_append, leB_len, ht]; omega)).mono ?_
  rintro e w' ⟨rfl, h1, h2⟩
  exact ⟨rfl, Bytes.more ht hx h1, h2⟩

theorem putW_b (base : Nat) (w : World) (pw pr n : Nat) (f : Value) (h : Bytes base w pw pr n) (hbw : base ≤ w.heap.size) (hn : n ≤ 100) :
    Calls Try.prog 27 #[.agg #[.pointer (some ⟨pw, 0, none⟩)], .slice none 0 0, f] w fun e w' => e = .returned (.tuple #[]) ∧ Bytes base w' pw pr (n + 1) ∧ Lays base pr w w' := by
  obtain ⟨t, hW, ht, hx⟩ := h
  refine (putW_calls base w pw pr _ f hW hbw (by rw [List.length_append, leB_len, ht]; omega)).mono ?_
  rintro e w' ⟨rfl, h1, h2⟩
  exact ⟨rfl, Bytes.more ht hx h1, h2⟩

theorem putP_b (base : Nat) (w : World) (pw pr n : Nat) (f : Value) (h : Bytes base w pw pr n) (hbw : base ≤ w.heap.size) (hn : n ≤ 100) :
    Calls Try.prog 29 #[.agg #[.pointer (some ⟨pw, 0, none⟩)], .slice none 0 0, f] w fun e w' => e = .returned (.tuple #[]) ∧ Bytes base w' pw pr (n + 1) ∧ Lays base pr w w' := by
  obtain ⟨t, hW, ht, hx⟩ := h
  refine (putP_calls base w pw pr _ f hW hbw (by rw [List.length_append, leB_len, ht]; omega)).mono ?_
  rintro e w' ⟨rfl, h1, h2⟩
  exact ⟨rfl, Bytes.more ht hx h1, h2⟩

theorem putC_b (base : Nat) (w : World) (pw pr n : Nat) (f : Value) (h : Bytes base w pw pr n) (hbw : base ≤ w.heap.size) (hn : n ≤ 100) :
    Calls Try.prog 31 #[.agg #[.pointer (some ⟨pw, 0, none⟩)], .slice none 0 0, f] w fun e w' => e = .returned (.tuple #[]) ∧ Bytes base w' pw pr (n + 1) ∧ Lays base pr w w' := by
  obtain ⟨t, hW, ht, hx⟩ := h
  refine (putC_calls base w pw pr _ f hW hbw (by rw [List.length_append, leB_len, ht]; omega)).mono ?_
  rintro e w' ⟨rfl, h1, h2⟩
  exact ⟨rfl, Bytes.more ht hx h1, h2⟩

theorem sumlay_b (base : Nat) (w : World) (pw pr n : Nat) (z : Int) (h : Bytes base w pw pr n) (hbw : base ≤ w.heap.size) (hn : n ≤ 100) (h0 : 0 ≤ z) (h1 : z < 4294967296) :
    Calls Try.prog 25 #[.pointer (some ⟨pw, 0, none⟩), .int .u32 z] w fun e w' => e = .returned (.tuple #[]) ∧ Bytes base w' pw pr (n + 4) ∧ Lays base pr w w' := by
  obtain ⟨t, hW, ht, hx⟩ := h
  refine (u32_calls base w pw pr _ z hW hbw h0 h1 (by rw [List.length_append, leB_len, ht]; omega)).mono ?_
  rintro e w' ⟨rfl, h1, h2⟩
  exact ⟨rfl, Bytes.more ht hx h1, h2⟩

/-- What Out has told. -/
def Told (base : Nat) (w : World) (g n : Nat) : Prop := ∃ (t : List Int) (c : Array Value), At w g (.cells c 5 (0, 0)) ∧ c.toList = (leB 826493762 4 ++ t).map (Value.int .u8) ∧ t.length = n ∧ (∀ x ∈ t, 0 ≤ x ∧ x < 256) ∧ base ≤ g

theorem out_b (base : Nat) (w : World) (pw pr n : Nat) (h : Bytes base w pw pr n) (hbw : base ≤ w.heap.size) (hn : n ≤ 100) :
    Calls Try.prog 34 #[.pointer (some ⟨pw, 0, none⟩)] w fun e w' => (∃ g, e = .returned (.slice (some ⟨g, 0, none⟩) (n + 4) (n + 4)) ∧ Told base w' g n) ∧ Bytes base w' pw pr n ∧ Lays base pr w w' := by
  obtain ⟨t, hW, ht, hx⟩ := h
  have hl : (leB 826493762 4 ++ t).length = n + 4 := by rw [List.length_append, leB_len, ht]; omega
  refine (out_calls base w pw pr _ hW hbw (by rw [hl]; omega)).mono ?_
  rintro e w' ⟨g, rfl, hg, ⟨c, hA, hc⟩, h1, h2⟩
  exact ⟨⟨g, by rw [hl], t, c, hA, hc, ht, hx, hg⟩, ⟨t, h1, ht, hx⟩, h2⟩

theorem sum_b (base : Nat) (w : World) (g n : Nat) (h : Told base w g n) (hn : n ≤ 100) :
    Calls Try.prog 33 #[.slice (some ⟨g, 0, none⟩) (n + 4) (n + 4)] w fun e w' => (∃ z : Int, e = .returned (.int .u32 z) ∧ 0 ≤ z ∧ z < 4294967296) ∧ w = w' := by
  obtain ⟨t, c, hA, hc, ht, hx, -⟩ := h
  have hl : (leB 826493762 4 ++ t).length = n + 4 := by rw [List.length_append, leB_len, ht]; omega
  have := sum_some w g c _ hA hc (by rw [hl]; omega) (fun x h => (List.mem_append.1 h).elim (leB_in _ _ x) (hx x))
  rwa [hl] at this

theorem len_b (base : Nat) (w : World) (pw pr n : Nat) (h : Bytes base w pw pr n) :
    Calls Try.prog 35 #[.pointer (some ⟨pw, 0, none⟩)] w fun e w' => e = .returned (.int .i64 (n + 4 : Nat)) ∧ w = w' := by
  obtain ⟨t, hW, ht, hx⟩ := h
  have hl : (leB 826493762 4 ++ t).length = n + 4 := by rw [List.length_append, leB_len, ht]; omega
  have := len_calls base w pw pr _ hW
  rwa [hl] at this

theorem Bytes.drew {base : Nat} {w : World} {pw pr n : Nat} (h : Bytes base w pw pr n) : Bytes base w.drew pw pr n := by
  obtain ⟨t, ⟨h1, h2, h3⟩, ht⟩ := h
  exact ⟨t, ⟨h1, h2, h3⟩, ht⟩

abbrev E0 : Value := .agg #[.int .i64 0, .int .i64 0, .int .i64 0, .int .i64 0, .slice none 0 0, .slice none 0 0, .slice none 0 0]

/-- What stands around the writer. -/
structure Around (w0 : World) (b pw pr wv : Nat) (n : Nat) (w : World) : Prop where
  box : At w b (.cells #[.int .i64 0, .int .i64 0, .int .i64 0, .int .i64 0, .slice none 0 0, .slice none 0 0, .slice none 0 0] 26 (0, 0))
  r1 : At w (b + 1) (.cells #[.slice none 0 0] 27 (0, 0))
  r2 : At w (b + 1 + 1) (.cells #[.int .i64 0] 28 (0, 0))
  var : At w wv (.cells #[.pointer (some ⟨pw, 0, none⟩)] 56 (0, 0))
  bytes : Bytes (b + 3) w pw pr n
  below : Below b w0 w
  far : wv ≠ pr ∧ b + 3 ≤ wv
  size : b + 3 ≤ w.heap.size

theorem Around.next {w0 w w' : World} {b pw pr wv n m : Nat} (h : Around w0 b pw pr wv n w) (hb : Bytes (b + 3) w' pw pr m) (hl : Lays (b + 3) pr w w') : Around w0 b pw pr wv m w' := by
  have hz := hl.size
  refine ⟨(hl.below.block b (by omega)).trans h.box, (hl.below.block (b + 1) (by omega)).trans h.r1, (hl.below.block (b + 1 + 1) (by omega)).trans h.r2, hl.other wv _ _ _ (by decide) h.far.1 h.var, hb, h.below.trans (hl.below.mono (by omega)), h.far, ?_⟩
  have := h.size; omega
theorem Around.drew {w0 w : World} {b pw pr wv n : Nat} (h : Around w0 b pw pr wv n w) : Around w0 b pw pr wv n w.drew := h.next h.bytes.drew (Lays.drew w)

def EncPost (w : World) (e : Ending) (w' : World) : Prop := (∃ g, e = .returned (.tuple #[.slice (some ⟨g, 0, none⟩) 27 27, .int .i64 0]) ∧ Told w.heap.size w' g 23) ∧ Below w.heap.size w w'

theorem around0 {w w1 w3 : World} {pw : Nat} (hB : Below (w.heap.size + 3) (((w.alloc (.cells #[.int .i64 0, .int .i64 0, .int .i64 0, .int .i64 0, .slice none 0 0, .slice none 0 0, .slice none 0 0] 26)).alloc (.cells #[.slice none 0 0] 27)).alloc (.cells #[.int .i64 0] 28)) w1)
    (hpr : w.heap.size + 3 < w1.heap.size) (h3 : WriterIs (w.heap.size + 3) w3 pw (w.heap.size + 3) (leB 826493762 4)) (hl : Lays (w.heap.size + 3) (w.heap.size + 3) (w1.alloc (.cells #[.pointer (some ⟨pw, 0, none⟩)] 56)) w3) :
    Around w w.heap.size pw (w.heap.size + 3) w1.heap.size 0 w3 := by
  have hz := hl.size
  rw [size_alloc] at hz
  have b0 : At (((w.alloc (.cells #[.int .i64 0, .int .i64 0, .int .i64 0, .int .i64 0, .slice none 0 0, .slice none 0 0, .slice none 0 0] 26)).alloc (.cells #[.slice none 0 0] 27)).alloc (.cells #[.int .i64 0] 28)) w.heap.size (.cells #[.int .i64 0, .int .i64 0, .int .i64 0, .int .i64 0, .slice none 0 0, .slice none 0 0, .slice none 0 0] 26 (0, 0)) := ((At.new w _).alloc _).alloc _
  have b1 : At (((w.alloc (.cells #[.int .i64 0, .int .i64 0, .int .i64 0, .int .i64 0, .slice none 0 0, .slice none 0 0, .slice none 0 0] 26)).alloc (.cells #[.slice none 0 0] 27)).alloc (.cells #[.int .i64 0] 28)) (w.heap.size + 1) (.cells #[.slice none 0 0] 27 (0, 0)) := by
    have := (At.new (w.alloc (.cells #[.int .i64 0, .int .i64 0, .int .i64 0, .int .i64 0, .slice none 0 0, .slice none 0 0, .slice none 0 0] 26)) (.cells #[.slice none 0 0] 27)).alloc (.cells #[.int .i64 0] 28); rwa [size_alloc] at this
  have b2 : At (((w.alloc (.cells #[.int .i64 0, .int .i64 0, .int .i64 0, .int .i64 0, .slice none 0 0, .slice none 0 0, .slice none 0 0] 26)).alloc (.cells #[.slice none 0 0] 27)).alloc (.cells #[.int .i64 0] 28)) (w.heap.size + 1 + 1) (.cells #[.int .i64 0] 28 (0, 0)) := by
    have := At.new ((w.alloc (.cells #[.int .i64 0, .int .i64 0, .int .i64 0, .int .i64 0, .slice none 0 0, .slice none 0 0, .slice none 0 0] 26)).alloc (.cells #[.slice none 0 0] 27)) (.cells #[.int .i64 0] 28); rwa [size_alloc, size_alloc] at this
  have tr : ∀ {b o}, At w1 b o → b < w.heap.size + 3 → At w3 b o := fun h hb => (hl.below.block _ hb).trans (h.alloc _)
  have k0 : Below w.heap.size w (((w.alloc (.cells #[.int .i64 0, .int .i64 0, .int .i64 0, .int .i64 0, .slice none 0 0, .slice none 0 0, .slice none 0 0] 26)).alloc (.cells #[.slice none 0 0] 27)).alloc (.cells #[.int .i64 0] 28)) := (((Below.refl _ w).alloc (Nat.le_refl _) _).alloc (by simp) _).alloc (by simp; omega) _
  refine ⟨tr ((hB.block _ (by omega)).trans b0) (by omega), tr ((hB.block _ (by omega)).trans b1) (by omega), tr ((hB.block _ (by omega)).trans b2) (by omega), hl.other _ _ _ _ (by decide) (by omega) (At.new w1 _), ⟨[], by simpa using h3, rfl, fun x h => by cases h⟩, ?_, ⟨by omega, by omega⟩, by omega⟩
  exact (k0.trans (hB.mono (by omega))).trans (((Below.refl _ w1).alloc (by omega) _).trans (hl.below.mono (by omega)))

set_option maxHeartbeats 4000000 in
set_option maxRecDepth 10000 in
theorem encode_calls (w : World) : Calls Try.prog 11 #[E0] w (EncPost w) := by
  have hmf : ∀ (fn : Fn) (first cap : Array Value) (w : World), (Instr.makeFunc fn first cap).run Try.prog w = .ok (.func fn first cap) w := fun _ _ _ _ => rfl
  go_enter_defers Try.func11, Try.ntmps11
  go_wp2_with fail
  refine (newWriter_calls _).mono ?_
  rintro e w1 ⟨rfl, hW, hB⟩
  simp only [size_alloc] at hW hB ⊢
  have hpr : w.heap.size + 3 < w1.heap.size := by obtain ⟨v, at', h, -⟩ := hW.row; exact h.lt
  generalize hpw : w.heap.size + 1 + 1 + 1 + 1 = pw at *
  have hW2 := (alloc_all hW (by omega) (.cells #[.pointer (some ⟨pw, 0, none⟩)] 56))
  have HW := Lib.hid hW2
  have HB := Lib.hid hB
  clear hW hB hW2
  go_wp2_with fail
  refine (u32_calls (w.heap.size + 3) _ pw (w.heap.size + 3) [] 826493762 HW.out.1 HW.out.2.2 (by omega) (by omega) (by simp)).mono ?_
  rintro e w3 ⟨rfl, hW3, hL3⟩
  have hA3 := around0 HB.out hpr (by simpa using hW3) hL3
  generalize w.heap.size + 3 = pr at hA3
  generalize w1.heap.size = wv at hA3 ⊢
  clear HW HB hW3 hL3 hpr hpw
  have hix0 : ∀ w, (Instr.index 59 (.agg #[.int .i64 0, .int .i64 0, .int .i64 0, .int .i64 0]) (.int .i64 0)).run Try.prog w = .ok (.int .i64 0) w := fun _ => by kernel_rfl
  have hix1 : ∀ w, (Instr.index 59 (.agg #[.int .i64 0, .int .i64 0, .int .i64 0, .int .i64 0]) (.int .i64 1)).run Try.prog w = .ok (.int .i64 0) w := fun _ => by kernel_rfl
  have hix2 : ∀ w, (Instr.index 59 (.agg #[.int .i64 0, .int .i64 0, .int .i64 0, .int .i64 0]) (.int .i64 2)).run Try.prog w = .ok (.int .i64 0) w := fun _ => by kernel_rfl
  have hix3 : ∀ w, (Instr.index 59 (.agg #[.int .i64 0, .int .i64 0, .int .i64 0, .int .i64 0]) (.int .i64 3)).run Try.prog w = .ok (.int .i64 0) w := fun _ => by kernel_rfl
  have k0 : w3.cell? ⟨w.heap.size, 0, none⟩ = some (.int .i64 0) := hA3.box.cell rfl
  have k1 : w3.cell? ⟨w.heap.size, 1, none⟩ = some (.int .i64 0) := hA3.box.cell rfl
  have k2 : w3.cell? ⟨w.heap.size, 2, none⟩ = some (.int .i64 0) := hA3.box.cell rfl
  have k3 : w3.cell? ⟨w.heap.size, 3, none⟩ = some (.int .i64 0) := hA3.box.cell rfl
  have v3 : w3.cell? ⟨wv, 0, none⟩ = some (.pointer (some ⟨pw, 0, none⟩)) := hA3.var.cell rfl
  go_wp2_with fail
  refine wp_loop_rounds 5 ?_
  rw [rounds_succ]
  go_wp2_with fail
  refine (number_b (w.heap.size + 3) _ pw pr _ hA3.bytes hA3.size (by omega)).mono ?_
  rintro e w4 ⟨rfl, hb, hl⟩
  have hA4 := hA3.next hb hl
  have v4 : w4.cell? ⟨wv, 0, none⟩ = some (.pointer (some ⟨pw, 0, none⟩)) := hA4.var.cell rfl
  clear hb hl hA3 v3 k0 k1 k2 k3
  go_wp2_with fail
  rw [rounds_succ]
  go_wp2_with fail
  refine (number_b (w.heap.size + 3) _ pw pr _ hA4.bytes hA4.size (by omega)).mono ?_
  rintro e w5 ⟨rfl, hb, hl⟩
  have hA5 := hA4.next hb hl
  have v5 : w5.cell? ⟨wv, 0, none⟩ = some (.pointer (some ⟨pw, 0, none⟩)) := hA5.var.cell rfl
  clear hb hl hA4 v4
  go_wp2_with fail
  rw [rounds_succ]
  go_wp2_with fail
  refine (number_b (w.heap.size + 3) _ pw pr _ hA5.bytes hA5.size (by omega)).mono ?_
  rintro e w6 ⟨rfl, hb, hl⟩
  have hA6 := hA5.next hb hl
  have v6 : w6.cell? ⟨wv, 0, none⟩ = some (.pointer (some ⟨pw, 0, none⟩)) := hA6.var.cell rfl
  clear hb hl hA5 v5
  go_wp2_with fail
  rw [rounds_succ]
  go_wp2_with fail
  refine (number_b (w.heap.size + 3) _ pw pr _ hA6.bytes hA6.size (by omega)).mono ?_
  rintro e w7 ⟨rfl, hb, hl⟩
  have hA7 := hA6.next hb hl
  have v7 : w7.cell? ⟨wv, 0, none⟩ = some (.pointer (some ⟨pw, 0, none⟩)) := hA7.var.cell rfl
  clear hb hl hA6 v6
  go_wp2_with fail
  rw [rounds_succ]
  have k4 : w7.cell? ⟨w.heap.size, 4, none⟩ = some (.slice none 0 0) := hA7.box.cell rfl
  go_wp2_with fail
  refine (putW_b (w.heap.size + 3) _ pw pr _ _ hA7.bytes hA7.size (by omega)).mono ?_
  rintro e w8 ⟨rfl, hb, hl⟩
  have hA8 := hA7.next hb hl
  have v8 : w8.cell? ⟨wv, 0, none⟩ = some (.pointer (some ⟨pw, 0, none⟩)) := hA8.var.cell rfl
  have k5 : w8.cell? ⟨w.heap.size, 5, none⟩ = some (.slice none 0 0) := hA8.box.cell rfl
  clear hb hl hA7 v7 k4
  go_wp2_with fail
  refine (putP_b (w.heap.size + 3) _ pw pr _ _ hA8.bytes hA8.size (by omega)).mono ?_
  rintro e w9 ⟨rfl, hb, hl⟩
  have hA9 := hA8.next hb hl
  have v9 : w9.cell? ⟨wv, 0, none⟩ = some (.pointer (some ⟨pw, 0, none⟩)) := hA9.var.cell rfl
  have k6 : w9.cell? ⟨w.heap.size, 6, none⟩ = some (.slice none 0 0) := hA9.box.cell rfl
  clear hb hl hA8 v8 k5
  go_wp2_with fail
  refine (putC_b (w.heap.size + 3) _ pw pr _ _ hA9.bytes hA9.size (by omega)).mono ?_
  rintro e wA ⟨rfl, hb, hl⟩
  have hAA := hA9.next hb hl
  have vA : wA.cell? ⟨wv, 0, none⟩ = some (.pointer (some ⟨pw, 0, none⟩)) := hAA.var.cell rfl
  clear hb hl hA9 v9 k6
  go_wp2_with fail
  have hput : ∀ (ts : List Value) (d : Nat) (v : Value) (ds : List Deferred), Act.put { tmps := ts.toArray, defers := ds } (some d) v = { tmps := (ts.set d v).toArray, defers := ds } := fun _ _ _ _ => by simp [Act.put]
  refine Held.region_plain 6 (fun W' => W'.cell? ⟨wv, 0, none⟩ = some (.pointer (some ⟨pw, 0, none⟩))) (by kernel_rfl) vA ?_
  refine Held.Way.take 0 (v := .pointer (some ⟨wv, 0, none⟩)) rfl (by kernel_rfl) (by kernel_rfl) (by kernel_rfl) (by kernel_rfl) (fun _ _ _ h => nomatch h.1) (.inl ⟨by rfl, ?_⟩) rfl (hput _ 41 _ _) ?_
  · intro W' h1; go_simp
  simp only [List.set_cons_zero, List.set_cons_succ]
  refine Held.Way.take 1 (v := .pointer (some ⟨pw, 0, none⟩)) rfl (by kernel_rfl) (by kernel_rfl) (by kernel_rfl) (by kernel_rfl) (fun _ _ _ h => nomatch h.1) (.inl ⟨by rfl, ?_⟩) rfl (hput _ 42 _ _) ?_
  · intro W' h1; go_simp
  simp only [List.set_cons_zero, List.set_cons_succ]
  refine Held.Way.take 2 (v := .pointer (some ⟨wv, 0, none⟩)) rfl (by kernel_rfl) (by kernel_rfl) (by kernel_rfl) (by kernel_rfl) (fun _ _ _ h => nomatch h.1) (.inl ⟨by rfl, ?_⟩) rfl (hput _ 43 _ _) ?_
  · intro W' h1; go_simp
  simp only [List.set_cons_zero, List.set_cons_succ]
  refine Held.Way.take 3 (v := .pointer (some ⟨pw, 0, none⟩)) rfl (by kernel_rfl) (by kernel_rfl) (by kernel_rfl) (by kernel_rfl) (fun _ _ _ h => nomatch h.1) (.inl ⟨by rfl, ?_⟩) rfl (hput _ 44 _ _) ?_
  · intro W' h1; go_simp
  simp only [List.set_cons_zero, List.set_cons_succ]
  have hAd := hAA.drew
  refine Held.Way.call 4 rfl (by kernel_rfl) (by rfl) (f := 34) (args := #[.pointer (some ⟨pw, 0, none⟩)]) (by go_simp) rfl (fun v => hput _ 45 v _) (fun _ => ?_)
  refine (out_b (w.heap.size + 3) _ pw pr _ hAd.bytes hAd.size (by omega)).mono ?_
  rintro e wB ⟨⟨g, rfl, hT⟩, hb, hl⟩
  have hAB := hAd.next hb hl
  have vB : wB.cell? ⟨wv, 0, none⟩ = some (.pointer (some ⟨pw, 0, none⟩)) := hAB.var.cell rfl
  refine ⟨_, rfl, fun _ => vB, ?_⟩
  rw [if_neg (by decide)]
  simp only [List.set_cons_zero, List.set_cons_succ]
  refine Held.Way.call 5 rfl (by kernel_rfl) (by rfl) (f := 33) (args := #[.slice (some ⟨g, 0, none⟩) (19 + 4) (19 + 4)]) (by go_simp) rfl (fun v => hput _ 46 v _) (fun _ => ?_)
  refine (sum_b (w.heap.size + 3) _ g 19 hT (by omega)).mono ?_
  rintro e _ ⟨⟨z, rfl, hz0, hz1⟩, rfl⟩
  refine ⟨_, rfl, fun _ => vB, ?_⟩
  rw [if_neg (by decide)]
  simp only [List.set_cons_zero, List.set_cons_succ]
  refine Held.Way.call 6 rfl (by kernel_rfl) (by rfl) (f := 25) (args := #[.pointer (some ⟨pw, 0, none⟩), .int .u32 z]) (by go_simp) rfl (fun v => hput _ 47 v _) (fun _ => ?_)
  refine (sumlay_b (w.heap.size + 3) _ pw pr _ z hAB.bytes hAB.size (by omega) hz0 hz1).mono ?_
  rintro e wC ⟨rfl, hb2, hl2⟩
  have hAC := hAB.next hb2 hl2
  have vC : wC.cell? ⟨wv, 0, none⟩ = some (.pointer (some ⟨pw, 0, none⟩)) := hAC.var.cell rfl
  refine ⟨_, rfl, fun _ => vC, ?_⟩
  rw [if_pos rfl]
  simp only [List.set_cons_zero, List.set_cons_succ]
  refine ⟨⟨rfl, ?_⟩, by kernel_rfl⟩
  clear hput hAA hAd hAB hb hl hb2 hl2 hT vA vB
  go_wp2_with fail
  refine (len_b (w.heap.size + 3) _ pw pr _ hAC.bytes).mono ?_
  rintro e _ ⟨rfl, rfl⟩
  go_wp2_with fail
  refine (out_b (w.heap.size + 3) _ pw pr _ hAC.bytes hAC.size (by omega)).mono ?_
  rintro e wD ⟨⟨g2, rfl, hT2⟩, hb3, hl3⟩
  have hAD := hAC.next hb3 hl3
  have r1 : wD.cell? ⟨w.heap.size + 1, 0, none⟩ = some (.slice none 0 0) := hAD.r1.cell rfl
  have r1' : wD.frozen? ⟨w.heap.size + 1, 0, none⟩ = false := hAD.r1.free 0
  have r2 : wD.cell? ⟨w.heap.size + 1 + 1, 0, none⟩ = some (.int .i64 0) := hAD.r2.cell rfl
  have r2' : wD.frozen? ⟨w.heap.size + 1 + 1, 0, none⟩ = false := hAD.r2.free 0
  have HT := Lib.hid hT2
  have HAD := Lib.hid hAD
  clear hb3 hl3 hAC vC hT2 hAD hix0 hix1 hix2 hix3
  go_wp2_with fail
  obtain ⟨wE, hwE⟩ : ∃ wE, (wD.setCell ⟨w.heap.size + 1, 0, none⟩ (.slice (some ⟨g2, 0, none⟩) 27 27)).setCell ⟨w.heap.size + 1 + 1, 0, none⟩ (.int .i64 0) = wE := ⟨_, rfl⟩
  have s1 : At wE (w.heap.size + 1) (.cells #[.slice (some ⟨g2, 0, none⟩) 27 27] 27 (0, 0)) := by rw [← hwE]; exact (HAD.out.r1.setCell_same 0 (.slice (some ⟨g2, 0, none⟩) 27 27)).setCell_ne (by omega) _ _
  have s2 : At wE (w.heap.size + 1 + 1) (.cells #[.int .i64 0] 28 (0, 0)) := by rw [← hwE]; exact (HAD.out.r2.setCell_ne (by omega) _ _).setCell_same 0 (.int .i64 0)
  have hb : Below w.heap.size w wE := by rw [← hwE]; exact (HAD.out.below.setCell (p := ⟨w.heap.size + 1, 0, none⟩) (by show w.heap.size ≤ w.heap.size + 1; omega) _).setCell (p := ⟨w.heap.size + 1 + 1, 0, none⟩) (by show w.heap.size ≤ w.heap.size + 1 + 1; omega) _
  have hTE : Told w.heap.size wE g2 23 := by
    obtain ⟨t, c, hA, hc, ht, hx, hg⟩ := HT.out
    refine ⟨t, c, ?_, hc, ht, hx, by omega⟩
    rw [← hwE]
    exact (hA.setCell_ne (by omega) _ _).setCell_ne (by omega) _ _
  have c1 : wE.cell? ⟨w.heap.size + 1, 0, none⟩ = some (.slice (some ⟨g2, 0, none⟩) 27 27) := s1.cell rfl
  have c2 : wE.cell? ⟨w.heap.size + 1 + 1, 0, none⟩ = some (.int .i64 0) := s2.cell rfl
  rw [hwE]
  clear hwE HT HAD s1 s2 r1 r1' r2 r2'
  refine leaves_cons (f := 23) (args := #[.pointer (some ⟨w.heap.size + 1, 0, none⟩), .pointer (some ⟨w.heap.size + 1 + 1, 0, none⟩)]) (by simp) (by simp [go_sem]) ?_
  refine (enc1_idle _ _ _).mono ?_
  rintro e u' w'' ⟨rfl, rfl, rfl⟩
  refine ⟨.tuple #[.slice (some ⟨g2, 0, none⟩) 27 27, .int .i64 0], ?_, ⟨g2, rfl, hTE⟩, hb⟩
  simp [settle, results, Try.results11, go_sem, c1, c2]

theorem head_bytes : leB 826493762 4 = [66, 75, 67, 49] := by decide

set_option maxHeartbeats 2000000 in
set_option maxRecDepth 10000 in
theorem names_calls (w : World) : Calls Try.prog 4 #[] w fun e w' => e = .returned (.bool true) ∧ Below w.heap.size w w' := by
  go_enter Try.func4, Try.ntmps4
  go_wp2_with fail
  refine (encode_calls w).mono ?_
  rintro e w1 ⟨⟨g, rfl, t, c, hA, hc, ht, -⟩, hb⟩
  have hcell : ∀ (i : Nat) (x : Int), [66, 75, 67, 49][i]? = some x → w1.cell? ⟨g, i, none⟩ = some (.int .u8 x) := by
    intro i x hx
    refine hA.cell ?_
    rw [← Array.getElem?_toList, hc, head_bytes, List.getElem?_map, List.getElem?_append_left (List.getElem?_eq_some_iff.1 hx).1, hx]; rfl
  have d0 : w1.cell? ⟨g, 0, none⟩ = some (.int .u8 66) := hcell 0 66 rfl
  have d1 : w1.cell? ⟨g, 1, none⟩ = some (.int .u8 75) := hcell 1 75 rfl
  have d2 : w1.cell? ⟨g, 2, none⟩ = some (.int .u8 67) := hcell 2 67 rfl
  have d3 : w1.cell? ⟨g, 3, none⟩ = some (.int .u8 49) := hcell 3 49 rfl
  have hconv : (convert 27 9 (.slice (some ⟨g, 0, none⟩) 4 27)).run Try.prog w1 = .ok (.string ⟨#[66, 75, 67, 49]⟩) w1 := by
    refine run_convert_bytes_back (P := Try.prog) w1 27 9 5 ⟨g, 0, none⟩ 27 [66, 75, 67, 49] Try.underlying27 Try.underlying5 Try.underlying9 (fun j hj => ?_)
    have hj4 : j < 4 := by simpa using hj
    obtain rfl | rfl | rfl | rfl : j = 0 ∨ j = 1 ∨ j = 2 ∨ j = 3 := by omega
    · exact d0
    · exact d1
    · exact d2
    · exact d3
  clear hcell hA hc ht
  go_wp2_with fail
  go_ret
  exact ⟨rfl, hb⟩
end Go.Proofs.Ytmmkacfeocnblaa.Wr
