/- tlb: Put of a leaf. No conditions. -/
import Derived.Test.YtbjcamafaolgiaaTlA
import Derived.Test.YtbjcamafaolgiaaHeld
namespace Go.Proofs.Ytbjcamafaolgiaa.Tl
open Go.RowKit Go.Proofs.Ytbjcamafaolgiaa.Mem Go.Proofs.Ytbjcamafaolgiaa.Sh
set_option linter.unusedSimpArgs false
set_option linter.unusedVariables false

theorem TlbIs.keeps {w w' : World} {t : Nat} {F S : Nat → Prop} {L : List (Int × V)} (h : TlbIs w t F L) (hk : Keeps S w w') (hS : ∀ b, F b → ¬ S b) : TlbIs w' t F L := by
  obtain ⟨s, G, hh, hd, hl, hGt, hF, hGF, hB⟩ := h
  exact ⟨s, G, hk.get hh (hS t hF), hd.keeps hk (fun b hb => hS b (hGF b hb)), hl, hGt, hF, hGF, fun b hb => Nat.lt_of_lt_of_le (hB b hb) hk.size⟩
theorem TlbIs.mono {w : World} {t : Nat} {F F' : Nat → Prop} {L : List (Int × V)} (h : TlbIs w t F L) (hF : ∀ b, F b → F' b) (hB : ∀ b, F' b → b < w.heap.size) : TlbIs w t F' L := by
  obtain ⟨s, G, hh, hd, hl, hGt, hFt, hGF, -⟩ := h
  exact ⟨s, G, hh, hd, hl, hGt, hF t hFt, fun b hb => hF b (hGF b hb), hB⟩
theorem TlbIs.bound {w : World} {t : Nat} {F : Nat → Prop} {L : List (Int × V)} (h : TlbIs w t F L) : ∀ b, F b → b < w.heap.size := by
  obtain ⟨s, G, hh, hd, hl, hGt, hF, hGF, hB⟩ := h; exact hB

def PutPost (w : World) (t : Nat) (F : Nat → Prop) (L : List (Int × V)) (v : V) (e : Ending) (w' : World) : Prop :=
  e = .returned (.int .i64 (if fine v then 0 else 80)) ∧ TlbIs w' t (More F w w') (if fine v then laidOn L v.1 v else L) ∧ Keeps F w w'

set_option maxHeartbeats 1000000 in
theorem tput_calls (w : World) (t : Nat) (F : Nat → Prop) (L : List (Int × V)) (v : V) (h : TlbIs w t F L) : Calls Try.prog 8 #[.pointer (some ⟨t, 0, none⟩), leafV v] w (PutPost w t F L v) := by
  go_enter Try.func8, Try.ntmps8
  go_wp2_with fail
  refine (maybe_calls _ v).mono ?_
  rintro e w2 ⟨rfl, hk2⟩
  have hk : Keeps (fun _ => False) w w2 := ((Keeps.refl _ w).alloc _).trans hk2 (fun _ _ x => x.elim)
  have hbox := hk2.get (At.new w (.cells #[.int .i64 v.1, .int .i64 v.2.1, .int .i64 v.2.2] 26 (0, 0))) id
  have hT := h.keeps hk (fun _ _ => id)
  have hz := hk.size
  cases hf : fine v with
  | false =>
    go_wp2_with fail
    go_ret
    refine ⟨by simp [hf], ?_, hk.mono (fun _ _ x => x.elim)⟩
    simp only [hf, Bool.false_eq_true, if_false]
    exact hT.mono (fun b hb => .inl hb) (fun b hb => hb.elim (fun x => by have := h.bound b x; omega) (fun x => x.2))
  | true =>
    obtain ⟨s, G, hh, hd, hl, hGt, hF, hGF, hB⟩ := hT
    have q0 : w2.cell? ⟨t, 0, none⟩ = some (.pointer (some ⟨s, 0, none⟩)) := hh.cell rfl
    have q1 : w2.cell? ⟨w.heap.size, 0, none⟩ = some (.int .i64 v.1) := hbox.cell rfl
    have q2 : w2.cell? ⟨w.heap.size, 1, none⟩ = some (.int .i64 v.2.1) := hbox.cell rfl
    have q3 : w2.cell? ⟨w.heap.size, 2, none⟩ = some (.int .i64 v.2.2) := hbox.cell rfl
    have HH := Lib.hid (And.intro hh (And.intro hd hl))
    clear hh hd hl hbox
    go_wp2_with fail
    have hput : ∀ (ts : List Value) (d : Nat) (v : Value) (ds : List Deferred), Act.put { tmps := ts.toArray, defers := ds } (some d) v = { tmps := (ts.set d v).toArray, defers := ds } := fun _ _ _ _ => by simp [Act.put]
    refine Held.region_plain 7 (fun W' => W'.cell? ⟨t, 0, none⟩ = some (.pointer (some ⟨s, 0, none⟩)) ∧ W'.cell? ⟨w.heap.size, 0, none⟩ = some (.int .i64 v.1) ∧ W'.cell? ⟨w.heap.size, 1, none⟩ = some (.int .i64 v.2.1) ∧ W'.cell? ⟨w.heap.size, 2, none⟩ = some (.int .i64 v.2.2)) (by kernel_rfl) ⟨q0, q1, q2, q3⟩ ?_
    refine Held.Way.take 0 (v := .pointer (some ⟨t, 0, none⟩)) rfl (by kernel_rfl) (by kernel_rfl) (by kernel_rfl) (by kernel_rfl) (fun _ _ _ h => nomatch h.1) (.inl ⟨by rfl, ?_⟩) rfl (hput _ 10 _ _) ?_
    · rintro W' ⟨h1, h2, h3, h4⟩; go_simp
    simp only [List.set_cons_zero, List.set_cons_succ]
    refine Held.Way.take 1 (v := .pointer (some ⟨t, 0, none⟩)) rfl (by kernel_rfl) (by kernel_rfl) (by kernel_rfl) (by kernel_rfl) (fun _ _ _ h => nomatch h.1) (.inl ⟨by rfl, ?_⟩) rfl (hput _ 11 _ _) ?_
    · rintro W' ⟨h1, h2, h3, h4⟩; go_simp
    simp only [List.set_cons_zero, List.set_cons_succ]
    refine Held.Way.take 2 (v := .pointer (some ⟨t, 0, none⟩)) rfl (by kernel_rfl) (by kernel_rfl) (by kernel_rfl) (by kernel_rfl) (fun _ _ _ h => nomatch h.1) (.inl ⟨by rfl, ?_⟩) rfl (hput _ 12 _ _) ?_
    · rintro W' ⟨h1, h2, h3, h4⟩; go_simp
    simp only [List.set_cons_zero, List.set_cons_succ]
    refine Held.Way.take 3 (v := .pointer (some ⟨s, 0, none⟩)) rfl (by kernel_rfl) (by kernel_rfl) (by kernel_rfl) (by kernel_rfl) (fun _ _ _ h => nomatch h.1) (.inl ⟨by rfl, ?_⟩) rfl (hput _ 13 _ _) ?_
    · rintro W' ⟨h1, h2, h3, h4⟩; go_simp
    simp only [List.set_cons_zero, List.set_cons_succ]
    refine Held.Way.take 4 (v := .pointer (some ⟨w.heap.size, 0, none⟩)) rfl (by kernel_rfl) (by kernel_rfl) (by kernel_rfl) (by kernel_rfl) (fun _ _ _ h => nomatch h.1) (.inl ⟨by rfl, ?_⟩) rfl (hput _ 14 _ _) ?_
    · rintro W' ⟨h1, h2, h3, h4⟩; go_simp
    simp only [List.set_cons_zero, List.set_cons_succ]
    refine Held.Way.take 5 (v := .int .i64 v.1) rfl (by kernel_rfl) (by kernel_rfl) (by kernel_rfl) (by kernel_rfl) (fun _ _ _ h => nomatch h.1) (.inl ⟨by rfl, ?_⟩) rfl (hput _ 15 _ _) ?_
    · rintro W' ⟨h1, h2, h3, h4⟩; go_simp
    simp only [List.set_cons_zero, List.set_cons_succ]
    refine Held.Way.take 6 (v := leafV v) rfl (by kernel_rfl) (by kernel_rfl) (by kernel_rfl) (by kernel_rfl) (fun _ _ _ h => nomatch h.1) (.inl ⟨by rfl, ?_⟩) rfl (hput _ 16 _ _) ?_
    · rintro W' ⟨h1, h2, h3, h4⟩; go_simp
    simp only [List.set_cons_zero, List.set_cons_succ]
    refine Held.Way.call 7 rfl (by kernel_rfl) (by rfl) (f := 19) (args := #[.pointer (some ⟨s, 0, none⟩), .int .i64 v.1, leafV v]) (by go_simp) rfl (fun u => hput _ 17 u _) (fun _ => ?_)
    have hkd : Keeps (fun _ => False) w2 w2.drew := (Keeps.refl _ w2).drew
    refine (hput_any w2.drew s G L v.1 v (HH.out.2.1.keeps hkd (fun _ _ => id)) HH.out.2.2).mono ?_
    rintro e w3 ⟨⟨x, y, rfl⟩, hd3, hl3, hk3⟩
    have hk3' : Keeps G w2 w3 := Keeps.of_drew hk3
    refine ⟨_, rfl, fun h => absurd rfl h, ?_⟩
    rw [if_pos rfl]
    simp only [List.set_cons_zero, List.set_cons_succ]
    refine ⟨⟨rfl, ?_⟩, by kernel_rfl⟩
    go_wp2_with fail
    go_ret
    have hz3 := hk3'.size
    refine ⟨by simp [hf], ?_, (hk.mono (T := F) (fun _ _ x => x.elim)).trans hk3' (fun i _ x => hGF i x)⟩
    simp only [hf, if_true]
    refine ⟨s, More G w2.drew w3, hk3'.get HH.out.1 hGt, hd3, hl3, fun x => x.elim hGt (fun y => by have := hB t hF; have h1 : w2.heap.size ≤ t := y.1; omega), .inl hF, fun b hb => hb.elim (fun x => .inl (hGF b x)) (fun x => .inr ⟨by have h1 : w2.heap.size ≤ b := x.1; omega, x.2⟩), fun b hb => hb.elim (fun x => by have := h.bound b x; omega) (fun x => x.2)⟩
end Go.Proofs.Ytbjcamafaolgiaa.Tl
