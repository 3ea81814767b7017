/- cache: Touch and Holds, each walked once. No conditions. -/
import Derived.Test.YtigaldgbkeoilaaCaA
namespace Go.Proofs.Ytigaldgbkeoilaa.Ca
open Go.RowKit Go.Proofs.Ytigaldgbkeoilaa.Mem Go.Proofs.Ytigaldgbkeoilaa.Sh
set_option linter.unusedSimpArgs false
set_option linter.unusedVariables false

theorem put_same (L : Nat → List Int) (i : Nat) (l : List Int) : put L i l i = l := by simp [put]
theorem put_ne (L : Nat → List Int) {i j : Nat} (l : List Int) (h : j ≠ i) : put L i l j = L j := by simp [put, h]

/-- One set has turned. -/
theorem CacheIs.turned {w w' : World} {c : Nat} {F : Nat → Prop} {L : Nat → List Int} {ss : Nat → Nat} {G : Nat → Nat → Prop} {i : Nat} {l : List Int}
    (hp : Part w c 4 ss G L) (hc : F c) (hF : ∀ i b, i < 4 → G i b → F b) (hB : ∀ b, F b → b < w.heap.size) (hi : i < 4) (hl : l.length ≤ 2)
    (hk : Keeps (G i) w w') (hh : Held w' (ss i) (More (G i) w w') 2 (vs l)) : CacheIs w' c (More F w w') (put L i l) := by
  refine ⟨ss, fun j b => if j = i then More (G i) w w' b else G j b, ⟨hk.get hp.head (fun x => (hp.own i c hi x).1 rfl), ?_, ?_, ?_, ?_⟩, .inl hc, ?_, ?_⟩
  · intro j hj
    by_cases e : j = i
    · subst e; simp only [if_true, put_same]; exact hh
    · simp only [if_neg e, put_ne _ _ e]; exact (hp.held j hj).keeps hk (fun b hb => hp.apart j i b hj hi e hb)
  · intro j hj
    by_cases e : j = i
    · subst e; rw [put_same]; exact hl
    · rw [put_ne _ _ e]; exact hp.small j hj
  · intro j j' b hj hj' hne h1 h2
    by_cases e : j = i
    · subst e
      have e2 : ¬ j' = j := fun x => hne x.symm
      simp only [if_true, if_neg e2] at h1 h2
      rcases h1 with h1 | h1
      · exact hp.apart j j' b hj hj' hne h1 h2
      · have := (hp.own j' b hj' h2).2; omega
    · simp only [if_neg e] at h1
      by_cases e' : j' = i
      · subst e'
        simp only [if_true] at h2
        rcases h2 with h2 | h2
        · exact hp.apart j j' b hj hj' hne h1 h2
        · have := (hp.own j b hj h1).2; omega
      · simp only [if_neg e'] at h2
        exact hp.apart j j' b hj hj' hne h1 h2
  · intro j b hj hb
    by_cases e : j = i
    · subst e
      simp only [if_true] at hb
      rcases hb with hb | hb
      · have := hp.own j b hj hb; exact ⟨this.1, Nat.lt_of_lt_of_le this.2 hk.size⟩
      · have := hB c hc; omega
    · simp only [if_neg e] at hb
      have := hp.own j b hj hb; exact ⟨this.1, Nat.lt_of_lt_of_le this.2 hk.size⟩
  · intro j b hj hb
    by_cases e : j = i
    · subst e
      simp only [if_true] at hb
      rcases hb with hb | hb
      · exact .inl (hF j b hj hb)
      · exact .inr hb
    · simp only [if_neg e] at hb; exact .inl (hF j b hj hb)
  · intro b hb
    rcases hb with hb | hb
    · exact Nat.lt_of_lt_of_le (hB b hb) hk.size
    · exact hb.2

theorem vs_part {l : List Int} {k : Int} (h : k ∈ l) (hn : l.Nodup) : ∃ xs ys, l = xs ++ k :: ys ∧ vs l = vs xs ++ (k, ()) :: vs ys ∧ touch l k = xs ++ ys ++ [k] := by
  obtain ⟨xs, ys, rfl⟩ := List.append_of_mem h
  refine ⟨xs, ys, rfl, by simp [vs], ?_⟩
  unfold touch
  rw [if_pos h]
  congr 1
  rw [List.nodup_append, List.nodup_cons] at hn
  rw [List.filter_append, List.filter_cons]
  have e1 : xs.filter (· ≠ k) = xs := List.filter_eq_self.2 (fun a ha => by simpa using hn.2.2 a ha k (by simp))
  have e2 : ys.filter (· ≠ k) = ys := List.filter_eq_self.2 (fun a ha => by simp; rintro rfl; exact hn.2.1.1 ha)
  rw [e1, e2]; simp

theorem Part.nodup {w : World} {c n : Nat} {ss : Nat → Nat} {G : Nat → Nat → Prop} {L : Nat → List Int} (h : Part w c n ss G L) {i : Nat} (hi : i < n) : (L i).Nodup := by
  have := (h.held i hi).nodup; rwa [vs_keys] at this
theorem touch_len {l : List Int} {k : Int} (h : l.length ≤ 2) (hn : l.Nodup) : (touch l k).length ≤ 2 := by
  by_cases hk : k ∈ l
  · obtain ⟨xs, ys, rfl, -, e⟩ := vs_part hk hn
    rw [e]; simp at h ⊢; omega
  · unfold touch; rw [if_neg hk]
    split
    · simp; omega
    · simp; omega

set_option maxHeartbeats 1000000 in
theorem touch_hit (w : World) (c : Nat) (F : Nat → Prop) (L : Nat → List Int) (a : Int) (h : CacheIs w c F L) (h0 : 0 ≤ a) (h1 : a < 16384) (hin : a / 4 ∈ L (a / 4 % 4).toNat) :
    Calls Try.prog 11 #[.pointer (some ⟨c, 0, none⟩), .int .i64 a] w fun e w' => e = .returned (.tuple #[.int .i64 1, .int .i64 0]) ∧
      CacheIs w' c (More F w w') (put L (a / 4 % 4).toNat (touch (L (a / 4 % 4).toNat) (a / 4))) ∧ Keeps F w w' := by
  obtain ⟨ss, G, hp, hc, hF, hB⟩ := h
  have hq : 0 ≤ a / 4 := by omega
  have hi : (a / 4 % 4).toNat < 4 := by omega
  have hcell : w.cell? ⟨c, (a / 4 % 4).toNat, none⟩ = some (.pointer (some ⟨ss (a / 4 % 4).toNat, 0, none⟩)) := hp.head.cell (four_get ss _ hi)
  obtain ⟨xs, ys, hl, hv, ht⟩ := vs_part hin (hp.nodup hi)
  have hh := hp.held _ hi
  rw [hv] at hh
  have HT := Lib.hid ht
  have HL := Lib.hid hl
  clear ht hl hv
  go_enter Try.func11, Try.ntmps11
  go_wp2_with fail
  refine (line_yes a w h0 h1).mono ?_
  rintro e _ ⟨rfl, rfl⟩
  go_wp2_with fail
  refine (hget_yes w _ _ _ _ _ _ _ hh).mono ?_
  rintro e w1 ⟨rfl, hh1, hk1⟩
  clear hh hcell
  go_wp2
  go_ret2
  refine ⟨rfl, ?_, (hk1.alloc _).mono fun b _ hb => hF _ b hi hb⟩
  refine CacheIs.turned hp hc hF hB hi (touch_len (hp.small _ hi) (hp.nodup hi)) (hk1.alloc _) ?_
  rw [HT.out]
  have := (hh1.keeps ((Keeps.refl (fun _ => False) _).alloc (.cells #[] 58)) (fun _ _ => id)).mono (G := More (G (a / 4 % 4).toNat) w (w1.alloc (.cells #[] 58))) (fun b hb => .inl hb)
  simpa [vs] using this

set_option maxHeartbeats 1000000 in
theorem touch_miss (w : World) (c : Nat) (F : Nat → Prop) (L : Nat → List Int) (a : Int) (h : CacheIs w c F L) (h0 : 0 ≤ a) (h1 : a < 16384) (hin : a / 4 ∉ L (a / 4 % 4).toNat) :
    Calls Try.prog 11 #[.pointer (some ⟨c, 0, none⟩), .int .i64 a] w fun e w' => e = .returned (.tuple #[.int .i64 7, .int .i64 0]) ∧
      CacheIs w' c (More F w w') (put L (a / 4 % 4).toNat (touch (L (a / 4 % 4).toNat) (a / 4))) ∧ Keeps F w w' := by
  obtain ⟨ss, G, hp, hc, hF, hB⟩ := h
  have hq : 0 ≤ a / 4 := by omega
  have hi : (a / 4 % 4).toNat < 4 := by omega
  have hcell : w.cell? ⟨c, (a / 4 % 4).toNat, none⟩ = some (.pointer (some ⟨ss (a / 4 % 4).toNat, 0, none⟩)) := hp.head.cell (four_get ss _ hi)
  have hh := hp.held _ hi
  have hn : a / 4 ∉ (vs (L (a / 4 % 4).toNat)).map (·.1) := by rw [vs_keys]; exact hin
  have key : ∀ w1, Keeps (fun _ => False) w w1 → Held w1 (ss (a / 4 % 4).toNat) (G (a / 4 % 4).toNat) 2 (vs (L (a / 4 % 4).toNat)) →
      Calls Try.prog 27 #[.pointer (some ⟨ss (a / 4 % 4).toNat, 0, none⟩), .int .i64 (a / 4), (Value.agg #[])] w1 fun e w' => (∃ x y, e = .returned (.tuple #[.int .i64 x, .bool y])) ∧
        CacheIs w' c (More F w w') (put L (a / 4 % 4).toNat (touch (L (a / 4 % 4).toNat) (a / 4))) ∧ Keeps F w w' := by
    intro w1 hk1 hh1
    by_cases hf : (L (a / 4 % 4).toNat).length = 2
    · obtain ⟨x, l, hl⟩ : ∃ x l, L (a / 4 % 4).toNat = x :: l := by
        cases e : L (a / 4 % 4).toNat with
        | nil => rw [e] at hf; simp at hf
        | cons x l => exact ⟨x, l, rfl⟩
      have e1 : vs (L (a / 4 % 4).toNat) = (x, ()) :: vs l := by rw [hl]; rfl
      rw [e1] at hh1 hn
      refine (hput_full w1 _ _ _ _ _ _ () hh1 hn (by rw [← e1, vs_len, hf]; rfl)).mono ?_
      rintro e w' ⟨rfl, hh2, hk2⟩
      have hkk := (hk1.mono (T := G (a / 4 % 4).toNat) (fun _ _ x => x.elim)).trans hk2 (fun _ _ x => x)
      refine ⟨⟨_, _, rfl⟩, CacheIs.turned hp hc hF hB hi (touch_len (hp.small _ hi) (hp.nodup hi)) hkk ?_, hkk.mono fun b _ hb => hF _ b hi hb⟩
      unfold touch
      rw [if_neg hin, if_pos hf, hl]
      have hsz := hk1.size
      have := hh2.mono (G := More (G (a / 4 % 4).toNat) w w') (fun b hb => hb.elim .inl (fun x => .inr (by omega)))
      simpa [vs] using this
    · refine (hput_new w1 _ _ _ _ _ () hh1 hn (by rw [vs_len]; omega)).mono ?_
      rintro e w' ⟨rfl, hh2, hk2⟩
      have hkk := (hk1.mono (T := G (a / 4 % 4).toNat) (fun _ _ x => x.elim)).trans hk2 (fun _ _ x => x)
      refine ⟨⟨_, _, rfl⟩, CacheIs.turned hp hc hF hB hi (touch_len (hp.small _ hi) (hp.nodup hi)) hkk ?_, hkk.mono fun b _ hb => hF _ b hi hb⟩
      unfold touch
      rw [if_neg hin, if_neg hf]
      have hsz := hk1.size
      have := hh2.mono (G := More (G (a / 4 % 4).toNat) w w') (fun b hb => hb.elim .inl (fun x => .inr (by omega)))
      simpa [vs] using this
  have KEY := Lib.hid key
  clear key
  go_enter Try.func11, Try.ntmps11
  go_wp2_with fail
  refine (line_yes a w h0 h1).mono ?_
  rintro e _ ⟨rfl, rfl⟩
  go_wp2_with fail
  refine (hget_no w _ _ _ _ _ hh hn).mono ?_
  rintro e w1 ⟨rfl, hk1⟩
  have hk1a : Keeps (fun _ => False) w (w1.alloc (.cells #[] 58)) := hk1.alloc _
  have hh1 := hh.keeps hk1a (fun _ _ => id)
  clear hcell hn
  go_wp2_with fail
  refine (KEY.out _ hk1a hh1).mono ?_
  rintro e w2 ⟨⟨x, y, rfl⟩, hC, hK⟩
  clear hh hh1 hk1 hk1a KEY
  go_wp2
  go_ret2
  exact ⟨rfl, hC, hK⟩

/-- Touch of a word of the memory. -/
theorem touch_any (w : World) (c : Nat) (F : Nat → Prop) (L : Nat → List Int) (a : Int) (h : CacheIs w c F L) (h0 : 0 ≤ a) (h1 : a < 16384) :
    Calls Try.prog 11 #[.pointer (some ⟨c, 0, none⟩), .int .i64 a] w fun e w' => e = .returned (.tuple #[.int .i64 (cost (L (a / 4 % 4).toNat) (a / 4)), .int .i64 0]) ∧
      CacheIs w' c (More F w w') (put L (a / 4 % 4).toNat (touch (L (a / 4 % 4).toNat) (a / 4))) ∧ Keeps F w w' := by
  unfold cost
  by_cases hin : a / 4 ∈ L (a / 4 % 4).toNat
  · rw [if_pos hin]; exact touch_hit w c F L a h h0 h1 hin
  · rw [if_neg hin]; exact touch_miss w c F L a h h0 h1 hin
end Go.Proofs.Ytigaldgbkeoilaa.Ca
