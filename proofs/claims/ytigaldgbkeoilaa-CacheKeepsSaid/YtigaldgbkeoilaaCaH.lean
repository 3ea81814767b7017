/- cache: fit, Flush, Restore (of lists that may be). No conditions. -/
import Derived.Test.YtigaldgbkeoilaaCaG
namespace Go.Proofs.Ytigaldgbkeoilaa.Ca
open Go.RowKit Go.Proofs.Ytigaldgbkeoilaa.Mem Go.Proofs.Ytigaldgbkeoilaa.Sh Go.Proofs.Ytigaldgbkeoilaa.Rng
set_option linter.unusedSimpArgs false
set_option linter.unusedVariables false

theorem fit_yes (w : World) (A : Nat → Prop) (i : Nat) (v : Value) (x : List Int) (h : IntsAt w A v x) (h2 : x.length ≤ 2) (hn : x.Nodup) (hg : ∀ u ∈ x, 0 ≤ u ∧ u < 4096 ∧ u % 4 = i) :
    Calls Try.prog 30 #[.int .i64 i, v] w fun e w' => e = .returned (.bool true) ∧ w = w' := by
  obtain ⟨a, cap, rfl, ⟨hl, hcap⟩, hc⟩ := id h
  have hle : ¬ (2 : Int) < (x.length : Int) := by omega
  go_enter Try.func30, Try.ntmps30
  go_wp2
  go_loopg [14] x.length (fun g j wr => ∃ k : Nat, g = x.length - k ∧ k ≤ x.length ∧ j = .int .i64 k ∧ w = wr)
  case atStart => exact ⟨0, rfl, by omega, rfl, rfl⟩
  case round =>
    obtain ⟨k, rfl, hk, rfl, rfl⟩ := hrel
    by_cases hlt : k < x.length
    · obtain ⟨u, hu⟩ : ∃ u, x[k]? = some u := ⟨_, List.getElem?_eq_getElem hlt⟩
      obtain ⟨b, off, rfl, -, q⟩ := hc k u hu
      obtain ⟨g0, g1, g2⟩ := hg u (List.mem_of_getElem? hu)
      have hlt' : (k : Int) < (x.length : Int) := by omega
      have d0 : ¬ u < 0 := by omega
      have d1 : ¬ (4096 : Int) ≤ u := by omega
      have d1' : decide ((4096 : Int) ≤ u) = false := decide_eq_false d1
      have d0' : decide (u < 0) = false := decide_eq_false d0
      have d2 : (u.tmod 4) = (i : Int) := by rw [Int.tmod_eq_emod_of_nonneg g0]; exact g2
      have d3 : (u.tmod 4 != (i : Int)) = false := by simp [d2]
      have hkc : (k : Int) ≤ (cap : Int) := by omega
      go_wp2
      clear hlt hlt'
      go_loopg [35] k (fun g j wr => ∃ m : Nat, g = k - m ∧ m ≤ k ∧ j = .int .i64 m ∧ w = wr)
      case atStart => exact ⟨0, rfl, by omega, rfl, rfl⟩
      case round =>
        obtain ⟨m, rfl, hm, rfl, rfl⟩ := hrel
        by_cases hlt : m < k
        · obtain ⟨y, hy⟩ : ∃ y, x[m]? = some y := ⟨_, List.getElem?_eq_getElem (by have := (List.getElem?_eq_some_iff.1 hu).1; omega)⟩
          obtain ⟨_, _, e, -, q1⟩ := hc m y hy
          cases e
          have hne : (u == y) = false := by
            rw [beq_eq_false_iff_ne]
            rintro rfl
            have := (List.getElem?_inj (by have := (List.getElem?_eq_some_iff.1 hu).1; omega) hn).1 (hy.trans hu.symm)
            omega
          have hlt' : (m : Int) < (k : Int) := by omega
          go_wp2
          go_roundg (k - (m + 1))
          case measure => omega
          case rel => exact ⟨m + 1, rfl, by omega, rfl, rfl⟩
        · have hn : ¬ (m : Int) < (k : Int) := by omega
          go_wp2
          go_roundg (x.length - (k + 1))
          case measure => have := (List.getElem?_eq_some_iff.1 hu).1; omega
          case rel => exact ⟨k + 1, rfl, by have := (List.getElem?_eq_some_iff.1 hu).1; omega, rfl, rfl⟩
    · have hn : ¬ (k : Int) < (x.length : Int) := by omega
      go_wp2
      go_ret
      exact ⟨rfl, rfl⟩

theorem Part.clear {w w' : World} {c : Nat} {L : Nat → List Int} {ss : Nat → Nat} {G : Nat → Nat → Prop} {i : Nat} (hp : Part w c 4 ss G L) (hi : i < 4)
    (hk : Keeps (G i) w w') (hz : w'.heap.size = w.heap.size) (hh : Held w' (ss i) (G i) 2 []) : Part w' c 4 ss G (put L i []) := by
  refine ⟨hk.get hp.head (fun x => (hp.own i c hi x).1 rfl), fun j hj => ?_, fun j hj => ?_, hp.apart, fun j b hj hb => by rw [hz]; exact hp.own j b hj hb⟩
  · by_cases e : j = i
    · subst e; rw [put_same]; exact hh
    · rw [put_ne _ _ e]; exact (hp.held j hj).keeps hk (fun b hb => hp.apart j i b hj hi e hb)
  · by_cases e : j = i
    · subst e; rw [put_same]; simp
    · rw [put_ne _ _ e]; exact hp.small j hj

theorem Part.congr {w : World} {c n : Nat} {L L' : Nat → List Int} {ss : Nat → Nat} {G : Nat → Nat → Prop} (h : Part w c n ss G L) (e : ∀ i, i < n → L i = L' i) : Part w c n ss G L' :=
  ⟨h.head, fun i hi => by rw [← e i hi]; exact h.held i hi, fun i hi => by rw [← e i hi]; exact h.small i hi, h.apart, h.own⟩

theorem CacheIs.congr {w : World} {c : Nat} {F : Nat → Prop} {L L' : Nat → List Int} (h : CacheIs w c F L) (e : ∀ i, i < 4 → L i = L' i) : CacheIs w c F L' := by
  obtain ⟨ss, G, hp, hr⟩ := h; exact ⟨ss, G, hp.congr e, hr⟩

set_option maxHeartbeats 1000000 in
theorem flush_calls (w : World) (c : Nat) (F : Nat → Prop) (L : Nat → List Int) (h : CacheIs w c F L) :
    Calls Try.prog 31 #[.pointer (some ⟨c, 0, none⟩)] w fun e w' => e = .returned (.tuple #[]) ∧ CacheIs w' c F (fun _ => []) ∧ Keeps F w w' ∧ w'.heap.size = w.heap.size := by
  obtain ⟨ss, G, hp, hc, hF, hB⟩ := h
  have c0 : w.cell? ⟨c, 0, none⟩ = some (.pointer (some ⟨ss 0, 0, none⟩)) := hp.head.cell rfl
  have c1 : w.cell? ⟨c, 1, none⟩ = some (.pointer (some ⟨ss 1, 0, none⟩)) := hp.head.cell rfl
  have c2 : w.cell? ⟨c, 2, none⟩ = some (.pointer (some ⟨ss 2, 0, none⟩)) := hp.head.cell rfl
  have c3 : w.cell? ⟨c, 3, none⟩ = some (.pointer (some ⟨ss 3, 0, none⟩)) := hp.head.cell rfl
  go_enter Try.func31, Try.ntmps31
  go_wp2
  go_loopg [10] 4 (fun g i wr => ∃ k : Nat, g = 4 - k ∧ k ≤ 4 ∧ i = .int .i64 k ∧ Part wr c 4 ss G (fun j => if j < k then [] else L j) ∧ Keeps F w wr ∧ wr.heap.size = w.heap.size)
  case atStart => exact ⟨0, rfl, by omega, rfl, hp.congr (fun i hi => by simp), Keeps.refl _ _, rfl⟩
  case round =>
    obtain ⟨k, rfl, hk, rfl, hP, hK, hz⟩ := hrel
    by_cases hlt : k < 4
    · have hix := run_index ss k hlt
      go_wp2_with fail
      refine (hclear wr (ss k) (G k) 2 _ (hP.held k hlt)).mono ?_
      rintro e w1 ⟨rfl, hh1, hk1, hz1⟩
      have hP1 := hP.clear hlt hk1 hz1 hh1
      have hK1 : Keeps F w w1 := hK.trans (hk1.mono fun b _ hb => hF k b hlt hb) (fun _ _ x => x)
      go_wp2_with fail
      go_roundg (4 - (k + 1))
      case measure => omega
      case rel =>
        refine ⟨k + 1, rfl, by omega, rfl, hP1.congr (fun i hi => ?_), hK1, hz1.trans hz⟩
        unfold put
        by_cases e : i = k
        · subst e; simp
        · simp only [if_neg e]
          by_cases e2 : i < k
          · rw [if_pos e2, if_pos (by omega)]
          · rw [if_neg e2, if_neg (by omega)]
    · have h4 : k = 4 := by omega
      subst h4
      go_wp2
      go_end0
      exact ⟨rfl, ⟨ss, G, hP.congr (fun i hi => by simp [hi]), hc, hF, fun b hb => by rw [hz]; exact hB b hb⟩, hK, hz⟩

def upto (X : Nat → List Int) (i m : Nat) : Nat → List Int := fun j => if j < i then X j else if j = i then (X i).take m else []

/-- Part of the lists has been put. -/
def Filling (w wr : World) (c : Nat) (F : Nat → Prop) (L : Nat → List Int) : Prop :=
  ∃ F', CacheIs wr c F' L ∧ (∀ b, F' b → F b ∨ w.heap.size ≤ b) ∧ Keeps F w wr

theorem Filling.congr {w wr : World} {c : Nat} {F : Nat → Prop} {L L' : Nat → List Int} (h : Filling w wr c F L) (e : ∀ i, i < 4 → L i = L' i) : Filling w wr c F L' := by
  obtain ⟨F', h1, h2⟩ := h; exact ⟨F', h1.congr e, h2⟩
theorem Filling.keeps {w wr : World} {c : Nat} {F : Nat → Prop} {L : Nat → List Int} (h : Filling w wr c F L) : Keeps F w wr := by obtain ⟨F', _, _, h⟩ := h; exact h

theorem upto_self (X : Nat → List Int) (i m : Nat) : upto X i m i = (X i).take m := by simp [upto]
theorem upto_put {X : Nat → List Int} {i m : Nat} {u : Int} (h : (X i)[m]? = some u) (j : Nat) : put (upto X i m) i (upto X i m i ++ [u]) j = upto X i (m + 1) j := by
  unfold put
  by_cases e : j = i
  · subst e; rw [if_pos rfl, upto_self, upto_self, List.take_add_one, h]; rfl
  · rw [if_neg e]; unfold upto; simp [e]
theorem upto_next {X : Nat → List Int} {i : Nat} (j : Nat) : upto X i (X i).length j = upto X (i + 1) 0 j := by
  unfold upto
  by_cases e : j = i
  · subst e; simp
  · by_cases e2 : j < i
    · rw [if_pos e2, if_pos (by omega)]
    · rw [if_neg e2, if_neg e, if_neg (by omega)]; split <;> simp

theorem put_calls (w wr : World) (c : Nat) (F : Nat → Prop) (L : Nat → List Int) (i : Nat) (k : Int) (h : Filling w wr c F L) (hi : i < 4) (hn : k ∉ L i) (hl : (L i).length < 2) :
    ∃ s, wr.cell? ⟨c, i, none⟩ = some (.pointer (some ⟨s, 0, none⟩)) ∧
    Calls Try.prog 27 #[.pointer (some ⟨s, 0, none⟩), .int .i64 k, (Value.agg #[])] wr fun e w' => e = .returned (.tuple #[.int .i64 0, .bool false]) ∧ Filling w w' c F (put L i (L i ++ [k])) := by
  obtain ⟨F', ⟨ss, G, hp, hc, hF, hB⟩, hF', hK⟩ := h
  refine ⟨ss i, hp.head.cell (four_get ss _ hi), ?_⟩
  refine (hput_new wr _ _ _ _ k () (hp.held i hi) (by rw [vs_keys]; exact hn) (by rw [vs_len]; omega)).mono ?_
  rintro e w' ⟨rfl, hh, hk⟩
  refine ⟨rfl, _, CacheIs.turned hp hc hF hB hi (by simp; omega) hk (by simpa [vs] using hh), fun b hb => hb.elim (hF' b) (fun x => .inr (Nat.le_trans hK.size x.1)), hK.trans hk (fun b hb x => ?_)⟩
  rcases hF' b (hF i b hi x) with h | h
  · exact h
  · omega

set_option maxHeartbeats 2000000 in
theorem restore_yes (w : World) (c : Nat) (F A : Nat → Prop) (L X : Nat → List Int) (v : Value) (h : CacheIs w c F L) (hv : ListsAt w A v [X 0, X 1, X 2, X 3]) (hA : ∀ b, A b → ¬ F b)
    (h2 : ∀ i, i < 4 → (X i).length ≤ 2) (hn : ∀ i, i < 4 → (X i).Nodup) (hg : Good X) :
    Calls Try.prog 15 #[.pointer (some ⟨c, 0, none⟩), v] w fun e w' => e = .returned (.int .i64 0) ∧ Filling w w' c F X := by
  obtain ⟨a, cap, rfl, -, hc⟩ := id hv
  have hX : ∀ k, k < 4 → [X 0, X 1, X 2, X 3][k]? = some (X k) := by
    intro k hk
    obtain rfl | rfl | rfl | rfl : k = 0 ∨ k = 1 ∨ k = 2 ∨ k = 3 := by omega
    all_goals rfl
  have hlen : ([X 0, X 1, X 2, X 3] : List (List Int)).length = 4 := rfl
  rw [hlen]
  go_enter Try.func15, Try.ntmps15
  go_wp2
  go_loopg [23] 4 (fun g i wr => ∃ k : Nat, g = 4 - k ∧ k ≤ 4 ∧ i = .int .i64 k ∧ w = wr)
  case atStart => exact ⟨0, rfl, by omega, rfl, rfl⟩
  case round =>
    obtain ⟨k, rfl, hk, rfl, rfl⟩ := hrel
    by_cases hlt : k < 4
    · obtain ⟨b, off, r, rfl, hAb, q, hi⟩ := hc k _ (hX k hlt)
      have hlt' : (k : Int) < 4 := by omega
      go_wp2_with fail
      refine (fit_yes w A k r (X k) hi (h2 k hlt) (hn k hlt) (fun u hu => by have := hg k hlt u hu; exact this)).mono ?_
      rintro e _ ⟨rfl, rfl⟩
      go_wp2_with fail
      go_roundg (4 - (k + 1))
      case measure => omega
      case rel => exact ⟨k + 1, rfl, by omega, rfl, rfl⟩
    · have hn' : ¬ (k : Int) < 4 := by omega
      go_wp2_with fail
      refine (flush_calls w c F L h).mono ?_
      rintro e w1 ⟨rfl, hC1, hK1, hz1⟩
      have hS : Filling w w1 c F (upto X 0 0) := ⟨F, hC1.congr (fun i hi => by unfold upto; by_cases e : i = 0 <;> simp [e]), fun b hb => .inl hb, hK1⟩
      go_wp2_with fail
      go_loopg [37] 4 (fun g i wr => ∃ k : Nat, g = 4 - k ∧ k ≤ 4 ∧ i = .int .i64 k ∧ Filling w wr c F (upto X k 0))
      case atStart => exact ⟨0, rfl, by omega, rfl, hS⟩
      case round =>
        obtain ⟨k, rfl, hk, rfl, hS⟩ := hrel
        by_cases hlt : k < 4
        · obtain ⟨wo, rfl⟩ : ∃ wo : World, wo = wr := ⟨_, rfl⟩
          obtain ⟨b, off, r, rfl, hAb, q, hi⟩ := hc k _ (hX k hlt)
          obtain ⟨s, cp, rfl, ⟨hxl, -⟩, hci⟩ := id hi
          have qo := cell_keeps hS.keeps q (hA b hAb)
          have hlt' : (k : Int) < 4 := by omega
          go_wp2_with fail
          clear qo q
          go_loopg [44] (X k).length (fun g i wr => ∃ m : Nat, g = (X k).length - m ∧ m ≤ (X k).length ∧ i = .int .i64 m ∧ Filling w wr c F (upto X k m))
          case atStart => exact ⟨0, rfl, by omega, rfl, hS⟩
          case round =>
            obtain ⟨m, rfl, hm, rfl, hSm⟩ := hrel
            by_cases hlm : m < (X k).length
            · obtain ⟨u, hu⟩ : ∃ u, (X k)[m]? = some u := ⟨_, List.getElem?_eq_getElem hlm⟩
              obtain ⟨b2, o2, rfl, hA2, q2⟩ := hci m u hu
              have qm := cell_keeps hSm.keeps q2 (hA b2 hA2)
              have hlm' : (m : Int) < ((X k).length : Int) := by omega
              have hnot : u ∉ upto X k m k := by
                rw [upto_self]
                intro hin
                obtain ⟨j, hj, e⟩ := List.mem_iff_getElem.1 hin
                have hj' : j < m ∧ j < (X k).length := by rw [List.length_take] at hj; omega
                rw [List.getElem_take] at e
                have e2 : (X k)[j]? = some u := by rw [List.getElem?_eq_getElem hj'.2, e]
                have := (List.getElem?_inj hj'.2 (hn k hlt)).1 (e2.trans hu.symm)
                omega
              have hroom : (upto X k m k).length < 2 := by
                rw [upto_self]; have := h2 k hlt; simp; omega
              obtain ⟨sp, hsp, hput⟩ := put_calls w wr c F _ k u hSm hlt hnot hroom
              clear q2
              go_wp2_with fail
              refine hput.mono ?_
              rintro e w2 ⟨rfl, hS2⟩
              have hS3 := hS2.congr (L' := upto X k (m + 1)) (fun j _ => upto_put hu j)
              clear hS2 hput hsp qm hSm
              go_wp2_with fail
              go_roundg ((X k).length - (m + 1))
              case measure => omega
              case rel => exact ⟨m + 1, rfl, by omega, rfl, hS3⟩
            · have hn' : ¬ (m : Int) < ((X k).length : Int) := by omega
              have hm' : m = (X k).length := by omega
              subst hm'
              have hS3 := hSm.congr (L' := upto X (k + 1) 0) (fun j _ => upto_next j)
              go_wp2_with fail
              go_roundg (4 - (k + 1))
              case measure => omega
              case rel => exact ⟨k + 1, rfl, by omega, rfl, hS3⟩
        · have h4 : k = 4 := by omega
          subst h4
          go_wp2_with fail
          go_ret
          refine ⟨rfl, hS.congr fun i hi => ?_⟩
          unfold upto; rw [if_pos hi]
end Go.Proofs.Ytigaldgbkeoilaa.Ca
