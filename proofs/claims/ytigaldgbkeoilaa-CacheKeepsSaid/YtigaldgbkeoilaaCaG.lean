/- cache: lists of lists as they are read; same of two that are. No conditions. -/
import Derived.Test.YtigaldgbkeoilaaCaF
namespace Go.Proofs.Ytigaldgbkeoilaa.Ca
open Go.RowKit Go.Proofs.Ytigaldgbkeoilaa.Mem Go.Proofs.Ytigaldgbkeoilaa.Sh Go.Proofs.Ytigaldgbkeoilaa.Rng
set_option linter.unusedSimpArgs false
set_option linter.unusedVariables false

/-- A list of numbers, read; its cells lie in the blocks A. -/
def IntsAt (w : World) (A : Nat → Prop) (v : Value) (x : List Int) : Prop :=
  ∃ a cap, v = .slice a x.length cap ∧ (x.length ≤ 9223372036854775807 ∧ x.length ≤ cap) ∧ ∀ j u, x[j]? = some u → ∃ b off, a = some ⟨b, off, none⟩ ∧ A b ∧ w.cell? ⟨b, off + j, none⟩ = some (.int .i64 u)

def ListsAt (w : World) (A : Nat → Prop) (v : Value) (xs : List (List Int)) : Prop :=
  ∃ a cap, v = .slice a xs.length cap ∧ xs.length ≤ 9223372036854775807 ∧ ∀ i x, xs[i]? = some x → ∃ b off r, a = some ⟨b, off, none⟩ ∧ A b ∧ w.cell? ⟨b, off + i, none⟩ = some r ∧ IntsAt w A r x

theorem cell_keeps {S : Nat → Prop} {w w' : World} (hk : Keeps S w w') {a : Addr} {v : Value} (h : w.cell? a = some v) (hn : ¬ S a.block) : w'.cell? a = some v :=
  (World.cell?_of_block (hk.block a.block (lt_of_cell h) hn)).trans h

theorem IntsAt.keeps {S A : Nat → Prop} {w w' : World} {v : Value} {x : List Int} (h : IntsAt w A v x) (hk : Keeps S w w') (hS : ∀ b, A b → ¬ S b) : IntsAt w' A v x := by
  obtain ⟨a, cap, hv, hl, hc⟩ := h
  refine ⟨a, cap, hv, hl, fun j u hj => ?_⟩
  obtain ⟨b, off, e, hA, h1⟩ := hc j u hj
  exact ⟨b, off, e, hA, cell_keeps hk h1 (hS b hA)⟩

theorem ListsAt.keeps {S A : Nat → Prop} {w w' : World} {v : Value} {xs : List (List Int)} (h : ListsAt w A v xs) (hk : Keeps S w w') (hS : ∀ b, A b → ¬ S b) : ListsAt w' A v xs := by
  obtain ⟨a, cap, hv, hl, hc⟩ := h
  refine ⟨a, cap, hv, hl, fun i x hi => ?_⟩
  obtain ⟨b, off, r, e, hA, h1, h2⟩ := hc i x hi
  exact ⟨b, off, r, e, hA, cell_keeps hk h1 (hS b hA), h2.keeps hk hS⟩

theorem IntsAt.drewN {A : Nat → Prop} {w : World} {v : Value} {x : List Int} (h : IntsAt w A v x) (n : Nat) : IntsAt (w.drewN n) A v x := h.keeps ((Keeps.refl (fun _ => False) w).drewN n) (fun _ _ => id)
theorem ListsAt.drewN {A : Nat → Prop} {w : World} {v : Value} {xs : List (List Int)} (h : ListsAt w A v xs) (n : Nat) : ListsAt (w.drewN n) A v xs := h.keeps ((Keeps.refl (fun _ => False) w).drewN n) (fun _ _ => id)

theorem ints_of_row {w : World} {base e : Nat} {v : Value} {x : List Int} (h : w.ownsRow base e 1 v x.length (x.map (Value.int .i64))) (hl : x.length ≤ 9223372036854775807) : IntsAt w (fun b => base ≤ b ∧ b < w.heap.size) v x := by
  obtain ⟨a, cap, rfl⟩ := own_slice h
  have hcap : x.length ≤ cap := by
    rcases h.2 with ⟨e, -⟩ | ⟨g, cap', cur, e, -, -, hc, -⟩
    · simp only [Value.slice.injEq] at e; omega
    · simp only [Value.slice.injEq] at e; omega
  refine ⟨a, cap, rfl, ⟨hl, hcap⟩, fun j u hj => ?_⟩
  obtain ⟨g, rfl, hc⟩ := own_cell h (j := j) (u := .int .i64 u) (by simp [hj])
  exact ⟨g, 0, rfl, ⟨own_base h g rfl, own_lt h g rfl⟩, by simpa using hc⟩

theorem Filled.lists {base bo : Nat} {L : Nat → List Int} {w : World} {cs : Array Value} (h : Filled base L w bo 4 cs) (hb : base ≤ bo) (hs : ∀ i, i < 4 → (L i).length ≤ 9223372036854775807) :
    ListsAt w (fun b => base ≤ b ∧ b < w.heap.size) (.slice (some ⟨bo, 0, none⟩) 4 4) [L 0, L 1, L 2, L 3] := by
  refine ⟨_, _, rfl, by simp, fun i x hi => ?_⟩
  have hi4 : i < 4 := by have := (List.getElem?_eq_some_iff.1 hi).1; simpa using this
  obtain ⟨v, hv, h2⟩ := h.rows i hi4
  rw [if_pos hi4] at h2
  have hx : x = L i := by
    obtain rfl | rfl | rfl | rfl : i = 0 ∨ i = 1 ∨ i = 2 ∨ i = 3 := by omega
    all_goals (simp at hi; exact hi.symm)
  subst hx
  exact ⟨bo, 0, v, rfl, ⟨hb, h.outer.lt⟩, by simpa using h.outer.cell hv, ints_of_row h2 (hs i hi4)⟩

set_option maxHeartbeats 1000000 in
theorem same_calls (w : World) (A B : Nat → Prop) (u v : Value) (xs : List (List Int)) (h1 : ListsAt w A u xs) (h2 : ListsAt w B v xs) :
    Calls Try.prog 16 #[u, v] w fun e w' => e = .returned (.bool true) ∧ Keeps (fun _ => False) w w' := by
  obtain ⟨a, cap, rfl, hl, -⟩ := id h1
  obtain ⟨a', cap', rfl, -, -⟩ := id h2
  have hneB : ((xs.length : Int) != (xs.length : Int)) = false := by simp
  go_enter Try.func16, Try.ntmps16
  go_wp2
  go_loopg [14] xs.length (fun g i wr => ∃ k : Nat, g = xs.length - k ∧ k ≤ xs.length ∧ i = .int .i64 k ∧ Keeps (fun _ => False) w wr)
  case atStart => exact ⟨0, rfl, by omega, rfl, Keeps.refl _ _⟩
  case round =>
    obtain ⟨k, rfl, hk, rfl, hK⟩ := hrel
    by_cases hlt : k < xs.length
    · obtain ⟨wo, rfl⟩ : ∃ wo : World, wo = wr := ⟨_, rfl⟩
      have l1 := h1.keeps hK (fun _ _ => id)
      have l2 := h2.keeps hK (fun _ _ => id)
      obtain ⟨x, hx⟩ : ∃ x, xs[k]? = some x := ⟨_, List.getElem?_eq_getElem hlt⟩
      obtain ⟨_, _, e1, -, c1⟩ := id l1
      obtain ⟨_, _, e2, -, c2⟩ := id l2
      cases e1; cases e2
      obtain ⟨b1, o1, r1, rfl, hA1, q1, i1⟩ := c1 k x hx
      obtain ⟨b2, o2, r2, rfl, hA2, q2, i2⟩ := c2 k x hx
      obtain ⟨s1, p1, rfl, hxl, -⟩ := id i1
      obtain ⟨s2, p2, rfl, -, -⟩ := id i2
      have hb1 : (k : Int) < (xs.length : Int) := by omega
      have hneC : ((x.length : Int) != (x.length : Int)) = false := by simp
      go_wp2
      go_quiet (fail)
      go_wp2
      have hKo : Keeps (fun _ => False) w (wo.drewN nq) := hK.drewN nq
      clear hlt
      go_loopg [33] x.length (fun g i wr => ∃ m : Nat, g = x.length - m ∧ m ≤ x.length ∧ i = .int .i64 m ∧ Keeps (fun _ => False) w wr)
      case atStart => exact ⟨0, rfl, by omega, rfl, hKo⟩
      case round =>
        obtain ⟨m, rfl, hm, rfl, hKm⟩ := hrel
        by_cases hlt : m < x.length
        · clear q1 q2 i1 i2 c1 c2
          have l1 := h1.keeps hKm (fun _ _ => id)
          have l2 := h2.keeps hKm (fun _ _ => id)
          obtain ⟨y, hy⟩ : ∃ y, x[m]? = some y := ⟨_, List.getElem?_eq_getElem hlt⟩
          obtain ⟨_, _, e1, -, c1⟩ := id l1
          obtain ⟨_, _, e2, -, c2⟩ := id l2
          cases e1; cases e2
          obtain ⟨_, _, r1, e1, -, q1, i1⟩ := c1 k x hx
          obtain ⟨_, _, r2, e2, -, q2, i2⟩ := c2 k x hx
          cases e1; cases e2
          obtain ⟨t1, d1, rfl, -, g1⟩ := id i1
          obtain ⟨t2, d2, rfl, -, g2⟩ := id i2
          obtain ⟨f1, n1, rfl, -, z1⟩ := g1 m y hy
          obtain ⟨f2, n2, rfl, -, z2⟩ := g2 m y hy
          have hm1 : (m : Int) < (x.length : Int) := by omega
          have hneY : (y != y) = false := by simp
          go_wp2
          go_quiet (fail)
          go_wp2
          go_roundg (x.length - (m + 1))
          case measure => omega
          case rel => exact ⟨m + 1, rfl, by omega, rfl, hKm.drewN _⟩
        · have hn : ¬ (m : Int) < (x.length : Int) := by omega
          go_wp2
          go_roundg (xs.length - (k + 1))
          case measure => omega
          case rel => exact ⟨k + 1, rfl, by omega, rfl, hKm⟩
    · have hn : ¬ (k : Int) < (xs.length : Int) := by omega
      go_wp2
      go_ret
      exact ⟨rfl, hK⟩
end Go.Proofs.Ytigaldgbkeoilaa.Ca
