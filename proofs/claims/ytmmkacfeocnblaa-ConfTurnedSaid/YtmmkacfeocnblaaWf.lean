/- conf.Encode's deferred call. No conditions. -/
import Derived.Test.YtmmkacfeocnblaaWe
import Derived.Tactics2
import Derived.Defers
import Derived.Recover
namespace Go.Proofs.Ytmmkacfeocnblaa.Ly
open Go Go.RowKit Go.Proofs.Ytmmkacfeocnblaa.Eng Go.Proofs.Ytmmkacfeocnblaa.Mem
set_option linter.unusedSimpArgs false
set_option linter.unusedVariables false
set_option maxRecDepth 100000

theorem enc1_idle (p q : Addr) (w : World) : CallsD Try.prog 23 #[.pointer (some p), .pointer (some q)] .returning w fun e u' w' => e = .returned (.tuple #[]) ∧ u' = .returning ∧ w' = w := by
  refine callsD_of_wpS Try.func23 rfl fun c₀ cs hu => ?_
  apply wpS_seq
  apply wpS_region
  simp [wpOpsS, go_sem, recoverD, hu, Try.ntmps23, Exit.thenS]
  refine wpS_of_wp ?_
  go_wp2
  cases c₀
  simp_all [bodyPostS, results, Try.results23]
theorem look_mem : ∀ {env : Env} {t : Nat} {v : Value}, Eng.look env t = some v → (t, v) ∈ env
  | (u, x) :: r, t, v, h => by
    unfold Eng.look at h
    cases hb : Nat.beq u t with
    | true =>
      rw [hb] at h
      have := Nat.eq_of_beq_eq_true hb
      subst this
      simp only [cond_true, Option.some.injEq] at h
      subst h
      exact List.mem_cons_self ..
    | false =>
      rw [hb] at h
      exact List.mem_cons_of_mem _ (look_mem h)
theorem sat_pq {w : World} {p q : Nat} {vp vq : Value} {tp tq : TypeId} (hp : At w p (.cells #[vp] tp (0, 0))) (hq : At w q (.cells #[vq] tq (0, 0))) (hpq : p ≠ q) : Sat ⟨w, w.heap.size, [old (fun b => b = p ∨ b = q) w, .blk p (.cells #[vp] tp (0, 0)) true, .blk q (.cells #[vq] tq (0, 0)) true]⟩ w :=
  sat_oldS w _ _ (fun c hc => by
    simp only [List.mem_cons, List.not_mem_nil, or_false] at hc
    rcases hc with rfl | rfl
    · exact ⟨hp, Ch.stable_blk _ _ _, fun b hb => by
        have hb' : b = p := hb
        exact ⟨by rw [hb']; exact (Array.getElem?_eq_some_iff.1 hp).1, .inl hb'⟩⟩
    · exact ⟨hq, Ch.stable_blk _ _ _, fun b hb => by
        have hb' : b = q := hb
        exact ⟨by rw [hb']; exact (Array.getElem?_eq_some_iff.1 hq).1, .inr hb'⟩⟩) (by
    simp only [List.map_cons, List.map_nil, List.pairwise_cons, List.mem_singleton, forall_eq, List.not_mem_nil, false_imp_iff, implies_true, List.Pairwise.nil, and_true]
    intro _ b hb hb2
    have h1 : b = p := hb
    have h2 : b = q := hb2
    exact hpq (h1.symm.trans h2))
theorem enc1_panic (w : World) (p q : Nat) (vp vq : Value) (hp : At w p (.cells #[vp] 27 (0, 0))) (hq : At w q (.cells #[vq] 28 (0, 0))) (hpq : p ≠ q) : CallsD Try.prog 23 #[.pointer (some ⟨p, 0, none⟩), .pointer (some ⟨q, 0, none⟩)] (.panicking wideP) w fun e u' w' => e = .returned (.tuple #[]) ∧ settle u' = .returning ∧ At w' p (.cells #[.slice none 0 0] 27 (0, 0)) ∧ At w' q (.cells #[.int .i64 112] 28 (0, 0)) ∧ Keeps (fun b => b = p ∨ b = q) w w' := by
 obtain ⟨z, hz⟩ : ∃ z, z = w.heap.size := ⟨_, rfl⟩
 refine callsD_of_wpS Try.func23 rfl fun c₀ cs hu => ?_
 apply wpS_seq
 apply wpS_region
 unfold wideP at hu
 simp [wpOpsS, go_sem, recoverD, hu, Try.ntmps23, Exit.thenS]
 refine wpS_of_wp ?_
 refine (?_ : G Try.prog 11 [(0, .pointer (some ⟨p, 0, none⟩)), (1, .pointer (some ⟨q, 0, none⟩)), (5, .iface 52 (.agg #[]))] [] ⟨w, z, [(old (fun b => b = p ∨ b = q) w), (.blk p (.cells #[vp] 27 (0, 0)) true), (.blk q (.cells #[vq] 28 (0, 0)) true)]⟩ _ [] _) _ _ ⟨rfl, rfl, ?_, hz ▸ sat_pq hp hq hpq⟩
 rotate_left
 · intro t v ht
   have hm := look_mem ht
   simp only [List.mem_cons, Prod.mk.injEq, List.not_mem_nil, or_false] at hm
   rcases hm with ⟨rfl, rfl⟩ | ⟨rfl, rfl⟩ | ⟨rfl, rfl⟩ <;> rfl
 refine g_block <| g_seq <| g_region <| l_all 1 [o0] [0, 1, 5, 7] [] [(0, .pointer (some ⟨p, 0, none⟩)), (1, .pointer (some ⟨q, 0, none⟩)), (5, .iface 52 (.agg #[])), (7, .bool false)] ⟨w, z, [(old (fun b => b = p ∨ b = q) w), (.blk p (.cells #[vp] 27 (0, 0)) true), (.blk q (.cells #[vq] 28 (0, 0)) true)]⟩ trivial ?_
 refine e_seq <| g_false <| g_seq <| g_region <| l_all 3 [o0, o0, o0] [0, 1, 5, 9, 10] [] [(0, .pointer (some ⟨p, 0, none⟩)), (1, .pointer (some ⟨q, 0, none⟩)), (5, .iface 52 (.agg #[])), (9, .bool true), (10, .agg #[])] ⟨w, z, [(old (fun b => b = p ∨ b = q) w), (.blk p (.cells #[vp] 27 (0, 0)) true), (.blk q (.cells #[vq] 28 (0, 0)) true)]⟩ trivial ?_
 refine e_seq <| g_true <| g_seq <| g_region <| l_all 2 [o0, o0] [0, 1] [] [(0, .pointer (some ⟨p, 0, none⟩)), (1, .pointer (some ⟨q, 0, none⟩))] ⟨w, z + 1, [(old (fun b => b = p ∨ b = q) w), (.blk p (.cells #[vp] 27 (0, 0)) true), (.blk q (.cells #[vq] 28 (0, 0)) true), (.blk z (.cells #[] 52 (0, 0)) true)]⟩ trivial ?_
 refine e_seq <| g_region <| l_all 2 [(oa [.at 1]), (oa [.at 2])] [] [Qb p, Qb q] [] ⟨w, z + 1, [(old (fun b => b = p ∨ b = q) w), (.blk p (.cells #[.slice none 0 0] 27 (0, 0)) true), (.blk q (.cells #[.int .i64 112] 28 (0, 0)) true), (.blk z (.cells #[] 52 (0, 0)) true)]⟩ ⟨rfl, rfl, trivial⟩ ?_
 refine e_blk ?_
 -- the function's end
 intro a w1 hst
 refine ⟨hst.df, _, rfl, .tuple #[], ?_, rfl, rfl, hst.mem.at (i := 1) rfl, hst.mem.at (i := 2) rfl, hst.mem.back rfl (show w.heap.size ≤ z + 1 by omega) (List.mem_cons_self ..)⟩
 simp [results, Try.results23]

end Go.Proofs.Ytmmkacfeocnblaa.Ly
