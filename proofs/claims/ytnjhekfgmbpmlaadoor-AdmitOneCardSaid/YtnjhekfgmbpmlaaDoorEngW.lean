/- The engine, last part: a join: branches meet again behind a piece of code. No conditions. -/
import Derived.Test.YtnjhekfgmbpmlaaDoorEngQ
namespace Go.Proofs.YtnjhekfgmbpmlaaDoor.Eng
open Go Go.Proofs.YtnjhekfgmbpmlaaDoor.Mem
set_option linter.unusedSimpArgs false
set_option linter.unusedVariables false
section
variable {P : Program} {N : Nat} {env : Env} {ds : List Deferred} {A : AW} {s : List Kt} {Q : Exit → Act → World → Prop}
theorem g_cut {x y : Code} (J : Act → World → Prop) (hx : G P N env ds A x (.inv J :: s) Q) (hy : ∀ a w, J a w → y.wp P (QQ P s Q) a w) : G P N env ds A (.seq x y) s Q := fun a w hs =>
  wp_seq (wp_mono (hx a w hs) fun e a w h => by
    cases e
    case normal => exact hy a w h
    all_goals exact h)
variable {ops : Array Oper} {σC : List Ch} {late fuel : Nat} {listed : List Bool}
/-- Orders meet within a region: what holds where they do, of whatever blocks. -/
theorem w_via {X : Type} (env' : X → Env) (A' : X → AW) (fuel' : Nat) (listed' : List Bool) (K : ∀ x, Wg P N (env' x) ds (A' x) ops σC late fuel' listed' s Q) (tree : (∀ x, Wg P N (env' x) ds (A' x) ops σC late fuel' listed' s Q) → Wg P N env ds A ops σC late fuel listed s Q) : Wg P N env ds A ops σC late fuel listed s Q := tree K
/-- At one number: a call that keeps all, by its contract. -/
theorem wo_con {i : Nat} (f : FuncId) (args : Array Value) (d : Option Nat) (v : Value) (keep : List Nat) (env' : Env) (is : List Nat) (h : (match ops[i]? with | some o => callA P env A [] ops [o] | none => none) = some ([], f, args, d)) (hd : inN N d = true) (hi : Nat.blt i listed.length = true) (hC : picks is A.σ = some σC)
    (hc : ∀ w, Sat A w → Calls P f args w fun e w' => e = .returned v ∧ Keeps (fun _ => False) w w') (K : ∀ n, A.n ≤ n → Wg P N env' ds { A with n := n } ops σC late fuel (listed.set i true) s Q) (he : keepE keep (putE env d v) = env' := by as_aux_lemma => kernel_rfl) : WO P N env ds A ops σC late fuel listed s Q i :=
  wo_call [] [] f args d h hd hi trivial fun w hw => (hc w hw).mono fun e w' ⟨he', hk⟩ => ⟨v, { A with n := w'.heap.size }, he', hw.keeps hk, .inr (fun c hcm => (hw.keeps hk).all c (picks_mem hC c hcm)), w_keep keep env' (K _ (size_of hw hk)) he⟩
theorem w_pick (is : List Nat) (σ' : List Ch) (hn : nodupB is = true) (hp : picks is A.σ = some σ') (h : Wg P N env ds { A with σ := σ' } ops σC late fuel listed s Q) : Wg P N env ds A ops σC late fuel listed s Q := fun a w hs => h a w ⟨hs.sz, hs.df, hs.kn, hs.mem.pick is hn hp⟩
end
end Go.Proofs.YtnjhekfgmbpmlaaDoor.Eng
