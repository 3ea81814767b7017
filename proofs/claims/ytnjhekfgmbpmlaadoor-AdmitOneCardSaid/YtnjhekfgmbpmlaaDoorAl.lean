/- admit: Check of what is known whole. No conditions. -/
import Derived.Test.YtnjhekfgmbpmlaaDoorAk
namespace Go.Proofs.YtnjhekfgmbpmlaaDoor.Ad
open Go Go.Proofs.YtnjhekfgmbpmlaaDoor.Eng Go.Proofs.YtnjhekfgmbpmlaaDoor.Mem Go.Proofs.YtnjhekfgmbpmlaaDoor.Ly
set_option linter.unusedSimpArgs false
set_option linter.unusedVariables false
set_option maxRecDepth 100000

theorem slok_of {α : Type} [Inhabited α] {A : AW} {w : World} (h : Sat A w) {cells : α → List Value} {sz : Nat} {ok : (Nat → Prop) → World → α → Prop} (hsz : ∀ x, (cells x).length = sz) {i b : Nat} {t : TypeId} {cs : Array Value} (xs : List α) (hok : ∀ i, i < xs.length → ok Any w (gd xs i)) (hi : A.σ[i]? = some (.blk b (.cells cs t (0, 0)) true) := by rfl) (hx : xs.flatMap cells = cs.toList := by rfl) (hl : cs.size = xs.length * sz := by rfl) (hm : Nat.ble xs.length 1000 = true := by rfl) : SlOk cells sz ok Any w ⟨some ⟨b, 0, none⟩, xs.length, xs⟩ := by
  have hle := Nat.le_of_ble_eq_true hm
  have h1 := h.blkrow hi hx hl (Nat.zero_le b) (Nat.le_trans hle (by decide))
  have hlt : i < A.σ.length := (List.getElem?_eq_some_iff.1 hi).1
  have h0 : w.ownsRow 0 t sz (.slice (some ⟨b, 0, none⟩) xs.length xs.length) xs.length (xs.flatMap cells) := h1.at (i := i) (c := rowL 0 t sz cells (.slice (some ⟨b, 0, none⟩) xs.length xs.length) xs) (by show (A.σ.set i _)[i]? = _; rw [List.getElem?_set_self hlt])
  have h2 := row_sl (cells := cells) (sz := sz) hsz h0 (Nat.le_trans hle (by decide))
  refine ⟨⟨h2.len, h2.le, fun hne => ?_⟩, hok⟩
  obtain ⟨b', off, ha, -, hh⟩ := h2.cells hne
  exact ⟨b', off, ha, trivial, hh⟩
theorem ok_nil {α : Type} [Inhabited α] {p : α → Prop} : ∀ i, i < ([] : List α).length → p (gd [] i) := fun i hi => absurd hi (Nat.not_lt_zero i)
theorem ok_cons {α : Type} [Inhabited α] {p : α → Prop} {x : α} {r : List α} (h : p x) (hr : ∀ i, i < r.length → p (gd r i)) : ∀ i, i < (x :: r).length → p (gd (x :: r) i)
  | 0, _ => h
  | i + 1, hi => hr i (by simpa using hi)
theorem lit_ok {n : Int} (h1 : (-9223372036854775808 : Int) ≤ n := by decide) (h2 : n ≤ 9223372036854775807 := by decide) : InK .i64 n := ⟨h1, h2⟩
theorem check_at (w : World) (hL : LaidAt w) (c : TConfig) (hc : TConfig.ok Any w c) (hS : c.Partitions.xs.length + c.Channels.xs.length + c.Cores.xs.length ≤ 15000000000000) (n : Int) (hn : (checkF c).e = n) : Calls Tryd.prog 9 #[.agg (TConfig.arr c)] w fun e w' => ∃ W : TWhere, e = .returned (.tuple #[.int .i64 n, .agg (TWhere.arr W)]) ∧ Keeps (fun _ => False) w w' := by
  subst hn
  exact (check_calls w hL c hc hS).mono fun e w' h => ⟨_, h.1, h.2⟩

end Go.Proofs.YtnjhekfgmbpmlaaDoor.Ad
