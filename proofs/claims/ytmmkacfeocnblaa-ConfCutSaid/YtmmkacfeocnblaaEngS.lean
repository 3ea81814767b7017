/- The engine, nineteenth part: a piece that a call turns and pieces that it has made; bytes told as a text inside a region that draws. No conditions. -/
import Derived.Test.YtmmkacfeocnblaaEngR
namespace Go.Proofs.Ytmmkacfeocnblaa.Eng
open Go Go.Lib Go.Proofs.Ytmmkacfeocnblaa.Mem
set_option linter.unusedSimpArgs false
set_option linter.unusedVariables false
theorem Sat.join {A : AW} {w w0 : World} {cs : List Ch} (h : Sat A w) (hO : Sat ⟨w0, A.n, cs⟩ w) (hd : ∀ c ∈ A.σ, ∀ d ∈ cs, ∀ b, c.F b → ¬ d.F b) : Sat { A with σ := A.σ ++ cs } w := by
  refine ⟨h.os, h.tape, h.output, h.size, ?_, ?_, ?_, ?_⟩
  · intro c hc
    rcases List.mem_append.1 hc with hc | hc
    · exact h.all c hc
    · exact hO.all c hc
  · intro c hc
    rcases List.mem_append.1 hc with hc | hc
    · exact h.bnd c hc
    · exact hO.bnd c hc
  · intro c hc
    rcases List.mem_append.1 hc with hc | hc
    · exact h.stb c hc
    · exact hO.stb c hc
  · show ((A.σ ++ cs).map Ch.key).Pairwise Key.apart
    rw [List.map_append, List.pairwise_append]
    refine ⟨h.dis, hO.dis, ?_⟩
    intro k hk l hl _ b hb hb'
    obtain ⟨c, hc, rfl⟩ := List.mem_map.1 hk
    obtain ⟨d, hd', rfl⟩ := List.mem_map.1 hl
    exact hd c hc d hd' b hb hb'
/-- A call that turns one piece within its own blocks, and makes others. -/
theorem Sat.turnMade {A : AW} {w w' w0 : World} {cs : List Ch} (h : Sat A w) {i : Nat} {c c' : Ch} (hi : A.σ[i]? = some c) (hrw : c.rw = true) (hrw' : c'.rw = true) (hk : Keeps c.F w w') (hh : c'.holds w') (hst : c'.stable)
    (hF : ∀ b, c'.F b → c.F b) (hO : Sat ⟨w0, w'.heap.size, cs⟩ w') (hn : ∀ d ∈ cs, ∀ b, d.F b → w.heap.size ≤ b) : Sat { A with n := w'.heap.size, σ := A.σ.set i c' ++ cs } w' := by
  have hsz : A.n ≤ w'.heap.size := by have := hk.size; rw [h.size] at this; exact this
  have h1 := h.growN hi hrw hrw' hk hh hst (fun b hb => .inl (hF b hb)) (fun b hb => Nat.lt_of_lt_of_le (h.bnd c (List.mem_of_getElem? hi) b (hF b hb)) hsz)
  refine h1.join hO ?_
  intro d hd e he b hb hb'
  have h2 := hn e he b hb'
  rw [h.size] at h2
  rcases List.mem_or_eq_of_mem_set hd with hd | rfl
  · have := h.bnd d hd b hb; omega
  · have := h.bnd c (List.mem_of_getElem? hi) b (hF b hb); omega
/-- Pieces of the same blocks that say less. -/
theorem Sat.low {A : AW} {w : World} (h : Sat A w) (σ' : List Ch) (hk : σ'.map Ch.key = A.σ.map Ch.key) (hh : ∀ c ∈ σ', c.holds w ∧ c.stable) : Sat { A with σ := σ' } w := by
  refine ⟨h.os, h.tape, h.output, h.size, fun c hc => (hh c hc).1, ?_, fun c hc => (hh c hc).2, ?_⟩
  · intro c hc b hb
    have hm : c.key ∈ A.σ.map Ch.key := by rw [← hk]; exact List.mem_map_of_mem hc
    obtain ⟨d, hd, hde⟩ := List.mem_map.1 hm
    have hF : d.F = c.F := congrArg Prod.fst hde
    exact h.bnd d hd b (by rw [hF]; exact hb)
  · show (σ'.map Ch.key).Pairwise Key.apart
    rw [hk]; exact h.dis
theorem row_low {α : Type} {base b2 : Nat} {e : TypeId} {sz : Nat} {cells : α → List Value} {v : Value} {xs : List α} {w : World} (h : (rowL base e sz cells v xs).holds w) (hb : b2 ≤ base) : (rowL b2 e sz cells v xs).holds w := by
  have h' : w.ownsRow base e sz v xs.length (xs.flatMap cells) := h
  show w.ownsRow b2 e sz v xs.length (xs.flatMap cells)
  refine ⟨h'.1, ?_⟩
  rcases h'.2 with h | ⟨g, cp, cur, e1, hg, h⟩
  · exact .inl h
  · exact .inr ⟨g, cp, cur, e1, Nat.le_trans hb hg, h⟩
theorem fam_low {α : Type} {base b2 : Nat} {e : TypeId} {sz : Nat} {cells : α → List Value} {hs : List (Sl α)} {w : World} (h : (famC base e sz cells hs).holds w) (hb : b2 ≤ base) : (famC b2 e sz cells hs).holds w := by
  have h' : (∀ s ∈ hs, w.ownsRow base e sz s.val s.xs.length (s.xs.flatMap cells)) ∧ hs.Pairwise (fun s t => ∀ b, s.val.ownBlock = some b → t.val.ownBlock ≠ some b) := h
  exact ⟨fun s hs' => row_low (v := s.val) (xs := s.xs) (h'.1 s hs') hb, h'.2⟩
section
variable {P : Program} {N : Nat} {env : Env} {ds : List Deferred} {A : AW} {ops : Array Oper} {l : List Oper} {s : List Kt} {Q : Exit → Act → World → Prop}
theorem conv_run {o : Oper} {a : Option Addr} {n cap : Nat} {d : Option Nat} {xs : List Int} {a0 : Act} {w : World} (h : convA P N ops env [o] = some (a, n, cap, d)) (hst : St N env ds A a0 w) (hr : ∀ x ∈ xs, 0 ≤ x ∧ x < 256) (hsl : SlAt u8c 1 Any w ⟨a, cap, xs⟩) (hn : xs.length = n) :
    Region.wanted o (yielded ops a0.tmps) = true ∧ o.dst = d ∧ inN N d = true ∧ (execOp a0.eval o).run P w = .ok (.value (.string (strOf xs))) w := by
  simp only [convA] at h
  split at h
  · rename_i src dst x hop hw hkn hdst
    split at h
    · rename_i e a1 n1 cap1 hs hd1 hx
      split at h
      · rename_i he
        simp only [Option.some.injEq, Prod.mk.injEq] at h
        obtain ⟨rfl, rfl, rfl, rfl⟩ := h
        have hrun : (convert src dst (.slice a1 n1 cap1)).run P w = .ok (.string (strOf xs)) w := by
          subst hn
          by_cases h0 : xs = []
          · subst h0
            have := run_convert_bytes_string (P := P) w src dst e a1 0 cap1 hs he hd1
            rw [show ([] : List Int).length = 0 from rfl, this]
            cases a1 <;> simp [Conv.bytesToString, Builtin.firstCells, loadCells, loadCellsFrom, strOf] <;> rfl
          · obtain ⟨b, off, ha, -, hc⟩ := hsl.cells h0
            simp only at ha
            subst ha
            have := run_convert_bytes_back (P := P) w src dst e ⟨b, off, none⟩ cap1 (xs.map (fun x => UInt8.ofNat x.toNat)) hs he hd1 (fun j hj => by
              rw [List.length_map] at hj
              have h1 := hc j hj 0 (.int .u8 xs[j]) rfl
              rw [offs_eq, Nat.mul_one, Nat.add_zero] at h1
              rw [addr_eta rfl, h1, List.getElem_map]
              have h2 := hr xs[j] (List.getElem_mem hj)
              congr 2
              rw [UInt8.toNat_ofNat_of_lt' (by show _ < 256; omega)]
              omega)
            rw [List.length_map] at this
            exact this
        refine ⟨wantE_sound hw hst, rfl, hdst, ?_⟩
        rw [eval_congr hst hkn]
        unfold execOp
        simp only [hop, hx, Sem.run_bind, hrun, Result.andThen_ok, Sem.run_pure]
      · cases h
    · cases h
  · cases h
theorem wo_toStr {σC : List Ch} {late fuel : Nat} {listed : List Bool} {p : Nat} (k : Nat) (xs : List Int) (a : Option Addr) (n cap : Nat) (c0 : Ch) (d : Option Nat) (cix : List Nat) (hr : ∀ x ∈ xs, 0 ≤ x ∧ x < 256) (hd : ∀ w', c0.holds w' → SlAt u8c 1 Any w' ⟨a, cap, xs⟩)
    (hC : Nat.beq p late = true ∨ picks cix A.σ = some σC)
    (K : Wg P N (putE env d (.string (strOf xs))) ds A ops σC late fuel (listed.set p true) s Q) (hn : xs.length = n := by rfl)
    (hp : Nat.blt p listed.length = true := by rfl)
    (h : (match ops[p]? with | some o => convA P N ops env [o] | none => none) = some (a, n, cap, d) := by as_aux_lemma => kernel_rfl) (hk : A.σ[k]? = some c0 := by rfl) : WO P N env ds A ops σC late fuel listed s Q p := by
  intro a0 w hst hcl
  have hlt : p < listed.length := by simpa using hp
  split at h
  · rename_i o ho
    obtain ⟨hw, hod, hdd, hrun⟩ := conv_run h hst hr (hd w (hst.mem.at hk)) hn
    unfold wpOp
    simp only [ho]
    rw [if_pos hw]
    left
    unfold Oper.wp
    rw [hrun]
    have hcs := cs_of (listed := listed) hcl hC hlt hst.mem
    refine ⟨hcs, ?_⟩
    rw [hod]
    exact K _ _ (hst.put hst.mem _ hdd _) hcl hcs
  · cases h
end
/-- The end of a function that has not deferred yet. -/
theorem e_retD0 {P : Program} {N : Nat} {env : Env} {A : AW} {s : List Kt} {fn : Func} {R : Ending → World → Prop} (K : E P N env [] A .ret [] (bodyPost P fn R)) : E P N env [] A .ret s (bodyPostD P fn R) := fun a w hst => qq_ret s (by
  show Leaves P fn a.tmps R a.defers .returning w
  rw [hst.df]
  obtain ⟨-, v', hr, hR⟩ := K a w hst
  exact ⟨v', hr, hR⟩)
theorem sl_sub {α : Type} {cells : α → List Value} {sz : Nat} {F : Nat → Prop} {w : World} {cap : Nat} {xs : List α} {b off : Nat} (h : SlAt cells sz F w ⟨some ⟨b, off, none⟩, cap, xs⟩) {i n : Nat} (hi : i + n ≤ xs.length) (hn : xs ≠ []) : SlAt cells sz F w ⟨some ⟨b, off + offs sz i, none⟩, cap - i, (xs.drop i).take n⟩ := by
  have h1 := h.len
  have h2 := h.le
  simp only at h1 h2
  have hl : ((xs.drop i).take n).length = n := by rw [List.length_take, List.length_drop]; omega
  refine ⟨by simp only [hl]; omega, by simp only [hl]; omega, fun _ => ?_⟩
  obtain ⟨b', off', ha, hF, hc⟩ := h.cells hn
  simp only [Option.some.injEq, Addr.mk.injEq] at ha
  obtain ⟨rfl, rfl, -⟩ := ha
  refine ⟨b, off + offs sz i, rfl, hF, fun j hj k v hv => ?_⟩
  simp only [hl] at hj
  have hx : ((xs.drop i).take n)[j]'(by rw [hl]; exact hj) = xs[i + j]'(by omega) := by simp
  simp only [hx] at hv
  have h3 := hc (i + j) (by simp only; omega) k v hv
  rw [offs_eq, offs_eq] at *
  rw [show off + i * sz + j * sz + k = off + (i + j) * sz + k from by rw [Nat.add_mul]; omega]
  exact h3
theorem sl_none {α : Type} {cells : α → List Value} {sz : Nat} {F : Nat → Prop} {w : World} (a : Option Addr) (cap : Nat) : SlAt cells sz F w ⟨a, cap, []⟩ := ⟨Nat.zero_le _, Nat.zero_le _, fun h => absurd rfl h⟩
end Go.Proofs.Ytmmkacfeocnblaa.Eng
