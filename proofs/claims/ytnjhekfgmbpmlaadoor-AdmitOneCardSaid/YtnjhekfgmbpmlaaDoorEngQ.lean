/- The engine, sixteenth part: strings and copies. No conditions. -/
import Derived.Test.YtnjhekfgmbpmlaaDoorEngP
import Derived.Lib.AppendStr
import Derived.Laws.IdiomCopy
import Derived.Laws.CopyRow
import Derived.Laws.IdiomStrings
namespace Go.Proofs.YtnjhekfgmbpmlaaDoor.Eng
open Go Go.Lib Go.Proofs.YtnjhekfgmbpmlaaDoor.Mem
set_option linter.unusedSimpArgs false
set_option linter.unusedVariables false
/-- A piece that has turned within its own blocks and new ones. -/
theorem Sat.growN {A : AW} {w w' : World} (h : Sat A w) {i : Nat} {c c' : Ch} (hi : A.σ[i]? = some c) (hrw : c.rw = true) (hrw' : c'.rw = true) (hk : Keeps c.F w w') (hh : c'.holds w') (hst : c'.stable)
    (hF : ∀ b, c'.F b → c.F b ∨ w.heap.size ≤ b) (hb : ∀ b, c'.F b → b < w'.heap.size) : Sat { A with n := w'.heap.size, σ := A.σ.set i c' } w' := by
  obtain ⟨hlt, hix⟩ := List.getElem?_eq_some_iff.1 hi
  have hsize : A.n ≤ w'.heap.size := by have := hk.size; rw [h.size] at this; exact this
  have hap : ∀ j d, j ≠ i → A.σ[j]? = some d → ∀ b, d.F b → ¬ c.F b := by
    intro j d hji hj b hd hb
    exact apart_of h.dis (i := i) (j := j) (by rw [List.getElem?_map, hi]; rfl) (by rw [List.getElem?_map, hj]; rfl) (Ne.symm hji) hrw b hb hd
  refine ⟨hk.os.trans h.os, hk.tape.trans h.tape, hk.output.trans h.output, rfl, ?_, ?_, ?_, ?_⟩
  · intro d hd
    obtain ⟨j, hj⟩ := List.getElem?_of_mem hd
    by_cases hij : i = j
    · subst hij; rw [List.getElem?_set_self hlt] at hj; cases hj; exact hh
    · rw [List.getElem?_set_ne hij] at hj
      have hm := List.mem_of_getElem? hj
      exact h.stb d hm w w' (fun b hbd => hk.block b (by rw [h.size]; exact h.bnd d hm b hbd) (hap j d (Ne.symm hij) hj b hbd)) (h.all d hm)
  · intro d hd b hbd
    show b < w'.heap.size
    rcases List.mem_or_eq_of_mem_set hd with hd | rfl
    · have := h.bnd d hd b hbd; omega
    · exact hb b hbd
  · intro d hd
    rcases List.mem_or_eq_of_mem_set hd with hd | rfl
    · exact h.stb d hd
    · exact hst
  · show ((A.σ.set i _).map Ch.key).Pairwise Key.apart
    rw [List.map_set, List.pairwise_iff_getElem]
    intro p q hp hq hpq
    simp only [List.length_set, List.length_map] at hp hq
    have key : ∀ j (hj : j < A.σ.length), j ≠ i → Key.apart (Ch.key c') (Ch.key A.σ[j]) := by
      intro j hj hji _ b hbc hd
      have hjs : A.σ[j]? = some A.σ[j] := by simp [hj]
      rcases hF b hbc with e1 | e1
      · exact hap j _ hji hjs b hd e1
      · have := h.bnd _ (List.mem_of_getElem? hjs) b hd
        rw [← h.size] at this; omega
    simp only [List.getElem_set, List.getElem_map]
    by_cases h1 : i = p
    · subst h1
      rw [if_pos rfl, if_neg (by omega)]
      exact key q hq (by omega)
    · rw [if_neg h1]
      by_cases h2 : i = q
      · subst h2; rw [if_pos rfl]; exact Key.apart_symm (key p hp (by omega))
      · rw [if_neg h2]
        exact apart_at h.dis (i := p) (j := q) (by simp [hp]) (by simp [hq]) (by omega)

abbrev u8c : Int → List Value := fun x : Int => [Value.int .u8 x]
/-- A text's bytes. -/
def strB (s : ByteArray) : List Int := s.data.toList.map fun b => (b.toNat : Int)
theorem strB_len (s : ByteArray) : (strB s).length = s.size := by unfold strB; rw [List.length_map, Array.length_toList]; rfl
theorem u8_flat (xs : List Int) : xs.flatMap u8c = xs.map (Value.int .u8) := by
  induction xs with
  | nil => rfl
  | cons x xs ih => rw [List.flatMap_cons, ih]; rfl
theorem strB_cells (s : ByteArray) : strCells s = (strB s).flatMap u8c := by
  rw [u8_flat]; unfold strCells strB; rw [List.map_map]; rfl
theorem u8_len (xs : List Int) : (xs.flatMap u8c).length = xs.length := by rw [u8_flat, List.length_map]
theorem run_str {P : Program} (w : World) (base : Nat) (t u ty e : TypeId) (i : TypeInfo) (ht : P.underlying t = some (.slice e)) (hu : P.underlying u = some .string) (hi : P.info? e = some i) (hz : i.zero = some (.int .u8 0)) (hsize : i.size = 1) (hby : i.bytes = 1)
    (v : Value) (n : Nat) (xs : List Value) (hown : w.ownsRow base e 1 v n xs) (s : ByteArray) (h63 : n + s.size ≤ maxLen) (hbytes : n + s.size ≤ 140737488355328) (hbase : base ≤ w.heap.size) :
    ∃ v' w', (Builtin.append_ #[t, u] ty #[v, .string s]).run P w = .ok v' w' ∧ w'.ownsRow base e 1 v' (n + s.size) (xs ++ strCells s) ∧ w.grownBy w' v.ownBlock ∧ (∀ b, v'.ownBlock = some b → v.ownBlock = some b ∨ w.heap.size ≤ b) := by
  obtain ⟨v', w', hr, ho, hg, -⟩ := run_append_own_string (P := P) w base t u ty e i ht hu hi hz hsize hby v n xs hown s h63 hbytes hbase
  refine ⟨v', w', hr, ho, hg, fun b hb => ?_⟩
  rcases hown.2 with ⟨rfl, h0⟩ | ⟨g, cap, cur, rfl, hbg, hgg, hnc, hcm, hcs, htake⟩
  · obtain ⟨v2, w2, hr2, ho2, -⟩ := run_append_own_string (P := P) w w.heap.size t u ty e i ht hu hi hz hsize hby (.slice none 0 0) n xs ⟨hown.1, .inl ⟨rfl, h0⟩⟩ s h63 hbytes (Nat.le_refl _)
    rw [hr] at hr2
    injection hr2 with e1 e2
    subst e1
    exact .inr (ho2.lt b hb).1
  · have hxl : xs.length = n := by simpa using hown.1
    by_cases hroom : n + s.size ≤ cap
    · have hcs' : cur.size = cap := by simpa using hcs
      have hr2 := run_append_room_string (P := P) w t u ty e i ht hu hi hsize g n cap cur hgg s hroom (by omega)
      rw [hr] at hr2
      injection hr2 with e1 e2
      subst e1
      exact .inl hb
    · have holds : ∀ j u, xs[j]? = some u → w.cell? ((⟨g, 0, none⟩ : Addr).add j) = some u := hown.cells (g := g) rfl
      have hr2 := run_append_grow_string (P := P) w t u ty e i (.int .u8 0) ht hu hi hz ⟨g, 0, none⟩ n cap xs (by rw [hsize]; simpa using hxl) holds s (by omega) (by simp only [maxLen] at h63; omega) (by rw [hby]; exact growslice_fits (by omega) (by omega))
      rw [hr] at hr2
      injection hr2 with e1 e2
      subst e1
      simp only [Value.ownBlock, Option.some.injEq] at hb
      exact .inr (by omega)
section
variable {P : Program} {N : Nat} {env : Env} {ds : List Deferred} {A : AW} {ops : Array Oper} {l : List Oper} {s : List Kt} {Q : Exit → Act → World → Prop} {c : Code}
def strA (P : Program) (N : Nat) (ops : Array Oper) (env : Env) (o : Oper) : Option (TypeId × Value × ByteArray) := match appOf o, wantE ops env o, knownOp env o, inN N o.dst with
  | some (x, y, t, u), some true, true, true => match P.underlying t, P.underlying u, evalE env y with
    | some (.slice e), some .string, .string s => match P.info? e with
      | some f => match f.zero with
        | some (.int .u8 (.ofNat 0)) => match Nat.beq f.size 1 && Nat.beq f.bytes 1 with
          | true => some (e, evalE env x, s)
          | false => none
        | _ => none
      | none => none
    | _, _, _ => none
  | _, _, _, _ => none
theorem strA_run {base : Nat} {o : Oper} {e : TypeId} {v : Value} {t : ByteArray} (h : strA P N ops env o = some (e, v, t)) {i : Nat} {xs : List Int} {a : Act} {w : World} (hst : St N env ds A a w)
    (hi : A.σ[i]? = some (rowL base e 1 u8c v xs)) (h63 : xs.length + t.size ≤ 140737488355328) (hbase : base ≤ A.n) :
    Region.wanted o (yielded ops a.tmps) = true ∧ inN N o.dst = true ∧ ∃ a' cap' w', (execOp a.eval o).run P w = .ok (.value (.slice a' (xs ++ strB t).length cap')) w' ∧ A.n ≤ w'.heap.size ∧ Sat { A with n := w'.heap.size, σ := A.σ.set i (rowL base e 1 u8c (.slice a' (xs ++ strB t).length cap') (xs ++ strB t)) } w' := by
  unfold strA at h
  split at h
  · rename_i x y ty u hop0 hw hk hd0
    have hop := appOf_spec hop0
    split at h
    · rename_i e' s' ht hu hy
      split at h
      · rename_i f' hf
        split at h
        · rename_i hz
          split at h
          · rename_i hzz
            simp only [Option.some.injEq, Prod.mk.injEq] at h
            obtain ⟨rfl, rfl, rfl⟩ := h
            rw [Bool.and_eq_true] at hzz
            refine ⟨wantE_sound hw hst, hd0, ?_⟩
            rw [eval_congr hst hk]
            have hown : w.ownsRow base e' 1 (evalE env x) xs.length (xs.flatMap u8c) := hst.mem.at hi
            obtain ⟨v', w', hr, ho, hg, hat⟩ := run_str (P := P) w base ty u o.type e' f' ht hu hf hz (Nat.eq_of_beq_eq_true hzz.1) (Nat.eq_of_beq_eq_true hzz.2) (evalE env x) xs.length (xs.flatMap u8c) hown s' (by unfold maxLen; omega) h63 (by rw [hst.mem.size]; exact hbase)
            rw [strB_cells, ← List.flatMap_append, ← strB_len s', ← List.length_append] at ho
            obtain ⟨a', cap', rfl⟩ := row_slice ho
            have hk' : Keeps (fun k => some k = (evalE env x).ownBlock) w w' := Keeps.of_grownBy hg
            have hsize : A.n ≤ w'.heap.size := by have := hk'.size; rw [hst.mem.size] at this; exact this
            refine ⟨a', cap', w', ?_, hsize, ?_⟩
            · unfold execOp
              simp only [hop, resolve, invoke, builtin, Sem.run_bind, Sem.run_pure, Result.andThen_ok, List.map_toArray, List.map_cons, List.map_nil, hy, hr]
            · exact hst.mem.growN hi rfl rfl ⟨hk'.os, hk'.tape, hk'.output, hk'.size, fun b hb hS => hk'.block b hb (fun e1 => hS e1.symm)⟩ ho (row_stable _ _ _ _ _ _) hat (fun b hb => (ho.lt b hb).2)
          · cases h
        · cases h
      · cases h
    · cases h
  · cases h
/-- The next operation appends a text's bytes to a row. -/
theorem l_pushStr (base i : Nat) (xs : List Int) (e : TypeId) (v : Value) (t : ByteArray) (d : Option Nat) (h63 : xs.length + t.size ≤ 140737488355328) (hbase : base ≤ A.n)
    (K : ∀ a' cap' n', A.n ≤ n' → Lg P N (putE env d (.slice a' (xs ++ strB t).length cap')) ds { A with n := n', σ := A.σ.set i (rowL base e 1 u8c (.slice a' (xs ++ strB t).length cap') (xs ++ strB t)) } ops (l.drop 1) s Q)
    (h : (match l with | o :: _ => (strA P N ops env o).map (fun x => (x, o.dst)) | [] => none) = some ((e, v, t), d) := by as_aux_lemma => kernel_rfl) (hi : A.σ[i]? = some (rowL base e 1 u8c v xs) := by rfl) : Lg P N env ds A ops l s Q := by
  intro a w hst
  cases l with
  | nil => cases h
  | cons o l =>
    simp only [Option.map_eq_some_iff] at h
    obtain ⟨y, hy, h⟩ := h
    simp only [Prod.mk.injEq] at h
    obtain ⟨rfl, rfl⟩ := h
    obtain ⟨hw, hdst, a', cap', w', hr, hsz', hs'⟩ := strA_run (xs := xs) hy hst hi h63 hbase
    refine step_yields hw (.inl hr) ?_
    exact K a' cap' _ hsz' _ _ (hst.put hs' _ hdst _)
theorem wo_pushStr {σC : List Ch} {late fuel : Nat} {listed : List Bool} {p : Nat} (base i : Nat) (xs : List Int) (e : TypeId) (v : Value) (t : ByteArray) (d : Option Nat) (cix : List Nat) (h63 : xs.length + t.size ≤ 140737488355328) (hbase : base ≤ A.n)
    (hC : Nat.beq p late = true ∨ (picks cix A.σ = some σC ∧ cix.contains i = false))
    (K : ∀ a' cap' n', A.n ≤ n' → Wg P N (putE env d (.slice a' (xs ++ strB t).length cap')) ds { A with n := n', σ := A.σ.set i (rowL base e 1 u8c (.slice a' (xs ++ strB t).length cap') (xs ++ strB t)) } ops σC late fuel (listed.set p true) s Q)
    (hp : Nat.blt p listed.length = true := by rfl)
    (h : (match ops[p]? with | some o => (strA P N ops env o).map (fun x => (x, o.dst)) | none => none) = some ((e, v, t), d) := by as_aux_lemma => kernel_rfl) (hi : A.σ[i]? = some (rowL base e 1 u8c v xs) := by rfl) : WO P N env ds A ops σC late fuel listed s Q p := by
  intro a w hst hcl
  have hlt : p < listed.length := by simpa using hp
  split at h
  · rename_i o ho
    simp only [Option.map_eq_some_iff] at h
    obtain ⟨y, hy, h⟩ := h
    simp only [Prod.mk.injEq] at h
    obtain ⟨rfl, rfl⟩ := h
    obtain ⟨hw, hd, a', cap', w', hr, hsz, hs'⟩ := strA_run (xs := xs) hy hst hi h63 hbase
    unfold wpOp
    simp only [ho]
    rw [if_pos hw]
    left
    unfold Oper.wp
    rw [hr]
    have hcs : (listed.set p true).toArray.getD late false = false → Cs σC w' := by
      intro hl
      rcases hC with hC | ⟨hC, hci⟩
      · have := Nat.eq_of_beq_eq_true hC
        subst this
        simp [hlt] at hl
      · intro c hc
        obtain ⟨q, hq, hqs⟩ := picks_at hC c hc
        have hqi : i ≠ q := fun e1 => by subst e1; simp [hq] at hci
        refine hs'.all c (List.mem_of_getElem? (i := q) ?_)
        show (A.σ.set i _)[q]? = some c
        rw [List.getElem?_set_ne hqi]; exact hqs
    exact ⟨hcs, K a' cap' _ hsz _ _ (hst.put hs' _ hd _) hcl hcs⟩
  · cases h
theorem l_blkrow {α : Type} (i b base : Nat) (e : TypeId) (sz : Nat) (cells : α → List Value) (xs : List α) (cs : Array Value) (hb : base ≤ b) (K : Lg P N env ds { A with σ := A.σ.set i (rowL base e sz cells (.slice (some ⟨b, 0, none⟩) xs.length xs.length) xs) } ops l s Q) (hi : A.σ[i]? = some (.blk b (.cells cs e (0, 0)) true) := by rfl) (hx : xs.flatMap cells = cs.toList := by rfl) (hl : cs.size = xs.length * sz := by rfl) (hm : Nat.ble xs.length 1000 = true := by rfl) : Lg P N env ds A ops l s Q :=
  fun a w hst => K a w ⟨hst.sz, hst.df, hst.kn, hst.mem.blkrow hi hx hl hb (Nat.le_trans (Nat.le_of_ble_eq_true hm) (by decide))⟩
/-- The next operation makes a text of bytes. -/
def strOf (xs : List Int) : ByteArray := ⟨(xs.map (fun x => UInt8.ofNat x.toNat)).toArray⟩
def convA (P : Program) (N : Nat) (ops : Array Oper) (env : Env) : List Oper → Option (Option Addr × Nat × Nat × Option Nat)
  | [] => none
  | o :: _ => match o.op, wantE ops env o, knownOp env o, inN N o.dst with
    | .convert src dst x, some true, true, true => match P.underlying src, P.underlying dst, evalE env x with
      | some (.slice e), some .string, .slice a n cap => match P.underlying e with
        | some (.int .u8) => some (a, n, cap, o.dst)
        | _ => none
      | _, _, _ => none
    | _, _, _, _ => none
theorem l_toStr (k : Nat) (xs : List Int) (a : Option Addr) (n cap : Nat) (c0 : Ch) (d : Option Nat) (hr : ∀ x ∈ xs, 0 ≤ x ∧ x < 256) (hd : ∀ w', c0.holds w' → SlAt u8c 1 Any w' ⟨a, cap, xs⟩)
    (K : Lg P N (putE env d (.string (strOf xs))) ds A ops (l.drop 1) s Q) (hn : xs.length = n := by rfl) (h : convA P N ops env l = some (a, n, cap, d) := by as_aux_lemma => kernel_rfl) (hk : A.σ[k]? = some c0 := by rfl) : Lg P N env ds A ops l s Q := by
  intro a0 w hst
  cases l with
  | nil => cases h
  | cons o l =>
    simp only [convA] at h
    split at h
    · rename_i src dst x hop hw hkn hdst
      split at h
      · rename_i e a1 n1 cap1 hs hd1 hx
        split at h
        · rename_i he
          simp only [Option.some.injEq, Prod.mk.injEq] at h
          obtain ⟨rfl, rfl, rfl, rfl⟩ := h
          have hsl := hd w (hst.mem.at hk)
          have hrun : (convert src dst (.slice a1 n1 cap1)).run P w = .ok (.string (strOf xs)) w := by
            subst hn
            by_cases h0 : xs = []
            · subst h0
              have := run_convert_bytes_string (P := P) w src dst e a1 0 cap1 hs he hd1
              rw [show ([] : List Int).length = 0 from rfl, this]
              cases a1 <;> simp [Conv.bytesToString, Builtin.firstCells, loadCells, loadCellsFrom, strOf] <;> rfl
            · obtain ⟨b, off, ha, -, hc⟩ := hsl.cells h0
              simp only at ha
              subst ha
              have := run_convert_bytes_back (P := P) w src dst e ⟨b, off, none⟩ cap1 (xs.map (fun x => UInt8.ofNat x.toNat)) hs he hd1 (fun j hj => by
                rw [List.length_map] at hj
                have h1 := hc j hj 0 (.int .u8 xs[j]) rfl
                rw [offs_eq, Nat.mul_one, Nat.add_zero] at h1
                rw [addr_eta rfl, h1, List.getElem_map]
                have h2 := hr xs[j] (List.getElem_mem hj)
                congr 2
                rw [UInt8.toNat_ofNat_of_lt' (by show _ < 256; omega)]
                omega)
              rw [List.length_map] at this
              exact this
          have hr2 : (execOp a0.eval o).run P w = .ok (.value (.string (strOf xs))) w := by
            rw [eval_congr hst hkn]
            unfold execOp
            simp only [hop, hx, Sem.run_bind, hrun, Result.andThen_ok, Sem.run_pure]
          refine step_yields (wantE_sound hw hst) (.inl hr2) ?_
          exact K _ _ (hst.put hst.mem _ hdst _)
        · cases h
      · cases h
    · cases h
/-- copy of as many things as there is room for. -/
def copyOf (o : Oper) : Option (Operand × Operand × TypeId × TypeId) := match o.op with
  | .call c => match c.callee, c.args.toList, c.argTypes.toList with
    | .builtin .copy, [x, y], [t, u] => some (x, y, t, u)
    | _, _, _ => none
  | _ => none
theorem copyOf_spec {o : Oper} {x y : Operand} {t u : TypeId} (h : copyOf o = some (x, y, t, u)) : o.op = .call { callee := .builtin .copy, args := #[x, y], argTypes := #[t, u] } := by
  unfold copyOf at h
  split at h
  · rename_i c hop
    split at h
    · rename_i x' y' t' u' h1 h2 h3
      simp only [Option.some.injEq, Prod.mk.injEq] at h
      obtain ⟨rfl, rfl, rfl, rfl⟩ := h
      obtain ⟨c1, c2, c3⟩ := c
      simp only at h1 h2 h3
      rw [hop, h1]
      congr 2
      · apply Array.ext'; rw [h2]
      · apply Array.ext'; rw [h3]
    · cases h
  · cases h
def copyA (P : Program) (N : Nat) (ops : Array Oper) (env : Env) (o : Oper) : Option (TypeId × Nat × Nat × Nat × Option Addr × Nat × Nat) := match copyOf o, wantE ops env o, knownOp env o, inN N o.dst with
  | some (x, y, t, _), some true, true, true => match P.underlying t, evalE env x, evalE env y with
    | some (.slice e), .slice (some ⟨g, 0, none⟩) n c, .slice ya m cp => match P.info? e with
      | some f => match Nat.beq f.size 1 with
        | true => some (e, g, n, c, ya, m, cp)
        | false => none
      | none => none
    | _, _, _ => none
  | _, _, _, _ => none
theorem copyA_run {α : Type} {base : Nat} {o : Oper} {e : TypeId} {g n c' m cp : Nat} {ya : Option Addr} (h : copyA P N ops env o = some (e, g, n, c', ya, m, cp)) {i : Nat} {cells : α → List Value} {xs ys : List α} {a : Act} {w : World} (hst : St N env ds A a w)
    (hi : A.σ[i]? = some (rowL base e 1 cells (.slice (some ⟨g, 0, none⟩) n c') xs)) (hsz : ∀ x, (cells x).length = 1) (h1 : ∀ x, ∀ u ∈ cells x, u.oneCell' = true) (hd : SlAt cells 1 Any w ⟨ya, cp, ys⟩) (hm : ys.length = m) (hn : xs.length = n) (hmn : m = n) :
    Region.wanted o (yielded ops a.tmps) = true ∧ inN N o.dst = true ∧ ∃ w', (execOp a.eval o).run P w = .ok (.value (.int .i64 (n : Int))) w' ∧ A.n ≤ w'.heap.size ∧ Sat { A with n := w'.heap.size, σ := A.σ.set i (rowL base e 1 cells (.slice (some ⟨g, 0, none⟩) n c') ys) } w' := by
  unfold copyA at h
  split at h
  · rename_i x y t u hop0 hw hk hd0
    have hop := copyOf_spec hop0
    split at h
    · rename_i e' g' n' c2 ya' m' cp' ht hx hy
      split at h
      · rename_i f' hf
        split at h
        · rename_i hs1
          simp only [Option.some.injEq, Prod.mk.injEq] at h
          obtain ⟨rfl, rfl, rfl, rfl, rfl, rfl, rfl⟩ := h
          subst hmn
          refine ⟨wantE_sound hw hst, hd0, ?_⟩
          rw [eval_congr hst hk]
          have hinfo : (P.info? e').map (·.size) = some 1 := by rw [hf]; exact congrArg some (Nat.eq_of_beq_eq_true hs1)
          have hfl : ∀ zs : List α, (zs.flatMap cells).length = zs.length := by
            intro zs
            induction zs with
            | nil => rfl
            | cons z zs ih => rw [List.flatMap_cons, List.length_append, hsz, ih, List.length_cons]; omega
          by_cases h0 : ys = []
          · subst h0
            have hm0 : m' = 0 := by simpa using hm.symm
            subst hm0
            have hx0 : xs = [] := List.eq_nil_of_length_eq_zero hn
            subst hx0
            refine ⟨w, ?_, by rw [hst.mem.size]; exact Nat.le_refl _, ?_⟩
            · unfold execOp
              simp only [hop, resolve, invoke, builtin, Sem.run_bind, Sem.run_pure, Result.andThen_ok, List.map_toArray, List.map_cons, List.map_nil, hy, hx, run_copy_none (P := P) w t u o.type e' (some ⟨g', 0, none⟩) ya' 0 c2 0 cp' ht hinfo rfl]
              rfl
            · rw [hst.mem.size]
              obtain ⟨hlt, hix⟩ := List.getElem?_eq_some_iff.1 hi
              rw [← hix, List.set_getElem_self]; exact hst.mem
          · obtain ⟨b, off, ha, -, -⟩ := hd.cells h0
            simp only at ha
            subst ha
            have hown : w.ownsRow base e' 1 (.slice (some ⟨g', 0, none⟩) m' c2) xs.length (xs.flatMap cells) := hst.mem.at hi
            have hyp : 0 < ys.length := by
              rcases Nat.eq_zero_or_pos ys.length with h | h
              · exact absurd (List.eq_nil_of_length_eq_zero h) h0
              · exact h
            rcases hown.2 with ⟨h2, h3⟩ | ⟨g2, cap2, cur, h2, hbg, hg, hnc, hcm, hcs, htake⟩
            · cases h2
            · cases h2
              have hcl : (ys.flatMap cells).length = xs.length := by rw [hfl, hm]
              have hr := run_copy_row (P := P) w t u o.type e' g' 0 xs.length c2 ⟨b, off, none⟩ xs.length cp' cur e' (ys.flatMap cells) ht hinfo hg (by rw [hcl]; exact (Nat.min_self _).symm) (sl_news hsz hd rfl) (by rw [hcl, hcs]; omega) (fun v hv => by
                obtain ⟨q, -, hq⟩ := List.mem_flatMap.1 hv
                exact h1 q v hq)
              have hk' : Keeps (fun k => k = g') w (w.setRow g' (cur.toList.take 0 ++ ys.flatMap cells ++ cur.toList.drop (0 + (ys.flatMap cells).length)).toArray) :=
                ⟨rfl, rfl, rfl, by simp [World.setRow], fun k _ hkg => setRow_other w g' k _ hkg⟩
              have ho : (w.setRow g' (cur.toList.take 0 ++ ys.flatMap cells ++ cur.toList.drop (0 + (ys.flatMap cells).length)).toArray).ownsRow base e' 1 (.slice (some ⟨g', 0, none⟩) xs.length c2) ys.length (ys.flatMap cells) := by
                refine ⟨by rw [hfl, Nat.mul_one], .inr ⟨g', c2, _, by rw [hm], hbg, setRow_heap w g' cur _ e' _ hg, by omega, hcm, ?_, ?_⟩⟩
                · simp only [List.size_toArray, List.length_append, List.length_take, List.length_drop, Array.length_toList, hcl]
                  omega
                · simp only [List.take_zero, List.nil_append, Nat.zero_add, Nat.mul_one]
                  rw [show ys.length = (ys.flatMap cells).length from (hfl ys).symm]
                  exact List.take_left
              refine ⟨_, ?_, by rw [← hst.mem.size]; exact hk'.size, ?_⟩
              · unfold execOp
                simp only [hop, resolve, invoke, builtin, Sem.run_bind, Sem.run_pure, Result.andThen_ok, List.map_toArray, List.map_cons, List.map_nil, hy, hx, hr, hcl]
                rfl
              · exact hst.mem.growN hi rfl rfl ⟨hk'.os, hk'.tape, hk'.output, hk'.size, fun b hb hS => hk'.block b hb (fun e1 => hS (by rw [e1]; rfl))⟩ ho (row_stable _ _ _ _ _ _) (fun b hb => .inl hb) (fun b hb => (ho.lt b hb).2)
        · cases h
      · cases h
    · cases h
  · cases h
theorem l_copy {α : Type} (base i k : Nat) (xs ys : List α) (ya : Option Addr) (cells : α → List Value) (e : TypeId) (g n c' m cp : Nat) (c0 : Ch) (d : Option Nat) (hn : xs.length = n) (hmn : m = n) (hd : ∀ w', c0.holds w' → SlAt cells 1 Any w' ⟨ya, cp, ys⟩)
    (K : ∀ n', A.n ≤ n' → Lg P N (putE env d (.int .i64 (n : Int))) ds { A with n := n', σ := A.σ.set i (rowL base e 1 cells (.slice (some ⟨g, 0, none⟩) n c') ys) } ops (l.drop 1) s Q)
    (hm : ys.length = m := by rfl) (h : (match l with | o :: _ => (copyA P N ops env o).map (fun x => (x, o.dst)) | [] => none) = some ((e, g, n, c', ya, m, cp), d) := by as_aux_lemma => kernel_rfl) (hi : A.σ[i]? = some (rowL base e 1 cells (.slice (some ⟨g, 0, none⟩) n c') xs) := by rfl) (hk : A.σ[k]? = some c0 := by rfl) (hsz : ∀ x, (cells x).length = 1 := by intro _; rfl) (h1 : ∀ x, (cells x).all Value.oneCell' = true := by intro _; rfl) : Lg P N env ds A ops l s Q := by
  intro a w hst
  cases l with
  | nil => cases h
  | cons o l =>
    simp only [Option.map_eq_some_iff] at h
    obtain ⟨y, hy, h⟩ := h
    simp only [Prod.mk.injEq] at h
    obtain ⟨rfl, rfl⟩ := h
    obtain ⟨hw, hdst, w', hr, hsz', hs'⟩ := copyA_run (xs := xs) (ys := ys) hy hst hi hsz (fun x u hu => List.all_eq_true.1 (h1 x) u hu) (hd w (hst.mem.at hk)) hm hn hmn
    refine step_yields hw (.inl hr) ?_
    exact K _ hsz' _ _ (hst.put hs' _ hdst _)
end
end Go.Proofs.YtnjhekfgmbpmlaaDoor.Eng
