/- What is read, plain; a reader's row. No conditions. -/
import Derived.Test.YtmmkacfeocnblaaWe
import Derived.Test.YtmmkacfeocnblaaEngS
namespace Go.Proofs.Ytmmkacfeocnblaa.Ly
open Go Go.Proofs.Ytmmkacfeocnblaa.Eng Go.Proofs.Ytmmkacfeocnblaa.Mem
set_option linter.unusedSimpArgs false
set_option linter.unusedVariables false
set_option maxRecDepth 100000

/-- What reading says: a thing and the place behind it, or the place where it ends. -/
inductive PR (α : Type) where
  | ok (x : α) (at' : Nat)
  | no (at' : Nat)
def PR.bind {α β : Type} (r : PR α) (f : α → Nat → PR β) : PR β := match r with
  | .ok x a => f x a
  | .no a => .no a
theorem PR.bind_ok {α β : Type} (x : α) (a : Nat) (f : α → Nat → PR β) : (PR.ok x a).bind f = f x a := rfl
theorem PR.bind_no {α β : Type} (a : Nat) (f : α → Nat → PR β) : (PR.no a : PR α).bind f = .no a := rfl
/-- The number that j of k bytes tell, the highest first. -/
def hv (b : List Int) (at' k : Nat) : Nat → Int
  | 0 => 0
  | j + 1 => hv b at' k j * 256 + gd b ((at' : Int) + ((k : Int) - 1 - (j : Int))).toNat
def leV (b : List Int) (at' k : Nat) : Int := hv b at' k k
def Byt (xs : List Int) : Prop := ∀ x ∈ xs, 0 ≤ x ∧ x < 256
theorem byt_gd {b : List Int} (h : Byt b) (i : Nat) : 0 ≤ gd b i ∧ gd b i < 256 := by
  by_cases hi : i < b.length
  · rw [gd_eq hi]; exact h _ (List.getElem_mem hi)
  · have h0 : gd b i = 0 := by unfold Eng.gd; rw [List.getD_eq_getElem?_getD, List.getElem?_eq_none (by omega)]; rfl
    omega
theorem hv_bd {b : List Int} (h : Byt b) (at' k : Nat) : ∀ j : Nat, 0 ≤ hv b at' k j ∧ hv b at' k j < 256 ^ j
  | 0 => by simp [hv]
  | j + 1 => by
    have h1 := hv_bd h at' k j
    have h2 := byt_gd h ((at' : Int) + ((k : Int) - 1 - (j : Int))).toNat
    rw [hv, Int.pow_succ]
    omega
theorem hv_bd4 {b : List Int} (h : Byt b) (at' k j : Nat) (hj : j ≤ 4) : 0 ≤ hv b at' k j ∧ hv b at' k j ≤ 4294967295 ∧ (j ≤ 3 → hv b at' k j ≤ 16777215) ∧ (j ≤ 1 → hv b at' k j ≤ 255) := by
  have h1 := hv_bd h at' k j
  rcases (by omega : j = 0 ∨ j = 1 ∨ j = 2 ∨ j = 3 ∨ j = 4) with rfl | rfl | rfl | rfl | rfl <;> simp at h1 <;> omega
theorem leV_bd {b : List Int} (h : Byt b) (at' : Nat) : 0 ≤ leV b at' 4 ∧ leV b at' 4 ≤ 4294967295 := by
  have := hv_bd4 h at' 4 4 (by omega)
  unfold leV; omega
theorem leV_one {b : List Int} (at' : Nat) : leV b at' 1 = gd b at' := by
  unfold leV hv hv
  rw [show ((at' : Int) + (((1 : Nat) : Int) - 1 - ((0 : Nat) : Int))).toNat = at' from by omega]; omega
theorem or_is {n x : Int} (h0 : 0 ≤ n) (h1 : n ≤ 16777215) (h2 : 0 ≤ x) (h3 : x < 256) : IntKind.u64.wrap ((BitVec.ofInt IntKind.u64.bits (n * 256) ||| BitVec.ofInt IntKind.u64.bits x).toNat) = n * 256 + x := by
  obtain ⟨a, rfl⟩ := Int.eq_ofNat_of_zero_le h0
  obtain ⟨c, rfl⟩ := Int.eq_ofNat_of_zero_le h2
  have e1 : (BitVec.ofInt IntKind.u64.bits ((a : Int) * 256)).toNat = 256 * a := by
    rw [BitVec.toNat_ofInt]; show (((a : Int) * 256) % ((2 ^ 64 : Nat) : Int)).toNat = _; omega
  have e2 : (BitVec.ofInt IntKind.u64.bits (c : Int)).toNat = c := by
    rw [BitVec.toNat_ofInt]; show ((c : Int) % ((2 ^ 64 : Nat) : Int)).toNat = _; omega
  rw [BitVec.toNat_or, e1, e2]
  have e3 : 256 * a ||| c = 256 * a + c := (Nat.two_pow_add_eq_or_of_lt (i := 8) (by omega) a).symm
  rw [e3]
  exact wr_u64 (by omega) (by omega) (by omega)
/-- A reader: its block, its row's, the bytes; its own blocks F. -/
def RdIs (w : World) (pr : Nat) (F : Nat → Prop) (b : List Int) (at' : Nat) (fl : Int) : Prop :=
  ∃ (po : Nat) (l : Sl Int), l.xs = b ∧ At w pr (.cells #[.pointer (some ⟨po, 0, none⟩), .int .i64 fl] 130 (0, 0)) ∧ At w po (.cells #[.slice l.a l.xs.length l.cap, .int .i64 (at' : Nat)] 106 (0, 0)) ∧ SlAt u8c 1 (fun x => F x ∧ x ≠ pr ∧ x ≠ po) w l ∧ pr ≠ po ∧ F pr ∧ F po ∧ at' ≤ b.length ∧ Byt b ∧ b.length ≤ 16384 ∧ (∀ x, F x → x < w.heap.size)
theorem RdIs.le {w : World} {pr : Nat} {F : Nat → Prop} {b : List Int} {at' : Nat} {fl : Int} (h : RdIs w pr F b at' fl) : at' ≤ b.length := by obtain ⟨_, _, -, -, -, -, -, -, -, h, -⟩ := h; exact h
theorem RdIs.byt {w : World} {pr : Nat} {F : Nat → Prop} {b : List Int} {at' : Nat} {fl : Int} (h : RdIs w pr F b at' fl) : Byt b := by obtain ⟨_, _, -, -, -, -, -, -, -, -, h, -⟩ := h; exact h
theorem RdIs.len {w : World} {pr : Nat} {F : Nat → Prop} {b : List Int} {at' : Nat} {fl : Int} (h : RdIs w pr F b at' fl) : b.length ≤ 16384 := by obtain ⟨_, _, -, -, -, -, -, -, -, -, -, h, -⟩ := h; exact h
theorem RdIs.bound {w : World} {pr : Nat} {F : Nat → Prop} {b : List Int} {at' : Nat} {fl : Int} (h : RdIs w pr F b at' fl) : ∀ x, F x → x < w.heap.size := by obtain ⟨_, _, -, -, -, -, -, -, -, -, -, -, h⟩ := h; exact h
theorem RdIs.same {w w' : World} {pr : Nat} {F : Nat → Prop} {b : List Int} {at' : Nat} {fl : Int} (h : RdIs w pr F b at' fl) (hb : ∀ b, F b → w'.heap[b]? = w.heap[b]?) : RdIs w' pr F b at' fl := by
  obtain ⟨po, l, e, h1, h2, h3, h4, h5, h6, h7, h8, h9, h10⟩ := h
  refine ⟨po, l, e, (hb _ h5).trans h1, (hb _ h6).trans h2, sl_mono (fun x k v hx hv => cell_of (hb x hx.1) hv) (fun _ h => h) h3, h4, h5, h6, h7, h8, h9, fun x hx => ?_⟩
  have g1 := h10 x hx
  have g2 := hb x hx
  rcases Nat.lt_or_ge x w'.heap.size with h3 | h3
  · exact h3
  · rw [Array.getElem?_eq_none h3, Array.getElem?_eq_getElem g1] at g2; cases g2
def rdC (pr : Nat) (F : Nat → Prop) (b : List Int) (at' : Nat) (fl : Int) : Ch := .inv F (fun w => RdIs w pr F b at' fl) true
theorem rd_stable (pr : Nat) (F : Nat → Prop) (b : List Int) (at' : Nat) (fl : Int) : (rdC pr F b at' fl).stable := fun w w' h hw => RdIs.same hw h
theorem sat_rdC {w : World} {pr : Nat} {F : Nat → Prop} {b : List Int} {at' : Nat} {fl : Int} (h : RdIs w pr F b at' fl) : Sat ⟨w, w.heap.size, [old F w, rdC pr F b at' fl]⟩ w :=
  sat_oldS w _ _ (fun c hc => by
    simp only [List.mem_singleton] at hc; subst hc
    exact ⟨h, rd_stable _ _ _ _ _, fun b hb => ⟨h.bound b hb, hb⟩⟩) (by simp)
theorem sat_two {w : World} {p q : Nat} {cp cq : Array Value} {tp tq : TypeId} (hp : At w p (.cells cp tp (0, 0))) (hq : At w q (.cells cq tq (0, 0))) (hpq : p ≠ q) : Sat ⟨w, w.heap.size, [old (fun b => b = p ∨ b = q) w, .blk p (.cells cp tp (0, 0)) true, .blk q (.cells cq tq (0, 0)) true]⟩ w :=
  sat_oldS w _ _ (fun c hc => by
    simp only [List.mem_cons, List.not_mem_nil, or_false] at hc
    rcases hc with rfl | rfl
    · exact ⟨hp, Ch.stable_blk _ _ _, fun b hb => by
        have hb' : b = p := hb
        exact ⟨by rw [hb']; exact (Array.getElem?_eq_some_iff.1 hp).1, .inl hb'⟩⟩
    · exact ⟨hq, Ch.stable_blk _ _ _, fun b hb => by
        have hb' : b = q := hb
        exact ⟨by rw [hb']; exact (Array.getElem?_eq_some_iff.1 hq).1, .inr hb'⟩⟩) (by
    simp only [List.map_cons, List.map_nil, List.pairwise_cons, List.mem_singleton, forall_eq, List.not_mem_nil, false_imp_iff, implies_true, List.Pairwise.nil, and_true]
    intro _ b hb hb2
    have h1 : b = p := hb
    have h2 : b = q := hb2
    exact hpq (h1.symm.trans h2))
/-- The end of a call that has written into the reader's two blocks. -/
theorem rd_end {A : AW} {w w' : World} {pr po i j : Nat} {F : Nat → Prop} {l : Sl Int} {at0 at' : Nat} {fl0 fl : Int} (h : RdIs w pr F l.xs at0 fl0) (hW : Sat A w') (hw0 : A.w0 = w) (hn : w.heap.size ≤ A.n) (h0 : old (fun b => b = pr ∨ b = po) w ∈ A.σ) (h1 : A.σ[i]? = some (.blk pr (.cells #[.pointer (some ⟨po, 0, none⟩), .int .i64 fl] 130 (0, 0)) true)) (h2 : A.σ[j]? = some (.blk po (.cells #[.slice l.a l.xs.length l.cap, .int .i64 (at' : Nat)] 106 (0, 0)) true))
    (hne : pr ≠ po) (hFr : F pr) (hFo : F po) (hl : SlAt u8c 1 (fun x => F x ∧ x ≠ pr ∧ x ≠ po) w l) (hat : at' ≤ l.xs.length) : RdIs w' pr F l.xs at' fl ∧ Keeps F w w' := by
  have hk := hW.back hw0 hn h0
  have hsz : w.heap.size ≤ w'.heap.size := by rw [hW.size]; exact hn
  refine ⟨⟨po, l, rfl, hW.at h1, hW.at h2, sl_mono (fun x k v hx hv => old_cell hv (fun hc => hc.elim hx.2.1 hx.2.2) w' (hW.all _ h0)) (fun _ h => h) hl, hne, hFr, hFo, hat, h.byt, h.len, fun x hx => Nat.lt_of_lt_of_le (h.bound x hx) hsz⟩, hk.mono (fun b _ hb => ?_)⟩
  rcases hb with rfl | rfl
  · exact hFr
  · exact hFo
theorem rd_set {A : AW} {w w' : World} {i pr : Nat} {F : Nat → Prop} {b : List Int} {at0 at' : Nat} {fl0 fl : Int} (h : Sat A w) (hi : A.σ[i]? = some (rdC pr F b at0 fl0)) (hR : RdIs w' pr F b at' fl) (hk : Keeps F w w') : A.n ≤ w'.heap.size ∧ Sat { A with n := w'.heap.size, σ := A.σ.set i (rdC pr F b at' fl) } w' :=
  ⟨size_of h hk, h.growN hi rfl rfl hk hR (rd_stable _ _ _ _ _) (fun b hb => .inl hb) hR.bound⟩
def NumRaw (w : World) (pr po : Nat) (l : Sl Int) (at' k : Nat) (K : IntKind) (e : Ending) (w' : World) : Prop :=
  ((at' + k ≤ l.xs.length ∧ e = .returned (.int K (leV l.xs at' k)) ∧ At w' pr (.cells #[.pointer (some ⟨po, 0, none⟩), .int .i64 0] 130 (0, 0)) ∧ At w' po (.cells #[.slice l.a l.xs.length l.cap, .int .i64 ((at' + k : Nat) : Int)] 106 (0, 0))) ∨
   (l.xs.length < at' + k ∧ e = .returned (.int K 0) ∧ At w' pr (.cells #[.pointer (some ⟨po, 0, none⟩), .int .i64 12] 130 (0, 0)) ∧ At w' po (.cells #[.slice l.a l.xs.length l.cap, .int .i64 (at' : Nat)] 106 (0, 0)))) ∧ Keeps (fun b => b = pr ∨ b = po) w w'
theorem rd_fin {w w' : World} {pr po : Nat} {F : Nat → Prop} {l : Sl Int} {at0 at' : Nat} {fl0 fl : Int} (h : RdIs w pr F l.xs at0 fl0) (hk : Keeps (fun b => b = pr ∨ b = po) w w') (h1 : At w' pr (.cells #[.pointer (some ⟨po, 0, none⟩), .int .i64 fl] 130 (0, 0))) (h2 : At w' po (.cells #[.slice l.a l.xs.length l.cap, .int .i64 (at' : Nat)] 106 (0, 0)))
    (hne : pr ≠ po) (hFr : F pr) (hFo : F po) (hl : SlAt u8c 1 (fun x => F x ∧ x ≠ pr ∧ x ≠ po) w l) (hat : at' ≤ l.xs.length) : RdIs w' pr F l.xs at' fl ∧ Keeps F w w' := by
  have hsz := hk.size
  refine ⟨⟨po, l, rfl, h1, h2, sl_mono (fun x k v hx hv => cell_of (hk.block x (h.bound x hx.1) (fun hc => hc.elim hx.2.1 hx.2.2)) hv) (fun _ h => h) hl, hne, hFr, hFo, hat, h.byt, h.len, fun x hx => Nat.lt_of_lt_of_le (h.bound x hx) hsz⟩, hk.mono (fun b _ hb => ?_)⟩
  rcases hb with rfl | rfl
  · exact hFr
  · exact hFo
theorem Sat.pq2 {A : AW} {w w' : World} {i j p q : Nat} {cp cq : Array Value} {tp tq : TypeId} {kept : List Ch} (h : Sat A w) (is : List Nat) (hi : A.σ[i]? = some (.blk p (.cells cp tp (0, 0)) true)) (hj : A.σ[j]? = some (.blk q (.cells cq tq (0, 0)) true)) (hne : i ≠ j) (hnd : nodupB is = true) (hp : picks is A.σ = some kept) (hni : is.contains i = false) (hnj : is.contains j = false) {cp' cq' : Array Value} (h1 : At w' p (.cells cp' tp (0, 0))) (h2 : At w' q (.cells cq' tq (0, 0))) (hk : Keeps (fun b => b = p ∨ b = q) w w') :
    Sat { A with n := w'.heap.size, σ := kept ++ [.blk p (.cells cp' tp (0, 0)) true, .blk q (.cells cq' tq (0, 0)) true] } w' := by
  have hpk : picks [i, j] A.σ = some [.blk p (.cells cp tp (0, 0)) true, .blk q (.cells cq tq (0, 0)) true] := by simp [picks, hi, hj]
  refine h.turn is [i, j] hnd hp hpk (by
    rw [List.all_eq_true]
    intro k hk
    rw [List.contains_eq_mem] at hni hnj
    simp only [decide_eq_false_iff_not] at hni hnj
    simp only [List.contains_cons, List.contains_nil, Bool.or_false, Bool.not_eq_true', Bool.or_eq_false_iff, beq_eq_false_iff_ne]
    exact ⟨fun e => hni (e ▸ hk), fun e => hnj (e ▸ hk)⟩) (fun c hc => by simp only [List.mem_cons, List.not_mem_nil, or_false] at hc; rcases hc with rfl | rfl <;> rfl) (hk.mono (fun b _ hb => hb.elim (fun x => ⟨_, List.mem_cons_self .., x⟩) (fun x => ⟨_, List.mem_cons_of_mem _ (List.mem_cons_self ..), x⟩))) (fun c hc => by
    simp only [List.mem_cons, List.not_mem_nil, or_false] at hc
    rcases hc with rfl | rfl
    · exact ⟨h1, Ch.stable_blk _ _ _, fun b hb => by
        have hb' : b = p := hb
        subst hb'
        exact ⟨(Array.getElem?_eq_some_iff.1 h1).1, .inl ⟨_, List.mem_cons_self .., rfl⟩⟩⟩
    · exact ⟨h2, Ch.stable_blk _ _ _, fun b hb => by
        have hb' : b = q := hb
        subst hb'
        exact ⟨(Array.getElem?_eq_some_iff.1 h2).1, .inl ⟨_, List.mem_cons_of_mem _ (List.mem_cons_self ..), rfl⟩⟩⟩) ?_
  simp only [List.map_cons, List.map_nil, List.pairwise_cons, List.mem_singleton, forall_eq, List.not_mem_nil, false_imp_iff, implies_true, List.Pairwise.nil, and_true]
  intro _ b hb hb2
  exact h.two hi hj hne rfl b hb hb2
def NumPost (w : World) (pr : Nat) (F : Nat → Prop) (b : List Int) (at' k : Nat) (K : IntKind) (e : Ending) (w' : World) : Prop :=
  (at' + k ≤ b.length ∧ e = .returned (.int K (leV b at' k)) ∧ RdIs w' pr F b (at' + k) 0 ∧ Keeps F w w') ∨ (b.length < at' + k ∧ e = .returned (.int K 0) ∧ RdIs w' pr F b at' 12 ∧ Keeps F w w')
theorem rowleft_calls (w : World) (po : Nat) (l : Sl Int) (at0 : Nat) (h2 : At w po (.cells #[.slice l.a l.xs.length l.cap, .int .i64 (at0 : Nat)] 106 (0, 0))) (hat : at0 ≤ l.xs.length) (hlen : l.xs.length ≤ 16384) : Calls Try.prog 82 #[.pointer (some ⟨po, 0, none⟩)] w fun e w' => e = .returned (.int .i64 ((l.xs.length : Int) - (at0 : Nat))) ∧ Keeps (fun _ => False) w w' := by
 obtain ⟨z, hz⟩ : ∃ z, z = w.heap.size := ⟨_, rfl⟩
 refine calls_G (args := [pt po]) 15 ⟨w, z, [(old0 w)]⟩ Try.func82 rfl (by kernel_rfl) (by kernel_rfl) (sat_0 hz) ?_
 have hpo : ∀ k v, [Value.slice l.a l.xs.length l.cap, i6 (at0 : Nat)][k]? = some v → w.cell? ⟨po, 0 + k, none⟩ = some v := fun k v hv => by rw [Nat.zero_add]; exact h2.cell (by rw [← List.getElem?_toArray] at hv; exact hv)
 refine g_keep [0] [(0, pt po)] ?_
 refine q_cS 13 0 [0] [[o0], [o0, o0]] [] [(0, pt po), (4, .bool false)] rfl trivial ?_
 refine g_draw 11 [0] [(old0 w)] rfl rfl ?_
 refine w_take [(0, o0), (1, o0), (2, o0), (3, (oa [.via 0 (.slice l.a l.xs.length l.cap)])), (4, o0), (5, o0), (6, o0), (7, o0), (8, (oa [.via 0 (i6 (at0 : Int))])), (9, (ov (i6 (((l.xs.length : Nat) : Int) - (at0 : Int))))), (10, o0)] [2] [Old w po 0 (.slice l.a l.xs.length l.cap), Old w po 1 (i6 (at0 : Int)), Wr ((((l.xs.length : Nat) : Int) : Int) - (at0 : Int)) (((l.xs.length : Nat) : Int) - (at0 : Int))] [true, true, true, true, true, true, true, true, true, true, true] [(2, i6 (((l.xs.length : Nat) : Int) - (at0 : Int)))] rfl (by as_aux_lemma => kernel_rfl) (by as_aux_lemma => kernel_rfl) ⟨old_cell' (hpo 0 _ rfl), old_cell' (hpo 1 _ rfl), wrI, trivial⟩ ?_
 refine w_done (by as_aux_lemma => kernel_rfl) ?_
 refine e_keep [2] [(2, i6 (((l.xs.length : Nat) : Int) - (at0 : Int)))] ?_
 refine e_seq <| g_ret <| e_ret [] [] (i6 (((l.xs.length : Nat) : Int) - (at0 : Int))) trivial ?_
 intro w1 hw1
 exact ⟨rfl, back0 hw1⟩
theorem rowat_calls (w : World) (po : Nat) (l : Sl Int) (at0 : Nat) (h2 : At w po (.cells #[.slice l.a l.xs.length l.cap, .int .i64 (at0 : Nat)] 106 (0, 0))) (hat : at0 ≤ l.xs.length) (hlen : l.xs.length ≤ 16384) : Calls Try.prog 80 #[.pointer (some ⟨po, 0, none⟩)] w fun e w' => e = .returned (.int .i64 (at0 : Nat)) ∧ Keeps (fun _ => False) w w' := by
 obtain ⟨z, hz⟩ : ∃ z, z = w.heap.size := ⟨_, rfl⟩
 refine calls_G (args := [pt po]) 9 ⟨w, z, [(old0 w)]⟩ Try.func80 rfl (by kernel_rfl) (by kernel_rfl) (sat_0 hz) ?_
 have hpo : ∀ k v, [Value.slice l.a l.xs.length l.cap, i6 (at0 : Nat)][k]? = some v → w.cell? ⟨po, 0 + k, none⟩ = some v := fun k v hv => by rw [Nat.zero_add]; exact h2.cell (by rw [← List.getElem?_toArray] at hv; exact hv)
 refine g_keep [0] [(0, pt po)] ?_
 refine q_cS 17 0 [0] [[o0], [o0, o0], [o0, o0, o0, (oa [.via 0 (i6 (at0 : Int))]), o0]] [Old w po 1 (i6 (at0 : Int))] [(2, i6 (at0 : Int))] rfl ⟨old_cell' (hpo 1 _ rfl), trivial⟩ ?_
 refine e_ret [] [] (i6 (at0 : Int)) trivial ?_
 intro w1 hw1
 exact ⟨rfl, back0 hw1⟩

end Go.Proofs.Ytmmkacfeocnblaa.Ly
