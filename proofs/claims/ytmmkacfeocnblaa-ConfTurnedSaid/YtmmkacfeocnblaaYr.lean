/- What is read lies there; both are told alike. No conditions. -/
import Derived.Test.YtmmkacfeocnblaaYq
import Derived.Test.YtmmkacfeocnblaaYp
namespace Go.Proofs.Ytmmkacfeocnblaa.Ly
open Go Go.Proofs.Ytmmkacfeocnblaa.Eng Go.Proofs.Ytmmkacfeocnblaa.Mem
set_option linter.unusedSimpArgs false
set_option linter.unusedVariables false
set_option maxRecDepth 100000
theorem okW_has2 {x : TWindow} (h : okW x = true) (hI : InK .i64 x.Partition) : (-1 ≤ x.Partition ∧ x.Partition < 4294967295) ∧ (0 ≤ x.Usable ∧ x.Usable ≤ 4294967295) ∧ (0 ≤ x.Slack ∧ x.Slack ≤ 4294967295) ∧ encW x = leB (x.Partition + 1) 4 ++ leB x.Usable 4 ++ leB x.Slack 4 := by
  rw [okW_is hI] at h
  simp only [Bool.and_eq_true, decide_eq_true_eq] at h
  obtain ⟨⟨h1, h2⟩, h3, h4⟩ := h
  refine ⟨⟨h1, h2⟩, okNum_yes h3, okNum_yes h4, ?_⟩
  unfold encW
  rw [wr_i64 (b := x.Partition + 1) rfl (by omega) (by omega)]
theorem okNum_iff {n : Int} : okNum n = true ↔ 0 ≤ n ∧ n ≤ 4294967295 := by unfold okNum; simp
theorem okLst_iff {α : Type} {ok : α → Bool} {P : α → Prop} {xs : List α} (h : ∀ x ∈ xs, (ok x = true ↔ P x)) : okLst ok xs = true ↔ okl P xs := by
  unfold okLst okl
  simp only [Bool.and_eq_true, decide_eq_true_eq, List.all_eq_true]
  exact ⟨fun ⟨a, b⟩ => ⟨a, fun x hx => (h x hx).1 (b x hx)⟩, fun ⟨a, b⟩ => ⟨a, fun x hx => (h x hx).2 (b x hx)⟩⟩
theorem okl_map {α β : Type} {f : α → β} {P : β → Prop} {xs : List α} : okl P (xs.map f) ↔ okl (fun x => P (f x)) xs := by
  unfold okl; simp
theorem encLst_map {α β : Type} {f : α → β} {e1 : α → List Int} {e2 : β → List Int} {xs : List α} (h : ∀ x ∈ xs, e1 x = e2 (f x)) : encLst e1 xs = encLst e2 (xs.map f) := by
  unfold encLst
  rw [List.length_map, List.flatMap_map]
  congr 1
  induction xs with
  | nil => rfl
  | cons x xs ih => rw [List.flatMap_cons, List.flatMap_cons, h x (List.mem_cons_self ..), ih (fun y hy => h y (List.mem_cons_of_mem _ hy))]
def PInK (c : TConfig) : Prop := ∀ s ∈ c.Cores.xs, ∀ x ∈ s.xs, InK .i64 x.Partition
theorem okW_iff {x : TWindow} (hI : InK .i64 x.Partition) : okW x = true ↔ okw x := by
  rw [okW_is hI]
  unfold okw
  simp only [Bool.and_eq_true, decide_eq_true_eq, okNum_iff]
  omega
theorem encW_is {x : TWindow} (hI : InK .i64 x.Partition) (h : okw x) : encW x = encW2 x := (okW_has2 ((okW_iff hI).2 h) hI).2.2.2
theorem okPt_iff {x : TPartition} : okPt x = true ↔ okPP (plP x) := by
  unfold okPt okPP plP ns5
  simp only [Bool.and_eq_true, decide_eq_true_eq, List.all_cons, List.all_nil, and_true, okNum_iff]
  rw [okLst_iff (P := okr) (fun x _ => by unfold okR okr; simp only [Bool.and_eq_true, okNum_iff]; omega), okLst_iff (P := okp) (fun x _ => by unfold okP okp; exact okNum_iff)]
  exact ⟨fun ⟨⟨⟨a, b⟩, c⟩, d⟩ => ⟨a, b.1, b.2.1, b.2.2.1, b.2.2.2.1, b.2.2.2.2, c, d⟩, fun ⟨a, b1, b2, b3, b4, b5, c, d⟩ => ⟨⟨⟨a, b1, b2, b3, b4, b5⟩, c⟩, d⟩⟩
theorem okCf_iff {c : TConfig} (hI : PInK c) : okCf c = true ↔ okPC (plC c) := by
  unfold okCf okPC plC ns4
  simp only [Bool.and_eq_true, List.all_cons, List.all_nil, and_true, okNum_iff, okl_map]
  rw [okLst_iff (P := fun x : Sl TWindow => okl okw x.xs) (fun s hs => by unfold okWs; exact okLst_iff (fun x hx => okW_iff (hI s hs x hx))), okLst_iff (P := fun x => okPP (plP x)) (fun x _ => okPt_iff), okLst_iff (P := okh) (fun x _ => by unfold okC okh; simp only [Bool.and_eq_true, okNum_iff]; omega)]
  exact ⟨fun ⟨⟨⟨b, c⟩, d⟩, e⟩ => ⟨b.1, b.2.1, b.2.2.1, b.2.2.2, c, d, e⟩, fun ⟨b1, b2, b3, b4, c, d, e⟩ => ⟨⟨⟨⟨b1, b2, b3, b4⟩, c⟩, d⟩, e⟩⟩
theorem encPt_is (x : TPartition) : encPt x = encPP (plP x) := by
  unfold encPt encPP plP ns5
  simp only [List.flatMap_cons, List.flatMap_nil, List.append_nil, List.append_assoc]
theorem encB_is {c : TConfig} (hI : PInK c) (h : okPC (plC c)) : encB c = encPC (plC c) := by
  have hf : formB c = formP (plC c) := by
    unfold formB formP encCC
    have e1 : encLst encWs c.Cores.xs = encLst (encLst encW2) (plC c).Cores := encLst_map (fun s hs => by
      unfold encWs
      have := encLst_map (f := id) (e1 := encW) (e2 := encW2) (xs := s.xs) (fun x hx => encW_is (hI s hs x hx) ((h.2.2.2.2.1.2 s.xs (List.mem_map_of_mem hs)).2 x hx))
      rw [List.map_id] at this; exact this)
    have e2 : encLst encPt c.Partitions.xs = encLst encPP (plC c).Partitions := encLst_map (fun x _ => encPt_is x)
    rw [e1, e2]
    unfold ns4 plC
    simp only [List.flatMap_cons, List.flatMap_nil, List.append_nil, List.append_assoc]
  unfold encB encPC
  rw [hf]
theorem ink {x : Int} (h0 : -1 ≤ x) (h1 : x ≤ 4294967295) : InK .i64 x := by show -9223372036854775808 ≤ x ∧ x ≤ 9223372036854775807; omega
theorem pink_of_ok {w : World} {c : TConfig} (h : TConfig.ok Any w c) : PInK c := by
  intro s hs x hx
  obtain ⟨i, hi, rfl⟩ := List.getElem_of_mem hs
  have h1 := h.Cores.2 i hi
  rw [gd_eq hi] at h1
  obtain ⟨j, hj, rfl⟩ := List.getElem_of_mem hx
  have h2 := h1.2 j hj
  rw [gd_eq hj] at h2
  exact h2.Partition
theorem pink_of_plain {c : TConfig} (h : okPC (plC c)) : PInK c := by
  intro s hs x hx
  have h1 := (h.2.2.2.2.1.2 s.xs (List.mem_map_of_mem hs)).2 x hx
  exact ink h1.1.1 (by have := h1.1.2; omega)
theorem row_ok {α : Type} [Inhabited α] {z : Nat} {e : TypeId} {sz : Nat} {cells : α → List Value} {a : Option Addr} {cap : Nat} {xs : List α} {w : World} {ok : (Nat → Prop) → World → α → Prop} (h : (rowL z e sz cells (.slice a xs.length cap) xs).holds w) (hsz : ∀ x, (cells x).length = sz) (hl : xs.length ≤ 255) (hok : ∀ x ∈ xs, ok Any w x) : SlOk cells sz ok Any w ⟨a, cap, xs⟩ :=
  ⟨row_slF hsz h (by omega) (fun _ _ => trivial), fun i hi => by rw [gd_eq hi]; exact hok _ (List.getElem_mem hi)⟩
theorem win_ok {w : World} {x : TWindow} (h : okw x) : TWindow.ok Any w x := ⟨ink h.1.1 (by have := h.1.2; omega), ink (by have := h.2.1.1; omega) h.2.1.2, ink (by have := h.2.2.1; omega) h.2.2.2⟩
theorem reg_ok {w : World} {x : TRegion} (h : okr x) : TRegion.ok Any w x := ⟨ink (by have := h.1.1; omega) h.1.2, ink (by have := h.2.1.1; omega) h.2.1.2, ink (by have := h.2.2.1.1; omega) h.2.2.1.2, ink (by have := h.2.2.2.1; omega) h.2.2.2.2⟩
theorem port_ok {w : World} {x : TPort} (h : okp x) : TPort.ok Any w x := ⟨ink (by have := h.1; omega) h.2, trivial⟩
theorem chan_ok {w : World} {x : TChannel} (h : okh x) : TChannel.ok Any w x := ⟨ink (by have := h.1.1; omega) h.1.2, ink (by have := h.2.1.1; omega) h.2.1.2, ink (by have := h.2.2.1; omega) h.2.2.2⟩
/-- A configuration that was read lies there. -/
theorem conf_ok {z : Nat} {w : World} {c : TConfig} (h : ∀ f ∈ confFs c, (f z).holds w) (ho : okPC (plC c)) : TConfig.ok Any w c := by
  obtain ⟨o1, o2, o3, o4, o5, o6, o7⟩ := ho
  have l5 : c.Cores.xs.length ≤ 255 := by have := o5.1; simpa [plC] using this
  have l6 : c.Partitions.xs.length ≤ 255 := by have := o6.1; simpa [plC] using this
  simp only [confFs, coreFs, partsFs, List.cons_append, List.nil_append, List.mem_cons, List.not_mem_nil, or_false, forall_eq_or_imp, forall_eq] at h
  obtain ⟨h1, h2, h3, h4, h5, h6⟩ := h
  have g2 : ∀ s ∈ c.Cores.xs, w.ownsRow z _ _ s.val s.xs.length (s.xs.flatMap TWindow.cells) := h2.1
  have g4 : ∀ s ∈ c.Partitions.xs.map TPartition.Regions, w.ownsRow z _ _ s.val s.xs.length (s.xs.flatMap TRegion.cells) := h4.1
  have g5 : ∀ s ∈ c.Partitions.xs.map TPartition.Ports, w.ownsRow z _ _ s.val s.xs.length (s.xs.flatMap TPort.cells) := h5.1
  refine ⟨ink (by have := o1.1; show -1 ≤ (plC c).Frames; omega) o1.2, ink (by have := o2.1; show -1 ≤ (plC c).Major; omega) o2.2, ink (by have := o3.1; show -1 ≤ (plC c).Kernel; omega) o3.2, ink (by have := o4.1; show -1 ≤ (plC c).Room; omega) o4.2, row_ok h1 (fun _ => rfl) l5 (fun s hs => ?_), row_ok h3 (fun _ => rfl) l6 (fun x hx => ?_), row_ok h6 (fun _ => rfl) o7.1 (fun x hx => chan_ok (o7.2 x hx))⟩
  · have k := o5.2 s.xs (List.mem_map_of_mem hs)
    exact row_ok (show (rowL z _ _ TWindow.cells (.slice s.a s.xs.length s.cap) s.xs).holds w from g2 s hs) (fun _ => rfl) k.1 (fun x hx => win_ok (k.2 x hx))
  · have k := o6.2 (plP x) (List.mem_map_of_mem hx)
    obtain ⟨k0, k1, k2, k3, k4, k5, k6, k7⟩ := k
    exact ⟨Nat.le_trans k0 (by decide), ink (by have := k1.1; show -1 ≤ (plP x).Entry; omega) k1.2, ink (by have := k2.1; show -1 ≤ (plP x).Action; omega) k2.2, ink (by have := k3.1; show -1 ≤ (plP x).Restarts; omega) k3.2, ink (by have := k4.1; show -1 ≤ (plP x).Inputs; omega) k4.2, ink (by have := k5.1; show -1 ≤ (plP x).Outputs; omega) k5.2,
      row_ok (show (rowL z _ _ TRegion.cells (.slice x.Regions.a x.Regions.xs.length x.Regions.cap) x.Regions.xs).holds w from g4 _ (List.mem_map_of_mem hx)) (fun _ => rfl) k6.1 (fun y hy => reg_ok (k6.2 y hy)),
      row_ok (show (rowL z _ _ TPort.cells (.slice x.Ports.a x.Ports.xs.length x.Ports.cap) x.Ports.xs).holds w from g5 _ (List.mem_map_of_mem hx)) (fun _ => rfl) k7.1 (fun y hy => port_ok (k7.2 y hy))⟩
theorem conf_sat {A : AW} {w : World} {z : Nat} {c : TConfig} (h : Sat A w) (is : List Nat) (ho : okPC (plC c)) (hp : picks is A.σ = some ((confFs c).map (· z)) := by rfl) : TConfig.ok Any w c := conf_ok (z := z) (fun f hf => h.all _ (picks_mem hp _ (List.mem_map_of_mem hf))) ho
theorem made_sat {A : AW} {w w' : World} {fs : List (Nat → Ch)} (h : Sat A w) (hk : Keeps (fun _ => False) w w') (hM : Made w w' fs) (z : Nat) (hz : z ≤ A.n) : A.n ≤ w'.heap.size ∧ Sat { A with n := w'.heap.size, σ := A.σ ++ fs.map (· z) } w' :=
  ⟨size_of h hk, h.keepsO hk (hM.1 z (by rw [h.size]; exact hz)) (fun d hd b hb => by have := hM.2 z d hd b hb; rw [h.size] at this; exact this)⟩
theorem cfg0_ok (w : World) : TConfig.ok Any w cfg0 := by
  have e : ∀ {α : Type} [Inhabited α] (cells : α → List Value) (sz : Nat) (ok : (Nat → Prop) → World → α → Prop), SlOk cells sz ok Any w ⟨none, 0, []⟩ := fun cells sz ok => ⟨⟨Nat.zero_le _, Nat.zero_le _, fun h => absurd rfl h⟩, fun i hi => absurd hi (Nat.not_lt_zero i)⟩
  exact ⟨ink (by decide) (by decide), ink (by decide) (by decide), ink (by decide) (by decide), ink (by decide) (by decide), e _ _ _, e _ _ _, e _ _ _⟩

theorem decode_ok (w : World) (b : Sl Int) (hb : SlAt u8c 1 Any w b) (hB : Byt b.xs) (p : PConf) (hD : decP b.xs = .ok p) : Calls Try.prog 14 #[.slice b.a b.xs.length b.cap] w fun e w' => ∃ c, plC c = p ∧ e = .returned (.tuple #[.agg (TConfig.arr c), .int .i64 0, .int .i64 0]) ∧ Made w w' (confFs c) ∧ Keeps (fun _ => False) w w' := by
  refine (decode_calls w b hb hB).mono ?_
  rintro e w' ⟨⟨c, h1, h2, h3⟩ | ⟨er, q, h1, -⟩, hk⟩
  · rw [hD] at h1; cases h1; exact ⟨c, rfl, h2, h3, hk⟩
  · rw [hD] at h1; cases h1
theorem decode_bad (w : World) (b : Sl Int) (hb : SlAt u8c 1 Any w b) (hB : Byt b.xs) (er : Int) (q : Nat) (hD : decP b.xs = .bad er q) : Calls Try.prog 14 #[.slice b.a b.xs.length b.cap] w fun e w' => e = .returned (.tuple #[.agg (TConfig.arr cfg0), .int .i64 (q : Nat), .int .i64 er]) ∧ Keeps (fun _ => False) w w' := by
  refine (decode_calls w b hb hB).mono ?_
  rintro e w' ⟨⟨c, h1, -⟩ | ⟨er, q, h1, h2⟩, hk⟩
  · rw [hD] at h1; cases h1
  · rw [hD] at h1; cases h1; exact ⟨h2, hk⟩

theorem rdecode_ok (w : World) (b : Sl Int) (hb : SlAt u8c 1 Any w b) (hB : Byt b.xs) (p : PConf) (hD : decP b.xs = .ok p) : Calls Try.prog 15 #[.slice b.a b.xs.length b.cap] w fun e w' => ∃ c, plC c = p ∧ e = .returned (.tuple #[.agg (TConfig.arr c), .int .i64 0, .int .i64 0]) ∧ Made w w' (confFs c) ∧ Keeps (fun _ => False) w w' := by
  refine (rdecode_calls w b hb hB).mono ?_
  rintro e w' ⟨⟨c, h1, h2, h3⟩ | ⟨er, q, h1, -⟩, hk⟩
  · rw [hD] at h1; cases h1; exact ⟨c, rfl, h2, h3, hk⟩
  · rw [hD] at h1; cases h1
theorem rdecode_bad (w : World) (b : Sl Int) (hb : SlAt u8c 1 Any w b) (hB : Byt b.xs) (er : Int) (q : Nat) (hD : decP b.xs = .bad er q) : Calls Try.prog 15 #[.slice b.a b.xs.length b.cap] w fun e w' => e = .returned (.tuple #[.agg (TConfig.arr cfg0), .int .i64 (q : Nat), .int .i64 er]) ∧ Keeps (fun _ => False) w w' := by
  refine (rdecode_calls w b hb hB).mono ?_
  rintro e w' ⟨⟨c, h1, -⟩ | ⟨er, q, h1, h2⟩, hk⟩
  · rw [hD] at h1; cases h1
  · rw [hD] at h1; cases h1; exact ⟨h2, hk⟩

end Go.Proofs.Ytmmkacfeocnblaa.Ly
