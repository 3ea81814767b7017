/- Same, of two that are the same. No conditions. -/
import Derived.Test.YtmmkacfeocnblaaYg
namespace Go.Proofs.Ytmmkacfeocnblaa.Ly
open Go Go.Proofs.Ytmmkacfeocnblaa.Eng Go.Proofs.Ytmmkacfeocnblaa.Mem
set_option linter.unusedSimpArgs false
set_option linter.unusedVariables false
set_option maxRecDepth 100000

theorem plP_eq {x y : TPartition} (h : plP x = plP y) : x.Name = y.Name ∧ x.Entry = y.Entry ∧ x.Action = y.Action ∧ x.Restarts = y.Restarts ∧ x.Inputs = y.Inputs ∧ x.Outputs = y.Outputs ∧ x.Regions.xs = y.Regions.xs ∧ x.Ports.xs = y.Ports.xs := by
  unfold plP at h
  simp only [PPart.mk.injEq] at h
  exact h
theorem plC_eq {x y : TConfig} (h : plC x = plC y) : x.Frames = y.Frames ∧ x.Major = y.Major ∧ x.Kernel = y.Kernel ∧ x.Room = y.Room ∧ x.Cores.xs.map Sl.xs = y.Cores.xs.map Sl.xs ∧ x.Partitions.xs.map plP = y.Partitions.xs.map plP ∧ x.Channels.xs = y.Channels.xs := by
  unfold plC at h
  simp only [PConf.mk.injEq] at h
  exact h
theorem map_gd {α β : Type} [Inhabited α] {g : α → β} {xs ys : List α} (h : xs.map g = ys.map g) {i : Nat} (hi : i < xs.length) : g (gd xs i) = g (gd ys i) := by
  have hl : xs.length = ys.length := by simpa using congrArg List.length h
  have h1 := congrArg (fun l => l[i]?) h
  simp only [List.getElem?_map, List.getElem?_eq_getElem hi, List.getElem?_eq_getElem (hl ▸ hi), Option.map_some, Option.some.injEq] at h1
  rw [gd_eq hi, gd_eq (hl ▸ hi)]; exact h1
abbrev q91j_0 (b4 : Nat) (o5 : Nat) (la : Sl TWindow) : Nat × Value := (0, .slice (some ⟨b4, o5, none⟩) la.xs.length la.cap)
abbrev q91j_1 (la : Sl TWindow) : Nat × Value := (12, i6 ((la.xs.length : Nat) : Int))
abbrev q91j_2 (la : Sl TWindow) : Nat × Value := (0, .slice la.a la.xs.length la.cap)
abbrev q91j_3 (lb : Sl TWindow) : Nat × Value := (1, .slice lb.a lb.xs.length lb.cap)
theorem samew_yes (w : World) (la lb : Sl TWindow) (ha : SlOk TWindow.cells 3 TWindow.ok Any w la) (hb : SlOk TWindow.cells 3 TWindow.ok Any w lb) (hx : la.xs = lb.xs) : Calls Try.prog 49 #[.slice la.a la.xs.length la.cap, .slice lb.a lb.xs.length lb.cap] w fun e w' => e = .returned (.bool true) ∧ Keeps (fun _ => False) w w' := by
 obtain ⟨z, hz⟩ : ∃ z, z = w.heap.size := ⟨_, rfl⟩
 refine calls_G (args := [.slice la.a la.xs.length la.cap, .slice lb.a lb.xs.length lb.cap]) 26 ⟨w, z, [(old0 w)]⟩ Try.func49 rfl (by kernel_rfl) (by kernel_rfl) (sat_0 hz) ?_
 have hll : la.xs.length = lb.xs.length := by rw [hx]
 have hbd := ha.1.len
 refine g_keep [0, 1] [(q91j_2 la), (q91j_3 lb)] ?_
 refine q_cS 18 0 [0] [[o0], [o0, o0, o0, o0, oF], [o0, o0, o0]] [NF ((la.xs.length : Nat) : Int) ((lb.xs.length : Nat) : Int)] [(q91j_2 la), (q91j_3 lb), (q91j_1 la), (13, i6 0)] rfl ⟨nf (by omega), trivial⟩ ?_
 refine g_loop (fun m a w' => ∃ (n2 : Nat) (i : Nat), m = la.xs.length - i ∧ z ≤ n2 ∧ (i ≤ la.xs.length) ∧ St 26 [(q91j_2 la), (q91j_3 lb), (q91j_1 la), (13, i6 (i : Int))] [] ⟨w, n2, [(old0 w)]⟩ a w') (la.xs.length - 0) ?_ ?_
 · intro a w' hs; exact ⟨z, 0, rfl, Nat.le_refl _, Nat.zero_le _, hs⟩
 · rintro m a w' ⟨n2, i, rfl, hn1, hki, hs⟩
   refine (?_ : G Try.prog 26 [(q91j_2 la), (q91j_3 lb), (q91j_1 la), (13, i6 (i : Int))] [] ⟨w, n2, [(old0 w)]⟩ _ _ _) a w' hs
   clear hs a w'
   refine g_seq ?_
   by_cases h3 : ((i : Int) : Int) < ((la.xs.length : Nat) : Int)
   · refine q_cS 14 0 [1] [[oT], [o0, o0]] [BT (((i : Int) : Int) < ((la.xs.length : Nat) : Int))] [(q91j_2 la), (q91j_3 lb), (q91j_1 la), (13, i6 (i : Int)), (5, i6 (i : Int))] rfl ⟨bt (by omega), trivial⟩ ?_
     obtain ⟨b4, o5, ha6, hF8, hc7⟩ := (ha).1.all (show 0 < la.xs.length by omega)
     replace ha6 : la.a = some ⟨b4, o5, none⟩ := ha6
     refine g_eq [(q91j_0 b4 o5 la), (q91j_3 lb), (q91j_1 la), (13, i6 (i : Int)), (5, i6 (i : Int))] (by (try dsimp only [q91j_0, q91j_1, q91j_2, q91j_3]); simp only [ha6]) ?_
     have hc9 := hc7 i (show i < la.xs.length by omega)
     have he10 := (ha).2 i (show i < la.xs.length by omega)
     obtain ⟨y11, hy11⟩ : ∃ y_, y_ = gd la.xs i := ⟨_, rfl⟩
     rw [← hy11] at he10 hc9
     obtain ⟨b12, o13, ha14, hF16, hc15⟩ := (hb).1.all (show 0 < lb.xs.length by omega)
     replace ha14 : lb.a = some ⟨b12, o13, none⟩ := ha14
     refine g_eq [(q91j_0 b4 o5 la), (1, .slice (some ⟨b12, o13, none⟩) lb.xs.length lb.cap), (q91j_1 la), (13, i6 (i : Int)), (5, i6 (i : Int))] (by (try dsimp only [q91j_0, q91j_1, q91j_2, q91j_3]); simp only [ha14]) ?_
     have hc17 := hc15 i (show i < lb.xs.length by omega)
     have he18 := (hb).2 i (show i < lb.xs.length by omega)
     obtain ⟨y19, hy19⟩ : ∃ y_, y_ = gd lb.xs i := ⟨_, rfl⟩
     rw [← hy19] at he18 hc17
     have hpey19 : y11 = y19 := by rw [hy11, hy19, hx]
     refine g_draw 9 [0] [(old0 w)] rfl rfl ?_
     refine w_take [(0, o0), (1, o0), (2, (oi i)), (3, (ol 0 (TWindow.arr y11))), (4, o0), (5, o0), (6, (oi i)), (7, (ol 0 (TWindow.arr y19))), (8, ⟨.seq true, none⟩)] [0, 1, 12, 13, 24] [((i : Int) : Int) = ((i : Nat) : Int), i < la.xs.length, (none : Option Nat) = none, OldR w b4 (o5 + i * 3) (TWindow.arr y11), ((i : Int) : Int) = ((i : Nat) : Int), i < lb.xs.length, (none : Option Nat) = none, OldR w b12 (o13 + i * 3) (TWindow.arr y19), ((y11.Partition : Int) == (y19.Partition : Int) && ((y11.Usable : Int) == (y19.Usable : Int) && ((y11.Slack : Int) == (y19.Slack : Int) && true))) = true] [true, true, true, true, true, true, true, true, true] [(q91j_0 b4 o5 la), (1, .slice (some ⟨b12, o13, none⟩) lb.xs.length lb.cap), (q91j_1 la), (13, i6 (i : Int)), (24, .bool false)] rfl (by as_aux_lemma => kernel_rfl) (by as_aux_lemma => kernel_rfl) ⟨rfl, (by omega), rfl, old_row hc9, rfl, (by omega), rfl, old_row hc17, (by rw [hpey19]; simp), trivial⟩ ?_
     refine w_done (by as_aux_lemma => kernel_rfl) ?_
     refine q_oS 7 0 [0] [[(ov (i6 ((i + 1 : Nat) : Int))), o0]] [Wr (((i : Int) : Int) + 1) (((i + 1 : Nat) : Int))] [(q91j_0 b4 o5 la), (1, .slice (some ⟨b12, o13, none⟩) lb.xs.length lb.cap), (q91j_1 la), (13, i6 ((i + 1 : Nat) : Int))] rfl ⟨wrI, trivial⟩ ?_
     refine e_eqk [0, 1, 12, 13] [(q91j_2 la), (q91j_3 lb), (q91j_1 la), (13, i6 ((i + 1 : Nat) : Int))] (by (try dsimp only [q91j_0, q91j_1, q91j_2, q91j_3]); simp only [ha6, ha14]; rfl) ?_
     refine e_inv (fun a w' hs => ⟨la.xs.length - (i + 1), by omega, n2, (i + 1), rfl, by omega, by omega, hs⟩)
   · refine q_cS 15 0 [0] [[oF], [o0]] [BF (((i : Int) : Int) < ((la.xs.length : Nat) : Int))] [(4, .bool true)] rfl ⟨bf (by omega), trivial⟩ ?_
     refine e_ret [] [] (.bool true) trivial ?_
     intro w20 hw20
     exact ⟨rfl, back0 hw20⟩
abbrev qh5j_0 (z : Nat) (q : TPartition) : Ch := bk (z + 1) (TPartition.arr q) 69
abbrev qh5j_1 (z : Nat) (p : TPartition) : Ch := bk z (TPartition.arr p) 69
abbrev qh5j_2 (p : TPartition) : Nat × Value := (70, i6 ((p.Regions.xs.length : Nat) : Int))
abbrev qh5j_3 (p : TPartition) : Nat × Value := (88, i6 ((p.Ports.xs.length : Nat) : Int))
abbrev qh5j_4 (z : Nat) : Nat × Value := (3, pt (z + 1))
theorem samep_yes (w : World) (p q : TPartition) (hp : TPartition.ok Any w p) (hq : TPartition.ok Any w q) (hx : plP p = plP q) : Calls Try.prog 50 #[.agg (TPartition.arr p), .agg (TPartition.arr q)] w fun e w' => e = .returned (.bool true) ∧ Keeps (fun _ => False) w w' := by
 obtain ⟨z, hz⟩ : ∃ z, z = w.heap.size := ⟨_, rfl⟩
 refine calls_G (args := [.agg (TPartition.arr p), .agg (TPartition.arr q)]) 104 ⟨w, z, [(old0 w)]⟩ Try.func50 rfl (by kernel_rfl) (by kernel_rfl) (sat_0 hz) ?_
 obtain ⟨hN, h1, h2, h3, h4, h5, hR, hO⟩ := plP_eq hx; have hl1 : p.Regions.xs.length = q.Regions.xs.length := by rw [hR]
 have hl2 : p.Ports.xs.length = q.Ports.xs.length := by rw [hO]
 have hb1 := hp.Regions.1.len; have hb2 := hp.Ports.1.len
 refine g_keep [0, 1] [(0, .agg (TPartition.arr p)), (1, .agg (TPartition.arr q))] ?_
 refine q_c 22 0 [0] [[o0, o0, o0], [o0, (a1 1), o0, (a1 2), oT, o0, o0, (a1 1), o0, (a1 2), oT, o0, o0, o0, (a1 1), o0, (a1 2), oT, o0, o0, o0, (a1 1), o0, (a1 2), oT, o0, o0, o0, (a1 1), o0, (a1 2), oT, o0, o0], [o0, (a1 1), o0, (a1 2), (ov (.bool false)), o0, o0, o0, o0, o0, o0, (a1 1), o0, o0, (a1 2), o0, oF, o0, o0, o0, (a1 1), o0, o0, (a1 2), o0, oF, o0], [o0, (a1 1), o0, o0]] [Qb z, Qb (z + 1), ET p.Entry q.Entry, Qb z, Qb (z + 1), ET p.Action q.Action, Qb z, Qb (z + 1), ET p.Restarts q.Restarts, Qb z, Qb (z + 1), ET p.Inputs q.Inputs, Qb z, Qb (z + 1), ET p.Outputs q.Outputs, Qb z, Qb (z + 1), Value.bool (!(p.Name.toList == q.Name.toList)) = Value.bool false, Qb z, Qb (z + 1), NF ((p.Regions.xs.length : Nat) : Int) ((q.Regions.xs.length : Nat) : Int), Qb z, Qb (z + 1), NF ((p.Ports.xs.length : Nat) : Int) ((q.Ports.xs.length : Nat) : Int), Qb z] [(2, pt z), (qh5j_4 z), (qh5j_2 p), (71, i6 0)] ⟨w, z + 2, [(old0 w), (qh5j_1 z p), (qh5j_0 z q)]⟩ rfl ⟨rfl, rfl, et (by omega), rfl, rfl, et (by omega), rfl, rfl, et (by omega), rfl, rfl, et (by omega), rfl, rfl, et (by omega), rfl, rfl, congrArg (fun t => Value.bool (!t)) (beq_iff_eq.2 (congrArg ByteArray.toList hN)), rfl, rfl, nf (by omega), rfl, rfl, nf (by omega), rfl, trivial⟩ ?_
 refine g_loop (fun m a w' => ∃ (n2 : Nat) (i : Nat), m = p.Regions.xs.length - i ∧ z + 2 ≤ n2 ∧ (i ≤ p.Regions.xs.length) ∧ St 104 [(2, pt z), (qh5j_4 z), (qh5j_2 p), (71, i6 (i : Int))] [] ⟨w, n2, [(old0 w), (qh5j_1 z p), (qh5j_0 z q)]⟩ a w') (p.Regions.xs.length - 0) ?_ ?_
 · intro a w' hs; exact ⟨(z + 2), 0, rfl, Nat.le_refl _, Nat.zero_le _, hs⟩
 · rintro m a w' ⟨n2, i, rfl, hn1, hki, hs⟩
   refine (?_ : G Try.prog 104 [(2, pt z), (qh5j_4 z), (qh5j_2 p), (71, i6 (i : Int))] [] ⟨w, n2, [(old0 w), (qh5j_1 z p), (qh5j_0 z q)]⟩ _ _ _) a w' hs
   clear hs a w'
   refine g_seq ?_
   by_cases h3 : ((i : Int) : Int) < ((p.Regions.xs.length : Nat) : Int)
   · refine q_cS 14 0 [1] [[oT], [o0, o0]] [BT (((i : Int) : Int) < ((p.Regions.xs.length : Nat) : Int))] [(2, pt z), (qh5j_4 z), (qh5j_2 p), (71, i6 (i : Int)), (6, i6 (i : Int))] rfl ⟨bt (by omega), trivial⟩ ?_
     obtain ⟨b4, o5, ha6, hF8, hc7⟩ := (hp.Regions).1.all (show 0 < p.Regions.xs.length by omega)
     replace ha6 : p.Regions.a = some ⟨b4, o5, none⟩ := ha6
     have hc9 := hc7 i (show i < p.Regions.xs.length by omega)
     have he10 := (hp.Regions).2 i (show i < p.Regions.xs.length by omega)
     obtain ⟨y11, hy11⟩ : ∃ y_, y_ = gd p.Regions.xs i := ⟨_, rfl⟩
     rw [← hy11] at he10 hc9
     obtain ⟨b12, o13, ha14, hF16, hc15⟩ := (hq.Regions).1.all (show 0 < q.Regions.xs.length by omega)
     replace ha14 : q.Regions.a = some ⟨b12, o13, none⟩ := ha14
     have hc17 := hc15 i (show i < q.Regions.xs.length by omega)
     have he18 := (hq.Regions).2 i (show i < q.Regions.xs.length by omega)
     obtain ⟨y19, hy19⟩ : ∃ y_, y_ = gd q.Regions.xs i := ⟨_, rfl⟩
     rw [← hy19] at he18 hc17
     have hpey19 : y11 = y19 := by rw [hy11, hy19, hR]
     refine g_draw 11 [0, 1, 2] [(old0 w), (qh5j_1 z p), (qh5j_0 z q)] rfl rfl ?_
     refine w_take [(0, o0), (1, ⟨.auto [.at 1], some (.slice (some ⟨b4, o5, none⟩) p.Regions.xs.length p.Regions.cap)⟩), (2, o0), (3, (oi i)), (4, (ol 0 (TRegion.arr y11))), (5, o0), (6, ⟨.auto [.at 2], some (.slice (some ⟨b12, o13, none⟩) q.Regions.xs.length q.Regions.cap)⟩), (7, o0), (8, (oi i)), (9, (ol 0 (TRegion.arr y19))), (10, ⟨.seq true, none⟩)] [2, 3, 70, 71, 84] [Qb z, Value.slice p.Regions.a p.Regions.xs.length p.Regions.cap = Value.slice (some ⟨b4, o5, none⟩) p.Regions.xs.length p.Regions.cap, ((i : Int) : Int) = ((i : Nat) : Int), i < p.Regions.xs.length, (none : Option Nat) = none, OldR w b4 (o5 + i * 4) (TRegion.arr y11), Qb (z + 1), Value.slice q.Regions.a q.Regions.xs.length q.Regions.cap = Value.slice (some ⟨b12, o13, none⟩) q.Regions.xs.length q.Regions.cap, ((i : Int) : Int) = ((i : Nat) : Int), i < q.Regions.xs.length, (none : Option Nat) = none, OldR w b12 (o13 + i * 4) (TRegion.arr y19), ((y11.Page : Int) == (y19.Page : Int) && ((y11.Pages : Int) == (y19.Pages : Int) && ((y11.Frame : Int) == (y19.Frame : Int) && ((y11.Rights : Int) == (y19.Rights : Int) && true)))) = true] [true, true, true, true, true, true, true, true, true, true, true] [(2, pt z), (qh5j_4 z), (qh5j_2 p), (71, i6 (i : Int)), (84, .bool false)] rfl (by as_aux_lemma => kernel_rfl) (by as_aux_lemma => kernel_rfl) ⟨rfl, congrArg (fun a => Value.slice a _ _) ha6, rfl, (by omega), rfl, old_row hc9, rfl, congrArg (fun a => Value.slice a _ _) ha14, rfl, (by omega), rfl, old_row hc17, (by rw [hpey19]; simp), trivial⟩ ?_
     refine w_done (by as_aux_lemma => kernel_rfl) ?_
     refine q_oS 7 0 [0] [[(ov (i6 ((i + 1 : Nat) : Int))), o0]] [Wr (((i : Int) : Int) + 1) (((i + 1 : Nat) : Int))] [(2, pt z), (qh5j_4 z), (qh5j_2 p), (71, i6 ((i + 1 : Nat) : Int))] rfl ⟨wrI, trivial⟩ ?_
     refine e_inv (fun a w' hs => ⟨p.Regions.xs.length - (i + 1), by omega, n2, (i + 1), rfl, by omega, by omega, hs⟩)
   · refine q_cS 16 0 [0] [[oF], [o0, (a1 1), o0, o0]] [BF (((i : Int) : Int) < ((p.Regions.xs.length : Nat) : Int)), Qb z] [(2, pt z), (qh5j_4 z), (qh5j_3 p), (89, i6 0)] rfl ⟨bf (by omega), rfl, trivial⟩ ?_
     refine g_loop (fun m a w' => ∃ (n21 : Nat) (k : Nat), m = p.Ports.xs.length - k ∧ n2 ≤ n21 ∧ (k ≤ p.Ports.xs.length) ∧ St 104 [(2, pt z), (qh5j_4 z), (qh5j_3 p), (89, i6 (k : Int))] [] ⟨w, n21, [(old0 w), (qh5j_1 z p), (qh5j_0 z q)]⟩ a w') (p.Ports.xs.length - 0) ?_ ?_
     · intro a w' hs; exact ⟨n2, 0, rfl, Nat.le_refl _, Nat.zero_le _, hs⟩
     · rintro m a w' ⟨n21, k, rfl, hn20, hkk, hs⟩
       refine (?_ : G Try.prog 104 [(2, pt z), (qh5j_4 z), (qh5j_3 p), (89, i6 (k : Int))] [] ⟨w, n21, [(old0 w), (qh5j_1 z p), (qh5j_0 z q)]⟩ _ _ _) a w' hs
       clear hs a w'
       refine g_seq ?_
       by_cases h22 : ((k : Int) : Int) < ((p.Ports.xs.length : Nat) : Int)
       · refine q_cS 14 0 [1] [[oT], [o0, o0]] [BT (((k : Int) : Int) < ((p.Ports.xs.length : Nat) : Int))] [(2, pt z), (qh5j_4 z), (qh5j_3 p), (89, i6 (k : Int)), (7, i6 (k : Int))] rfl ⟨bt (by omega), trivial⟩ ?_
         obtain ⟨b23, o24, ha25, hF27, hc26⟩ := (hp.Ports).1.all (show 0 < p.Ports.xs.length by omega)
         replace ha25 : p.Ports.a = some ⟨b23, o24, none⟩ := ha25
         have hc28 := hc26 k (show k < p.Ports.xs.length by omega)
         have he29 := (hp.Ports).2 k (show k < p.Ports.xs.length by omega)
         obtain ⟨y30, hy30⟩ : ∃ y_, y_ = gd p.Ports.xs k := ⟨_, rfl⟩
         rw [← hy30] at he29 hc28
         obtain ⟨b31, o32, ha33, hF35, hc34⟩ := (hq.Ports).1.all (show 0 < q.Ports.xs.length by omega)
         replace ha33 : q.Ports.a = some ⟨b31, o32, none⟩ := ha33
         have hc36 := hc34 k (show k < q.Ports.xs.length by omega)
         have he37 := (hq.Ports).2 k (show k < q.Ports.xs.length by omega)
         obtain ⟨y38, hy38⟩ : ∃ y_, y_ = gd q.Ports.xs k := ⟨_, rfl⟩
         rw [← hy38] at he37 hc36
         have hpey38 : y30 = y38 := by rw [hy30, hy38, hO]
         refine g_draw 11 [0, 1, 2] [(old0 w), (qh5j_1 z p), (qh5j_0 z q)] rfl rfl ?_
         refine w_take [(0, o0), (1, ⟨.auto [.at 1], some (.slice (some ⟨b23, o24, none⟩) p.Ports.xs.length p.Ports.cap)⟩), (2, o0), (3, (oi k)), (4, (ol 0 (TPort.arr y30))), (5, o0), (6, ⟨.auto [.at 2], some (.slice (some ⟨b31, o32, none⟩) q.Ports.xs.length q.Ports.cap)⟩), (7, o0), (8, (oi k)), (9, (ol 0 (TPort.arr y38))), (10, ⟨.seq true, none⟩)] [2, 3, 88, 89, 102] [Qb z, Value.slice p.Ports.a p.Ports.xs.length p.Ports.cap = Value.slice (some ⟨b23, o24, none⟩) p.Ports.xs.length p.Ports.cap, ((k : Int) : Int) = ((k : Nat) : Int), k < p.Ports.xs.length, (none : Option Nat) = none, OldR w b23 (o24 + k * 2) (TPort.arr y30), Qb (z + 1), Value.slice q.Ports.a q.Ports.xs.length q.Ports.cap = Value.slice (some ⟨b31, o32, none⟩) q.Ports.xs.length q.Ports.cap, ((k : Int) : Int) = ((k : Nat) : Int), k < q.Ports.xs.length, (none : Option Nat) = none, OldR w b31 (o32 + k * 2) (TPort.arr y38), ((y30.Channel : Int) == (y38.Channel : Int) && (y30.Source == y38.Source && true)) = true] [true, true, true, true, true, true, true, true, true, true, true] [(2, pt z), (qh5j_4 z), (qh5j_3 p), (89, i6 (k : Int)), (102, .bool false)] rfl (by as_aux_lemma => kernel_rfl) (by as_aux_lemma => kernel_rfl) ⟨rfl, congrArg (fun a => Value.slice a _ _) ha25, rfl, (by omega), rfl, old_row hc28, rfl, congrArg (fun a => Value.slice a _ _) ha33, rfl, (by omega), rfl, old_row hc36, (by rw [hpey38]; simp), trivial⟩ ?_
         refine w_done (by as_aux_lemma => kernel_rfl) ?_
         refine q_oS 7 0 [0] [[(ov (i6 ((k + 1 : Nat) : Int))), o0]] [Wr (((k : Int) : Int) + 1) (((k + 1 : Nat) : Int))] [(2, pt z), (qh5j_4 z), (qh5j_3 p), (89, i6 ((k + 1 : Nat) : Int))] rfl ⟨wrI, trivial⟩ ?_
         refine e_inv (fun a w' hs => ⟨p.Ports.xs.length - (k + 1), by omega, n21, (k + 1), rfl, by omega, by omega, hs⟩)
       · refine q_cS 15 0 [0] [[oF], [o0]] [BF (((k : Int) : Int) < ((p.Ports.xs.length : Nat) : Int))] [(4, .bool true)] rfl ⟨bf (by omega), trivial⟩ ?_
         refine e_ret [] [] (.bool true) trivial ?_
         intro w39 hw39
         exact ⟨rfl, back0 hw39⟩
abbrev qznh_0 (z : Nat) (d : TConfig) : Ch := bk (z + 1) (TConfig.arr d) 26
abbrev qznh_1 (z : Nat) (c : TConfig) : Ch := bk z (TConfig.arr c) 26
abbrev qznh_2 (c : TConfig) : Nat × Value := (80, i6 ((c.Partitions.xs.length : Nat) : Int))
abbrev qznh_3 (c : TConfig) : Nat × Value := (99, i6 ((c.Channels.xs.length : Nat) : Int))
abbrev qznh_4 (c : TConfig) : Nat × Value := (61, i6 ((c.Cores.xs.length : Nat) : Int))
abbrev qznh_5 (z : Nat) : Nat × Value := (3, pt (z + 1))
theorem same_yes (w : World) (c d : TConfig) (hc : TConfig.ok Any w c) (hd : TConfig.ok Any w d) (hx : plC c = plC d) : Calls Try.prog 16 #[.agg (TConfig.arr c), .agg (TConfig.arr d)] w fun e w' => e = .returned (.bool true) ∧ Keeps (fun _ => False) w w' := by
 obtain ⟨z, hz⟩ : ∃ z, z = w.heap.size := ⟨_, rfl⟩
 refine calls_G (args := [.agg (TConfig.arr c), .agg (TConfig.arr d)]) 115 ⟨w, z, [(old0 w)]⟩ Try.func16 rfl (by kernel_rfl) (by kernel_rfl) (sat_0 hz) ?_
 obtain ⟨h1, h2, h3, h4, hC, hP, hH⟩ := plC_eq hx; have hl1 : c.Cores.xs.length = d.Cores.xs.length := by simpa using congrArg List.length hC
 have hl2 : c.Partitions.xs.length = d.Partitions.xs.length := by simpa using congrArg List.length hP
 have hl3 : c.Channels.xs.length = d.Channels.xs.length := by rw [hH]
 have hb1 := hc.Cores.1.len; have hb2 := hc.Partitions.1.len; have hb3 := hc.Channels.1.len
 refine g_keep [0, 1] [(0, .agg (TConfig.arr c)), (1, .agg (TConfig.arr d))] ?_
 refine q_c 26 0 [0, 0] [[o0, o0, o0], [o0, (a1 1), o0, (a1 2), oF, o0, o0, (a1 1), o0, (a1 2), oF, o0, o0, o0, (a1 1), o0, (a1 2), oF, o0, o0, o0, (a1 1), o0, (a1 2), oF, o0], [o0, (a1 1), o0, o0, (a1 2), o0, oF, o0, o0, (a1 1), o0, o0, (a1 2), o0, oF, o0, o0, o0, (a1 1), o0, o0, (a1 2), o0, oF, o0], [o0, (a1 1), o0, o0]] [Qb z, Qb (z + 1), NF c.Frames d.Frames, Qb z, Qb (z + 1), NF c.Major d.Major, Qb z, Qb (z + 1), NF c.Kernel d.Kernel, Qb z, Qb (z + 1), NF c.Room d.Room, Qb z, Qb (z + 1), NF ((c.Cores.xs.length : Nat) : Int) ((d.Cores.xs.length : Nat) : Int), Qb z, Qb (z + 1), NF ((c.Partitions.xs.length : Nat) : Int) ((d.Partitions.xs.length : Nat) : Int), Qb z, Qb (z + 1), NF ((c.Channels.xs.length : Nat) : Int) ((d.Channels.xs.length : Nat) : Int), Qb z] [(2, pt z), (qznh_5 z), (qznh_4 c), (62, i6 0)] ⟨w, z + 2, [(old0 w), (qznh_1 z c), (qznh_0 z d)]⟩ rfl ⟨rfl, rfl, nf (by omega), rfl, rfl, nf (by omega), rfl, rfl, nf (by omega), rfl, rfl, nf (by omega), rfl, rfl, nf (by omega), rfl, rfl, nf (by omega), rfl, rfl, nf (by omega), rfl, trivial⟩ ?_
 refine g_loop (fun m a w' => ∃ (n2 : Nat) (i : Nat), m = c.Cores.xs.length - i ∧ z + 2 ≤ n2 ∧ (i ≤ c.Cores.xs.length) ∧ St 115 [(2, pt z), (qznh_5 z), (qznh_4 c), (62, i6 (i : Int))] [] ⟨w, n2, [(old0 w), (qznh_1 z c), (qznh_0 z d)]⟩ a w') (c.Cores.xs.length - 0) ?_ ?_
 · intro a w' hs; exact ⟨(z + 2), 0, rfl, Nat.le_refl _, Nat.zero_le _, hs⟩
 · rintro m a w' ⟨n2, i, rfl, hn1, hki, hs⟩
   refine (?_ : G Try.prog 115 [(2, pt z), (qznh_5 z), (qznh_4 c), (62, i6 (i : Int))] [] ⟨w, n2, [(old0 w), (qznh_1 z c), (qznh_0 z d)]⟩ _ _ _) a w' hs
   clear hs a w'
   refine g_seq ?_
   by_cases h3 : ((i : Int) : Int) < ((c.Cores.xs.length : Nat) : Int)
   · refine q_cS 14 0 [1] [[oT], [o0, o0]] [BT (((i : Int) : Int) < ((c.Cores.xs.length : Nat) : Int))] [(2, pt z), (qznh_5 z), (qznh_4 c), (62, i6 (i : Int)), (5, i6 (i : Int))] rfl ⟨bt (by omega), trivial⟩ ?_
     obtain ⟨b4, o5, ha6, hF8, hc7⟩ := (hc.Cores).1.all (show 0 < c.Cores.xs.length by omega)
     replace ha6 : c.Cores.a = some ⟨b4, o5, none⟩ := ha6
     have hc9 := hc7 i (show i < c.Cores.xs.length by omega)
     have he10 := (hc.Cores).2 i (show i < c.Cores.xs.length by omega)
     obtain ⟨y11, hy11⟩ : ∃ y_, y_ = gd c.Cores.xs i := ⟨_, rfl⟩
     rw [← hy11] at he10 hc9
     obtain ⟨b12, o13, ha14, hF16, hc15⟩ := (hd.Cores).1.all (show 0 < d.Cores.xs.length by omega)
     replace ha14 : d.Cores.a = some ⟨b12, o13, none⟩ := ha14
     have hc17 := hc15 i (show i < d.Cores.xs.length by omega)
     have he18 := (hd.Cores).2 i (show i < d.Cores.xs.length by omega)
     obtain ⟨y19, hy19⟩ : ∃ y_, y_ = gd d.Cores.xs i := ⟨_, rfl⟩
     rw [← hy19] at he18 hc17
     have hpey19 := (by have h0 := map_gd hC (i := i) (by omega); rw [← hy11, ← hy19] at h0; exact h0 : y11.xs = y19.xs)
     refine g_draw 12 [0, 1, 2] [(old0 w), (qznh_1 z c), (qznh_0 z d)] rfl rfl ?_
     refine w_take [(0, o0), (1, ⟨.auto [.at 1], some (.slice (some ⟨b4, o5, none⟩) c.Cores.xs.length c.Cores.cap)⟩), (2, o0), (3, (oi i)), (4, (oa [.via 0 (.slice y11.a y11.xs.length y11.cap)])), (5, o0), (6, ⟨.auto [.at 2], some (.slice (some ⟨b12, o13, none⟩) d.Cores.xs.length d.Cores.cap)⟩), (7, o0), (8, (oi i)), (9, (oa [.via 0 (.slice y19.a y19.xs.length y19.cap)]))] [2, 3, 61, 62, 69, 74] [Qb z, Value.slice c.Cores.a c.Cores.xs.length c.Cores.cap = Value.slice (some ⟨b4, o5, none⟩) c.Cores.xs.length c.Cores.cap, ((i : Int) : Int) = ((i : Nat) : Int), i < c.Cores.xs.length, (none : Option Nat) = none, Old w b4 (o5 + i) (.slice y11.a y11.xs.length y11.cap), Qb (z + 1), Value.slice d.Cores.a d.Cores.xs.length d.Cores.cap = Value.slice (some ⟨b12, o13, none⟩) d.Cores.xs.length d.Cores.cap, ((i : Int) : Int) = ((i : Nat) : Int), i < d.Cores.xs.length, (none : Option Nat) = none, Old w b12 (o13 + i) (.slice y19.a y19.xs.length y19.cap)] [true, true, true, true, true, true, true, true, true, true, false, false] [(2, pt z), (qznh_5 z), (qznh_4 c), (62, i6 (i : Int)), (69, .slice y11.a y11.xs.length y11.cap), (74, .slice y19.a y19.xs.length y19.cap)] rfl (by as_aux_lemma => kernel_rfl) (by as_aux_lemma => kernel_rfl) ⟨rfl, congrArg (fun a => Value.slice a _ _) ha6, rfl, (by omega), rfl, old_cell' (hc9 0 _ rfl), rfl, congrArg (fun a => Value.slice a _ _) ha14, rfl, (by omega), rfl, old_cell' (hc17 0 _ rfl), trivial⟩ ?_
     refine w_one 10 (by as_aux_lemma => kernel_rfl) rfl ?_
     refine wo_call [] [] 49 #[.slice y11.a y11.xs.length y11.cap, .slice y19.a y19.xs.length y19.cap] (some 75) (by as_aux_lemma => kernel_rfl) rfl rfl trivial ?_
     intro w20 hw20
     refine (samew_yes w20 y11 y19 (slOk_ext (hw20.ext rfl) (fun _ h => h) he10 (fun _ h => TWindow.ok.ext (hw20.ext rfl) (fun _ h => h) h)) (slOk_ext (hw20.ext rfl) (fun _ h => h) he18 (fun _ h => TWindow.ok.ext (hw20.ext rfl) (fun _ h => h) h)) hpey19).mono ?_
     rintro e w21 ⟨rfl, hkw21⟩
     have hnw21 : n2 ≤ w21.heap.size := size_of hw20 hkw21
     have hs22 := hw20.keeps hkw21
     refine ⟨_, _, rfl, hs22, .inr (fun c hc => hs22.all c (by first | exact hc | exact picks_mem (is := [0, 1, 2]) rfl c hc)), ?_⟩
     refine w_keep [2, 3, 61, 62, 75] [(2, pt z), (qznh_5 z), (qznh_4 c), (62, i6 (i : Int)), (75, .bool true)] ?_
     refine w_take [(11, o0)] [2, 3, 61, 62, 76] [] [true, true, true, true, true, true, true, true, true, true, true, true] [(2, pt z), (qznh_5 z), (qznh_4 c), (62, i6 (i : Int)), (76, .bool false)] rfl (by as_aux_lemma => kernel_rfl) (by as_aux_lemma => kernel_rfl) trivial ?_
     refine w_done (by as_aux_lemma => kernel_rfl) ?_
     refine q_oS 7 0 [0] [[(ov (i6 ((i + 1 : Nat) : Int))), o0]] [Wr (((i : Int) : Int) + 1) (((i + 1 : Nat) : Int))] [(2, pt z), (qznh_5 z), (qznh_4 c), (62, i6 ((i + 1 : Nat) : Int))] rfl ⟨wrI, trivial⟩ ?_
     refine e_inv (fun a w' hs => ⟨c.Cores.xs.length - (i + 1), by omega, w21.heap.size, (i + 1), rfl, by omega, by omega, hs⟩)
   · refine q_cS 16 0 [0] [[oF], [o0, (a1 1), o0, o0]] [BF (((i : Int) : Int) < ((c.Cores.xs.length : Nat) : Int)), Qb z] [(2, pt z), (qznh_5 z), (qznh_2 c), (81, i6 0)] rfl ⟨bf (by omega), rfl, trivial⟩ ?_
     refine g_loop (fun m a w' => ∃ (n24 : Nat) (k : Nat), m = c.Partitions.xs.length - k ∧ n2 ≤ n24 ∧ (k ≤ c.Partitions.xs.length) ∧ St 115 [(2, pt z), (qznh_5 z), (qznh_2 c), (81, i6 (k : Int))] [] ⟨w, n24, [(old0 w), (qznh_1 z c), (qznh_0 z d)]⟩ a w') (c.Partitions.xs.length - 0) ?_ ?_
     · intro a w' hs; exact ⟨n2, 0, rfl, Nat.le_refl _, Nat.zero_le _, hs⟩
     · rintro m a w' ⟨n24, k, rfl, hn23, hkk, hs⟩
       refine (?_ : G Try.prog 115 [(2, pt z), (qznh_5 z), (qznh_2 c), (81, i6 (k : Int))] [] ⟨w, n24, [(old0 w), (qznh_1 z c), (qznh_0 z d)]⟩ _ _ _) a w' hs
       clear hs a w'
       refine g_seq ?_
       by_cases h25 : ((k : Int) : Int) < ((c.Partitions.xs.length : Nat) : Int)
       · refine q_cS 14 0 [1] [[oT], [o0, o0]] [BT (((k : Int) : Int) < ((c.Partitions.xs.length : Nat) : Int))] [(2, pt z), (qznh_5 z), (qznh_2 c), (81, i6 (k : Int)), (6, i6 (k : Int))] rfl ⟨bt (by omega), trivial⟩ ?_
         obtain ⟨b26, o27, ha28, hF30, hc29⟩ := (hc.Partitions).1.all (show 0 < c.Partitions.xs.length by omega)
         replace ha28 : c.Partitions.a = some ⟨b26, o27, none⟩ := ha28
         have hc31 := hc29 k (show k < c.Partitions.xs.length by omega)
         have he32 := (hc.Partitions).2 k (show k < c.Partitions.xs.length by omega)
         obtain ⟨y33, hy33⟩ : ∃ y_, y_ = gd c.Partitions.xs k := ⟨_, rfl⟩
         rw [← hy33] at he32 hc31
         obtain ⟨b34, o35, ha36, hF38, hc37⟩ := (hd.Partitions).1.all (show 0 < d.Partitions.xs.length by omega)
         replace ha36 : d.Partitions.a = some ⟨b34, o35, none⟩ := ha36
         have hc39 := hc37 k (show k < d.Partitions.xs.length by omega)
         have he40 := (hd.Partitions).2 k (show k < d.Partitions.xs.length by omega)
         obtain ⟨y41, hy41⟩ : ∃ y_, y_ = gd d.Partitions.xs k := ⟨_, rfl⟩
         rw [← hy41] at he40 hc39
         have hpey41 := (by have h0 := map_gd hP (i := k) (by omega); rw [← hy33, ← hy41] at h0; exact h0 : plP y33 = plP y41)
         refine g_draw 12 [0, 1, 2] [(old0 w), (qznh_1 z c), (qznh_0 z d)] rfl rfl ?_
         refine w_take [(0, o0), (1, ⟨.auto [.at 1], some (.slice (some ⟨b26, o27, none⟩) c.Partitions.xs.length c.Partitions.cap)⟩), (2, o0), (3, (oi k)), (4, (ol 0 (TPartition.arr y33))), (5, o0), (6, ⟨.auto [.at 2], some (.slice (some ⟨b34, o35, none⟩) d.Partitions.xs.length d.Partitions.cap)⟩), (7, o0), (8, (oi k)), (9, (ol 0 (TPartition.arr y41)))] [2, 3, 80, 81, 88, 93] [Qb z, Value.slice c.Partitions.a c.Partitions.xs.length c.Partitions.cap = Value.slice (some ⟨b26, o27, none⟩) c.Partitions.xs.length c.Partitions.cap, ((k : Int) : Int) = ((k : Nat) : Int), k < c.Partitions.xs.length, (none : Option Nat) = none, OldR w b26 (o27 + k * 8) (TPartition.arr y33), Qb (z + 1), Value.slice d.Partitions.a d.Partitions.xs.length d.Partitions.cap = Value.slice (some ⟨b34, o35, none⟩) d.Partitions.xs.length d.Partitions.cap, ((k : Int) : Int) = ((k : Nat) : Int), k < d.Partitions.xs.length, (none : Option Nat) = none, OldR w b34 (o35 + k * 8) (TPartition.arr y41)] [true, true, true, true, true, true, true, true, true, true, false, false] [(2, pt z), (qznh_5 z), (qznh_2 c), (81, i6 (k : Int)), (88, .agg (TPartition.arr y33)), (93, .agg (TPartition.arr y41))] rfl (by as_aux_lemma => kernel_rfl) (by as_aux_lemma => kernel_rfl) ⟨rfl, congrArg (fun a => Value.slice a _ _) ha28, rfl, (by omega), rfl, old_row hc31, rfl, congrArg (fun a => Value.slice a _ _) ha36, rfl, (by omega), rfl, old_row hc39, trivial⟩ ?_
         refine w_one 10 (by as_aux_lemma => kernel_rfl) rfl ?_
         refine wo_call [] [] 50 #[.agg (TPartition.arr y33), .agg (TPartition.arr y41)] (some 94) (by as_aux_lemma => kernel_rfl) rfl rfl trivial ?_
         intro w42 hw42
         refine (samep_yes w42 y33 y41 (he32.ext (hw42.ext rfl) (fun _ h => h)) (he40.ext (hw42.ext rfl) (fun _ h => h)) hpey41).mono ?_
         rintro e w43 ⟨rfl, hkw43⟩
         have hnw43 : n24 ≤ w43.heap.size := size_of hw42 hkw43
         have hs44 := hw42.keeps hkw43
         refine ⟨_, _, rfl, hs44, .inr (fun c hc => hs44.all c (by first | exact hc | exact picks_mem (is := [0, 1, 2]) rfl c hc)), ?_⟩
         refine w_keep [2, 3, 80, 81, 94] [(2, pt z), (qznh_5 z), (qznh_2 c), (81, i6 (k : Int)), (94, .bool true)] ?_
         refine w_take [(11, o0)] [2, 3, 80, 81, 95] [] [true, true, true, true, true, true, true, true, true, true, true, true] [(2, pt z), (qznh_5 z), (qznh_2 c), (81, i6 (k : Int)), (95, .bool false)] rfl (by as_aux_lemma => kernel_rfl) (by as_aux_lemma => kernel_rfl) trivial ?_
         refine w_done (by as_aux_lemma => kernel_rfl) ?_
         refine q_oS 7 0 [0] [[(ov (i6 ((k + 1 : Nat) : Int))), o0]] [Wr (((k : Int) : Int) + 1) (((k + 1 : Nat) : Int))] [(2, pt z), (qznh_5 z), (qznh_2 c), (81, i6 ((k + 1 : Nat) : Int))] rfl ⟨wrI, trivial⟩ ?_
         refine e_inv (fun a w' hs => ⟨c.Partitions.xs.length - (k + 1), by omega, w43.heap.size, (k + 1), rfl, by omega, by omega, hs⟩)
       · refine q_cS 16 0 [0] [[oF], [o0, (a1 1), o0, o0]] [BF (((k : Int) : Int) < ((c.Partitions.xs.length : Nat) : Int)), Qb z] [(2, pt z), (qznh_5 z), (qznh_3 c), (100, i6 0)] rfl ⟨bf (by omega), rfl, trivial⟩ ?_
         refine g_loop (fun m a w' => ∃ (n46 : Nat) (j : Nat), m = c.Channels.xs.length - j ∧ n24 ≤ n46 ∧ (j ≤ c.Channels.xs.length) ∧ St 115 [(2, pt z), (qznh_5 z), (qznh_3 c), (100, i6 (j : Int))] [] ⟨w, n46, [(old0 w), (qznh_1 z c), (qznh_0 z d)]⟩ a w') (c.Channels.xs.length - 0) ?_ ?_
         · intro a w' hs; exact ⟨n24, 0, rfl, Nat.le_refl _, Nat.zero_le _, hs⟩
         · rintro m a w' ⟨n46, j, rfl, hn45, hkj, hs⟩
           refine (?_ : G Try.prog 115 [(2, pt z), (qznh_5 z), (qznh_3 c), (100, i6 (j : Int))] [] ⟨w, n46, [(old0 w), (qznh_1 z c), (qznh_0 z d)]⟩ _ _ _) a w' hs
           clear hs a w'
           refine g_seq ?_
           by_cases h47 : ((j : Int) : Int) < ((c.Channels.xs.length : Nat) : Int)
           · refine q_cS 14 0 [1] [[oT], [o0, o0]] [BT (((j : Int) : Int) < ((c.Channels.xs.length : Nat) : Int))] [(2, pt z), (qznh_5 z), (qznh_3 c), (100, i6 (j : Int)), (7, i6 (j : Int))] rfl ⟨bt (by omega), trivial⟩ ?_
             obtain ⟨b48, o49, ha50, hF52, hc51⟩ := (hc.Channels).1.all (show 0 < c.Channels.xs.length by omega)
             replace ha50 : c.Channels.a = some ⟨b48, o49, none⟩ := ha50
             have hc53 := hc51 j (show j < c.Channels.xs.length by omega)
             have he54 := (hc.Channels).2 j (show j < c.Channels.xs.length by omega)
             obtain ⟨y55, hy55⟩ : ∃ y_, y_ = gd c.Channels.xs j := ⟨_, rfl⟩
             rw [← hy55] at he54 hc53
             obtain ⟨b56, o57, ha58, hF60, hc59⟩ := (hd.Channels).1.all (show 0 < d.Channels.xs.length by omega)
             replace ha58 : d.Channels.a = some ⟨b56, o57, none⟩ := ha58
             have hc61 := hc59 j (show j < d.Channels.xs.length by omega)
             have he62 := (hd.Channels).2 j (show j < d.Channels.xs.length by omega)
             obtain ⟨y63, hy63⟩ : ∃ y_, y_ = gd d.Channels.xs j := ⟨_, rfl⟩
             rw [← hy63] at he62 hc61
             have hpey63 : y55 = y63 := by rw [hy55, hy63, hH]
             refine g_draw 11 [0, 1, 2] [(old0 w), (qznh_1 z c), (qznh_0 z d)] rfl rfl ?_
             refine w_take [(0, o0), (1, ⟨.auto [.at 1], some (.slice (some ⟨b48, o49, none⟩) c.Channels.xs.length c.Channels.cap)⟩), (2, o0), (3, (oi j)), (4, (ol 0 (TChannel.arr y55))), (5, o0), (6, ⟨.auto [.at 2], some (.slice (some ⟨b56, o57, none⟩) d.Channels.xs.length d.Channels.cap)⟩), (7, o0), (8, (oi j)), (9, (ol 0 (TChannel.arr y63))), (10, ⟨.seq true, none⟩)] [2, 3, 99, 100, 113] [Qb z, Value.slice c.Channels.a c.Channels.xs.length c.Channels.cap = Value.slice (some ⟨b48, o49, none⟩) c.Channels.xs.length c.Channels.cap, ((j : Int) : Int) = ((j : Nat) : Int), j < c.Channels.xs.length, (none : Option Nat) = none, OldR w b48 (o49 + j * 3) (TChannel.arr y55), Qb (z + 1), Value.slice d.Channels.a d.Channels.xs.length d.Channels.cap = Value.slice (some ⟨b56, o57, none⟩) d.Channels.xs.length d.Channels.cap, ((j : Int) : Int) = ((j : Nat) : Int), j < d.Channels.xs.length, (none : Option Nat) = none, OldR w b56 (o57 + j * 3) (TChannel.arr y63), ((y55.Kind : Int) == (y63.Kind : Int) && ((y55.Words : Int) == (y63.Words : Int) && ((y55.Depth : Int) == (y63.Depth : Int) && true))) = true] [true, true, true, true, true, true, true, true, true, true, true] [(2, pt z), (qznh_5 z), (qznh_3 c), (100, i6 (j : Int)), (113, .bool false)] rfl (by as_aux_lemma => kernel_rfl) (by as_aux_lemma => kernel_rfl) ⟨rfl, congrArg (fun a => Value.slice a _ _) ha50, rfl, (by omega), rfl, old_row hc53, rfl, congrArg (fun a => Value.slice a _ _) ha58, rfl, (by omega), rfl, old_row hc61, (by rw [hpey63]; simp), trivial⟩ ?_
             refine w_done (by as_aux_lemma => kernel_rfl) ?_
             refine q_oS 7 0 [0] [[(ov (i6 ((j + 1 : Nat) : Int))), o0]] [Wr (((j : Int) : Int) + 1) (((j + 1 : Nat) : Int))] [(2, pt z), (qznh_5 z), (qznh_3 c), (100, i6 ((j + 1 : Nat) : Int))] rfl ⟨wrI, trivial⟩ ?_
             refine e_inv (fun a w' hs => ⟨c.Channels.xs.length - (j + 1), by omega, n46, (j + 1), rfl, by omega, by omega, hs⟩)
           · refine q_cS 15 0 [0] [[oF], [o0]] [BF (((j : Int) : Int) < ((c.Channels.xs.length : Nat) : Int))] [(4, .bool true)] rfl ⟨bf (by omega), trivial⟩ ?_
             refine e_ret [] [] (.bool true) trivial ?_
             intro w64 hw64
             exact ⟨rfl, back0 hw64⟩

end Go.Proofs.Ytmmkacfeocnblaa.Ly
