/- bits.Sum; the writer is read. No conditions. -/
import Derived.Test.YtmmkacfeocnblaaWd
namespace Go.Proofs.Ytmmkacfeocnblaa.Ly
open Go Go.Proofs.Ytmmkacfeocnblaa.Eng Go.Proofs.Ytmmkacfeocnblaa.Mem
set_option linter.unusedSimpArgs false
set_option linter.unusedVariables false
set_option maxRecDepth 100000

def bx32 (a b : Int) : Int := IntKind.u32.wrap ((BitVec.ofInt IntKind.u32.bits a ^^^ BitVec.ofInt IntKind.u32.bits b).toNat)
def ba32 (a b : Int) : Int := IntKind.u32.wrap ((BitVec.ofInt IntKind.u32.bits a &&& BitVec.ofInt IntKind.u32.bits b).toNat)
def crcBit (n : Int) : Int := if ba32 n 1 = 1 then bx32 (n / 2) 3988292384 else n / 2
theorem crcBit_yes {n : Int} (h : ba32 n 1 = 1) : crcBit n = bx32 (n / 2) 3988292384 := if_pos h
theorem crcBit_no {n : Int} (h : ¬ ba32 n 1 = 1) : crcBit n = n / 2 := if_neg h
def crcBits : Nat → Int → Int
  | 0, n => n
  | k + 1, n => crcBit (crcBits k n)
def crcByte (n x : Int) : Int := crcBits 8 (bx32 n (IntKind.u32.wrap x))
def crcUp (bs : List Int) (i : Nat) : Int := (bs.take i).foldl crcByte 4294967295
theorem crcUp_succ {bs : List Int} {i : Nat} (h : i < bs.length) : crcUp bs (i + 1) = crcBits 8 (bx32 (crcUp bs i) (IntKind.u32.wrap (gd bs i))) := by
  unfold crcUp
  rw [List.take_succ_eq_append_getElem h, List.foldl_append, gd_eq h]; rfl
def sumB (bs : List Int) : Int := bx32 4294967295 (crcUp bs bs.length)
theorem bx32_in (a b : Int) : 0 ≤ bx32 a b ∧ bx32 a b < 4294967296 := by
  unfold bx32
  simp only [IntKind.wrap, IntKind.bits, IntKind.signed]
  simp
  omega
theorem sumB_in (bs : List Int) : 0 ≤ sumB bs ∧ sumB bs < 4294967296 := bx32_in _ _
theorem rowU_any {A : AW} {w : World} {i base : Nat} {a : Option Addr} {cap : Nat} {xs : List Int} (h : Sat A w) (hi : A.σ[i]? = some (rowL base 5 1 u8c (.slice a xs.length cap) xs)) (hl : xs.length ≤ 140737488351232) : SlAt u8c 1 Any w ⟨a, cap, xs⟩ := row_slF (fun _ => rfl) (h.at hi) hl (fun _ _ => trivial)
section
variable {A : AW} {w : World} {i pw : Nat} {F : Nat → Prop} {bs : List Int}
theorem wr_reads (h : WrIs w pw F bs) (hl : bs.length ≤ 2147483647) : ∃ pr ad cap at0, (∀ k v, [Value.pointer (some ⟨pr, 0, none⟩)][k]? = some v → w.cell? ⟨pw, 0 + k, none⟩ = some v) ∧ (∀ k v, [Value.slice ad bs.length cap, .int .i64 at0][k]? = some v → w.cell? ⟨pr, 0 + k, none⟩ = some v) ∧ SlAt u8c 1 Any w ⟨ad, cap, bs⟩ := by
  obtain ⟨pr, a, cap, at', h1, h2, h3, -⟩ := h
  exact ⟨pr, a, cap, at', fun k v hv => by rw [Nat.zero_add]; exact h1.cell (by rw [← List.getElem?_toArray] at hv; exact hv), fun k v hv => by rw [Nat.zero_add]; exact h2.cell (by rw [← List.getElem?_toArray] at hv; exact hv), row_slF (fun _ => rfl) h3 (by omega) (fun _ _ => trivial)⟩
theorem len_satW (h : Sat A w) (hi : A.σ[i]? = some (wrC pw F bs)) (hl : bs.length ≤ 2147483647) : Calls Try.prog 35 #[.pointer (some ⟨pw, 0, none⟩)] w fun e w' => e = .returned (.int .i64 (bs.length : Nat)) ∧ Keeps (fun _ => False) w w' := by
  obtain ⟨pr, ad, cap, at0, h1, h2, h3⟩ := wr_reads (h.at hi) hl
  exact len1_calls w pw pr ad cap at0 bs h1 h2 h3 hl
theorem out_satW (h : Sat A w) (hi : A.σ[i]? = some (wrC pw F bs)) (hl : bs.length ≤ 2147483647) : Calls Try.prog 34 #[.pointer (some ⟨pw, 0, none⟩)] w fun e w' => ∃ a cap, e = .returned (.slice a bs.length cap) ∧ A.n ≤ w'.heap.size ∧ Sat { A with n := w'.heap.size, σ := A.σ ++ [rowL A.n 5 1 u8c (.slice a bs.length cap) bs] } w' := by
  obtain ⟨pr, ad, cap, at0, h1, h2, h3⟩ := wr_reads (h.at hi) hl
  refine (out1_calls w pw pr ad cap at0 bs h1 h2 h3 hl).mono ?_
  rintro e w' ⟨a, cap, rfl, ho, hk⟩
  rw [h.size] at ho
  exact ⟨a, cap, rfl, size_of h hk, h.keeps1 hk (rowL A.n 5 1 u8c (.slice a bs.length cap) bs) ho (row_stable _ _ _ _ _ _) (fun b hb => ho.lt b hb)⟩
theorem newwr_sat (h : Sat A w) : Calls Try.prog 24 #[] w fun e w' => ∃ pw F', e = .returned (.pointer (some ⟨pw, 0, none⟩)) ∧ A.n ≤ w'.heap.size ∧ Sat { A with n := w'.heap.size, σ := A.σ ++ [wrC pw F' []] } w' := by
  refine (newwr_calls w).mono ?_
  rintro e w' ⟨pw, rfl, hW, hk⟩
  exact ⟨pw, _, rfl, size_of h hk, h.keeps1 hk (wrC pw (fun b => w.heap.size ≤ b ∧ b < w'.heap.size) []) hW (wr_stable _ _ _) (fun b hb => by
    have hb' : w.heap.size ≤ b ∧ b < w'.heap.size := hb
    rw [h.size] at hb'; exact hb')⟩
end
abbrev q99b_0 (k : Nat) (b : Sl Int) (i : Nat) (y11 : Int) : Nat × Value := (3, .int .u32 (crcBits k (bx32 (crcUp b.xs i) (IntKind.u32.wrap y11))))
abbrev q99b_1 (b4 : Nat) (o5 : Nat) (b : Sl Int) : Nat × Value := (7, .slice (some ⟨b4, o5, none⟩) b.xs.length b.cap)
abbrev q99b_2 (b : Sl Int) : Nat × Value := (8, i6 ((b.xs.length : Nat) : Int))
theorem sum_calls (w : World) (b : Sl Int) (hb : SlAt u8c 1 Any w b) : Calls Try.prog 33 #[.slice b.a b.xs.length b.cap] w fun e w' => e = .returned (.int .u32 (sumB b.xs)) ∧ Keeps (fun _ => False) w w' := by
 obtain ⟨z, hz⟩ : ∃ z, z = w.heap.size := ⟨_, rfl⟩
 refine calls_G (args := [.slice b.a b.xs.length b.cap]) 31 ⟨w, z, [(old0 w)]⟩ Try.func33 rfl (by kernel_rfl) (by kernel_rfl) (sat_0 hz) ?_
 have hbl := hb.len
 refine g_keep [0] [(0, .slice b.a b.xs.length b.cap)] ?_
 refine q_cS 14 0 [] [[o0], [o0], [o0, o0, o0]] [] [(3, .int .u32 4294967295), (7, .slice b.a b.xs.length b.cap), (q99b_2 b), (9, i6 0)] rfl trivial ?_
 refine g_loop (fun m a w' => ∃ (n2 : Nat) (i : Nat), m = b.xs.length - i ∧ z ≤ n2 ∧ (i ≤ b.xs.length) ∧ St 31 [(3, .int .u32 (crcUp b.xs i)), (7, .slice b.a b.xs.length b.cap), (q99b_2 b), (9, i6 (i : Int))] [] ⟨w, n2, [(old0 w)]⟩ a w') (b.xs.length - 0) ?_ ?_
 · intro a w' hs; exact ⟨z, 0, rfl, Nat.le_refl _, Nat.zero_le _, by (try dsimp only [q99b_0, q99b_1, q99b_2] at hs ⊢); rw [show crcUp b.xs 0 = 4294967295 from rfl]; exact hs⟩
 · rintro m a w' ⟨n2, i, rfl, hn1, hki, hs⟩
   refine (?_ : G Try.prog 31 [(3, .int .u32 (crcUp b.xs i)), (7, .slice b.a b.xs.length b.cap), (q99b_2 b), (9, i6 (i : Int))] [] ⟨w, n2, [(old0 w)]⟩ _ _ _) a w' hs
   clear hs a w'
   refine g_seq ?_
   by_cases h3 : ((i : Int) : Int) < ((b.xs.length : Nat) : Int)
   · refine q_cS 10 0 [1] [[oT]] [BT (((i : Int) : Int) < ((b.xs.length : Nat) : Int))] [(3, .int .u32 (crcUp b.xs i)), (7, .slice b.a b.xs.length b.cap), (q99b_2 b), (9, i6 (i : Int)), (10, .bool true)] rfl ⟨bt (by omega), trivial⟩ ?_
     obtain ⟨b4, o5, ha6, hF8, hc7⟩ := ((⟨hb, fun _ _ => trivial⟩ : SlOk u8c 1 (fun _ _ _ => True) _ _ _)).1.all (show 0 < b.xs.length by omega)
     replace ha6 : b.a = some ⟨b4, o5, none⟩ := ha6
     refine g_eq [(3, .int .u32 (crcUp b.xs i)), (q99b_1 b4 o5 b), (q99b_2 b), (9, i6 (i : Int)), (10, .bool true)] (by (try dsimp only [q99b_0, q99b_1, q99b_2]); simp only [ha6]) ?_
     have hc9 := hc7 i (show i < b.xs.length by omega)
     have he10 := ((⟨hb, fun _ _ => trivial⟩ : SlOk u8c 1 (fun _ _ _ => True) _ _ _)).2 i (show i < b.xs.length by omega)
     obtain ⟨y11, hy11⟩ : ∃ y_, y_ = gd b.xs i := ⟨_, rfl⟩
     rw [← hy11] at he10 hc9
     refine q_cS 12 0 [] [[(oi i), (oa [.via 0 (.int .u8 y11)]), o0], [o0, o0, o0, o0, o0], [o0]] [((i : Int) : Int) = ((i : Nat) : Int), i < b.xs.length, (none : Option Nat) = none, Old w b4 (o5 + i) (.int .u8 y11)] [(3, .int .u32 (bx32 (crcUp b.xs i) (IntKind.u32.wrap y11))), (q99b_1 b4 o5 b), (q99b_2 b), (9, i6 (i : Int)), (17, i6 0)] rfl ⟨rfl, (by omega), rfl, old_cell' (hc9 0 _ rfl), trivial⟩ ?_
     refine g_loop (fun m a w' => ∃ (n13 : Nat) (k : Nat), m = 8 - k ∧ n2 ≤ n13 ∧ (k ≤ 8) ∧ St 31 [(q99b_0 k b i y11), (q99b_1 b4 o5 b), (q99b_2 b), (9, i6 (i : Int)), (17, i6 (k : Int))] [] ⟨w, n13, [(old0 w)]⟩ a w') (8 - 0) ?_ ?_
     · intro a w' hs; exact ⟨n2, 0, rfl, Nat.le_refl _, Nat.zero_le _, by (try dsimp only [q99b_0, q99b_1, q99b_2] at hs ⊢); rw [show crcBits 0 (bx32 (crcUp b.xs i) (IntKind.u32.wrap y11)) = (bx32 (crcUp b.xs i) (IntKind.u32.wrap y11)) from rfl]; exact hs⟩
     · rintro m a w' ⟨n13, k, rfl, hn12, hkk, hs⟩
       refine (?_ : G Try.prog 31 [(q99b_0 k b i y11), (q99b_1 b4 o5 b), (q99b_2 b), (9, i6 (i : Int)), (17, i6 (k : Int))] [] ⟨w, n13, [(old0 w)]⟩ _ _ _) a w' hs
       clear hs a w'
       refine g_seq ?_
       by_cases h14 : ((k : Int) : Int) < 8
       · refine q_cS 18 0 [1] [[oT], [o0, o0, o0], [o0, (ov (.int .u32 ((crcBits k (bx32 (crcUp b.xs i) (IntKind.u32.wrap y11))) / 2))), o0]] [BT (((k : Int) : Int) < 8), Value.int .u32 (Int.fdiv ((crcBits k (bx32 (crcUp b.xs i) (IntKind.u32.wrap y11)))) (2 ^ 1)) = Value.int .u32 ((crcBits k (bx32 (crcUp b.xs i) (IntKind.u32.wrap y11))) / 2)] [(3, .int .u32 ((crcBits k (bx32 (crcUp b.xs i) (IntKind.u32.wrap y11))) / 2)), (q99b_1 b4 o5 b), (q99b_2 b), (9, i6 (i : Int)), (17, i6 (k : Int)), (6, .int .u32 (ba32 (crcBits k (bx32 (crcUp b.xs i) (IntKind.u32.wrap y11))) 1))] rfl ⟨bt (by omega), congrArg (Value.int .u32) (fdiv_is _ 1), trivial⟩ ?_
         by_cases h15 : ((ba32 (crcBits k (bx32 (crcUp b.xs i) (IntKind.u32.wrap y11))) 1) : Int) = 1
         · refine q_cS 10 0 [1] [[o0, oT], [o0, o0, o0], [(ov (i6 ((k + 1 : Nat) : Int))), o0]] [ET (ba32 (crcBits k (bx32 (crcUp b.xs i) (IntKind.u32.wrap y11))) 1) 1, Wr (((k : Int) : Int) + 1) (((k + 1 : Nat) : Int))] [(3, .int .u32 (bx32 ((crcBits k (bx32 (crcUp b.xs i) (IntKind.u32.wrap y11))) / 2) 3988292384)), (q99b_1 b4 o5 b), (q99b_2 b), (9, i6 (i : Int)), (17, i6 ((k + 1 : Nat) : Int))] rfl ⟨et (by omega), wrI, trivial⟩ ?_
           refine e_inv (fun a w' hs => ⟨8 - (k + 1), by omega, n13, (k + 1), rfl, by omega, by omega, by (try dsimp only [q99b_0, q99b_1, q99b_2] at hs ⊢); rw [show crcBits (k + 1) (bx32 (crcUp b.xs i) (IntKind.u32.wrap y11)) = crcBit (crcBits k (bx32 (crcUp b.xs i) (IntKind.u32.wrap y11))) from rfl, crcBit_yes (by omega)]; exact hs⟩)
         · refine q_cS 9 0 [0] [[o0, oF], [(ov (i6 ((k + 1 : Nat) : Int))), o0]] [EF (ba32 (crcBits k (bx32 (crcUp b.xs i) (IntKind.u32.wrap y11))) 1) 1, Wr (((k : Int) : Int) + 1) (((k + 1 : Nat) : Int))] [(3, .int .u32 ((crcBits k (bx32 (crcUp b.xs i) (IntKind.u32.wrap y11))) / 2)), (q99b_1 b4 o5 b), (q99b_2 b), (9, i6 (i : Int)), (17, i6 ((k + 1 : Nat) : Int))] rfl ⟨ef (by omega), wrI, trivial⟩ ?_
           refine e_inv (fun a w' hs => ⟨8 - (k + 1), by omega, n13, (k + 1), rfl, by omega, by omega, by (try dsimp only [q99b_0, q99b_1, q99b_2] at hs ⊢); rw [show crcBits (k + 1) (bx32 (crcUp b.xs i) (IntKind.u32.wrap y11)) = crcBit (crcBits k (bx32 (crcUp b.xs i) (IntKind.u32.wrap y11))) from rfl, crcBit_no (by omega)]; exact hs⟩)
       · refine q_cS 13 0 [0] [[oF], [(ov (i6 ((i + 1 : Nat) : Int))), o0]] [BF (((k : Int) : Int) < 8), Wr (((i : Int) : Int) + 1) (((i + 1 : Nat) : Int))] [(q99b_0 k b i y11), (q99b_1 b4 o5 b), (q99b_2 b), (9, i6 ((i + 1 : Nat) : Int))] rfl ⟨bf (by omega), wrI, trivial⟩ ?_
         refine e_eqk [3, 7, 8, 9] [(q99b_0 k b i y11), (7, .slice b.a b.xs.length b.cap), (q99b_2 b), (9, i6 ((i + 1 : Nat) : Int))] (by (try dsimp only [q99b_0, q99b_1, q99b_2]); simp only [ha6]; rfl) ?_
         refine e_inv (fun a w' hs => ⟨b.xs.length - (i + 1), by omega, n13, (i + 1), rfl, by omega, by omega, by (try dsimp only [q99b_0, q99b_1, q99b_2] at hs ⊢); have h8 : k = 8 := (by omega); rw [h8] at hs; rw [crcUp_succ (by omega), ← hy11]; exact hs⟩)
   · refine q_cS 15 0 [0] [[oF], [o0, o0, o0]] [BF (((i : Int) : Int) < ((b.xs.length : Nat) : Int))] [(2, .int .u32 (bx32 4294967295 (crcUp b.xs i)))] rfl ⟨bf (by omega), trivial⟩ ?_
     refine e_ret [] [] (.int .u32 (bx32 4294967295 (crcUp b.xs i))) trivial ?_
     intro w16 hw16
     have hie : i = b.xs.length := by omega
     exact ⟨by rw [hie]; rfl, back0 hw16⟩

end Go.Proofs.Ytmmkacfeocnblaa.Ly
