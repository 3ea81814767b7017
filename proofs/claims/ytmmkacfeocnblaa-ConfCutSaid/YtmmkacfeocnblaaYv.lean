/- A form of which one byte is another, that is cut off or longer, is no form: ConfTurned, ConfCut. No conditions. -/
import Derived.Test.YtmmkacfeocnblaaYr
import Derived.Test.YtmmkacfeocnblaaXe
import Derived.Test.YtmmkacfeocnblaaEngV
namespace Go.Proofs.Ytmmkacfeocnblaa.Ly
open Go Go.Proofs.Ytmmkacfeocnblaa.Eng Go.Proofs.Ytmmkacfeocnblaa.Mem
set_option linter.unusedSimpArgs false
set_option linter.unusedVariables false
set_option maxRecDepth 100000
/-- Where reading ends is within the bytes. -/
def In {α : Type} (b : List Int) (r : PR α) : Prop := match r with
  | .ok _ a => a ≤ b.length
  | .no a => a ≤ b.length
theorem in_bind {α β : Type} {b : List Int} {r : PR α} {f : α → Nat → PR β} (h : In b r) (hf : ∀ x a, a ≤ b.length → In b (f x a)) : In b (r.bind f) := by
  cases r with
  | ok x a => exact hf x a h
  | no a => exact h
theorem in_num {b : List Int} {a : Nat} (h : a ≤ b.length) : In b (numAt b a) := by unfold numAt; split <;> assumption
theorem in_byte {b : List Int} {a : Nat} (h : a ≤ b.length) : In b (byteAt b a) := by unfold byteAt; split <;> assumption
theorem in_src {b : List Int} {a : Nat} (h : a ≤ b.length) : In b (srcAt b a) := by
  unfold srcAt; split
  · rename_i k; exact k.1
  · exact h
theorem in_text {b : List Int} {a : Nat} (h : a ≤ b.length) : In b (textAt b a) := by
  unfold textAt; split
  · rename_i k; exact k.2.2
  · exact h
theorem in_many {α : Type} {b : List Int} {one : Nat → PR α} (h1 : ∀ a, a ≤ b.length → In b (one a)) : ∀ n a, a ≤ b.length → In b (many one n a)
  | 0, a, h => h
  | n + 1, a, h => in_bind (in_many h1 n a h) (fun _ a ha => in_bind (h1 a ha) (fun _ _ h => h))
theorem in_list {α : Type} {b : List Int} {one : Nat → PR α} (h1 : ∀ a, a ≤ b.length → In b (one a)) (a : Nat) (h : a ≤ b.length) : In b (listAt b one a) := in_bind (in_byte h) (fun _ a ha => in_many h1 _ a ha)
theorem in_win {b : List Int} (a : Nat) (h : a ≤ b.length) : In b (winAt b a) := in_bind (in_num h) fun _ _ h => in_bind (in_num h) fun _ _ h => in_bind (in_num h) fun _ _ h => h
theorem in_reg {b : List Int} (a : Nat) (h : a ≤ b.length) : In b (regAt b a) := in_bind (in_num h) fun _ _ h => in_bind (in_num h) fun _ _ h => in_bind (in_num h) fun _ _ h => in_bind (in_num h) fun _ _ h => h
theorem in_port {b : List Int} (a : Nat) (h : a ≤ b.length) : In b (portAt b a) := in_bind (in_num h) fun _ _ h => in_bind (in_src h) fun _ _ h => h
theorem in_chan {b : List Int} (a : Nat) (h : a ≤ b.length) : In b (chanAt b a) := in_bind (in_num h) fun _ _ h => in_bind (in_num h) fun _ _ h => in_bind (in_num h) fun _ _ h => h
theorem in_part {b : List Int} (a : Nat) (h : a ≤ b.length) : In b (partAt b a) := in_bind (in_text h) fun _ _ h => in_bind (in_num h) fun _ _ h => in_bind (in_num h) fun _ _ h => in_bind (in_num h) fun _ _ h => in_bind (in_num h) fun _ _ h => in_bind (in_num h) fun _ _ h => in_bind (in_list in_reg _ h) fun _ _ h => in_bind (in_list in_port _ h) fun _ _ h => h
theorem in_conf {b : List Int} (a : Nat) (h : a ≤ b.length) : In b (confAt b a) := in_bind (in_num h) fun _ _ h => in_bind (in_num h) fun _ _ h => in_bind (in_num h) fun _ _ h => in_bind (in_num h) fun _ _ h => in_bind (in_list (in_list in_win) _ h) fun _ _ h => in_bind (in_list in_part _ h) fun _ _ h => in_bind (in_list in_chan _ h) fun _ _ h => h
theorem in_mc {b : List Int} : In b ((markAt b 0).bind (fun _ a => confAt b a)) := in_bind (by unfold markAt; split; (rename_i k; exact k.1); exact Nat.zero_le _) (fun _ a h => in_conf a h)
theorem decP_place {b : List Int} {e : Int} {p : Nat} (h : decP b = .bad e p) : p ≤ b.length := by
  have hin := in_mc (b := b)
  unfold decP at h
  split at h
  · cases h; exact Nat.zero_le _
  · split at h
    · rename_i hc; rw [hc] at hin; cases h; exact hin
    · rename_i c a hc
      rw [hc] at hin
      have hin' : a ≤ b.length := hin
      split at h
      · cases h; exact hin'
      · split at h
        · cases h; omega
        · split at h
          · cases h
          · cases h; omega
theorem xor_can {a b c : Nat} (h : a ^^^ c = b ^^^ c) : a = b := by
  have h1 := congrArg (· ^^^ c) h
  simpa [Nat.xor_assoc, Nat.xor_self] using h1
def R32 (n : Int) : Prop := 0 ≤ n ∧ n < 4294967296
theorem bx_nat {a b : Nat} (ha : a < 4294967296) (hb : b < 4294967296) : bx32 (a : Int) (b : Int) = ((a ^^^ b : Nat) : Int) := by
  unfold bx32
  have e1 : (BitVec.ofInt IntKind.u32.bits (a : Int)).toNat = a := by rw [BitVec.toNat_ofInt]; show ((a : Int) % ((2 ^ 32 : Nat) : Int)).toNat = _; omega
  have e2 : (BitVec.ofInt IntKind.u32.bits (b : Int)).toNat = b := by rw [BitVec.toNat_ofInt]; show ((b : Int) % ((2 ^ 32 : Nat) : Int)).toNat = _; omega
  rw [BitVec.toNat_xor, e1, e2]
  have h := Nat.xor_lt_two_pow (x := a) (y := b) (n := 32) ha hb
  exact wr_u32 rfl (by omega) (by have : (2:Nat) ^ 32 = 4294967296 := by decide
                                  omega)
theorem ba_nat {a : Nat} (ha : a < 4294967296) : ba32 (a : Int) 1 = ((a % 2 : Nat) : Int) := by
  unfold ba32
  have e1 : (BitVec.ofInt IntKind.u32.bits (a : Int)).toNat = a := by rw [BitVec.toNat_ofInt]; show ((a : Int) % ((2 ^ 32 : Nat) : Int)).toNat = _; omega
  have e2 : (BitVec.ofInt IntKind.u32.bits (1 : Int)).toNat = 1 := by decide
  rw [BitVec.toNat_and, e1, e2, Nat.and_one_is_mod]
  exact wr_u32 rfl (by omega) (by omega)
theorem poly_top {a : Nat} (ha : a < 2147483648) : 2147483648 ≤ a ^^^ 3988292384 := by
  have h : (a ^^^ 3988292384).testBit 31 = true := by
    rw [Nat.testBit_xor, Nat.testBit_lt_two_pow (show a < 2 ^ 31 from ha)]; decide
  exact Nat.ge_two_pow_of_testBit h
def cbN (n : Nat) : Nat := if n % 2 = 1 then (n / 2) ^^^ 3988292384 else n / 2
theorem crcBit_nat {a : Nat} (ha : a < 4294967296) : crcBit (a : Int) = (cbN a : Int) ∧ cbN a < 4294967296 := by
  unfold crcBit cbN
  rw [ba_nat ha]
  by_cases h : a % 2 = 1
  · rw [if_pos (by omega), if_pos h]
    have h2 := Nat.xor_lt_two_pow (x := a / 2) (y := 3988292384) (n := 32) (by show a / 2 < 4294967296; omega) (by decide)
    refine ⟨?_, h2⟩
    have := bx_nat (a := a / 2) (b := 3988292384) (by omega) (by omega)
    rw [← this]; congr 1
  · rw [if_neg (by omega), if_neg h]; omega
theorem cbN_inj {a b : Nat} (ha : a < 4294967296) (hb : b < 4294967296) (h : cbN a = cbN b) : a = b := by
  unfold cbN at h
  have pa := poly_top (a := a / 2) (by omega)
  have pb := poly_top (a := b / 2) (by omega)
  by_cases h1 : a % 2 = 1 <;> by_cases h2 : b % 2 = 1
  · rw [if_pos h1, if_pos h2] at h
    have := xor_can h
    omega
  · rw [if_pos h1, if_neg h2] at h; omega
  · rw [if_neg h1, if_pos h2] at h; omega
  · rw [if_neg h1, if_neg h2] at h; omega
theorem crcBit_inj {a b : Int} (ha : R32 a) (hb : R32 b) (h : crcBit a = crcBit b) : a = b := by
  obtain ⟨x, rfl⟩ := Int.eq_ofNat_of_zero_le ha.1
  obtain ⟨y, rfl⟩ := Int.eq_ofNat_of_zero_le hb.1
  have hx : x < 4294967296 := by have := ha.2; omega
  have hy : y < 4294967296 := by have := hb.2; omega
  rw [(crcBit_nat hx).1, (crcBit_nat hy).1] at h
  have := cbN_inj hx hy (by omega)
  rw [this]
theorem crcBit_R {a : Int} (ha : R32 a) : R32 (crcBit a) := by
  obtain ⟨x, rfl⟩ := Int.eq_ofNat_of_zero_le ha.1
  have hx : x < 4294967296 := by have := ha.2; omega
  have := crcBit_nat hx
  rw [this.1]; exact ⟨by omega, by omega⟩
theorem crcBits_R {a : Int} (ha : R32 a) : ∀ k, R32 (crcBits k a)
  | 0 => ha
  | k + 1 => crcBit_R (crcBits_R ha k)
theorem crcBits_inj {a b : Int} (ha : R32 a) (hb : R32 b) : ∀ k, crcBits k a = crcBits k b → a = b
  | 0, h => h
  | k + 1, h => crcBits_inj ha hb k (crcBit_inj (crcBits_R ha k) (crcBits_R hb k) h)
theorem bx_R (a b : Int) : R32 (bx32 a b) := bx32_in a b
theorem bx_inj {a b c : Int} (ha : R32 a) (hb : R32 b) (hc : R32 c) (h : bx32 a c = bx32 b c) : a = b := by
  obtain ⟨x, rfl⟩ := Int.eq_ofNat_of_zero_le ha.1
  obtain ⟨y, rfl⟩ := Int.eq_ofNat_of_zero_le hb.1
  obtain ⟨z, rfl⟩ := Int.eq_ofNat_of_zero_le hc.1
  have hx : x < 4294967296 := by have := ha.2; omega
  have hy : y < 4294967296 := by have := hb.2; omega
  have hz : z < 4294967296 := by have := hc.2; omega
  rw [bx_nat hx hz, bx_nat hy hz] at h
  have := xor_can (show x ^^^ z = y ^^^ z by omega)
  rw [this]
theorem bx_comm (a b : Int) : bx32 a b = bx32 b a := by unfold bx32; rw [BitVec.xor_comm]
theorem crcByte_R (n x : Int) : R32 (crcByte n x) := crcBits_R (bx_R _ _) 8
theorem byte_R {x : Int} (h : 0 ≤ x ∧ x < 256) : IntKind.u32.wrap x = x := wr_u32 rfl h.1 (by omega)
theorem crcByte_inj {n m x : Int} (hn : R32 n) (hm : R32 m) (hx : 0 ≤ x ∧ x < 256) (h : crcByte n x = crcByte m x) : n = m := by
  unfold crcByte at h
  rw [byte_R hx] at h
  exact bx_inj hn hm ⟨hx.1, by omega⟩ (crcBits_inj (bx_R _ _) (bx_R _ _) 8 h)
theorem crcByte_injx {n x y : Int} (hn : R32 n) (hx : 0 ≤ x ∧ x < 256) (hy : 0 ≤ y ∧ y < 256) (h : crcByte n x = crcByte n y) : x = y := by
  unfold crcByte at h
  rw [byte_R hx, byte_R hy] at h
  have := crcBits_inj (bx_R _ _) (bx_R _ _) 8 h
  rw [bx_comm n x, bx_comm n y] at this
  exact bx_inj ⟨hx.1, by omega⟩ ⟨hy.1, by omega⟩ hn this
theorem fold_R {bs : List Int} : ∀ {s : Int}, R32 s → R32 (bs.foldl crcByte s) := by
  induction bs with
  | nil => exact fun h => h
  | cons x bs ih => exact fun h => ih (crcByte_R _ _)
theorem fold_inj {bs : List Int} (hB : Byt bs) : ∀ {s t : Int}, R32 s → R32 t → bs.foldl crcByte s = bs.foldl crcByte t → s = t := by
  induction bs with
  | nil => exact fun _ _ h => h
  | cons x bs ih =>
    intro s t hs ht h
    exact crcByte_inj hs ht (hB x (List.mem_cons_self ..)) (ih (fun y hy => hB y (List.mem_cons_of_mem _ hy)) (crcByte_R _ _) (crcByte_R _ _) h)
theorem sumB_fold (bs : List Int) : sumB bs = bx32 4294967295 (bs.foldl crcByte 4294967295) := by unfold sumB crcUp; rw [List.take_length]
theorem top_R : R32 4294967295 := ⟨by omega, by omega⟩
theorem sum_one {bs : List Int} (hB : Byt bs) {i : Nat} (hi : i < bs.length) {y : Int} (hy : 0 ≤ y ∧ y < 256) (hne : y ≠ gd bs i) : sumB (bs.set i y) ≠ sumB bs := by
  intro h
  rw [sumB_fold, sumB_fold, bx_comm, bx_comm 4294967295] at h
  have h1 := bx_inj (fold_R top_R) (fold_R top_R) top_R h
  have e1 : bs = bs.take i ++ gd bs i :: bs.drop (i + 1) := by rw [gd_eq hi]; simp
  have e2 : bs.set i y = bs.take i ++ y :: bs.drop (i + 1) := by rw [List.set_eq_take_append_cons_drop, if_pos hi]
  rw [e2] at h1
  conv at h1 => rhs; rw [e1]
  rw [List.foldl_append, List.foldl_append, List.foldl_cons, List.foldl_cons] at h1
  have h2 := fold_inj (fun z hz => hB z (List.mem_of_mem_drop hz)) (crcByte_R _ _) (crcByte_R _ _) h1
  exact hne (crcByte_injx (fold_R top_R) hy (by rw [gd_eq hi]; exact hB _ (List.getElem_mem hi)) h2)
theorem leB_inj {n m : Int} (hn : R32 n) (hm : R32 m) (h : leB n 4 = leB m 4) : n = m := by
  rw [leB4, leB4] at h
  simp only [List.cons.injEq, and_true] at h
  obtain ⟨h1, h2, h3, h4⟩ := h
  obtain ⟨a, b⟩ := hn
  obtain ⟨c, d⟩ := hm
  omega
theorem set_byt {bs : List Int} (hB : Byt bs) {i : Nat} {y : Int} (hy : 0 ≤ y ∧ y < 256) : Byt (bs.set i y) := fun x hx => by
  rcases List.mem_or_eq_of_mem_set hx with hx | rfl
  · exact hB x hx
  · exact hy
/-- A form of which one byte is another is no form. -/
theorem turned_no {bs : List Int} {c d : PConf} (hB : Byt bs) (hb : bs = encPC c) {i : Nat} (hi : i < bs.length) {y : Int} (hy : 0 ≤ y ∧ y < 256) (hne : y ≠ gd bs i) : bs.set i y ≠ encPC d := by
  intro h
  have hl : (encPC d).length = (encPC c).length := by rw [← h, ← hb, List.length_set]
  rw [encPC_len, encPC_len] at hl
  have hlf : (formP d).length = (formP c).length := by omega
  have hbl : bs.length = (formP c).length + 4 := by rw [hb, encPC_len]
  have hBf : Byt (formP c) := fun x hx => hB x (by rw [hb]; exact List.mem_append_left _ hx)
  unfold encPC at h hb
  by_cases hif : i < (formP c).length
  · rw [hb, List.set_append_left _ _ hif] at h
    obtain ⟨h1, h2⟩ := List.append_inj h (by rw [List.length_set]; omega)
    rw [← h1] at h2
    have := leB_inj (sumB_in _) (sumB_in _) h2
    refine sum_one hBf hif hy ?_ this.symm
    intro e
    apply hne
    rw [e, hb, gd_eq hif, gd_eq (by rw [List.length_append]; omega), List.getElem_append_left hif]
  · rw [hb, List.set_append_right _ _ (by omega)] at h
    obtain ⟨h1, h2⟩ := List.append_inj h (by omega)
    rw [← h1] at h2
    have h3 : i - (formP c).length < (leB (sumB (formP c)) 4).length := by rw [leB_len]; omega
    have h4 : gd ((leB (sumB (formP c)) 4).set (i - (formP c).length) y) (i - (formP c).length) = gd (leB (sumB (formP c)) 4) (i - (formP c).length) := congrArg (fun l => gd l (i - (formP c).length)) h2
    rw [gd_eq (by rw [List.length_set]; exact h3), List.getElem_set_self, gd_eq h3] at h4
    apply hne
    rw [h4, gd_eq hi]
    have : ∀ (l : List Int) (hl : i < l.length), l = formP c ++ leB (sumB (formP c)) 4 → l[i] = (leB (sumB (formP c)) 4)[i - (formP c).length]'h3 := by
      rintro l hl rfl
      rw [List.getElem_append_right (by omega)]
    exact (this bs hi hb).symm
/-- Of two readings over the same bytes. -/
theorem mc_take {b : List Int} (hB : Byt b) {n : Nat} {c d : PConf} {a a2 : Nat} (h : (markAt (b.take n) 0).bind (fun _ a => confAt (b.take n) a) = .ok c a) (h2 : (markAt b 0).bind (fun _ a => confAt b a) = .ok d a2) : a = a2 := by
  have hBt : Byt (b.take n) := fun x hx => hB x (List.mem_of_mem_take hx)
  obtain ⟨g1, g2, rfl⟩ := (mc_iff hBt).1 h
  have g3 := lies_ext (more := b.drop n) g2
  rw [List.take_append_drop] at g3
  have g4 := (mc_iff hB).2 ⟨g1, g3, rfl⟩
  rw [h2] at g4
  cases g4; rfl
theorem cut_no {b : List Int} (hB : Byt b) {c : PConf} (hD : decP b = .ok c) {n : Nat} (hn : n < b.length) : ∃ p, decP (b.take n) = .bad 110 p ∧ p ≤ n := by
  obtain ⟨h1, h2, h3⟩ := (dec_iff hB).1 hD
  have hL : Lies b 0 (formP c) := by
    have : Lies b 0 (encPC c) := ⟨by omega, by rw [List.drop_zero, ← h3]; exact List.prefix_refl _⟩
    unfold encPC at this
    exact (lies_app.1 this).1
  have hc := (mc_iff hB).2 ⟨h2, hL, rfl⟩
  have hl := congrArg List.length h3
  rw [encPC_len] at hl
  have hBt : Byt (b.take n) := fun x hx => hB x (List.mem_of_mem_take hx)
  have htl : (b.take n).length = n := by rw [List.length_take]; omega
  cases hd : decP (b.take n) with
  | ok d =>
    exfalso
    obtain ⟨k1, k2, k3⟩ := (dec_iff hBt).1 hd
    have hL2 : Lies (b.take n) 0 (formP d) := by
      have : Lies (b.take n) 0 (encPC d) := ⟨by omega, by rw [List.drop_zero, ← k3]; exact List.prefix_refl _⟩
      unfold encPC at this
      exact (lies_app.1 this).1
    have := mc_take hB ((mc_iff hBt).2 ⟨k2, hL2, rfl⟩) hc
    have hl2 := congrArg List.length k3
    rw [encPC_len] at hl2
    omega
  | bad e p =>
    rcases decP_bad hd with ⟨-, h, -⟩ | ⟨-, rfl⟩ | ⟨-, rfl, d, k1, k2⟩
    · omega
    · exact ⟨p, rfl, by have := decP_place hd; omega⟩
    · exfalso
      have := mc_take hB k1 hc
      omega
theorem more_no {b more : List Int} (hB : Byt b) (hM : Byt more) {c : PConf} (hD : decP b = .ok c) (hm : 0 < more.length) : decP (b ++ more) = if 16384 < (b ++ more).length then .bad 2 0 else .bad 110 b.length := by
  obtain ⟨h1, h2, h3⟩ := (dec_iff hB).1 hD
  split
  · rename_i h; exact decP_long h
  · rename_i h
    have hL : Lies b 0 (formP c) := by
      have : Lies b 0 (encPC c) := ⟨by omega, by rw [List.drop_zero, ← h3]; exact List.prefix_refl _⟩
      unfold encPC at this
      exact (lies_app.1 this).1
    have hl := congrArg List.length h3
    rw [encPC_len] at hl
    have hBm : Byt (b ++ more) := fun x hx => (List.mem_append.1 hx).elim (hB x) (hM x)
    have hc := (mc_iff hBm).2 ⟨h2, lies_ext hL, rfl⟩
    rw [decP_more (by omega) hc (by rw [List.length_append]; omega), hl]

def bx8 (a b : Int) : Int := IntKind.u8.wrap ((BitVec.ofInt IntKind.u8.bits a ^^^ BitVec.ofInt IntKind.u8.bits b).toNat)
theorem bx8_in {a b : Int} (ha : 0 ≤ a ∧ a < 256) (hb : 0 ≤ b ∧ b < 256) : (0 ≤ bx8 a b ∧ bx8 a b < 256) ∧ (b ≠ 0 → bx8 a b ≠ a) := by
  obtain ⟨x, rfl⟩ := Int.eq_ofNat_of_zero_le ha.1
  obtain ⟨y, rfl⟩ := Int.eq_ofNat_of_zero_le hb.1
  have hx : x < 256 := by omega
  have hy : y < 256 := by omega
  have e1 : (BitVec.ofInt IntKind.u8.bits (x : Int)).toNat = x := by rw [BitVec.toNat_ofInt]; show ((x : Int) % ((2 ^ 8 : Nat) : Int)).toNat = _; omega
  have e2 : (BitVec.ofInt IntKind.u8.bits (y : Int)).toNat = y := by rw [BitVec.toNat_ofInt]; show ((y : Int) % ((2 ^ 8 : Nat) : Int)).toNat = _; omega
  have h := Nat.xor_lt_two_pow (x := x) (y := y) (n := 8) hx hy
  have h8 : (2 : Nat) ^ 8 = 256 := by decide
  have e : bx8 (x : Int) (y : Int) = ((x ^^^ y : Nat) : Int) := by
    unfold bx8
    rw [BitVec.toNat_xor, e1, e2]
    exact wr_u8 rfl (by omega) (by omega)
  rw [e]
  refine ⟨⟨by omega, by omega⟩, fun hne hc => ?_⟩
  have h2 : x ^^^ y = x := by omega
  have h3 : y ^^^ x = 0 ^^^ x := by rw [Nat.zero_xor, Nat.xor_comm]; exact h2
  have := xor_can h3
  omega
theorem turned_dec {bs : List Int} {c : PConf} (hB : Byt bs) (hb : bs = encPC c) (hlen : bs.length ≤ 16384) {i : Nat} (hi : i < bs.length) {t : Int} (ht : 0 ≤ t ∧ t < 256) (hne : ¬ t = 0) : ∃ er q, decP (bs.set i (bx8 (gd bs i) t)) = .bad er q ∧ (er = 110 ∨ er = 111) ∧ q ≤ bs.length := by
  have hg : 0 ≤ gd bs i ∧ gd bs i < 256 := byt_gd hB i
  have hx := bx8_in hg ht
  have hBt := set_byt (i := i) hB hx.1
  cases hD : decP (bs.set i (bx8 (gd bs i) t)) with
  | ok d => exact absurd ((dec_iff hBt).1 hD).2.2 (turned_no hB hb hi hx.1 (hx.2 hne))
  | bad er q =>
    have hp := decP_place hD
    rw [List.length_set] at hp
    rcases decP_bad hD with ⟨-, h, -⟩ | ⟨-, h⟩ | ⟨-, h, -⟩
    · rw [List.length_set] at h; omega
    · exact ⟨er, q, rfl, .inl h, hp⟩
    · exact ⟨er, q, rfl, .inr h, hp⟩
theorem rowU_anyN {A : AW} {w : World} {i base n : Nat} {a : Option Addr} {cap : Nat} {xs : List Int} (h : Sat A w) (hn : xs.length = n) (hi : A.σ[i]? = some (rowL base 5 1 u8c (.slice a n cap) xs)) (hl : xs.length ≤ 140737488351232) : SlAt u8c 1 Any w ⟨a, cap, xs⟩ := by
  subst hn
  exact row_slF (fun _ => rfl) (h.at hi) hl (fun _ _ => trivial)
theorem decode_badN (w : World) (a : Option Addr) (cap n : Nat) (xs : List Int) (hn : xs.length = n) (hb : SlAt u8c 1 Any w ⟨a, cap, xs⟩) (hB : Byt xs) (er : Int) (q : Nat) (hD : decP xs = .bad er q) : Calls Try.prog 14 #[.slice a n cap] w fun e w' => e = .returned (.tuple #[.agg (TConfig.arr cfg0), .int .i64 (q : Nat), .int .i64 er]) ∧ Keeps (fun _ => False) w w' := by
  subst hn
  exact decode_bad w ⟨a, cap, xs⟩ hb hB er q hD

theorem encode_AE (w : World) (c : TConfig) (hc : TConfig.ok Any w c) (E : List Int) (hE : encB c = E) (h1 : okCf c = true) (h2 : E.length ≤ 16384) : Calls Try.prog 11 #[.agg (TConfig.arr c)] w fun e w' => ∃ a cap, e = .returned (.tuple #[.slice a E.length cap, .int .i64 0]) ∧ w'.ownsRow w.heap.size 5 1 (.slice a E.length cap) E.length (E.flatMap u8c) ∧ Keeps (fun _ => False) w w' := by
  subst hE; exact encode_A w c hc h1 h2
theorem more_dec {b more : List Int} (hB : Byt b) (hM : Byt more) {c : PConf} (hD : decP b = .ok c) (hm : 0 < more.length) : ∃ er q, decP (b ++ more) = .bad er q ∧ ((16384 < b.length + more.length ∧ er = 2 ∧ q = 0) ∨ (b.length + more.length ≤ 16384 ∧ er = 110 ∧ q = b.length)) := by
  have h := more_no hB hM hD hm
  rw [List.length_append] at h
  by_cases h1 : 16384 < b.length + more.length
  · rw [if_pos h1] at h; exact ⟨2, 0, h, .inl ⟨h1, rfl, rfl⟩⟩
  · rw [if_neg h1] at h; exact ⟨110, b.length, h, .inr ⟨by omega, rfl, rfl⟩⟩
theorem turned_B (w : World) (c : TConfig) (hc : TConfig.ok Any w c) (m : Nat) (hm : m ≤ 65535) (tn : Int) (htn : 0 ≤ tn ∧ tn < 256) (hk1 : okCf c = true) (hk2 : 16384 < (encB c).length) : Calls Try.prog 8 #[.agg (TConfig.arr c), .int .u16 (m : Int), .int .u8 tn] w fun e w' => e = .returned (.bool true) ∧ Keeps (fun _ => False) w w' := by
 obtain ⟨z, hz⟩ : ∃ z, z = w.heap.size := ⟨_, rfl⟩
 refine calls_G (args := [.agg (TConfig.arr c), .int .u16 (m : Int), .int .u8 tn]) 81 ⟨w, z, [(old0 w)]⟩ Try.func8 rfl (by kernel_rfl) (by kernel_rfl) (sat_0 hz) ?_
 refine g_keep [0, 1, 2] [(0, .agg (TConfig.arr c)), (1, .int .u16 (m : Int)), (2, .int .u8 tn)] ?_
 refine q_c 6 1 [] [[o0, o0], [(an 7 1)]] [Qb z, Qb z, Qb z, Qb z, Qb z, Qb z, Qb z] [(1, .int .u16 (m : Int)), (2, .int .u8 tn), (3, pt z), (17, .agg (TConfig.arr c))] ⟨w, z + 1, [(old0 w), (bk z (TConfig.arr c) 26)]⟩ rfl ⟨rfl, rfl, rfl, rfl, rfl, rfl, rfl, trivial⟩ ?_
 refine l_call [] [] 11 #[.agg (TConfig.arr c)] (some 18) trivial ?_
 intro w1 hw1
 refine (encode_B w1 c (hc.ext (hw1.ext rfl) (fun _ h => h)) hk1 hk2).mono ?_
 rintro e w2 ⟨rfl, hkw2⟩
 have hnw2 : z + 1 ≤ w2.heap.size := size_of hw1 hkw2
 refine ⟨_, _, rfl, hw1.keeps hkw2, ?_⟩
 refine q_rS 10 1 [1] [[o0, o0, o0, o0, o0], [o0, o0], [(an 7 1)]] [Qb z, Qb z, Qb z, Qb z, Qb z, Qb z, Qb z] [(8, i6 2), (24, .agg (TConfig.arr c))] rfl ⟨rfl, rfl, rfl, rfl, rfl, rfl, rfl, trivial⟩ ?_
 refine l_call [] [] 12 #[.agg (TConfig.arr c)] (some 25) trivial ?_
 intro w3 hw3
 refine (rencode_B w3 c (hc.ext (hw3.ext rfl) (fun _ h => h)) hk1 hk2).mono ?_
 rintro e w4 ⟨rfl, hkw4⟩
 have hnw4 : w2.heap.size ≤ w4.heap.size := size_of hw3 hkw4
 refine ⟨_, _, rfl, hw3.keeps hkw4, ?_⟩
 refine q_rS 7 0 [] [[o0, o0, o0, o0, o0], [o0, o0, o0, o0]] [] [(6, .bool true)] rfl trivial ?_
 refine e_ret [] [] (.bool true) trivial ?_
 intro w5 hw5
 exact ⟨rfl, back0 hw5⟩
theorem turned_C (w : World) (c : TConfig) (hc : TConfig.ok Any w c) (m : Nat) (hm : m ≤ 65535) (tn : Int) (htn : 0 ≤ tn ∧ tn < 256) (hk1 : okCf c = false) : Calls Try.prog 8 #[.agg (TConfig.arr c), .int .u16 (m : Int), .int .u8 tn] w fun e w' => e = .returned (.bool true) ∧ Keeps (fun _ => False) w w' := by
 obtain ⟨z, hz⟩ : ∃ z, z = w.heap.size := ⟨_, rfl⟩
 refine calls_G (args := [.agg (TConfig.arr c), .int .u16 (m : Int), .int .u8 tn]) 81 ⟨w, z, [(old0 w)]⟩ Try.func8 rfl (by kernel_rfl) (by kernel_rfl) (sat_0 hz) ?_
 refine g_keep [0, 1, 2] [(0, .agg (TConfig.arr c)), (1, .int .u16 (m : Int)), (2, .int .u8 tn)] ?_
 refine q_c 6 1 [] [[o0, o0], [(an 7 1)]] [Qb z, Qb z, Qb z, Qb z, Qb z, Qb z, Qb z] [(1, .int .u16 (m : Int)), (2, .int .u8 tn), (3, pt z), (17, .agg (TConfig.arr c))] ⟨w, z + 1, [(old0 w), (bk z (TConfig.arr c) 26)]⟩ rfl ⟨rfl, rfl, rfl, rfl, rfl, rfl, rfl, trivial⟩ ?_
 refine l_call [] [] 11 #[.agg (TConfig.arr c)] (some 18) trivial ?_
 intro w1 hw1
 refine (encode_C w1 c (hc.ext (hw1.ext rfl) (fun _ h => h)) hk1).mono ?_
 rintro e w2 ⟨rfl, hkw2⟩
 have hnw2 : z + 1 ≤ w2.heap.size := size_of hw1 hkw2
 refine ⟨_, _, rfl, hw1.keeps hkw2, ?_⟩
 refine q_rS 10 1 [1] [[o0, o0, o0, o0, o0], [o0, o0], [(an 7 1)]] [Qb z, Qb z, Qb z, Qb z, Qb z, Qb z, Qb z] [(8, i6 112), (24, .agg (TConfig.arr c))] rfl ⟨rfl, rfl, rfl, rfl, rfl, rfl, rfl, trivial⟩ ?_
 refine l_call [] [] 12 #[.agg (TConfig.arr c)] (some 25) trivial ?_
 intro w3 hw3
 refine (rencode_C w3 c (hc.ext (hw3.ext rfl) (fun _ h => h)) hk1).mono ?_
 rintro e w4 ⟨rfl, hkw4⟩
 have hnw4 : w2.heap.size ≤ w4.heap.size := size_of hw3 hkw4
 refine ⟨_, _, rfl, hw3.keeps hkw4, ?_⟩
 refine q_rS 7 0 [] [[o0, o0, o0, o0, o0], [o0, o0, o0, o0]] [] [(6, .bool true)] rfl trivial ?_
 refine e_ret [] [] (.bool true) trivial ?_
 intro w5 hw5
 exact ⟨rfl, back0 hw5⟩
abbrev qzsp_0  : Nat × Value := (78, .agg #[i6 0, i6 0, i6 0, i6 0, .slice none 0 0, .slice none 0 0, .slice none 0 0])
theorem turned_A (w : World) (c : TConfig) (hc : TConfig.ok Any w c) (m : Nat) (hm : m ≤ 65535) (tn : Int) (htn : 0 ≤ tn ∧ tn < 256) (E : List Int) (hE : encB c = E) (hBE : Byt E) (hk1 : okCf c = true) (hk2 : E.length ≤ 16384) (hEq : E = encPC (plC c)) (hpos : 0 < E.length) : Calls Try.prog 8 #[.agg (TConfig.arr c), .int .u16 (m : Int), .int .u8 tn] w fun e w' => e = .returned (.bool true) ∧ Keeps (fun _ => False) w w' := by
 obtain ⟨z, hz⟩ : ∃ z, z = w.heap.size := ⟨_, rfl⟩
 refine calls_G (args := [.agg (TConfig.arr c), .int .u16 (m : Int), .int .u8 tn]) 81 ⟨w, z, [(old0 w)]⟩ Try.func8 rfl (by kernel_rfl) (by kernel_rfl) (sat_0 hz) ?_
 have hmod : m % E.length < E.length := Nat.mod_lt _ hpos
 refine g_keep [0, 1, 2] [(0, .agg (TConfig.arr c)), (1, .int .u16 (m : Int)), (2, .int .u8 tn)] ?_
 refine q_c 6 1 [] [[o0, o0], [(an 7 1)]] [Qb z, Qb z, Qb z, Qb z, Qb z, Qb z, Qb z] [(1, .int .u16 (m : Int)), (2, .int .u8 tn), (3, pt z), (17, .agg (TConfig.arr c))] ⟨w, z + 1, [(old0 w), (bk z (TConfig.arr c) 26)]⟩ rfl ⟨rfl, rfl, rfl, rfl, rfl, rfl, rfl, trivial⟩ ?_
 refine l_call [] [] 11 #[.agg (TConfig.arr c)] (some 18) trivial ?_
 intro w1 hw1
 refine (encode_AE w1 c (hc.ext (hw1.ext rfl) (fun _ h => h)) E hE hk1 hk2).mono ?_
 rintro e w2 ⟨a3, cp4, rfl, how2, hkw2⟩
 have hnw2 : z + 1 ≤ w2.heap.size := size_of hw1 hkw2
 rw [hw1.size] at how2
 have hcpw2 : E.length ≤ cp4 := (row_slF (cells := u8c) (F := fun _ => True) (fun _ => rfl) how2 (by omega) (fun _ _ => trivial)).le
 refine ⟨_, _, rfl, hw1.keeps1 hkw2 (rowL (z + 1) 5 1 u8c (.slice a3 E.length cp4) E) how2 (row_stable _ _ _ _ _ _) (fun b hb => how2.lt b hb), ?_⟩
 refine q_rS 12 0 [0] [[o0, o0, o0, o0, o0], [o0, o0]] [] [(1, .int .u16 (m : Int)), (2, .int .u8 tn), (3, pt z), (7, .slice a3 E.length cp4), (8, i6 0), (22, .bool false)] rfl trivial ?_
 by_cases h5 : (tn : Int) = 0
 · refine q_cS 9 0 [1] [[o0, o0, oF, o0, o0, oT, o0], [o0, o0, oT, o0]] [EF ((E.length : Nat) : Int) 0, ET tn 0, BT ((((E.length : Nat) : Int) : Int) > 0)] [(6, .bool true)] rfl ⟨ef (by omega), et (by omega), bt (by omega), trivial⟩ ?_
   refine e_ret [] [] (.bool true) trivial ?_
   intro w6 hw6
   exact ⟨rfl, back0 hw6⟩
 · refine q_cS 8 4 [0] [[o0, o0, oF, o0, o0, oF, o0], [o0, (ov (i6 (m : Int))), o0, o0]] [EF ((E.length : Nat) : Int) 0, EF tn 0, Wr ((m : Int)) ((m : Int))] [(2, .int .u8 tn), (7, .slice a3 E.length cp4), (42, i6 (m : Int)), (44, i6 ((E.length : Nat) : Int))] rfl ⟨ef (by omega), ef (by omega), wrI rfl, trivial⟩ ?_
   refine l_div false .i64 (m : Int) ((E.length : Nat) : Int) ((m % E.length : Nat) : Int) (some 45) (by omega) (mod_nat m E.length) ?_
   refine q_rS 3 0 [] [[o0]] [] [(2, .int .u8 tn), (7, .slice a3 E.length cp4), (11, i6 ((m % E.length : Nat) : Int))] rfl trivial ?_
   refine g_rowat (base := (z + 1)) (e := 5) (sz := 1) (cells := u8c) (a := a3) (n := E.length) (cap := cp4) (xs := E) 2 (by omega) (fun b7 hg8 hb9 => ?_)
   subst hg8
   refine q_cS 1 7 [] [[o0, o0, (oi (m % E.length)), (oa [.via 2 (.int .u8 (gd E (m % E.length)))]), o0, o0, (oi (m % E.length))]] [(((m % E.length : Nat) : Int) : Int) = ((m % E.length : Nat) : Int), m % E.length < E.length, (none : Option Nat) = none, ∀ w', Ch.holds (rowL (z + 1) 5 1 u8c (.slice (some ⟨b7, 0, none⟩) E.length cp4) E) w' → w'.cell? ⟨b7, 0 + m % E.length, none⟩ = some (.int .u8 (gd E (m % E.length))), (((m % E.length : Nat) : Int) : Int) = ((m % E.length : Nat) : Int), m % E.length < E.length, (none : Option Nat) = none] [(7, .slice (some ⟨b7, 0, none⟩) E.length cp4), (51, .int .u8 (bx8 (gd E (m % E.length)) tn)), (52, .pointer (some ⟨b7, 0 + m % E.length, none⟩))] rfl ⟨rfl, (by omega), rfl, rowL_cell (k := 0) (fun _ => rfl) (by first | omega | (rw [List.length_set]; omega)) rfl, rfl, (by omega), rfl, trivial⟩ ?_
   refine l_rowset 2 (m % E.length) 0 E (bx8 (gd E (m % E.length)) tn) u8c (z + 1) 5 1 b7 E.length cp4 (.int .u8 (bx8 (gd E (m % E.length)) tn)) none (by first | omega | (rw [List.length_set]; omega)) rfl ?_
   refine q_rS 4 1 [] [[], [o0]] [] [(7, .slice (some ⟨b7, 0, none⟩) E.length cp4), (54, .slice (some ⟨b7, 0, none⟩) E.length cp4)] rfl trivial ?_
   refine l_call [] [] 14 #[.slice (some ⟨b7, 0, none⟩) E.length cp4] (some 55) trivial ?_
   intro w10 hw10
   obtain ⟨er11, q12, hD2, her, hpl⟩ := turned_dec (bs := E) (c := plC c) (i := (m % E.length)) (t := tn) hBE hEq hk2 (Nat.mod_lt _ hpos) htn (by omega)
   refine (decode_badN w10 (some ⟨b7, 0, none⟩) cp4 E.length (E.set (m % E.length) (bx8 (gd E (m % E.length)) tn)) (by rw [List.length_set]) (rowU_anyN hw10 (i := 2) (by rw [List.length_set]) rfl (by rw [List.length_set]; omega)) (set_byt hBE (bx8_in (byt_gd hBE _) htn).1) er11 q12 hD2).mono ?_
   rintro e w13 ⟨rfl, hkw13⟩
   have hnw13 : w2.heap.size ≤ w13.heap.size := size_of hw10 hkw13
   refine ⟨_, _, rfl, hw10.keeps hkw13, ?_⟩
   refine q_r 3 0 [] [[o0, o0, o0, o0, o0, (an 7 3), o0, o0]] [Qb w13.heap.size, Qb w13.heap.size, Qb w13.heap.size, Qb w13.heap.size, Qb w13.heap.size, Qb w13.heap.size, Qb w13.heap.size] [(7, .slice (some ⟨b7, 0, none⟩) E.length cp4), (12, pt w13.heap.size), (13, i6 (q12 : Int)), (14, i6 er11)] ⟨w, w13.heap.size + 1, [(old0 w), (bk z (TConfig.arr c) 26), (rowL (z + 1) 5 1 u8c (.slice (some ⟨b7, 0, none⟩) E.length cp4) (E.set (m % E.length) (bx8 (gd E (m % E.length)) tn))), (.blk w13.heap.size (.cells (TConfig.arr cfg0) 26 (0, 0)) true)]⟩ rfl ⟨rfl, rfl, rfl, rfl, rfl, rfl, rfl, trivial⟩ ?_
   by_cases h14 : (er11 : Int) = 110
   · refine q_cS 5 14 [] [[o0, oT, o0, o0, o0], [o0, o0, o0, oT, o0, o0, o0, o0, o0, oT, o0, o0, (an 7 3), o0]] [ET er11 110, BT (((q12 : Int) : Int) ≥ 0), BT (((q12 : Int) : Int) ≤ ((E.length : Nat) : Int)), Qb w13.heap.size, Qb w13.heap.size, Qb w13.heap.size, Qb w13.heap.size, Qb w13.heap.size, Qb w13.heap.size, Qb w13.heap.size] [(76, .bool true), (77, .agg (TConfig.arr cfg0)), (qzsp_0)] rfl ⟨et (by omega), bt (by omega), bt (by omega), rfl, rfl, rfl, rfl, rfl, rfl, rfl, trivial⟩ ?_
     refine l_call [] [] 16 #[.agg (TConfig.arr cfg0), .agg #[i6 0, i6 0, i6 0, i6 0, .slice none 0 0, .slice none 0 0, .slice none 0 0]] (some 79) trivial ?_
     intro w15 hw15
     refine (same_yes w15 cfg0 cfg0 (cfg0_ok w15) (cfg0_ok w15) rfl).mono ?_
     rintro e w16 ⟨rfl, hkw16⟩
     have hnw16 : w13.heap.size + 1 ≤ w16.heap.size := size_of hw15 hkw16
     refine ⟨_, _, rfl, hw15.keeps hkw16, ?_⟩
     refine q_rS 3 0 [] [[o0, o0]] [] [(6, .bool true)] rfl trivial ?_
     refine e_ret [] [] (.bool true) trivial ?_
     intro w17 hw17
     exact ⟨rfl, back0 hw17⟩
   · by_cases h18 : (er11 : Int) = 111
     · refine q_cS 5 14 [] [[o0, oF, o0, o0, oT, o0, o0], [o0, o0, o0, oT, o0, o0, o0, o0, o0, oT, o0, o0, (an 7 3), o0]] [EF er11 110, ET er11 111, BT (((q12 : Int) : Int) ≥ 0), BT (((q12 : Int) : Int) ≤ ((E.length : Nat) : Int)), Qb w13.heap.size, Qb w13.heap.size, Qb w13.heap.size, Qb w13.heap.size, Qb w13.heap.size, Qb w13.heap.size, Qb w13.heap.size] [(76, .bool true), (77, .agg (TConfig.arr cfg0)), (qzsp_0)] rfl ⟨ef (by omega), et (by omega), bt (by omega), bt (by omega), rfl, rfl, rfl, rfl, rfl, rfl, rfl, trivial⟩ ?_
       refine l_call [] [] 16 #[.agg (TConfig.arr cfg0), .agg #[i6 0, i6 0, i6 0, i6 0, .slice none 0 0, .slice none 0 0, .slice none 0 0]] (some 79) trivial ?_
       intro w19 hw19
       refine (same_yes w19 cfg0 cfg0 (cfg0_ok w19) (cfg0_ok w19) rfl).mono ?_
       rintro e w20 ⟨rfl, hkw20⟩
       have hnw20 : w13.heap.size + 1 ≤ w20.heap.size := size_of hw19 hkw20
       refine ⟨_, _, rfl, hw19.keeps hkw20, ?_⟩
       refine q_rS 3 0 [] [[o0, o0]] [] [(6, .bool true)] rfl trivial ?_
       refine e_ret [] [] (.bool true) trivial ?_
       intro w21 hw21
       exact ⟨rfl, back0 hw21⟩
     · refine q_cS 8 0 [] [[o0, oF, o0, o0, oF, o0, o0], [o0, o0, o0, o0, o0, o0, o0, o0]] [EF er11 110, EF er11 111] [(6, .bool false)] rfl ⟨ef (by omega), ef (by omega), trivial⟩ ?_
       refine e_ret [] [] (.bool false) trivial ?_
       intro w22 hw22
       exfalso; first | omega | (simp only [List.length_append, List.length_nil, List.nil_append] at *; omega)
theorem cut_B (w : World) (c : TConfig) (hc : TConfig.ok Any w c) (m : Nat) (hm : m ≤ 65535) (mr : Sl Int) (hmr : SlAt u8c 1 Any w mr) (hMB : Byt mr.xs) (hk1 : okCf c = true) (hk2 : 16384 < (encB c).length) : Calls Try.prog 9 #[.agg (TConfig.arr c), .int .u16 (m : Int), .slice mr.a mr.xs.length mr.cap] w fun e w' => e = .returned (.bool true) ∧ Keeps (fun _ => False) w w' := by
 obtain ⟨z, hz⟩ : ∃ z, z = w.heap.size := ⟨_, rfl⟩
 refine calls_G (args := [.agg (TConfig.arr c), .int .u16 (m : Int), .slice mr.a mr.xs.length mr.cap]) 91 ⟨w, z, [(old0 w)]⟩ Try.func9 rfl (by kernel_rfl) (by kernel_rfl) (sat_0 hz) ?_
 refine g_keep [0, 1, 2] [(0, .agg (TConfig.arr c)), (1, .int .u16 (m : Int)), (2, .slice mr.a mr.xs.length mr.cap)] ?_
 refine q_c 6 1 [] [[o0, o0], [(an 7 1)]] [Qb z, Qb z, Qb z, Qb z, Qb z, Qb z, Qb z] [(1, .int .u16 (m : Int)), (2, .slice mr.a mr.xs.length mr.cap), (3, pt z), (17, .agg (TConfig.arr c))] ⟨w, z + 1, [(old0 w), (bk z (TConfig.arr c) 26)]⟩ rfl ⟨rfl, rfl, rfl, rfl, rfl, rfl, rfl, trivial⟩ ?_
 refine l_call [] [] 11 #[.agg (TConfig.arr c)] (some 18) trivial ?_
 intro w1 hw1
 refine (encode_B w1 c (hc.ext (hw1.ext rfl) (fun _ h => h)) hk1 hk2).mono ?_
 rintro e w2 ⟨rfl, hkw2⟩
 have hnw2 : z + 1 ≤ w2.heap.size := size_of hw1 hkw2
 refine ⟨_, _, rfl, hw1.keeps hkw2, ?_⟩
 refine q_rS 10 1 [1] [[o0, o0, o0, o0, o0], [o0, o0], [(an 7 1)]] [Qb z, Qb z, Qb z, Qb z, Qb z, Qb z, Qb z] [(8, i6 2), (24, .agg (TConfig.arr c))] rfl ⟨rfl, rfl, rfl, rfl, rfl, rfl, rfl, trivial⟩ ?_
 refine l_call [] [] 12 #[.agg (TConfig.arr c)] (some 25) trivial ?_
 intro w3 hw3
 refine (rencode_B w3 c (hc.ext (hw3.ext rfl) (fun _ h => h)) hk1 hk2).mono ?_
 rintro e w4 ⟨rfl, hkw4⟩
 have hnw4 : w2.heap.size ≤ w4.heap.size := size_of hw3 hkw4
 refine ⟨_, _, rfl, hw3.keeps hkw4, ?_⟩
 refine q_rS 7 0 [] [[o0, o0, o0, o0, o0], [o0, o0, o0, o0]] [] [(6, .bool true)] rfl trivial ?_
 refine e_ret [] [] (.bool true) trivial ?_
 intro w5 hw5
 exact ⟨rfl, back0 hw5⟩
theorem cut_C (w : World) (c : TConfig) (hc : TConfig.ok Any w c) (m : Nat) (hm : m ≤ 65535) (mr : Sl Int) (hmr : SlAt u8c 1 Any w mr) (hMB : Byt mr.xs) (hk1 : okCf c = false) : Calls Try.prog 9 #[.agg (TConfig.arr c), .int .u16 (m : Int), .slice mr.a mr.xs.length mr.cap] w fun e w' => e = .returned (.bool true) ∧ Keeps (fun _ => False) w w' := by
 obtain ⟨z, hz⟩ : ∃ z, z = w.heap.size := ⟨_, rfl⟩
 refine calls_G (args := [.agg (TConfig.arr c), .int .u16 (m : Int), .slice mr.a mr.xs.length mr.cap]) 91 ⟨w, z, [(old0 w)]⟩ Try.func9 rfl (by kernel_rfl) (by kernel_rfl) (sat_0 hz) ?_
 refine g_keep [0, 1, 2] [(0, .agg (TConfig.arr c)), (1, .int .u16 (m : Int)), (2, .slice mr.a mr.xs.length mr.cap)] ?_
 refine q_c 6 1 [] [[o0, o0], [(an 7 1)]] [Qb z, Qb z, Qb z, Qb z, Qb z, Qb z, Qb z] [(1, .int .u16 (m : Int)), (2, .slice mr.a mr.xs.length mr.cap), (3, pt z), (17, .agg (TConfig.arr c))] ⟨w, z + 1, [(old0 w), (bk z (TConfig.arr c) 26)]⟩ rfl ⟨rfl, rfl, rfl, rfl, rfl, rfl, rfl, trivial⟩ ?_
 refine l_call [] [] 11 #[.agg (TConfig.arr c)] (some 18) trivial ?_
 intro w1 hw1
 refine (encode_C w1 c (hc.ext (hw1.ext rfl) (fun _ h => h)) hk1).mono ?_
 rintro e w2 ⟨rfl, hkw2⟩
 have hnw2 : z + 1 ≤ w2.heap.size := size_of hw1 hkw2
 refine ⟨_, _, rfl, hw1.keeps hkw2, ?_⟩
 refine q_rS 10 1 [1] [[o0, o0, o0, o0, o0], [o0, o0], [(an 7 1)]] [Qb z, Qb z, Qb z, Qb z, Qb z, Qb z, Qb z] [(8, i6 112), (24, .agg (TConfig.arr c))] rfl ⟨rfl, rfl, rfl, rfl, rfl, rfl, rfl, trivial⟩ ?_
 refine l_call [] [] 12 #[.agg (TConfig.arr c)] (some 25) trivial ?_
 intro w3 hw3
 refine (rencode_C w3 c (hc.ext (hw3.ext rfl) (fun _ h => h)) hk1).mono ?_
 rintro e w4 ⟨rfl, hkw4⟩
 have hnw4 : w2.heap.size ≤ w4.heap.size := size_of hw3 hkw4
 refine ⟨_, _, rfl, hw3.keeps hkw4, ?_⟩
 refine q_rS 7 0 [] [[o0, o0, o0, o0, o0], [o0, o0, o0, o0]] [] [(6, .bool true)] rfl trivial ?_
 refine e_ret [] [] (.bool true) trivial ?_
 intro w5 hw5
 exact ⟨rfl, back0 hw5⟩
theorem cut_A1 (w : World) (c : TConfig) (hc : TConfig.ok Any w c) (m : Nat) (hm : m ≤ 65535) (mr : Sl Int) (hmr : SlAt u8c 1 Any w mr) (hMB : Byt mr.xs) (E : List Int) (hE : encB c = E) (hBE : Byt E) (hk1 : okCf c = true) (hk2 : E.length ≤ 16384) (hEq : E = encPC (plC c)) (hpos : 0 < E.length) (hD : decP E = .ok (plC c)) (hmp : mr.xs.length = 0) : Calls Try.prog 9 #[.agg (TConfig.arr c), .int .u16 (m : Int), .slice mr.a mr.xs.length mr.cap] w fun e w' => e = .returned (.bool true) ∧ Keeps (fun _ => False) w w' := by
 obtain ⟨z, hz⟩ : ∃ z, z = w.heap.size := ⟨_, rfl⟩
 refine calls_G (args := [.agg (TConfig.arr c), .int .u16 (m : Int), .slice mr.a mr.xs.length mr.cap]) 91 ⟨w, z, [(old0 w)]⟩ Try.func9 rfl (by kernel_rfl) (by kernel_rfl) (sat_0 hz) ?_
 have hmod : m % E.length < E.length := Nat.mod_lt _ hpos
 refine g_keep [0, 1, 2] [(0, .agg (TConfig.arr c)), (1, .int .u16 (m : Int)), (2, .slice mr.a mr.xs.length mr.cap)] ?_
 refine q_c 6 1 [] [[o0, o0], [(an 7 1)]] [Qb z, Qb z, Qb z, Qb z, Qb z, Qb z, Qb z] [(1, .int .u16 (m : Int)), (2, .slice mr.a mr.xs.length mr.cap), (3, pt z), (17, .agg (TConfig.arr c))] ⟨w, z + 1, [(old0 w), (bk z (TConfig.arr c) 26)]⟩ rfl ⟨rfl, rfl, rfl, rfl, rfl, rfl, rfl, trivial⟩ ?_
 refine l_call [] [] 11 #[.agg (TConfig.arr c)] (some 18) trivial ?_
 intro w1 hw1
 refine (encode_AE w1 c (hc.ext (hw1.ext rfl) (fun _ h => h)) E hE hk1 hk2).mono ?_
 rintro e w2 ⟨a3, cp4, rfl, how2, hkw2⟩
 have hnw2 : z + 1 ≤ w2.heap.size := size_of hw1 hkw2
 rw [hw1.size] at how2
 have hcpw2 : E.length ≤ cp4 := (row_slF (cells := u8c) (F := fun _ => True) (fun _ => rfl) how2 (by omega) (fun _ _ => trivial)).le
 refine ⟨_, _, rfl, hw1.keeps1 hkw2 (rowL (z + 1) 5 1 u8c (.slice a3 E.length cp4) E) how2 (row_stable _ _ _ _ _ _) (fun b hb => how2.lt b hb), ?_⟩
 refine q_rS 20 4 [0, 0] [[o0, o0, o0, o0, o0], [o0, o0], [o0, o0, oF], [o0, (ov (i6 (m : Int))), o0, o0]] [EF ((E.length : Nat) : Int) 0, Wr ((m : Int)) ((m : Int))] [(2, .slice mr.a mr.xs.length mr.cap), (7, .slice a3 E.length cp4), (35, i6 (m : Int)), (37, i6 ((E.length : Nat) : Int))] rfl ⟨ef (by omega), wrI rfl, trivial⟩ ?_
 refine l_div false .i64 (m : Int) ((E.length : Nat) : Int) ((m % E.length : Nat) : Int) (some 38) (by omega) (mod_nat m E.length) ?_
 refine q_rS 4 3 [] [[o0], [o0, o0, ⟨.slc 0 (m % E.length) false, none⟩]] [(0 : Int) = ((0 : Nat) : Int), (((m % E.length : Nat) : Int) : Int) = ((m % E.length : Nat) : Int), 0 ≤ m % E.length, m % E.length ≤ cp4, cp4 = 0 ∨ (0 : Nat) = 0] [(2, .slice mr.a mr.xs.length mr.cap), (7, .slice a3 E.length cp4), (11, i6 ((m % E.length : Nat) : Int)), (42, .slice a3 (m % E.length - 0) (cp4 - 0))] rfl ⟨rfl, rfl, (by omega), (by omega), .inr rfl, trivial⟩ ?_
 refine l_call [] [] 14 #[.slice a3 (m % E.length - 0) (cp4 - 0)] (some 43) trivial ?_
 intro w5 hw5
 obtain ⟨q7, hD2, hpl2⟩ := cut_no hBE hD (n := m % E.length) (by rw [show m % E.length = m % E.length from rfl]; exact Nat.mod_lt _ hpos)
 refine (decode_badN w5 a3 (cp4 - 0) (m % E.length - 0) (E.take (m % E.length)) (by rw [List.length_take]; have := Nat.mod_lt m hpos; omega) (sl_take (rowU_any hw5 (i := 2) rfl (by omega)) _) (fun x hx => hBE x (List.mem_of_mem_take hx)) 110 q7 hD2).mono ?_
 rintro e w6 ⟨rfl, hkw6⟩
 have hnw6 : w2.heap.size ≤ w6.heap.size := size_of hw5 hkw6
 refine ⟨_, _, rfl, hw5.keeps hkw6, ?_⟩
 refine q_r 4 0 [] [[o0, o0, o0, o0, o0, (an 7 3), o0, o0]] [Qb w6.heap.size, Qb w6.heap.size, Qb w6.heap.size, Qb w6.heap.size, Qb w6.heap.size, Qb w6.heap.size, Qb w6.heap.size] [(2, .slice mr.a mr.xs.length mr.cap), (7, .slice a3 E.length cp4), (11, i6 ((m % E.length : Nat) : Int)), (13, i6 (q7 : Int)), (14, i6 110)] ⟨w, w6.heap.size + 1, [(old0 w), (bk z (TConfig.arr c) 26), (rowL (z + 1) 5 1 u8c (.slice a3 E.length cp4) E), (.blk w6.heap.size (.cells (TConfig.arr cfg0) 26 (0, 0)) true)]⟩ rfl ⟨rfl, rfl, rfl, rfl, rfl, rfl, rfl, trivial⟩ ?_
 by_cases h8 : (((m % E.length : Nat) : Int) : Int) < (q7 : Int)
 · refine q_cS 9 0 [1] [[o0, o0, o0, o0, o0, oT, o0], [o0]] [BT (((q7 : Int) : Int) > ((m % E.length : Nat) : Int))] [(6, .bool false)] rfl ⟨bt (by omega), trivial⟩ ?_
   refine e_ret [] [] (.bool false) trivial ?_
   intro w9 hw9
   exfalso; first | omega | (simp only [List.length_append, List.length_nil, List.nil_append] at *; omega)
 · refine q_cS 17 0 [0, 1] [[o0, o0, o0, o0, o0, oF, o0], [o0, o0, oT, o0, o0], [o0]] [BF (((q7 : Int) : Int) > ((m % E.length : Nat) : Int)), ET ((mr.xs.length : Nat) : Int) 0] [(6, .bool true)] rfl ⟨bf (by omega), et (by omega), trivial⟩ ?_
   refine e_ret [] [] (.bool true) trivial ?_
   intro w10 hw10
   exact ⟨rfl, back0 hw10⟩
abbrev qqju_0 (z : Nat) (a3 : Option Addr) (E : List Int) (cp4 : Nat) : Ch := rowL (z + 1) 5 1 u8c (.slice a3 E.length cp4) E
abbrev qqju_1 (mr : Sl Int) : Nat × Value := (2, .slice mr.a mr.xs.length mr.cap)
theorem cut_A2 (w : World) (c : TConfig) (hc : TConfig.ok Any w c) (m : Nat) (hm : m ≤ 65535) (mr : Sl Int) (hmr : SlAt u8c 1 Any w mr) (hMB : Byt mr.xs) (E : List Int) (hE : encB c = E) (hBE : Byt E) (hk1 : okCf c = true) (hk2 : E.length ≤ 16384) (hEq : E = encPC (plC c)) (hpos : 0 < E.length) (hD : decP E = .ok (plC c)) (hmp : 0 < mr.xs.length) : Calls Try.prog 9 #[.agg (TConfig.arr c), .int .u16 (m : Int), .slice mr.a mr.xs.length mr.cap] w fun e w' => e = .returned (.bool true) ∧ Keeps (fun _ => False) w w' := by
 obtain ⟨z, hz⟩ : ∃ z, z = w.heap.size := ⟨_, rfl⟩
 refine calls_G (args := [.agg (TConfig.arr c), .int .u16 (m : Int), .slice mr.a mr.xs.length mr.cap]) 91 ⟨w, z, [(old0 w)]⟩ Try.func9 rfl (by kernel_rfl) (by kernel_rfl) (sat_0 hz) ?_
 have hmod : m % E.length < E.length := Nat.mod_lt _ hpos; have hml := hmr.len
 refine g_keep [0, 1, 2] [(0, .agg (TConfig.arr c)), (1, .int .u16 (m : Int)), (qqju_1 mr)] ?_
 refine q_c 6 1 [] [[o0, o0], [(an 7 1)]] [Qb z, Qb z, Qb z, Qb z, Qb z, Qb z, Qb z] [(1, .int .u16 (m : Int)), (qqju_1 mr), (3, pt z), (17, .agg (TConfig.arr c))] ⟨w, z + 1, [(old0 w), (bk z (TConfig.arr c) 26)]⟩ rfl ⟨rfl, rfl, rfl, rfl, rfl, rfl, rfl, trivial⟩ ?_
 refine l_call [] [] 11 #[.agg (TConfig.arr c)] (some 18) trivial ?_
 intro w1 hw1
 refine (encode_AE w1 c (hc.ext (hw1.ext rfl) (fun _ h => h)) E hE hk1 hk2).mono ?_
 rintro e w2 ⟨a3, cp4, rfl, how2, hkw2⟩
 have hnw2 : z + 1 ≤ w2.heap.size := size_of hw1 hkw2
 rw [hw1.size] at how2
 have hcpw2 : E.length ≤ cp4 := (row_slF (cells := u8c) (F := fun _ => True) (fun _ => rfl) how2 (by omega) (fun _ _ => trivial)).le
 refine ⟨_, _, rfl, hw1.keeps1 hkw2 (qqju_0 z a3 E cp4) how2 (row_stable _ _ _ _ _ _) (fun b hb => how2.lt b hb), ?_⟩
 refine q_rS 20 4 [0, 0] [[o0, o0, o0, o0, o0], [o0, o0], [o0, o0, oF], [o0, (ov (i6 (m : Int))), o0, o0]] [EF ((E.length : Nat) : Int) 0, Wr ((m : Int)) ((m : Int))] [(qqju_1 mr), (7, .slice a3 E.length cp4), (35, i6 (m : Int)), (37, i6 ((E.length : Nat) : Int))] rfl ⟨ef (by omega), wrI rfl, trivial⟩ ?_
 refine l_div false .i64 (m : Int) ((E.length : Nat) : Int) ((m % E.length : Nat) : Int) (some 38) (by omega) (mod_nat m E.length) ?_
 refine q_rS 4 3 [] [[o0], [o0, o0, ⟨.slc 0 (m % E.length) false, none⟩]] [(0 : Int) = ((0 : Nat) : Int), (((m % E.length : Nat) : Int) : Int) = ((m % E.length : Nat) : Int), 0 ≤ m % E.length, m % E.length ≤ cp4, cp4 = 0 ∨ (0 : Nat) = 0] [(qqju_1 mr), (7, .slice a3 E.length cp4), (11, i6 ((m % E.length : Nat) : Int)), (42, .slice a3 (m % E.length - 0) (cp4 - 0))] rfl ⟨rfl, rfl, (by omega), (by omega), .inr rfl, trivial⟩ ?_
 refine l_call [] [] 14 #[.slice a3 (m % E.length - 0) (cp4 - 0)] (some 43) trivial ?_
 intro w5 hw5
 obtain ⟨q7, hD2, hpl2⟩ := cut_no hBE hD (n := m % E.length) (by rw [show m % E.length = m % E.length from rfl]; exact Nat.mod_lt _ hpos)
 refine (decode_badN w5 a3 (cp4 - 0) (m % E.length - 0) (E.take (m % E.length)) (by rw [List.length_take]; have := Nat.mod_lt m hpos; omega) (sl_take (rowU_any hw5 (i := 2) rfl (by omega)) _) (fun x hx => hBE x (List.mem_of_mem_take hx)) 110 q7 hD2).mono ?_
 rintro e w6 ⟨rfl, hkw6⟩
 have hnw6 : w2.heap.size ≤ w6.heap.size := size_of hw5 hkw6
 refine ⟨_, _, rfl, hw5.keeps hkw6, ?_⟩
 refine q_r 4 0 [] [[o0, o0, o0, o0, o0, (an 7 3), o0, o0]] [Qb w6.heap.size, Qb w6.heap.size, Qb w6.heap.size, Qb w6.heap.size, Qb w6.heap.size, Qb w6.heap.size, Qb w6.heap.size] [(qqju_1 mr), (7, .slice a3 E.length cp4), (11, i6 ((m % E.length : Nat) : Int)), (13, i6 (q7 : Int)), (14, i6 110)] ⟨w, w6.heap.size + 1, [(old0 w), (bk z (TConfig.arr c) 26), (qqju_0 z a3 E cp4), (.blk w6.heap.size (.cells (TConfig.arr cfg0) 26 (0, 0)) true)]⟩ rfl ⟨rfl, rfl, rfl, rfl, rfl, rfl, rfl, trivial⟩ ?_
 by_cases h8 : (((m % E.length : Nat) : Int) : Int) < (q7 : Int)
 · refine q_cS 9 0 [1] [[o0, o0, o0, o0, o0, oT, o0], [o0]] [BT (((q7 : Int) : Int) > ((m % E.length : Nat) : Int))] [(6, .bool false)] rfl ⟨bt (by omega), trivial⟩ ?_
   refine e_ret [] [] (.bool false) trivial ?_
   intro w9 hw9
   exfalso; first | omega | (simp only [List.length_append, List.length_nil, List.nil_append] at *; omega)
 · refine q_cS 8 0 [0] [[o0, o0, o0, o0, o0, oF, o0]] [BF (((q7 : Int) : Int) > ((m % E.length : Nat) : Int))] [(qqju_1 mr), (7, .slice a3 E.length cp4), (53, .bool false)] rfl ⟨bf (by omega), trivial⟩ ?_
   by_cases h10 : (2147483647 : Int) < ((mr.xs.length : Nat) : Int)
   · refine q_cS 9 0 [1] [[o0, o0, oF, o0, o0, o0, oT, o0], [o0]] [EF ((mr.xs.length : Nat) : Int) 0, BT ((((mr.xs.length : Nat) : Int) : Int) > 2147483647)] [(6, .bool true)] rfl ⟨ef (by omega), bt (by omega), trivial⟩ ?_
     refine e_ret [] [] (.bool true) trivial ?_
     intro w11 hw11
     exact ⟨rfl, back0 hw11⟩
   · refine q_c 8 2 [0] [[o0, o0, oF, o0, o0, o0, oF, o0], [o0, o0]] [EF ((mr.xs.length : Nat) : Int) 0, BF ((((mr.xs.length : Nat) : Int) : Int) > 2147483647)] [(qqju_1 mr), (7, .slice a3 E.length cp4), (62, .slice (some ⟨w6.heap.size + 1, 0, none⟩) 0 0), (63, .slice a3 E.length cp4)] ⟨w, w6.heap.size + 2, [(old0 w), (bk z (TConfig.arr c) 26), (qqju_0 z a3 E cp4), (.blk w6.heap.size (.cells (TConfig.arr cfg0) 26 (0, 0)) true), (bk (w6.heap.size + 1) #[] 5)]⟩ rfl ⟨ef (by omega), bf (by omega), trivial⟩ ?_
     refine l_blkrow 4 (w6.heap.size + 1) z 5 1 (fun x : Int => [Value.int .u8 x]) ([] : List Int) #[] (by omega) (?_ : Lg _ _ _ _ ⟨w, w6.heap.size + 2, [(old0 w), (bk z (TConfig.arr c) 26), (qqju_0 z a3 E cp4), (.blk w6.heap.size (.cells (TConfig.arr cfg0) 26 (0, 0)) true), (rowL z 5 1 (fun x : Int => [Value.int .u8 x]) (.slice (some ⟨w6.heap.size + 1, 0, none⟩) 0 0) ([] : List Int))]⟩ _ _ _ _)
     refine l_pushS z 4 2 ([] : List Int) E a3 (fun x : Int => [Value.int .u8 x]) 5 1 1 (.slice (some ⟨w6.heap.size + 1, 0, none⟩) 0 0) E.length cp4 (qqju_0 z a3 E cp4) (some 64) (by simp only [List.length_append, List.length_nil]; omega) (show z ≤ w6.heap.size + 2 by omega) (fun w' hw => row_slF (fun _ => rfl) hw (by omega) (fun _ _ => trivial)) (fun a12 cp13 n14 (hn15 : w6.heap.size + 2 ≤ n14) => ?_)
     refine q_rS 4 2 [] [[o0], [o0, o0]] [] [(7, .slice a3 E.length cp4), (65, .slice a12 ((([] : List Int) ++ E).length) cp13), (66, .slice mr.a mr.xs.length mr.cap)] rfl trivial ?_
     refine l_pushS z 4 0 (([] : List Int) ++ E) mr.xs mr.a (fun x : Int => [Value.int .u8 x]) 5 1 1 (.slice a12 ((([] : List Int) ++ E).length) cp13) mr.xs.length mr.cap (old0 w) (some 67) (by simp only [List.length_append, List.length_nil]; omega) (show z ≤ n14 by omega) (fun w' hw => sl_mono (fun b k v _ hv => old_cell' hv w' hw) (fun _ h => h) hmr) (fun a16 cp17 n18 (hn19 : n14 ≤ n18) => ?_)
     refine q_rS 4 1 [] [[o0], [o0]] [] [(7, .slice a3 E.length cp4), (15, .slice a16 (((([] : List Int) ++ E) ++ mr.xs).length) cp17), (69, .slice a16 (((([] : List Int) ++ E) ++ mr.xs).length) cp17)] rfl trivial ?_
     refine l_call [] [] 14 #[.slice a16 (((([] : List Int) ++ E) ++ mr.xs).length) cp17] (some 70) trivial ?_
     intro w20 hw20
     obtain ⟨er22, q23, hD3, hcs⟩ := more_dec hBE hMB hD hmp
     refine (decode_badN w20 a16 cp17 (((([] : List Int) ++ E) ++ mr.xs).length) ((([] : List Int) ++ E) ++ mr.xs) (by simp only [List.nil_append]) (rowU_any hw20 (i := 4) rfl (by simp only [List.length_append, List.length_nil]; omega)) (by simp only [List.nil_append]; exact fun x hx => (List.mem_append.1 hx).elim (hBE x) (hMB x)) er22 q23 (by simp only [List.nil_append]; exact hD3)).mono ?_
     rintro e w21 ⟨rfl, hkw21⟩
     have hnw21 : n18 ≤ w21.heap.size := size_of hw20 hkw21
     refine ⟨_, _, rfl, hw20.keeps hkw21, ?_⟩
     refine q_rS 4 0 [] [[o0, o0, o0, o0, o0, o0]] [] [(7, .slice a3 E.length cp4), (15, .slice a16 (((([] : List Int) ++ E) ++ mr.xs).length) cp17), (13, i6 (q23 : Int)), (14, i6 er22)] rfl trivial ?_
     by_cases h24 : (16384 : Int) < ((((([] : List Int) ++ E) ++ mr.xs).length : Nat) : Int)
     · refine q_cS 5 0 [1] [[o0, o0, oT]] [BT ((((((([] : List Int) ++ E) ++ mr.xs).length : Nat) : Int) : Int) > 16384)] [(7, .slice a3 E.length cp4), (13, i6 (q23 : Int)), (14, i6 er22), (76, .bool true)] rfl ⟨bt (by omega), trivial⟩ ?_
       by_cases h25 : (er22 : Int) = 2
       · by_cases h26 : ((q23 : Int) : Int) = 0
         · refine q_cS 4 0 [] [[o0, oT, o0, o0, oT, o0, o0]] [ET er22 2, ET (q23 : Int) 0] [(6, .bool true)] rfl ⟨et (by omega), et (by omega), trivial⟩ ?_
           refine e_ret [] [] (.bool true) trivial ?_
           intro w27 hw27
           exact ⟨rfl, back0 hw27⟩
         · refine q_cS 4 0 [] [[o0, oT, o0, o0, oF, o0, o0]] [ET er22 2, EF (q23 : Int) 0] [(6, .bool false)] rfl ⟨et (by omega), ef (by omega), trivial⟩ ?_
           refine e_ret [] [] (.bool false) trivial ?_
           intro w28 hw28
           exfalso; first | omega | (simp only [List.length_append, List.length_nil, List.nil_append] at *; omega)
       · refine q_cS 4 0 [] [[o0, oF, o0, o0, o0]] [EF er22 2] [(6, .bool false)] rfl ⟨ef (by omega), trivial⟩ ?_
         refine e_ret [] [] (.bool false) trivial ?_
         intro w29 hw29
         exfalso; first | omega | (simp only [List.length_append, List.length_nil, List.nil_append] at *; omega)
     · refine q_cS 7 0 [0] [[o0, o0, oF]] [BF ((((((([] : List Int) ++ E) ++ mr.xs).length : Nat) : Int) : Int) > 16384)] [(7, .slice a3 E.length cp4), (13, i6 (q23 : Int)), (14, i6 er22), (76, .bool false)] rfl ⟨bf (by omega), trivial⟩ ?_
       by_cases h30 : (er22 : Int) = 110
       · by_cases h31 : ((q23 : Int) : Int) = ((E.length : Nat) : Int)
         · refine q_cS 4 0 [] [[o0, oT, o0, o0, o0, o0, oT, o0, o0]] [ET er22 110, ET (q23 : Int) ((E.length : Nat) : Int)] [(6, .bool true)] rfl ⟨et (by omega), et (by omega), trivial⟩ ?_
           refine e_ret [] [] (.bool true) trivial ?_
           intro w32 hw32
           exact ⟨rfl, back0 hw32⟩
         · refine q_cS 4 0 [] [[o0, oT, o0, o0, o0, o0, oF, o0, o0]] [ET er22 110, EF (q23 : Int) ((E.length : Nat) : Int)] [(6, .bool false)] rfl ⟨et (by omega), ef (by omega), trivial⟩ ?_
           refine e_ret [] [] (.bool false) trivial ?_
           intro w33 hw33
           exfalso; first | omega | (simp only [List.length_append, List.length_nil, List.nil_append] at *; omega)
       · refine q_cS 4 0 [] [[o0, oF, o0, o0, o0]] [EF er22 110] [(6, .bool false)] rfl ⟨ef (by omega), trivial⟩ ?_
         refine e_ret [] [] (.bool false) trivial ?_
         intro w34 hw34
         exfalso; first | omega | (simp only [List.length_append, List.length_nil, List.nil_append] at *; omega)

theorem turned_calls (w : World) (c : TConfig) (hc : TConfig.ok Any w c) (m : Nat) (hm : m ≤ 65535) (tn : Int) (htn : 0 ≤ tn ∧ tn < 256) : Calls Try.prog 8 #[.agg (TConfig.arr c), .int .u16 (m : Int), .int .u8 tn] w fun e w' => e = .returned (.bool true) ∧ Keeps (fun _ => False) w w' := by
  by_cases h1 : okCf c = true
  · by_cases h2 : (encB c).length ≤ 16384
    · have hI := pink_of_ok hc
      have hok := (okCf_iff hI).1 h1
      have hE := encB_is hI hok
      exact turned_A w c hc m hm tn htn (encB c) rfl (encB_byt h1) h1 h2 hE (by rw [hE, encPC_len]; omega)
    · exact turned_B w c hc m hm tn htn h1 (by omega)
  · exact turned_C w c hc m hm tn htn (Bool.eq_false_iff.2 h1)
theorem cut_calls (w : World) (c : TConfig) (hc : TConfig.ok Any w c) (m : Nat) (hm : m ≤ 65535) (mr : Sl Int) (hmr : SlAt u8c 1 Any w mr) (hMB : Byt mr.xs) : Calls Try.prog 9 #[.agg (TConfig.arr c), .int .u16 (m : Int), .slice mr.a mr.xs.length mr.cap] w fun e w' => e = .returned (.bool true) ∧ Keeps (fun _ => False) w w' := by
  by_cases h1 : okCf c = true
  · by_cases h2 : (encB c).length ≤ 16384
    · have hI := pink_of_ok hc
      have hok := (okCf_iff hI).1 h1
      have hE := encB_is hI hok
      have hD := (dec_iff (encB_byt h1)).2 ⟨h2, hok, hE⟩
      have hp : 0 < (encB c).length := by rw [hE, encPC_len]; omega
      by_cases h3 : mr.xs.length = 0
      · exact cut_A1 w c hc m hm mr hmr hMB (encB c) rfl (encB_byt h1) h1 h2 hE hp hD h3
      · exact cut_A2 w c hc m hm mr hmr hMB (encB c) rfl (encB_byt h1) h1 h2 hE hp hD (by omega)
    · exact cut_B w c hc m hm mr hmr hMB h1 (by omega)
  · exact cut_C w c hc m hm mr hmr hMB (Bool.eq_false_iff.2 h1)

end Go.Proofs.Ytmmkacfeocnblaa.Ly
