/- PageEntries: the pure statement that the print leaves: for every frame, rights and noise the law's printed function answers true. No conditions. -/
import Derived.Test.YtkgddioflnjecaaPPageEntriesx1
namespace Go.Proofs.Ytkgddioflnjecaa.Pure
open Go.RowKit Go.Proofs.Ytkgddioflnjecaa.PPageEntries Go.Proofs.YtkgddioflnjecaaW.PrintWords Go.Proofs.YtkgddioflnjecaaW.PrintLast

theorem u32_bits (op : BinOp) (x y : Int) : Go.bits op .u32 x y =
    ((match op with
      | .and => BitVec.ofInt 32 x &&& BitVec.ofInt 32 y
      | .or => BitVec.ofInt 32 x ||| BitVec.ofInt 32 y
      | .xor => BitVec.ofInt 32 x ^^^ BitVec.ofInt 32 y
      | _ => BitVec.ofInt 32 x &&& ~~~(BitVec.ofInt 32 y)).toNat : Int) := by
  have key : ∀ v : BitVec 32, IntKind.u32.wrap (v.toNat : Int) = (v.toNat : Int) := by
    intro v; rw [IntKind.wrap_u32]; have := v.isLt; omega
  unfold Go.bits
  cases op <;> exact key _

theorem nat_and (a b : Nat) (ha : a < 4294967296) (hb : b < 4294967296) : Go.bits .and .u32 (a : Int) (b : Int) = ((a &&& b : Nat) : Int) := by
  rw [u32_bits]; simp only [BitVec.ofInt_natCast, BitVec.toNat_and, BitVec.toNat_ofNat]
  rw [Nat.mod_eq_of_lt (by omega), Nat.mod_eq_of_lt (by omega)]
theorem nat_or (a b : Nat) (ha : a < 4294967296) (hb : b < 4294967296) : Go.bits .or .u32 (a : Int) (b : Int) = ((a ||| b : Nat) : Int) := by
  rw [u32_bits]; simp only [BitVec.ofInt_natCast, BitVec.toNat_or, BitVec.toNat_ofNat]
  rw [Nat.mod_eq_of_lt (by omega), Nat.mod_eq_of_lt (by omega)]
theorem nat_xor (a b : Nat) (ha : a < 4294967296) (hb : b < 4294967296) : Go.bits .xor .u32 (a : Int) (b : Int) = ((a ^^^ b : Nat) : Int) := by
  rw [u32_bits]; simp only [BitVec.ofInt_natCast, BitVec.toNat_xor, BitVec.toNat_ofNat]
  rw [Nat.mod_eq_of_lt (by omega), Nat.mod_eq_of_lt (by omega)]

/-- The entry's number. -/
theorem enc_nat (f r : Nat) (hf : f < 1024) (hr : r < 8) : page_Encode.f (f : Int) (r : Int) = some (((2147483648 + 8 * f + r : Nat) : Int), 0) := by
  unfold page_Encode.f
  rw [if_neg (by omega), if_neg (by omega), if_neg (by omega), if_neg (by omega)]
  have e1 : ((f : Int) % 4294967296 * 8) % 4294967296 = ((8 * f : Nat) : Int) := by omega
  have e2 : ((r : Int) % 4294967296) = (r : Int) := by omega
  have e3 : (2147483648 : Int) = ((2147483648 : Nat) : Int) := rfl
  rw [e1, e2, e3, nat_or _ _ (by omega) (by omega)]
  have o1 : 2147483648 ||| 8 * f = 2147483648 + 8 * f := by
    have := Nat.two_pow_add_eq_or_of_lt (i := 31) (b := 8 * f) (by omega) 1
    simpa using this.symm
  have o2 : (2147483648 + 8 * f) ||| r = 2147483648 + 8 * f + r := by
    have := Nat.two_pow_add_eq_or_of_lt (i := 3) (b := r) (by omega) (268435456 + f)
    have h : 2 ^ 3 * (268435456 + f) = 2147483648 + 8 * f := by omega
    rw [h] at this; exact this.symm
  rw [o1, nat_or _ _ (by omega) (by omega), o2]

/-- What a word is decoded to, by its bits. -/
theorem dec_nat (x : Nat) (hx : x < 4294967296) : page_Decode.f (x : Int) =
    if x.testBit 31 = false then some (0, 0, false) else some (((x / 8 % 1024 : Nat) : Int), ((x % 8 : Nat) : Int), true) := by
  unfold page_Decode.f
  have e3 : (2147483648 : Int) = ((2147483648 : Nat) : Int) := rfl
  have e4 : (1023 : Int) = ((1023 : Nat) : Int) := rfl
  have e5 : (7 : Int) = ((7 : Nat) : Int) := rfl
  have e6 : ((x : Int) / 8) = ((x / 8 : Nat) : Int) := by omega
  have a1 : x / 8 &&& 1023 = x / 8 % 1024 := Nat.and_two_pow_sub_one_eq_mod (x / 8) 10
  have a2 : x &&& 7 = x % 8 := Nat.and_two_pow_sub_one_eq_mod x 3
  rw [e6, e3, e4, e5, nat_and _ _ hx (by omega), nat_and _ _ (by omega) (by omega), nat_and _ _ hx (by omega), a1, a2]
  have hb : (((x &&& 2147483648 : Nat) : Int) = 0) ↔ x.testBit 31 = false := by
    have h1 : x &&& 2147483648 = 0 ↔ x.testBit 31 = false := by
      constructor
      · intro h
        have := congrArg (fun y => Nat.testBit y 31) h
        simpa [Nat.testBit_and, show Nat.testBit 2147483648 31 = true from by decide] using this
      · intro h
        apply Nat.eq_of_testBit_eq
        intro i
        rw [Nat.testBit_and, show (2147483648 : Nat) = 2 ^ 31 from rfl, Nat.testBit_two_pow, Nat.zero_testBit]
        by_cases e : 31 = i
        · subst e; simp [h]
        · simp [e]
    rw [← h1]; exact Int.natCast_eq_zero
  have w1 : wrap64 ((x / 8 % 1024 : Nat) : Int) = ((x / 8 % 1024 : Nat) : Int) := by unfold wrap64; omega
  have w2 : wrap64 ((x % 8 : Nat) : Int) = ((x % 8 : Nat) : Int) := by unfold wrap64; omega
  rw [w1, w2]
  by_cases h : x.testBit 31 = false
  · rw [if_pos (hb.2 h), if_pos h]
  · rw [if_neg (fun hh => h (hb.1 hh)), if_neg h]

/-- Bits that stand for nothing turn nothing. -/
theorem noise_low (x n : Nat) : (x ^^^ (n &&& 2147475456)) % 8192 = x % 8192 := by
  rw [show (8192 : Nat) = 2 ^ 13 from rfl, Nat.xor_mod_two_pow, Nat.and_mod_two_pow]
  simp

theorem PageEntries : bulkheadlaw09_PageEntries.Pure := by
  intro a0 a1 a2 w0 w1 w2
  refine ⟨5, ?_⟩
  have hb2 : 0 ≤ a2 ∧ a2 < 4294967296 := by
    simp [Lit.wf, IntKind.min, IntKind.max, IntKind.bits, IntKind.signed] at w2; omega
  obtain ⟨n, rfl⟩ := Int.eq_ofNat_of_zero_le hb2.1
  unfold bulkheadlaw09_PageEntries.f
  rw [show page_Encode.f 5 3 = some (((2147483648 + 8 * 5 + 3 : Nat) : Int), 0) from enc_nat 5 3 (by omega) (by omega)]
  simp only [Option.bind_some]
  rw [if_pos (by rfl)]
  simp only [bulkheadlaw09_PageEntries.j0]
  rw [if_neg (by decide)]
  by_cases h1 : a0 < 0
  · have : page_Encode.f a0 a1 = some (0, 90) := by unfold page_Encode.f; rw [if_pos h1]
    rw [this]; simp [h1, bulkheadlaw09_PageEntries.j1]
  by_cases h2 : a0 ≥ 1024
  · have : page_Encode.f a0 a1 = some (0, 90) := by unfold page_Encode.f; rw [if_neg h1, if_pos h2]
    rw [this]; simp only [Option.bind_some]; rw [if_neg h1, if_pos (by omega)]; simp [bulkheadlaw09_PageEntries.j1]
  by_cases h3 : a1 < 0
  · have : page_Encode.f a0 a1 = some (0, 90) := by unfold page_Encode.f; rw [if_neg h1, if_neg h2, if_pos h3]
    rw [this]; simp only [Option.bind_some]; rw [if_neg h1, if_neg (by omega), if_pos h3]; simp [bulkheadlaw09_PageEntries.j1]
  by_cases h4 : a1 > 7
  · have : page_Encode.f a0 a1 = some (0, 90) := by unfold page_Encode.f; rw [if_neg h1, if_neg h2, if_neg h3, if_pos h4]
    rw [this]; simp only [Option.bind_some]; rw [if_neg h1, if_neg (by omega), if_neg h3]; simp [bulkheadlaw09_PageEntries.j1, h4]
  obtain ⟨f, rfl⟩ := Int.eq_ofNat_of_zero_le (by omega : 0 ≤ a0)
  obtain ⟨r, rfl⟩ := Int.eq_ofNat_of_zero_le (by omega : 0 ≤ a1)
  rw [enc_nat f r (by omega) (by omega)]
  simp only [Option.bind_some]
  rw [if_neg h1, if_neg (by omega), if_neg h3]
  simp only [bulkheadlaw09_PageEntries.j1]
  rw [if_neg (by simp; omega)]
  have hx : (2147483648 + 8 * f + r) < 4294967296 := by omega
  have e1 : (2147475456 : Int) = ((2147475456 : Nat) : Int) := rfl
  have e2 : (2147483647 : Int) = ((2147483647 : Nat) : Int) := rfl
  rw [e1, e2, nat_and n _ (by omega) (by omega), nat_xor _ _ hx (Nat.lt_of_le_of_lt Nat.and_le_right (by omega)), nat_and _ _ hx (by omega)]
  have t1 : (2147483648 + 8 * f + r).testBit 31 = true := by
    rw [Nat.testBit_eq_decide_div_mod_eq]; simp; omega
  have l1 : ((2147483648 + 8 * f + r) ^^^ (n &&& 2147475456)) < 4294967296 := Nat.xor_lt_two_pow (n := 32) hx (Nat.lt_of_le_of_lt Nat.and_le_right (by omega))
  have t2 : ((2147483648 + 8 * f + r) ^^^ (n &&& 2147475456)).testBit 31 = true := by
    rw [Nat.testBit_xor, Nat.testBit_and, t1, show Nat.testBit 2147475456 31 = false from by decide]; simp
  have t3 : ((2147483648 + 8 * f + r) &&& 2147483647).testBit 31 = false := by
    rw [Nat.testBit_and, show Nat.testBit 2147483647 31 = false from by decide]; simp
  have m2 := noise_low (2147483648 + 8 * f + r) n
  rw [dec_nat _ hx, dec_nat _ l1, dec_nat _ (Nat.lt_of_le_of_lt Nat.and_le_right (by omega))]
  rw [if_neg (by rw [t1]; simp), if_neg (by rw [t2]; simp), if_pos t3]
  simp only [Option.bind_some]
  generalize ((2147483648 + 8 * f + r) ^^^ (n &&& 2147475456)) = z at *
  have q1 : (2147483648 + 8 * f + r) / 8 % 1024 = f := by omega
  have q2 : (2147483648 + 8 * f + r) % 8 = r := by omega
  have q3 : z / 8 % 1024 = f := by omega
  have q4 : z % 8 = r := by omega
  simp [q1, q2, q3, q4]

end Go.Proofs.Ytkgddioflnjecaa.Pure
