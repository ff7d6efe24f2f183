/- Plain arithmetic of the check sum: registers of 32 bits as natural numbers; no program in sight. -/
import Derived.Laws.BitsLemmas
namespace Go.Proofs.Ytcndhgpaoihblaa.Crc

/-- One bit. -/
def turn1 (r : Nat) : Nat := if r % 2 = 1 then (r / 2) ^^^ 3988292384 else r / 2
/-- So many bits. -/
def turns : Nat → Nat → Nat
  | 0, r => r
  | n + 1, r => turns n (turn1 r)
def tab (i : Nat) : Nat := turns 8 i
/-- One byte. -/
def byte1 (r : Nat) (b : UInt8) : Nat := turns 8 (r ^^^ b.toNat)
def reg (r : Nat) (l : List UInt8) : Nat := l.foldl byte1 r
/-- The sum. -/
def sum (s : ByteArray) : Nat := reg 4294967295 s.data.toList ^^^ 4294967295

theorem turn1_lt {r : Nat} (h : r < 4294967296) : turn1 r < 4294967296 := by
  unfold turn1
  split
  · exact Nat.xor_lt_two_pow (n := 32) (by omega) (by decide)
  · omega
theorem turns_lt (n : Nat) : ∀ {r : Nat}, r < 4294967296 → turns n r < 4294967296 := by
  induction n with
  | zero => intro r h; exact h
  | succ n ih => intro r h; exact ih (turn1_lt h)
theorem turns_succ (n r : Nat) : turns (n + 1) r = turn1 (turns n r) := by
  induction n generalizing r with
  | zero => rfl
  | succ n ih => show turns (n + 1) (turn1 r) = _; rw [ih]; rfl

theorem testBit_div2 (a i : Nat) : (a / 2).testBit i = a.testBit (i + 1) := by
  rw [Nat.testBit_succ]
theorem xor_div2 (a b : Nat) : (a ^^^ b) / 2 = (a / 2) ^^^ (b / 2) := by
  apply Nat.eq_of_testBit_eq
  intro i
  simp [testBit_div2, Nat.testBit_xor]
theorem xor_mod2 (a b : Nat) : (a ^^^ b) % 2 = if a % 2 = b % 2 then 0 else 1 := by
  have h : (a ^^^ b).testBit 0 = (a.testBit 0 != b.testBit 0) := Nat.testBit_xor ..
  simp only [Nat.testBit_zero] at h
  have ha := Nat.mod_two_eq_zero_or_one a
  have hb := Nat.mod_two_eq_zero_or_one b
  have hc := Nat.mod_two_eq_zero_or_one (a ^^^ b)
  rcases ha with ha | ha <;> rcases hb with hb | hb <;> rcases hc with hc | hc <;> simp_all
theorem turn1_xor (a b : Nat) : turn1 (a ^^^ b) = turn1 a ^^^ turn1 b := by
  unfold turn1
  rw [xor_mod2, xor_div2]
  have ha := Nat.mod_two_eq_zero_or_one a
  have hb := Nat.mod_two_eq_zero_or_one b
  rcases ha with ha | ha <;> rcases hb with hb | hb <;> simp [ha, hb]
  · rw [Nat.xor_assoc]
  · rw [Nat.xor_assoc, Nat.xor_assoc, Nat.xor_comm (b / 2)]
  · rw [Nat.xor_assoc, Nat.xor_comm (3988292384) ((b / 2) ^^^ 3988292384), Nat.xor_assoc, Nat.xor_self, Nat.xor_zero]
theorem turns_xor (n : Nat) : ∀ a b : Nat, turns n (a ^^^ b) = turns n a ^^^ turns n b := by
  induction n with
  | zero => intro a b; rfl
  | succ n ih => intro a b; show turns n (turn1 (a ^^^ b)) = _; rw [turn1_xor, ih]; rfl
/-- A register whose lowest bits are 0 is but shifted. -/
theorem turns_shift (n : Nat) : ∀ a : Nat, turns n (a * 2 ^ n) = a := by
  induction n with
  | zero => intro a; simp [turns]
  | succ n ih =>
    intro a
    show turns n (turn1 (a * 2 ^ (n + 1))) = a
    have h : turn1 (a * 2 ^ (n + 1)) = a * 2 ^ n := by
      unfold turn1
      rw [Nat.pow_succ, ← Nat.mul_assoc]
      rw [if_neg (by omega), Nat.mul_div_cancel _ (by decide)]
    rw [h, ih]
theorem split8 (r : Nat) : r = (r / 256 * 2 ^ 8) ^^^ (r % 256) := by
  have h := Nat.two_pow_add_eq_or_of_lt (i := 8) (b := r % 256) (Nat.mod_lt _ (by decide)) (r / 256)
  have h2 : (2 ^ 8 * (r / 256)) ||| (r % 256) = (2 ^ 8 * (r / 256)) ^^^ (r % 256) := by
    apply Nat.eq_of_testBit_eq
    intro i
    rw [Nat.testBit_or, Nat.testBit_xor, Nat.testBit_two_pow_mul]
    by_cases hi : 8 ≤ i
    · have : (r % 256).testBit i = false := Nat.testBit_lt_two_pow (Nat.lt_of_lt_of_le (Nat.mod_lt _ (by decide)) (Nat.pow_le_pow_right (by decide) hi : 2 ^ 8 ≤ 2 ^ i))
      simp [this]
    · simp [hi]
  rw [Nat.mul_comm (r / 256)]
  rw [← h2, ← h]
  omega
/-- One byte by the table: what is above the lowest byte is shifted, the lowest byte is looked up. -/
theorem turns8 (r : Nat) : turns 8 r = (r / 256) ^^^ tab (r % 256) := by
  rw [split8 r, turns_xor, turns_shift]
  rw [← split8 r]
  rfl
theorem byte1_tab (r : Nat) (b : UInt8) : byte1 r b = (r / 256) ^^^ tab ((r % 256) ^^^ b.toNat) := by
  have hb : b.toNat < 2 ^ 8 := b.toNat_lt
  unfold byte1
  rw [turns8]
  have h1 : (r ^^^ b.toNat) / 256 = r / 256 := by
    apply Nat.eq_of_testBit_eq
    intro i
    rw [show (256 : Nat) = 2 ^ 8 from rfl, Nat.testBit_div_two_pow, Nat.testBit_div_two_pow, Nat.testBit_xor]
    have : b.toNat.testBit (i + 8) = false := Nat.testBit_lt_two_pow (Nat.lt_of_lt_of_le hb (Nat.pow_le_pow_right (by decide) (by omega)))
    simp [this]
  have h2 : (r ^^^ b.toNat) % 256 = (r % 256) ^^^ b.toNat := by
    apply Nat.eq_of_testBit_eq
    intro i
    rw [show (256 : Nat) = 2 ^ 8 from rfl, Nat.testBit_mod_two_pow, Nat.testBit_xor, Nat.testBit_xor, Nat.testBit_mod_two_pow]
    by_cases hi : i < 8
    · simp [hi]
    · have : b.toNat.testBit i = false := Nat.testBit_lt_two_pow (Nat.lt_of_lt_of_le hb (Nat.pow_le_pow_right (by decide) (by omega)))
      simp [hi, this]
  rw [h1, h2]
theorem byte1_lt {r : Nat} (b : UInt8) (h : r < 4294967296) : byte1 r b < 4294967296 :=
  turns_lt 8 (Nat.xor_lt_two_pow (n := 32) h (Nat.lt_trans b.toNat_lt (by decide)))
theorem reg_lt (l : List UInt8) : ∀ {r : Nat}, r < 4294967296 → reg r l < 4294967296 := by
  induction l with
  | nil => intro r h; exact h
  | cons b l ih => intro r h; exact ih (byte1_lt b h)
theorem sum_lt (s : ByteArray) : sum s < 4294967296 := Nat.xor_lt_two_pow (n := 32) (reg_lt _ (by decide)) (by decide)
theorem reg_snoc (r : Nat) (l : List UInt8) (b : UInt8) : reg r (l ++ [b]) = byte1 (reg r l) b := by simp [reg]
theorem reg_append (r : Nat) (l m : List UInt8) : reg r (l ++ m) = reg (reg r l) m := by simp [reg]

theorem bits_xor_nat (k : IntKind) (j : Nat) (hj : j ≤ k.bits) (hk : ∀ n : Int, 0 ≤ n → n < 2 ^ j → k.wrap n = n) (a b : Nat) (ha : a < 2 ^ j) (hb : b < 2 ^ j) :
    bits .xor k a b = ((a ^^^ b : Nat) : Int) := by
  have hp : 2 ^ j ≤ 2 ^ k.bits := Nat.pow_le_pow_right (by decide) hj
  have ha' : a % 2 ^ k.bits = a := Nat.mod_eq_of_lt (Nat.lt_of_lt_of_le ha hp)
  have hb' : b % 2 ^ k.bits = b := Nat.mod_eq_of_lt (Nat.lt_of_lt_of_le hb hp)
  have cast : ∀ n : Nat, n < 2 ^ j → ((n : Nat) : Int) < 2 ^ j := fun n h => by exact_mod_cast h
  simp only [bits, BitVec.ofInt_natCast, BitVec.toNat_xor, BitVec.toNat_ofNat, ha', hb']
  exact hk _ (Int.natCast_nonneg _) (cast _ (Nat.xor_lt_two_pow ha hb))
theorem wraps_u32 (n : Int) (h₀ : 0 ≤ n) (h₁ : n < 2 ^ 32) : IntKind.u32.wrap n = n := by rw [IntKind.wrap_u32]; omega
theorem xor_u32 (a b : Nat) (ha : a < 4294967296) (hb : b < 4294967296) : bits .xor .u32 (a : Int) (b : Int) = ((a ^^^ b : Nat) : Int) :=
  bits_xor_nat .u32 32 (by decide) wraps_u32 a b ha hb
theorem xor_u8 (a b : Nat) (ha : a < 256) (hb : b < 256) : bits .xor .u8 (a : Int) (b : Int) = ((a ^^^ b : Nat) : Int) :=
  bits_xor_nat .u8 8 (by decide) wraps_u8 a b ha hb
theorem and_u32 (a b : Nat) (ha : a < 4294967296) (hb : b < 4294967296) : bits .and .u32 (a : Int) (b : Int) = ((a &&& b : Nat) : Int) :=
  (bits_nat .u32 32 (by decide) wraps_u32 a b ha hb).1

end Go.Proofs.Ytcndhgpaoihblaa.Crc
