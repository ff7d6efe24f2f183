/- Plain law of the check sum: texts that differ in at most 32 bits side by side have unlike sums; no program in sight. -/
import Derived.Test.YtcndhgpaoihblaaCrc
namespace Go.Proofs.Ytcndhgpaoihblaa.Crc

theorem xor_eq_zero {a b : Nat} (h : a ^^^ b = 0) : a = b := by
  have : (a ^^^ b) ^^^ b = b := by rw [h, Nat.zero_xor]
  rwa [Nat.xor_assoc, Nat.xor_self, Nat.xor_zero] at this
theorem turn1_zero {z : Nat} (hz : z < 4294967296) (h : turn1 z = 0) : z = 0 := by
  unfold turn1 at h
  split at h
  · have := xor_eq_zero h
    omega
  · omega
theorem turns_zero (n : Nat) : ∀ {z : Nat}, z < 4294967296 → turns n z = 0 → z = 0 := by
  induction n with
  | zero => intro z _ h; exact h
  | succ n ih => intro z hz h; exact turn1_zero hz (ih (turn1_lt hz) h)
theorem turns_inj (n : Nat) {a b : Nat} (ha : a < 4294967296) (hb : b < 4294967296) (h : turns n a = turns n b) : a = b := by
  apply xor_eq_zero
  apply turns_zero n (Nat.xor_lt_two_pow (n := 32) ha hb)
  rw [turns_xor, h, Nat.xor_self]
theorem byte_lt (b : UInt8) : b.toNat < 4294967296 := Nat.lt_trans b.toNat_lt (by decide)
theorem byte1_inj {r s : Nat} (b : UInt8) (hr : r < 4294967296) (hs : s < 4294967296) (h : byte1 r b = byte1 s b) : r = s := by
  have e := turns_inj 8 (Nat.xor_lt_two_pow (n := 32) hr (byte_lt b)) (Nat.xor_lt_two_pow (n := 32) hs (byte_lt b)) h
  have e2 : (r ^^^ b.toNat) ^^^ b.toNat = (s ^^^ b.toNat) ^^^ b.toNat := by rw [e]
  rwa [Nat.xor_assoc, Nat.xor_assoc, Nat.xor_self, Nat.xor_zero, Nat.xor_zero] at e2
theorem byte1_inj2 {r : Nat} {b c : UInt8} (hr : r < 4294967296) (h : byte1 r b = byte1 r c) : b = c := by
  have e := turns_inj 8 (Nat.xor_lt_two_pow (n := 32) hr (byte_lt b)) (Nat.xor_lt_two_pow (n := 32) hr (byte_lt c)) h
  have e2 : r ^^^ (r ^^^ b.toNat) = r ^^^ (r ^^^ c.toNat) := by rw [e]
  rw [← Nat.xor_assoc, ← Nat.xor_assoc, Nat.xor_self, Nat.zero_xor, Nat.zero_xor] at e2
  exact UInt8.toNat_inj.1 e2
theorem reg_inj (l : List UInt8) : ∀ {r s : Nat}, r < 4294967296 → s < 4294967296 → reg r l = reg s l → r = s := by
  induction l with
  | nil => intro r s _ _ h; exact h
  | cons b l ih => intro r s hr hs h; exact byte1_inj b hr hs (ih (byte1_lt b hr) (byte1_lt b hs) h)
theorem sum_inj {s t : ByteArray} (h : sum s = sum t) : reg 4294967295 s.data.toList = reg 4294967295 t.data.toList := by
  have e2 : (reg 4294967295 s.data.toList ^^^ 4294967295) ^^^ 4294967295 = (reg 4294967295 t.data.toList ^^^ 4294967295) ^^^ 4294967295 := by
    have h' : reg 4294967295 s.data.toList ^^^ 4294967295 = reg 4294967295 t.data.toList ^^^ 4294967295 := h
    rw [h']
  rwa [Nat.xor_assoc, Nat.xor_assoc, Nat.xor_self, Nat.xor_zero, Nat.xor_zero] at e2
/-- One byte that is another one. -/
theorem reg_one {p q : List UInt8} {b c : UInt8} (hbc : b ≠ c) : reg 4294967295 (p ++ b :: q) ≠ reg 4294967295 (p ++ c :: q) := by
  intro h
  rw [reg_append, reg_append] at h
  have hp := reg_lt p (r := 4294967295) (by decide)
  exact hbc (byte1_inj2 hp (reg_inj q (byte1_lt b hp) (byte1_lt c hp) h))
/-- How two registers differ behind a byte each. -/
theorem byte1_diff (r s : Nat) (b c : UInt8) : byte1 r b ^^^ byte1 s c = turns 8 ((r ^^^ s) ^^^ (b.toNat ^^^ c.toNat)) := by
  unfold byte1
  rw [← turns_xor]
  congr 1
  simp only [Nat.xor_assoc]
  congr 1
  rw [← Nat.xor_assoc, Nat.xor_comm b.toNat s, Nat.xor_assoc]
theorem turns_add (m n : Nat) : ∀ a, turns (m + n) a = turns n (turns m a) := by
  induction m with
  | zero => intro a; rw [Nat.zero_add]; rfl
  | succ m ih => intro a; rw [Nat.succ_add]; show turns (m + n) (turn1 a) = _; rw [ih]; rfl
theorem shl_xor (a b n : Nat) : (a ^^^ b) * 2 ^ n = (a * 2 ^ n) ^^^ (b * 2 ^ n) := by
  rw [← Nat.shiftLeft_eq, ← Nat.shiftLeft_eq, ← Nat.shiftLeft_eq, Nat.shiftLeft_xor_distrib]
theorem xor_assoc' (a b c : Nat) : a ^^^ (b ^^^ c) = (a ^^^ b) ^^^ c := (Nat.xor_assoc a b c).symm
theorem four_order (a b c d : Nat) : a ^^^ b ^^^ c ^^^ d = d ^^^ c ^^^ b ^^^ a := by
  rw [Nat.xor_comm d c, Nat.xor_comm (c ^^^ d) b, Nat.xor_comm _ a, xor_assoc', xor_assoc']
/-- A number out of its four bytes. -/
theorem four_bytes (t : Nat) (h : t < 4294967296) : (t % 256) ^^^ (t / 256 % 256 * 2 ^ 8) ^^^ (t / 65536 % 256 * 2 ^ 16) ^^^ (t / 16777216 % 256 * 2 ^ 24) = t := by
  have h0 := split8 t
  have h1 := split8 (t / 256)
  have h2 := split8 (t / 65536)
  have e1 : t / 256 / 256 = t / 65536 := by omega
  have e2 : t / 65536 / 256 = t / 16777216 := by omega
  have e3 : t / 16777216 % 256 = t / 16777216 := by omega
  rw [e1] at h1
  rw [e2] at h2
  have h3 : t / 256 * 2 ^ 8 = (t / 65536 * 2 ^ 16) ^^^ (t / 256 % 256 * 2 ^ 8) := by
    have := congrArg (· * 2 ^ 8) h1
    simp only [shl_xor] at this
    rw [this, Nat.mul_assoc]
  have h4 : t / 65536 * 2 ^ 16 = (t / 16777216 * 2 ^ 24) ^^^ (t / 65536 % 256 * 2 ^ 16) := by
    have := congrArg (· * 2 ^ 16) h2
    simp only [shl_xor] at this
    rw [this, Nat.mul_assoc]
  rw [e3]
  exact (four_order _ _ _ _).trans (((congrArg (· ^^^ t % 256) (h3.trans (congrArg (· ^^^ t / 256 % 256 * 2 ^ 8) h4))).symm).trans h0.symm)
/-- Four bytes by what they differ in. -/
theorem reg_four (r : Nat) (b0 b1 b2 b3 c0 c1 c2 c3 : UInt8) : reg r [b0, b1, b2, b3] ^^^ reg r [c0, c1, c2, c3] =
    turns 32 ((b0.toNat ^^^ c0.toNat) ^^^ ((b1.toNat ^^^ c1.toNat) * 2 ^ 8) ^^^ ((b2.toNat ^^^ c2.toNat) * 2 ^ 16) ^^^ ((b3.toNat ^^^ c3.toNat) * 2 ^ 24)) := by
  simp only [reg, List.foldl_cons, List.foldl_nil]
  rw [byte1_diff, byte1_diff, byte1_diff, byte1_diff, Nat.xor_self, Nat.zero_xor]
  generalize b0.toNat ^^^ c0.toNat = e0
  generalize b1.toNat ^^^ c1.toNat = e1
  generalize b2.toNat ^^^ c2.toNat = e2
  generalize b3.toNat ^^^ c3.toNat = e3
  have s1 : turns 8 e0 ^^^ e1 = turns 8 (e0 ^^^ e1 * 2 ^ 8) := by rw [turns_xor, turns_shift]
  have s2 : turns 8 (turns 8 (e0 ^^^ e1 * 2 ^ 8)) ^^^ e2 = turns 16 (e0 ^^^ e1 * 2 ^ 8 ^^^ e2 * 2 ^ 16) := by
    rw [turns_xor 16, turns_shift, ← turns_add]
  have s3 : turns 8 (turns 16 (e0 ^^^ e1 * 2 ^ 8 ^^^ e2 * 2 ^ 16)) ^^^ e3 = turns 24 (e0 ^^^ e1 * 2 ^ 8 ^^^ e2 * 2 ^ 16 ^^^ e3 * 2 ^ 24) := by
    rw [turns_xor 24, turns_shift, ← turns_add]
  rw [s1, s2, s3, ← turns_add]
/-- A byte of a number, as a byte is turned by it. -/
def nth (t j : Nat) : UInt8 := UInt8.ofNat (t / 2 ^ (8 * j))
theorem xor_nth (b : UInt8) (t j : Nat) : b.toNat ^^^ (b ^^^ nth t j).toNat = t / 2 ^ (8 * j) % 256 := by
  rw [UInt8.toNat_xor, xor_assoc', Nat.xor_self, Nat.zero_xor]
  unfold nth
  rw [UInt8.toNat_ofNat']
/-- Side by side: four bytes turned by a number. -/
theorem burst {p q : List UInt8} {b0 b1 b2 b3 : UInt8} {t : Nat} (h0 : 0 < t) (h1 : t < 4294967296) :
    reg 4294967295 (p ++ [b0, b1, b2, b3] ++ q) ≠ reg 4294967295 (p ++ [b0 ^^^ nth t 0, b1 ^^^ nth t 1, b2 ^^^ nth t 2, b3 ^^^ nth t 3] ++ q) := by
  intro h
  have hp := reg_lt p (r := 4294967295) (by decide)
  rw [reg_append, reg_append _ (p ++ _), reg_append, reg_append] at h
  have h2 := reg_inj q (reg_lt _ hp) (reg_lt _ hp) h
  have h3 := reg_four (reg 4294967295 p) b0 b1 b2 b3 (b0 ^^^ nth t 0) (b1 ^^^ nth t 1) (b2 ^^^ nth t 2) (b3 ^^^ nth t 3)
  rw [h2, Nat.xor_self, xor_nth, xor_nth, xor_nth, xor_nth] at h3
  have h4 := four_bytes t h1
  have e0 : t / 2 ^ (8 * 0) = t := by simp
  rw [e0] at h3
  have h5 := turns_zero 32 (z := t) h1 (by rw [← h3.symm]; congr 1; exact h4.symm)
  omega
end Go.Proofs.Ytcndhgpaoihblaa.Crc
