/- Frames on lists of bytes: what a frame is, how one is written, what stands one behind the other; no program in sight. -/
import Derived.Test.YtcndhgpaoihblaaCrc
namespace Go.Proofs.Ytcndhgpaoihblaa.Plain
open Crc

/-- The number that the first four bytes are. -/
def num4 : List UInt8 → Nat
  | a :: b :: c :: d :: _ => ((a.toNat * 256 + b.toNat) * 256 + c.toNat) * 256 + d.toNat
  | _ => 0
def sumL (l : List UInt8) : Nat := reg 4294967295 l ^^^ 4294967295
def be4 (n : Nat) : List UInt8 := [UInt8.ofNat (n / 16777216), UInt8.ofNat (n / 65536), UInt8.ofNat (n / 256), UInt8.ofNat n]
def headL (kind number n : Nat) : List UInt8 := [0xB7, UInt8.ofNat kind] ++ be4 number ++ be4 n
def fullL (kind number : Nat) (body : List UInt8) : List UInt8 := headL kind number body.length ++ be4 (sumL (headL kind number body.length)) ++ body
def encL (kind number : Nat) (body : List UInt8) : List UInt8 := fullL kind number body ++ be4 (sumL (fullL kind number body))
/-- May there be such a frame? -/
def fits (kind number n : Nat) : Bool := (kind == 1 || kind == 2) && decide (1 ≤ number) && decide (number < 4294967295) && decide (n ≤ 2097152)
/-- The frame at the beginning: kind, number, length of the body. -/
def frameL (t : List UInt8) : Option (Nat × Nat × Nat) :=
  if t.length < 18 then none
  else if t.head? ≠ some 0xB7 then none
  else if num4 (t.drop 10) ≠ sumL (t.take 10) then none
  else
    let kind := (t.getD 1 0).toNat
    let number := num4 (t.drop 2)
    let n := num4 (t.drop 6)
    if fits kind number n = false then none
    else if t.length < 18 + n then none
    else if num4 (t.drop (14 + n)) ≠ sumL (t.take (14 + n)) then none
    else some (kind, number, n)

theorem sumL_lt (l : List UInt8) : sumL l < 4294967296 := Nat.xor_lt_two_pow (n := 32) (reg_lt _ (by decide)) (by decide)
theorem num4_lt (l : List UInt8) : num4 l < 4294967296 := by
  unfold num4
  split
  · rename_i a b c d _
    have := a.toNat_lt; have := b.toNat_lt; have := c.toNat_lt; have := d.toNat_lt
    omega
  · decide
theorem be4_length (n : Nat) : (be4 n).length = 4 := rfl
theorem num4_be4 (n : Nat) (h : n < 4294967296) (r : List UInt8) : num4 (be4 n ++ r) = n := by
  simp only [be4, num4, List.cons_append, List.nil_append, UInt8.toNat_ofNat']
  omega
theorem be4_num4 (l : List UInt8) (h : 4 ≤ l.length) : be4 (num4 l) = l.take 4 := by
  match l, h with
  | a :: b :: c :: d :: r, _ =>
    have ha := a.toNat_lt; have hb := b.toNat_lt; have hc := c.toNat_lt; have hd := d.toNat_lt
    simp only [num4, be4, List.take_succ_cons, List.take_zero]
    have e : ∀ (x : UInt8) (m : Nat), m % 256 = x.toNat → UInt8.ofNat m = x := fun x m hm => by
      apply UInt8.toNat_inj.1
      rw [UInt8.toNat_ofNat']
      exact hm
    rw [e a _ (by omega), e b _ (by omega), e c _ (by omega), e d _ (by omega)]
theorem headL_length (k n m : Nat) : (headL k n m).length = 10 := rfl
theorem fullL_length (k n : Nat) (b : List UInt8) : (fullL k n b).length = 14 + b.length := by simp [fullL, headL, be4]; omega
theorem encL_length (k n : Nat) (b : List UInt8) : (encL k n b).length = 18 + b.length := by simp [encL, fullL_length, be4]; omega

theorem fits_iff {k n m : Nat} : fits k n m = true ↔ (k = 1 ∨ k = 2) ∧ 1 ≤ n ∧ n < 4294967295 ∧ m ≤ 2097152 := by
  simp [fits, and_assoc]
/-- A frame that was written is read, whatever stands behind it. -/
theorem frameL_enc (k n : Nat) (b r : List UInt8) (h : fits k n b.length = true) : frameL (encL k n b ++ r) = some (k, n, b.length) := by
  obtain ⟨hk, h1, h2, h3⟩ := fits_iff.1 h
  have hl : (encL k n b ++ r).length = 18 + b.length + r.length := by rw [List.length_append, encL_length]
  have e0 : encL k n b ++ r = 0xB7 :: UInt8.ofNat k :: (be4 n ++ (be4 b.length ++ (be4 (sumL (headL k n b.length)) ++ (b ++ (be4 (sumL (fullL k n b)) ++ r))))) := by
    simp [encL, fullL, headL]
  have t10 : (encL k n b ++ r).take 10 = headL k n b.length := by rw [e0]; rfl
  have d10 : (encL k n b ++ r).drop 10 = be4 (sumL (headL k n b.length)) ++ (b ++ (be4 (sumL (fullL k n b)) ++ r)) := by rw [e0]; rfl
  have d2 : (encL k n b ++ r).drop 2 = be4 n ++ (be4 b.length ++ (be4 (sumL (headL k n b.length)) ++ (b ++ (be4 (sumL (fullL k n b)) ++ r)))) := by rw [e0]; rfl
  have d6 : (encL k n b ++ r).drop 6 = be4 b.length ++ (be4 (sumL (headL k n b.length)) ++ (b ++ (be4 (sumL (fullL k n b)) ++ r))) := by rw [e0]; rfl
  have g1 : ((encL k n b ++ r).getD 1 0).toNat = k := by
    rw [e0]
    show (UInt8.ofNat k).toNat = k
    rw [UInt8.toNat_ofNat']
    omega
  have tE : (encL k n b ++ r).take (14 + b.length) = fullL k n b := by
    unfold encL
    rw [List.append_assoc, List.take_append_of_le_length (by rw [fullL_length]; omega), ← fullL_length k n b, List.take_length]
  have dE : (encL k n b ++ r).drop (14 + b.length) = be4 (sumL (fullL k n b)) ++ r := by
    unfold encL
    rw [List.append_assoc, ← fullL_length k n b, List.drop_left]
  unfold frameL
  simp only [g1, d2, d6, d10, t10]
  rw [num4_be4 n (by omega), num4_be4 b.length (by omega), num4_be4 _ (sumL_lt _), tE, dE, num4_be4 _ (sumL_lt _), if_neg (by omega), if_neg (by rw [e0]; simp), if_neg (by simp), if_neg (by simp [h]), if_neg (by omega), if_neg (by simp)]
/-- What is read was written so. -/
theorem frameL_some {t : List UInt8} {k n m : Nat} (h : frameL t = some (k, n, m)) :
    fits k n m = true ∧ 18 + m ≤ t.length ∧ t.take (18 + m) = encL k n ((t.drop 14).take m) := by
  unfold frameL at h
  split at h; · exact absurd h (by simp)
  rename_i c1
  split at h; · exact absurd h (by simp)
  rename_i c2
  split at h; · exact absurd h (by simp)
  rename_i c3
  simp only at h
  split at h; · exact absurd h (by simp)
  rename_i c4
  split at h; · exact absurd h (by simp)
  rename_i c5
  split at h; · exact absurd h (by simp)
  rename_i c6
  simp only [Option.some.injEq, Prod.mk.injEq] at h
  obtain ⟨rfl, rfl, rfl⟩ := h
  have c4' : fits (t.getD 1 0).toNat (num4 (t.drop 2)) (num4 (t.drop 6)) = true := by simpa using c4
  refine ⟨c4', by omega, ?_⟩
  have c3' : num4 (t.drop 10) = sumL (t.take 10) := by simpa using c3
  have c6' : num4 (t.drop (14 + num4 (t.drop 6))) = sumL (t.take (14 + num4 (t.drop 6))) := by simpa using c6
  generalize hm : num4 (t.drop 6) = m at *
  have hb : ((t.drop 14).take m).length = m := by rw [List.length_take, List.length_drop]; omega
  have hhead : headL (t.getD 1 0).toNat (num4 (t.drop 2)) m = t.take 10 := by
    unfold headL
    rw [← hm, be4_num4 _ (by rw [List.length_drop]; omega), be4_num4 _ (by rw [List.length_drop]; omega)]
    match t, c1, c2 with
    | a :: b :: t', c1, c2 =>
      have : a = 0xB7 := by simpa using c2
      subst this
      have eb : UInt8.ofNat b.toNat = b := by
        apply UInt8.toNat_inj.1
        rw [UInt8.toNat_ofNat']
        have := b.toNat_lt
        omega
      show [0xB7, UInt8.ofNat b.toNat] ++ t'.take 4 ++ (t'.drop 4).take 4 = 0xB7 :: b :: t'.take 8
      rw [eb]
      have : t'.take 8 = t'.take 4 ++ (t'.drop 4).take 4 := by rw [← List.take_add]
      rw [this]
      simp
  have hfull : fullL (t.getD 1 0).toNat (num4 (t.drop 2)) ((t.drop 14).take m) = t.take (14 + m) := by
    unfold fullL
    rw [hb, hhead, ← c3', be4_num4 _ (by rw [List.length_drop]; omega), ← List.take_add, ← List.take_add]
  unfold encL
  rw [hfull, ← c6', be4_num4 _ (by rw [List.length_drop]; omega), ← List.take_add]
  congr 1
  omega
/-- A frame that is told: where it begins, and the place behind it. -/
structure Seen where
  kind : Nat
  number : Nat
  at_ : Nat
  body : List UInt8
  next : Nat
/-- The frames at the beginning of bytes that begin at a place, behind a frame with a number (none: the first may have any). -/
def scanT (t : List UInt8) (i : Nat) (prev : Option Nat) : List Seen :=
  match h : frameL t with
  | none => []
  | some (k, n, m) => if prev = none ∨ prev.map (· + 1) = some n then ⟨k, n, i, (t.drop 14).take m, i + 18 + m⟩ :: scanT (t.drop (18 + m)) (i + 18 + m) (some n) else []
termination_by t.length
decreasing_by
  have := (frameL_some h).2.1
  rw [List.length_drop]
  omega
theorem scanT_none {t : List UInt8} (h : frameL t = none) (i : Nat) (p : Option Nat) : scanT t i p = [] := by
  rw [scanT]
  split
  · rfl
  · rename_i h2; rw [h] at h2; exact absurd h2 (by simp)
theorem scanT_some {t : List UInt8} {k n m : Nat} (h : frameL t = some (k, n, m)) (i : Nat) (p : Option Nat) :
    scanT t i p = if p = none ∨ p.map (· + 1) = some n then ⟨k, n, i, (t.drop 14).take m, i + 18 + m⟩ :: scanT (t.drop (18 + m)) (i + 18 + m) (some n) else [] := by
  rw [scanT]
  split
  · rename_i h2; rw [h] at h2; exact absurd h2 (by simp)
  · rename_i h2
    rw [h] at h2
    simp only [Option.some.injEq, Prod.mk.injEq] at h2
    obtain ⟨rfl, rfl, rfl⟩ := h2
    rfl
theorem scanT_length (t : List UInt8) (i : Nat) (p : Option Nat) : 18 * (scanT t i p).length ≤ t.length := by
  match h : frameL t with
  | none => rw [scanT_none h]; simp
  | some (k, n, m) =>
    have hl := (frameL_some h).2.1
    rw [scanT_some h]
    split
    · have ih := scanT_length (t.drop (18 + m)) (i + 18 + m) (some n)
      rw [List.length_drop] at ih
      rw [List.length_cons]
      omega
    · simp
termination_by t.length
decreasing_by
  have := (frameL_some h).2.1
  rw [List.length_drop]
  omega
/-- The frames that are told up to the first at which the teller says 'no more'. -/
def taken (g : List Seen → Seen → Bool) : List Seen → List Seen → List Seen
  | done, [] => done
  | done, x :: r => if g done x = true then taken g (done ++ [x]) r else done ++ [x]
end Go.Proofs.Ytcndhgpaoihblaa.Plain
