/- Frames one behind the other, plain: cut, spoilt, with bytes behind; no program in sight. -/
import Derived.Test.YtcndhgpaoihblaaPlain
import Derived.Test.YtcndhgpaoihblaaBurst
namespace Go.Proofs.Ytcndhgpaoihblaa.Plain
open Crc

/-- Frames (kind, body) with numbers that rise from n: their bytes, .. -/
def rowL : Nat → List (Nat × List UInt8) → List UInt8
  | _, [] => []
  | n, (k, b) :: r => encL k n b ++ rowL (n + 1) r
/-- .. what a scan that begins at a place sees of them, .. -/
def seenL : Nat → Nat → List (Nat × List UInt8) → List Seen
  | _, _, [] => []
  | n, i, (k, b) :: r => ⟨k, n, i, b, i + 18 + b.length⟩ :: seenL (n + 1) (i + 18 + b.length) r
/-- .. and whether all of them may be. -/
def okL : Nat → List (Nat × List UInt8) → Prop
  | _, [] => True
  | n, (k, b) :: r => fits k n b.length = true ∧ okL (n + 1) r
def endL : Nat → List (Nat × List UInt8) → Nat
  | i, [] => i
  | i, (_, b) :: r => endL (i + 18 + b.length) r
theorem frameL_parts {t : List UInt8} {k n m : Nat} (h : frameL t = some (k, n, m)) : t.head? = some 0xB7 ∧ num4 (t.drop 10) = sumL (t.take 10) ∧ k = (t.getD 1 0).toNat ∧ n = num4 (t.drop 2) ∧ m = num4 (t.drop 6) ∧ num4 (t.drop (14 + m)) = sumL (t.take (14 + m)) := by
  unfold frameL at h
  split at h; · exact absurd h (by simp)
  split at h; · exact absurd h (by simp)
  rename_i c1
  split at h; · exact absurd h (by simp)
  rename_i c2
  simp only at h
  split at h; · exact absurd h (by simp)
  split at h; · exact absurd h (by simp)
  split at h; · exact absurd h (by simp)
  rename_i c3
  simp only [Option.some.injEq, Prod.mk.injEq] at h
  obtain ⟨h1, h2, h3⟩ := h
  subst h3
  exact ⟨by simpa using c1, by simpa using c2, h1.symm, h2.symm, rfl, by simpa using c3⟩
theorem take_drop4 (l : List UInt8) (j : Nat) : (l.drop j).take 4 = (l.take (j + 4)).drop j := by
  rw [List.drop_take]
  congr 1
  omega
theorem num4_take (l : List UInt8) : num4 (l.take 4) = num4 l := by
  match l with
  | [] => rfl
  | [_] => rfl
  | [_, _] => rfl
  | [_, _, _] => rfl
  | _ :: _ :: _ :: _ :: _ => rfl
theorem endL_add (fs : List (Nat × List UInt8)) : ∀ i n : Nat, endL i fs = i + (rowL n fs).length := by
  induction fs with
  | nil => intro i n; rfl
  | cons x r ih =>
    intro i n
    obtain ⟨k, b⟩ := x
    simp only [endL, rowL, List.length_append, encL_length]
    rw [ih _ (n + 1)]
    omega
theorem seenL_length (fs : List (Nat × List UInt8)) : ∀ n i, (seenL n i fs).length = fs.length := by
  induction fs with
  | nil => intro n i; rfl
  | cons x r ih => intro n i; simp only [seenL, List.length_cons, ih]
/-- Whole frames ahead of anything: they are seen, and what is behind is seen behind the last one's number. -/
theorem scan_row (fs : List (Nat × List UInt8)) (tail : List UInt8) : ∀ (n i : Nat) (p : Option Nat), okL n fs → (p = none ∨ p.map (· + 1) = some n) →
    scanT (rowL n fs ++ tail) i p = seenL n i fs ++ scanT tail (endL i fs) (if fs = [] then p else some (n + fs.length - 1)) := by
  induction fs with
  | nil => intro n i p _ _; simp [rowL, seenL, endL]
  | cons x r ih =>
    intro n i p hok hp
    obtain ⟨k, b⟩ := x
    have hf := frameL_enc k n b (rowL (n + 1) r ++ tail) hok.1
    show scanT (encL k n b ++ rowL (n + 1) r ++ tail) i p = _
    rw [List.append_assoc, scanT_some hf, if_pos hp]
    have hd : (encL k n b ++ (rowL (n + 1) r ++ tail)).drop (18 + b.length) = rowL (n + 1) r ++ tail := by
      rw [← encL_length k n b, List.drop_left]
    have ht : ((encL k n b ++ (rowL (n + 1) r ++ tail)).drop 14).take b.length = b := by
      have e : encL k n b = (headL k n b.length ++ be4 (sumL (headL k n b.length))) ++ (b ++ be4 (sumL (fullL k n b))) := by
        unfold encL fullL
        simp only [List.append_assoc]
      have hl : (headL k n b.length ++ be4 (sumL (headL k n b.length))).length = 14 := by rw [List.length_append, headL_length, be4_length]
      rw [e, List.append_assoc, ← hl, List.drop_left, List.append_assoc, List.take_left]
    rw [hd, ht, ih (n + 1) (i + 18 + b.length) (some n) hok.2 (.inr rfl)]
    cases r with
    | nil => simp [seenL, endL]
    | cons y r =>
      simp only [seenL, endL, List.length_cons, List.cons_append, reduceCtorEq, if_false]
      rw [show n + 1 + (r.length + 1) - 1 = n + (r.length + 1 + 1) - 1 from by omega]
/-- A frame that is cut is none. -/
theorem frameL_cut (k n : Nat) (b r : List UInt8) (c : Nat) (h : fits k n b.length = true) (hc : c < 18 + b.length) : frameL ((encL k n b ++ r).take c) = none := by
  cases e : frameL ((encL k n b ++ r).take c) with
  | none => rfl
  | some x =>
    obtain ⟨k', n', m'⟩ := x
    have h1 := frameL_some e
    have hl := h1.2.1
    rw [List.length_take] at hl
    have h3 : c ≤ (encL k n b ++ r).length := by rw [List.length_append, encL_length]; omega
    have h4 : m' = b.length := by
      have hm := (frameL_parts e).2.2.2.2.1
      have hm2 := (frameL_parts (frameL_enc k n b r h)).2.2.2.2.1
      rw [hm, hm2, ← num4_take (((encL k n b ++ r).take c).drop 6), ← num4_take ((encL k n b ++ r).drop 6)]
      congr 1
      rw [take_drop4, take_drop4, List.take_take]
      congr 2
      omega
    omega
/-- A frame with one byte that is another one is none. -/
theorem frameL_spoilt (k n : Nat) (b r p q : List UInt8) (x y : UInt8) (h : fits k n b.length = true) (he : encL k n b = p ++ x :: q) (hxy : y ≠ x) : frameL (p ++ y :: q ++ r) = none := by
  cases e : frameL (p ++ y :: q ++ r) with
  | none => rfl
  | some z =>
    exfalso
    obtain ⟨k', n', m'⟩ := z
    obtain ⟨a1, a2, a3, a4, a5, a6⟩ := frameL_parts e
    obtain ⟨b1, b2, b3, b4, b5, b6⟩ := frameL_parts (frameL_enc k n b r h)
    have hl : 18 + b.length = p.length + 1 + q.length := by rw [← encL_length k n b, he]; simp; omega
    rw [he] at b1 b2 b3 b4 b5 b6
    -- the bytes behind and ahead of it are the same
    have dr : ∀ j, p.length < j → (p ++ y :: q ++ r).drop j = (p ++ x :: q ++ r).drop j := fun j hj => by
      have ex : ∀ z : UInt8, (p ++ z :: q ++ r).drop j = (q ++ r).drop (j - p.length - 1) := fun z => by
        rw [List.append_assoc, List.drop_append, List.drop_eq_nil_of_le (by omega)]
        obtain ⟨d, hd⟩ : ∃ d, j - p.length = d + 1 := ⟨j - p.length - 1, by omega⟩
        rw [hd]
        rfl
      rw [ex, ex]
    have tk : ∀ j, j ≤ p.length → (p ++ y :: q ++ r).take j = (p ++ x :: q ++ r).take j := fun j hj => by
      rw [List.append_assoc, List.append_assoc, List.take_append_of_le_length hj, List.take_append_of_le_length hj]
    have nm : ∀ j, p.length < j ∨ j + 4 ≤ p.length → num4 ((p ++ y :: q ++ r).drop j) = num4 ((p ++ x :: q ++ r).drop j) := fun j hj => by
      rcases hj with hj | hj
      · rw [dr j hj]
      · rw [← num4_take ((p ++ y :: q ++ r).drop j), ← num4_take ((p ++ x :: q ++ r).drop j), take_drop4, take_drop4, tk (j + 4) hj]
    have sm : ∀ j, p.length < j → j ≤ 18 + b.length → sumL ((p ++ y :: q ++ r).take j) ≠ sumL ((p ++ x :: q ++ r).take j) := fun j h1 h2 hs => by
      have ex : ∀ z : UInt8, (p ++ z :: q ++ r).take j = p ++ z :: q.take (j - p.length - 1) := fun z => by
        rw [List.append_assoc, List.take_append, List.take_of_length_le (by omega)]
        congr 1
        obtain ⟨d, hd⟩ : ∃ d, j - p.length = d + 1 := ⟨j - p.length - 1, by omega⟩
        rw [hd, List.cons_append, List.take_succ_cons, Nat.add_sub_cancel, List.take_append_of_le_length (by omega)]
      rw [ex, ex] at hs
      have hx : reg 4294967295 (p ++ y :: q.take (j - p.length - 1)) = reg 4294967295 (p ++ x :: q.take (j - p.length - 1)) := by
        have e2 := congrArg (· ^^^ 4294967295) hs
        simp only [sumL] at e2
        rwa [Nat.xor_assoc, Nat.xor_assoc, Nat.xor_self, Nat.xor_zero, Nat.xor_zero] at e2
      exact reg_one hxy hx
    have nn : ∀ j, j ≤ p.length → p.length < j + 4 → j + 4 ≤ 18 + b.length → num4 ((p ++ y :: q ++ r).drop j) ≠ num4 ((p ++ x :: q ++ r).drop j) := fun j h1 h2 h3 hs => by
      have ll : ∀ z : UInt8, 4 ≤ ((p ++ z :: q ++ r).drop j).length := fun z => by simp; omega
      have e2 := congrArg be4 hs
      rw [be4_num4 _ (ll y), be4_num4 _ (ll x), take_drop4, take_drop4] at e2
      have ex : ∀ z : UInt8, (((p ++ z :: q ++ r).take (j + 4)).drop j)[p.length - j]? = some z := fun z => by
        rw [List.getElem?_drop, List.getElem?_take_of_lt (by omega), List.append_assoc, List.getElem?_append_right (by omega)]
        rw [show j + (p.length - j) - p.length = 0 from by omega]
        rfl
      have e3 := ex y
      rw [e2, ex x] at e3
      exact hxy (Option.some.inj e3).symm
    by_cases c0 : p.length = 0
    · have : p = [] := List.length_eq_zero_iff.1 c0
      subst this
      simp at a1 b1
      exact hxy (a1.trans b1.symm)
    · by_cases c1 : p.length < 10
      · exact sm 10 c1 (by omega) (by rw [← a2, ← b2, nm 10 (.inl c1)])
      · by_cases c2 : p.length < 14
        · exact nn 10 (by omega) (by omega) (by omega) (by rw [a2, b2, tk 10 (by omega)])
        · have hm : m' = b.length := by rw [a5, b5, nm 6 (.inr (by omega))]
          rw [hm] at a6
          by_cases c3 : p.length < 14 + b.length
          · exact sm (14 + b.length) c3 (by omega) (by rw [← a6, ← b6, nm _ (.inl c3)])
          · exact nn (14 + b.length) (by omega) (by omega) (by omega) (by rw [a6, b6, tk _ (by omega)])
end Go.Proofs.Ytcndhgpaoihblaa.Plain
