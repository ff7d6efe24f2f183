/- Plain facts on how a set's text is read: cut at its commas and colons (as the program does) it reads as it does byte by byte (as the document has it). No program. -/
namespace Go.Proofs.YtidcchopmbodkaaDoor.Par
def dig (c : UInt8) : Bool := 48 ≤ c && c ≤ 57
def valF (n : Nat) (l : List UInt8) : Nat := l.foldl (fun n c => 10 * n + (c.toNat - 48)) n
def val (l : List UInt8) : Nat := valF 0 l
/-- The program's end of a piece. -/
def endP (t : List UInt8) : Option Nat :=
  if t = [42] then some 0 else if t = [] then none else if t.head? = some 48 then none else if 10 < t.length then none else if t.all dig then (if val t ≤ 4294967295 then some (val t) else none) else none
/-- The document's digits. -/
def digR : Nat → List UInt8 → Option (Nat × List UInt8)
  | n, [] => some (n, [])
  | n, c :: r => if dig c then (if 4294967295 < 10 * n + (c.toNat - 48) then none else digR (10 * n + (c.toNat - 48)) r) else some (n, c :: r)
/-- The document's end. -/
def endR : List UInt8 → Option (Nat × List UInt8)
  | [] => none
  | c :: r => if c = 42 then some (0, r) else if 49 ≤ c ∧ c ≤ 57 then digR 0 (c :: r) else none

theorem valF_le (n : Nat) (l : List UInt8) : n ≤ valF n l := by
  induction l generalizing n with
  | nil => exact Nat.le_refl _
  | cons c r ih => exact Nat.le_trans (by omega) (ih (10 * n + (c.toNat - 48)))
theorem digR_all (n : Nat) (t v : List UInt8) (hn : n ≤ 4294967295) (ht : t.all dig = true) (hv : v = [] ∨ ∃ c r, v = c :: r ∧ dig c = false) :
    digR n (t ++ v) = if valF n t ≤ 4294967295 then some (valF n t, v) else none := by
  induction t generalizing n with
  | nil =>
    rw [List.nil_append, show valF n [] = n from rfl, if_pos hn]
    rcases hv with rfl | ⟨c, r, rfl, hc⟩
    · rfl
    · show (if dig c then _ else _) = _
      rw [hc]; rfl
  | cons c r ih =>
    simp only [List.all_cons, Bool.and_eq_true] at ht
    have ev : valF n (c :: r) = valF (10 * n + (c.toNat - 48)) r := rfl
    rw [ev, List.cons_append]
    unfold digR
    rw [if_pos ht.1]
    have h0 := valF_le (10 * n + (c.toNat - 48)) r
    by_cases h : 4294967295 < 10 * n + (c.toNat - 48)
    · rw [if_pos h, if_neg (by omega)]
    · rw [if_neg h, ih _ (by omega) ht.2]
theorem digR_not (n : Nat) (t v : List UInt8) (ht : t.all dig = false) : digR n (t ++ v) = none ∨ ∃ m c r, digR n (t ++ v) = some (m, c :: r) ∧ c ∈ t ∧ dig c = false := by
  induction t generalizing n with
  | nil => simp at ht
  | cons c r ih =>
    rw [List.cons_append]
    unfold digR
    by_cases hc : dig c
    · simp only [hc, if_true]
      by_cases h : 4294967295 < 10 * n + (c.toNat - 48)
      · left; rw [if_pos h]
      · rw [if_neg h]
        have hr : r.all dig = false := by simpa [hc] using ht
        rcases ih (10 * n + (c.toNat - 48)) hr with h1 | ⟨m, c', r', h1, h2, h3⟩
        · exact Or.inl h1
        · exact Or.inr ⟨m, c', r', h1, by simp [h2], h3⟩
    · right
      simp only [hc, Bool.false_eq_true, if_false]
      exact ⟨n, c, r ++ v, rfl, by simp, by simpa using hc⟩
theorem valF_ge (l : List UInt8) : ∀ n, n * 10 ^ l.length ≤ valF n l := by
  induction l with
  | nil => intro n; simp [valF]
  | cons c r ih =>
    intro n
    have := ih (10 * n + (c.toNat - 48))
    have e : n * 10 ^ (c :: r).length = (10 * n) * 10 ^ r.length := by rw [List.length_cons, Nat.pow_succ, Nat.mul_comm 10 n, Nat.mul_assoc, Nat.mul_comm 10 (10 ^ r.length)]
    rw [e]
    exact Nat.le_trans (Nat.mul_le_mul_right _ (by omega)) this
/-- More than ten digits, the first no 0: more than there may be. -/
theorem val_long (c : UInt8) (r : List UInt8) (hc : 49 ≤ c.toNat) (hl : 10 ≤ r.length) : 4294967295 < val (c :: r) := by
  have h := valF_ge r (10 * 0 + (c.toNat - 48))
  have e : val (c :: r) = valF (10 * 0 + (c.toNat - 48)) r := rfl
  rw [e]
  have h1 : 1 * 10 ^ 10 ≤ (10 * 0 + (c.toNat - 48)) * 10 ^ r.length := Nat.mul_le_mul (by omega) (Nat.pow_le_pow_right (by omega) hl)
  omega

/-- What stands behind an end. -/
def Sep (v : List UInt8) : Prop := v = [] ∨ ∃ c r, v = c :: r ∧ (c = 44 ∨ c = 58)
theorem sep_nodig {v : List UInt8} (h : Sep v) : v = [] ∨ ∃ c r, v = c :: r ∧ dig c = false := by
  rcases h with h | ⟨c, r, h, h1 | h1⟩
  · exact Or.inl h
  · exact Or.inr ⟨c, r, h, by subst h1; rfl⟩
  · exact Or.inr ⟨c, r, h, by subst h1; rfl⟩
theorem dig_iff (c : UInt8) : dig c = true ↔ 48 ≤ c.toNat ∧ c.toNat ≤ 57 := by
  simp [dig, UInt8.le_iff_toNat_le]
theorem byte_eq (c : UInt8) (k : Nat) (hk : k < 256) : c = UInt8.ofNat k ↔ c.toNat = k := by
  constructor
  · rintro rfl; simp; omega
  · intro h; apply UInt8.toNat_inj.1; rw [h]; simp; omega
/-- An end between marks: the program's answer and the document's. -/
theorem end_some (t v : List UInt8) (hv : Sep v) (n : Nat) (h : endP t = some n) : endR (t ++ v) = some (n, v) := by
  unfold endP at h
  split at h
  · rename_i h1; subst h1
    injection h with h; subst h; rfl
  · split at h
    · cases h
    · split at h
      · cases h
      · split at h
        · cases h
        · split at h
          · rename_i h1 h2 h3 h4 h5
            split at h
            · rename_i h6
              injection h with h; subst h
              obtain ⟨c, r, rfl⟩ : ∃ c r, t = c :: r := by cases t with
                | nil => exact absurd rfl h2
                | cons c r => exact ⟨c, r, rfl⟩
              have hc : dig c = true := by simp at h5; exact h5.1
              rw [dig_iff] at hc
              have hc0 : c.toNat ≠ 48 := fun e => h3 (by show some c = some 48; rw [(byte_eq c 48 (by omega)).2 e]; rfl)
              have hc1 : c ≠ 42 := fun e => by subst e; simp at hc
              show (if c = 42 then _ else if 49 ≤ c ∧ c ≤ 57 then digR 0 (c :: (r ++ v)) else none) = _
              rw [if_neg hc1, if_pos ⟨by rw [UInt8.le_iff_toNat_le]; show 49 ≤ c.toNat; omega, by rw [UInt8.le_iff_toNat_le]; show c.toNat ≤ 57; omega⟩]
              have := digR_all 0 (c :: r) v (by omega) h5 (sep_nodig hv)
              rw [if_pos (show valF 0 (c :: r) ≤ 4294967295 from h6)] at this
              exact this
            · cases h
          · cases h
theorem end_none (t v : List UInt8) (hv : Sep v) (ht : ∀ c ∈ t, c ≠ 44 ∧ c ≠ 58) (h : endP t = none) : endR (t ++ v) = none ∨ ∃ m c r, endR (t ++ v) = some (m, c :: r) ∧ c ≠ 44 ∧ c ≠ 58 := by
  cases t with
  | nil =>
    left
    rcases hv with rfl | ⟨c, r, rfl, h1 | h1⟩
    · rfl
    · subst h1; rfl
    · subst h1; rfl
  | cons c r =>
    unfold endP at h
    show ((if c = 42 then _ else if 49 ≤ c ∧ c ≤ 57 then digR 0 (c :: (r ++ v)) else none) = none) ∨ ∃ m c' r', (if c = 42 then _ else if 49 ≤ c ∧ c ≤ 57 then digR 0 (c :: (r ++ v)) else none) = _ ∧ _
    by_cases h1 : c = 42
    · subst h1
      rw [if_pos rfl]
      cases r with
      | nil => simp at h
      | cons d r => exact Or.inr ⟨0, d, r ++ v, rfl, ht d (by simp)⟩
    · rw [if_neg h1]
      by_cases h2 : 49 ≤ c ∧ c ≤ 57
      · rw [if_pos h2]
        have h2' : 49 ≤ c.toNat ∧ c.toNat ≤ 57 := by simpa [UInt8.le_iff_toNat_le] using h2
        rw [if_neg (by intro e; injection e with e _; exact h1 e), if_neg (by simp), if_neg (by show ¬ some c = some 48; intro e; injection e with e; subst e; simp at h2')] at h
        by_cases h3 : (c :: r).all dig
        · left
          have hb : ¬ val (c :: r) ≤ 4294967295 := by
            split at h
            · rename_i h4
              have := val_long c r h2'.1 (by simp at h4; omega)
              omega
            · split at h
              · cases h
              · assumption
          have := digR_all 0 (c :: r) v (by omega) h3 (sep_nodig hv)
          rw [if_neg (show ¬ valF 0 (c :: r) ≤ 4294967295 from hb)] at this
          exact this
        · rcases digR_not 0 (c :: r) v (by simpa using h3) with h4 | ⟨m, c', r', h4, h5, h6⟩
          · exact Or.inl h4
          · exact Or.inr ⟨m, c', r', h4, ht c' h5⟩
      · rw [if_neg h2]; exact Or.inl rfl

/-- A cut at a byte. -/
def cutB (c : UInt8) (l : List UInt8) : List UInt8 × List UInt8 × Bool := (l.takeWhile (· != c), (l.dropWhile (· != c)).drop 1, l.contains c)
theorem cut_is (c : UInt8) (l : List UInt8) : ((cutB c l).2.2 = false ∧ (cutB c l).1 = l ∧ (cutB c l).2.1 = [] ∧ c ∉ l) ∨ ((cutB c l).2.2 = true ∧ l = (cutB c l).1 ++ c :: (cutB c l).2.1 ∧ c ∉ (cutB c l).1) := by
  induction l with
  | nil => left; exact ⟨rfl, rfl, rfl, by simp⟩
  | cons d l ih =>
    by_cases h : d = c
    · subst h
      right
      refine ⟨by simp [cutB], by simp [cutB], by simp [cutB]⟩
    · have hd : (d != c) = true := by simp [h]
      have e1 : (cutB c (d :: l)).1 = d :: (cutB c l).1 := by simp [cutB, hd]
      have e2 : (cutB c (d :: l)).2.1 = (cutB c l).2.1 := by simp [cutB, hd]
      have e3 : (cutB c (d :: l)).2.2 = (cutB c l).2.2 := by
        simp only [cutB, List.contains_cons]
        rw [show (c == d) = false from by simp; exact fun e => h e.symm, Bool.false_or]
      rw [e1, e2, e3]
      rcases ih with ⟨h1, h2, h3, h4⟩ | ⟨h1, h2, h3⟩
      · left; exact ⟨h1, by rw [h2], h3, by simp [h4]; exact fun e => h e.symm⟩
      · right; exact ⟨h1, by rw [List.cons_append, ← h2], by simp [h3]; exact fun e => h e.symm⟩

/-- The program's piece. -/
def oneP (p : List UInt8) : Option (Int × Int) :=
  (endP (cutB 58 p).1).bind fun a => if (cutB 58 p).2.2 = false then some (a, a) else (endP (cutB 58 (cutB 58 p).2.1).1).bind fun b => if (cutB 58 (cutB 58 p).2.1).2.2 = false then some (a, b) else none
/-- The document's. -/
def oneR (u : List UInt8) : Option ((Int × Int) × List UInt8) :=
  (endR u).bind fun x => match x.2 with
    | [] => some ((x.1, x.1), [])
    | c :: v => if c = 58 then (endR v).bind fun y => some ((x.1, y.1), y.2) else some ((x.1, x.1), c :: v)
theorem one_both (p v : List UInt8) (hp : (44 : UInt8) ∉ p) (hv : v = [] ∨ ∃ r, v = 44 :: r) :
    (∀ r, oneP p = some r → oneR (p ++ v) = some (r, v)) ∧ (oneP p = none → oneR (p ++ v) = none ∨ ∃ r c w, oneR (p ++ v) = some (r, c :: w) ∧ c ≠ 44) := by
  have hsv : Sep v := by
    rcases hv with h | ⟨r, h⟩
    · exact Or.inl h
    · exact Or.inr ⟨44, r, h, Or.inl rfl⟩
  rcases cut_is 58 p with ⟨h1, h2, h3, h4⟩ | ⟨h1, h2, h3⟩
  · have e : oneP p = (endP p).bind fun a => some ((a : Int), (a : Int)) := by unfold oneP; rw [h1, h2]; rfl
    have hm : ∀ c ∈ p, c ≠ 44 ∧ c ≠ 58 := fun c hc => ⟨fun e => hp (e ▸ hc), fun e => h4 (e ▸ hc)⟩
    refine ⟨fun r h => ?_, fun h => ?_⟩
    · rw [e] at h
      cases he : endP p with
      | none => rw [he] at h; cases h
      | some a =>
        rw [he] at h; injection h with h; subst h
        unfold oneR
        rw [end_some p v hsv a he]
        rcases hv with rfl | ⟨r, rfl⟩
        · rfl
        · rfl
    · rw [e] at h
      cases he : endP p with
      | some a => rw [he] at h; cases h
      | none =>
        unfold oneR
        rcases end_none p v hsv hm he with h5 | ⟨m, c, r, h5, h6, h7⟩
        · left; rw [h5]; rfl
        · right; rw [h5]
          exact ⟨(m, m), c, r, by show (if c = 58 then _ else _) = _; rw [if_neg h7], h6⟩
  · generalize ht : (cutB 58 p).1 = t at *
    generalize hb : (cutB 58 p).2.1 = b at *
    have hmt : ∀ c ∈ t, c ≠ 44 ∧ c ≠ 58 := fun c hc => ⟨fun e => hp (by rw [h2]; simp [← e, hc]), fun e => h3 (e ▸ hc)⟩
    have hpb : (44 : UInt8) ∉ b := fun hc => hp (by rw [h2]; simp [hc])
    have ep : p ++ v = t ++ 58 :: (b ++ v) := by rw [h2]; simp
    have hst : Sep (58 :: (b ++ v)) := Or.inr ⟨58, _, rfl, Or.inr rfl⟩
    rcases cut_is 58 b with ⟨g1, g2, g3, g4⟩ | ⟨g1, g2, g3⟩
    · have e : oneP p = (endP t).bind fun a => (endP b).bind fun y => some ((a : Int), (y : Int)) := by unfold oneP; rw [ht, h1, hb, g1, g2]; rfl
      have hmb : ∀ c ∈ b, c ≠ 44 ∧ c ≠ 58 := fun c hc => ⟨fun e => hpb (e ▸ hc), fun e => g4 (e ▸ hc)⟩
      rw [e, ep]
      cases he : endP t with
      | none =>
        refine ⟨fun r h => (by cases h), fun _ => ?_⟩
        unfold oneR
        rcases end_none t _ hst hmt he with h5 | ⟨m, c, r, h5, h6, h7⟩
        · left; rw [h5]; rfl
        · right; rw [h5]
          exact ⟨(m, m), c, r, by show (if c = 58 then _ else _) = _; rw [if_neg h7], h6⟩
      | some a =>
        have e1 : oneR (t ++ 58 :: (b ++ v)) = (endR (b ++ v)).bind fun y => some (((a : Int), (y.1 : Int)), y.2) := by
          unfold oneR; rw [end_some t _ hst a he]; rfl
        rw [e1]
        cases hf : endP b with
        | none =>
          refine ⟨fun r h => (by cases h), fun _ => ?_⟩
          rcases end_none b v hsv hmb hf with h5 | ⟨m, c, r, h5, h6, h7⟩
          · left; rw [h5]; rfl
          · right; rw [h5]; exact ⟨(a, m), c, r, rfl, h6⟩
        | some y =>
          refine ⟨fun r h => ?_, fun h => (by cases h)⟩
          rw [end_some b v hsv y hf]
          injection h with h; subst h; rfl
    · have hno : oneP p = none := by
        unfold oneP
        rw [ht, h1, hb, g1]
        cases endP t with
        | none => rfl
        | some a => cases endP (cutB 58 b).1 <;> rfl
      rw [hno, ep]
      refine ⟨fun r h => (by cases h), fun _ => ?_⟩
      generalize ht' : (cutB 58 b).1 = t' at *
      generalize hb' : (cutB 58 b).2.1 = b' at *
      have hmb : ∀ c ∈ t', c ≠ 44 ∧ c ≠ 58 := fun c hc => ⟨fun e => hpb (by rw [g2]; simp [← e, hc]), fun e => g3 (e ▸ hc)⟩
      have hst' : Sep (58 :: (b' ++ v)) := Or.inr ⟨58, _, rfl, Or.inr rfl⟩
      cases he : endP t with
      | none =>
        unfold oneR
        rcases end_none t _ hst hmt he with h5 | ⟨m, c, r, h5, h6, h7⟩
        · left; rw [h5]; rfl
        · right; rw [h5]
          exact ⟨(m, m), c, r, by show (if c = 58 then _ else _) = _; rw [if_neg h7], h6⟩
      | some a =>
        have e1 : oneR (t ++ 58 :: (b ++ v)) = (endR (b ++ v)).bind fun y => some (((a : Int), (y.1 : Int)), y.2) := by
          unfold oneR; rw [end_some t _ hst a he]; rfl
        have eb : b ++ v = t' ++ 58 :: (b' ++ v) := by rw [g2]; simp
        rw [e1, eb]
        cases hf : endP t' with
        | none =>
          rcases end_none t' _ hst' hmb hf with h5 | ⟨m, c, r, h5, h6, h7⟩
          · left; rw [h5]; rfl
          · right; rw [h5]; exact ⟨(a, m), c, r, rfl, h6⟩
        | some y => right; rw [end_some t' _ hst' y hf]; exact ⟨(a, y), 58, b' ++ v, rfl, by decide⟩

/-- The program's pieces. -/
def manyP : Nat → List UInt8 → Option (List (Int × Int))
  | 0, _ => none
  | k + 1, u => (oneP (cutB 44 u).1).bind fun r => if (cutB 44 u).2.2 = true then (manyP k (cutB 44 u).2.1).map (r :: ·) else some [r]
/-- The document's. -/
def manyR : Nat → List UInt8 → Option (List (Int × Int))
  | 0, _ => none
  | k + 1, u => (oneR u).bind fun x => match x.2 with
    | [] => some [x.1]
    | c :: v => if c = 44 then (manyR k v).map (x.1 :: ·) else none
theorem many_eq (k : Nat) : ∀ u : List UInt8, u.length < k → manyP k u = manyR k u := by
  induction k with
  | zero => intro u h; omega
  | succ k ih =>
    intro u hu
    show ((oneP (cutB 44 u).1).bind _) = ((oneR u).bind _)
    rcases cut_is 44 u with ⟨h1, h2, h3, h4⟩ | ⟨h1, h2, h3⟩
    · obtain ⟨o1, o2⟩ := one_both u [] h4 (Or.inl rfl)
      rw [List.append_nil] at o1 o2
      rw [h1, h2]
      cases ho : oneP u with
      | some r => rw [o1 r ho]; rfl
      | none =>
        rcases o2 ho with h | ⟨r, c, w, h, hc⟩
        · rw [h]; rfl
        · rw [h]; show none = (if c = 44 then _ else none); rw [if_neg hc]
    · generalize ht : (cutB 44 u).1 = t at *
      generalize hb : (cutB 44 u).2.1 = b at *
      obtain ⟨o1, o2⟩ := one_both t (44 :: b) h3 (Or.inr ⟨b, rfl⟩)
      rw [← h2] at o1 o2
      have hl : b.length < k := by have := congrArg List.length h2; simp at this; omega
      cases ho : oneP t with
      | some r =>
        rw [o1 r ho]
        show (if (cutB 44 u).2.2 = true then (manyP k b).map (r :: ·) else some [r]) = (manyR k b).map (r :: ·)
        rw [if_pos h1, ih b hl]
      | none =>
        rcases o2 ho with h | ⟨r, c, w, h, hc⟩
        · rw [h]; rfl
        · rw [h]; show none = (if c = 44 then _ else none); rw [if_neg hc]
end Go.Proofs.YtidcchopmbodkaaDoor.Par
