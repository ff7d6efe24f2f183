/- The pure statement of SpanEither: a set has a number if one of its pieces has it; the ends of a piece may stand in either order; the star is the greatest number. -/
import Derived.Test.YtidcchopmbodkaaDoorPPostbaglaw4SpanEither
import Derived.Test.YtidcchopmbodkaaDoorTa
import Derived.Test.YtidcchopmbodkaaDoorTk
namespace Go.Proofs.YtidcchopmbodkaaDoor.Sp
open Go.RowKit Go.Proofs.YtidcchopmbodkaaDoorW.PrintWords Go.Proofs.YtidcchopmbodkaaDoorW.PrintLast Go.Proofs.YtidcchopmbodkaaDoorW.PrintMore

theorem has_append (a b : List S28) (n g : Int) : hasB (a ++ b) n g = (hasB a n g || hasB b n g) := by
  unfold hasB
  by_cases h : g < 1 ∨ n < 1
  · rw [if_pos h, if_pos h, if_pos h]; rfl
  · rw [if_neg h, if_neg h, if_neg h, List.any_append]
theorem has_one (x : S28) (n g : Int) : hasB [x] n g = if g < 1 ∨ n < 1 then false else pieceB n g x := by
  unfold hasB
  by_cases h : g < 1 ∨ n < 1
  · rw [if_pos h, if_pos h]
  · rw [if_neg h, if_neg h]; simp
theorem has_turn (a b n g : Int) : hasB [⟨b, a⟩] n g = hasB [⟨a, b⟩] n g := by
  rw [has_one, has_one]
  unfold pieceB rngB
  simp only [Int.min_comm b a, Int.max_comm b a, Int.min_comm (isE g b) (isE g a), Int.max_comm (isE g b) (isE g a)]
theorem has_star (b n g : Int) (h1 : 1 ≤ g) (h2 : g ≤ 4294967295) : hasB [⟨g, b⟩] n g = hasB [⟨0, b⟩] n g := by
  rw [has_one, has_one]
  have e1 : isE g g = g := by unfold isE; rw [if_neg (by omega)]
  have e2 : isE g 0 = g := rfl
  unfold pieceB rngB
  show (if _ then false else (decide (0 ≤ min g b) && decide (max g b ≤ 4294967295)) && (decide (min (isE g g) (isE g b) ≤ n) && decide (n ≤ max (isE g g) (isE g b)))) = (if _ then false else (decide (0 ≤ min 0 b) && decide (max 0 b ≤ 4294967295)) && (decide (min (isE g 0) (isE g b) ≤ n) && decide (n ≤ max (isE g 0) (isE g b))))
  rw [e1, e2]
  have e3 : decide (0 ≤ min g b) = decide (0 ≤ min 0 b) := by rw [Bool.eq_iff_iff]; simp; omega
  have e4 : decide (max g b ≤ 4294967295) = decide (max 0 b ≤ 4294967295) := by rw [Bool.eq_iff_iff]; simp; omega
  rw [e3, e4]
theorem has_in (a : List S28) (x : S28) (hx : x ∈ a) (n g : Int) (h : hasB [x] n g = true) : hasB a n g = true ∧ 1 ≤ n ∧ 1 ≤ g ∧ 0 ≤ x.f0 ∧ 0 ≤ x.f1 := by
  rw [has_one] at h
  by_cases h0 : g < 1 ∨ n < 1
  · rw [if_pos h0] at h; cases h
  · rw [if_neg h0] at h
    have hr : rngB x = true := by unfold pieceB at h; simp only [Bool.and_eq_true] at h; exact h.1
    unfold rngB at hr
    simp only [Bool.and_eq_true, decide_eq_true_eq] at hr
    refine ⟨?_, by omega, by omega, by omega, by omega⟩
    unfold hasB
    rw [if_neg h0, List.any_eq_true]
    exact ⟨x, hx, h⟩
theorem known_e (k : Nat) (hk : 50 ≤ k) : postbaglaw4_known.f k = some true := at_rounds postbaglaw4_known.mono hk known_50
theorem either_l0 (a : List S28) (n g : Int) (hl : a.length ≤ 3000) (d : Nat) : ∀ (i k : Nat), i + d = a.length → 5 * d + 100 ≤ k → postbaglaw4_SpanEither.l0 k a n g (i : Int) = some true := by
  have fin : ∀ (i : Int) (k : Nat), 60 ≤ k → postbaglaw4_SpanEither.j2 k a n g i false = some true := by
    intro i k hk
    obtain ⟨k, rfl⟩ : ∃ j, k = j + 1 := ⟨k - 1, by omega⟩
    simp only [postbaglaw4_SpanEither.j2]
    rw [if_neg (by simp), known_e k (by omega)]
    rfl
  induction d with
  | zero =>
    intro i k hi hk
    obtain ⟨k, rfl⟩ : ∃ j, k = j + 1 := ⟨k - 1, by omega⟩
    simp only [postbaglaw4_SpanEither.l0]
    rw [if_neg (by omega)]
    exact fin _ _ (by omega)
  | succ d ih =>
    intro i k hi hk
    obtain ⟨k, rfl⟩ : ∃ j, k = j + 4 := ⟨k - 4, by omega⟩
    have hil : i < a.length := by omega
    simp only [postbaglaw4_SpanEither.l0]
    rw [if_pos (by omega)]
    by_cases h2 : (i : Int) < 200
    · rw [decide_eq_true h2]
      simp only [postbaglaw4_SpanEither.j2]
      rw [if_pos trivial, if_pos (by omega), if_pos (by omega), rd28_at a i hil]
      have hx := List.getElem_mem hil
      generalize a[i] = x at *
      obtain ⟨p, q⟩ := x
      simp only [has_f, Option.bind_some]
      rw [has_turn p q n g]
      generalize hI : hasB [⟨p, q⟩] n g = is at *
      rw [if_neg (by simp)]
      have e3 : (if is = true then postbaglaw4_SpanEither.j3 (k + 2) a n g (i : Int) is (!hasB a n g) p q else postbaglaw4_SpanEither.j3 (k + 2) a n g (i : Int) is false p q) = postbaglaw4_SpanEither.j3 (k + 2) a n g (i : Int) is false p q := by
        cases is with
        | false => rfl
        | true => rw [if_pos rfl, (has_in a _ hx n g hI).1]; rfl
      rw [e3]
      simp only [postbaglaw4_SpanEither.j3]
      rw [if_neg (by simp)]
      have e4 : (if p = 0 then (if g ≥ 1 then (if g ≤ 4294967295 then ((span_Has.f [⟨g, q⟩] n g).bind fun t498 => postbaglaw4_SpanEither.j4 (k + 1) a n g (i : Int) is (is != t498) p q) else postbaglaw4_SpanEither.j4 (k + 1) a n g (i : Int) is false p q) else postbaglaw4_SpanEither.j4 (k + 1) a n g (i : Int) is false p q) else postbaglaw4_SpanEither.j4 (k + 1) a n g (i : Int) is false p q) = postbaglaw4_SpanEither.j4 (k + 1) a n g (i : Int) is false p q := by
        by_cases c1 : p = 0
        · rw [if_pos c1]
          by_cases c2 : g ≥ 1
          · rw [if_pos c2]
            by_cases c3 : g ≤ 4294967295
            · rw [if_pos c3, has_f, Option.bind_some, has_star q n g c2 c3]
              subst c1
              rw [hI]
              simp
            · rw [if_neg c3]
          · rw [if_neg c2]
        · rw [if_neg c1]
      rw [e4]
      simp only [postbaglaw4_SpanEither.j4]
      rw [if_neg (by simp), w64n i (by omega)]
      have nx := ih (i + 1) k (by omega) (by omega)
      cases is with
      | false => rw [if_neg (by simp)]; exact nx
      | true =>
        obtain ⟨_, b1, b2, b3, b4⟩ := has_in a _ hx n g hI
        rw [if_pos rfl, if_neg (by omega), if_neg (by omega), if_neg (by show ¬ p < 0; exact Int.not_lt.2 b3), if_neg (by exact Int.not_lt.2 b4)]
        exact nx
    · rw [decide_eq_false h2]
      exact fin _ _ (by omega)
theorem either_true (a b : List S28) (n g : Int) (ha : a.length ≤ 8796093022207) (hb : b.length ≤ 8796093022207) : postbaglaw4_SpanEither.f 20000 a b n g = some true := by
  unfold postbaglaw4_SpanEither.f
  have hw : wrap64 ((a.length : Int) + (b.length : Int)) = (a.length : Int) + (b.length : Int) := by unfold wrap64; omega
  rw [hw]
  by_cases hl : (a.length : Int) + (b.length : Int) > 3000
  · rw [if_pos hl]
  · rw [if_neg hl]
    simp only [Option.bind_some, List.nil_append, List.length_nil, has_f]
    rw [if_pos (by omega), if_pos (by omega), has_append]
    have key : postbaglaw4_SpanEither.j0 20000 a n g false = some true := by
      rw [show (20000 : Nat) = 19999 + 1 from rfl]
      simp only [postbaglaw4_SpanEither.j0]
      rw [if_neg (by simp)]
      exact either_l0 a n g (by omega) a.length 0 19999 (by omega) (by omega)
    cases h1 : hasB a n g with
    | true => rw [if_pos rfl]; simpa using key
    | false => rw [if_neg (by simp)]; simpa using key
end Go.Proofs.YtidcchopmbodkaaDoor.Sp
namespace Go.Proofs.YtidcchopmbodkaaDoor.Pure
open Go.Proofs.YtidcchopmbodkaaDoor.Sp
theorem bytes28 : Tryd.prog.bytesOf 28 = 16 := by kernel_rfl
theorem SpanEither (a b : List S28) (n g : Int) {P Q R S : Prop} (ha : P ∧ a.length * Tryd.prog.bytesOf 28 ≤ 140737488351232) (hb : Q ∧ b.length * Tryd.prog.bytesOf 28 ≤ 140737488351232) (_ : R) (_ : S) : ∃ k, postbaglaw4_SpanEither.f k a b n g = some true := by
  rw [bytes28] at ha hb
  exact ⟨_, either_true a b n g (by omega) (by omega)⟩
end Go.Proofs.YtidcchopmbodkaaDoor.Pure
