/- What the printed functions of the program's span package answer, plainly. -/
import Derived.Test.YtidcchopmbodkaaDoorPSpanLeast
import Derived.Test.YtidcchopmbodkaaDoorPSpanOf
import Derived.Test.YtidcchopmbodkaaDoorPPostbaglaw4Rises
import Derived.Test.YtidcchopmbodkaaDoorPPostbaglaw4Same
import Derived.Test.YtidcchopmbodkaaDoorPPostbaglaw4Alike
import Derived.Test.YtidcchopmbodkaaDoorUn
import Derived.Test.YtidcchopmbodkaaDoorHs
namespace Go.Proofs.YtidcchopmbodkaaDoor.Sp
open Go.RowKit Go.Proofs.YtidcchopmbodkaaDoorW.PrintWords Go.Proofs.YtidcchopmbodkaaDoorW.PrintLast Go.Proofs.YtidcchopmbodkaaDoorW.PrintMore
open Canon

theorem w64n (i : Nat) (h : i < 4611686018427387904) : wrap64 ((i : Int) + 1) = ((i + 1 : Nat) : Int) := by unfold wrap64; omega
theorem rd_at (l : List Int) (i : Nat) (h : i < l.length) : rd l (i : Int) = l[i] := by
  unfold rd
  rw [List.getD_eq_getElem?_getD, show ((i : Int)).toNat = i from by omega, List.getElem?_eq_getElem h]
  rfl
theorem rd28_at (l : List S28) (i : Nat) (h : i < l.length) : rd_T28 l (i : Int) = l[i] := by
  unfold rd_T28
  rw [List.getD_eq_getElem?_getD, show ((i : Int)).toNat = i from by omega, List.getElem?_eq_getElem h]
  rfl
def okN (n : Int) : Bool := decide (1 ≤ n) && decide (n ≤ 4294967295)
def dup (n : Int) : S28 := ⟨n, n⟩
theorem mn_eq (a b : Int) : mn a b = min a b := by unfold mn; split <;> omega
theorem mx_eq (a b : Int) : mx a b = max a b := by unfold mx; split <;> omega
theorem pr_un (l : List Rg) : (l.map un).map pr = l := by rw [List.map_map]; exact (List.map_congr_left fun x _ => rfl).trans (List.map_id l)
theorem un_pr (l : List S28) : (l.map pr).map un = l := by rw [List.map_map]; exact (List.map_congr_left fun x _ => rfl).trans (List.map_id l)

/-- What Least answers. -/
def leastA (l : List Int) : List S28 := (canon (((l.filter okN).map dup).map pr)).map un
theorem least_l0 (l : List Int) (hl : l.length ≤ 8000000000000) (d : Nat) : ∀ (i k : Nat) (acc : List S28), i + d = l.length → acc.length ≤ i → d < k →
    span_Least.l0 k acc l (l.length : Int) (i : Int) = span_united.f (acc ++ ((l.drop i).filter okN).map dup) := by
  induction d with
  | zero =>
    intro i k acc hi ha hk
    obtain ⟨k, rfl⟩ : ∃ j, k = j + 1 := ⟨k - 1, by omega⟩
    simp only [span_Least.l0]
    rw [if_neg (by omega), List.drop_of_length_le (by omega)]
    simp only [List.filter_nil, List.map_nil, List.append_nil]
    cases span_united.f acc <;> rfl
  | succ d ih =>
    intro i k acc hi ha hk
    obtain ⟨k, rfl⟩ : ∃ j, k = j + 1 := ⟨k - 1, by omega⟩
    simp only [span_Least.l0]
    rw [if_pos (by omega), if_pos (by omega), if_pos (by omega), rd_at l i (by omega), w64n i (by omega), List.drop_eq_getElem_cons (show i < l.length by omega)]
    generalize l[i] = n
    by_cases h1 : n ≥ 1
    · rw [if_pos h1]
      by_cases h2 : n ≤ 4294967295
      · rw [if_pos h2, if_pos (by omega), ih (i + 1) k _ (by omega) (by simp; omega) (by omega)]
        rw [List.filter_cons_of_pos (by simp [okN]; omega), List.map_cons, List.append_assoc]
        rfl
      · rw [if_neg h2, ih (i + 1) k _ (by omega) (by omega) (by omega), List.filter_cons_of_neg (by simp [okN]; omega)]
    · rw [if_neg h1, ih (i + 1) k _ (by omega) (by omega) (by omega), List.filter_cons_of_neg (by simp [okN]; omega)]
theorem least_f (l : List Int) (hl : l.length ≤ 8000000000000) (k : Nat) (hk : l.length < k) : span_Least.f k l = some (leastA l) := by
  unfold span_Least.f
  have := least_l0 l hl l.length 0 k [] (by omega) (by simp) hk
  rw [List.nil_append, List.drop_zero] at this
  refine Eq.trans this ?_
  unfold span_united.f
  rw [if_pos]
  · rfl
  · constructor
    · rw [List.length_map]; have := List.length_filter_le okN l; omega
    · rw [List.all_eq_true]
      intro x hx
      obtain ⟨n, hn, rfl⟩ := List.mem_map.1 hx
      have := (List.mem_filter.1 hn).2
      simp only [okN, Bool.and_eq_true, decide_eq_true_eq] at this
      show (decide (0 ≤ n) && (decide (n ≤ n) && decide (n ≤ 4294967295))) = true
      simp
      omega

/-- What Of answers. -/
def hasB (l : List S28) (n g : Int) : Bool := if g < 1 ∨ n < 1 then false else l.any (pieceB n g)
theorem has_f (l : List S28) (n g : Int) : span_Has.f l n g = some (hasB l n g) := rfl
def lastN (l : List Int) : Int := l.getLast?.getD 0
theorem last_rd (l : List Int) (h : 0 < l.length) (hl : l.length ≤ 8000000000000) : rd l (wrap64 ((l.length : Int) - 1)) = lastN l ∧ 0 ≤ wrap64 ((l.length : Int) - 1) ∧ wrap64 ((l.length : Int) - 1) < (l.length : Int) := by
  have e : wrap64 ((l.length : Int) - 1) = ((l.length - 1 : Nat) : Int) := by unfold wrap64; omega
  rw [e, rd_at l _ (by omega)]
  refine ⟨?_, by omega, by omega⟩
  unfold lastN
  rw [List.getLast?_eq_getElem?, List.getElem?_eq_getElem (by omega)]
  rfl
def ofA (s : List S28) (l : List Int) : List Int := l.filter fun n => hasB s n (lastN l)
theorem of_l0 (s : List S28) (l : List Int) (hl : l.length ≤ 8000000000000) (d : Nat) : ∀ (i k : Nat) (acc : List Int), i + d = l.length → acc.length ≤ i → d < k →
    span_Of.l0 k s l acc l (l.length : Int) (i : Int) = some (acc ++ (l.drop i).filter fun n => hasB s n (lastN l)) := by
  induction d with
  | zero =>
    intro i k acc hi ha hk
    obtain ⟨k, rfl⟩ : ∃ j, k = j + 1 := ⟨k - 1, by omega⟩
    simp only [span_Of.l0]
    rw [if_neg (by omega), List.drop_of_length_le (by omega)]
    simp
  | succ d ih =>
    intro i k acc hi ha hk
    obtain ⟨k, rfl⟩ : ∃ j, k = j + 1 := ⟨k - 1, by omega⟩
    obtain ⟨e1, e2, e3⟩ := last_rd l (by omega) hl
    simp only [span_Of.l0]
    rw [if_pos (by omega), if_pos (by omega), if_pos (by omega), if_pos e2, if_pos e3, e1, rd_at l i (by omega), w64n i (by omega), has_f, Option.bind_some, List.drop_eq_getElem_cons (show i < l.length by omega)]
    generalize l[i] = n
    by_cases h1 : hasB s n (lastN l) = true
    · rw [if_pos h1, if_pos (by omega), ih (i + 1) k _ (by omega) (by simp; omega) (by omega), List.append_assoc]
      simp only [List.filter_cons, h1, if_true, List.singleton_append]
    · rw [if_neg h1, ih (i + 1) k _ (by omega) (by omega) (by omega)]
      simp only [List.filter_cons, if_neg h1]
theorem of_f (s : List S28) (l : List Int) (hl : l.length ≤ 8000000000000) (k : Nat) (hk : l.length < k) : span_Of.f k s l = some (ofA s l) := by
  unfold span_Of.f
  have := of_l0 s l hl l.length 0 k [] (by omega) (by simp) hk
  rw [List.nil_append, List.drop_zero] at this
  exact this

theorem same_l0 (a b : List S28) (hab : a.length = b.length) (hl : a.length ≤ 8000000000000) (d : Nat) : ∀ (i k : Nat), i + d = a.length → d < k →
    postbaglaw4_same.l0 k a b (i : Int) = some (decide ((a.drop i).map pr = (b.drop i).map pr)) := by
  induction d with
  | zero =>
    intro i k hi hk
    obtain ⟨k, rfl⟩ : ∃ j, k = j + 1 := ⟨k - 1, by omega⟩
    simp only [postbaglaw4_same.l0]
    rw [if_neg (by omega), List.drop_of_length_le (by omega), List.drop_of_length_le (by omega)]
    simp
  | succ d ih =>
    intro i k hi hk
    obtain ⟨k, rfl⟩ : ∃ j, k = j + 1 := ⟨k - 1, by omega⟩
    simp only [postbaglaw4_same.l0]
    rw [if_pos (by omega), if_pos (by omega), if_pos (by omega), rd28_at a i (by omega), rd28_at b i (by omega), w64n i (by omega), List.drop_eq_getElem_cons (show i < a.length by omega), List.drop_eq_getElem_cons (show i < b.length by omega)]
    generalize a[i] = x
    generalize b[i] = y
    by_cases h : pr x = pr y
    · have h1 : x.f0 = y.f0 := congrArg Prod.fst h
      have h2 : x.f1 = y.f1 := congrArg Prod.snd h
      rw [if_neg (by simp [h1, h2]), ih (i + 1) k (by omega) (by omega)]
      simp [h]
    · rw [if_pos, decide_eq_false]
      · intro e
        rw [List.map_cons, List.map_cons] at e
        exact h (List.cons.inj e).1
      · by_cases h1 : x.f0 = y.f0
        · by_cases h2 : x.f1 = y.f1
          · exact absurd (Prod.ext h1 h2) h
          · simp [h2]
        · simp [h1]
theorem same_f (a b : List S28) (hl : a.length ≤ 8000000000000) (k : Nat) (hk : a.length < k) : postbaglaw4_same.f k a b = some (decide (a.map pr = b.map pr)) := by
  unfold postbaglaw4_same.f
  by_cases h : a.length = b.length
  · rw [if_pos (by omega)]
    exact same_l0 a b h hl a.length 0 k (by omega) hk
  · rw [if_neg (by omega), decide_eq_false]
    intro e
    have := congrArg List.length e
    simp at this
    exact h this
theorem pr_inj {a b : List S28} : a.map pr = b.map pr ↔ a = b := by
  constructor
  · intro h
    have := congrArg (List.map un) h
    rwa [un_pr, un_pr] at this
  · rintro rfl; rfl
theorem alike_l0 (a b : List Int) (hab : a.length = b.length) (hl : a.length ≤ 8000000000000) (d : Nat) : ∀ (i k : Nat), i + d = a.length → d < k →
    postbaglaw4_alike.l0 k a b (i : Int) = some (decide (a.drop i = b.drop i)) := by
  induction d with
  | zero =>
    intro i k hi hk
    obtain ⟨k, rfl⟩ : ∃ j, k = j + 1 := ⟨k - 1, by omega⟩
    simp only [postbaglaw4_alike.l0]
    rw [if_neg (by omega), List.drop_of_length_le (by omega), List.drop_of_length_le (by omega)]
    simp
  | succ d ih =>
    intro i k hi hk
    obtain ⟨k, rfl⟩ : ∃ j, k = j + 1 := ⟨k - 1, by omega⟩
    simp only [postbaglaw4_alike.l0]
    rw [if_pos (by omega), if_pos (by omega), if_pos (by omega), rd_at a i (by omega), rd_at b i (by omega), w64n i (by omega), List.drop_eq_getElem_cons (show i < a.length by omega), List.drop_eq_getElem_cons (show i < b.length by omega)]
    generalize a[i] = x
    generalize b[i] = y
    by_cases h : x = y
    · rw [if_pos h, ih (i + 1) k (by omega) (by omega)]
      simp [h]
    · rw [if_neg h, decide_eq_false]
      intro e
      exact h (List.cons.inj e).1
theorem alike_f (a b : List Int) (hl : a.length ≤ 8000000000000) (k : Nat) (hk : a.length < k) : postbaglaw4_alike.f k a b = some (decide (a = b)) := by
  unfold postbaglaw4_alike.f
  by_cases h : a.length = b.length
  · rw [if_pos (by omega)]
    exact alike_l0 a b h hl a.length 0 k (by omega) hk
  · rw [if_neg (by omega), decide_eq_false]
    intro e
    exact h (congrArg List.length e)

theorem rises_l0 (l : List S28) (hl : l.length ≤ 8000000000000) (hr : Rises (l.map pr)) (hb : ∀ x ∈ l, 1 ≤ x.f0 ∧ x.f1 ≤ 4294967295) (d : Nat) : ∀ (i k : Nat), i + d = l.length → d < k → postbaglaw4_rises.l0 k l (i : Int) = some true := by
  induction d with
  | zero =>
    intro i k hi hk
    obtain ⟨k, rfl⟩ : ∃ j, k = j + 1 := ⟨k - 1, by omega⟩
    simp only [postbaglaw4_rises.l0]
    rw [if_neg (by omega)]
  | succ d ih =>
    intro i k hi hk
    obtain ⟨k, rfl⟩ : ∃ j, k = j + 1 := ⟨k - 1, by omega⟩
    have hil : i < l.length := by omega
    have hx := hb l[i] (List.getElem_mem hil)
    have hx2 : l[i].f0 ≤ l[i].f1 := hr.1 (pr l[i]) (List.mem_map.2 ⟨_, List.getElem_mem hil, rfl⟩)
    simp only [postbaglaw4_rises.l0]
    rw [if_pos (by omega), if_pos (by omega), rd28_at l i hil, w64n i (by omega), if_neg (by omega), if_neg (by omega), if_neg (by omega)]
    by_cases h0 : i = 0
    · rw [if_neg (by omega)]
      exact ih (i + 1) k (by omega) (by omega)
    · have e : wrap64 ((i : Int) - 1) = ((i - 1 : Nat) : Int) := by unfold wrap64; omega
      have hp : i - 1 < l.length := by omega
      have hy := hb l[i - 1] (List.getElem_mem hp)
      have hy2 : l[i - 1].f0 ≤ l[i - 1].f1 := hr.1 (pr l[i - 1]) (List.mem_map.2 ⟨_, List.getElem_mem hp, rfl⟩)
      have hlt : (pr l[i - 1]).2 + 1 < (pr l[i]).1 := by
        have := List.pairwise_iff_getElem.1 hr.2 (i - 1) i (by simpa using hp) (by simpa using hil) (by omega)
        simpa using this
      have hlt' : l[i - 1].f1 + 1 < l[i].f0 := hlt
      rw [if_pos (by omega), e, if_pos (by omega), if_pos (by omega), rd28_at l (i - 1) hp, if_neg (by unfold wrap64; omega)]
      exact ih (i + 1) k (by omega) (by omega)
theorem rises_f (l : List S28) (hl : l.length ≤ 8000000000000) (hr : Rises (l.map pr)) (hb : ∀ x ∈ l, 1 ≤ x.f0 ∧ x.f1 ≤ 4294967295) (k : Nat) (hk : l.length < k) : postbaglaw4_rises.f k l = some true :=
  rises_l0 l hl hr hb l.length 0 k (by omega) hk
end Go.Proofs.YtidcchopmbodkaaDoor.Sp
