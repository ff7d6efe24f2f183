/- Lists of pieces of the form: what they have, how long they are, how many numbers they have. -/
import Derived.Test.YtidcchopmbodkaaDoorTa
namespace Go.Proofs.YtidcchopmbodkaaDoor.Sp
open Go.RowKit Go.Proofs.YtidcchopmbodkaaDoorW.PrintWords Go.Proofs.YtidcchopmbodkaaDoorW.PrintLast Go.Proofs.YtidcchopmbodkaaDoorW.PrintMore
open Canon

theorem putL_len : ∀ (l m behind : List Rg) (a b : Int), (putL l m behind a b).length ≤ l.length + m.length + behind.length + 1
  | [], m, behind, a, b => by simp [putL]; omega
  | s :: l, m, behind, a, b => by
    unfold putL
    split
    · have := putL_len l (m ++ [s]) behind a b; simp at this ⊢; omega
    · split
      · have := putL_len l m (behind ++ [s]) a b; simp at this ⊢; omega
      · have := putL_len l m behind (min a s.1) (max b s.2); simp at this ⊢; omega
theorem canon_len (l : List Rg) : (canon l).length ≤ l.length := by
  have key : ∀ (l acc : List Rg), (l.foldl (fun acc r => put acc r.1 r.2) acc).length ≤ acc.length + l.length := by
    intro l
    induction l with
    | nil => intro acc; simp
    | cons r l ih =>
      intro acc
      have h1 := ih (put acc r.1 r.2)
      have h2 := putL_len acc [] [] r.1 r.2
      have h3 : (put acc r.1 r.2).length ≤ acc.length + 1 := by simpa [put] using h2
      simp only [List.foldl_cons, List.length_cons]
      omega
  have := key l []
  simpa [canon] using this
/-- A list of the form: rising pieces of numbers that may be. -/
structure Form (A : List S28) : Prop where
  rises : Rises (A.map pr)
  ends : ∀ x ∈ A, 1 ≤ x.f0 ∧ x.f1 ≤ 4294967295
theorem Form.le {A : List S28} (h : Form A) (x : S28) (hx : x ∈ A) : x.f0 ≤ x.f1 := h.rises.1 (pr x) (List.mem_map.2 ⟨x, hx, rfl⟩)
theorem mem_pr (A : List S28) (n : Int) : Mem (A.map pr) n ↔ ∃ x ∈ A, x.f0 ≤ n ∧ n ≤ x.f1 := by
  constructor
  · rintro ⟨r, hr, h⟩
    obtain ⟨x, hx, rfl⟩ := List.mem_map.1 hr
    exact ⟨x, hx, h⟩
  · rintro ⟨x, hx, h⟩
    exact ⟨pr x, List.mem_map.2 ⟨x, hx, rfl⟩, h⟩
theorem piece_plain (x : S28) (n g : Int) (h1 : 1 ≤ x.f0) (h2 : x.f0 ≤ x.f1) (h3 : x.f1 ≤ 4294967295) : pieceB n g x = decide (x.f0 ≤ n ∧ n ≤ x.f1) := by
  unfold pieceB rngB isE
  rw [if_neg (by omega), if_neg (by omega), Bool.eq_iff_iff]
  simp
  omega
theorem has_form {A : List S28} (h : Form A) (n g : Int) (hg : 1 ≤ g) (hn : 1 ≤ n) : hasB A n g = true ↔ Mem (A.map pr) n := by
  unfold hasB
  rw [if_neg (by omega), List.any_eq_true, mem_pr]
  constructor
  · rintro ⟨x, hx, hp⟩
    rw [piece_plain x n g (h.ends x hx).1 (h.le x hx) (h.ends x hx).2] at hp
    exact ⟨x, hx, of_decide_eq_true hp⟩
  · rintro ⟨x, hx, hp⟩
    exact ⟨x, hx, by rw [piece_plain x n g (h.ends x hx).1 (h.le x hx) (h.ends x hx).2]; exact decide_eq_true hp⟩
theorem form_canon (l : List Rg) (hl : ∀ r ∈ l, 1 ≤ r.1 ∧ r.1 ≤ r.2 ∧ r.2 ≤ 4294967295) : Form ((canon l).map un) ∧ ∀ n, Mem (((canon l).map un).map pr) n ↔ Mem l n := by
  obtain ⟨h1, h2⟩ := canon_ok l fun r hr => (hl r hr).2.1
  refine ⟨⟨by rw [pr_un]; exact h1, fun x hx => ?_⟩, fun n => by rw [pr_un]; exact h2 n⟩
  obtain ⟨r, hr, rfl⟩ := List.mem_map.1 hx
  have hle := h1.1 r hr
  obtain ⟨s, hs, k1, k2⟩ := (h2 r.1).1 ⟨r, hr, by omega, by omega⟩
  obtain ⟨t, ht, k3, k4⟩ := (h2 r.2).1 ⟨r, hr, by omega, by omega⟩
  have := hl s hs
  have := hl t ht
  exact ⟨by show 1 ≤ r.1; omega, by show r.2 ≤ 4294967295; omega⟩
theorem least_form (l : List Int) : Form (leastA l) ∧ (∀ n, Mem ((leastA l).map pr) n ↔ n ∈ l ∧ okN n = true) ∧ (leastA l).length ≤ l.length := by
  have hl : ∀ r ∈ ((l.filter okN).map dup).map pr, 1 ≤ r.1 ∧ r.1 ≤ r.2 ∧ r.2 ≤ 4294967295 := by
    intro r hr
    obtain ⟨x, hx, rfl⟩ := List.mem_map.1 hr
    obtain ⟨n, hn, rfl⟩ := List.mem_map.1 hx
    have := (List.mem_filter.1 hn).2
    simp [okN] at this
    exact ⟨this.1, Int.le_refl _, this.2⟩
  obtain ⟨h1, h2⟩ := form_canon _ hl
  refine ⟨h1, fun n => (h2 n).trans ?_, ?_⟩
  · constructor
    · rintro ⟨r, hr, k1, k2⟩
      obtain ⟨x, hx, rfl⟩ := List.mem_map.1 hr
      obtain ⟨m, hm, rfl⟩ := List.mem_map.1 hx
      have e : n = m := by have k1 : m ≤ n := k1; have k2 : n ≤ m := k2; omega
      subst e
      exact List.mem_filter.1 hm
    · intro h
      exact ⟨pr (dup n), List.mem_map.2 ⟨dup n, List.mem_map.2 ⟨n, List.mem_filter.2 h, rfl⟩, rfl⟩, Int.le_refl _, Int.le_refl _⟩
  · show ((canon _).map un).length ≤ _
    rw [List.length_map]
    refine Nat.le_trans (canon_len _) ?_
    rw [List.length_map, List.length_map]
    exact List.length_filter_le _ _

/-! the numbers of a list of the form, one by one -/
def upto (a : Int) (k : Nat) : List Int := (List.range k).map fun i : Nat => a + (i : Int)
theorem mem_upto (a : Int) (k : Nat) (n : Int) : n ∈ upto a k ↔ a ≤ n ∧ n < a + k := by
  unfold upto
  rw [List.mem_map]
  constructor
  · rintro ⟨i, hi, rfl⟩
    have := List.mem_range.1 hi
    omega
  · rintro ⟨h1, h2⟩
    exact ⟨(n - a).toNat, List.mem_range.2 (by omega), by omega⟩
theorem nodup_upto (a : Int) (k : Nat) : (upto a k).Nodup := by
  unfold upto
  rw [List.Nodup, List.pairwise_map]
  exact (List.nodup_range (n := k)).imp fun h e => h (by omega)
def allOf (A : List S28) : List Int := A.flatMap fun x => upto x.f0 (x.f1 - x.f0 + 1).toNat
def sumOf (A : List S28) : Int := (A.map fun x => x.f1 - x.f0 + 1).sum
theorem allOf_mem (A : List S28) (n : Int) : n ∈ allOf A ↔ Mem (A.map pr) n := by
  unfold allOf
  rw [List.mem_flatMap, mem_pr]
  constructor
  · rintro ⟨x, hx, h⟩
    rw [mem_upto] at h
    exact ⟨x, hx, by omega, by omega⟩
  · rintro ⟨x, hx, h⟩
    exact ⟨x, hx, by rw [mem_upto]; omega⟩
theorem allOf_len (A : List S28) (h : ∀ x ∈ A, x.f0 ≤ x.f1) : ((allOf A).length : Int) = sumOf A := by
  induction A with
  | nil => rfl
  | cons x A ih =>
    have e1 : (allOf (x :: A)).length = (x.f1 - x.f0 + 1).toNat + (allOf A).length := by
      show (upto x.f0 (x.f1 - x.f0 + 1).toNat ++ allOf A).length = _
      rw [List.length_append]
      simp [upto]
    have e2 : sumOf (x :: A) = (x.f1 - x.f0 + 1) + sumOf A := by simp [sumOf]
    have := h x (by simp)
    rw [e1, e2, ← ih fun y hy => h y (by simp [hy])]
    omega
theorem allOf_nodup (A : List S28) (h : Rises (A.map pr)) : (allOf A).Nodup := by
  induction A with
  | nil => exact List.Pairwise.nil
  | cons x A ih =>
    obtain ⟨h1, h2, h3⟩ := (rises_cons (pr x) (A.map pr)).1 h
    show (upto x.f0 (x.f1 - x.f0 + 1).toNat ++ allOf A).Nodup
    rw [List.nodup_append]
    refine ⟨nodup_upto _ _, ih h3, fun a ha b hb e => ?_⟩
    subst e
    rw [mem_upto] at ha
    rw [allOf_mem] at hb
    obtain ⟨r, hr, k1, _⟩ := hb
    have h4 : x.f1 + 1 < r.1 := h2 r hr
    omega
theorem sum_count (A : List S28) (h : Form A) (u : List Int) (hu : u.Nodup) (hm : ∀ n, n ∈ u ↔ Mem (A.map pr) n) : sumOf A = u.length := by
  rw [← allOf_len A h.le]
  have : (allOf A).Perm u := (List.perm_ext_iff_of_nodup (allOf_nodup A h.rises) hu).2 fun n => by rw [allOf_mem, hm]
  rw [this.length_eq]
end Go.Proofs.YtidcchopmbodkaaDoor.Sp
