/- Plain facts on lists of pieces: two lists that rise with a number missing between each two, and that have the same numbers, are one list; putting a piece among such a list, and gluing a sorted list together, give such a list of the numbers of both. No program. -/
namespace Go.Proofs.YtidcchopmbodkaaDoor.Canon
abbrev Rg := Int × Int
def Mem (l : List Rg) (n : Int) : Prop := ∃ r ∈ l, r.1 ≤ n ∧ n ≤ r.2
def Rises (l : List Rg) : Prop := (∀ r ∈ l, r.1 ≤ r.2) ∧ l.Pairwise fun a b => a.2 + 1 < b.1

theorem mem_nil (n : Int) : ¬ Mem [] n := by rintro ⟨r, h, _⟩; simp at h
theorem mem_cons (r : Rg) (l : List Rg) (n : Int) : Mem (r :: l) n ↔ (r.1 ≤ n ∧ n ≤ r.2) ∨ Mem l n := by
  constructor
  · rintro ⟨s, hs, h⟩
    rcases List.mem_cons.1 hs with rfl | hs
    · exact Or.inl h
    · exact Or.inr ⟨s, hs, h⟩
  · rintro (h | ⟨s, hs, h⟩)
    · exact ⟨r, by simp, h⟩
    · exact ⟨s, by simp [hs], h⟩
theorem mem_append (l m : List Rg) (n : Int) : Mem (l ++ m) n ↔ Mem l n ∨ Mem m n := by
  constructor
  · rintro ⟨s, hs, h⟩
    rcases List.mem_append.1 hs with hs | hs
    · exact Or.inl ⟨s, hs, h⟩
    · exact Or.inr ⟨s, hs, h⟩
  · rintro (⟨s, hs, h⟩ | ⟨s, hs, h⟩)
    · exact ⟨s, by simp [hs], h⟩
    · exact ⟨s, by simp [hs], h⟩
theorem rises_cons (r : Rg) (l : List Rg) : Rises (r :: l) ↔ r.1 ≤ r.2 ∧ (∀ s ∈ l, r.2 + 1 < s.1) ∧ Rises l := by
  unfold Rises
  rw [List.pairwise_cons]
  constructor
  · rintro ⟨h1, h2, h3⟩
    exact ⟨h1 r (by simp), h2, fun s hs => h1 s (by simp [hs]), h3⟩
  · rintro ⟨h1, h2, h3, h4⟩
    refine ⟨fun s hs => ?_, h2, h4⟩
    rcases List.mem_cons.1 hs with rfl | hs
    · exact h1
    · exact h3 s hs
theorem rises_append (l m : List Rg) : Rises (l ++ m) ↔ Rises l ∧ Rises m ∧ ∀ a ∈ l, ∀ b ∈ m, a.2 + 1 < b.1 := by
  unfold Rises
  rw [List.pairwise_append]
  constructor
  · rintro ⟨h1, h2, h3, h4⟩
    exact ⟨⟨fun s hs => h1 s (by simp [hs]), h2⟩, ⟨fun s hs => h1 s (by simp [hs]), h3⟩, h4⟩
  · rintro ⟨⟨h1, h2⟩, ⟨h3, h4⟩, h5⟩
    refine ⟨fun s hs => ?_, h2, h4, h5⟩
    rcases List.mem_append.1 hs with hs | hs
    · exact h1 s hs
    · exact h3 s hs
theorem rises_nil : Rises [] := ⟨fun r h => by simp at h, List.Pairwise.nil⟩

/-- The numbers of a list that rises tell the list. -/
theorem rises_unique : ∀ (l m : List Rg), Rises l → Rises m → (∀ n, Mem l n ↔ Mem m n) → l = m
  | [], [], _, _, _ => rfl
  | [], s :: m, _, hm, h => by
    have := (rises_cons s m).1 hm
    exact absurd ((h s.1).2 ((mem_cons s m _).2 (Or.inl ⟨by omega, by omega⟩))) (mem_nil _)
  | r :: l, [], hl, _, h => by
    have := (rises_cons r l).1 hl
    exact absurd ((h r.1).1 ((mem_cons r l _).2 (Or.inl ⟨by omega, by omega⟩))) (mem_nil _)
  | r :: l, s :: m, hl, hm, h => by
    obtain ⟨a1, a2, a3⟩ := (rises_cons r l).1 hl
    obtain ⟨b1, b2, b3⟩ := (rises_cons s m).1 hm
    have inl : ∀ n, Mem l n → r.2 + 1 < n := fun n ⟨t, ht, h1, h2⟩ => by have := a2 t ht; omega
    have inm : ∀ n, Mem m n → s.2 + 1 < n := fun n ⟨t, ht, h1, h2⟩ => by have := b2 t ht; omega
    have f1 : ∀ n, (r.1 ≤ n ∧ n ≤ r.2) ∨ Mem l n ↔ (s.1 ≤ n ∧ n ≤ s.2) ∨ Mem m n := fun n => by rw [← mem_cons, ← mem_cons]; exact h n
    have e1 : s.1 ≤ r.1 := by
      rcases (f1 r.1).1 (Or.inl ⟨by omega, by omega⟩) with h1 | h1
      · exact h1.1
      · have := inm _ h1; omega
    have e2 : r.1 ≤ s.1 := by
      rcases (f1 s.1).2 (Or.inl ⟨by omega, by omega⟩) with h1 | h1
      · exact h1.1
      · have := inl _ h1; omega
    have e3 : s.2 ≤ r.2 := by
      by_cases hc : s.2 ≤ r.2
      · exact hc
      · rcases (f1 (r.2 + 1)).2 (Or.inl ⟨by omega, by omega⟩) with h1 | h1
        · omega
        · have := inl _ h1; omega
    have e4 : r.2 ≤ s.2 := by
      by_cases hc : r.2 ≤ s.2
      · exact hc
      · rcases (f1 (s.2 + 1)).1 (Or.inl ⟨by omega, by omega⟩) with h1 | h1
        · omega
        · have := inm _ h1; omega
    have e : r = s := Prod.ext (by omega) (by omega)
    subst e
    rw [rises_unique l m a3 b3 fun n => ?_]
    constructor
    · intro hn
      rcases (f1 n).1 (Or.inr hn) with h1 | h1
      · have := inl _ hn; omega
      · exact h1
    · intro hn
      rcases (f1 n).2 (Or.inr hn) with h1 | h1
      · have := inm _ hn; omega
      · exact h1

/-- The document's loop of put: those behind which the piece lies, those behind it, and what it has grown to. -/
def putL : List Rg → List Rg → List Rg → Int → Int → List Rg
  | [], m, behind, a, b => m ++ [(a, b)] ++ behind
  | s :: l, m, behind, a, b => if s.2 < a - 1 then putL l (m ++ [s]) behind a b else if s.1 > b + 1 then putL l m (behind ++ [s]) a b else putL l m behind (min a s.1) (max b s.2)
def put (l : List Rg) (a b : Int) : List Rg := putL l [] [] a b

theorem putL_ok : ∀ (l m behind : List Rg) (a b : Int), a ≤ b → Rises l → Rises (m ++ [(a, b)] ++ behind) → (∀ r ∈ m, ∀ s ∈ l, r.2 + 1 < s.1) → (∀ r ∈ behind, ∀ s ∈ l, r.2 + 1 < s.1) →
    Rises (putL l m behind a b) ∧ ∀ n, Mem (putL l m behind a b) n ↔ Mem (m ++ [(a, b)] ++ behind) n ∨ Mem l n
  | [], m, behind, a, b, hab, hl, hr, hm, hb => ⟨hr, fun n => ⟨fun h => Or.inl h, fun h => h.elim id fun h => absurd h (mem_nil _)⟩⟩
  | s :: l, m, behind, a, b, hab, hl, hr, hm, hb => by
    obtain ⟨a1, a2, a3⟩ := (rises_cons s l).1 hl
    obtain ⟨c1, c2, c3⟩ := (rises_append (m ++ [(a, b)]) behind).1 hr
    obtain ⟨d1, d2, d3⟩ := (rises_append m [(a, b)]).1 c1
    have dm : ∀ r ∈ m, r.2 + 1 < a := fun r h => d3 r h (a, b) (by simp)
    have db : ∀ r ∈ behind, b + 1 < r.1 := fun r h => c3 (a, b) (by simp) r h
    have mb : ∀ r ∈ m, ∀ t ∈ behind, r.2 + 1 < t.1 := fun r h t ht => c3 r (by simp [h]) t ht
    unfold putL
    split
    · rename_i h1
      have hr' : Rises (m ++ [s] ++ [(a, b)] ++ behind) := by
        refine (rises_append _ _).2 ⟨(rises_append _ _).2 ⟨(rises_append _ _).2 ⟨d1, (rises_cons _ _).2 ⟨a1, by simp, rises_nil⟩, ?_⟩, d2, ?_⟩, c2, ?_⟩
        · intro r h t ht; rw [List.mem_singleton] at ht; subst ht; exact hm r h _ (by simp)
        · intro r h t ht; rw [List.mem_singleton] at ht; subst ht
          rcases List.mem_append.1 h with h | h
          · exact dm r h
          · rw [List.mem_singleton] at h; subst h; show r.2 + 1 < a; omega
        · intro r h t ht
          rcases List.mem_append.1 h with h | h
          · rcases List.mem_append.1 h with h | h
            · exact mb r h t ht
            · rw [List.mem_singleton] at h; subst h; have := db t ht; omega
          · rw [List.mem_singleton] at h; subst h; exact db t ht
      obtain ⟨k1, k2⟩ := putL_ok l (m ++ [s]) behind a b hab a3 hr' (fun r h t ht => by
        rcases List.mem_append.1 h with h | h
        · exact hm r h t (by simp [ht])
        · rw [List.mem_singleton] at h; subst h; exact a2 t ht) (fun r h t ht => hb r h t (by simp [ht]))
      refine ⟨k1, fun n => ?_⟩
      rw [k2 n]; simp only [mem_append, mem_cons]; constructor
      · rintro ((((h | h | h) | h) | h) | h) <;> simp [h]
      · rintro (((h | h) | h) | h | h) <;> simp [h]
    · split
      · rename_i h1 h2
        have hr' : Rises (m ++ [(a, b)] ++ (behind ++ [s])) := by
          refine (rises_append _ _).2 ⟨c1, (rises_append _ _).2 ⟨c2, (rises_cons _ _).2 ⟨a1, by simp, rises_nil⟩, ?_⟩, ?_⟩
          · intro r h t ht; rw [List.mem_singleton] at ht; subst ht; exact hb r h _ (by simp)
          · intro r h t ht
            rcases List.mem_append.1 ht with ht | ht
            · exact c3 r h t ht
            · rw [List.mem_singleton] at ht; subst ht
              rcases List.mem_append.1 h with h | h
              · exact hm r h _ (by simp)
              · rw [List.mem_singleton] at h; subst h; show b + 1 < t.1; omega
        obtain ⟨k1, k2⟩ := putL_ok l m (behind ++ [s]) a b hab a3 hr' (fun r h t ht => hm r h t (by simp [ht])) (fun r h t ht => by
          rcases List.mem_append.1 h with h | h
          · exact hb r h t (by simp [ht])
          · rw [List.mem_singleton] at h; subst h; exact a2 t ht)
        refine ⟨k1, fun n => ?_⟩
        rw [k2 n]; simp only [mem_append, mem_cons]; constructor
        · rintro (((h | h) | h | h | h) | h) <;> simp [h]
        · rintro (((h | h) | h) | h | h) <;> simp [h]
      · rename_i h1 h2
        have nob : ∀ r ∈ behind, False := fun r h => by
          have e1 := hb r h s (by simp); have e2 := db r h; have e3 := c2.1 r h; omega
        have eb : behind = [] := by
          cases behind with
          | nil => rfl
          | cons r t => exact absurd (nob r (by simp)) id
        subst eb
        have hr' : Rises (m ++ [(min a s.1, max b s.2)] ++ []) := by
          rw [List.append_nil]
          refine (rises_append _ _).2 ⟨d1, (rises_cons _ _).2 ⟨by show min a s.1 ≤ max b s.2; omega, by simp, rises_nil⟩, ?_⟩
          intro r h t ht; rw [List.mem_singleton] at ht; subst ht
          have e1 := dm r h; have e2 := hm r h s (by simp); show r.2 + 1 < min a s.1; omega
        obtain ⟨k1, k2⟩ := putL_ok l m [] (min a s.1) (max b s.2) (by omega) a3 hr' (fun r h t ht => hm r h t (by simp [ht])) (by simp)
        refine ⟨k1, fun n => ?_⟩
        rw [k2 n]; simp only [mem_append, mem_cons]
        have key : (min a s.1 ≤ n ∧ n ≤ max b s.2) ↔ (a ≤ n ∧ n ≤ b) ∨ (s.1 ≤ n ∧ n ≤ s.2) := by omega
        rw [key]; constructor
        · rintro (((h | (h | h) | h) | h) | h) <;> simp [h]
        · rintro (((h | h | h) | h) | h | h) <;> simp [h]
theorem put_ok (l : List Rg) (a b : Int) (hab : a ≤ b) (hl : Rises l) : Rises (put l a b) ∧ ∀ n, Mem (put l a b) n ↔ (a ≤ n ∧ n ≤ b) ∨ Mem l n := by
  obtain ⟨h1, h2⟩ := putL_ok l [] [] a b hab hl ((rises_cons _ _).2 ⟨hab, by simp, rises_nil⟩) (by simp) (by simp)
  refine ⟨h1, fun n => (h2 n).trans ?_⟩
  simp only [List.nil_append, List.append_nil, mem_cons]
  constructor
  · rintro ((h | h) | h)
    · exact Or.inl h
    · exact absurd h (mem_nil _)
    · exact Or.inr h
  · rintro (h | h)
    · exact Or.inl (Or.inl h)
    · exact Or.inr h

/-- Pieces one behind the other, put together. -/
def canon (l : List Rg) : List Rg := l.foldl (fun acc r => put acc r.1 r.2) []
theorem fold_ok : ∀ (l acc : List Rg), Rises acc → (∀ r ∈ l, r.1 ≤ r.2) → Rises (l.foldl (fun acc r => put acc r.1 r.2) acc) ∧ ∀ n, Mem (l.foldl (fun acc r => put acc r.1 r.2) acc) n ↔ Mem acc n ∨ Mem l n
  | [], acc, h, _ => ⟨h, fun n => ⟨Or.inl, fun h => h.elim id fun h => absurd h (mem_nil _)⟩⟩
  | r :: l, acc, h, hl => by
    obtain ⟨p1, p2⟩ := put_ok acc r.1 r.2 (hl r (by simp)) h
    obtain ⟨q1, q2⟩ := fold_ok l (put acc r.1 r.2) p1 (fun s hs => hl s (by simp [hs]))
    refine ⟨q1, fun n => ?_⟩
    show Mem (l.foldl (fun acc r => put acc r.1 r.2) (put acc r.1 r.2)) n ↔ _
    rw [q2 n, p2 n, mem_cons]
    constructor
    · rintro ((h | h) | h) <;> simp [h]
    · rintro (h | h | h) <;> simp [h]
theorem canon_ok (l : List Rg) (hl : ∀ r ∈ l, r.1 ≤ r.2) : Rises (canon l) ∧ ∀ n, Mem (canon l) n ↔ Mem l n := by
  obtain ⟨h1, h2⟩ := fold_ok l [] rises_nil hl
  exact ⟨h1, fun n => (h2 n).trans ⟨fun h => h.elim (fun h => absurd h (mem_nil _)) id, Or.inr⟩⟩

/-- The program's loop of united: one piece more behind those that stand. -/
def glue (out : List Rg) (r : Rg) : List Rg := match out.getLast? with
  | some e => if r.1 ≤ e.2 + 1 then out.dropLast ++ [(e.1, max e.2 r.2)] else out ++ [r]
  | none => [r]
theorem glue_ok (out : List Rg) (r : Rg) (h : Rises out) (hr : r.1 ≤ r.2) (ho : ∀ s ∈ out, s.1 ≤ r.1) :
    Rises (glue out r) ∧ (∀ n, Mem (glue out r) n ↔ Mem out n ∨ (r.1 ≤ n ∧ n ≤ r.2)) ∧ ∀ t : Int, r.1 ≤ t → ∀ s ∈ glue out r, s.1 ≤ t := by
  unfold glue
  split
  · rename_i e he
    obtain ⟨l, rfl⟩ := List.getLast?_eq_some_iff.1 he
    rw [List.dropLast_concat]
    obtain ⟨a1, a2, a3⟩ := (rises_append _ _).1 h
    have ee : e.1 ≤ e.2 := a2.1 e (by simp)
    have er : e.1 ≤ r.1 := ho e (by simp)
    split
    · rename_i hc
      refine ⟨(rises_append _ _).2 ⟨a1, (rises_cons _ _).2 ⟨by show e.1 ≤ max e.2 r.2; omega, by simp, rises_nil⟩, ?_⟩, fun n => ?_, ?_⟩
      · intro s hs t ht; rw [List.mem_singleton] at ht; subst ht; exact a3 s hs e (by simp)
      · simp only [mem_append, mem_cons]
        have key : (e.1 ≤ n ∧ n ≤ max e.2 r.2) ↔ (e.1 ≤ n ∧ n ≤ e.2) ∨ (r.1 ≤ n ∧ n ≤ r.2) := by omega
        rw [key]; constructor
        · rintro (h | (h | h) | h) <;> simp [h]
        · rintro ((h | h | h) | h) <;> simp [h]
      · intro t ht s hs
        rcases List.mem_append.1 hs with hs | hs
        · have := ho s (by simp [hs]); omega
        · rw [List.mem_singleton] at hs; subst hs; show e.1 ≤ t; omega
    · rename_i hc
      refine ⟨(rises_append _ _).2 ⟨h, (rises_cons _ _).2 ⟨hr, by simp, rises_nil⟩, ?_⟩, fun n => ?_, ?_⟩
      · intro s hs t ht; rw [List.mem_singleton] at ht; subst ht
        rcases List.mem_append.1 hs with hs | hs
        · have := a3 s hs e (by simp); omega
        · rw [List.mem_singleton] at hs; subst hs; omega
      · simp only [mem_append, mem_cons]; constructor
        · rintro ((h | h | h) | h | h) <;> simp [h]
        · rintro ((h | h | h) | h) <;> simp [h]
      · intro t ht s hs
        rcases List.mem_append.1 hs with hs | hs
        · have := ho s hs; omega
        · rw [List.mem_singleton] at hs; subst hs; omega
  · rename_i he
    have e0 : out = [] := List.getLast?_eq_none_iff.1 he
    subst e0
    refine ⟨(rises_cons _ _).2 ⟨hr, by simp, rises_nil⟩, fun n => ?_, ?_⟩
    · rw [mem_cons]; constructor
      · rintro (h | h)
        · exact Or.inr h
        · exact Or.inl h
      · rintro (h | h)
        · exact Or.inr h
        · exact Or.inl h
    · intro t ht s hs; rw [List.mem_singleton] at hs; subst hs; exact ht
theorem glues_ok : ∀ (l out : List Rg), Rises out → (∀ r ∈ l, r.1 ≤ r.2) → l.Pairwise (fun a b => a.1 ≤ b.1) → (∀ s ∈ out, ∀ r ∈ l, s.1 ≤ r.1) →
    Rises (l.foldl glue out) ∧ ∀ n, Mem (l.foldl glue out) n ↔ Mem out n ∨ Mem l n
  | [], out, h, _, _, _ => ⟨h, fun n => ⟨Or.inl, fun h => h.elim id fun h => absurd h (mem_nil _)⟩⟩
  | r :: l, out, h, hl, hp, ho => by
    obtain ⟨p1, p2, p3⟩ := glue_ok out r h (hl r (by simp)) fun s hs => ho s hs r (by simp)
    obtain ⟨s1, s2⟩ := List.pairwise_cons.1 hp
    obtain ⟨q1, q2⟩ := glues_ok l (glue out r) p1 (fun s hs => hl s (by simp [hs])) s2 fun s hs t ht => p3 t.1 (s1 t ht) s hs
    refine ⟨q1, fun n => ?_⟩
    show Mem (l.foldl glue (glue out r)) n ↔ _
    rw [q2 n, p2 n, mem_cons]
    constructor
    · rintro ((h | h) | h) <;> simp [h]
    · rintro (h | h | h) <;> simp [h]
/-- What the program glues out of any sorted order of the pieces is what the document puts together out of them. -/
theorem united_eq (l d : List Rg) (hd : ∀ r, r ∈ d ↔ r ∈ l) (hl : ∀ r ∈ l, r.1 ≤ r.2) (hs : d.Pairwise fun a b => a.1 ≤ b.1) : d.foldl glue [] = canon l := by
  obtain ⟨h1, h2⟩ := glues_ok d [] rises_nil (fun r hr => hl r ((hd r).1 hr)) hs (by simp)
  obtain ⟨h3, h4⟩ := canon_ok l hl
  refine rises_unique _ _ h1 h3 fun n => ?_
  rw [h2 n, h4 n]
  constructor
  · rintro (h | ⟨r, hr, h⟩)
    · exact absurd h (mem_nil _)
    · exact ⟨r, (hd r).1 hr, h⟩
  · rintro ⟨r, hr, h⟩
    exact Or.inr ⟨r, (hd r).2 hr, h⟩
end Go.Proofs.YtidcchopmbodkaaDoor.Canon
