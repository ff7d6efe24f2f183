import Derived.Test.YtidcchopmbodkaaDoorQj6
import Derived.Test.YtidcchopmbodkaaDoorQj5
import Derived.Test.YtidcchopmbodkaaDoorQj4
import Derived.Test.YtidcchopmbodkaaDoorQj3
import Derived.Test.YtidcchopmbodkaaDoorQj2
section
namespace Go.Proofs.YtidcchopmbodkaaDoor.Sp
open Go.RowKit Go.Proofs.YtidcchopmbodkaaDoorW.PrintWords Go.Proofs.YtidcchopmbodkaaDoorW.PrintLast Go.Proofs.YtidcchopmbodkaaDoorW.PrintMore
open Canon
structure JS where
  p : List S28
  st : Bool
  lo : Int
  hi : Int
def nlo (lo t : Int) : Int := if 0 < t ∧ (lo = 0 ∨ t < lo) then t else lo
theorem nlo_spec (lo t : Int) : (0 < t ∧ (lo = 0 ∨ t < lo) ∧ nlo lo t = t) ∨ ((¬ 0 < t ∨ (lo ≠ 0 ∧ lo ≤ t)) ∧ nlo lo t = lo) := by
  unfold nlo
  split <;> omega
def jstep (s : JS) (x : S28) : JS :=
  if rngB x = false then s
  else if 0 < min x.f0 x.f1 then { s with p := s.p ++ [⟨min x.f0 x.f1, max x.f0 x.f1⟩] }
  else { p := s.p, st := true, lo := nlo s.lo (max x.f0 x.f1), hi := max s.hi (max x.f0 x.f1) }
def j0 : JS := ⟨[], false, 0, 0⟩
def jfin (s : JS) : List S28 :=
  let o := (canon ((if s.lo = s.hi then s.p else s.p ++ [⟨s.lo, s.hi⟩]).map pr)).map un
  if s.st = true then o ++ [⟨s.lo, 0⟩] else o
def joinA (l : List S28) : List S28 := jfin (l.foldl jstep j0)
structure JOk (s : JS) : Prop where
  ok : ∀ x ∈ s.p, 1 ≤ x.f0 ∧ x.f0 ≤ x.f1 ∧ x.f1 ≤ 4294967295
  lo0 : 0 ≤ s.lo
  le : s.lo ≤ s.hi
  hi1 : s.hi ≤ 4294967295
  zero : s.lo = 0 → s.hi = 0
  off : s.st = false → s.hi = 0
theorem j0_ok : JOk j0 := ⟨by simp [j0], Int.le_refl _, Int.le_refl _, by decide, fun _ => rfl, fun _ => rfl⟩
theorem rng_iff (x : S28) : rngB x = true ↔ 0 ≤ x.f0 ∧ 0 ≤ x.f1 ∧ x.f0 ≤ 4294967295 ∧ x.f1 ≤ 4294967295 := by
  unfold rngB
  simp only [Bool.and_eq_true, decide_eq_true_eq]
  omega
theorem jstep_ok (s : JS) (x : S28) (h : JOk s) : JOk (jstep s x) := by
  obtain ⟨h1, h2, h3, h4, h5, h6⟩ := h
  unfold jstep
  by_cases hr : rngB x = true
  · rw [if_neg (by simp [hr])]
    rw [rng_iff] at hr
    split
    · rename_i hm
      refine ⟨fun y hy => ?_, h2, h3, h4, h5, h6⟩
      rcases List.mem_append.1 hy with hy | hy
      · exact h1 y hy
      · rw [List.mem_singleton] at hy
        subst hy
        show 1 ≤ min x.f0 x.f1 ∧ min x.f0 x.f1 ≤ max x.f0 x.f1 ∧ max x.f0 x.f1 ≤ 4294967295
        omega
    · rename_i hm
      have hn := nlo_spec s.lo (max x.f0 x.f1)
      have ht : 0 ≤ max x.f0 x.f1 ∧ max x.f0 x.f1 ≤ 4294967295 := by omega
      generalize max x.f0 x.f1 = u at *
      generalize nlo s.lo u = v at *
      refine ⟨h1, ?_, ?_, ?_, ?_, fun h => by cases h⟩
      · show 0 ≤ v; omega
      · show v ≤ max s.hi u; omega
      · show max s.hi u ≤ _; omega
      · show v = 0 → max s.hi u = 0
        intro h
        by_cases hz : s.lo = 0
        · have := h5 hz; omega
        · omega
  · rw [if_pos (by simpa using hr)]
    exact ⟨h1, h2, h3, h4, h5, h6⟩
theorem jfold_ok (l : List S28) : ∀ s, JOk s → JOk (l.foldl jstep s) := by
  induction l with
  | nil => intro s h; exact h
  | cons x l ih => intro s h; exact ih _ (jstep_ok s x h)
end Go.Proofs.YtidcchopmbodkaaDoor.Sp
end
section
namespace Go.Proofs.YtidcchopmbodkaaDoor.Sp
open Go.RowKit Go.Proofs.YtidcchopmbodkaaDoorW.PrintWords Go.Proofs.YtidcchopmbodkaaDoorW.PrintLast Go.Proofs.YtidcchopmbodkaaDoorW.PrintMore
open Canon
theorem rdL2j_at (l : List (List S28)) (i : Nat) (h : i < l.length) : rd_L2 l (i : Int) = l[i] := by
  unfold rd_L2
  rw [List.getD_eq_getElem?_getD, show ((i : Int)).toNat = i from by omega, List.getElem?_eq_getElem h]
  rfl
theorem rng_f (x : S28) : span_isRange.f x.f0 x.f1 = some (rngB x) := by
  unfold span_isRange.f rngB
  rw [mn_eq, mx_eq]
  by_cases h : min x.f0 x.f1 ≥ 0
  · rw [if_pos h, decide_eq_true (show 0 ≤ min x.f0 x.f1 from h), Bool.true_and]
  · rw [if_neg h, decide_eq_false (show ¬ 0 ≤ min x.f0 x.f1 from h), Bool.false_and]
theorem jstep_len (s : JS) (x : S28) : (jstep s x).p.length ≤ s.p.length + 1 := by
  unfold jstep
  split
  · omega
  · split
    · simp
    · simp
theorem join_step (s : JS) (x : S28) (hp : s.p.length < 8796093022208) (k : Nat) (sets : List (List S28)) (n i : Int) (l : List S28) (m j : Int) :
    ((span_isRange.f x.f0 x.f1).bind fun t126 => (if t126 = true then (if (mn x.f0 x.f1) > 0 then (if s.p.length < 8796093022208 then (span_Join.l1 k (s.p ++ [(⟨mn x.f0 x.f1, mx x.f0 x.f1⟩ : S28)]) s.st s.lo s.hi sets n i l m j) else (none)) else (if (mx x.f0 x.f1) > 0 then (if s.lo = 0 then (span_Join.l1 k s.p true (mx x.f0 x.f1) (mx s.hi (mx x.f0 x.f1)) sets n i l m j) else (if (mx x.f0 x.f1) < s.lo then (span_Join.l1 k s.p true (mx x.f0 x.f1) (mx s.hi (mx x.f0 x.f1)) sets n i l m j) else (span_Join.l1 k s.p true s.lo (mx s.hi (mx x.f0 x.f1)) sets n i l m j))) else (span_Join.l1 k s.p true s.lo (mx s.hi (mx x.f0 x.f1)) sets n i l m j))) else (span_Join.l1 k s.p s.st s.lo s.hi sets n i l m j)))
    = span_Join.l1 k (jstep s x).p (jstep s x).st (jstep s x).lo (jstep s x).hi sets n i l m j := by
  rw [rng_f, Option.bind_some, mn_eq, mx_eq]
  by_cases hr : rngB x = true
  · rw [if_pos hr]
    by_cases hm : min x.f0 x.f1 > 0
    · have e : jstep s x = { s with p := s.p ++ [⟨min x.f0 x.f1, max x.f0 x.f1⟩] } := by unfold jstep; rw [if_neg (by rw [hr]; simp), if_pos hm]
      rw [if_pos hm, if_pos hp, e]
    · have e : jstep s x = { p := s.p, st := true, lo := nlo s.lo (max x.f0 x.f1), hi := max s.hi (max x.f0 x.f1) } := by unfold jstep; rw [if_neg (by rw [hr]; simp), if_neg hm]
      rw [if_neg hm, e]
      simp only [mx_eq]
      unfold nlo
      by_cases h1 : max x.f0 x.f1 > 0
      · rw [if_pos h1]
        by_cases h2 : s.lo = 0
        · rw [if_pos h2, if_pos ⟨h1, Or.inl h2⟩]
        · rw [if_neg h2]
          by_cases h3 : max x.f0 x.f1 < s.lo
          · rw [if_pos h3, if_pos ⟨h1, Or.inr h3⟩]
          · rw [if_neg h3, if_neg (by rintro ⟨_, h | h⟩ <;> contradiction)]
      · rw [if_neg h1, if_neg (fun h => h1 h.1)]
  · have e : jstep s x = s := by unfold jstep; rw [if_pos (by simpa using hr)]
    rw [if_neg hr, e]
theorem join_l1 (l : List S28) (hl : l.length ≤ 8000000000000) (sets : List (List S28)) (n i : Int) (d : Nat) : ∀ (j k : Nat) (s : JS), j + d = l.length → JOk s → s.p.length + d ≤ 8000000000000 →
    span_Join.l1 (k + (d + 1)) s.p s.st s.lo s.hi sets n i l (l.length : Int) (j : Int) = span_Join.l0 k ((l.drop j).foldl jstep s).p ((l.drop j).foldl jstep s).st ((l.drop j).foldl jstep s).lo ((l.drop j).foldl jstep s).hi sets n (wrap64 (i + 1)) := by
  induction d with
  | zero =>
    intro j k s hj hs hp
    rw [Nat.zero_add]
    simp only [span_Join.l1]
    rw [if_neg (by omega), List.drop_of_length_le (by omega)]
    rfl
  | succ d ih =>
    intro j k s hj hs hp
    have hjl : j < l.length := by omega
    have ih' := fun s => ih (j + 1) k s (by omega)
    rw [show k + (d + 1 + 1) = (k + (d + 1)) + 1 from by omega]
    generalize k + (d + 1) = K at ih' ⊢
    simp only [span_Join.l1]
    rw [if_pos (by omega), if_pos (by omega), if_pos (by omega), rd28_at l j hjl, w64n j (by omega), List.drop_eq_getElem_cons hjl]
    generalize l[j] = x
    have hlen := jstep_len s x
    refine (join_step s x (by omega) K sets n i l (l.length : Int) ((j + 1 : Nat) : Int)).trans ?_
    exact ih' (jstep s x) (jstep_ok s x hs) (by omega)
def cost : List (List S28) → Nat
  | [] => 0
  | l :: r => l.length + 2 + cost r
theorem jfold_len (l : List S28) : ∀ s : JS, (l.foldl jstep s).p.length ≤ s.p.length + l.length := by
  induction l with
  | nil => intro s; simp
  | cons x l ih => intro s; have h1 := ih (jstep s x); have h2 := jstep_len s x; simp only [List.foldl_cons, List.length_cons]; omega
theorem united_ok (l : List S28) (hl : l.length ≤ 8000000000000) (h : ∀ x ∈ l, 1 ≤ x.f0 ∧ x.f0 ≤ x.f1 ∧ x.f1 ≤ 4294967295) : span_united.f l = some ((canon (l.map pr)).map un) := by
  unfold span_united.f
  rw [if_pos]
  refine ⟨by omega, List.all_eq_true.2 fun x hx => ?_⟩
  have := h x hx
  show (decide (0 ≤ x.f0) && (decide (x.f0 ≤ x.f1) && decide (x.f1 ≤ 4294967295))) = true
  simp
  omega
theorem join_end (s : JS) (hs : JOk s) (hp : s.p.length ≤ 4000000000000) (k : Nat) (sets : List (List S28)) (i : Int) (hi : (sets.length : Int) ≤ i) : span_Join.l0 (k + 1) s.p s.st s.lo s.hi sets (sets.length : Int) i = some (jfin s) := by
  simp only [span_Join.l0]
  rw [if_neg (by omega)]
  have fin : ∀ q : List S28, q.length ≤ 8000000000000 → (∀ x ∈ q, 1 ≤ x.f0 ∧ x.f0 ≤ x.f1 ∧ x.f1 ≤ 4294967295) → ((span_united.f q).bind fun t130 => (if s.st = true then (if t130.length < 8796093022208 then (some (t130 ++ [(⟨s.lo, 0⟩ : S28)])) else (none)) else (some t130))) = some (if s.st = true then (canon (q.map pr)).map un ++ [⟨s.lo, 0⟩] else (canon (q.map pr)).map un) := by
    intro q hq hok
    rw [united_ok q hq hok, Option.bind_some]
    by_cases h : s.st = true
    · rw [if_pos h, if_pos h, if_pos (by rw [List.length_map]; have := canon_len (q.map pr); rw [List.length_map] at this; omega)]
    · rw [if_neg h, if_neg h]
  unfold jfin
  by_cases he : s.lo = s.hi
  · rw [if_pos he]
    refine (fin s.p (by omega) hs.ok).trans ?_
    simp only [if_pos he]
  · rw [if_neg he, if_pos (by omega)]
    have hq : (s.p ++ [(⟨s.lo, s.hi⟩ : S28)]).length ≤ 8000000000000 := by rw [List.length_append, List.length_singleton]; omega
    have hqo : ∀ x ∈ s.p ++ [(⟨s.lo, s.hi⟩ : S28)], 1 ≤ x.f0 ∧ x.f0 ≤ x.f1 ∧ x.f1 ≤ 4294967295 := by
      intro x hx
      rcases List.mem_append.1 hx with hx | hx
      · exact hs.ok x hx
      · rw [List.mem_singleton] at hx
        subst hx
        have h0 : s.lo ≠ 0 := fun e => he (by rw [e, hs.zero e])
        have := hs.lo0; have := hs.le; have := hs.hi1
        show 1 ≤ s.lo ∧ s.lo ≤ s.hi ∧ s.hi ≤ 4294967295
        omega
    refine (fin _ hq hqo).trans ?_
    simp only [if_neg he]
theorem join_l0 (sets : List (List S28)) (hl : sets.length ≤ 8000000000000) (hb : ∀ l ∈ sets, l.length ≤ 4000000000000) (d : Nat) : ∀ (i k : Nat) (s : JS), i + d = sets.length → JOk s → s.p.length + (sets.drop i).flatten.length ≤ 4000000000000 → cost (sets.drop i) + 1 ≤ k →
    span_Join.l0 k s.p s.st s.lo s.hi sets (sets.length : Int) (i : Int) = some (jfin ((sets.drop i).flatten.foldl jstep s)) := by
  induction d with
  | zero =>
    intro i k s hi hs hp hk
    obtain ⟨k, rfl⟩ : ∃ j, k = j + 1 := ⟨k - 1, by omega⟩
    rw [List.drop_of_length_le (by omega)] at hp ⊢
    rw [join_end s hs (by simpa using hp) k sets (i : Int) (by omega)]
    rfl
  | succ d ih =>
    intro i k s hi hs hp hk
    have hil : i < sets.length := by omega
    rw [List.drop_eq_getElem_cons hil] at hp hk ⊢
    have hbl := hb sets[i] (List.getElem_mem hil)
    obtain ⟨k, rfl⟩ : ∃ j, k = j + 1 := ⟨k - 1, by omega⟩
    simp only [span_Join.l0]
    rw [if_pos (by omega), if_pos (by omega), if_pos (by omega), rdL2j_at sets i hil]
    generalize sets[i] = l at *
    simp only [cost] at hk
    simp only [List.flatten_cons, List.length_append] at hp
    have h1 := join_l1 l (by omega) sets (sets.length : Int) (i : Int) l.length 0 (k - (l.length + 1)) s (by omega) hs (by omega)
    rw [show k - (l.length + 1) + (l.length + 1) = k from by omega, List.drop_zero, w64n i (by omega)] at h1
    refine Eq.trans h1 ?_
    have hlen := jfold_len l s
    rw [ih (i + 1) (k - (l.length + 1)) (l.foldl jstep s) (by omega) (jfold_ok l s hs) (by omega) (by omega), List.flatten_cons, List.foldl_append]
theorem join_f (sets : List (List S28)) (hl : sets.length ≤ 8000000000000) (hn : sets.flatten.length ≤ 4000000000000) (k : Nat) (hk : cost sets + 1 ≤ k) : span_Join.f k sets = some (joinA sets.flatten) := by
  unfold span_Join.f
  have hb : ∀ l ∈ sets, l.length ≤ 4000000000000 := by
    intro l hm
    have := List.Sublist.length_le (List.sublist_flatten_of_mem hm)
    omega
  have := join_l0 sets hl hb sets.length 0 k j0 (by omega) j0_ok (by simpa [j0] using hn) (by simpa using hk)
  rw [List.drop_zero] at this
  exact this
theorem cost_le (sets : List (List S28)) : cost sets = sets.flatten.length + 2 * sets.length := by
  induction sets with
  | nil => rfl
  | cons l r ih => simp only [cost, ih, List.flatten_cons, List.length_append, List.length_cons]; omega
end Go.Proofs.YtidcchopmbodkaaDoor.Sp
end
section
namespace Go.Proofs.YtidcchopmbodkaaDoor.Sp
open Go.RowKit Go.Proofs.YtidcchopmbodkaaDoorW.PrintWords Go.Proofs.YtidcchopmbodkaaDoorW.PrintLast Go.Proofs.YtidcchopmbodkaaDoorW.PrintMore
open Par Canon
end Go.Proofs.YtidcchopmbodkaaDoor.Sp
end
section
namespace Go.Proofs.YtidcchopmbodkaaDoor.Sp
open Go.RowKit Go.Proofs.YtidcchopmbodkaaDoorW.PrintWords Go.Proofs.YtidcchopmbodkaaDoorW.PrintLast Go.Proofs.YtidcchopmbodkaaDoorW.PrintMore
open Canon
theorem lies_l0 (n : Nat) (l : List S28) (hl : l.length ≤ n) (hn : n ≤ 8000000000000) (d : Nat) : ∀ (i k : Nat), l.length ≤ i → i + d = n → l.length + d + 2 ≤ k → postbaglaw4_lies.l0 k (layA n l) l (i : Int) = some true := by
  have hL := layA_len n l hl
  induction d with
  | zero =>
    intro i k h0 hi hk
    obtain ⟨k, rfl⟩ : ∃ j, k = j + 1 := ⟨k - 1, by omega⟩
    simp only [postbaglaw4_lies.l0]
    rw [if_neg (by omega), if_pos (by omega), if_pos (by omega), if_pos (by omega), Int.toNat_natCast, show (layA n l).take l.length = l from by unfold layA; exact List.take_left, same_f l l (by omega) k (by omega), Option.bind_some, decide_eq_true rfl]
  | succ d ih =>
    intro i k h0 hi hk
    obtain ⟨k, rfl⟩ : ∃ j, k = j + 1 := ⟨k - 1, by omega⟩
    have hil : i < (layA n l).length := by omega
    have hat := layA_at n l i h0 (by omega)
    rw [List.getElem?_eq_getElem hil] at hat
    have e := Option.some.inj hat
    have hw : wrap64 (-7 - (i : Int)) = -7 - (i : Int) := by unfold wrap64; omega
    simp only [postbaglaw4_lies.l0]
    rw [if_pos (by omega), if_pos (by omega), rd28_at _ i hil, e, hw, w64n i (by omega)]
    rw [show (markB i).f0 = -7 - (i : Int) from rfl, show (markB i).f1 = -9 from rfl, if_neg (by simp)]
    exact ih (i + 1) k (by omega) (by omega) (by omega)
theorem lies_f (n : Nat) (l : List S28) (hl : l.length ≤ n) (hn : n ≤ 8000000000000) (k : Nat) (hk : n + 2 ≤ k) : postbaglaw4_lies.f k (layA n l) l = some true := by
  unfold postbaglaw4_lies.f
  exact lies_l0 n l hl hn (n - l.length) l.length k (Nat.le_refl _) (by omega) (by omega)
end Go.Proofs.YtidcchopmbodkaaDoor.Sp
end
section
namespace Go.Proofs.YtidcchopmbodkaaDoor.Sp
open Go.RowKit Go.Proofs.YtidcchopmbodkaaDoorW.PrintWords Go.Proofs.YtidcchopmbodkaaDoorW.PrintLast Go.Proofs.YtidcchopmbodkaaDoorW.PrintMore
theorem neq_nil (W : World) : (binOp .neq 23 (.slice none 0 0) (.slice none 0 0)).run Tryd.prog W = .ok (.bool false) W := by
  simp only [binOp]
  simp [Op.equal, Op.maxDepth, Lib.run_equalIn_slice_nil W 9999 23 28 none 0 0 0 0 Tryd.underlying23]
attribute [local go_sem] neq_nil
set_option maxHeartbeats 4000000 in
set_option maxRecDepth 100000 in
theorem stand_calls (B p : Nat) (Ai At : Option Addr) (ci ct : Nat) (vals : List Value) (xss : List (List S28)) (tvs : List Value) (A : Option Addr) (c : Nat) (l : List (List S28)) (w : World)
    (h : Dj B p w (.slice Ai vals.length ci) (.slice At tvs.length ct) vals xss tvs) (hj : LaidJ l l.length vals xss tvs) (hl : Safe (fun W => Kd.C (Kd.slice 28 k28) W A l.length l) w (DM p (.slice Ai vals.length ci) (.slice At tvs.length ct) vals)) (hn : l.length ≤ 3000) (hnl : ∀ x ∈ l, x.length ≤ 3000) :
    Calls Tryd.prog 43 #[.pointer (some ⟨p, 0, none⟩), .slice A l.length c] w fun e w' => e = .returned (.bool true) ∧ ∃ m, w' = w.drewN m := by
  have HD := Aside0.mk h
  have HJ := Aside0.mk hj
  have HL := Lib.hid hl
  have HNL := Lib.hid hnl
  have hlm : l.length ≤ 9223372036854775807 := hl.now.2.1
  have hlt := hj.2.1
  have hlx := hj.1
  have hlv := h.len
  have htn := h.n2
  have y2 := blk_cell h.hp 2
  have y3 := blk_cell h.hp 3
  clear h hj hl hnl
  go_enter Tryd.func43, Tryd.ntmps43
  go_wp2_with fail
  go_loopw [5] (fun i W => ∃ (k : Nat), i = .int .i64 k ∧ k ≤ tvs.length ∧ Aside0 (∃ m, W = w.drewN m)) (fun i _ => tvs.length - (intOf i).toNat)
  case atStart => exact ⟨0, rfl, by omega, ⟨⟨0, rfl⟩⟩⟩
  case round =>
    obtain ⟨wq, rfl⟩ : ∃ wq : World, wq = wr := ⟨_, rfl⟩
    obtain ⟨k, rfl, hk, HW⟩ := hrel
    have hbw : Below w.heap.size w wq := by obtain ⟨m, hm⟩ := HW.out; rw [hm]; exact pw_below_drewN (Below.refl _ _) _
    replace HD := Aside0.mk (HD.out.below hbw)
    replace HL := Lib.hid (HL.out.below hbw)
    replace y2 := (hbw.cell (World.block_lt_of_cell? w _ y2)).trans y2
    replace y3 := (hbw.cell (World.block_lt_of_cell? w _ y3)).trans y3
    clear hbw
    by_cases hkt : k < tvs.length
    · obtain ⟨gt, cpt, et, ht1, ht2, _⟩ := Kd.R_form HD.out.rt (by rw [ones_len]; omega)
      rw [ones_len] at et
      injection et with et1 et2 et3
      subst et1; subst et3
      have j1 : (0 : Int) ≤ (k : Int) := by omega
      have j2 : (k : Int) < (tvs.length : Int) := by omega
      by_cases hkl : k < l.length
      · have p1 : (0 : Int) ≤ (k : Int) := by omega
        have p2 : (k : Int) < (l.length : Int) := by omega
        have p3 : (k : Int) < (vals.length : Int) := by omega
        obtain ⟨ad, cs, eA, _, hFK, hcell, hokb⟩ := Kd.F_get (show Kd.F (Kd.slice 28 k28) wq (fun q => ¬ DM p (.slice Ai vals.length ci) (.slice (some ⟨gt, 0, none⟩) tvs.length ct) vals q) A l.length l from HL.out) [] (k : Int) p1 p2
        subst eA
        obtain ⟨A2, c2, ecs, hc2, hF⟩ := Kd.FK_slice_open hFK
        subst ecs
        have hlk : l[k]? = some (l[k]'hkl) := List.getElem?_eq_getElem hkl
        have egd : l.getD (k : Int).toNat [] = l[k]'hkl := by rw [Int.toNat_natCast, List.getD_eq_getElem?_getD, hlk]; rfl
        have xl := hcell 0 _ rfl
        have hxn := HNL.out (l[k]'hkl) (List.getElem_mem hkl)
        rw [egd] at hc2 hF xl
        rw [Int.toNat_natCast, show k * (Kd.slice 28 k28).sz + 0 = k from (show k * 1 + 0 = k by omega)] at xl
        obtain ⟨Av, cv, n, e1, e2, hxm, e3⟩ := HJ.out.2.2.1 k _ hkl hlk
        generalize l[k]'hkl = x at *
        have hFx : Safe (fun W => Kd.C k28 W A2 x.length x) wq (DM p (.slice Ai vals.length ci) (.slice (some ⟨gt, 0, none⟩) tvs.length ct) vals) := hF
        have hCx := hFx.now
        obtain ⟨gi, cpi, ei, hi1, hi2, _⟩ := Kd.R_form HD.out.ri (by rw [ones_len]; omega)
        rw [ones_len] at ei
        injection ei with ei1 ei2 ei3
        subst ei1; subst ei3
        have q1 := (raw_cell HD.out.rt k _ e3).1
        have q2 := (raw_cell HD.out.ri k _ e1).1
        have hR := HD.out.rows k _ _ e1 e2
        have hsz : (layA n x).length ≤ 6040 := HD.out.sz _ (List.mem_of_getElem? e2)
        have hll := layA_len n x hxm
        rw [hll] at hsz
        have htk := Kd.R_take (m := x.length) hR (by omega)
        rw [layA_take] at htk
        have ht := Kd.R_reads' htk
        have hrx := Kd.R_reads' hR
        have hsm := fun nd => postbaglaw4_same.calls 5000 Av cv x A2 c2 x true (wq.drewN nd) (Kd.C_drewN ht.2.2 nd) ht.2.1 (Kd.C_drewN hCx nd) hc2 (by rw [same_f x x (by omega) 5000 (by omega), decide_eq_true rfl])
        have hli := fun nd => postbaglaw4_lies.calls 7000 Av cv (layA n x) A2 c2 x true (wq.drewN nd) (by have h3 := Kd.C_drewN hrx.2.2 nd; rw [hll] at h3 ⊢; exact h3) (by rw [hll]; exact hrx.2.1) (Kd.C_drewN hCx nd) hc2 (lies_f n x hxm (by omega) 7000 (by omega))
        rw [hll] at hli
        have HSM := Lib.hid hsm
        have HLI := Lib.hid hli
        have d1 : decide (l.length ≤ k) = false := decide_eq_false (by omega)
        have d3 : decide (k < l.length) = true := decide_eq_true (by omega)
        have d2 : decide ((k : Int) < (l.length : Int)) = true := decide_eq_true p2
        clear hFx hCx hF hFK hcell hokb hsm hli hR htk ht hrx egd hlk e1 e2 e3
        go_wp2_with fail
        go_quiet ((first | (go_at_call 26; exact Calls.quiet_of ((HSM.out _).mono (fun _ _ h => ⟨h.1, h.2.out⟩))) | (go_at_call 38; exact Calls.quiet_of ((HLI.out _).mono (fun _ _ h => ⟨h.1, h.2.out⟩)))))
        go_wp2
        exact ⟨⟨k + 1, by go_num, by omega, ⟨by obtain ⟨m, hm⟩ := HW.out; exact ⟨m + nq, by rw [hm, World.drewN_drewN]⟩⟩⟩, by simp [intOf]; omega⟩
      · have e3 := HJ.out.2.2.2 k (by omega) hkt
        have q1 := (raw_cell HD.out.rt k _ e3).1
        have d1 : decide (l.length ≤ k) = true := decide_eq_true (by omega)
        have d3 : decide (k < l.length) = false := decide_eq_false (by omega)
        have d2 : decide ((k : Int) < (l.length : Int)) = false := decide_eq_false (by omega)
        clear e3
        go_wp2_with fail
        go_quiet (fail)
        go_wp2
        exact ⟨⟨k + 1, by go_num, by omega, ⟨by obtain ⟨m, hm⟩ := HW.out; exact ⟨m + nq, by rw [hm, World.drewN_drewN]⟩⟩⟩, by simp [intOf]; omega⟩
    · have d1 : decide ((k : Int) < (tvs.length : Int)) = false := decide_eq_false (by omega)
      go_wp2
      go_ret
      exact ⟨rfl, HW.out⟩
end Go.Proofs.YtidcchopmbodkaaDoor.Sp
end
section
namespace Go.Proofs.YtidcchopmbodkaaDoor.Sp
open Go.RowKit Go.Proofs.YtidcchopmbodkaaDoorW.PrintWords Go.Proofs.YtidcchopmbodkaaDoorW.PrintLast Go.Proofs.YtidcchopmbodkaaDoorW.PrintMore
theorem Dj.laidC {B p : Nat} {W : World} {iv : Value} {At : Option Addr} {ct : Nat} {vals : List Value} {xss : List (List S28)} {tvs : List Value} (h : Dj B p W iv (.slice At tvs.length ct) vals xss tvs) {l : List (List S28)} (hj : LaidJ l l.length vals xss tvs) : Kd.C (Kd.slice 28 k28) W At l.length l := by
  have ht := h.n2
  refine ⟨rfl, by have := hj.2.1; omega, fun hp => ?_⟩
  obtain ⟨g, cp, e, _, _, _⟩ := Kd.R_form h.rt (by rw [ones_len]; have := hj.2.1; omega)
  injection e with e1 e2 e3
  subst e1
  refine ⟨_, rfl, fun j x hx => ?_⟩
  have hjl : j < l.length := (List.getElem?_eq_some_iff.1 hx).1
  obtain ⟨Av, cv, n, e1, e2, hxm, e3⟩ := hj.2.2.1 j x hjl hx
  have hR := h.rows j _ _ e1 e2
  have hll := layA_len n x hxm
  have htk := Kd.R_take (m := x.length) hR (by omega)
  rw [layA_take] at htk
  have h2 := Kd.R_reads' htk
  have q1 := (raw_cell h.rt j _ e3).1
  refine ⟨[.slice Av x.length cv], rfl, ⟨Av, cv, rfl, h2.2.1, h2.2.2⟩, fun i u hu => ?_⟩
  cases i with
  | zero =>
    simp only [List.getElem?_cons_zero, Option.some.injEq] at hu
    subst hu
    rw [show j * (Kd.slice 28 k28).sz + 0 = j from by show j * 1 + 0 = j; omega]
    have : (⟨g, 0, none⟩ : Addr).add j = ⟨g, j, none⟩ := by simp [Addr.add]; exact fun h => h.symm
    rw [this]
    exact q1
  | succ i => simp at hu
def JM (p : Nat) (iv tv : Value) (vals : List Value) (vg vw : Value) : Nat → Prop := fun k => DM p iv tv vals k ∨ vg.ownBlock = some k ∨ vw.ownBlock = some k
structure JSt (w W : World) (iv tv : Value) (vals : List Value) (xss : List (List S28)) (tvs : List Value) (vg : Value) (gs : List (List S28)) (vw : Value) (hs : List (List S28)) : Prop where
  d : Dj w.heap.size w.heap.size W iv tv vals xss tvs
  g : LS k28 23 W w.heap.size (JM w.heap.size iv tv vals vg vw) vg gs
  v : LS k28 23 W w.heap.size (JM w.heap.size iv tv vals vg vw) vw hs
  ne : ∀ k, vg.ownBlock = some k → vw.ownBlock ≠ some k
  gi : ∀ k, DM w.heap.size iv tv vals k → vg.ownBlock ≠ some k ∧ vw.ownBlock ≠ some k
  bl : Below w.heap.size w W
section
variable {w W : World} {iv tv : Value} {vals : List Value} {xss : List (List S28)} {tvs : List Value} {vg vw : Value} {gs hs : List (List S28)}
theorem JSt.base (h : JSt w W iv tv vals xss tvs vg gs vw hs) : ∀ k, JM w.heap.size iv tv vals vg vw k → w.heap.size ≤ k ∧ k < W.heap.size := by
  rintro k (hk | hk | hk)
  · exact h.d.base k hk
  · exact ⟨h.g.base k hk, h.g.lt k hk⟩
  · exact ⟨h.v.base k hk, h.v.lt k hk⟩
theorem JSt.below (h : JSt w W iv tv vals xss tvs vg gs vw hs) {W1 : World} (hb : Below W.heap.size W W1) : JSt w W1 iv tv vals xss tvs vg gs vw hs :=
  ⟨h.d.below hb, h.g.below hb, h.v.below hb, h.ne, h.gi, below_step h.bl hb⟩
theorem JSt.drewN (h : JSt w W iv tv vals xss tvs vg gs vw hs) (n : Nat) : JSt w (W.drewN n) iv tv vals xss tvs vg gs vw hs := h.below (pw_below_drewN (Below.refl _ _) n)
theorem JSt.drew (h : JSt w W iv tv vals xss tvs vg gs vw hs) : JSt w W.drew iv tv vals xss tvs vg gs vw hs := h.below (below_drew (Below.refl _ _))
theorem JSt.apart (h : JSt w W iv tv vals xss tvs vg gs vw hs) {g t : Nat} {cells : Array Value} (hb : W.heap[g]? = some (.cells cells t (0, 0))) (h1 : (55 : Nat) ≠ t) (h2 : (28 : Nat) ≠ t) (h3 : (23 : Nat) ≠ t) : ¬ JM w.heap.size iv tv vals vg vw g := by
  rintro ((rfl | ⟨v, hm, ho⟩) | ho | ho)
  · exact blk_ne h.d.hp hb h1 rfl
  · rcases List.mem_cons.1 hm with rfl | hm
    · exact Kd.R_ne h.d.ri hb h3 ho.symm
    rcases List.mem_cons.1 hm with rfl | hm
    · exact Kd.R_ne h.d.rt hb h3 ho.symm
    obtain ⟨i, hi⟩ := List.mem_iff_getElem?.1 hm
    obtain ⟨xs, _, hr, _⟩ := h.d.row i v hi
    exact Kd.R_ne hr hb h2 ho.symm
  · exact h.g.ne hb h3 ho.symm
  · exact h.v.ne hb h3 ho.symm
theorem JSt.several {Ai At : Option Addr} {ci ct : Nat} (h : JSt w W (.slice Ai vals.length ci) (.slice At tvs.length ct) vals xss tvs vg gs vw hs) (A : Option Addr) (c : Nat) (l : List (List S28))
    (hl : Safe (fun W => Kd.C (Kd.slice 28 k28) W A l.length l) W (JM w.heap.size (.slice Ai vals.length ci) (.slice At tvs.length ct) vals vg vw)) (hn : l.length ≤ 3000) (hnl : ∀ x ∈ l, x.length ≤ 3000) :
    Calls Tryd.prog 42 #[.pointer (some ⟨w.heap.size, 0, none⟩), .slice A l.length c] W fun e W' => ∃ (Ai' At' : Option Addr) (ci' ct' : Nat) (vals' : List Value) (xss' : List (List S28)) (tvs' : List Value), e = .returned (.slice At' l.length ct') ∧ l.length ≤ ct' ∧ LaidJ l l.length vals' xss' tvs' ∧
      JSt w W' (.slice Ai' vals'.length ci') (.slice At' tvs'.length ct') vals' xss' tvs' vg gs vw hs ∧ Kept W W' (JM w.heap.size (.slice Ai vals.length ci) (.slice At tvs.length ct) vals vg vw) ∧
      (∀ k, JM w.heap.size (.slice Ai' vals'.length ci') (.slice At' tvs'.length ct') vals' vg vw k → JM w.heap.size (.slice Ai vals.length ci) (.slice At tvs.length ct) vals vg vw k ∨ W.heap.size ≤ k) := by
  refine (several_calls w.heap.size w.heap.size Ai At ci ct vals xss tvs A c l W h.d (hl.step (S := fun _ => False) (Kept.refl _ _) (fun _ hk => hk.elim) (fun k hk => Or.inl (Or.inl hk))) hn hnl).mono ?_
  rintro e W' ⟨Ai', At', ci', ct', vals', xss', tvs', rfl, h1, h2, hd⟩
  have hm : ∀ k, JM w.heap.size (.slice Ai' vals'.length ci') (.slice At' tvs'.length ct') vals' vg vw k → JM w.heap.size (.slice Ai vals.length ci) (.slice At tvs.length ct) vals vg vw k ∨ W.heap.size ≤ k := by
    rintro k (hk | hk)
    · exact (hd.m k hk).elim (fun h => Or.inl (Or.inl h)) Or.inr
    · exact Or.inl (Or.inr hk)
  have hS : ∀ k, DM w.heap.size (.slice Ai vals.length ci) (.slice At tvs.length ct) vals k → JM w.heap.size (.slice Ai vals.length ci) (.slice At tvs.length ct) vals vg vw k := fun k hk => Or.inl hk
  refine ⟨Ai', At', ci', ct', vals', xss', tvs', rfl, h1, h2, ⟨hd.d, h.g.step hd.k hS (fun k ho hn => (h.gi k hn).1 ho) hm (fun k ho => Or.inr (Or.inl ho)), h.v.step hd.k hS (fun k ho hn => (h.gi k hn).2 ho) hm (fun k ho => Or.inr (Or.inr ho)), h.ne, fun k hk => ?_, h.bl.trans hd.b⟩, hd.k.mono hS, hm⟩
  rcases hd.m k hk with h3 | h3
  · exact h.gi k h3
  · exact ⟨fun ho => by have := h.g.lt k ho; omega, fun ho => by have := h.v.lt k ho; omega⟩
theorem JSt.appG {P : Program} {ops : Array Oper} {rest : List Oper} {o : Oper} {a : Act} {Q : Exit → Act → World → Prop} (h : JSt w W iv tv vals xss tvs vg gs vw hs) (hgd : o.guard = none) (s x : Operand) (t : TypeId)
    (ho : o.op = .call { callee := .builtin .append, args := #[s, x], argTypes := #[t, t] }) (ht : P.underlying t = some (.slice 23)) (hinfo : (P.info? 23).map (fun i => (i.zero, i.size, i.bytes)) = some (some (.slice none 0 0), 1, 24))
    (l : List S28) (A1 : Option Addr) (cc : Nat) (hs0 : a.eval s = vg) (hx0 : a.eval x = .slice (some ⟨W.heap.size, 0, none⟩) 1 1) (hcc : l.length ≤ cc) (hp1 : Safe (fun W => k28.C W A1 l.length l) W (JM w.heap.size iv tv vals vg vw)) (hlen : gs.length ≤ 1000)
    (k : ∀ v1 w1, JSt w w1 iv tv vals xss tvs v1 (gs ++ [l]) vw hs → Kept W w1 (JM w.heap.size iv tv vals vg vw) → (∀ k, JM w.heap.size iv tv vals v1 vw k → JM w.heap.size iv tv vals vg vw k ∨ W.heap.size ≤ k) → wpList P ops Q rest (a.put o.dst v1) w1) :
    wpList P ops Q (o :: rest) a (W.alloc (.cells #[.slice A1 l.length cc] 23)) := by
  refine LS_append k28 (w0 := W) w.heap.size hgd s x t 23 ho ht hinfo vg gs l A1 cc _ hs0 hx0 hcc hp1 h.g (Below.refl _ _) h.bl.size (by omega) ?_
  intro v1 w1 hls hb hk hat
  have hS : ∀ k, some k = vg.ownBlock → JM w.heap.size iv tv vals vg vw k := fun k hk => Or.inr (Or.inl hk.symm)
  have hmu : ∀ k, JM w.heap.size iv tv vals v1 vw k → JM w.heap.size iv tv vals vg vw k ∨ W.heap.size ≤ k := by
    rintro k (hk | hk | hk)
    · exact Or.inl (Or.inl hk)
    · rcases hat with hat | ⟨b, hb1, hle⟩
      · exact Or.inl (Or.inr (Or.inl (hat ▸ hk)))
      · rw [hb1] at hk; injection hk with hk; exact Or.inr (by omega)
    · exact Or.inl (Or.inr (Or.inr hk))
  refine k v1 w1 ⟨h.d.kept hk (fun k hk hn => (h.gi k hk).1 hn.symm), hls _ hmu (fun k ho => Or.inr (Or.inl ho)), h.v.step hk hS (fun k ho hn => h.ne k hn.symm ho) hmu (fun k ho => Or.inr (Or.inr ho)), fun k h1 h2 => ?_, fun k hk => ⟨fun ho => ?_, (h.gi k hk).2⟩, h.bl.trans hb⟩ (hk.mono hS) hmu
  · rcases hat with hat | ⟨b, hb1, hle⟩
    · exact h.ne k (hat ▸ h1) h2
    · rw [hb1] at h1
      injection h1 with h1
      have := h.v.lt k h2
      omega
  · rcases hat with hat | ⟨b, hb1, hle⟩
    · exact (h.gi k hk).1 (hat ▸ ho)
    · rw [hb1] at ho
      injection ho with ho
      have := (h.d.base k hk).2
      omega
theorem JSt.appW {P : Program} {ops : Array Oper} {rest : List Oper} {o : Oper} {a : Act} {Q : Exit → Act → World → Prop} (h : JSt w W iv tv vals xss tvs vg gs vw hs) (hgd : o.guard = none) (s x : Operand) (t : TypeId)
    (ho : o.op = .call { callee := .builtin .append, args := #[s, x], argTypes := #[t, t] }) (ht : P.underlying t = some (.slice 23)) (hinfo : (P.info? 23).map (fun i => (i.zero, i.size, i.bytes)) = some (some (.slice none 0 0), 1, 24))
    (l : List S28) (A1 : Option Addr) (cc : Nat) (hs0 : a.eval s = vw) (hx0 : a.eval x = .slice (some ⟨W.heap.size, 0, none⟩) 1 1) (hcc : l.length ≤ cc) (hp1 : Safe (fun W => k28.C W A1 l.length l) W (JM w.heap.size iv tv vals vg vw)) (hlen : hs.length ≤ 1000)
    (k : ∀ v1 w1, JSt w w1 iv tv vals xss tvs vg gs v1 (hs ++ [l]) → Kept W w1 (JM w.heap.size iv tv vals vg vw) → (∀ k, JM w.heap.size iv tv vals vg v1 k → JM w.heap.size iv tv vals vg vw k ∨ W.heap.size ≤ k) → wpList P ops Q rest (a.put o.dst v1) w1) :
    wpList P ops Q (o :: rest) a (W.alloc (.cells #[.slice A1 l.length cc] 23)) := by
  refine LS_append k28 (w0 := W) w.heap.size hgd s x t 23 ho ht hinfo vw hs l A1 cc _ hs0 hx0 hcc hp1 h.v (Below.refl _ _) h.bl.size (by omega) ?_
  intro v1 w1 hls hb hk hat
  have hS : ∀ k, some k = vw.ownBlock → JM w.heap.size iv tv vals vg vw k := fun k hk => Or.inr (Or.inr hk.symm)
  have hmu : ∀ k, JM w.heap.size iv tv vals vg v1 k → JM w.heap.size iv tv vals vg vw k ∨ W.heap.size ≤ k := by
    rintro k (hk | hk | hk)
    · exact Or.inl (Or.inl hk)
    · exact Or.inl (Or.inr (Or.inl hk))
    · rcases hat with hat | ⟨b, hb1, hle⟩
      · exact Or.inl (Or.inr (Or.inr (hat ▸ hk)))
      · rw [hb1] at hk; injection hk with hk; exact Or.inr (by omega)
  refine k v1 w1 ⟨h.d.kept hk (fun k hk hn => (h.gi k hk).2 hn.symm), h.g.step hk hS (fun k ho hn => h.ne k ho hn.symm) hmu (fun k ho => Or.inr (Or.inl ho)), hls _ hmu (fun k ho => Or.inr (Or.inr ho)), fun k h1 h2 => ?_, fun k hk => ⟨(h.gi k hk).1, fun ho => ?_⟩, h.bl.trans hb⟩ (hk.mono hS) hmu
  · rcases hat with hat | ⟨b, hb1, hle⟩
    · exact h.ne k h1 (hat ▸ h2)
    · rw [hb1] at h2
      injection h2 with h2
      have := h.g.lt k h1
      omega
  · rcases hat with hat | ⟨b, hb1, hle⟩
    · exact (h.gi k hk).2 (hat ▸ ho)
    · rw [hb1] at ho
      injection ho with ho
      have := (h.d.base k hk).2
      omega
end
end Go.Proofs.YtidcchopmbodkaaDoor.Sp
end
section
namespace Go.Proofs.YtidcchopmbodkaaDoor.Sp
open Go.RowKit Go.Proofs.YtidcchopmbodkaaDoorW.PrintWords Go.Proofs.YtidcchopmbodkaaDoorW.PrintLast Go.Proofs.YtidcchopmbodkaaDoorW.PrintMore
attribute [local go_sem] max2_int min2_int max_two min_two max_three min_three max_four min_four   -- for this text's walks alone
set_option linter.unusedVariables false
set_option linter.unusedSimpArgs false
def postbagref4_put.l0 : Nat → List (S28) → Int → Int → List (S28) → List (S28) → Int → Option ((List (S28)))
 | 0, _, _, _, _, _, _ => none
 | k + 1, x0, x1, x2, x7, x8, x9 => if x9 < (x0.length : Int) then (if 0 ≤ x9 then (if ((rd_T28 x0 x9).f1) < (wrap64 (x1 - 1)) then (if x7.length < 8796093022208 then (postbagref4_put.l0 k x0 x1 x2 (x7 ++ [(⟨(rd_T28 x0 x9).f0, (rd_T28 x0 x9).f1⟩ : S28)]) x8 (wrap64 (x9 + 1))) else (none)) else (if ((rd_T28 x0 x9).f0) > (wrap64 (x2 + 1)) then (if x8.length < 8796093022208 then (postbagref4_put.l0 k x0 x1 x2 x7 (x8 ++ [(⟨(rd_T28 x0 x9).f0, (rd_T28 x0 x9).f1⟩ : S28)]) (wrap64 (x9 + 1))) else (none)) else (postbagref4_put.l0 k x0 (mn x1 ((rd_T28 x0 x9).f0)) (mx x2 ((rd_T28 x0 x9).f1)) x7 x8 (wrap64 (x9 + 1))))) else (none)) else (if x7.length < 8796093022208 then ((some (x7 ++ [(⟨x1, x2⟩ : S28)] : List (S28))).bind fun y260 => (if y260.length + x8.length < 8796093022208 then (some (y260 ++ x8)) else (none))) else (none))
def postbagref4_put.f (k : Nat) (l0 : List (S28)) (a1 : Int) (a2 : Int) : Option ((List (S28))) := postbagref4_put.l0 k l0 a1 a2 ([] : List (S28)) ([] : List (S28)) 0
set_option maxHeartbeats 8000000 in
set_option maxRecDepth 100000 in
theorem postbagref4_put.calls (k : Nat) (A0 : Option Addr) (c0 : Nat) (l0 : List (S28)) (a1 : Int) (a2 : Int) (r : List (S28)) (w : World) (hr0 : Kd.C k28 w A0 l0.length l0) (hc0 : l0.length ≤ c0) (h : postbagref4_put.f k l0 a1 a2 = some r) :
  Calls Tryd.prog 53 #[.slice A0 l0.length c0, .int .i64 a1, .int .i64 a2] w fun e w' => ∃ v0_ : Value, e = .returned (v0_) ∧ Kd.R k28 28 w' w.heap.size (fun _ => True) v0_ r ∧ Below w.heap.size w w' := by
 have hu28 := Tryd.underlying28
 have HR0 := Aside0.mk hr0
 have HC0 := Aside0.mk hc0
 clear hr0 hc0
 have HB := Aside0.mk (Below.refl w.heap.size w)
 have H : (postbagref4_put.l0 k l0 a1 a2 ([] : List (S28)) ([] : List (S28)) 0) = some r := h
 clear h
 have H' := Aside0.mk H
 clear H
 go_enter Tryd.func53, Tryd.ntmps53
 go_wp2
 go_loopg [1, 2, 7, 8, 9] k (fun kq v1 v2 v7 v8 v9 w' => ∃ (x1_1 : Int) (x2_1 : Int) (x7_1 : List (S28)) (x8_1 : List (S28)) (x9_1 : Int), v1 = .int .i64 x1_1 ∧ v2 = .int .i64 x2_1 ∧ v9 = .int .i64 x9_1 ∧ Aside0 (postbagref4_put.l0 kq l0 x1_1 x2_1 x7_1 x8_1 x9_1 = some r) ∧ Aside0 (kq ≤ k) ∧ Aside0 (Kd.R k28 28 w' w.heap.size (fun k_ => some k_ ≠ (v8 : Value).ownBlock) v7 x7_1) ∧ Aside0 (Kd.R k28 28 w' w.heap.size (fun k_ => some k_ ≠ (v7 : Value).ownBlock) v8 x8_1) ∧ Aside0 (Below w.heap.size w w'))
 case atStart => exact ⟨(a1), (a2), (([] : List (S28))), (([] : List (S28))), (0), (by first | rfl | (simp; done) | (simp [*]; done)), (by first | rfl | (simp; done) | (simp [*]; done)), (by first | rfl | (simp; done) | (simp [*]; done)), H', ⟨Nat.le_refl _⟩, ⟨by first | exact Kd.R_nil _ _ _ _ _ | exact Kd.N_nil _ _ _ _ _ | exact Kd.V_nil _ _ _ _ _ | exact Kd.Q_nil _ _ _ _ _ | exact Kd.S_nil _ _ _ _ _⟩, ⟨by first | exact Kd.R_nil _ _ _ _ _ | exact Kd.N_nil _ _ _ _ _ | exact Kd.V_nil _ _ _ _ _ | exact Kd.Q_nil _ _ _ _ _ | exact Kd.S_nil _ _ _ _ _⟩, ⟨by repeat (first | (with_reducible first | exact HB.out | apply below_alloc | apply pw_below_drewN | apply below_drew1) | exact HB.out)⟩⟩
 case round =>
  clear H'
  try clear p2
  obtain ⟨x1_1, x2_1, x7_1, x8_1, x9_1, rfl, rfl, rfl, HA, HK1, HO_7, HO_8, HB⟩ := hrel
  cases gk with
  | zero => exact absurd HA.out (by simp [postbagref4_put.l0])
  | succ k1 =>
   have H := HA.out
   clear HA
   simp only [postbagref4_put.l0] at H
   by_cases c4 : x9_1 < (l0.length : Int)
   ·rw [if_pos c4] at H
    have c4b0 : decide (x9_1 < (l0.length : Int)) = true := decide_eq_true c4
    clear c4
    by_cases c5 : 0 ≤ x9_1
    ·rw [if_pos c5] at H
     have c5b0 : decide (0 ≤ x9_1) = true := decide_eq_true c5
     clear c5
     by_cases c6 : ((rd_T28 l0 x9_1).f1) < (wrap64 (x1_1 - 1))
     ·rw [if_pos c6] at H
      have c6b0 : decide (((rd_T28 l0 x9_1).f1) < (wrap64 (x1_1 - 1))) = true := decide_eq_true c6
      clear c6
      by_cases c7 : x7_1.length < 8796093022208
      ·rw [if_pos c7] at H
       have LMc7 := Aside0.mk c7
       clear c7
       obtain ⟨y268, hy268⟩ : ∃ y_ : List (S28), y_ = (x7_1 ++ [(⟨(rd_T28 l0 x9_1).f0, (rd_T28 l0 x9_1).f1⟩ : S28)]) := ⟨_, rfl⟩
       replace H : (postbagref4_put.l0 k1 l0 x1_1 x2_1 y268 x8_1 (wrap64 (x9_1 + 1))) = some r := by first | (rw [hy268]; with_reducible exact H) | (have H2_ := (Option.bind_some _ _).symm.trans H; rw [hy268]; with_reducible exact H2_) | (have H2_ := (Option.bind_some _ _).symm.trans H; with_reducible exact H2_) | with_reducible exact H | (rw [hy268]; exact H) | exact H
       have Ny268 := Aside0.mk hy268
       clear hy268
       have H' := Aside0.mk H
       clear H
       have p266 : 0 ≤ (x9_1 : Int) := of_decide_eq_true (by first | (with_reducible assumption) | assumption)
       have q266 : x9_1 < (l0.length : Int) := of_decide_eq_true (by first | (with_reducible assumption) | assumption)
       obtain ⟨ad266, e266, hx266_0, hx266_1⟩ := at_T28 HR0.out x9_1 p266 q266
       cases e266
       replace hx266_0 := (HB.out.cell (World.block_lt_of_cell? w _ hx266_0)).trans hx266_0
       replace hx266_1 := (HB.out.cell (World.block_lt_of_cell? w _ hx266_1)).trans hx266_1
       replace p266 := eq_true p266
       replace q266 := eq_true q266
       have p267 : 0 ≤ (x9_1 : Int) := of_decide_eq_true (by first | (with_reducible assumption) | assumption)
       have q267 : x9_1 < (l0.length : Int) := of_decide_eq_true (by first | (with_reducible assumption) | assumption)
       obtain ⟨ad267, e267, hx267_0, hx267_1⟩ := at_T28 HR0.out x9_1 p267 q267
       obtain rfl : ad266 = ad267 := (by injection e267)
       replace hx267_0 := (HB.out.cell (World.block_lt_of_cell? w _ hx267_0)).trans hx267_0
       replace hx267_1 := (HB.out.cell (World.block_lt_of_cell? w _ hx267_1)).trans hx267_1
       replace p267 := eq_true p267
       replace q267 := eq_true q267
       go_wp2_with (first | ((with_reducible refine gate_builtin (b := .append) (xs := #[.tmp 39, .tmp 44]) rfl ?_); at_builtin; refine Kd.R_append k28 (w0 := w) w.heap.size rfl (.tmp 39) (.tmp 44) 23 28 (.agg #[(.int .i64 0), (.int .i64 0)]) 16 rfl Tryd.underlying23 info28 rfl (by decide) (by omega) u7 x7_1 (⟨(rd_T28 l0 x9_1).f0, (rd_T28 l0 x9_1).f1⟩ : S28) [.int .i64 ((rd_T28 l0 x9_1).f0), .int .i64 ((rd_T28 l0 x9_1).f1)] (fun k_ => some k_ ≠ (u8 : Value).ownBlock) (fun _ => False) rfl rfl ?aP (fun _ hk => hk.elim) ?aF ?aO ?aB ?aS ?aL ?_; (case aP => exact k28_mkM _ _ _ (⟨(rd_T28 l0 x9_1).f0, (rd_T28 l0 x9_1).f1⟩ : S28)); (case aB => exact (by repeat (first | (with_reducible first | exact HB.out | apply below_alloc | apply pw_below_drewN | apply below_drew1) | exact HB.out))); (case aF => exact (fun k_ hk => Kd.fresh' (Kd.R_lt (by (with_reducible repeat (first | apply Kd.R_alloc | apply Kd.R_drewN | apply Kd.R_drew)); exact HO_8.out)) k_ hk)); (case aO => exact (by (with_reducible repeat (first | apply Kd.R_alloc | apply Kd.R_drewN | apply Kd.R_drew)); exact HO_7.out)); (case aS => exact (below_size (by repeat (first | (with_reducible first | exact HB.out | apply below_alloc | apply pw_below_drewN | apply below_drew1) | exact HB.out)))); (case aL => have := LMc7.out; omega); intro v269 w8 ho hb hg hat; rw [← Ny268.out] at ho; have n0_ := Aside0.mk (Kd.R_after (ok := (fun _ => True)) (by (with_reducible repeat (first | apply Kd.R_alloc | apply Kd.R_drewN | apply Kd.R_drew)); exact Kd.R_mono HO_8.out (fun _ hk => ⟨trivial, hk⟩)) hg hat); have n1_ := Aside0.mk (hb); have n2_ := Aside0.mk (ho); clear HO_8; clear HB; clear HO_7; have HO_8 := n0_; have HB := n1_; have HO270 := n2_; clear n0_ n1_ n2_; clear ho hb hg hat))
       go_roundg k1
       case measure => have := HK1.out; omega
       case rel => exact ⟨(x1_1), (x2_1), (y268), (x8_1), (wrap64 (x9_1 + 1)), (by first | rfl | (simp; done) | (simp [*]; done)), (by first | rfl | (simp; done) | (simp [*]; done)), (by first | rfl | (simp; done) | (simp [*]; done)), H', ⟨by have := HK1.out; omega⟩, ⟨by (with_reducible repeat (first | apply Kd.R_alloc | apply Kd.R_drewN | apply Kd.R_drew)); exact HO270.out⟩, ⟨by (with_reducible repeat (first | apply Kd.R_alloc | apply Kd.R_drewN | apply Kd.R_drew)); exact Kd.R_mono HO_8.out (fun _ hk => hk.2)⟩, ⟨by repeat (first | (with_reducible first | exact HB.out | apply below_alloc | apply pw_below_drewN | apply below_drew1) | exact HB.out)⟩⟩
      ·rw [if_neg c7] at H
       exact absurd H (by simp)
     ·rw [if_neg c6] at H
      have c6b0 : decide (((rd_T28 l0 x9_1).f1) < (wrap64 (x1_1 - 1))) = false := decide_eq_false c6
      clear c6
      by_cases c9 : ((rd_T28 l0 x9_1).f0) > (wrap64 (x2_1 + 1))
      ·rw [if_pos c9] at H
       have c9b0 : decide ((wrap64 (x2_1 + 1)) < ((rd_T28 l0 x9_1).f0)) = true := decide_eq_true c9
       clear c9
       by_cases c10 : x8_1.length < 8796093022208
       ·rw [if_pos c10] at H
        have LMc10 := Aside0.mk c10
        clear c10
        obtain ⟨y273, hy273⟩ : ∃ y_ : List (S28), y_ = (x8_1 ++ [(⟨(rd_T28 l0 x9_1).f0, (rd_T28 l0 x9_1).f1⟩ : S28)]) := ⟨_, rfl⟩
        replace H : (postbagref4_put.l0 k1 l0 x1_1 x2_1 x7_1 y273 (wrap64 (x9_1 + 1))) = some r := by first | (rw [hy273]; with_reducible exact H) | (have H2_ := (Option.bind_some _ _).symm.trans H; rw [hy273]; with_reducible exact H2_) | (have H2_ := (Option.bind_some _ _).symm.trans H; with_reducible exact H2_) | with_reducible exact H | (rw [hy273]; exact H) | exact H
        have Ny273 := Aside0.mk hy273
        clear hy273
        have H' := Aside0.mk H
        clear H
        have p266 : 0 ≤ (x9_1 : Int) := of_decide_eq_true (by first | (with_reducible assumption) | assumption)
        have q266 : x9_1 < (l0.length : Int) := of_decide_eq_true (by first | (with_reducible assumption) | assumption)
        obtain ⟨ad266, e266, hx266_0, hx266_1⟩ := at_T28 HR0.out x9_1 p266 q266
        cases e266
        replace hx266_0 := (HB.out.cell (World.block_lt_of_cell? w _ hx266_0)).trans hx266_0
        replace hx266_1 := (HB.out.cell (World.block_lt_of_cell? w _ hx266_1)).trans hx266_1
        replace p266 := eq_true p266
        replace q266 := eq_true q266
        have p271 : 0 ≤ (x9_1 : Int) := of_decide_eq_true (by first | (with_reducible assumption) | assumption)
        have q271 : x9_1 < (l0.length : Int) := of_decide_eq_true (by first | (with_reducible assumption) | assumption)
        obtain ⟨ad271, e271, hx271_0, hx271_1⟩ := at_T28 HR0.out x9_1 p271 q271
        obtain rfl : ad266 = ad271 := (by injection e271)
        replace hx271_0 := (HB.out.cell (World.block_lt_of_cell? w _ hx271_0)).trans hx271_0
        replace hx271_1 := (HB.out.cell (World.block_lt_of_cell? w _ hx271_1)).trans hx271_1
        replace p271 := eq_true p271
        replace q271 := eq_true q271
        have p272 : 0 ≤ (x9_1 : Int) := of_decide_eq_true (by first | (with_reducible assumption) | assumption)
        have q272 : x9_1 < (l0.length : Int) := of_decide_eq_true (by first | (with_reducible assumption) | assumption)
        obtain ⟨ad272, e272, hx272_0, hx272_1⟩ := at_T28 HR0.out x9_1 p272 q272
        obtain rfl : ad266 = ad272 := (by injection e272)
        replace hx272_0 := (HB.out.cell (World.block_lt_of_cell? w _ hx272_0)).trans hx272_0
        replace hx272_1 := (HB.out.cell (World.block_lt_of_cell? w _ hx272_1)).trans hx272_1
        replace p272 := eq_true p272
        replace q272 := eq_true q272
        go_wp2_with (first | ((with_reducible refine gate_builtin (b := .append) (xs := #[.tmp 55, .tmp 60]) rfl ?_); at_builtin; refine Kd.R_append k28 (w0 := w) w.heap.size rfl (.tmp 55) (.tmp 60) 23 28 (.agg #[(.int .i64 0), (.int .i64 0)]) 16 rfl Tryd.underlying23 info28 rfl (by decide) (by omega) u8 x8_1 (⟨(rd_T28 l0 x9_1).f0, (rd_T28 l0 x9_1).f1⟩ : S28) [.int .i64 ((rd_T28 l0 x9_1).f0), .int .i64 ((rd_T28 l0 x9_1).f1)] (fun k_ => some k_ ≠ (u7 : Value).ownBlock) (fun _ => False) rfl rfl ?aP (fun _ hk => hk.elim) ?aF ?aO ?aB ?aS ?aL ?_; (case aP => exact k28_mkM _ _ _ (⟨(rd_T28 l0 x9_1).f0, (rd_T28 l0 x9_1).f1⟩ : S28)); (case aB => exact (by repeat (first | (with_reducible first | exact HB.out | apply below_alloc | apply pw_below_drewN | apply below_drew1) | exact HB.out))); (case aF => exact (fun k_ hk => Kd.fresh' (Kd.R_lt (by (with_reducible repeat (first | apply Kd.R_alloc | apply Kd.R_drewN | apply Kd.R_drew)); exact HO_7.out)) k_ hk)); (case aO => exact (by (with_reducible repeat (first | apply Kd.R_alloc | apply Kd.R_drewN | apply Kd.R_drew)); exact HO_8.out)); (case aS => exact (below_size (by repeat (first | (with_reducible first | exact HB.out | apply below_alloc | apply pw_below_drewN | apply below_drew1) | exact HB.out)))); (case aL => have := LMc10.out; omega); intro v274 w11 ho hb hg hat; rw [← Ny273.out] at ho; have n0_ := Aside0.mk (Kd.R_after (ok := (fun _ => True)) (by (with_reducible repeat (first | apply Kd.R_alloc | apply Kd.R_drewN | apply Kd.R_drew)); exact Kd.R_mono HO_7.out (fun _ hk => ⟨trivial, hk⟩)) hg hat); have n1_ := Aside0.mk (hb); have n2_ := Aside0.mk (ho); clear HO_7; clear HB; clear HO_8; have HO_7 := n0_; have HB := n1_; have HO275 := n2_; clear n0_ n1_ n2_; clear ho hb hg hat))
        go_roundg k1
        case measure => have := HK1.out; omega
        case rel => exact ⟨(x1_1), (x2_1), (x7_1), (y273), (wrap64 (x9_1 + 1)), (by first | rfl | (simp; done) | (simp [*]; done)), (by first | rfl | (simp; done) | (simp [*]; done)), (by first | rfl | (simp; done) | (simp [*]; done)), H', ⟨by have := HK1.out; omega⟩, ⟨by (with_reducible repeat (first | apply Kd.R_alloc | apply Kd.R_drewN | apply Kd.R_drew)); exact Kd.R_mono HO_7.out (fun _ hk => hk.2)⟩, ⟨by (with_reducible repeat (first | apply Kd.R_alloc | apply Kd.R_drewN | apply Kd.R_drew)); exact HO275.out⟩, ⟨by repeat (first | (with_reducible first | exact HB.out | apply below_alloc | apply pw_below_drewN | apply below_drew1) | exact HB.out)⟩⟩
       ·rw [if_neg c10] at H
        exact absurd H (by simp)
      ·rw [if_neg c9] at H
       have c9b0 : decide ((wrap64 (x2_1 + 1)) < ((rd_T28 l0 x9_1).f0)) = false := decide_eq_false c9
       clear c9
       obtain ⟨ji12, hji12⟩ : ∃ j_ : Int, (mn x1_1 ((rd_T28 l0 x9_1).f0)) = j_ := ⟨_, rfl⟩
       replace H : (postbagref4_put.l0 k1 l0 ji12 (mx x2_1 ((rd_T28 l0 x9_1).f1)) x7_1 x8_1 (wrap64 (x9_1 + 1))) = some r := by first | (rw [hji12] at H; exact H) | (simp only [hji12] at H ⊢; exact H)
       have hji12_ : (if ((rd_T28 l0 x9_1).f0) < x1_1 then ((rd_T28 l0 x9_1).f0) else x1_1) = ji12 := hji12
       obtain ⟨ji13, hji13⟩ : ∃ j_ : Int, (mx x2_1 ((rd_T28 l0 x9_1).f1)) = j_ := ⟨_, rfl⟩
       replace H : (postbagref4_put.l0 k1 l0 ji12 ji13 x7_1 x8_1 (wrap64 (x9_1 + 1))) = some r := by first | (rw [hji13] at H; exact H) | (simp only [hji13] at H ⊢; exact H)
       have hji13_ : (if x2_1 < ((rd_T28 l0 x9_1).f1) then ((rd_T28 l0 x9_1).f1) else x2_1) = ji13 := hji13
       have H' := Aside0.mk H
       clear H
       have p266 : 0 ≤ (x9_1 : Int) := of_decide_eq_true (by first | (with_reducible assumption) | assumption)
       have q266 : x9_1 < (l0.length : Int) := of_decide_eq_true (by first | (with_reducible assumption) | assumption)
       obtain ⟨ad266, e266, hx266_0, hx266_1⟩ := at_T28 HR0.out x9_1 p266 q266
       cases e266
       replace hx266_0 := (HB.out.cell (World.block_lt_of_cell? w _ hx266_0)).trans hx266_0
       replace hx266_1 := (HB.out.cell (World.block_lt_of_cell? w _ hx266_1)).trans hx266_1
       replace p266 := eq_true p266
       replace q266 := eq_true q266
       have p271 : 0 ≤ (x9_1 : Int) := of_decide_eq_true (by first | (with_reducible assumption) | assumption)
       have q271 : x9_1 < (l0.length : Int) := of_decide_eq_true (by first | (with_reducible assumption) | assumption)
       obtain ⟨ad271, e271, hx271_0, hx271_1⟩ := at_T28 HR0.out x9_1 p271 q271
       obtain rfl : ad266 = ad271 := (by injection e271)
       replace hx271_0 := (HB.out.cell (World.block_lt_of_cell? w _ hx271_0)).trans hx271_0
       replace hx271_1 := (HB.out.cell (World.block_lt_of_cell? w _ hx271_1)).trans hx271_1
       replace p271 := eq_true p271
       replace q271 := eq_true q271
       have p276 : 0 ≤ (x9_1 : Int) := of_decide_eq_true (by first | (with_reducible assumption) | assumption)
       have q276 : x9_1 < (l0.length : Int) := of_decide_eq_true (by first | (with_reducible assumption) | assumption)
       obtain ⟨ad276, e276, hx276_0, hx276_1⟩ := at_T28 HR0.out x9_1 p276 q276
       obtain rfl : ad266 = ad276 := (by injection e276)
       replace hx276_0 := (HB.out.cell (World.block_lt_of_cell? w _ hx276_0)).trans hx276_0
       replace hx276_1 := (HB.out.cell (World.block_lt_of_cell? w _ hx276_1)).trans hx276_1
       replace p276 := eq_true p276
       replace q276 := eq_true q276
       have p277 : 0 ≤ (x9_1 : Int) := of_decide_eq_true (by first | (with_reducible assumption) | assumption)
       have q277 : x9_1 < (l0.length : Int) := of_decide_eq_true (by first | (with_reducible assumption) | assumption)
       obtain ⟨ad277, e277, hx277_0, hx277_1⟩ := at_T28 HR0.out x9_1 p277 q277
       obtain rfl : ad266 = ad277 := (by injection e277)
       replace hx277_0 := (HB.out.cell (World.block_lt_of_cell? w _ hx277_0)).trans hx277_0
       replace hx277_1 := (HB.out.cell (World.block_lt_of_cell? w _ hx277_1)).trans hx277_1
       replace p277 := eq_true p277
       replace q277 := eq_true q277
       go_wp2
       go_roundg k1
       case measure => have := HK1.out; omega
       case rel => exact ⟨(ji12), (ji13), (x7_1), (x8_1), (wrap64 (x9_1 + 1)), (by first | rfl | (simp; done) | (simp only [← hji12] <;> (first | rfl | simp)) | (simp [*]; done)), (by first | rfl | (simp; done) | (simp only [← hji13] <;> (first | rfl | simp)) | (simp [*]; done)), (by first | rfl | (simp; done) | (simp [*]; done)), H', ⟨by have := HK1.out; omega⟩, ⟨by (with_reducible repeat (first | apply Kd.R_alloc | apply Kd.R_drewN | apply Kd.R_drew)); exact HO_7.out⟩, ⟨by (with_reducible repeat (first | apply Kd.R_alloc | apply Kd.R_drewN | apply Kd.R_drew)); exact HO_8.out⟩, ⟨by repeat (first | (with_reducible first | exact HB.out | apply below_alloc | apply pw_below_drewN | apply below_drew1) | exact HB.out)⟩⟩
    ·rw [if_neg c5] at H
     exact absurd H (by simp)
   ·rw [if_neg c4] at H
    have c4b0 : decide (x9_1 < (l0.length : Int)) = false := decide_eq_false c4
    clear c4
    by_cases c14 : x7_1.length < 8796093022208
    ·rw [if_pos c14] at H
     have LMc14 := Aside0.mk c14
     clear c14
     obtain ⟨y260, hy260⟩ : ∃ y_ : List (S28), y_ = (x7_1 ++ [(⟨x1_1, x2_1⟩ : S28)]) := ⟨_, rfl⟩
     replace H : (if y260.length + x8_1.length < 8796093022208 then (some (y260 ++ x8_1)) else (none)) = some r := by first | (rw [hy260]; with_reducible exact H) | (have H2_ := (Option.bind_some _ _).symm.trans H; rw [hy260]; with_reducible exact H2_) | (have H2_ := (Option.bind_some _ _).symm.trans H; with_reducible exact H2_) | with_reducible exact H | (rw [hy260]; exact H) | exact H
     have Ny260 := Aside0.mk hy260
     clear hy260
     by_cases c15 : y260.length + x8_1.length < 8796093022208
     ·rw [if_pos c15] at H
      have LMc15 := Aside0.mk c15
      clear c15
      obtain ⟨y263, hy263⟩ : ∃ y_ : List (S28), y_ = (y260 ++ x8_1) := ⟨_, rfl⟩
      replace H : (some y263) = some r := by first | (rw [hy263]; with_reducible exact H) | (have H2_ := (Option.bind_some _ _).symm.trans H; rw [hy263]; with_reducible exact H2_) | (have H2_ := (Option.bind_some _ _).symm.trans H; with_reducible exact H2_) | with_reducible exact H | (rw [hy263]; exact H) | exact H
      have Ny263 := Aside0.mk hy263
      clear hy263
      obtain rfl := Option.some.inj H
      go_wp2_with (first | ((with_reducible refine gate_builtin (b := .append) (xs := #[.tmp 62, .tmp 66]) rfl ?_); at_builtin; refine Kd.R_append k28 (w0 := w) w.heap.size rfl (.tmp 62) (.tmp 66) 23 28 (.agg #[(.int .i64 0), (.int .i64 0)]) 16 rfl Tryd.underlying23 info28 rfl (by decide) (by omega) u7 x7_1 (⟨x1_1, x2_1⟩ : S28) [.int .i64 x1_1, .int .i64 x2_1] (fun k_ => some k_ ≠ (u8 : Value).ownBlock) (fun _ => False) rfl rfl ?aP (fun _ hk => hk.elim) ?aF ?aO ?aB ?aS ?aL ?_; (case aP => exact k28_mkM _ _ _ (⟨x1_1, x2_1⟩ : S28)); (case aB => exact (by repeat (first | (with_reducible first | exact HB.out | apply below_alloc | apply pw_below_drewN | apply below_drew1) | exact HB.out))); (case aF => exact (fun k_ hk => Kd.fresh' (Kd.R_lt (by (with_reducible repeat (first | apply Kd.R_alloc | apply Kd.R_drewN | apply Kd.R_drew)); exact HO_8.out)) k_ hk)); (case aO => exact (by (with_reducible repeat (first | apply Kd.R_alloc | apply Kd.R_drewN | apply Kd.R_drew)); exact HO_7.out)); (case aS => exact (below_size (by repeat (first | (with_reducible first | exact HB.out | apply below_alloc | apply pw_below_drewN | apply below_drew1) | exact HB.out)))); (case aL => have := LMc14.out; omega); intro v261 w16 ho hb hg hat; rw [← Ny260.out] at ho; have n0_ := Aside0.mk (Kd.R_after (ok := (fun _ => True)) (by (with_reducible repeat (first | apply Kd.R_alloc | apply Kd.R_drewN | apply Kd.R_drew)); exact Kd.R_mono HO_8.out (fun _ hk => ⟨trivial, hk⟩)) hg hat); have n1_ := Aside0.mk (hb); have n2_ := Aside0.mk (ho); clear HO_8; clear HB; clear HO_7; have HO_8 := n0_; have HB := n1_; have HO262 := n2_; clear n0_ n1_ n2_; clear ho hb hg hat; obtain ⟨Ao18, co18, eo18⟩ := Kd.R_slice HO_8.out; subst eo18) | ((with_reducible refine gate_builtin (b := .append) (xs := #[.tmp 68, .tmp 69]) rfl ?_); at_builtin; refine Kd.R_append_rows k28 (w0 := w) w.heap.size rfl (.tmp 68) (.tmp 69) 23 28 (.agg #[(.int .i64 0), (.int .i64 0)]) 16 rfl Tryd.underlying23 info28 rfl (by decide) (by omega) v261 y260 x8_1 _ _ _ (fun k_ => some k_ ≠ (.slice Ao18 x8_1.length co18 : Value).ownBlock) (fun _ => False) rfl rfl ?aO ?aR (fun _ _ h => h) (fun _ h => h.elim) ?aF ?aB ?aS ?aL ?_; (case aR => repeat (first | exact (Kd.R_reads' HO_8.out).2.2 | (with_reducible refine Kd.C_alloc ?_ _) | (with_reducible refine Kd.C_drewN ?_ _) | (with_reducible refine Kd.C_drew ?_))); (case aB => exact (by repeat (first | (with_reducible first | exact HB.out | apply below_alloc | apply pw_below_drewN | apply below_drew1) | exact HB.out))); (case aF => exact (fun k_ hk => Kd.fresh' (Kd.R_lt (by (with_reducible repeat (first | apply Kd.R_alloc | apply Kd.R_drewN | apply Kd.R_drew)); exact HO_8.out)) k_ hk)); (case aO => exact (by (with_reducible repeat (first | apply Kd.R_alloc | apply Kd.R_drewN | apply Kd.R_drew)); exact HO262.out)); (case aS => exact (below_size (by repeat (first | (with_reducible first | exact HB.out | apply below_alloc | apply pw_below_drewN | apply below_drew1) | exact HB.out)))); (case aL => have := LMc15.out; omega); intro v264 w17 ho hb hg hat; rw [← Ny263.out] at ho; have n0_ := Aside0.mk (Kd.R_after (ok := (fun _ => True)) (by (with_reducible repeat (first | apply Kd.R_alloc | apply Kd.R_drewN | apply Kd.R_drew)); exact HO_8.out) hg hat); have n1_ := Aside0.mk (hb); have n2_ := Aside0.mk (ho); clear HO_8; clear HB; clear HO262; have HO_8 := n0_; have HB := n1_; have HO265 := n2_; clear n0_ n1_ n2_; clear ho hb hg hat))
      go_ret
      exact ⟨_, by first | rfl | (simp [errW_none, errW_some] <;> rfl) | (simp [*, errW_none, errW_some] <;> rfl), by (with_reducible repeat (first | apply Kd.R_alloc | apply Kd.R_drewN | apply Kd.R_drew)); exact Kd.R_mono HO265.out (fun _ hk => trivial), by repeat (first | (with_reducible first | exact HB.out | apply below_alloc | apply pw_below_drewN | apply below_drew1) | exact HB.out)⟩
     ·rw [if_neg c15] at H
      exact absurd H (by simp)
    ·rw [if_neg c14] at H
     exact absurd H (by simp)
end Go.Proofs.YtidcchopmbodkaaDoor.Sp
end
section
namespace Go.Proofs.YtidcchopmbodkaaDoor.Sp
open Go.RowKit Go.Proofs.YtidcchopmbodkaaDoorW.PrintWords Go.Proofs.YtidcchopmbodkaaDoorW.PrintLast Go.Proofs.YtidcchopmbodkaaDoorW.PrintMore
attribute [local go_sem] max2_int min2_int max_two min_two max_three min_three max_four min_four   -- for this text's walks alone
set_option linter.unusedVariables false
set_option linter.unusedSimpArgs false
end Go.Proofs.YtidcchopmbodkaaDoor.Sp
end
section
namespace Go.Proofs.YtidcchopmbodkaaDoor.Sp
open Go.RowKit Go.Proofs.YtidcchopmbodkaaDoorW.PrintWords Go.Proofs.YtidcchopmbodkaaDoorW.PrintLast Go.Proofs.YtidcchopmbodkaaDoorW.PrintMore
open Canon
def In4 (x : S28) : Prop := 0 ≤ x.f0 ∧ x.f0 ≤ 4294967295 ∧ 0 ≤ x.f1 ∧ x.f1 ≤ 4294967295
theorem un_at (x : S28) : (⟨x.f0, x.f1⟩ : S28) = x := rfl
theorem rput_l0 (l : List S28) (hl : l.length ≤ 1000000) (hb : ∀ x ∈ l, In4 x) (d : Nat) : ∀ (i k : Nat) (m b : List S28) (x y : Int), i + d = l.length → d < k → m.length + b.length ≤ i → 0 ≤ x → x ≤ 4294967295 → 0 ≤ y → y ≤ 4294967295 →
    postbagref4_put.l0 k l x y m b (i : Int) = some ((putL ((l.drop i).map pr) (m.map pr) (b.map pr) x y).map un) := by
  induction d with
  | zero =>
    intro i k m b x y hi hk hm _ _ _ _
    obtain ⟨k, rfl⟩ : ∃ j, k = j + 1 := ⟨k - 1, by omega⟩
    simp only [postbagref4_put.l0]
    rw [if_neg (by omega), if_pos (by omega), Option.bind_some, if_pos (by simp; omega), List.drop_of_length_le (by omega)]
    simp only [List.map_nil, putL, List.map_append, List.map_cons, un_pr]
    rfl
  | succ d ih =>
    intro i k m b x y hi hk hm h1 h2 h3 h4
    obtain ⟨k, rfl⟩ : ∃ j, k = j + 1 := ⟨k - 1, by omega⟩
    have hil : i < l.length := by omega
    have hx := hb l[i] (List.getElem_mem hil)
    unfold In4 at hx
    have e1 : wrap64 (x - 1) = x - 1 := by unfold wrap64; omega
    have e2 : wrap64 (y + 1) = y + 1 := by unfold wrap64; omega
    simp only [postbagref4_put.l0]
    rw [if_pos (by omega), if_pos (by omega), rd28_at l i hil, e1, e2, w64n i (by omega), un_at, mn_eq, mx_eq, List.drop_eq_getElem_cons hil, List.map_cons]
    simp only [putL]
    clear e1 e2
    by_cases c1 : l[i].f1 < x - 1
    · rw [if_pos c1, if_pos (by omega), if_pos (show (pr l[i]).2 < x - 1 from c1)]
      have := ih (i + 1) k (m ++ [l[i]]) b x y (by omega) (by omega) (by simp; omega) h1 h2 h3 h4
      rw [List.map_append] at this
      exact this
    · rw [if_neg c1, if_neg (show ¬ (pr l[i]).2 < x - 1 from c1)]
      by_cases c2 : l[i].f0 > y + 1
      · rw [if_pos c2, if_pos (by omega), if_pos (show (pr l[i]).1 > y + 1 from c2)]
        have := ih (i + 1) k m (b ++ [l[i]]) x y (by omega) (by omega) (by simp; omega) h1 h2 h3 h4
        rw [List.map_append] at this
        exact this
      · rw [if_neg c2, if_neg (show ¬ (pr l[i]).1 > y + 1 from c2)]
        exact ih (i + 1) k m b (min x l[i].f0) (max y l[i].f1) (by omega) (by omega) (by omega) (by omega) (by omega) (by omega) (by omega)
def putA (l : List S28) (a b : Int) : List S28 := (put (l.map pr) a b).map un
theorem rput_f (l : List S28) (hl : l.length ≤ 1000000) (hb : ∀ x ∈ l, In4 x) (a b : Int) (h1 : 0 ≤ a) (h2 : a ≤ 4294967295) (h3 : 0 ≤ b) (h4 : b ≤ 4294967295) (k : Nat) (hk : l.length < k) : postbagref4_put.f k l a b = some (putA l a b) := by
  unfold postbagref4_put.f
  exact rput_l0 l hl hb l.length 0 k [] [] a b (by omega) hk (by simp) h1 h2 h3 h4
def InR (r : Rg) : Prop := 0 ≤ r.1 ∧ r.1 ≤ 4294967295 ∧ 0 ≤ r.2 ∧ r.2 ≤ 4294967295
theorem putL_in : ∀ (l m behind : List Rg) (a b : Int), (∀ r ∈ l, InR r) → (∀ r ∈ m, InR r) → (∀ r ∈ behind, InR r) → InR (a, b) → ∀ r ∈ putL l m behind a b, InR r
  | [], m, behind, a, b, _, hm, hb, hab => by
    intro r hr
    simp only [putL, List.mem_append, List.mem_singleton] at hr
    rcases hr with (h | h) | h
    · exact hm r h
    · subst h; exact hab
    · exact hb r h
  | s :: l, m, behind, a, b, hl, hm, hb, hab => by
    have hs := hl s (by simp)
    have hl' : ∀ r ∈ l, InR r := fun r hr => hl r (by simp [hr])
    simp only [putL]
    split
    · exact putL_in l _ _ _ _ hl' (fun r hr => by rcases List.mem_append.1 hr with h | h; · exact hm r h
                                                  · rw [List.mem_singleton.1 h]; exact hs) hb hab
    · split
      · exact putL_in l _ _ _ _ hl' hm (fun r hr => by rcases List.mem_append.1 hr with h | h; · exact hb r h
                                                       · rw [List.mem_singleton.1 h]; exact hs) hab
      · refine putL_in l _ _ _ _ hl' hm hb ?_
        unfold InR at hs hab ⊢
        simp only at hs hab ⊢
        omega
theorem putA_in (l : List S28) (a b : Int) (hl : ∀ x ∈ l, In4 x) (h1 : 0 ≤ a) (h2 : a ≤ 4294967295) (h3 : 0 ≤ b) (h4 : b ≤ 4294967295) : ∀ x ∈ putA l a b, In4 x := by
  intro x hx
  obtain ⟨r, hr, rfl⟩ := List.mem_map.1 hx
  exact putL_in (l.map pr) [] [] a b (fun r hr => by obtain ⟨y, hy, rfl⟩ := List.mem_map.1 hr; exact hl y hy) (fun r hr => by cases hr) (fun r hr => by cases hr) ⟨h1, h2, h3, h4⟩ r hr
theorem putA_len (l : List S28) (a b : Int) : (putA l a b).length ≤ l.length + 1 := by
  unfold putA put
  have := putL_len (l.map pr) [] [] a b
  rw [List.length_map]
  simp only [List.length_map, List.length_nil] at this
  omega
theorem pr_putA (l : List S28) (a b : Int) : (putA l a b).map pr = put (l.map pr) a b := pr_un _
end Go.Proofs.YtidcchopmbodkaaDoor.Sp
end
section
namespace Go.Proofs.YtidcchopmbodkaaDoor.Sp
open Go.RowKit Go.Proofs.YtidcchopmbodkaaDoorW.PrintWords Go.Proofs.YtidcchopmbodkaaDoorW.PrintLast Go.Proofs.YtidcchopmbodkaaDoorW.PrintMore
attribute [local go_sem] max2_int min2_int max_two min_two max_three min_three max_four min_four   -- for this text's walks alone
set_option linter.unusedVariables false
set_option linter.unusedSimpArgs false
end Go.Proofs.YtidcchopmbodkaaDoor.Sp
end
section
namespace Go.Proofs.YtidcchopmbodkaaDoor.Sp
open Go.RowKit Go.Proofs.YtidcchopmbodkaaDoorW.PrintWords Go.Proofs.YtidcchopmbodkaaDoorW.PrintLast Go.Proofs.YtidcchopmbodkaaDoorW.PrintMore
attribute [local go_sem] max2_int min2_int max_two min_two max_three min_three max_four min_four   -- for this text's walks alone
set_option linter.unusedVariables false
set_option linter.unusedSimpArgs false
end Go.Proofs.YtidcchopmbodkaaDoor.Sp
end
section
namespace Go.Proofs.YtidcchopmbodkaaDoor.Sp
open Go.RowKit Go.Proofs.YtidcchopmbodkaaDoorW.PrintWords Go.Proofs.YtidcchopmbodkaaDoorW.PrintLast Go.Proofs.YtidcchopmbodkaaDoorW.PrintMore
attribute [local go_sem] max2_int min2_int max_two min_two max_three min_three max_four min_four   -- for this text's walks alone
set_option linter.unusedVariables false
set_option linter.unusedSimpArgs false
end Go.Proofs.YtidcchopmbodkaaDoor.Sp
end
section
namespace Go.Proofs.YtidcchopmbodkaaDoor.Sp
open Go.RowKit Go.Proofs.YtidcchopmbodkaaDoorW.PrintWords Go.Proofs.YtidcchopmbodkaaDoorW.PrintLast Go.Proofs.YtidcchopmbodkaaDoorW.PrintMore
attribute [local go_sem] max2_int min2_int max_two min_two max_three min_three max_four min_four   -- for this text's walks alone
set_option linter.unusedVariables false
set_option linter.unusedSimpArgs false
end Go.Proofs.YtidcchopmbodkaaDoor.Sp
end
section
namespace Go.Proofs.YtidcchopmbodkaaDoor.Sp
open Go.RowKit Go.Proofs.YtidcchopmbodkaaDoorW.PrintWords Go.Proofs.YtidcchopmbodkaaDoorW.PrintLast Go.Proofs.YtidcchopmbodkaaDoorW.PrintMore
open Canon
theorem rsound_f (n : Int) : postbagref4_sound.f n = some (decide (0 ≤ n) && decide (n ≤ 4294967295)) := by
  unfold postbagref4_sound.f
  by_cases h : n ≥ 0
  · rw [if_pos h, decide_eq_true (show 0 ≤ n from h), Bool.true_and]
  · rw [if_neg h, decide_eq_false (show ¬ 0 ≤ n from h), Bool.false_and]
end Go.Proofs.YtidcchopmbodkaaDoor.Sp
end
