/- span.Has in the print's form: of a set that is read it tells, in the program's own words (its closures' answers, piece by piece), whether the number is there. -/
import Derived.Test.YtidcchopmbodkaaDoorSp0
import Derived.Test.YtidcchopmbodkaaDoorShl
import Derived.Lib.Hide
import Derived.Laws.EntriesVeiled
namespace Go.Proofs.YtidcchopmbodkaaDoor.Sp
open Go.RowKit Go.Proofs.YtidcchopmbodkaaDoorW.PrintWords Go.Proofs.YtidcchopmbodkaaDoorW.PrintLast Go.Proofs.YtidcchopmbodkaaDoorW.PrintMore
attribute [local go_sem] max2_int min2_int max_two min_two

/-- Where a row that is read lies. -/
theorem c28_form {w : World} {A : Option Addr} {l : List S28} (h : Kd.C k28 w A l.length l) (hn : 0 < l.length) :
    ∃ b off, A = some ⟨b, off, none⟩ ∧ b < w.heap.size ∧ ∀ j (x : S28), l[j]? = some x → w.cell? ⟨b, off + j * 2, none⟩ = some (.int .i64 x.f0) ∧ w.cell? ⟨b, off + j * 2 + 1, none⟩ = some (.int .i64 x.f1) := by
  obtain ⟨_, _, h3⟩ := h
  obtain ⟨ad, rfl, hc⟩ := h3 hn
  obtain ⟨b, off, sp⟩ := ad
  have key : ∀ j (x : S28), l[j]? = some x → w.cell? (Addr.add ⟨b, off, sp⟩ (j * 2)) = some (.int .i64 x.f0) ∧ w.cell? (Addr.add ⟨b, off, sp⟩ (j * 2 + 1)) = some (.int .i64 x.f1) := by
    intro j x hx
    obtain ⟨c, _, hk, hcell⟩ := hc j x hx
    obtain rfl := k28_open hk
    exact ⟨hcell 0 _ rfl, hcell 1 _ rfl⟩
  have hl : ∃ x, l[0]? = some x := ⟨l[0]'hn, List.getElem?_eq_getElem hn⟩
  obtain ⟨x, hx⟩ := hl
  have k0 := (key 0 x hx).1
  have hs : sp = none := by
    cases sp with
    | none => rfl
    | some s =>
      exfalso
      have e : Addr.add ⟨b, off, some s⟩ (0 * 2) = ⟨b, off, some s⟩ := rfl
      rw [e] at k0
      unfold World.cell? at k0
      split at k0
      · simp at k0
      · cases k0
  subst hs
  have e : ∀ k, Addr.add ⟨b, off, none⟩ k = ⟨b, off + k, none⟩ := fun k => by
    unfold Addr.add
    split
    · rename_i h0; subst h0; rfl
    · rfl
  refine ⟨b, off, rfl, ?_, fun j x hx => ?_⟩
  · rw [e] at k0
    exact World.block_lt_of_cell? w _ k0
  · have := key j x hx
    rw [e, e] at this
    exact this
def enc28 (x : S28) : List Value := [.int .i64 x.f0, .int .i64 x.f1]

def rngB (x : S28) : Bool := decide (0 ≤ min x.f0 x.f1) && decide (max x.f0 x.f1 ≤ 4294967295)
def isE (g x : Int) : Int := if x = 0 then g else x
/-- Does a piece have a number? -/
def pieceB (n g : Int) (x : S28) : Bool := rngB x && (decide (min (isE g x.f0) (isE g x.f1) ≤ n) && decide (n ≤ max (isE g x.f0) (isE g x.f1)))

set_option maxHeartbeats 1000000 in
theorem rng_calls (x : S28) (w : World) : Calls Tryd.prog 49 #[.agg #[.int .i64 x.f0, .int .i64 x.f1]] w fun e w' => e = .returned (.bool (rngB x)) ∧ Below w.heap.size w w' := by
  obtain ⟨a, b⟩ := x
  have hB := Lib.hid ((Below.refl w.heap.size w).alloc (Nat.le_refl _) (.cells #[.int .i64 a, .int .i64 b] 28))
  go_enter Tryd.func49, Tryd.ntmps49
  go_wp2
  all_goals go_ret
  all_goals refine ⟨congrArg (fun b => Ending.returned (.bool b)) ?_, hB.out⟩
  all_goals (unfold rngB; rw [Bool.eq_iff_iff]; simp; omega)
/-- The star's own closure. -/
theorem is_calls (x g : Int) (p : Nat) (w : World) (hg : w.cell? ⟨p, 0, none⟩ = some (.int .i64 g)) :
    Calls Tryd.prog 46 #[.int .i64 x, .pointer (some ⟨p, 0, none⟩)] w fun e w' => e = .returned (.int .i64 (isE g x)) ∧ w = w' := by
  unfold isE
  by_cases h : x = 0
  · subst h
    go_enter Tryd.func46, Tryd.ntmps46
    go_wp2
    go_ret
    exact ⟨rfl, rfl⟩
  · have h1 : (x == 0) = false := by simpa using h
    rw [if_neg h]
    go_enter Tryd.func46, Tryd.ntmps46
    go_wp2
    go_ret
    exact ⟨rfl, rfl⟩
set_option maxHeartbeats 4000000 in
theorem piece_calls (n g : Int) (p q t : Nat) (x : S28) (w : World) (hg : w.cell? ⟨p, 0, none⟩ = some (.int .i64 g)) (hn : w.cell? ⟨q, 0, none⟩ = some (.int .i64 n))
    (ht : w.cell? ⟨t, 0, none⟩ = some (.func (.func 46) #[] #[.pointer (some ⟨p, 0, none⟩)])) :
    Calls Tryd.prog 48 #[.agg #[.int .i64 x.f0, .int .i64 x.f1], .pointer (some ⟨t, 0, none⟩), .pointer (some ⟨q, 0, none⟩)] w fun e w' => e = .returned (.bool (pieceB n g x)) ∧ Below w.heap.size w w' := by
  obtain ⟨a, b⟩ := x
  have hB := Lib.hid ((Below.refl w.heap.size w).alloc (Nat.le_refl _) (.cells #[.int .i64 a, .int .i64 b] 28))
  have hp : p < w.heap.size := World.block_lt_of_cell? w _ hg
  have hq : q < w.heap.size := World.block_lt_of_cell? w _ hn
  have htl : t < w.heap.size := World.block_lt_of_cell? w _ ht
  have hA : (w.alloc (.cells #[.int .i64 a, .int .i64 b] 28)).cell? ⟨p, 0, none⟩ = some (.int .i64 g) := by rw [World.cell?_alloc_past _ _ _ hp]; exact hg
  have hN : (w.alloc (.cells #[.int .i64 a, .int .i64 b] 28)).cell? ⟨q, 0, none⟩ = some (.int .i64 n) := by rw [World.cell?_alloc_past _ _ _ hq]; exact hn
  have hsz : q < (w.alloc (.cells #[.int .i64 a, .int .i64 b] 28)).heap.size := by simp; omega
  go_enter Tryd.func48, Tryd.ntmps48
  go_wp2_with fail
  go_quiet ((go_at_call 46; exact Calls.quiet_of_same ((is_calls _ g p _ (by rw [World.cell?_drewN]; exact hA)).mono fun _ _ h => ⟨h.1, h.2.symm⟩)))
  generalize hr : rngB ⟨a, b⟩ = rb at *
  have Hr := Lib.hid hr
  clear hr
  obtain ⟨W, hW⟩ : ∃ W : World, W = ((w.alloc (.cells #[.int .i64 a, .int .i64 b] 28)).drewN nq) := ⟨_, rfl⟩
  have hw0 : W.cell? ⟨w.heap.size, 0, none⟩ = some (.int .i64 a) := by rw [hW]; simp
  have hw1 : W.cell? ⟨w.heap.size, 1, none⟩ = some (.int .i64 b) := by rw [hW]; simp
  have hwq : W.cell? ⟨q, 0, none⟩ = some (.int .i64 n) := by rw [hW, World.cell?_drewN]; exact hN
  have hzq : q < W.heap.size := by rw [hW]; simp; omega
  have hBW := Lib.hid (show Below w.heap.size w W from by rw [hW]; exact pw_below_drewN hB.out _)
  rw [← hW]
  clear hA hN hg hn ht hW hB
  cases rb
  · go_wp2_with (go_at_call 49; refine (rng_calls ⟨a, b⟩ _).mono ?_; rintro e w' ⟨rfl, hb⟩; rw [Hr.out])
    go_ret
    exact ⟨by unfold pieceB; rw [Hr.out]; rfl, hBW.out.trans (hb.mono hBW.out.size)⟩
  · go_wp2_with (go_at_call 49; refine (rng_calls ⟨a, b⟩ _).mono ?_; rintro e w' ⟨rfl, hb⟩; rw [Hr.out]; have hwq' : w'.cell? ⟨q, 0, none⟩ = some (.int .i64 n) := (hb.cell (p := ⟨q, 0, none⟩) hzq).trans hwq)
    all_goals go_ret
    all_goals refine ⟨congrArg (fun b => Ending.returned (.bool b)) ?_, hBW.out.trans (hb.mono hBW.out.size)⟩
    all_goals (unfold pieceB; rw [Hr.out]; generalize isE g a = ea at *; generalize isE g b = eb at *; rw [Bool.eq_iff_iff]; simp; omega)
instance : Inhabited S28 := ⟨z28⟩
theorem index_none (A : Option Addr) (c : Nat) (fv : Value) (w : World) : Calls Tryd.prog 64 #[.slice A 0 c, fv] w fun e w' => e = .returned (.int .i64 (-1)) ∧ w = w' := by
  go_enter Tryd.func64, Tryd.ntmps64
  go_wp2
  refine wp_loop_rounds 1 ?_
  rw [rounds_succ]
  go_wp2
  go_ret
  exact ⟨rfl, rfl⟩
theorem contains_none (A : Option Addr) (c : Nat) (fv : Value) (w : World) : Calls Tryd.prog 47 #[.slice A 0 c, fv] w fun e w' => e = .returned (.bool false) ∧ w = w' := by
  go_enter Tryd.func47, Tryd.ntmps47
  go_wp2_with (go_at_call 64; refine (index_none _ _ _ _).mono ?_; rintro e w' ⟨rfl, rfl⟩)
  go_ret
  exact ⟨rfl, rfl⟩
theorem contains_calls (p q t : Nat) (n g : Int) (A : Option Addr) (c : Nat) (l : List S28) (w : World) (hg : w.cell? ⟨p, 0, none⟩ = some (.int .i64 g)) (hn : w.cell? ⟨q, 0, none⟩ = some (.int .i64 n))
    (ht : w.cell? ⟨t, 0, none⟩ = some (.func (.func 46) #[] #[.pointer (some ⟨p, 0, none⟩)])) (hl : Kd.C k28 w A l.length l) :
    Calls Tryd.prog 47 #[.slice A l.length c, .func (.func 48) #[] #[.pointer (some ⟨t, 0, none⟩), .pointer (some ⟨q, 0, none⟩)]] w fun e w' => e = .returned (.bool (l.any (pieceB n g))) ∧ Below w.heap.size w w' := by
  by_cases h0 : l.length = 0
  · have e : l = [] := List.length_eq_zero_iff.1 h0
    subst e
    exact (contains_none A c _ w).mono fun e w' ⟨he, hw⟩ => ⟨he, hw ▸ Below.refl _ _⟩
  · obtain ⟨b, off, rfl, hb, hc⟩ := c28_form hl (by omega)
    have eg : ∀ args w, (callFunc 48 args).run Tryd.prog w = .ok (.enter 48 args) w := enters_of Tryd.func48 (by kernel_rfl) rfl
    have hp : PredBelow Tryd.prog 48 #[.pointer (some ⟨t, 0, none⟩), .pointer (some ⟨q, 0, none⟩)] (fun x => .agg (enc28 x).toArray) (pieceB n g) w := fun W x hB =>
      (piece_calls n g p q t x W ((hB.cell (p := ⟨p, 0, none⟩) (World.block_lt_of_cell? w _ hg)).trans hg) ((hB.cell (p := ⟨q, 0, none⟩) (World.block_lt_of_cell? w _ hn)).trans hn)
        ((hB.cell (p := ⟨t, 0, none⟩) (World.block_lt_of_cell? w _ ht)).trans ht)).mono fun e w' ⟨he, hb'⟩ => ⟨he, hB.trans (hb'.mono hB.size)⟩
    have hcon := AnyQ.slices_ContainsFunc Shl.shlHas 2 Tryd.isAgg28 Tryd.sizeOf28 enc28 (fun _ => rfl) (pieceB n g) 48 _ eg b off l.length c l w hp (Nat.le_refl _) hl.2.1 hb (by
      intro j hj i v hv
      have hx : l[j]? = some l[j]! := by rw [List.getElem?_eq_getElem hj]; simp [hj]
      obtain ⟨h1, h2⟩ := hc j _ hx
      have hi : i < 2 := by have := (List.getElem?_eq_some_iff.1 hv).1; simpa [enc28] using this
      rcases (by omega : i = 0 ∨ i = 1) with rfl | rfl
      · simp only [enc28, List.getElem?_cons_zero, Option.some.injEq] at hv
        rw [← hv]; exact h1
      · simp only [enc28, List.getElem?_cons_succ, List.getElem?_cons_zero, Option.some.injEq] at hv
        rw [← hv]; exact h2)
    rw [List.take_length] at hcon
    exact hcon

def span_Has.f (l0 : List S28) (a1 a2 : Int) : Option Bool := some (if a2 < 1 ∨ a1 < 1 then false else l0.any (pieceB a1 a2))
set_option maxHeartbeats 1000000 in
theorem span_Has.calls (A0 : Option Addr) (c0 : Nat) (l0 : List S28) (a1 a2 : Int) (r : Bool) (w : World) (hr0 : Kd.C k28 w A0 l0.length l0) (_hc0 : l0.length ≤ c0) (h : span_Has.f l0 a1 a2 = some r) :
    Calls Tryd.prog 17 #[.slice A0 l0.length c0, .int .i64 a1, .int .i64 a2] w fun e w' => e = .returned (.bool r) ∧ Below w.heap.size w w' := by
  have h := Option.some.inj h
  have HR := Lib.hid hr0
  clear hr0
  have hB1 := (Below.refl w.heap.size w).alloc (Nat.le_refl _) (.cells #[.int .i64 a1] 3)
  have hB2 := Lib.hid (hB1.alloc (by simp) (.cells #[.int .i64 a2] 3))
  clear hB1
  by_cases h2 : a2 < 1
  · rw [if_pos (Or.inl h2)] at h
    subst h
    go_enter Tryd.func17, Tryd.ntmps17
    go_wp2
    go_ret
    exact ⟨rfl, hB2.out⟩
  · by_cases h1 : a1 < 1
    · rw [if_pos (Or.inr h1)] at h
      subst h
      go_enter Tryd.func17, Tryd.ntmps17
      go_wp2
      go_ret
      exact ⟨rfl, hB2.out⟩
    · rw [if_neg (by omega)] at h
      have H := Lib.hid h
      clear h
      have d1 : decide (a2 < 1) = false := decide_eq_false h2
      have d2 : decide (a1 < 1) = false := decide_eq_false h1
      go_enter Tryd.func17, Tryd.ntmps17
      go_wp2_with fail
      have hB3 := hB2.out.alloc (by simp; omega) (.cells #[.func (.func 46) #[] #[.pointer (some ⟨w.heap.size + 1, 0, none⟩)]] 68)
      refine (contains_calls (w.heap.size + 1) w.heap.size (w.heap.size + 1 + 1) a1 a2 A0 c0 l0 _ (by go_simp) (by go_simp) (by go_simp) (Kd.C_below HR.out hB3)).mono ?_
      rintro e w' ⟨rfl, hb⟩
      rw [H.out]
      have hB4 := hB3.trans (hb.mono hB3.size)
      clear hB3 hb d1 d2
      have HB4 := Lib.hid hB4
      clear hB4
      go_wp2
      go_ret
      exact ⟨rfl, HB4.out⟩
end Go.Proofs.YtidcchopmbodkaaDoor.Sp
