/- span.word and strings.Join in the print's form: an end as it is written; pieces joined. -/
import Derived.Test.YtidcchopmbodkaaDoorSp0
import Derived.Test.YtidcchopmbodkaaDoorShl
import Derived.Lib.Hide
namespace Go.Proofs.YtidcchopmbodkaaDoor.Sp
open Go.RowKit Go.Proofs.YtidcchopmbodkaaDoorW.PrintWords Go.Proofs.YtidcchopmbodkaaDoorW.PrintLast Go.Proofs.YtidcchopmbodkaaDoorW.PrintMore

/-- strconv's table of powers lies as it was laid. -/
structure Laid (w : World) : Prop where
  tab : Lib.TabIs Tryd.prog w "internal/strconv.uint64pow10" .u64 Lib.pow10Tab
theorem laid_below {w w1 : World} (h : Laid w) (hb : Below w.heap.size w w1) : Laid w1 := by
  have h := h.tab
  refine ⟨?_⟩
  unfold Lib.TabIs World.var? at h ⊢
  cases hg : Tryd.prog.globalNamed "internal/strconv.uint64pow10" with
  | none => rw [hg] at h; cases h
  | some g =>
    rw [hg] at h
    simp only [Option.bind_some] at h ⊢
    have hlt : g < w.heap.size := by
      rcases Nat.lt_or_ge g w.heap.size with h' | h'
      · exact h'
      · rw [Array.getElem?_eq_none h'] at h; cases h
    rw [hb.block g hlt]
    exact h
theorem laid_drawn {w w1 : World} (h : Laid w) (hd : Drawn0 w w1) : Laid w1 := laid_below h hd.below
theorem below_grow (w : World) (k : Nat) (os : Array Obj) : Below w.heap.size w (Sort.grow (w.drewN k) os) :=
  ⟨rfl, rfl, rfl, by simp [Sort.grow], fun i hi => by show (w.heap ++ os)[i]? = w.heap[i]?; exact Array.getElem?_append_left hi⟩

def span_word.f (a0 : Int) : Option ByteArray := if a0 = 0 then some ⟨#[42]⟩ else if -9223372036854775808 ≤ a0 ∧ a0 ≤ 9223372036854775807 then some ⟨(Lib.itoa a0).toArray⟩ else none
theorem span_word.calls (a0 : Int) (r : ByteArray) (w : World) (h : span_word.f a0 = some r) (hL : Laid w) :
    Calls Tryd.prog 56 #[.int .i64 a0] w fun e w' => e = .returned (.string r) ∧ Below w.heap.size w w' := by
  unfold span_word.f at h
  by_cases h0 : a0 = 0
  · rw [if_pos h0] at h
    injection h with h; subst h; subst h0
    go_enter Tryd.func56, Tryd.ntmps56
    go_wp2
    go_ret
    exact ⟨rfl, Below.refl _ _⟩
  · rw [if_neg h0] at h
    split at h
    · rename_i h1
      obtain rfl := Option.some.inj h
      clear h
      have h2 : (a0 == 0) = false := by simpa using h0
      have hcon := Shl.strconv_Itoa a0 h1.1 h1.2 w hL.tab
      generalize (⟨(Lib.itoa a0).toArray⟩ : ByteArray) = t at *
      clear hL h1
      go_enter Tryd.func56, Tryd.ntmps56
      go_wp2_with (go_at_call 66; refine hcon.mono ?_; rintro e w' ⟨rfl, k, os, rfl⟩)
      go_ret
      exact ⟨rfl, below_grow _ _ _⟩
    · cases h

theorem cs_form {w : World} {A : Option Addr} {l : List ByteArray} (h : Kd.C Kd.string w A l.length l) (hn : 0 < l.length) :
    ∃ b off, A = some ⟨b, off, none⟩ ∧ b < w.heap.size ∧ ∀ (j : Nat) (x : ByteArray), l[j]? = some x → w.cell? ⟨b, off + j, none⟩ = some (.string x) := by
  obtain ⟨_, _, h3⟩ := h
  obtain ⟨ad, rfl, hc⟩ := h3 hn
  obtain ⟨b, off, sp⟩ := ad
  have key : ∀ j (x : ByteArray), l[j]? = some x → w.cell? (Addr.add ⟨b, off, sp⟩ j) = some (.string x) := by
    intro j x hx
    obtain ⟨c, _, hk, hcell⟩ := hc j x hx
    have hk : c = [.string x] := hk
    subst hk
    have := hcell 0 _ rfl
    rwa [show Kd.string.sz = 1 from rfl, Nat.mul_one, Nat.add_zero] at this
  have hl : ∃ x, l[0]? = some x := ⟨l[0]'hn, List.getElem?_eq_getElem hn⟩
  obtain ⟨x, hx⟩ := hl
  have k0 := key 0 x hx
  have hs : sp = none := by
    cases sp with
    | none => rfl
    | some s =>
      exfalso
      have e : Addr.add ⟨b, off, some s⟩ 0 = ⟨b, off, some s⟩ := rfl
      rw [e] at k0
      unfold World.cell? at k0
      split at k0
      · simp at k0
      · cases k0
  subst hs
  have e : ∀ k, Addr.add ⟨b, off, none⟩ k = ⟨b, off + k, none⟩ := fun k => by
    unfold Addr.add
    split
    · rename_i h0; subst h0; rfl
    · rfl
  refine ⟨b, off, rfl, ?_, fun j x hx => ?_⟩
  · rw [e] at k0
    exact World.block_lt_of_cell? w _ k0
  · have := key j x hx
    rw [e] at this
    exact this
def joinB (l : List ByteArray) (sep : ByteArray) : ByteArray := ⟨(Lib.join (l.map (·.data.toList)) sep.data.toList).toArray⟩
def strings_Join.f (l0 : List ByteArray) (a1 : ByteArray) : Option ByteArray := if l0.length ≤ 140737488355328 ∧ (joinB l0 a1).size ≤ 140737488355328 then some (joinB l0 a1) else none
theorem strings_Join.calls (A0 : Option Addr) (c0 : Nat) (l0 : List ByteArray) (a1 r : ByteArray) (w : World) (hr0 : Kd.C Kd.string w A0 l0.length l0) (hc0 : l0.length ≤ c0) (h : strings_Join.f l0 a1 = some r) :
    Calls Tryd.prog 57 #[.slice A0 l0.length c0, .string a1] w fun e w' => e = .returned (.string r) ∧ Below w.heap.size w w' := by
  unfold strings_Join.f at h
  split at h
  · rename_i hb
    obtain rfl := Option.some.inj h
    by_cases h0 : l0.length = 0
    · have e : l0 = [] := List.length_eq_zero_iff.1 h0
      subst e
      exact (Shl.strings_Join_none A0 c0 a1 w).mono fun e w' ⟨he, hw⟩ => ⟨he, hw ▸ Below.refl _ _⟩
    · obtain ⟨b, off, rfl, hbk, hc⟩ := cs_form hr0 (by omega)
      exact Shl.strings_Join b off c0 l0 a1 w hc hbk hb.1 hc0 hb.2
  · cases h
end Go.Proofs.YtidcchopmbodkaaDoor.Sp
