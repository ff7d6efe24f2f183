/- FrameScans: the texts are counted, their iterators taken. -/
import Derived.Test.YtcndhgpaoihblaaGu
import Derived.Test.YtcndhgpaoihblaaScanR
import Derived.Test.YtcndhgpaoihblaaGivenK
namespace Go.Proofs.Ytcndhgpaoihblaa.Fr
open Go.RowKit Go.Proofs.YtcndhgpaoihblaaW.PrintWords
open Plain Crc
/-- An iterator of the text in a block. -/
def itV (b : Nat) : Value := .func (.func 35) #[] #[.pointer (some ⟨b, 0, none⟩)]
def kf : Kd Nat := Kd.scalar itV (fun _ => rfl)
theorem info41 : (Try.prog.info? 41).map (fun i => (i.zero, i.size, i.bytes)) = some (some .nilFunc, 1, 8) := by kernel_rfl
/-- The iterators so far, each with its text. -/
structure Its (w : World) (tb : Nat) (l : List ByteArray) (bs : List Nat) (v : Value) (wr : World) : Prop where
  box : wr.heap[tb]? = some (Obj.cells #[v] 39 (0, 0))
  row : kf.R 41 wr w.heap.size (fun _ => True) v bs
  texts : ∀ (k b : Nat) (s : ByteArray), bs[k]? = some b → l[k]? = some s → wr.heap[b]? = some (Obj.cells #[.string s] 9 (0, 0))
  below : Below w.heap.size w wr
theorem row_at {w : World} {A : Option Addr} {n : Nat} {bs : List Nat} (h : Kd.C kf w A n bs) (i : Nat) (hi : i < n) (_hl : bs.length = n) : ∃ ad, A = some ad ∧ w.cell? (ad.add i) = some (itV (bs.getD i 0)) := by
  obtain ⟨ad, c, e, hl, hK, hc⟩ := ReadsRow.get_ h 0 (i : Int) (by omega) (by omega)
  rw [Int.toNat_natCast] at hK hc
  have hK2 : c = [itV (bs.getD i 0)] := hK
  subst hK2
  have := hc 0 (itV (bs.getD i 0)) rfl
  refine ⟨ad, e, ?_⟩
  rw [← this]
  congr 2
  show i = i * 1 + 0
  omega
theorem getD_at (bs : List Nat) (i : Nat) (h : i < bs.length) : bs[i]? = some (bs.getD i 0) := by rw [List.getD_eq_getElem?_getD, List.getElem?_eq_getElem h]; rfl
theorem row_drew {w : World} {g n : Nat} {o : Option Obj} (h : w.heap[g]? = o) : (w.drewN n).heap[g]? = o := h
theorem turn_f (k n : Nat) (h : k < 2 * n) (hn : n ≤ 40) : ∃ i : Nat, i < n ∧ postbaglaw10_turn.f (k : Int) (n : Int) = some (i : Int) := by
  unfold postbaglaw10_turn.f
  by_cases c : k < n
  · exact ⟨k, c, by rw [if_pos (by omega)]⟩
  · refine ⟨2 * n - 1 - k, by omega, ?_⟩
    rw [if_neg (by omega)]
    have a1 : wrap64 (2 * (n : Int)) = 2 * (n : Int) := IntWalk.wrap64_in _ ⟨by omega, by omega⟩
    have a2 : wrap64 (2 * (n : Int) - 1) = 2 * (n : Int) - 1 := IntWalk.wrap64_in _ ⟨by omega, by omega⟩
    have a3 : wrap64 (2 * (n : Int) - 1 - (k : Int)) = 2 * (n : Int) - 1 - (k : Int) := IntWalk.wrap64_in _ ⟨by omega, by omega⟩
    rw [a1, a2, a3]
    congr 1
    omega
theorem mod_nat (k n : Nat) (hn : 0 < n) : ∃ q : Nat, q < 2 * n ∧ ((k : Int) + 1) % (2 * (n : Int)) = (q : Int) := by
  have h1 := Int.emod_nonneg ((k : Int) + 1) (show (2 * (n : Int)) ≠ 0 by omega)
  have h2 := Int.emod_lt_of_pos ((k : Int) + 1) (show 0 < 2 * (n : Int) by omega)
  exact ⟨(((k : Int) + 1) % (2 * (n : Int))).toNat, by omega, by omega⟩
set_option maxHeartbeats 8000000 in
set_option maxRecDepth 100000 in
theorem frameScans_calls (A : Option Addr) (c : Nat) (l : List ByteArray) (stop : Int) (w : World) (hR : Kd.C Kd.string w A l.length l) (hx : ∀ x ∈ l, x.size ≤ 140737488351232) :
    Calls Try.prog 5 #[.slice A l.length c, .int .i64 stop] w fun e w' => e = .returned (.bool true) ∧ Below w.heap.size w w' := by
  have HR := Lib.hid hR
  have HX := Lib.hid hx
  have hn63 := hR.2.1
  clear hR hx
  go_enter Try.func5, Try.ntmps5
  go_wp2_with fail
  go_loopg [5, 6] l.length (fun q v5 v6 wr => ∃ (i : Nat) (tot : Int), q = l.length - i ∧ i ≤ l.length ∧ i ≤ 40 ∧ v5 = .int .i64 tot ∧ v6 = .int .i64 (i : Nat) ∧ w = wr ∧ 0 ≤ tot ∧ tot ≤ 4195304 ∧ Hid (∀ (k : Nat) (s : ByteArray), k < i → l[k]? = some s → s.size ≤ 4195304))
  case atStart => exact ⟨0, 0, rfl, by omega, by omega, rfl, rfl, rfl, by omega, by omega, Lib.hid (fun k s h => absurd h (by omega))⟩
  case round =>
    obtain ⟨i, tot, hq, hi, h40, rfl, rfl, rfl, ht0, ht1, hs⟩ := hrel
    by_cases c1 : i < l.length
    · have d1 : decide ((i : Int) < (l.length : Int)) = true := decide_eq_true (by omega)
      have d2 : (0 : Int) ≤ (i : Int) := by omega
      have d3 : (i : Int) < (l.length : Int) := by omega
      obtain ⟨ad, hA, hc⟩ := Kd.at_string HR.out (i : Int) d2 d3
      rw [Int.toNat_natCast] at hc
      have hg : l[i]? = some (rdOf ByteArray.empty l (i : Int)) := by unfold rdOf; rw [Int.toNat_natCast, List.getD_eq_getElem?_getD, List.getElem?_eq_getElem c1]; rfl
      have hsz := HX.out _ (List.mem_of_getElem? hg)
      generalize rdOf ByteArray.empty l (i : Int) = s at *
      subst hA
      have hw1 : IntKind.i64.wrap (tot + (s.size : Int)) = tot + (s.size : Int) := IntWalk.i64_in _ ⟨by omega, by omega⟩
      by_cases c2 : 4195304 < tot + (s.size : Int)
      · have e1 : decide (4195304 < tot + (s.size : Int)) = true := decide_eq_true c2
        clear hs
        go_wp2
        go_ret
        exact ⟨rfl, Below.refl _ _⟩
      · have e1 : decide (4195304 < tot + (s.size : Int)) = false := decide_eq_false c2
        by_cases c3 : 40 ≤ i
        · have e2 : decide ((40 : Int) ≤ (i : Int)) = true := decide_eq_true (by omega)
          have e3 : decide (40 ≤ i) = true := decide_eq_true c3
          clear hs
          go_wp2
          go_ret
          exact ⟨rfl, Below.refl _ _⟩
        · have e2 : decide ((40 : Int) ≤ (i : Int)) = false := decide_eq_false (by omega)
          have e3 : decide (40 ≤ i) = false := decide_eq_false c3
          have hw2 : IntKind.i64.wrap ((i : Int) + 1) = (i : Int) + 1 := IntWalk.i64_in _ ⟨by omega, by omega⟩
          go_wp2
          go_roundg (l.length - (i + 1))
          case measure => omega
          case rel => exact ⟨i + 1, tot + (s.size : Int), rfl, by omega, by omega, rfl, rfl, rfl, by omega, by omega, Lib.hid (fun k s' hk he => by
            by_cases hki : k = i
            · subst hki
              rw [hg] at he
              obtain rfl := Option.some.inj he
              omega
            · exact hs.out k s' (by omega) he)⟩
    · have d1 : decide ((i : Int) < (l.length : Int)) = false := decide_eq_false (by omega)
      have HS : Hid (∀ (k : Nat) (s : ByteArray), l[k]? = some s → s.size ≤ 4195304) := Lib.hid (fun k s he => hs.out k s (by have := (List.getElem?_eq_some_iff.1 he).1; omega) he)
      have h40' : l.length ≤ 40 := by omega
      clear hs HX ht0 ht1 h40 hi hq
      go_wp2_with fail
      have hb0 := (Below.refl w.heap.size w).alloc (Nat.le_refl _) (.cells #[.slice none 0 0] 39)
      have hn0 := heap_alloc_new w (.cells #[.slice none 0 0] 39)
      have HB0 := Lib.hid hb0
      have HN0 := Lib.hid hn0
      clear hb0 hn0
      generalize w.alloc (.cells #[.slice none 0 0] 39) = w1 at *
      go_loopg [8, 9] l.length (fun q v8 v9 wr => ∃ (i : Nat) (bs : List Nat) (v : Value), q = l.length - i ∧ i ≤ l.length ∧ bs.length = i ∧ v8 = .int .i64 (i : Nat) ∧ Hid (Its w w.heap.size l bs v wr))
      case atStart => exact ⟨0, [], _, rfl, by omega, rfl, rfl, Lib.hid ⟨HN0.out, Kd.R_nil _ _ _ _ _, fun k b s h => absurd h (by simp), HB0.out⟩⟩
      case round =>
        obtain ⟨i, bs, v, hq, hi, hbl, rfl, HI⟩ := hrel
        by_cases c2 : i < l.length
        · have d1 : decide ((i : Int) < (l.length : Int)) = true := decide_eq_true (by omega)
          have d2 : (0 : Int) ≤ (i : Int) := by omega
          have d3 : (i : Int) < (l.length : Int) := by omega
          obtain ⟨ad, hA, hc⟩ := Kd.at_string (Kd.C_below HR.out HI.out.below) (i : Int) d2 d3
          rw [Int.toNat_natCast] at hc
          have hg : l[i]? = some (rdOf ByteArray.empty l (i : Int)) := by unfold rdOf; rw [Int.toNat_natCast, List.getD_eq_getElem?_getD, List.getElem?_eq_getElem c2]; rfl
          generalize rdOf ByteArray.empty l (i : Int) = s at *
          subst hA
          have hneq : ∀ (w : World) (f : Fn) (a b : Array Value), (binOp .eql 41 (.func f a b) .nilFunc).run Try.prog w = .ok (.bool false) w := fun w f a b => by kernel_rfl
          go_wp2_with fail
          refine (scan_calls _ _).mono ?_
          rintro e w4 ⟨rfl, rfl⟩
          have hbx := (Below.refl wr.heap.size wr).alloc (Nat.le_refl _) (.cells #[.string s] 9)
          have hnew := heap_alloc_new wr (.cells #[.string s] 9)
          have hz := (show (wr.alloc (.cells #[.string s] 9)).heap.size = wr.heap.size + 1 by simp)
          have hbox5 := (hbx.block _ (Array.getElem?_eq_some_iff.1 HI.out.box).1).trans HI.out.box
          have hrow5 := Kd.R_below HI.out.row hbx
          have htx5 := fun (k b : Nat) (s' : ByteArray) (h1 : bs[k]? = some b) (h2 : l[k]? = some s') => (hbx.block _ (Array.getElem?_eq_some_iff.1 (HI.out.texts k b s' h1 h2)).1).trans (HI.out.texts k b s' h1 h2)
          have hbel5 := below_step HI.out.below hbx
          have HBOX := Lib.hid hbox5
          have HROW := Lib.hid hrow5
          have HTX := Lib.hid htx5
          have HBEL := Lib.hid hbel5
          have HNEW := Lib.hid hnew
          clear hbx hnew hbox5 hrow5 htx5 hbel5 hc HI
          generalize wr.alloc (.cells #[.string s] 9) = w5 at *
          have k1 := cell_of_row _ _ 0 _ _ _ HBOX.out
          have hlb : w.heap.size ≤ w5.heap.size := HBEL.out.size
          go_wp2_with (at_builtin; refine Kd.R_append kf (w0 := w5) w.heap.size rfl (.tmp 51) (.tmp 53) 39 41 .nilFunc 8 rfl Try.underlying39 info41 rfl (by decide) (by omega) v bs wr.heap.size [itV wr.heap.size] (fun _ => True) (fun _ => False) rfl (by first | (go_simp; done) | (go_simp; rfl)) ?aP (fun _ hk => hk.elim) ?aF ?aO ?aB ?aS ?aL ?_)
          case aP => rfl
          case aF => exact fun _ _ => trivial
          case aO => exact HROW.out
          case aB => exact Below.refl _ _
          case aS => exact hlb
          case aL => omega
          intro v1 w6 hA6 hbl6 hg6 hat6
          obtain ⟨S1, C1, hv⟩ := Kd.R_slice hA6
          have hlen1 : (bs ++ [wr.heap.size]).length = i + 1 := by rw [List.length_append, List.length_singleton, hbl]
          rw [hlen1] at hv
          subst hv
          clear hat6 k1
          have hbox6 : w6.heap[w.heap.size]? = some (.cells #[v] 39 (0, 0)) := app_block HROW.out hg6.block HBOX.out (by decide)
          have c1 := cell_of_row w6 _ 0 _ _ _ hbox6
          have z1 := frozen_of_row w6 _ 0 _ _ hbox6
          obtain ⟨a1, a2, a3, a4, a5⟩ := app_store HROW.out hA6 hbl6 hg6.block HBOX.out (Nat.le_refl _) (by decide)
          have htx7 : ∀ (k b : Nat) (s' : ByteArray), (bs ++ [wr.heap.size])[k]? = some b → l[k]? = some s' → (w6.setCell ⟨w.heap.size, 0, none⟩ (.slice S1 (i + 1) C1)).heap[b]? = some (.cells #[.string s'] 9 (0, 0)) := by
            intro k b s' h1 h2
            have h5 : w5.heap[b]? = some (.cells #[.string s'] 9 (0, 0)) := by
              by_cases hk : k < bs.length
              · rw [List.getElem?_append_left hk] at h1
                exact HTX.out k b s' h1 h2
              · rw [List.getElem?_append_right (by omega)] at h1
                have hk2 : k = i := by
                  have := (List.getElem?_eq_some_iff.1 h1).1
                  simp at this
                  omega
                subst hk2
                rw [hg] at h2
                obtain rfl := Option.some.inj h2
                rw [hbl, Nat.sub_self] at h1
                obtain rfl : wr.heap.size = b := by simpa using h1
                exact HNEW.out
            have hne : b ≠ w.heap.size := fun e => by
              have := HBOX.out
              rw [← e, h5] at this
              simp at this
            exact (a2 b (Array.getElem?_eq_some_iff.1 h5).1 hne (Kd.R_ne HROW.out h5 (by decide))).trans h5
          have HIT : Hid (Its w w.heap.size l (bs ++ [wr.heap.size]) (.slice S1 (i + 1) C1) (w6.setCell ⟨w.heap.size, 0, none⟩ (.slice S1 (i + 1) C1))) :=
            Lib.hid ⟨a1, a3, htx7, HBEL.out.trans a5⟩
          clear a1 a2 a3 a4 a5 htx7 hbl6 hg6 hA6 hbox6 HBOX HROW HTX HBEL HNEW hlb
          have hw2 : IntKind.i64.wrap ((i : Int) + 1) = (i : Int) + 1 := IntWalk.i64_in _ ⟨by omega, by omega⟩
          go_wp2
          go_roundg (l.length - (i + 1))
          case measure => omega
          case rel => exact ⟨i + 1, bs ++ [wr.heap.size], _, rfl, by omega, hlen1, rfl, HIT⟩
        · have d1 : decide ((i : Int) < (l.length : Int)) = false := decide_eq_false (by omega)
          obtain rfl : i = l.length := by omega
          clear c2 hi hq d1
          obtain ⟨hbox2, hrow2, htx2, hbel2⟩ := HI.out
          obtain ⟨AI, cI, hvI, hcI, hC2⟩ := Kd.R_reads hrow2
          rw [hbl] at hvI hC2
          subst hvI
          have HBX := Lib.hid hbox2
          have HCI := Lib.hid hC2
          have HTX := Lib.hid htx2
          have HW2 := Lib.hid hbel2
          clear hbox2 hrow2 htx2 hbel2 hC2 hcI HI
          generalize wr = w2 at *
          have hm2 : IntKind.i64.wrap (2 * (l.length : Int)) = 2 * (l.length : Int) := IntWalk.i64_in _ ⟨by omega, by omega⟩
          go_wp2_with fail
          go_loopg [10] (2 * l.length) (fun q v10 wx => ∃ k : Nat, q = 2 * l.length - k ∧ k ≤ 2 * l.length ∧ v10 = .int .i64 (k : Nat) ∧ Hid (Below w2.heap.size w2 wx))
          case atStart => exact ⟨0, rfl, by omega, rfl, Lib.hid (Below.refl _ _)⟩
          case round =>
            obtain ⟨k, hq, hk, rfl, HB⟩ := hrel
            by_cases c2 : k < 2 * l.length
            · skip
              have d1 : decide ((k : Int) < 2 * (l.length : Int)) = true := decide_eq_true (by omega)
              obtain ⟨i, hil, ht1⟩ := turn_f k l.length c2 h40'
              obtain ⟨kk, hkl, hmod⟩ := mod_nat k l.length (by omega)
              obtain ⟨j, hjl, ht2⟩ := turn_f kk l.length hkl h40'
              have hmod2 : Int.tmod ((k : Int) + 1) (2 * (l.length : Int)) = (kk : Int) := by rw [Int.tmod_eq_emod_of_nonneg (by omega)]; exact hmod
              have hw1 : IntKind.i64.wrap ((k : Int) + 1) = (k : Int) + 1 := IntWalk.i64_in _ ⟨by omega, by omega⟩
              have hnz : (2 * (l.length : Int)) ≠ 0 := by omega
              have hnz2 : ((2 * (l.length : Int)) == 0) = false := by rw [beq_eq_false_iff_ne]; omega
              have HT1 := Lib.hid ht1
              have HT2 := Lib.hid ht2
              clear ht1 ht2
              go_wp2_with fail
              refine (postbaglaw10_turn.calls _ _ _ _ HT1.out).mono ?_
              rintro e u1 ⟨rfl, hd_⟩
              have hb := hd_.below
              have n0_ := Lib.hid (below_step (by repeat (first | (with_reducible exact HB.out) | (with_reducible apply below_drew) | (with_reducible apply pw_below_drewN) | exact HB.out)) hb)
              clear HB
              have HB := n0_
              clear n0_
              clear hb
              clear hd_
              go_upto_region 20 with fail
              have hb := (Below.refl u1.heap.size u1).alloc (Nat.le_refl _) (.cells #[.int .i64 (i : Nat)] 3)
              have nn_ := Lib.hid (heap_alloc_new u1 (.cells #[.int .i64 (i : Nat)] 3))
              have nz_ : Hid ((u1.alloc (.cells #[.int .i64 (i : Nat)] 3)).heap.size = u1.heap.size + 1) := Lib.hid (by simp)
              have n0_ := Lib.hid (below_step (by repeat (first | (with_reducible exact HB.out) | (with_reducible apply below_drew) | (with_reducible apply pw_below_drewN) | exact HB.out)) hb)
              clear HB
              have HB := n0_
              clear n0_
              clear hb
              have HIb := nn_
              have Z_HIb := nz_
              clear nn_ nz_
              generalize u1.alloc (.cells #[.int .i64 (i : Nat)] 3) = u2 at *
              go_wp2_with fail
              refine (postbaglaw10_turn.calls _ _ _ _ HT2.out).mono ?_
              rintro e u3 ⟨rfl, hd_⟩
              have hb := hd_.below
              have n0_ := Lib.hid (below_step (by repeat (first | (with_reducible exact HB.out) | (with_reducible apply below_drew) | (with_reducible apply pw_below_drewN) | exact HB.out)) hb)
              clear HB
              have HB := n0_
              clear n0_
              have n0_ := Lib.hid (row_below hb HIb.out)
              clear HIb
              have HIb := n0_
              clear n0_
              clear hb
              clear hd_
              go_upto_region 21 with fail
              have hb := (Below.refl u3.heap.size u3).alloc (Nat.le_refl _) (.cells #[.int .i64 (j : Nat)] 3)
              have nn_ := Lib.hid (heap_alloc_new u3 (.cells #[.int .i64 (j : Nat)] 3))
              have nz_ : Hid ((u3.alloc (.cells #[.int .i64 (j : Nat)] 3)).heap.size = u3.heap.size + 1) := Lib.hid (by simp)
              have n0_ := Lib.hid (below_step (by repeat (first | (with_reducible exact HB.out) | (with_reducible apply below_drew) | (with_reducible apply pw_below_drewN) | exact HB.out)) hb)
              clear HB
              have HB := n0_
              clear n0_
              have n0_ := Lib.hid (row_below hb HIb.out)
              clear HIb
              have HIb := n0_
              clear n0_
              clear hb
              have HJb := nn_
              have Z_HJb := nz_
              clear nn_ nz_
              generalize u3.alloc (.cells #[.int .i64 (j : Nat)] 3) = u4 at *
              clear hmod hmod2 hw1 hnz hnz2 HT1 HT2 hkl
              have gI : l[i]? = some l[i] := List.getElem?_eq_getElem hil
              have gJ : l[j]? = some l[j] := List.getElem?_eq_getElem hjl
              have hsI := HS.out _ _ gI
              have hsJ := HS.out _ _ gJ
              have hrI : rdOf ByteArray.empty l (i : Int) = l[i] := by unfold rdOf; rw [Int.toNat_natCast, List.getD_eq_getElem?_getD, gI]; rfl
              have hrJ : rdOf ByteArray.empty l (j : Int) = l[j] := by unfold rdOf; rw [Int.toNat_natCast, List.getD_eq_getElem?_getD, gJ]; rfl
              obtain ⟨si, eSI⟩ : ∃ x, l[i] = x := ⟨_, rfl⟩
              obtain ⟨sj, eSJ⟩ : ∃ x, l[j] = x := ⟨_, rfl⟩
              rw [eSI] at gI hsI hrI
              rw [eSJ] at gJ hsJ hrJ
              clear eSI eSJ
              have HR2 := Lib.hid (Kd.C_below HR.out HW2.out)
              have di0 : (0 : Int) ≤ (i : Int) := by omega
              have di1 : (i : Int) < (l.length : Int) := by omega
              have dj0 : (0 : Int) ≤ (j : Int) := by omega
              have dj1 : (j : Int) < (l.length : Int) := by omega
              obtain ⟨ad, hA, hcI⟩ := Kd.at_string (Kd.C_below HR2.out HB.out) (i : Int) di0 di1
              rw [hrI, Int.toNat_natCast] at hcI
              subst hA
              have kI := cell_of_row _ _ 0 _ _ _ HIb.out
              go_wp2_with fail
              clear hcI kI
              refine (rscan_calls si _ (by omega)).mono ?_
              rintro e u5 ⟨v0, v1, rfl, hR3, hR4, hb⟩
              have n0_ := Lib.hid (below_step (by repeat (first | (with_reducible exact HB.out) | (with_reducible apply below_drew) | (with_reducible apply pw_below_drewN) | exact HB.out)) hb)
              clear HB
              have HB := n0_
              clear n0_
              have n0_ := Lib.hid (row_below hb HIb.out)
              clear HIb
              have HIb := n0_
              clear n0_
              have n0_ := Lib.hid (row_below hb HJb.out)
              clear HJb
              have HJb := n0_
              clear n0_
              clear hb
              obtain ⟨A3, c3, rfl, _, hC3⟩ := Kd.R_reads hR3
              obtain ⟨A4, c4, rfl, _, hC4⟩ := Kd.R_reads hR4
              have e3 : ((scanT si.data.toList 0 none).map s49).length = (scanT si.data.toList 0 none).length := List.length_map ..
              have e4 : ((scanT si.data.toList 0 none).map nx).length = (scanT si.data.toList 0 none).length := List.length_map ..
              rw [e3] at hC3
              rw [e4] at hC4
              rw [e3, e4]
              have HC3 := Lib.hid hC3
              have HC4 := Lib.hid hC4
              clear hR3 hR4 hC3 hC4 e3 e4
              go_upto_region 22 with fail
              have hb := (Below.refl u5.heap.size u5).alloc (Nat.le_refl _) (.cells #[.slice A3 (scanT si.data.toList 0 none).length c3] 43)
              have nn_ := Lib.hid (heap_alloc_new u5 (.cells #[.slice A3 (scanT si.data.toList 0 none).length c3] 43))
              have nz_ : Hid ((u5.alloc (.cells #[.slice A3 (scanT si.data.toList 0 none).length c3] 43)).heap.size = u5.heap.size + 1) := Lib.hid (by simp)
              have n0_ := Lib.hid (below_step (by repeat (first | (with_reducible exact HB.out) | (with_reducible apply below_drew) | (with_reducible apply pw_below_drewN) | exact HB.out)) hb)
              clear HB
              have HB := n0_
              clear n0_
              have n0_ := Lib.hid (row_below hb HIb.out)
              clear HIb
              have HIb := n0_
              clear n0_
              have n0_ := Lib.hid (row_below hb HJb.out)
              clear HJb
              have HJb := n0_
              clear n0_
              have n0_ := Lib.hid (Kd.C_below HC3.out hb)
              clear HC3
              have HC3 := n0_
              clear n0_
              have n0_ := Lib.hid (Kd.C_below HC4.out hb)
              clear HC4
              have HC4 := n0_
              clear n0_
              clear hb
              have HWb := nn_
              have Z_HWb := nz_
              clear nn_ nz_
              generalize u5.alloc (.cells #[.slice A3 (scanT si.data.toList 0 none).length c3] 43) = u6 at *
              have hb := (Below.refl u6.heap.size u6).alloc (Nat.le_refl _) (.cells #[.slice A4 (scanT si.data.toList 0 none).length c4] 44)
              have nn_ := Lib.hid (heap_alloc_new u6 (.cells #[.slice A4 (scanT si.data.toList 0 none).length c4] 44))
              have nz_ : Hid ((u6.alloc (.cells #[.slice A4 (scanT si.data.toList 0 none).length c4] 44)).heap.size = u6.heap.size + 1) := Lib.hid (by simp)
              have n0_ := Lib.hid (below_step (by repeat (first | (with_reducible exact HB.out) | (with_reducible apply below_drew) | (with_reducible apply pw_below_drewN) | exact HB.out)) hb)
              clear HB
              have HB := n0_
              clear n0_
              have n0_ := Lib.hid (row_below hb HIb.out)
              clear HIb
              have HIb := n0_
              clear n0_
              have n0_ := Lib.hid (row_below hb HJb.out)
              clear HJb
              have HJb := n0_
              clear n0_
              have n0_ := Lib.hid (row_below hb HWb.out)
              clear HWb
              have HWb := n0_
              clear n0_
              have n0_ := Lib.hid (Kd.C_below HC3.out hb)
              clear HC3
              have HC3 := n0_
              clear n0_
              have n0_ := Lib.hid (Kd.C_below HC4.out hb)
              clear HC4
              have HC4 := n0_
              clear n0_
              clear hb
              have HPb := nn_
              have Z_HPb := nz_
              clear nn_ nz_
              generalize u6.alloc (.cells #[.slice A4 (scanT si.data.toList 0 none).length c4] 44) = u7 at *
              obtain ⟨ad2, hA2, hcJ⟩ := Kd.at_string (Kd.C_below HR2.out HB.out) (j : Int) dj0 dj1
              obtain rfl := Option.some.inj hA2
              rw [hrJ, Int.toNat_natCast] at hcJ
              clear hA2
              have kJ := cell_of_row _ _ 0 _ _ _ HJb.out
              go_wp2_with fail
              clear hcJ kJ
              refine (rscan_calls sj _ (by omega)).mono ?_
              rintro e u8 ⟨v2, v3, rfl, hR5, hR6, hb⟩
              have n0_ := Lib.hid (below_step (by repeat (first | (with_reducible exact HB.out) | (with_reducible apply below_drew) | (with_reducible apply pw_below_drewN) | exact HB.out)) hb)
              clear HB
              have HB := n0_
              clear n0_
              have n0_ := Lib.hid (row_below hb HIb.out)
              clear HIb
              have HIb := n0_
              clear n0_
              have n0_ := Lib.hid (row_below hb HJb.out)
              clear HJb
              have HJb := n0_
              clear n0_
              have n0_ := Lib.hid (row_below hb HWb.out)
              clear HWb
              have HWb := n0_
              clear n0_
              have n0_ := Lib.hid (row_below hb HPb.out)
              clear HPb
              have HPb := n0_
              clear n0_
              have n0_ := Lib.hid (Kd.C_below HC3.out hb)
              clear HC3
              have HC3 := n0_
              clear n0_
              have n0_ := Lib.hid (Kd.C_below HC4.out hb)
              clear HC4
              have HC4 := n0_
              clear n0_
              clear hb
              obtain ⟨A5, c5, rfl, _, hC5⟩ := Kd.R_reads hR5
              obtain ⟨A6, c6, rfl, _, hC6⟩ := Kd.R_reads hR6
              have e3 : ((scanT sj.data.toList 0 none).map s49).length = (scanT sj.data.toList 0 none).length := List.length_map ..
              have e4 : ((scanT sj.data.toList 0 none).map nx).length = (scanT sj.data.toList 0 none).length := List.length_map ..
              rw [e3] at hC5
              rw [e4] at hC6
              rw [e3, e4]
              have HC5 := Lib.hid hC5
              have HC6 := Lib.hid hC6
              clear hR5 hR6 hC5 hC6 e3 e4
              go_upto_region 23 with fail
              have hb := (Below.refl u8.heap.size u8).alloc (Nat.le_refl _) (.cells #[.slice A5 (scanT sj.data.toList 0 none).length c5] 43)
              have nn_ := Lib.hid (heap_alloc_new u8 (.cells #[.slice A5 (scanT sj.data.toList 0 none).length c5] 43))
              have nz_ : Hid ((u8.alloc (.cells #[.slice A5 (scanT sj.data.toList 0 none).length c5] 43)).heap.size = u8.heap.size + 1) := Lib.hid (by simp)
              have n0_ := Lib.hid (below_step (by repeat (first | (with_reducible exact HB.out) | (with_reducible apply below_drew) | (with_reducible apply pw_below_drewN) | exact HB.out)) hb)
              clear HB
              have HB := n0_
              clear n0_
              have n0_ := Lib.hid (row_below hb HIb.out)
              clear HIb
              have HIb := n0_
              clear n0_
              have n0_ := Lib.hid (row_below hb HJb.out)
              clear HJb
              have HJb := n0_
              clear n0_
              have n0_ := Lib.hid (row_below hb HWb.out)
              clear HWb
              have HWb := n0_
              clear n0_
              have n0_ := Lib.hid (row_below hb HPb.out)
              clear HPb
              have HPb := n0_
              clear n0_
              have n0_ := Lib.hid (Kd.C_below HC3.out hb)
              clear HC3
              have HC3 := n0_
              clear n0_
              have n0_ := Lib.hid (Kd.C_below HC4.out hb)
              clear HC4
              have HC4 := n0_
              clear n0_
              have n0_ := Lib.hid (Kd.C_below HC5.out hb)
              clear HC5
              have HC5 := n0_
              clear n0_
              have n0_ := Lib.hid (Kd.C_below HC6.out hb)
              clear HC6
              have HC6 := n0_
              clear n0_
              clear hb
              have HXb := nn_
              have Z_HXb := nz_
              clear nn_ nz_
              generalize u8.alloc (.cells #[.slice A5 (scanT sj.data.toList 0 none).length c5] 43) = u9 at *
              have hb := (Below.refl u9.heap.size u9).alloc (Nat.le_refl _) (.cells #[.slice A6 (scanT sj.data.toList 0 none).length c6] 44)
              have nn_ := Lib.hid (heap_alloc_new u9 (.cells #[.slice A6 (scanT sj.data.toList 0 none).length c6] 44))
              have nz_ : Hid ((u9.alloc (.cells #[.slice A6 (scanT sj.data.toList 0 none).length c6] 44)).heap.size = u9.heap.size + 1) := Lib.hid (by simp)
              have n0_ := Lib.hid (below_step (by repeat (first | (with_reducible exact HB.out) | (with_reducible apply below_drew) | (with_reducible apply pw_below_drewN) | exact HB.out)) hb)
              clear HB
              have HB := n0_
              clear n0_
              have n0_ := Lib.hid (row_below hb HIb.out)
              clear HIb
              have HIb := n0_
              clear n0_
              have n0_ := Lib.hid (row_below hb HJb.out)
              clear HJb
              have HJb := n0_
              clear n0_
              have n0_ := Lib.hid (row_below hb HWb.out)
              clear HWb
              have HWb := n0_
              clear n0_
              have n0_ := Lib.hid (row_below hb HPb.out)
              clear HPb
              have HPb := n0_
              clear n0_
              have n0_ := Lib.hid (row_below hb HXb.out)
              clear HXb
              have HXb := n0_
              clear n0_
              have n0_ := Lib.hid (Kd.C_below HC3.out hb)
              clear HC3
              have HC3 := n0_
              clear n0_
              have n0_ := Lib.hid (Kd.C_below HC4.out hb)
              clear HC4
              have HC4 := n0_
              clear n0_
              have n0_ := Lib.hid (Kd.C_below HC5.out hb)
              clear HC5
              have HC5 := n0_
              clear n0_
              have n0_ := Lib.hid (Kd.C_below HC6.out hb)
              clear HC6
              have HC6 := n0_
              clear n0_
              clear hb
              have HMb := nn_
              have Z_HMb := nz_
              clear nn_ nz_
              generalize u9.alloc (.cells #[.slice A6 (scanT sj.data.toList 0 none).length c6] 44) = u10 at *
              have n0_ := HPb.out
              rw [Z_HWb.out] at n0_
              clear HPb
              have HPb := Lib.hid n0_
              clear n0_
              have n0_ := HMb.out
              rw [Z_HXb.out] at n0_
              clear HMb
              have HMb := Lib.hid n0_
              clear n0_
              clear Z_HIb Z_HJb Z_HWb Z_HPb Z_HXb Z_HMb
              generalize u1.heap.size = ib at *
              generalize u3.heap.size = jb at *
              generalize u5.heap.size = wb at *
              generalize u8.heap.size = xb at *
              obtain ⟨aI, hAI, hrowI⟩ := row_at HCI.out i hil hbl
              obtain ⟨aJ, hAJ, hrowJ⟩ := row_at HCI.out j hjl hbl
              subst hAI
              obtain rfl := Option.some.inj hAJ
              clear hAJ
              have hbi : bs[i]? = some (bs.getD i 0) := getD_at bs i (by omega)
              have hbj : bs[j]? = some (bs.getD j 0) := getD_at bs j (by omega)
              have HTI := Lib.hid (row_below HB.out (HTX.out i _ si hbi gI))
              have HTJ := Lib.hid (row_below HB.out (HTX.out j _ sj hbj gJ))
              have HTb := Lib.hid (row_below HB.out HBX.out)
              have hcI := pw_cell_below2 HB.out hrowI
              have hcJ := pw_cell_below2 HB.out hrowJ
              unfold itV at hcI hcJ
              generalize bs.getD i 0 = bi at *
              generalize bs.getD j 0 = bj at *
              clear hrowI hrowJ hbi hbj
              have RCI := Lib.hid hcI
              have RCJ := Lib.hid hcJ
              clear hcI hcJ
              have k_t := cell_of_row _ _ 0 _ _ _ HTb.out
              have k_i := cell_of_row _ _ 0 _ _ _ HIb.out
              have k_w := cell_of_row _ _ 0 _ _ _ HWb.out
              have k_p := cell_of_row _ _ 0 _ _ _ HPb.out
              have r_i := RCI.out
              go_region_held3 (fun w' => w'.cell? ⟨w.heap.size, 0, none⟩ = some (.slice (some aI) l.length cI) ∧ w'.cell? ⟨ib, 0, none⟩ = some (.int .i64 (i : Nat)) ∧ w'.cell? ⟨wb, 0, none⟩ = some (.slice A3 (scanT si.data.toList 0 none).length c3) ∧ w'.cell? ⟨wb + 1, 0, none⟩ = some (.slice A4 (scanT si.data.toList 0 none).length c4) ∧ w'.cell? (aI.add i) = some (.func (.func 35) #[] #[.pointer (some ⟨bi, 0, none⟩)])) (((try dsimp only); ((repeat' apply And.intro) <;> first | assumption | (go_keep; done)))) ((first | (go_at_call 23; (with_reducible refine (goes_calls si bi A3 A4 c3 c4 stop _ (by omega) (by exact row_below (by repeat (first | exact Below.refl _ _ | (with_reducible apply below_drew) | (with_reducible apply pw_below_drewN))) HTI.out) (by exact Kd.C_below HC3.out (by repeat (first | exact Below.refl _ _ | (with_reducible apply below_drew) | (with_reducible apply pw_below_drewN)))) (by exact Kd.C_below HC4.out (by repeat (first | exact Below.refl _ _ | (with_reducible apply below_drew) | (with_reducible apply pw_below_drewN))))).mono ?_); rintro e u_ ⟨rfl, hb⟩; have n0_ := Lib.hid (below_step (by repeat (first | (with_reducible exact HB.out) | (with_reducible apply below_drew) | (with_reducible apply pw_below_drewN) | exact HB.out)) hb); clear HB; have HB := n0_; clear n0_; have n0_ := Lib.hid (row_below hb (by exact row_below (by repeat (first | exact Below.refl _ _ | (with_reducible apply below_drew) | (with_reducible apply pw_below_drewN))) HIb.out)); clear HIb; have HIb := n0_; clear n0_; have n0_ := Lib.hid (row_below hb (by exact row_below (by repeat (first | exact Below.refl _ _ | (with_reducible apply below_drew) | (with_reducible apply pw_below_drewN))) HJb.out)); clear HJb; have HJb := n0_; clear n0_; have n0_ := Lib.hid (row_below hb (by exact row_below (by repeat (first | exact Below.refl _ _ | (with_reducible apply below_drew) | (with_reducible apply pw_below_drewN))) HWb.out)); clear HWb; have HWb := n0_; clear n0_; have n0_ := Lib.hid (row_below hb (by exact row_below (by repeat (first | exact Below.refl _ _ | (with_reducible apply below_drew) | (with_reducible apply pw_below_drewN))) HPb.out)); clear HPb; have HPb := n0_; clear n0_; have n0_ := Lib.hid (row_below hb (by exact row_below (by repeat (first | exact Below.refl _ _ | (with_reducible apply below_drew) | (with_reducible apply pw_below_drewN))) HXb.out)); clear HXb; have HXb := n0_; clear n0_; have n0_ := Lib.hid (row_below hb (by exact row_below (by repeat (first | exact Below.refl _ _ | (with_reducible apply below_drew) | (with_reducible apply pw_below_drewN))) HMb.out)); clear HMb; have HMb := n0_; clear n0_; have n0_ := Lib.hid (row_below hb (by exact row_below (by repeat (first | exact Below.refl _ _ | (with_reducible apply below_drew) | (with_reducible apply pw_below_drewN))) HTI.out)); clear HTI; have HTI := n0_; clear n0_; have n0_ := Lib.hid (row_below hb (by exact row_below (by repeat (first | exact Below.refl _ _ | (with_reducible apply below_drew) | (with_reducible apply pw_below_drewN))) HTJ.out)); clear HTJ; have HTJ := n0_; clear n0_; have n0_ := Lib.hid (row_below hb (by exact row_below (by repeat (first | exact Below.refl _ _ | (with_reducible apply below_drew) | (with_reducible apply pw_below_drewN))) HTb.out)); clear HTb; have HTb := n0_; clear n0_; have n0_ := Lib.hid (Kd.C_below (by exact Kd.C_below HC3.out (by repeat (first | exact Below.refl _ _ | (with_reducible apply below_drew) | (with_reducible apply pw_below_drewN)))) hb); clear HC3; have HC3 := n0_; clear n0_; have n0_ := Lib.hid (Kd.C_below (by exact Kd.C_below HC4.out (by repeat (first | exact Below.refl _ _ | (with_reducible apply below_drew) | (with_reducible apply pw_below_drewN)))) hb); clear HC4; have HC4 := n0_; clear n0_; have n0_ := Lib.hid (Kd.C_below (by exact Kd.C_below HC5.out (by repeat (first | exact Below.refl _ _ | (with_reducible apply below_drew) | (with_reducible apply pw_below_drewN)))) hb); clear HC5; have HC5 := n0_; clear n0_; have n0_ := Lib.hid (Kd.C_below (by exact Kd.C_below HC6.out (by repeat (first | exact Below.refl _ _ | (with_reducible apply below_drew) | (with_reducible apply pw_below_drewN)))) hb); clear HC6; have HC6 := n0_; clear n0_; have n0_ := Lib.hid (pw_cell_below2 hb (by exact pw_cell_below2 (by repeat (first | exact Below.refl _ _ | (with_reducible apply below_drew) | (with_reducible apply pw_below_drewN))) RCI.out)); clear RCI; have RCI := n0_; clear n0_; have n0_ := Lib.hid (pw_cell_below2 hb (by exact pw_cell_below2 (by repeat (first | exact Below.refl _ _ | (with_reducible apply below_drew) | (with_reducible apply pw_below_drewN))) RCJ.out)); clear RCJ; have RCJ := n0_; clear n0_; have k_t := pw_cell_below hb (a := ⟨w.heap.size, 0, none⟩) (v := .slice (some aI) l.length cI) (by first | assumption | go_simp); have k_i := pw_cell_below hb (a := ⟨ib, 0, none⟩) (v := .int .i64 (i : Nat)) (by first | assumption | go_simp); have k_w := pw_cell_below hb (a := ⟨wb, 0, none⟩) (v := .slice A3 (scanT si.data.toList 0 none).length c3) (by first | assumption | go_simp); have k_p := pw_cell_below hb (a := ⟨wb + 1, 0, none⟩) (v := .slice A4 (scanT si.data.toList 0 none).length c4) (by first | assumption | go_simp); have r_i := pw_cell_below hb (a := (aI.add i)) (v := .func (.func 35) #[] #[.pointer (some ⟨bi, 0, none⟩)]) (by first | assumption | go_simp); clear hb) | (go_at_call 23; (with_reducible refine (goes_calls si bi A3 A4 c3 c4 0 _ (by omega) (by exact row_below (by repeat (first | exact Below.refl _ _ | (with_reducible apply below_drew) | (with_reducible apply pw_below_drewN))) HTI.out) (by exact Kd.C_below HC3.out (by repeat (first | exact Below.refl _ _ | (with_reducible apply below_drew) | (with_reducible apply pw_below_drewN)))) (by exact Kd.C_below HC4.out (by repeat (first | exact Below.refl _ _ | (with_reducible apply below_drew) | (with_reducible apply pw_below_drewN))))).mono ?_); rintro e u_ ⟨rfl, hb⟩; have n0_ := Lib.hid (below_step (by repeat (first | (with_reducible exact HB.out) | (with_reducible apply below_drew) | (with_reducible apply pw_below_drewN) | exact HB.out)) hb); clear HB; have HB := n0_; clear n0_; have n0_ := Lib.hid (row_below hb (by exact row_below (by repeat (first | exact Below.refl _ _ | (with_reducible apply below_drew) | (with_reducible apply pw_below_drewN))) HIb.out)); clear HIb; have HIb := n0_; clear n0_; have n0_ := Lib.hid (row_below hb (by exact row_below (by repeat (first | exact Below.refl _ _ | (with_reducible apply below_drew) | (with_reducible apply pw_below_drewN))) HJb.out)); clear HJb; have HJb := n0_; clear n0_; have n0_ := Lib.hid (row_below hb (by exact row_below (by repeat (first | exact Below.refl _ _ | (with_reducible apply below_drew) | (with_reducible apply pw_below_drewN))) HWb.out)); clear HWb; have HWb := n0_; clear n0_; have n0_ := Lib.hid (row_below hb (by exact row_below (by repeat (first | exact Below.refl _ _ | (with_reducible apply below_drew) | (with_reducible apply pw_below_drewN))) HPb.out)); clear HPb; have HPb := n0_; clear n0_; have n0_ := Lib.hid (row_below hb (by exact row_below (by repeat (first | exact Below.refl _ _ | (with_reducible apply below_drew) | (with_reducible apply pw_below_drewN))) HXb.out)); clear HXb; have HXb := n0_; clear n0_; have n0_ := Lib.hid (row_below hb (by exact row_below (by repeat (first | exact Below.refl _ _ | (with_reducible apply below_drew) | (with_reducible apply pw_below_drewN))) HMb.out)); clear HMb; have HMb := n0_; clear n0_; have n0_ := Lib.hid (row_below hb (by exact row_below (by repeat (first | exact Below.refl _ _ | (with_reducible apply below_drew) | (with_reducible apply pw_below_drewN))) HTI.out)); clear HTI; have HTI := n0_; clear n0_; have n0_ := Lib.hid (row_below hb (by exact row_below (by repeat (first | exact Below.refl _ _ | (with_reducible apply below_drew) | (with_reducible apply pw_below_drewN))) HTJ.out)); clear HTJ; have HTJ := n0_; clear n0_; have n0_ := Lib.hid (row_below hb (by exact row_below (by repeat (first | exact Below.refl _ _ | (with_reducible apply below_drew) | (with_reducible apply pw_below_drewN))) HTb.out)); clear HTb; have HTb := n0_; clear n0_; have n0_ := Lib.hid (Kd.C_below (by exact Kd.C_below HC3.out (by repeat (first | exact Below.refl _ _ | (with_reducible apply below_drew) | (with_reducible apply pw_below_drewN)))) hb); clear HC3; have HC3 := n0_; clear n0_; have n0_ := Lib.hid (Kd.C_below (by exact Kd.C_below HC4.out (by repeat (first | exact Below.refl _ _ | (with_reducible apply below_drew) | (with_reducible apply pw_below_drewN)))) hb); clear HC4; have HC4 := n0_; clear n0_; have n0_ := Lib.hid (Kd.C_below (by exact Kd.C_below HC5.out (by repeat (first | exact Below.refl _ _ | (with_reducible apply below_drew) | (with_reducible apply pw_below_drewN)))) hb); clear HC5; have HC5 := n0_; clear n0_; have n0_ := Lib.hid (Kd.C_below (by exact Kd.C_below HC6.out (by repeat (first | exact Below.refl _ _ | (with_reducible apply below_drew) | (with_reducible apply pw_below_drewN)))) hb); clear HC6; have HC6 := n0_; clear n0_; have n0_ := Lib.hid (pw_cell_below2 hb (by exact pw_cell_below2 (by repeat (first | exact Below.refl _ _ | (with_reducible apply below_drew) | (with_reducible apply pw_below_drewN))) RCI.out)); clear RCI; have RCI := n0_; clear n0_; have n0_ := Lib.hid (pw_cell_below2 hb (by exact pw_cell_below2 (by repeat (first | exact Below.refl _ _ | (with_reducible apply below_drew) | (with_reducible apply pw_below_drewN))) RCJ.out)); clear RCJ; have RCJ := n0_; clear n0_; have k_t := pw_cell_below hb (a := ⟨w.heap.size, 0, none⟩) (v := .slice (some aI) l.length cI) (by first | assumption | go_simp); have k_i := pw_cell_below hb (a := ⟨ib, 0, none⟩) (v := .int .i64 (i : Nat)) (by first | assumption | go_simp); have k_w := pw_cell_below hb (a := ⟨wb, 0, none⟩) (v := .slice A3 (scanT si.data.toList 0 none).length c3) (by first | assumption | go_simp); have k_p := pw_cell_below hb (a := ⟨wb + 1, 0, none⟩) (v := .slice A4 (scanT si.data.toList 0 none).length c4) (by first | assumption | go_simp); have r_i := pw_cell_below hb (a := (aI.add i)) (v := .func (.func 35) #[] #[.pointer (some ⟨bi, 0, none⟩)]) (by first | assumption | go_simp); clear hb)))
              go_upto_region 25 with fail
              clear k_t k_i k_w k_p r_i
              have HRD := Lib.hid (show Rnd wb (wb + 1) w.heap.size ib jb xb (xb + 1) bi bj si sj A3 A4 A5 A6 aI c3 c4 c5 c6 cI l.length i j u_ from ⟨HWb.out, HPb.out, HTb.out, HIb.out, HJb.out, HXb.out, HMb.out, hil, hjl, RCI.out, RCJ.out, HTI.out, HTJ.out, HC3.out, HC4.out, HC5.out, HC6.out⟩)
              have hn_ := heap_alloc2_old u_ (.cells #[.int .i64 0] 3) (.cells #[.bool true] 4)
              have hr_ := heap_alloc2_new u_ (.cells #[.int .i64 0] 3) (.cells #[.bool true] 4)
              have hz_ : ((u_.alloc (.cells #[.int .i64 0] 3)).alloc (.cells #[.bool true] 4)).heap.size = u_.heap.size + 2 := by simp
              have hbz : Below u_.heap.size u_ ((u_.alloc (.cells #[.int .i64 0] 3)).alloc (.cells #[.bool true] 4)) := ((Below.refl _ _).alloc (Nat.le_refl _) _).alloc (by simp) _
              have HN_ := Lib.hid hn_
              have HR_ := Lib.hid hr_
              have HZ_ := Lib.hid hz_
              have HBZ := Lib.hid hbz
              clear hn_ hr_ hz_ hbz
              go_upto_region 27 with fail
              generalize (u_.alloc (.cells #[.int .i64 0] 3)).alloc (.cells #[.bool true] 4) = wz at *
              have k_t := cell_of_row _ _ 0 _ _ _ (row_below HBZ.out HTb.out)
              have k_i := cell_of_row _ _ 0 _ _ _ (row_below HBZ.out HIb.out)
              have r_i := pw_cell_below2 HBZ.out RCI.out
              go_wp2_with fail
              clear k_t k_i r_i
              refine (round_calls HRD.out (by omega) (by omega) wz HBZ.out HZ_.out HN_.out HR_.out).mono ?_
              rintro e w13 ⟨rfl, h1, h2, h3⟩
              have hwb := (h3.block _ (Array.getElem?_eq_some_iff.1 HWb.out).1).trans (row_below HBZ.out HWb.out)
              have hlu : w2.heap.size ≤ u_.heap.size := HB.out.size
              have HB13 := Lib.hid ((HB.out.trans (HBZ.out.mono hlu)).trans (h3.mono hlu))
              have k_n := cell_of_row _ _ 0 _ _ _ h1
              have k_r := cell_of_row _ _ 0 _ _ _ h2
              have k_w := cell_of_row _ _ 0 _ _ _ hwb
              clear h1 h2 h3 hwb
              have hw9 : IntKind.i64.wrap ((k : Int) + 1) = (k : Int) + 1 := IntWalk.i64_in _ ⟨by omega, by omega⟩
              go_wp2
              go_roundg (2 * l.length - (k + 1))
              case measure => omega
              case rel => exact ⟨k + 1, rfl, by omega, rfl, HB13⟩
            · skip
              have d1 : decide ((k : Int) < 2 * (l.length : Int)) = false := decide_eq_false (by omega)
              go_wp2_with fail
              refine (known_calls _).mono ?_
              rintro e w3 ⟨rfl, hb⟩
              have HB3 := Lib.hid ((HW2.out.trans (HB.out.mono HW2.out.size)).trans (hb.mono (show w.heap.size ≤ _ from (HW2.out.trans (HB.out.mono HW2.out.size)).size)))
              go_wp2
              go_ret
              exact ⟨rfl, HB3.out⟩
/-- In the print's form. -/
def postbaglaw10_FrameScans.f (l0 : List ByteArray) (_a1 : Int) : Option Bool := if l0.all (fun x => decide (x.size ≤ 140737488351232)) = true then some true else none
theorem postbaglaw10_FrameScans.calls (A0 : Option Addr) (c0 : Nat) (l0 : List ByteArray) (a1 : Int) (r : Bool) (w : World) (hr0 : Kd.C Kd.string w A0 l0.length l0) (_hc0 : l0.length ≤ c0) (h : postbaglaw10_FrameScans.f l0 a1 = some r) :
    Calls Try.prog 5 #[.slice A0 l0.length c0, .int .i64 a1] w fun e w' => e = .returned (.bool r) ∧ Below w.heap.size w w' := by
  unfold postbaglaw10_FrameScans.f at h
  by_cases hs : l0.all (fun x => decide (x.size ≤ 140737488351232)) = true
  · rw [if_pos hs] at h
    obtain rfl : true = r := Option.some.inj h
    exact frameScans_calls A0 c0 l0 a1 w hr0 (fun x hx => of_decide_eq_true (List.all_eq_true.1 hs x hx))
  · rw [if_neg hs] at h
    exact absurd h (by simp)
end Go.Proofs.Ytcndhgpaoihblaa.Fr
