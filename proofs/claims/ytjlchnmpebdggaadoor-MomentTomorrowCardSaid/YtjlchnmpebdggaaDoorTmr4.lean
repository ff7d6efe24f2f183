import Derived.Test.YtjlchnmpebdggaaDoorTmr3
import Derived.Test.YtjlchnmpebdggaaDoorTmr1
import Derived.Laws.IdiomStrings
import Derived.DataShut
import Derived.Lib.Hide
section
namespace Go.Proofs.YtjlchnmpebdggaaDoor.Mo
open Go.RowKit Go.Proofs.YtjlchnmpebdggaaDoorW.PrintWords
theorem two_blk (w : World) (A Z : Array Value) : ((w.alloc (.cells A 23)).alloc (.cells Z 23)).heap[w.heap.size]? = some (.cells A 23) ∧ ((w.alloc (.cells A 23)).alloc (.cells Z 23)).heap[w.heap.size + 1]? = some (.cells Z 23) ∧ Below w.heap.size w ((w.alloc (.cells A 23)).alloc (.cells Z 23)) := by
  have h1 := heap_alloc_new w (.cells A 23)
  have h2 := heap_alloc_new (w.alloc (.cells A 23)) (.cells Z 23)
  rw [show (w.alloc (.cells A 23)).heap.size = w.heap.size + 1 from by simp] at h2
  exact ⟨(Below.heap_alloc (w.alloc (.cells A 23)) (.cells Z 23) _ (blk_lt h1)).trans h1, h2, below_alloc (below_alloc (Below.refl _ w) _) _⟩
set_option maxHeartbeats 8000000 in
set_option maxRecDepth 100000 in
theorem behind_calls (y m d h mi s z : Int) (hf : 1 ≤ y ∧ y ≤ 9999 ∧ 1 ≤ m ∧ m ≤ 12 ∧ 1 ≤ d ∧ d ≤ lengthP y m) (w : World) :
    Calls Tryd.prog 23 #[.agg #[.int .i64 y, .int .i64 m, .int .i64 d, .int .i64 h, .int .i64 mi, .int .i64 s, .int .i64 z]] w fun e w' => e = .returned (.tuple #[.agg #[.int .i64 (morrowP y m d).1, .int .i64 (morrowP y m d).2.1, .int .i64 (morrowP y m d).2.2, .int .i64 h, .int .i64 mi, .int .i64 s, .int .i64 z], .bool (decide ((morrowP y m d).1 ≤ 9999))]) ∧ Below w.heap.size w w' := by
  obtain ⟨a1, a2, a3, a4, a5, a6⟩ := hf
  have hlr := length_range y m a3 a4
  have wd : IntKind.i64.wrap (d + 1) = d + 1 := IntWalk.i64_in _ ⟨by omega, by omega⟩
  have wy : IntKind.i64.wrap (y + 1) = y + 1 := IntWalk.i64_in _ ⟨by omega, by omega⟩
  clear hlr
  rcases month_cases a3 a4 with rfl | rfl | rfl | rfl | rfl | rfl | rfl | rfl | rfl | rfl | rfl | rfl
  · skip
    have hL : lengthP y 1 = 31 := by simp [lengthP, monthDays]
    by_cases c1 : 31 < d + 1
    · skip
      rw [hL] at a6
      skip
      have hn : morrowP y 1 d = (y, 2, 1) := by unfold morrowP; rw [if_neg (by omega), if_pos (by omega)]; rfl
      rw [hn]
      clear hn
      have hd : decide (((y, 2, 1) : Int × Int × Int).1 ≤ 9999) = true := decide_eq_true a2
      rw [hd]
      clear hd
      go_enter Tryd.func23, Tryd.ntmps23
      go_upto_region 19 with fail
      obtain ⟨ha, hr, hb⟩ := two_blk w #[.int .i64 (y), .int .i64 (2), .int .i64 (1), .int .i64 h, .int .i64 mi, .int .i64 s, .int .i64 z] #[.int .i64 0, .int .i64 0, .int .i64 0, .int .i64 0, .int .i64 0, .int .i64 0, .int .i64 0]
      generalize (w.alloc (.cells #[.int .i64 (y), .int .i64 (2), .int .i64 (1), .int .i64 h, .int .i64 mi, .int .i64 s, .int .i64 z] 23)).alloc (.cells #[.int .i64 0, .int .i64 0, .int .i64 0, .int .i64 0, .int .i64 0, .int .i64 0, .int .i64 0] 23) = w2 at *
      have HA := Lib.hid ha
      have HR := Lib.hid hr
      have HB := Lib.hid hb
      clear ha hr hb
      obtain ⟨⟨k0, k1, k2, k3, k4, k5, k6⟩, _⟩ := cells7 HA.out
      obtain ⟨⟨l0, l1, l2, l3, l4, l5, l6⟩, lf⟩ := cells7 HR.out
      have f0 := lf 0
      have f1 := lf 1
      have f2 := lf 2
      have f3 := lf 3
      have f4 := lf 4
      have f5 := lf 5
      have f6 := lf 6
      clear lf
      generalize hg : w.heap.size + 1 = g at *
      have GE : w.heap.size ≤ g := by rw [← hg]; exact Nat.le_succ _
      have ne1 : w.heap.size ≠ g := by rw [← hg]; exact Nat.ne_of_lt (Nat.lt_succ_self _)
      have ne2 : g ≠ w.heap.size := ne1.symm
      clear hg
      go_region
      go_wp2
      exact bodyPost_ret (results_ct rfl _ _ g 23 #[.int .i64 (y), .int .i64 (2), .int .i64 (1), .int .i64 h, .int .i64 mi, .int .i64 s, .int .i64 z] (0, 0) _ rfl (blk_drew (set7 HR.out _ _ _ _ _ _ _).1) Tryd.underlying23 rfl (by kernel_rfl)) rfl ⟨rfl, below_drew ((set7 HR.out _ _ _ _ _ _ _).2 _ _ HB.out GE)⟩
    · skip
      have hn : morrowP y 1 d = (y, 1, d + 1) := by unfold morrowP; rw [if_pos (by omega)]
      rw [hn]
      clear hn
      have hd : decide (((y, 1, d + 1) : Int × Int × Int).1 ≤ 9999) = true := decide_eq_true a2
      rw [hd]
      clear hd
      go_enter Tryd.func23, Tryd.ntmps23
      go_upto_region 19 with fail
      obtain ⟨ha, hr, hb⟩ := two_blk w #[.int .i64 (y), .int .i64 (1), .int .i64 (d + 1), .int .i64 h, .int .i64 mi, .int .i64 s, .int .i64 z] #[.int .i64 0, .int .i64 0, .int .i64 0, .int .i64 0, .int .i64 0, .int .i64 0, .int .i64 0]
      generalize (w.alloc (.cells #[.int .i64 (y), .int .i64 (1), .int .i64 (d + 1), .int .i64 h, .int .i64 mi, .int .i64 s, .int .i64 z] 23)).alloc (.cells #[.int .i64 0, .int .i64 0, .int .i64 0, .int .i64 0, .int .i64 0, .int .i64 0, .int .i64 0] 23) = w2 at *
      have HA := Lib.hid ha
      have HR := Lib.hid hr
      have HB := Lib.hid hb
      clear ha hr hb
      obtain ⟨⟨k0, k1, k2, k3, k4, k5, k6⟩, _⟩ := cells7 HA.out
      obtain ⟨⟨l0, l1, l2, l3, l4, l5, l6⟩, lf⟩ := cells7 HR.out
      have f0 := lf 0
      have f1 := lf 1
      have f2 := lf 2
      have f3 := lf 3
      have f4 := lf 4
      have f5 := lf 5
      have f6 := lf 6
      clear lf
      generalize hg : w.heap.size + 1 = g at *
      have GE : w.heap.size ≤ g := by rw [← hg]; exact Nat.le_succ _
      have ne1 : w.heap.size ≠ g := by rw [← hg]; exact Nat.ne_of_lt (Nat.lt_succ_self _)
      have ne2 : g ≠ w.heap.size := ne1.symm
      clear hg
      go_region
      go_wp2
      exact bodyPost_ret (results_ct rfl _ _ g 23 #[.int .i64 (y), .int .i64 (1), .int .i64 (d + 1), .int .i64 h, .int .i64 mi, .int .i64 s, .int .i64 z] (0, 0) _ rfl (blk_drew (set7 HR.out _ _ _ _ _ _ _).1) Tryd.underlying23 rfl (by kernel_rfl)) rfl ⟨rfl, below_drew ((set7 HR.out _ _ _ _ _ _ _).2 _ _ HB.out GE)⟩
  · skip
    have r4 := Int.emod_nonneg y (show (4:Int) ≠ 0 by decide)
    have w400 : IntKind.i64.wrap (Int.tmod y 400) = Int.tmod y 400 := by rw [IntWalk.i64_in]; rw [Int.tmod_eq_emod_of_nonneg (by omega)]; omega
    have w100 : IntKind.i64.wrap (Int.tmod y 100) = Int.tmod y 100 := by rw [IntWalk.i64_in]; rw [Int.tmod_eq_emod_of_nonneg (by omega)]; omega
    have w4 : IntKind.i64.wrap (Int.tmod y 4) = Int.tmod y 4 := by rw [IntWalk.i64_in]; rw [Int.tmod_eq_emod_of_nonneg (by omega)]; omega
    have t400 : Int.tmod y 400 = y % 400 := Int.tmod_eq_emod_of_nonneg (by omega)
    have t100 : Int.tmod y 100 = y % 100 := Int.tmod_eq_emod_of_nonneg (by omega)
    have t4 : Int.tmod y 4 = y % 4 := Int.tmod_eq_emod_of_nonneg (by omega)
    clear r4
    have q4of : Int.tmod y 400 = 0 → Int.tmod y 4 = 0 := by rw [Int.tmod_eq_emod_of_nonneg (by omega), Int.tmod_eq_emod_of_nonneg (by omega)]; omega
    by_cases q4 : Int.tmod y 400 = 0
    · have q1 := q4of q4
      clear q4of
      have hL : lengthP y 2 = 29 := by simp [lengthP, leapB, q4, q1]
      skip
      rw [t400] at q4
      rw [t4] at q1
      clear t400 t4 t100
      by_cases c1 : 29 < d + 1
      · skip
        rw [hL] at a6
        have hn : morrowP y 2 d = (y, 3, 1) := by unfold morrowP; rw [if_neg (by omega), if_pos (by omega)]; rfl
        rw [hn]
        clear hn
        have hd : decide (((y, 3, 1) : Int × Int × Int).1 ≤ 9999) = true := decide_eq_true a2
        rw [hd]
        clear hd
        go_enter Tryd.func23, Tryd.ntmps23
        go_upto_region 19 with fail
        obtain ⟨ha, hr, hb⟩ := two_blk w #[.int .i64 (y), .int .i64 (3), .int .i64 (1), .int .i64 h, .int .i64 mi, .int .i64 s, .int .i64 z] #[.int .i64 0, .int .i64 0, .int .i64 0, .int .i64 0, .int .i64 0, .int .i64 0, .int .i64 0]
        generalize (w.alloc (.cells #[.int .i64 (y), .int .i64 (3), .int .i64 (1), .int .i64 h, .int .i64 mi, .int .i64 s, .int .i64 z] 23)).alloc (.cells #[.int .i64 0, .int .i64 0, .int .i64 0, .int .i64 0, .int .i64 0, .int .i64 0, .int .i64 0] 23) = w2 at *
        have HA := Lib.hid ha
        have HR := Lib.hid hr
        have HB := Lib.hid hb
        clear ha hr hb
        obtain ⟨⟨k0, k1, k2, k3, k4, k5, k6⟩, _⟩ := cells7 HA.out
        obtain ⟨⟨l0, l1, l2, l3, l4, l5, l6⟩, lf⟩ := cells7 HR.out
        have f0 := lf 0
        have f1 := lf 1
        have f2 := lf 2
        have f3 := lf 3
        have f4 := lf 4
        have f5 := lf 5
        have f6 := lf 6
        clear lf
        generalize hg : w.heap.size + 1 = g at *
        have GE : w.heap.size ≤ g := by rw [← hg]; exact Nat.le_succ _
        have ne1 : w.heap.size ≠ g := by rw [← hg]; exact Nat.ne_of_lt (Nat.lt_succ_self _)
        have ne2 : g ≠ w.heap.size := ne1.symm
        clear hg
        go_region
        go_wp2
        exact bodyPost_ret (results_ct rfl _ _ g 23 #[.int .i64 (y), .int .i64 (3), .int .i64 (1), .int .i64 h, .int .i64 mi, .int .i64 s, .int .i64 z] (0, 0) _ rfl (blk_drew (set7 HR.out _ _ _ _ _ _ _).1) Tryd.underlying23 rfl (by kernel_rfl)) rfl ⟨rfl, below_drew ((set7 HR.out _ _ _ _ _ _ _).2 _ _ HB.out GE)⟩
      · skip
        have hn : morrowP y 2 d = (y, 2, d + 1) := by unfold morrowP; rw [if_pos (by omega)]
        rw [hn]
        clear hn
        have hd : decide (((y, 2, d + 1) : Int × Int × Int).1 ≤ 9999) = true := decide_eq_true a2
        rw [hd]
        clear hd
        go_enter Tryd.func23, Tryd.ntmps23
        go_upto_region 19 with fail
        obtain ⟨ha, hr, hb⟩ := two_blk w #[.int .i64 (y), .int .i64 (2), .int .i64 (d + 1), .int .i64 h, .int .i64 mi, .int .i64 s, .int .i64 z] #[.int .i64 0, .int .i64 0, .int .i64 0, .int .i64 0, .int .i64 0, .int .i64 0, .int .i64 0]
        generalize (w.alloc (.cells #[.int .i64 (y), .int .i64 (2), .int .i64 (d + 1), .int .i64 h, .int .i64 mi, .int .i64 s, .int .i64 z] 23)).alloc (.cells #[.int .i64 0, .int .i64 0, .int .i64 0, .int .i64 0, .int .i64 0, .int .i64 0, .int .i64 0] 23) = w2 at *
        have HA := Lib.hid ha
        have HR := Lib.hid hr
        have HB := Lib.hid hb
        clear ha hr hb
        obtain ⟨⟨k0, k1, k2, k3, k4, k5, k6⟩, _⟩ := cells7 HA.out
        obtain ⟨⟨l0, l1, l2, l3, l4, l5, l6⟩, lf⟩ := cells7 HR.out
        have f0 := lf 0
        have f1 := lf 1
        have f2 := lf 2
        have f3 := lf 3
        have f4 := lf 4
        have f5 := lf 5
        have f6 := lf 6
        clear lf
        generalize hg : w.heap.size + 1 = g at *
        have GE : w.heap.size ≤ g := by rw [← hg]; exact Nat.le_succ _
        have ne1 : w.heap.size ≠ g := by rw [← hg]; exact Nat.ne_of_lt (Nat.lt_succ_self _)
        have ne2 : g ≠ w.heap.size := ne1.symm
        clear hg
        go_region
        go_wp2
        exact bodyPost_ret (results_ct rfl _ _ g 23 #[.int .i64 (y), .int .i64 (2), .int .i64 (d + 1), .int .i64 h, .int .i64 mi, .int .i64 s, .int .i64 z] (0, 0) _ rfl (blk_drew (set7 HR.out _ _ _ _ _ _ _).1) Tryd.underlying23 rfl (by kernel_rfl)) rfl ⟨rfl, below_drew ((set7 HR.out _ _ _ _ _ _ _).2 _ _ HB.out GE)⟩
    · clear q4of
      by_cases q1 : Int.tmod y 4 = 0
      · by_cases q2 : Int.tmod y 100 = 0
        · skip
          have hL : lengthP y 2 = 28 := by simp [lengthP, monthDays, leapB, q4, q1, q2]
          skip
          rw [t400] at q4
          rw [t4] at q1
          rw [t100] at q2
          clear t400 t4 t100
          by_cases c1 : 28 < d + 1
          · skip
            rw [hL] at a6
            have hn : morrowP y 2 d = (y, 3, 1) := by unfold morrowP; rw [if_neg (by omega), if_pos (by omega)]; rfl
            rw [hn]
            clear hn
            have hd : decide (((y, 3, 1) : Int × Int × Int).1 ≤ 9999) = true := decide_eq_true a2
            rw [hd]
            clear hd
            go_enter Tryd.func23, Tryd.ntmps23
            go_upto_region 19 with fail
            obtain ⟨ha, hr, hb⟩ := two_blk w #[.int .i64 (y), .int .i64 (3), .int .i64 (1), .int .i64 h, .int .i64 mi, .int .i64 s, .int .i64 z] #[.int .i64 0, .int .i64 0, .int .i64 0, .int .i64 0, .int .i64 0, .int .i64 0, .int .i64 0]
            generalize (w.alloc (.cells #[.int .i64 (y), .int .i64 (3), .int .i64 (1), .int .i64 h, .int .i64 mi, .int .i64 s, .int .i64 z] 23)).alloc (.cells #[.int .i64 0, .int .i64 0, .int .i64 0, .int .i64 0, .int .i64 0, .int .i64 0, .int .i64 0] 23) = w2 at *
            have HA := Lib.hid ha
            have HR := Lib.hid hr
            have HB := Lib.hid hb
            clear ha hr hb
            obtain ⟨⟨k0, k1, k2, k3, k4, k5, k6⟩, _⟩ := cells7 HA.out
            obtain ⟨⟨l0, l1, l2, l3, l4, l5, l6⟩, lf⟩ := cells7 HR.out
            have f0 := lf 0
            have f1 := lf 1
            have f2 := lf 2
            have f3 := lf 3
            have f4 := lf 4
            have f5 := lf 5
            have f6 := lf 6
            clear lf
            generalize hg : w.heap.size + 1 = g at *
            have GE : w.heap.size ≤ g := by rw [← hg]; exact Nat.le_succ _
            have ne1 : w.heap.size ≠ g := by rw [← hg]; exact Nat.ne_of_lt (Nat.lt_succ_self _)
            have ne2 : g ≠ w.heap.size := ne1.symm
            clear hg
            go_region
            go_wp2
            exact bodyPost_ret (results_ct rfl _ _ g 23 #[.int .i64 (y), .int .i64 (3), .int .i64 (1), .int .i64 h, .int .i64 mi, .int .i64 s, .int .i64 z] (0, 0) _ rfl (blk_drew (set7 HR.out _ _ _ _ _ _ _).1) Tryd.underlying23 rfl (by kernel_rfl)) rfl ⟨rfl, below_drew ((set7 HR.out _ _ _ _ _ _ _).2 _ _ HB.out GE)⟩
          · skip
            have hn : morrowP y 2 d = (y, 2, d + 1) := by unfold morrowP; rw [if_pos (by omega)]
            rw [hn]
            clear hn
            have hd : decide (((y, 2, d + 1) : Int × Int × Int).1 ≤ 9999) = true := decide_eq_true a2
            rw [hd]
            clear hd
            go_enter Tryd.func23, Tryd.ntmps23
            go_upto_region 19 with fail
            obtain ⟨ha, hr, hb⟩ := two_blk w #[.int .i64 (y), .int .i64 (2), .int .i64 (d + 1), .int .i64 h, .int .i64 mi, .int .i64 s, .int .i64 z] #[.int .i64 0, .int .i64 0, .int .i64 0, .int .i64 0, .int .i64 0, .int .i64 0, .int .i64 0]
            generalize (w.alloc (.cells #[.int .i64 (y), .int .i64 (2), .int .i64 (d + 1), .int .i64 h, .int .i64 mi, .int .i64 s, .int .i64 z] 23)).alloc (.cells #[.int .i64 0, .int .i64 0, .int .i64 0, .int .i64 0, .int .i64 0, .int .i64 0, .int .i64 0] 23) = w2 at *
            have HA := Lib.hid ha
            have HR := Lib.hid hr
            have HB := Lib.hid hb
            clear ha hr hb
            obtain ⟨⟨k0, k1, k2, k3, k4, k5, k6⟩, _⟩ := cells7 HA.out
            obtain ⟨⟨l0, l1, l2, l3, l4, l5, l6⟩, lf⟩ := cells7 HR.out
            have f0 := lf 0
            have f1 := lf 1
            have f2 := lf 2
            have f3 := lf 3
            have f4 := lf 4
            have f5 := lf 5
            have f6 := lf 6
            clear lf
            generalize hg : w.heap.size + 1 = g at *
            have GE : w.heap.size ≤ g := by rw [← hg]; exact Nat.le_succ _
            have ne1 : w.heap.size ≠ g := by rw [← hg]; exact Nat.ne_of_lt (Nat.lt_succ_self _)
            have ne2 : g ≠ w.heap.size := ne1.symm
            clear hg
            go_region
            go_wp2
            exact bodyPost_ret (results_ct rfl _ _ g 23 #[.int .i64 (y), .int .i64 (2), .int .i64 (d + 1), .int .i64 h, .int .i64 mi, .int .i64 s, .int .i64 z] (0, 0) _ rfl (blk_drew (set7 HR.out _ _ _ _ _ _ _).1) Tryd.underlying23 rfl (by kernel_rfl)) rfl ⟨rfl, below_drew ((set7 HR.out _ _ _ _ _ _ _).2 _ _ HB.out GE)⟩
        · skip
          have hL : lengthP y 2 = 29 := by simp [lengthP, leapB, q4, q1, q2]
          skip
          rw [t400] at q4
          rw [t4] at q1
          rw [t100] at q2
          clear t400 t4 t100
          have b4 : (y % 400 == 0) = false := by simpa using q4
          have b2 : (y % 100 != 0) = true := by simpa using q2
          by_cases c1 : 29 < d + 1
          · skip
            rw [hL] at a6
            have hn : morrowP y 2 d = (y, 3, 1) := by unfold morrowP; rw [if_neg (by omega), if_pos (by omega)]; rfl
            rw [hn]
            clear hn
            have hd : decide (((y, 3, 1) : Int × Int × Int).1 ≤ 9999) = true := decide_eq_true a2
            rw [hd]
            clear hd
            go_enter Tryd.func23, Tryd.ntmps23
            go_upto_region 19 with fail
            obtain ⟨ha, hr, hb⟩ := two_blk w #[.int .i64 (y), .int .i64 (3), .int .i64 (1), .int .i64 h, .int .i64 mi, .int .i64 s, .int .i64 z] #[.int .i64 0, .int .i64 0, .int .i64 0, .int .i64 0, .int .i64 0, .int .i64 0, .int .i64 0]
            generalize (w.alloc (.cells #[.int .i64 (y), .int .i64 (3), .int .i64 (1), .int .i64 h, .int .i64 mi, .int .i64 s, .int .i64 z] 23)).alloc (.cells #[.int .i64 0, .int .i64 0, .int .i64 0, .int .i64 0, .int .i64 0, .int .i64 0, .int .i64 0] 23) = w2 at *
            have HA := Lib.hid ha
            have HR := Lib.hid hr
            have HB := Lib.hid hb
            clear ha hr hb
            obtain ⟨⟨k0, k1, k2, k3, k4, k5, k6⟩, _⟩ := cells7 HA.out
            obtain ⟨⟨l0, l1, l2, l3, l4, l5, l6⟩, lf⟩ := cells7 HR.out
            have f0 := lf 0
            have f1 := lf 1
            have f2 := lf 2
            have f3 := lf 3
            have f4 := lf 4
            have f5 := lf 5
            have f6 := lf 6
            clear lf
            generalize hg : w.heap.size + 1 = g at *
            have GE : w.heap.size ≤ g := by rw [← hg]; exact Nat.le_succ _
            have ne1 : w.heap.size ≠ g := by rw [← hg]; exact Nat.ne_of_lt (Nat.lt_succ_self _)
            have ne2 : g ≠ w.heap.size := ne1.symm
            clear hg
            go_region
            go_wp2
            exact bodyPost_ret (results_ct rfl _ _ g 23 #[.int .i64 (y), .int .i64 (3), .int .i64 (1), .int .i64 h, .int .i64 mi, .int .i64 s, .int .i64 z] (0, 0) _ rfl (blk_drew (set7 HR.out _ _ _ _ _ _ _).1) Tryd.underlying23 rfl (by kernel_rfl)) rfl ⟨rfl, below_drew ((set7 HR.out _ _ _ _ _ _ _).2 _ _ HB.out GE)⟩
          · skip
            have hn : morrowP y 2 d = (y, 2, d + 1) := by unfold morrowP; rw [if_pos (by omega)]
            rw [hn]
            clear hn
            have hd : decide (((y, 2, d + 1) : Int × Int × Int).1 ≤ 9999) = true := decide_eq_true a2
            rw [hd]
            clear hd
            go_enter Tryd.func23, Tryd.ntmps23
            go_upto_region 19 with fail
            obtain ⟨ha, hr, hb⟩ := two_blk w #[.int .i64 (y), .int .i64 (2), .int .i64 (d + 1), .int .i64 h, .int .i64 mi, .int .i64 s, .int .i64 z] #[.int .i64 0, .int .i64 0, .int .i64 0, .int .i64 0, .int .i64 0, .int .i64 0, .int .i64 0]
            generalize (w.alloc (.cells #[.int .i64 (y), .int .i64 (2), .int .i64 (d + 1), .int .i64 h, .int .i64 mi, .int .i64 s, .int .i64 z] 23)).alloc (.cells #[.int .i64 0, .int .i64 0, .int .i64 0, .int .i64 0, .int .i64 0, .int .i64 0, .int .i64 0] 23) = w2 at *
            have HA := Lib.hid ha
            have HR := Lib.hid hr
            have HB := Lib.hid hb
            clear ha hr hb
            obtain ⟨⟨k0, k1, k2, k3, k4, k5, k6⟩, _⟩ := cells7 HA.out
            obtain ⟨⟨l0, l1, l2, l3, l4, l5, l6⟩, lf⟩ := cells7 HR.out
            have f0 := lf 0
            have f1 := lf 1
            have f2 := lf 2
            have f3 := lf 3
            have f4 := lf 4
            have f5 := lf 5
            have f6 := lf 6
            clear lf
            generalize hg : w.heap.size + 1 = g at *
            have GE : w.heap.size ≤ g := by rw [← hg]; exact Nat.le_succ _
            have ne1 : w.heap.size ≠ g := by rw [← hg]; exact Nat.ne_of_lt (Nat.lt_succ_self _)
            have ne2 : g ≠ w.heap.size := ne1.symm
            clear hg
            go_region
            go_wp2
            exact bodyPost_ret (results_ct rfl _ _ g 23 #[.int .i64 (y), .int .i64 (2), .int .i64 (d + 1), .int .i64 h, .int .i64 mi, .int .i64 s, .int .i64 z] (0, 0) _ rfl (blk_drew (set7 HR.out _ _ _ _ _ _ _).1) Tryd.underlying23 rfl (by kernel_rfl)) rfl ⟨rfl, below_drew ((set7 HR.out _ _ _ _ _ _ _).2 _ _ HB.out GE)⟩
      · skip
        have hL : lengthP y 2 = 28 := by simp [lengthP, monthDays, leapB, q4, q1]
        skip
        rw [t400] at q4
        rw [t4] at q1
        clear t400 t4 t100
        by_cases c1 : 28 < d + 1
        · skip
          rw [hL] at a6
          have hn : morrowP y 2 d = (y, 3, 1) := by unfold morrowP; rw [if_neg (by omega), if_pos (by omega)]; rfl
          rw [hn]
          clear hn
          have hd : decide (((y, 3, 1) : Int × Int × Int).1 ≤ 9999) = true := decide_eq_true a2
          rw [hd]
          clear hd
          go_enter Tryd.func23, Tryd.ntmps23
          go_upto_region 19 with fail
          obtain ⟨ha, hr, hb⟩ := two_blk w #[.int .i64 (y), .int .i64 (3), .int .i64 (1), .int .i64 h, .int .i64 mi, .int .i64 s, .int .i64 z] #[.int .i64 0, .int .i64 0, .int .i64 0, .int .i64 0, .int .i64 0, .int .i64 0, .int .i64 0]
          generalize (w.alloc (.cells #[.int .i64 (y), .int .i64 (3), .int .i64 (1), .int .i64 h, .int .i64 mi, .int .i64 s, .int .i64 z] 23)).alloc (.cells #[.int .i64 0, .int .i64 0, .int .i64 0, .int .i64 0, .int .i64 0, .int .i64 0, .int .i64 0] 23) = w2 at *
          have HA := Lib.hid ha
          have HR := Lib.hid hr
          have HB := Lib.hid hb
          clear ha hr hb
          obtain ⟨⟨k0, k1, k2, k3, k4, k5, k6⟩, _⟩ := cells7 HA.out
          obtain ⟨⟨l0, l1, l2, l3, l4, l5, l6⟩, lf⟩ := cells7 HR.out
          have f0 := lf 0
          have f1 := lf 1
          have f2 := lf 2
          have f3 := lf 3
          have f4 := lf 4
          have f5 := lf 5
          have f6 := lf 6
          clear lf
          generalize hg : w.heap.size + 1 = g at *
          have GE : w.heap.size ≤ g := by rw [← hg]; exact Nat.le_succ _
          have ne1 : w.heap.size ≠ g := by rw [← hg]; exact Nat.ne_of_lt (Nat.lt_succ_self _)
          have ne2 : g ≠ w.heap.size := ne1.symm
          clear hg
          go_region
          go_wp2
          exact bodyPost_ret (results_ct rfl _ _ g 23 #[.int .i64 (y), .int .i64 (3), .int .i64 (1), .int .i64 h, .int .i64 mi, .int .i64 s, .int .i64 z] (0, 0) _ rfl (blk_drew (set7 HR.out _ _ _ _ _ _ _).1) Tryd.underlying23 rfl (by kernel_rfl)) rfl ⟨rfl, below_drew ((set7 HR.out _ _ _ _ _ _ _).2 _ _ HB.out GE)⟩
        · skip
          have hn : morrowP y 2 d = (y, 2, d + 1) := by unfold morrowP; rw [if_pos (by omega)]
          rw [hn]
          clear hn
          have hd : decide (((y, 2, d + 1) : Int × Int × Int).1 ≤ 9999) = true := decide_eq_true a2
          rw [hd]
          clear hd
          go_enter Tryd.func23, Tryd.ntmps23
          go_upto_region 19 with fail
          obtain ⟨ha, hr, hb⟩ := two_blk w #[.int .i64 (y), .int .i64 (2), .int .i64 (d + 1), .int .i64 h, .int .i64 mi, .int .i64 s, .int .i64 z] #[.int .i64 0, .int .i64 0, .int .i64 0, .int .i64 0, .int .i64 0, .int .i64 0, .int .i64 0]
          generalize (w.alloc (.cells #[.int .i64 (y), .int .i64 (2), .int .i64 (d + 1), .int .i64 h, .int .i64 mi, .int .i64 s, .int .i64 z] 23)).alloc (.cells #[.int .i64 0, .int .i64 0, .int .i64 0, .int .i64 0, .int .i64 0, .int .i64 0, .int .i64 0] 23) = w2 at *
          have HA := Lib.hid ha
          have HR := Lib.hid hr
          have HB := Lib.hid hb
          clear ha hr hb
          obtain ⟨⟨k0, k1, k2, k3, k4, k5, k6⟩, _⟩ := cells7 HA.out
          obtain ⟨⟨l0, l1, l2, l3, l4, l5, l6⟩, lf⟩ := cells7 HR.out
          have f0 := lf 0
          have f1 := lf 1
          have f2 := lf 2
          have f3 := lf 3
          have f4 := lf 4
          have f5 := lf 5
          have f6 := lf 6
          clear lf
          generalize hg : w.heap.size + 1 = g at *
          have GE : w.heap.size ≤ g := by rw [← hg]; exact Nat.le_succ _
          have ne1 : w.heap.size ≠ g := by rw [← hg]; exact Nat.ne_of_lt (Nat.lt_succ_self _)
          have ne2 : g ≠ w.heap.size := ne1.symm
          clear hg
          go_region
          go_wp2
          exact bodyPost_ret (results_ct rfl _ _ g 23 #[.int .i64 (y), .int .i64 (2), .int .i64 (d + 1), .int .i64 h, .int .i64 mi, .int .i64 s, .int .i64 z] (0, 0) _ rfl (blk_drew (set7 HR.out _ _ _ _ _ _ _).1) Tryd.underlying23 rfl (by kernel_rfl)) rfl ⟨rfl, below_drew ((set7 HR.out _ _ _ _ _ _ _).2 _ _ HB.out GE)⟩
  · skip
    have hL : lengthP y 3 = 31 := by simp [lengthP, monthDays]
    by_cases c1 : 31 < d + 1
    · skip
      rw [hL] at a6
      skip
      have hn : morrowP y 3 d = (y, 4, 1) := by unfold morrowP; rw [if_neg (by omega), if_pos (by omega)]; rfl
      rw [hn]
      clear hn
      have hd : decide (((y, 4, 1) : Int × Int × Int).1 ≤ 9999) = true := decide_eq_true a2
      rw [hd]
      clear hd
      go_enter Tryd.func23, Tryd.ntmps23
      go_upto_region 19 with fail
      obtain ⟨ha, hr, hb⟩ := two_blk w #[.int .i64 (y), .int .i64 (4), .int .i64 (1), .int .i64 h, .int .i64 mi, .int .i64 s, .int .i64 z] #[.int .i64 0, .int .i64 0, .int .i64 0, .int .i64 0, .int .i64 0, .int .i64 0, .int .i64 0]
      generalize (w.alloc (.cells #[.int .i64 (y), .int .i64 (4), .int .i64 (1), .int .i64 h, .int .i64 mi, .int .i64 s, .int .i64 z] 23)).alloc (.cells #[.int .i64 0, .int .i64 0, .int .i64 0, .int .i64 0, .int .i64 0, .int .i64 0, .int .i64 0] 23) = w2 at *
      have HA := Lib.hid ha
      have HR := Lib.hid hr
      have HB := Lib.hid hb
      clear ha hr hb
      obtain ⟨⟨k0, k1, k2, k3, k4, k5, k6⟩, _⟩ := cells7 HA.out
      obtain ⟨⟨l0, l1, l2, l3, l4, l5, l6⟩, lf⟩ := cells7 HR.out
      have f0 := lf 0
      have f1 := lf 1
      have f2 := lf 2
      have f3 := lf 3
      have f4 := lf 4
      have f5 := lf 5
      have f6 := lf 6
      clear lf
      generalize hg : w.heap.size + 1 = g at *
      have GE : w.heap.size ≤ g := by rw [← hg]; exact Nat.le_succ _
      have ne1 : w.heap.size ≠ g := by rw [← hg]; exact Nat.ne_of_lt (Nat.lt_succ_self _)
      have ne2 : g ≠ w.heap.size := ne1.symm
      clear hg
      go_region
      go_wp2
      exact bodyPost_ret (results_ct rfl _ _ g 23 #[.int .i64 (y), .int .i64 (4), .int .i64 (1), .int .i64 h, .int .i64 mi, .int .i64 s, .int .i64 z] (0, 0) _ rfl (blk_drew (set7 HR.out _ _ _ _ _ _ _).1) Tryd.underlying23 rfl (by kernel_rfl)) rfl ⟨rfl, below_drew ((set7 HR.out _ _ _ _ _ _ _).2 _ _ HB.out GE)⟩
    · skip
      have hn : morrowP y 3 d = (y, 3, d + 1) := by unfold morrowP; rw [if_pos (by omega)]
      rw [hn]
      clear hn
      have hd : decide (((y, 3, d + 1) : Int × Int × Int).1 ≤ 9999) = true := decide_eq_true a2
      rw [hd]
      clear hd
      go_enter Tryd.func23, Tryd.ntmps23
      go_upto_region 19 with fail
      obtain ⟨ha, hr, hb⟩ := two_blk w #[.int .i64 (y), .int .i64 (3), .int .i64 (d + 1), .int .i64 h, .int .i64 mi, .int .i64 s, .int .i64 z] #[.int .i64 0, .int .i64 0, .int .i64 0, .int .i64 0, .int .i64 0, .int .i64 0, .int .i64 0]
      generalize (w.alloc (.cells #[.int .i64 (y), .int .i64 (3), .int .i64 (d + 1), .int .i64 h, .int .i64 mi, .int .i64 s, .int .i64 z] 23)).alloc (.cells #[.int .i64 0, .int .i64 0, .int .i64 0, .int .i64 0, .int .i64 0, .int .i64 0, .int .i64 0] 23) = w2 at *
      have HA := Lib.hid ha
      have HR := Lib.hid hr
      have HB := Lib.hid hb
      clear ha hr hb
      obtain ⟨⟨k0, k1, k2, k3, k4, k5, k6⟩, _⟩ := cells7 HA.out
      obtain ⟨⟨l0, l1, l2, l3, l4, l5, l6⟩, lf⟩ := cells7 HR.out
      have f0 := lf 0
      have f1 := lf 1
      have f2 := lf 2
      have f3 := lf 3
      have f4 := lf 4
      have f5 := lf 5
      have f6 := lf 6
      clear lf
      generalize hg : w.heap.size + 1 = g at *
      have GE : w.heap.size ≤ g := by rw [← hg]; exact Nat.le_succ _
      have ne1 : w.heap.size ≠ g := by rw [← hg]; exact Nat.ne_of_lt (Nat.lt_succ_self _)
      have ne2 : g ≠ w.heap.size := ne1.symm
      clear hg
      go_region
      go_wp2
      exact bodyPost_ret (results_ct rfl _ _ g 23 #[.int .i64 (y), .int .i64 (3), .int .i64 (d + 1), .int .i64 h, .int .i64 mi, .int .i64 s, .int .i64 z] (0, 0) _ rfl (blk_drew (set7 HR.out _ _ _ _ _ _ _).1) Tryd.underlying23 rfl (by kernel_rfl)) rfl ⟨rfl, below_drew ((set7 HR.out _ _ _ _ _ _ _).2 _ _ HB.out GE)⟩
  · skip
    have hL : lengthP y 4 = 30 := by simp [lengthP, monthDays]
    by_cases c1 : 30 < d + 1
    · skip
      rw [hL] at a6
      skip
      have hn : morrowP y 4 d = (y, 5, 1) := by unfold morrowP; rw [if_neg (by omega), if_pos (by omega)]; rfl
      rw [hn]
      clear hn
      have hd : decide (((y, 5, 1) : Int × Int × Int).1 ≤ 9999) = true := decide_eq_true a2
      rw [hd]
      clear hd
      go_enter Tryd.func23, Tryd.ntmps23
      go_upto_region 19 with fail
      obtain ⟨ha, hr, hb⟩ := two_blk w #[.int .i64 (y), .int .i64 (5), .int .i64 (1), .int .i64 h, .int .i64 mi, .int .i64 s, .int .i64 z] #[.int .i64 0, .int .i64 0, .int .i64 0, .int .i64 0, .int .i64 0, .int .i64 0, .int .i64 0]
      generalize (w.alloc (.cells #[.int .i64 (y), .int .i64 (5), .int .i64 (1), .int .i64 h, .int .i64 mi, .int .i64 s, .int .i64 z] 23)).alloc (.cells #[.int .i64 0, .int .i64 0, .int .i64 0, .int .i64 0, .int .i64 0, .int .i64 0, .int .i64 0] 23) = w2 at *
      have HA := Lib.hid ha
      have HR := Lib.hid hr
      have HB := Lib.hid hb
      clear ha hr hb
      obtain ⟨⟨k0, k1, k2, k3, k4, k5, k6⟩, _⟩ := cells7 HA.out
      obtain ⟨⟨l0, l1, l2, l3, l4, l5, l6⟩, lf⟩ := cells7 HR.out
      have f0 := lf 0
      have f1 := lf 1
      have f2 := lf 2
      have f3 := lf 3
      have f4 := lf 4
      have f5 := lf 5
      have f6 := lf 6
      clear lf
      generalize hg : w.heap.size + 1 = g at *
      have GE : w.heap.size ≤ g := by rw [← hg]; exact Nat.le_succ _
      have ne1 : w.heap.size ≠ g := by rw [← hg]; exact Nat.ne_of_lt (Nat.lt_succ_self _)
      have ne2 : g ≠ w.heap.size := ne1.symm
      clear hg
      go_region
      go_wp2
      exact bodyPost_ret (results_ct rfl _ _ g 23 #[.int .i64 (y), .int .i64 (5), .int .i64 (1), .int .i64 h, .int .i64 mi, .int .i64 s, .int .i64 z] (0, 0) _ rfl (blk_drew (set7 HR.out _ _ _ _ _ _ _).1) Tryd.underlying23 rfl (by kernel_rfl)) rfl ⟨rfl, below_drew ((set7 HR.out _ _ _ _ _ _ _).2 _ _ HB.out GE)⟩
    · skip
      have hn : morrowP y 4 d = (y, 4, d + 1) := by unfold morrowP; rw [if_pos (by omega)]
      rw [hn]
      clear hn
      have hd : decide (((y, 4, d + 1) : Int × Int × Int).1 ≤ 9999) = true := decide_eq_true a2
      rw [hd]
      clear hd
      go_enter Tryd.func23, Tryd.ntmps23
      go_upto_region 19 with fail
      obtain ⟨ha, hr, hb⟩ := two_blk w #[.int .i64 (y), .int .i64 (4), .int .i64 (d + 1), .int .i64 h, .int .i64 mi, .int .i64 s, .int .i64 z] #[.int .i64 0, .int .i64 0, .int .i64 0, .int .i64 0, .int .i64 0, .int .i64 0, .int .i64 0]
      generalize (w.alloc (.cells #[.int .i64 (y), .int .i64 (4), .int .i64 (d + 1), .int .i64 h, .int .i64 mi, .int .i64 s, .int .i64 z] 23)).alloc (.cells #[.int .i64 0, .int .i64 0, .int .i64 0, .int .i64 0, .int .i64 0, .int .i64 0, .int .i64 0] 23) = w2 at *
      have HA := Lib.hid ha
      have HR := Lib.hid hr
      have HB := Lib.hid hb
      clear ha hr hb
      obtain ⟨⟨k0, k1, k2, k3, k4, k5, k6⟩, _⟩ := cells7 HA.out
      obtain ⟨⟨l0, l1, l2, l3, l4, l5, l6⟩, lf⟩ := cells7 HR.out
      have f0 := lf 0
      have f1 := lf 1
      have f2 := lf 2
      have f3 := lf 3
      have f4 := lf 4
      have f5 := lf 5
      have f6 := lf 6
      clear lf
      generalize hg : w.heap.size + 1 = g at *
      have GE : w.heap.size ≤ g := by rw [← hg]; exact Nat.le_succ _
      have ne1 : w.heap.size ≠ g := by rw [← hg]; exact Nat.ne_of_lt (Nat.lt_succ_self _)
      have ne2 : g ≠ w.heap.size := ne1.symm
      clear hg
      go_region
      go_wp2
      exact bodyPost_ret (results_ct rfl _ _ g 23 #[.int .i64 (y), .int .i64 (4), .int .i64 (d + 1), .int .i64 h, .int .i64 mi, .int .i64 s, .int .i64 z] (0, 0) _ rfl (blk_drew (set7 HR.out _ _ _ _ _ _ _).1) Tryd.underlying23 rfl (by kernel_rfl)) rfl ⟨rfl, below_drew ((set7 HR.out _ _ _ _ _ _ _).2 _ _ HB.out GE)⟩
  · skip
    have hL : lengthP y 5 = 31 := by simp [lengthP, monthDays]
    by_cases c1 : 31 < d + 1
    · skip
      rw [hL] at a6
      skip
      have hn : morrowP y 5 d = (y, 6, 1) := by unfold morrowP; rw [if_neg (by omega), if_pos (by omega)]; rfl
      rw [hn]
      clear hn
      have hd : decide (((y, 6, 1) : Int × Int × Int).1 ≤ 9999) = true := decide_eq_true a2
      rw [hd]
      clear hd
      go_enter Tryd.func23, Tryd.ntmps23
      go_upto_region 19 with fail
      obtain ⟨ha, hr, hb⟩ := two_blk w #[.int .i64 (y), .int .i64 (6), .int .i64 (1), .int .i64 h, .int .i64 mi, .int .i64 s, .int .i64 z] #[.int .i64 0, .int .i64 0, .int .i64 0, .int .i64 0, .int .i64 0, .int .i64 0, .int .i64 0]
      generalize (w.alloc (.cells #[.int .i64 (y), .int .i64 (6), .int .i64 (1), .int .i64 h, .int .i64 mi, .int .i64 s, .int .i64 z] 23)).alloc (.cells #[.int .i64 0, .int .i64 0, .int .i64 0, .int .i64 0, .int .i64 0, .int .i64 0, .int .i64 0] 23) = w2 at *
      have HA := Lib.hid ha
      have HR := Lib.hid hr
      have HB := Lib.hid hb
      clear ha hr hb
      obtain ⟨⟨k0, k1, k2, k3, k4, k5, k6⟩, _⟩ := cells7 HA.out
      obtain ⟨⟨l0, l1, l2, l3, l4, l5, l6⟩, lf⟩ := cells7 HR.out
      have f0 := lf 0
      have f1 := lf 1
      have f2 := lf 2
      have f3 := lf 3
      have f4 := lf 4
      have f5 := lf 5
      have f6 := lf 6
      clear lf
      generalize hg : w.heap.size + 1 = g at *
      have GE : w.heap.size ≤ g := by rw [← hg]; exact Nat.le_succ _
      have ne1 : w.heap.size ≠ g := by rw [← hg]; exact Nat.ne_of_lt (Nat.lt_succ_self _)
      have ne2 : g ≠ w.heap.size := ne1.symm
      clear hg
      go_region
      go_wp2
      exact bodyPost_ret (results_ct rfl _ _ g 23 #[.int .i64 (y), .int .i64 (6), .int .i64 (1), .int .i64 h, .int .i64 mi, .int .i64 s, .int .i64 z] (0, 0) _ rfl (blk_drew (set7 HR.out _ _ _ _ _ _ _).1) Tryd.underlying23 rfl (by kernel_rfl)) rfl ⟨rfl, below_drew ((set7 HR.out _ _ _ _ _ _ _).2 _ _ HB.out GE)⟩
    · skip
      have hn : morrowP y 5 d = (y, 5, d + 1) := by unfold morrowP; rw [if_pos (by omega)]
      rw [hn]
      clear hn
      have hd : decide (((y, 5, d + 1) : Int × Int × Int).1 ≤ 9999) = true := decide_eq_true a2
      rw [hd]
      clear hd
      go_enter Tryd.func23, Tryd.ntmps23
      go_upto_region 19 with fail
      obtain ⟨ha, hr, hb⟩ := two_blk w #[.int .i64 (y), .int .i64 (5), .int .i64 (d + 1), .int .i64 h, .int .i64 mi, .int .i64 s, .int .i64 z] #[.int .i64 0, .int .i64 0, .int .i64 0, .int .i64 0, .int .i64 0, .int .i64 0, .int .i64 0]
      generalize (w.alloc (.cells #[.int .i64 (y), .int .i64 (5), .int .i64 (d + 1), .int .i64 h, .int .i64 mi, .int .i64 s, .int .i64 z] 23)).alloc (.cells #[.int .i64 0, .int .i64 0, .int .i64 0, .int .i64 0, .int .i64 0, .int .i64 0, .int .i64 0] 23) = w2 at *
      have HA := Lib.hid ha
      have HR := Lib.hid hr
      have HB := Lib.hid hb
      clear ha hr hb
      obtain ⟨⟨k0, k1, k2, k3, k4, k5, k6⟩, _⟩ := cells7 HA.out
      obtain ⟨⟨l0, l1, l2, l3, l4, l5, l6⟩, lf⟩ := cells7 HR.out
      have f0 := lf 0
      have f1 := lf 1
      have f2 := lf 2
      have f3 := lf 3
      have f4 := lf 4
      have f5 := lf 5
      have f6 := lf 6
      clear lf
      generalize hg : w.heap.size + 1 = g at *
      have GE : w.heap.size ≤ g := by rw [← hg]; exact Nat.le_succ _
      have ne1 : w.heap.size ≠ g := by rw [← hg]; exact Nat.ne_of_lt (Nat.lt_succ_self _)
      have ne2 : g ≠ w.heap.size := ne1.symm
      clear hg
      go_region
      go_wp2
      exact bodyPost_ret (results_ct rfl _ _ g 23 #[.int .i64 (y), .int .i64 (5), .int .i64 (d + 1), .int .i64 h, .int .i64 mi, .int .i64 s, .int .i64 z] (0, 0) _ rfl (blk_drew (set7 HR.out _ _ _ _ _ _ _).1) Tryd.underlying23 rfl (by kernel_rfl)) rfl ⟨rfl, below_drew ((set7 HR.out _ _ _ _ _ _ _).2 _ _ HB.out GE)⟩
  · skip
    have hL : lengthP y 6 = 30 := by simp [lengthP, monthDays]
    by_cases c1 : 30 < d + 1
    · skip
      rw [hL] at a6
      skip
      have hn : morrowP y 6 d = (y, 7, 1) := by unfold morrowP; rw [if_neg (by omega), if_pos (by omega)]; rfl
      rw [hn]
      clear hn
      have hd : decide (((y, 7, 1) : Int × Int × Int).1 ≤ 9999) = true := decide_eq_true a2
      rw [hd]
      clear hd
      go_enter Tryd.func23, Tryd.ntmps23
      go_upto_region 19 with fail
      obtain ⟨ha, hr, hb⟩ := two_blk w #[.int .i64 (y), .int .i64 (7), .int .i64 (1), .int .i64 h, .int .i64 mi, .int .i64 s, .int .i64 z] #[.int .i64 0, .int .i64 0, .int .i64 0, .int .i64 0, .int .i64 0, .int .i64 0, .int .i64 0]
      generalize (w.alloc (.cells #[.int .i64 (y), .int .i64 (7), .int .i64 (1), .int .i64 h, .int .i64 mi, .int .i64 s, .int .i64 z] 23)).alloc (.cells #[.int .i64 0, .int .i64 0, .int .i64 0, .int .i64 0, .int .i64 0, .int .i64 0, .int .i64 0] 23) = w2 at *
      have HA := Lib.hid ha
      have HR := Lib.hid hr
      have HB := Lib.hid hb
      clear ha hr hb
      obtain ⟨⟨k0, k1, k2, k3, k4, k5, k6⟩, _⟩ := cells7 HA.out
      obtain ⟨⟨l0, l1, l2, l3, l4, l5, l6⟩, lf⟩ := cells7 HR.out
      have f0 := lf 0
      have f1 := lf 1
      have f2 := lf 2
      have f3 := lf 3
      have f4 := lf 4
      have f5 := lf 5
      have f6 := lf 6
      clear lf
      generalize hg : w.heap.size + 1 = g at *
      have GE : w.heap.size ≤ g := by rw [← hg]; exact Nat.le_succ _
      have ne1 : w.heap.size ≠ g := by rw [← hg]; exact Nat.ne_of_lt (Nat.lt_succ_self _)
      have ne2 : g ≠ w.heap.size := ne1.symm
      clear hg
      go_region
      go_wp2
      exact bodyPost_ret (results_ct rfl _ _ g 23 #[.int .i64 (y), .int .i64 (7), .int .i64 (1), .int .i64 h, .int .i64 mi, .int .i64 s, .int .i64 z] (0, 0) _ rfl (blk_drew (set7 HR.out _ _ _ _ _ _ _).1) Tryd.underlying23 rfl (by kernel_rfl)) rfl ⟨rfl, below_drew ((set7 HR.out _ _ _ _ _ _ _).2 _ _ HB.out GE)⟩
    · skip
      have hn : morrowP y 6 d = (y, 6, d + 1) := by unfold morrowP; rw [if_pos (by omega)]
      rw [hn]
      clear hn
      have hd : decide (((y, 6, d + 1) : Int × Int × Int).1 ≤ 9999) = true := decide_eq_true a2
      rw [hd]
      clear hd
      go_enter Tryd.func23, Tryd.ntmps23
      go_upto_region 19 with fail
      obtain ⟨ha, hr, hb⟩ := two_blk w #[.int .i64 (y), .int .i64 (6), .int .i64 (d + 1), .int .i64 h, .int .i64 mi, .int .i64 s, .int .i64 z] #[.int .i64 0, .int .i64 0, .int .i64 0, .int .i64 0, .int .i64 0, .int .i64 0, .int .i64 0]
      generalize (w.alloc (.cells #[.int .i64 (y), .int .i64 (6), .int .i64 (d + 1), .int .i64 h, .int .i64 mi, .int .i64 s, .int .i64 z] 23)).alloc (.cells #[.int .i64 0, .int .i64 0, .int .i64 0, .int .i64 0, .int .i64 0, .int .i64 0, .int .i64 0] 23) = w2 at *
      have HA := Lib.hid ha
      have HR := Lib.hid hr
      have HB := Lib.hid hb
      clear ha hr hb
      obtain ⟨⟨k0, k1, k2, k3, k4, k5, k6⟩, _⟩ := cells7 HA.out
      obtain ⟨⟨l0, l1, l2, l3, l4, l5, l6⟩, lf⟩ := cells7 HR.out
      have f0 := lf 0
      have f1 := lf 1
      have f2 := lf 2
      have f3 := lf 3
      have f4 := lf 4
      have f5 := lf 5
      have f6 := lf 6
      clear lf
      generalize hg : w.heap.size + 1 = g at *
      have GE : w.heap.size ≤ g := by rw [← hg]; exact Nat.le_succ _
      have ne1 : w.heap.size ≠ g := by rw [← hg]; exact Nat.ne_of_lt (Nat.lt_succ_self _)
      have ne2 : g ≠ w.heap.size := ne1.symm
      clear hg
      go_region
      go_wp2
      exact bodyPost_ret (results_ct rfl _ _ g 23 #[.int .i64 (y), .int .i64 (6), .int .i64 (d + 1), .int .i64 h, .int .i64 mi, .int .i64 s, .int .i64 z] (0, 0) _ rfl (blk_drew (set7 HR.out _ _ _ _ _ _ _).1) Tryd.underlying23 rfl (by kernel_rfl)) rfl ⟨rfl, below_drew ((set7 HR.out _ _ _ _ _ _ _).2 _ _ HB.out GE)⟩
  · skip
    have hL : lengthP y 7 = 31 := by simp [lengthP, monthDays]
    by_cases c1 : 31 < d + 1
    · skip
      rw [hL] at a6
      skip
      have hn : morrowP y 7 d = (y, 8, 1) := by unfold morrowP; rw [if_neg (by omega), if_pos (by omega)]; rfl
      rw [hn]
      clear hn
      have hd : decide (((y, 8, 1) : Int × Int × Int).1 ≤ 9999) = true := decide_eq_true a2
      rw [hd]
      clear hd
      go_enter Tryd.func23, Tryd.ntmps23
      go_upto_region 19 with fail
      obtain ⟨ha, hr, hb⟩ := two_blk w #[.int .i64 (y), .int .i64 (8), .int .i64 (1), .int .i64 h, .int .i64 mi, .int .i64 s, .int .i64 z] #[.int .i64 0, .int .i64 0, .int .i64 0, .int .i64 0, .int .i64 0, .int .i64 0, .int .i64 0]
      generalize (w.alloc (.cells #[.int .i64 (y), .int .i64 (8), .int .i64 (1), .int .i64 h, .int .i64 mi, .int .i64 s, .int .i64 z] 23)).alloc (.cells #[.int .i64 0, .int .i64 0, .int .i64 0, .int .i64 0, .int .i64 0, .int .i64 0, .int .i64 0] 23) = w2 at *
      have HA := Lib.hid ha
      have HR := Lib.hid hr
      have HB := Lib.hid hb
      clear ha hr hb
      obtain ⟨⟨k0, k1, k2, k3, k4, k5, k6⟩, _⟩ := cells7 HA.out
      obtain ⟨⟨l0, l1, l2, l3, l4, l5, l6⟩, lf⟩ := cells7 HR.out
      have f0 := lf 0
      have f1 := lf 1
      have f2 := lf 2
      have f3 := lf 3
      have f4 := lf 4
      have f5 := lf 5
      have f6 := lf 6
      clear lf
      generalize hg : w.heap.size + 1 = g at *
      have GE : w.heap.size ≤ g := by rw [← hg]; exact Nat.le_succ _
      have ne1 : w.heap.size ≠ g := by rw [← hg]; exact Nat.ne_of_lt (Nat.lt_succ_self _)
      have ne2 : g ≠ w.heap.size := ne1.symm
      clear hg
      go_region
      go_wp2
      exact bodyPost_ret (results_ct rfl _ _ g 23 #[.int .i64 (y), .int .i64 (8), .int .i64 (1), .int .i64 h, .int .i64 mi, .int .i64 s, .int .i64 z] (0, 0) _ rfl (blk_drew (set7 HR.out _ _ _ _ _ _ _).1) Tryd.underlying23 rfl (by kernel_rfl)) rfl ⟨rfl, below_drew ((set7 HR.out _ _ _ _ _ _ _).2 _ _ HB.out GE)⟩
    · skip
      have hn : morrowP y 7 d = (y, 7, d + 1) := by unfold morrowP; rw [if_pos (by omega)]
      rw [hn]
      clear hn
      have hd : decide (((y, 7, d + 1) : Int × Int × Int).1 ≤ 9999) = true := decide_eq_true a2
      rw [hd]
      clear hd
      go_enter Tryd.func23, Tryd.ntmps23
      go_upto_region 19 with fail
      obtain ⟨ha, hr, hb⟩ := two_blk w #[.int .i64 (y), .int .i64 (7), .int .i64 (d + 1), .int .i64 h, .int .i64 mi, .int .i64 s, .int .i64 z] #[.int .i64 0, .int .i64 0, .int .i64 0, .int .i64 0, .int .i64 0, .int .i64 0, .int .i64 0]
      generalize (w.alloc (.cells #[.int .i64 (y), .int .i64 (7), .int .i64 (d + 1), .int .i64 h, .int .i64 mi, .int .i64 s, .int .i64 z] 23)).alloc (.cells #[.int .i64 0, .int .i64 0, .int .i64 0, .int .i64 0, .int .i64 0, .int .i64 0, .int .i64 0] 23) = w2 at *
      have HA := Lib.hid ha
      have HR := Lib.hid hr
      have HB := Lib.hid hb
      clear ha hr hb
      obtain ⟨⟨k0, k1, k2, k3, k4, k5, k6⟩, _⟩ := cells7 HA.out
      obtain ⟨⟨l0, l1, l2, l3, l4, l5, l6⟩, lf⟩ := cells7 HR.out
      have f0 := lf 0
      have f1 := lf 1
      have f2 := lf 2
      have f3 := lf 3
      have f4 := lf 4
      have f5 := lf 5
      have f6 := lf 6
      clear lf
      generalize hg : w.heap.size + 1 = g at *
      have GE : w.heap.size ≤ g := by rw [← hg]; exact Nat.le_succ _
      have ne1 : w.heap.size ≠ g := by rw [← hg]; exact Nat.ne_of_lt (Nat.lt_succ_self _)
      have ne2 : g ≠ w.heap.size := ne1.symm
      clear hg
      go_region
      go_wp2
      exact bodyPost_ret (results_ct rfl _ _ g 23 #[.int .i64 (y), .int .i64 (7), .int .i64 (d + 1), .int .i64 h, .int .i64 mi, .int .i64 s, .int .i64 z] (0, 0) _ rfl (blk_drew (set7 HR.out _ _ _ _ _ _ _).1) Tryd.underlying23 rfl (by kernel_rfl)) rfl ⟨rfl, below_drew ((set7 HR.out _ _ _ _ _ _ _).2 _ _ HB.out GE)⟩
  · skip
    have hL : lengthP y 8 = 31 := by simp [lengthP, monthDays]
    by_cases c1 : 31 < d + 1
    · skip
      rw [hL] at a6
      skip
      have hn : morrowP y 8 d = (y, 9, 1) := by unfold morrowP; rw [if_neg (by omega), if_pos (by omega)]; rfl
      rw [hn]
      clear hn
      have hd : decide (((y, 9, 1) : Int × Int × Int).1 ≤ 9999) = true := decide_eq_true a2
      rw [hd]
      clear hd
      go_enter Tryd.func23, Tryd.ntmps23
      go_upto_region 19 with fail
      obtain ⟨ha, hr, hb⟩ := two_blk w #[.int .i64 (y), .int .i64 (9), .int .i64 (1), .int .i64 h, .int .i64 mi, .int .i64 s, .int .i64 z] #[.int .i64 0, .int .i64 0, .int .i64 0, .int .i64 0, .int .i64 0, .int .i64 0, .int .i64 0]
      generalize (w.alloc (.cells #[.int .i64 (y), .int .i64 (9), .int .i64 (1), .int .i64 h, .int .i64 mi, .int .i64 s, .int .i64 z] 23)).alloc (.cells #[.int .i64 0, .int .i64 0, .int .i64 0, .int .i64 0, .int .i64 0, .int .i64 0, .int .i64 0] 23) = w2 at *
      have HA := Lib.hid ha
      have HR := Lib.hid hr
      have HB := Lib.hid hb
      clear ha hr hb
      obtain ⟨⟨k0, k1, k2, k3, k4, k5, k6⟩, _⟩ := cells7 HA.out
      obtain ⟨⟨l0, l1, l2, l3, l4, l5, l6⟩, lf⟩ := cells7 HR.out
      have f0 := lf 0
      have f1 := lf 1
      have f2 := lf 2
      have f3 := lf 3
      have f4 := lf 4
      have f5 := lf 5
      have f6 := lf 6
      clear lf
      generalize hg : w.heap.size + 1 = g at *
      have GE : w.heap.size ≤ g := by rw [← hg]; exact Nat.le_succ _
      have ne1 : w.heap.size ≠ g := by rw [← hg]; exact Nat.ne_of_lt (Nat.lt_succ_self _)
      have ne2 : g ≠ w.heap.size := ne1.symm
      clear hg
      go_region
      go_wp2
      exact bodyPost_ret (results_ct rfl _ _ g 23 #[.int .i64 (y), .int .i64 (9), .int .i64 (1), .int .i64 h, .int .i64 mi, .int .i64 s, .int .i64 z] (0, 0) _ rfl (blk_drew (set7 HR.out _ _ _ _ _ _ _).1) Tryd.underlying23 rfl (by kernel_rfl)) rfl ⟨rfl, below_drew ((set7 HR.out _ _ _ _ _ _ _).2 _ _ HB.out GE)⟩
    · skip
      have hn : morrowP y 8 d = (y, 8, d + 1) := by unfold morrowP; rw [if_pos (by omega)]
      rw [hn]
      clear hn
      have hd : decide (((y, 8, d + 1) : Int × Int × Int).1 ≤ 9999) = true := decide_eq_true a2
      rw [hd]
      clear hd
      go_enter Tryd.func23, Tryd.ntmps23
      go_upto_region 19 with fail
      obtain ⟨ha, hr, hb⟩ := two_blk w #[.int .i64 (y), .int .i64 (8), .int .i64 (d + 1), .int .i64 h, .int .i64 mi, .int .i64 s, .int .i64 z] #[.int .i64 0, .int .i64 0, .int .i64 0, .int .i64 0, .int .i64 0, .int .i64 0, .int .i64 0]
      generalize (w.alloc (.cells #[.int .i64 (y), .int .i64 (8), .int .i64 (d + 1), .int .i64 h, .int .i64 mi, .int .i64 s, .int .i64 z] 23)).alloc (.cells #[.int .i64 0, .int .i64 0, .int .i64 0, .int .i64 0, .int .i64 0, .int .i64 0, .int .i64 0] 23) = w2 at *
      have HA := Lib.hid ha
      have HR := Lib.hid hr
      have HB := Lib.hid hb
      clear ha hr hb
      obtain ⟨⟨k0, k1, k2, k3, k4, k5, k6⟩, _⟩ := cells7 HA.out
      obtain ⟨⟨l0, l1, l2, l3, l4, l5, l6⟩, lf⟩ := cells7 HR.out
      have f0 := lf 0
      have f1 := lf 1
      have f2 := lf 2
      have f3 := lf 3
      have f4 := lf 4
      have f5 := lf 5
      have f6 := lf 6
      clear lf
      generalize hg : w.heap.size + 1 = g at *
      have GE : w.heap.size ≤ g := by rw [← hg]; exact Nat.le_succ _
      have ne1 : w.heap.size ≠ g := by rw [← hg]; exact Nat.ne_of_lt (Nat.lt_succ_self _)
      have ne2 : g ≠ w.heap.size := ne1.symm
      clear hg
      go_region
      go_wp2
      exact bodyPost_ret (results_ct rfl _ _ g 23 #[.int .i64 (y), .int .i64 (8), .int .i64 (d + 1), .int .i64 h, .int .i64 mi, .int .i64 s, .int .i64 z] (0, 0) _ rfl (blk_drew (set7 HR.out _ _ _ _ _ _ _).1) Tryd.underlying23 rfl (by kernel_rfl)) rfl ⟨rfl, below_drew ((set7 HR.out _ _ _ _ _ _ _).2 _ _ HB.out GE)⟩
  · skip
    have hL : lengthP y 9 = 30 := by simp [lengthP, monthDays]
    by_cases c1 : 30 < d + 1
    · skip
      rw [hL] at a6
      skip
      have hn : morrowP y 9 d = (y, 10, 1) := by unfold morrowP; rw [if_neg (by omega), if_pos (by omega)]; rfl
      rw [hn]
      clear hn
      have hd : decide (((y, 10, 1) : Int × Int × Int).1 ≤ 9999) = true := decide_eq_true a2
      rw [hd]
      clear hd
      go_enter Tryd.func23, Tryd.ntmps23
      go_upto_region 19 with fail
      obtain ⟨ha, hr, hb⟩ := two_blk w #[.int .i64 (y), .int .i64 (10), .int .i64 (1), .int .i64 h, .int .i64 mi, .int .i64 s, .int .i64 z] #[.int .i64 0, .int .i64 0, .int .i64 0, .int .i64 0, .int .i64 0, .int .i64 0, .int .i64 0]
      generalize (w.alloc (.cells #[.int .i64 (y), .int .i64 (10), .int .i64 (1), .int .i64 h, .int .i64 mi, .int .i64 s, .int .i64 z] 23)).alloc (.cells #[.int .i64 0, .int .i64 0, .int .i64 0, .int .i64 0, .int .i64 0, .int .i64 0, .int .i64 0] 23) = w2 at *
      have HA := Lib.hid ha
      have HR := Lib.hid hr
      have HB := Lib.hid hb
      clear ha hr hb
      obtain ⟨⟨k0, k1, k2, k3, k4, k5, k6⟩, _⟩ := cells7 HA.out
      obtain ⟨⟨l0, l1, l2, l3, l4, l5, l6⟩, lf⟩ := cells7 HR.out
      have f0 := lf 0
      have f1 := lf 1
      have f2 := lf 2
      have f3 := lf 3
      have f4 := lf 4
      have f5 := lf 5
      have f6 := lf 6
      clear lf
      generalize hg : w.heap.size + 1 = g at *
      have GE : w.heap.size ≤ g := by rw [← hg]; exact Nat.le_succ _
      have ne1 : w.heap.size ≠ g := by rw [← hg]; exact Nat.ne_of_lt (Nat.lt_succ_self _)
      have ne2 : g ≠ w.heap.size := ne1.symm
      clear hg
      go_region
      go_wp2
      exact bodyPost_ret (results_ct rfl _ _ g 23 #[.int .i64 (y), .int .i64 (10), .int .i64 (1), .int .i64 h, .int .i64 mi, .int .i64 s, .int .i64 z] (0, 0) _ rfl (blk_drew (set7 HR.out _ _ _ _ _ _ _).1) Tryd.underlying23 rfl (by kernel_rfl)) rfl ⟨rfl, below_drew ((set7 HR.out _ _ _ _ _ _ _).2 _ _ HB.out GE)⟩
    · skip
      have hn : morrowP y 9 d = (y, 9, d + 1) := by unfold morrowP; rw [if_pos (by omega)]
      rw [hn]
      clear hn
      have hd : decide (((y, 9, d + 1) : Int × Int × Int).1 ≤ 9999) = true := decide_eq_true a2
      rw [hd]
      clear hd
      go_enter Tryd.func23, Tryd.ntmps23
      go_upto_region 19 with fail
      obtain ⟨ha, hr, hb⟩ := two_blk w #[.int .i64 (y), .int .i64 (9), .int .i64 (d + 1), .int .i64 h, .int .i64 mi, .int .i64 s, .int .i64 z] #[.int .i64 0, .int .i64 0, .int .i64 0, .int .i64 0, .int .i64 0, .int .i64 0, .int .i64 0]
      generalize (w.alloc (.cells #[.int .i64 (y), .int .i64 (9), .int .i64 (d + 1), .int .i64 h, .int .i64 mi, .int .i64 s, .int .i64 z] 23)).alloc (.cells #[.int .i64 0, .int .i64 0, .int .i64 0, .int .i64 0, .int .i64 0, .int .i64 0, .int .i64 0] 23) = w2 at *
      have HA := Lib.hid ha
      have HR := Lib.hid hr
      have HB := Lib.hid hb
      clear ha hr hb
      obtain ⟨⟨k0, k1, k2, k3, k4, k5, k6⟩, _⟩ := cells7 HA.out
      obtain ⟨⟨l0, l1, l2, l3, l4, l5, l6⟩, lf⟩ := cells7 HR.out
      have f0 := lf 0
      have f1 := lf 1
      have f2 := lf 2
      have f3 := lf 3
      have f4 := lf 4
      have f5 := lf 5
      have f6 := lf 6
      clear lf
      generalize hg : w.heap.size + 1 = g at *
      have GE : w.heap.size ≤ g := by rw [← hg]; exact Nat.le_succ _
      have ne1 : w.heap.size ≠ g := by rw [← hg]; exact Nat.ne_of_lt (Nat.lt_succ_self _)
      have ne2 : g ≠ w.heap.size := ne1.symm
      clear hg
      go_region
      go_wp2
      exact bodyPost_ret (results_ct rfl _ _ g 23 #[.int .i64 (y), .int .i64 (9), .int .i64 (d + 1), .int .i64 h, .int .i64 mi, .int .i64 s, .int .i64 z] (0, 0) _ rfl (blk_drew (set7 HR.out _ _ _ _ _ _ _).1) Tryd.underlying23 rfl (by kernel_rfl)) rfl ⟨rfl, below_drew ((set7 HR.out _ _ _ _ _ _ _).2 _ _ HB.out GE)⟩
  · skip
    have hL : lengthP y 10 = 31 := by simp [lengthP, monthDays]
    by_cases c1 : 31 < d + 1
    · skip
      rw [hL] at a6
      skip
      have hn : morrowP y 10 d = (y, 11, 1) := by unfold morrowP; rw [if_neg (by omega), if_pos (by omega)]; rfl
      rw [hn]
      clear hn
      have hd : decide (((y, 11, 1) : Int × Int × Int).1 ≤ 9999) = true := decide_eq_true a2
      rw [hd]
      clear hd
      go_enter Tryd.func23, Tryd.ntmps23
      go_upto_region 19 with fail
      obtain ⟨ha, hr, hb⟩ := two_blk w #[.int .i64 (y), .int .i64 (11), .int .i64 (1), .int .i64 h, .int .i64 mi, .int .i64 s, .int .i64 z] #[.int .i64 0, .int .i64 0, .int .i64 0, .int .i64 0, .int .i64 0, .int .i64 0, .int .i64 0]
      generalize (w.alloc (.cells #[.int .i64 (y), .int .i64 (11), .int .i64 (1), .int .i64 h, .int .i64 mi, .int .i64 s, .int .i64 z] 23)).alloc (.cells #[.int .i64 0, .int .i64 0, .int .i64 0, .int .i64 0, .int .i64 0, .int .i64 0, .int .i64 0] 23) = w2 at *
      have HA := Lib.hid ha
      have HR := Lib.hid hr
      have HB := Lib.hid hb
      clear ha hr hb
      obtain ⟨⟨k0, k1, k2, k3, k4, k5, k6⟩, _⟩ := cells7 HA.out
      obtain ⟨⟨l0, l1, l2, l3, l4, l5, l6⟩, lf⟩ := cells7 HR.out
      have f0 := lf 0
      have f1 := lf 1
      have f2 := lf 2
      have f3 := lf 3
      have f4 := lf 4
      have f5 := lf 5
      have f6 := lf 6
      clear lf
      generalize hg : w.heap.size + 1 = g at *
      have GE : w.heap.size ≤ g := by rw [← hg]; exact Nat.le_succ _
      have ne1 : w.heap.size ≠ g := by rw [← hg]; exact Nat.ne_of_lt (Nat.lt_succ_self _)
      have ne2 : g ≠ w.heap.size := ne1.symm
      clear hg
      go_region
      go_wp2
      exact bodyPost_ret (results_ct rfl _ _ g 23 #[.int .i64 (y), .int .i64 (11), .int .i64 (1), .int .i64 h, .int .i64 mi, .int .i64 s, .int .i64 z] (0, 0) _ rfl (blk_drew (set7 HR.out _ _ _ _ _ _ _).1) Tryd.underlying23 rfl (by kernel_rfl)) rfl ⟨rfl, below_drew ((set7 HR.out _ _ _ _ _ _ _).2 _ _ HB.out GE)⟩
    · skip
      have hn : morrowP y 10 d = (y, 10, d + 1) := by unfold morrowP; rw [if_pos (by omega)]
      rw [hn]
      clear hn
      have hd : decide (((y, 10, d + 1) : Int × Int × Int).1 ≤ 9999) = true := decide_eq_true a2
      rw [hd]
      clear hd
      go_enter Tryd.func23, Tryd.ntmps23
      go_upto_region 19 with fail
      obtain ⟨ha, hr, hb⟩ := two_blk w #[.int .i64 (y), .int .i64 (10), .int .i64 (d + 1), .int .i64 h, .int .i64 mi, .int .i64 s, .int .i64 z] #[.int .i64 0, .int .i64 0, .int .i64 0, .int .i64 0, .int .i64 0, .int .i64 0, .int .i64 0]
      generalize (w.alloc (.cells #[.int .i64 (y), .int .i64 (10), .int .i64 (d + 1), .int .i64 h, .int .i64 mi, .int .i64 s, .int .i64 z] 23)).alloc (.cells #[.int .i64 0, .int .i64 0, .int .i64 0, .int .i64 0, .int .i64 0, .int .i64 0, .int .i64 0] 23) = w2 at *
      have HA := Lib.hid ha
      have HR := Lib.hid hr
      have HB := Lib.hid hb
      clear ha hr hb
      obtain ⟨⟨k0, k1, k2, k3, k4, k5, k6⟩, _⟩ := cells7 HA.out
      obtain ⟨⟨l0, l1, l2, l3, l4, l5, l6⟩, lf⟩ := cells7 HR.out
      have f0 := lf 0
      have f1 := lf 1
      have f2 := lf 2
      have f3 := lf 3
      have f4 := lf 4
      have f5 := lf 5
      have f6 := lf 6
      clear lf
      generalize hg : w.heap.size + 1 = g at *
      have GE : w.heap.size ≤ g := by rw [← hg]; exact Nat.le_succ _
      have ne1 : w.heap.size ≠ g := by rw [← hg]; exact Nat.ne_of_lt (Nat.lt_succ_self _)
      have ne2 : g ≠ w.heap.size := ne1.symm
      clear hg
      go_region
      go_wp2
      exact bodyPost_ret (results_ct rfl _ _ g 23 #[.int .i64 (y), .int .i64 (10), .int .i64 (d + 1), .int .i64 h, .int .i64 mi, .int .i64 s, .int .i64 z] (0, 0) _ rfl (blk_drew (set7 HR.out _ _ _ _ _ _ _).1) Tryd.underlying23 rfl (by kernel_rfl)) rfl ⟨rfl, below_drew ((set7 HR.out _ _ _ _ _ _ _).2 _ _ HB.out GE)⟩
  · skip
    have hL : lengthP y 11 = 30 := by simp [lengthP, monthDays]
    by_cases c1 : 30 < d + 1
    · skip
      rw [hL] at a6
      skip
      have hn : morrowP y 11 d = (y, 12, 1) := by unfold morrowP; rw [if_neg (by omega), if_pos (by omega)]; rfl
      rw [hn]
      clear hn
      have hd : decide (((y, 12, 1) : Int × Int × Int).1 ≤ 9999) = true := decide_eq_true a2
      rw [hd]
      clear hd
      go_enter Tryd.func23, Tryd.ntmps23
      go_upto_region 19 with fail
      obtain ⟨ha, hr, hb⟩ := two_blk w #[.int .i64 (y), .int .i64 (12), .int .i64 (1), .int .i64 h, .int .i64 mi, .int .i64 s, .int .i64 z] #[.int .i64 0, .int .i64 0, .int .i64 0, .int .i64 0, .int .i64 0, .int .i64 0, .int .i64 0]
      generalize (w.alloc (.cells #[.int .i64 (y), .int .i64 (12), .int .i64 (1), .int .i64 h, .int .i64 mi, .int .i64 s, .int .i64 z] 23)).alloc (.cells #[.int .i64 0, .int .i64 0, .int .i64 0, .int .i64 0, .int .i64 0, .int .i64 0, .int .i64 0] 23) = w2 at *
      have HA := Lib.hid ha
      have HR := Lib.hid hr
      have HB := Lib.hid hb
      clear ha hr hb
      obtain ⟨⟨k0, k1, k2, k3, k4, k5, k6⟩, _⟩ := cells7 HA.out
      obtain ⟨⟨l0, l1, l2, l3, l4, l5, l6⟩, lf⟩ := cells7 HR.out
      have f0 := lf 0
      have f1 := lf 1
      have f2 := lf 2
      have f3 := lf 3
      have f4 := lf 4
      have f5 := lf 5
      have f6 := lf 6
      clear lf
      generalize hg : w.heap.size + 1 = g at *
      have GE : w.heap.size ≤ g := by rw [← hg]; exact Nat.le_succ _
      have ne1 : w.heap.size ≠ g := by rw [← hg]; exact Nat.ne_of_lt (Nat.lt_succ_self _)
      have ne2 : g ≠ w.heap.size := ne1.symm
      clear hg
      go_region
      go_wp2
      exact bodyPost_ret (results_ct rfl _ _ g 23 #[.int .i64 (y), .int .i64 (12), .int .i64 (1), .int .i64 h, .int .i64 mi, .int .i64 s, .int .i64 z] (0, 0) _ rfl (blk_drew (set7 HR.out _ _ _ _ _ _ _).1) Tryd.underlying23 rfl (by kernel_rfl)) rfl ⟨rfl, below_drew ((set7 HR.out _ _ _ _ _ _ _).2 _ _ HB.out GE)⟩
    · skip
      have hn : morrowP y 11 d = (y, 11, d + 1) := by unfold morrowP; rw [if_pos (by omega)]
      rw [hn]
      clear hn
      have hd : decide (((y, 11, d + 1) : Int × Int × Int).1 ≤ 9999) = true := decide_eq_true a2
      rw [hd]
      clear hd
      go_enter Tryd.func23, Tryd.ntmps23
      go_upto_region 19 with fail
      obtain ⟨ha, hr, hb⟩ := two_blk w #[.int .i64 (y), .int .i64 (11), .int .i64 (d + 1), .int .i64 h, .int .i64 mi, .int .i64 s, .int .i64 z] #[.int .i64 0, .int .i64 0, .int .i64 0, .int .i64 0, .int .i64 0, .int .i64 0, .int .i64 0]
      generalize (w.alloc (.cells #[.int .i64 (y), .int .i64 (11), .int .i64 (d + 1), .int .i64 h, .int .i64 mi, .int .i64 s, .int .i64 z] 23)).alloc (.cells #[.int .i64 0, .int .i64 0, .int .i64 0, .int .i64 0, .int .i64 0, .int .i64 0, .int .i64 0] 23) = w2 at *
      have HA := Lib.hid ha
      have HR := Lib.hid hr
      have HB := Lib.hid hb
      clear ha hr hb
      obtain ⟨⟨k0, k1, k2, k3, k4, k5, k6⟩, _⟩ := cells7 HA.out
      obtain ⟨⟨l0, l1, l2, l3, l4, l5, l6⟩, lf⟩ := cells7 HR.out
      have f0 := lf 0
      have f1 := lf 1
      have f2 := lf 2
      have f3 := lf 3
      have f4 := lf 4
      have f5 := lf 5
      have f6 := lf 6
      clear lf
      generalize hg : w.heap.size + 1 = g at *
      have GE : w.heap.size ≤ g := by rw [← hg]; exact Nat.le_succ _
      have ne1 : w.heap.size ≠ g := by rw [← hg]; exact Nat.ne_of_lt (Nat.lt_succ_self _)
      have ne2 : g ≠ w.heap.size := ne1.symm
      clear hg
      go_region
      go_wp2
      exact bodyPost_ret (results_ct rfl _ _ g 23 #[.int .i64 (y), .int .i64 (11), .int .i64 (d + 1), .int .i64 h, .int .i64 mi, .int .i64 s, .int .i64 z] (0, 0) _ rfl (blk_drew (set7 HR.out _ _ _ _ _ _ _).1) Tryd.underlying23 rfl (by kernel_rfl)) rfl ⟨rfl, below_drew ((set7 HR.out _ _ _ _ _ _ _).2 _ _ HB.out GE)⟩
  · skip
    have hL : lengthP y 12 = 31 := by simp [lengthP, monthDays]
    by_cases c1 : 31 < d + 1
    · skip
      rw [hL] at a6
      skip
      have hn : morrowP y 12 d = (y + 1, 1, 1) := by unfold morrowP; rw [if_neg (by omega), if_neg (by omega)]
      rw [hn]
      clear hn
      go_enter Tryd.func23, Tryd.ntmps23
      go_upto_region 19 with fail
      obtain ⟨ha, hr, hb⟩ := two_blk w #[.int .i64 (y + 1), .int .i64 (1), .int .i64 (1), .int .i64 h, .int .i64 mi, .int .i64 s, .int .i64 z] #[.int .i64 0, .int .i64 0, .int .i64 0, .int .i64 0, .int .i64 0, .int .i64 0, .int .i64 0]
      generalize (w.alloc (.cells #[.int .i64 (y + 1), .int .i64 (1), .int .i64 (1), .int .i64 h, .int .i64 mi, .int .i64 s, .int .i64 z] 23)).alloc (.cells #[.int .i64 0, .int .i64 0, .int .i64 0, .int .i64 0, .int .i64 0, .int .i64 0, .int .i64 0] 23) = w2 at *
      have HA := Lib.hid ha
      have HR := Lib.hid hr
      have HB := Lib.hid hb
      clear ha hr hb
      obtain ⟨⟨k0, k1, k2, k3, k4, k5, k6⟩, _⟩ := cells7 HA.out
      obtain ⟨⟨l0, l1, l2, l3, l4, l5, l6⟩, lf⟩ := cells7 HR.out
      have f0 := lf 0
      have f1 := lf 1
      have f2 := lf 2
      have f3 := lf 3
      have f4 := lf 4
      have f5 := lf 5
      have f6 := lf 6
      clear lf
      generalize hg : w.heap.size + 1 = g at *
      have GE : w.heap.size ≤ g := by rw [← hg]; exact Nat.le_succ _
      have ne1 : w.heap.size ≠ g := by rw [← hg]; exact Nat.ne_of_lt (Nat.lt_succ_self _)
      have ne2 : g ≠ w.heap.size := ne1.symm
      clear hg
      go_region
      go_wp2
      exact bodyPost_ret (results_ct rfl _ _ g 23 #[.int .i64 (y + 1), .int .i64 (1), .int .i64 (1), .int .i64 h, .int .i64 mi, .int .i64 s, .int .i64 z] (0, 0) _ rfl (blk_drew (set7 HR.out _ _ _ _ _ _ _).1) Tryd.underlying23 rfl (by kernel_rfl)) rfl ⟨rfl, below_drew ((set7 HR.out _ _ _ _ _ _ _).2 _ _ HB.out GE)⟩
    · skip
      have hn : morrowP y 12 d = (y, 12, d + 1) := by unfold morrowP; rw [if_pos (by omega)]
      rw [hn]
      clear hn
      have hd : decide (((y, 12, d + 1) : Int × Int × Int).1 ≤ 9999) = true := decide_eq_true a2
      rw [hd]
      clear hd
      go_enter Tryd.func23, Tryd.ntmps23
      go_upto_region 19 with fail
      obtain ⟨ha, hr, hb⟩ := two_blk w #[.int .i64 (y), .int .i64 (12), .int .i64 (d + 1), .int .i64 h, .int .i64 mi, .int .i64 s, .int .i64 z] #[.int .i64 0, .int .i64 0, .int .i64 0, .int .i64 0, .int .i64 0, .int .i64 0, .int .i64 0]
      generalize (w.alloc (.cells #[.int .i64 (y), .int .i64 (12), .int .i64 (d + 1), .int .i64 h, .int .i64 mi, .int .i64 s, .int .i64 z] 23)).alloc (.cells #[.int .i64 0, .int .i64 0, .int .i64 0, .int .i64 0, .int .i64 0, .int .i64 0, .int .i64 0] 23) = w2 at *
      have HA := Lib.hid ha
      have HR := Lib.hid hr
      have HB := Lib.hid hb
      clear ha hr hb
      obtain ⟨⟨k0, k1, k2, k3, k4, k5, k6⟩, _⟩ := cells7 HA.out
      obtain ⟨⟨l0, l1, l2, l3, l4, l5, l6⟩, lf⟩ := cells7 HR.out
      have f0 := lf 0
      have f1 := lf 1
      have f2 := lf 2
      have f3 := lf 3
      have f4 := lf 4
      have f5 := lf 5
      have f6 := lf 6
      clear lf
      generalize hg : w.heap.size + 1 = g at *
      have GE : w.heap.size ≤ g := by rw [← hg]; exact Nat.le_succ _
      have ne1 : w.heap.size ≠ g := by rw [← hg]; exact Nat.ne_of_lt (Nat.lt_succ_self _)
      have ne2 : g ≠ w.heap.size := ne1.symm
      clear hg
      go_region
      go_wp2
      exact bodyPost_ret (results_ct rfl _ _ g 23 #[.int .i64 (y), .int .i64 (12), .int .i64 (d + 1), .int .i64 h, .int .i64 mi, .int .i64 s, .int .i64 z] (0, 0) _ rfl (blk_drew (set7 HR.out _ _ _ _ _ _ _).1) Tryd.underlying23 rfl (by kernel_rfl)) rfl ⟨rfl, below_drew ((set7 HR.out _ _ _ _ _ _ _).2 _ _ HB.out GE)⟩
end Go.Proofs.YtjlchnmpebdggaaDoor.Mo
end
section
namespace Go.Proofs.YtjlchnmpebdggaaDoor.Mo
open Go.RowKit Go.Proofs.YtjlchnmpebdggaaDoorW.PrintWords
def up (c : UInt8) : UInt8 := if 97 ≤ c ∧ c ≤ 122 then c - 32 else c
def upTo (l : List UInt8) (k : Nat) : List UInt8 := (l.take k).map up ++ l.drop k
def upperP (s : ByteArray) : ByteArray := ⟨(s.data.toList.map up).toArray⟩
theorem upTo_get (l : List UInt8) (k j : Nat) : (upTo l k)[j]? = if j < k then l[j]?.map up else l[j]? := by
  unfold upTo
  by_cases h : j < k
  · rw [if_pos h]
    by_cases hj : j < l.length
    · rw [List.getElem?_append_left (by simp; omega), List.getElem?_map, List.getElem?_take, if_pos h]
    · rw [List.getElem?_append_right (by simp; omega), List.getElem?_drop, List.getElem?_eq_none (by simp; omega), List.getElem?_eq_none (by omega)]; rfl
  · rw [if_neg h]
    by_cases hj : k ≤ l.length
    · rw [List.getElem?_append_right (by simp; omega), List.getElem?_drop]
      congr 1
      simp
      omega
    · rw [List.getElem?_eq_none (by simp; omega), List.getElem?_eq_none (by omega)]
theorem upTo_all (l : List UInt8) : upTo l l.length = l.map up := by simp [upTo]
theorem up_small (c : UInt8) (h : 97 ≤ c.toNat) (h2 : c.toNat ≤ 122) : ((up c).toNat : Int) = (c.toNat : Int) - 32 := by
  have e : (97 : UInt8) ≤ c ∧ c ≤ 122 := ⟨UInt8.le_iff_toNat_le.2 h, UInt8.le_iff_toNat_le.2 h2⟩
  unfold up
  rw [if_pos e, UInt8.toNat_sub_of_le _ _ (UInt8.le_iff_toNat_le.2 (by show 32 ≤ _; omega))]
  show ((c.toNat - 32 : Nat) : Int) = _
  omega
theorem up_else (c : UInt8) (h : ¬ (97 ≤ c.toNat ∧ c.toNat ≤ 122)) : up c = c := by
  unfold up
  rw [if_neg]
  rintro ⟨h1, h2⟩
  exact h ⟨UInt8.le_iff_toNat_le.1 h1, UInt8.le_iff_toNat_le.1 h2⟩
theorem upperP_size (s : ByteArray) : (upperP s).size = s.size := by show (s.data.toList.map up).toArray.size = _; simp
set_option maxHeartbeats 1000000 in
theorem upper_calls (a : ByteArray) (w : World) (ha : a.size ≤ 140737488351232) :
    Calls Tryd.prog 94 #[.string a] w fun e w' => e = .returned (.string (upperP a)) ∧ Below w.heap.size w w' := by
  have hcv := fun w => run_bytes_of_string (P := Tryd.prog) w 9 58 5 a Tryd.underlying9 Tryd.underlying58 Tryd.underlying5
  go_enter Tryd.func94, Tryd.ntmps94
  go_wp2_with fail
  have cell0 : ∀ (j : Nat) (b : UInt8), a.data.toList[j]? = some b → (w.alloc (Obj.cells (bytesRow a (grownCap w a.size 0 5)) 5 ((bytesRow a (grownCap w a.size 0 5)).size, (bytesRow a (grownCap w a.size 0 5)).size + 1))).drew.cell? ⟨w.heap.size, j, none⟩ = some (.int .u8 b.toNat) := fun j b hj => by
    have hlt := (List.getElem?_eq_some_iff.1 hj).1
    rw [List.getElem?_eq_getElem hlt] at hj
    have hj := Option.some.inj hj
    refine (World.cell?_alloc_mark w _ _ _ j).trans ?_
    rw [bytesRow_at a _ j (by simpa using hlt)]
    rw [← hj]
    rfl
  have frz0 : ∀ j : Nat, j < a.size → (w.alloc (Obj.cells (bytesRow a (grownCap w a.size 0 5)) 5 ((bytesRow a (grownCap w a.size 0 5)).size, (bytesRow a (grownCap w a.size 0 5)).size + 1))).drew.frozen? ⟨w.heap.size, j, none⟩ = false := fun j hj => by
    refine (World.frozen?_alloc_mark w _ _ _ _ j).trans ?_
    have : (bytesRow a (grownCap w a.size 0 5)).size ≥ a.size := by unfold bytesRow; simp
    rw [decide_eq_false (by omega), Bool.false_and]
  have bel0 : Below w.heap.size w (w.alloc (Obj.cells (bytesRow a (grownCap w a.size 0 5)) 5 ((bytesRow a (grownCap w a.size 0 5)).size, (bytesRow a (grownCap w a.size 0 5)).size + 1))).drew := ((Below.refl _ w).alloc (Nat.le_refl _) _).drew
  generalize (w.alloc (Obj.cells (bytesRow a (grownCap w a.size 0 5)) 5 ((bytesRow a (grownCap w a.size 0 5)).size, (bytesRow a (grownCap w a.size 0 5)).size + 1))).drew = w0 at *
  generalize hcap : grownCap w a.size 0 5 = cap at *
  clear hcv hcap
  go_loopw [10] (fun n wr => ∃ k : Nat, k ≤ a.size ∧ n = .int .i64 k ∧ (∀ (j : Nat) (b : UInt8), (upTo a.data.toList k)[j]? = some b → wr.cell? ⟨w.heap.size, j, none⟩ = some (.int .u8 b.toNat)) ∧
      (∀ j : Nat, j < a.size → wr.frozen? ⟨w.heap.size, j, none⟩ = false) ∧ Below w.heap.size w wr) (fun n _ => a.size - (intOf n).toNat)
  case atStart => exact ⟨0, by omega, rfl, fun j b hj => cell0 j b (by simpa [upTo] using hj), frz0, bel0⟩
  case round =>
    obtain ⟨k, hk, rfl, hc, hf, hB⟩ := hrel
    have HC := Lib.hid hc
    have HF := Lib.hid hf
    have HB := Lib.hid hB
    clear cell0 frz0 bel0 hc hf hB
    by_cases hlt : k < a.size
    · have hlen : k < a.data.toList.length := by simpa using hlt
      obtain ⟨b, hb⟩ : ∃ b, a.data.toList[k]? = some b := ⟨_, List.getElem?_eq_getElem hlen⟩
      have hget : (upTo a.data.toList k)[k]? = some b := by rw [upTo_get, if_neg (by omega), hb]
      have hc := HC.out k b hget
      have hf := HF.out k hlt
      have HBB := Lib.hid hb
      have hb8 := b.toNat_lt
      clear hget hb
      by_cases hs : 97 ≤ b.toNat ∧ b.toNat ≤ 122
      · obtain ⟨h1, h2⟩ := hs
        have hup := up_small b h1 h2
        have d1 : decide ((97 : Int) ≤ (b.toNat : Int)) = true := decide_eq_true (by omega)
        have d2 : decide ((b.toNat : Int) ≤ 122) = true := decide_eq_true (by omega)
        go_wp2
        go_roundw
        case rel =>
          refine ⟨k + 1, by omega, by go_num, ?_, ?_, (HB.out.setCell (by simp) _)⟩
          · intro j b' hj
            rw [upTo_get] at hj
            by_cases q : k = j
            · subst q
              rw [if_pos (by omega), HBB.out] at hj
              obtain rfl := Option.some.inj hj
              rw [hup]
              exact World.cell?_setCell_same _ _ _ hc
            · refine (World.cell?_setCell_other _ _ _ _ (fun e => q (congrArg Addr.off e))).trans (HC.out j b' ?_)
              rw [upTo_get]
              by_cases q2 : j < k
              · rw [if_pos (by omega)] at hj; rw [if_pos q2]; exact hj
              · rw [if_neg (by omega)] at hj; rw [if_neg q2]; exact hj
          · intro j hj
            rw [World.frozen?_setCell]
            exact HF.out j hj
        case measure => simp [intOf]; omega
      · have hup := up_else b hs
        have rel : ∃ k_1 : Nat, k_1 ≤ a.size ∧ Value.int .i64 ((k : Int) + 1) = .int .i64 k_1 ∧ (∀ (j : Nat) (b : UInt8), (upTo a.data.toList k_1)[j]? = some b → wr.cell? ⟨w.heap.size, j, none⟩ = some (.int .u8 b.toNat)) ∧
            (∀ j : Nat, j < a.size → wr.frozen? ⟨w.heap.size, j, none⟩ = false) ∧ Below w.heap.size w wr := by
          refine ⟨k + 1, by omega, by go_num, ?_, HF.out, HB.out⟩
          intro j b' hj
          refine HC.out j b' ?_
          rw [upTo_get] at hj ⊢
          by_cases q : k = j
          · subst q
            rw [if_pos (by omega), HBB.out] at hj
            rw [if_neg (by omega), HBB.out]
            rw [← hj]
            simp [hup]
          · by_cases q2 : j < k
            · rw [if_pos (by omega)] at hj; rw [if_pos q2]; exact hj
            · rw [if_neg (by omega)] at hj; rw [if_neg q2]; exact hj
        have REL := Lib.hid rel
        clear rel
        by_cases h1 : 97 ≤ b.toNat
        · have d1 : decide ((97 : Int) ≤ (b.toNat : Int)) = true := decide_eq_true (by omega)
          have d2 : decide ((b.toNat : Int) ≤ 122) = false := decide_eq_false (by omega)
          go_wp2
          go_roundw
          case rel => exact REL.out
          case measure => simp [intOf]; omega
        · have d1 : decide ((97 : Int) ≤ (b.toNat : Int)) = false := decide_eq_false (by omega)
          go_wp2
          go_roundw
          case rel => exact REL.out
          case measure => simp [intOf]; omega
    · obtain rfl : k = a.size := by omega
      have hal : a.data.toList.length = a.size := by simp
      have hback : (convert 58 9 (.slice (some ⟨w.heap.size, 0, none⟩) a.size cap)).run Tryd.prog wr = .ok (.string (upperP a)) wr := by
        have HL : a.size = (a.data.toList.map up).length := by rw [List.length_map, hal]
        rw [HL]
        exact run_convert_bytes_back (P := Tryd.prog) wr 58 9 5 ⟨w.heap.size, 0, none⟩ cap (a.data.toList.map up) Tryd.underlying58 Tryd.underlying5 Tryd.underlying9 (fun j hj => by
          rw [add_plain]
          refine HC.out j _ ?_
          rw [← hal, upTo_all]
          exact List.getElem?_eq_getElem hj)
      go_wp2
      go_ret
      exact ⟨rfl, HB.out⟩
end Go.Proofs.YtjlchnmpebdggaaDoor.Mo
end
section
namespace Go.Proofs.YtjlchnmpebdggaaDoor.Mo
open Go.RowKit Go.Proofs.YtjlchnmpebdggaaDoorW.PrintWords
def placeP (t : ByteArray) : List ByteArray → Nat → Int
  | [], _ => -1
  | x :: r, k => if (upperP x).toList = (upperP t).toList then k else placeP t r (k + 1)
set_option maxHeartbeats 1000000 in
theorem place_calls (l : List ByteArray) (b cap : Nat) (s : ByteArray) (w : World) (hs : s.size ≤ 140737488351232) (hl : l.length ≤ 1000) (hx : ∀ x ∈ l, x.size ≤ 1000)
    (hc : ∀ j x, l[j]? = some x → w.cell? ⟨b, j, none⟩ = some (.string x)) (hb : b < w.heap.size) :
    Calls Tryd.prog 92 #[.slice (some ⟨b, 0, none⟩) l.length cap, .string s] w fun e w' => e = .returned (.int .i64 (placeP s l 0)) ∧ Below w.heap.size w w' := by
  have HX := Lib.hid hx
  have HC := Lib.hid hc
  clear hx hc
  go_enter Tryd.func92, Tryd.ntmps92
  go_wp2_with fail
  refine (upper_calls s _ hs).mono ?_
  rintro e w1 ⟨rfl, hB1⟩
  go_wp2_with fail
  go_loopw [11] (fun n wr => ∃ k : Nat, k ≤ l.length ∧ n = .int .i64 k ∧ placeP s l 0 = placeP s (l.drop k) k ∧ Below w.heap.size w wr) (fun n _ => l.length - (intOf n).toNat)
  case atStart => exact ⟨0, by omega, rfl, rfl, hB1⟩
  case round =>
    obtain ⟨k, hk, rfl, hp, hB⟩ := hrel
    have HB := Lib.hid hB
    have HP := Lib.hid hp
    have hsz := hB.size
    clear hB hp hB1
    by_cases hlt : k < l.length
    · have hc : wr.cell? ⟨b, k, none⟩ = some (.string l[k]) := (HB.out.cell (p := ⟨b, k, none⟩) hb).trans (HC.out k _ (List.getElem?_eq_getElem hlt))
      have hxs := HX.out l[k] (List.getElem_mem hlt)
      have hd : Hid (l.drop k = l[k] :: l.drop (k + 1)) := by show l.drop k = _; exact List.drop_eq_getElem_cons hlt
      generalize l[k] = x at *
      have hq : Hid (placeP s l 0 = if (upperP x).toList = (upperP s).toList then (k : Int) else placeP s (l.drop (k + 1)) (k + 1)) := by
        show placeP s l 0 = _; rw [HP.out, hd.out]; rfl
      by_cases he : (upperP x).toList = (upperP s).toList
      · have HE := Lib.hid he
        have hz : ((upperP x).toList == (upperP s).toList) = true := beq_iff_eq.2 he
        clear he
        go_wp2_with (go_at_call 94; refine (upper_calls _ _ (by omega)).mono ?_; rintro e w2 ⟨rfl, hB2⟩)
        go_ret
        exact ⟨by rw [hq.out, if_pos HE.out]; rfl, HB.out.trans (hB2.mono hsz)⟩
      · have HE := Lib.hid he
        have hz : ((upperP x).toList == (upperP s).toList) = false := beq_eq_false_iff_ne.2 he
        clear he
        go_wp2_with (go_at_call 94; refine (upper_calls _ _ (by omega)).mono ?_; rintro e w2 ⟨rfl, hB2⟩)
        go_roundw
        case rel => exact ⟨k + 1, by omega, by go_num, by rw [hq.out, if_neg HE.out], HB.out.trans (hB2.mono hsz)⟩
        case measure => simp [intOf]; omega
    · obtain rfl : k = l.length := by omega
      go_wp2
      go_ret
      exact ⟨by rw [HP.out, List.drop_length]; rfl, HB.out⟩
end Go.Proofs.YtjlchnmpebdggaaDoor.Mo
end
section
namespace Go.Proofs.YtjlchnmpebdggaaDoor.Mo
open Go.RowKit Go.Proofs.YtjlchnmpebdggaaDoorW.PrintWords
def dayP (d : Int) (s : ByteArray) : Int × Int × Int × Bool :=
  if s.size = 9 ∧ bt s 0 = 45 ∧ bt s 4 = 45 then
    ((digitsP (s.extract 5 9)).1, placeP (s.extract 1 4) monthL 0 + 1, d, (digitsP (s.extract 5 9)).2 && decide (0 ≤ placeP (s.extract 1 4) monthL 0))
  else (0, 0, 0, false)
def moment_day.f (d : Int) (s : ByteArray) : Option (Int × Int × Int × Int × Int × Int × Int × Bool) :=
  some ((dayP d s).1, (dayP d s).2.1, (dayP d s).2.2.1, 0, 0, 0, 0, (dayP d s).2.2.2)
theorem placeP_range (t : ByteArray) : ∀ (l : List ByteArray) (k : Nat), -1 ≤ placeP t l k ∧ placeP t l k < k + l.length
  | [], k => by unfold placeP; simp; omega
  | x :: r, k => by
    unfold placeP
    have := placeP_range t r (k + 1)
    rw [List.length_cons]
    split <;> omega
set_option maxHeartbeats 1000000 in
set_option maxRecDepth 100000 in
theorem day_calls (d : Int) (s : ByteArray) (w : World) :
    Calls Tryd.prog 69 #[.int .i64 d, .string s] w fun e w' => e = .returned (.tuple #[.agg #[.int .i64 (dayP d s).1, .int .i64 (dayP d s).2.1, .int .i64 (dayP d s).2.2.1, .int .i64 0, .int .i64 0, .int .i64 0, .int .i64 0], .bool (dayP d s).2.2.2]) ∧ Below w.heap.size w w' := by
  by_cases hs : s.size = 9 ∧ bt s 0 = 45 ∧ bt s 4 = 45
  · obtain ⟨⟨D1, D2⟩, hD⟩ : ∃ D, digitsP (s.extract 5 9) = D := ⟨_, rfl⟩
    obtain ⟨P, hP⟩ : ∃ P, placeP (s.extract 1 4) monthL 0 = P := ⟨_, rfl⟩
    have hp : dayP d s = (D1, P + 1, d, D2 && decide (0 ≤ P)) := by unfold dayP; rw [if_pos hs, hD, hP]
    have hr := placeP_range (s.extract 1 4) monthL 0
    rw [hP] at hr
    rw [hp]
    dsimp only
    obtain ⟨h9, h0, h4⟩ := hs
    have hb0 : 0 < s.size := by omega
    have hb4 : 4 < s.size := by omega
    have e0 : ((s[0]'hb0).toNat : Int) = 45 := by rw [← h0]; exact bt_at s 0 (by simp; omega)
    have e4 : ((s[4]'hb4).toNat : Int) = 45 := by rw [← h4]; exact bt_at s 4 (by simp; omega)
    have g9 : ((s.size : Int) != 9) = false := by rw [bne_eq_false_iff_eq]; omega
    have hx1 : (s.extract 1 4).size = 3 := by rw [ByteArray.size_extract]; omega
    have hdig : moment_digits.f 7 (s.extract 5 9) = some (D1, D2) := by rw [digits_f 7 (by omega), hD]
    have hr0 : -1 ≤ P := hr.1
    have hr1 : P < 12 := hr.2
    have hse : s.extract 5 s.size = s.extract 5 9 := by rw [h9]
    have HP := Lib.hid hP
    have HD := Lib.hid hdig
    have HX := Lib.hid hx1
    have hP1 : wrap64 (P + 1) = P + 1 := IntWalk.wrap64_in _ ⟨by omega, by omega⟩
    have HSE := Lib.hid hse
    clear hP hD hp hr h0 h4 hdig hx1 hse
    have hb9 : 9 ≤ s.size := by omega
    have hb9' : s.size ≤ 9 := by omega
    have H9 := Lib.hid h9
    clear h9
    have hsl : ∀ w', (Instr.slice 9 (.string s) (some (.int .i64 1)) (some (.int .i64 4)) none).run Tryd.prog w' = .ok (.string (s.extract 1 4)) w' := fun w' => by
      rw [run_slice_string (P := Tryd.prog) w' 9 s .i64 .i64 1 4 Tryd.underlying9 (by omega) (by omega) (by omega)]; rfl
    generalize s.extract 1 4 = T at *
    go_enter Tryd.func69, Tryd.ntmps69
    go_wp2_with fail
    refine (months_calls _).mono ?_
    rintro e w1 ⟨rfl, hb1⟩
    go_wp2_with fail
    have hrow := heap_alloc_new w1 (.cells (monthL.map Value.string).toArray 71)
    have hbel : Below w.heap.size w (w1.alloc (.cells (monthL.map Value.string).toArray 71)) := below_alloc (below_step (below_alloc (Below.refl _ w) _) hb1) _
    obtain ⟨g, hg⟩ : ∃ g, w1.heap.size = g := ⟨_, rfl⟩
    have hbox : (w1.alloc (.cells (monthL.map Value.string).toArray 71)).heap[w.heap.size]? = some (.cells #[.int .i64 0, .int .i64 0, .int .i64 0, .int .i64 0, .int .i64 0, .int .i64 0, .int .i64 0] 23 (0, 0)) := by
      have := hb1.size
      rw [Below.heap_alloc _ _ _ (by simp at this; omega), hb1.block _ (by simp)]; exact heap_alloc_new _ _
    obtain ⟨w2, hw2⟩ : ∃ w2, w1.alloc (.cells (monthL.map Value.string).toArray 71) = w2 := ⟨_, rfl⟩
    rw [hw2] at hrow hbel hbox
    rw [hg] at hrow ⊢
    rw [show w1.alloc (Obj.cells #[Value.string ⟨#[74, 97, 110]⟩, .string ⟨#[70, 101, 98]⟩, .string ⟨#[77, 97, 114]⟩, .string ⟨#[65, 112, 114]⟩, .string ⟨#[77, 97, 121]⟩, .string ⟨#[74, 117, 110]⟩, .string ⟨#[74, 117, 108]⟩, .string ⟨#[65, 117, 103]⟩, .string ⟨#[83, 101, 112]⟩, .string ⟨#[79, 99, 116]⟩, .string ⟨#[78, 111, 118]⟩, .string ⟨#[68, 101, 99]⟩] 71) = w2 from hw2]
    have hglt : g < w2.heap.size := (Array.getElem?_eq_some_iff.1 hrow).1
    have HROW := Lib.hid hrow
    have HBEL := Lib.hid hbel
    have HP1 := Lib.hid hP1
    have hblt : w.heap.size < w2.heap.size := (Array.getElem?_eq_some_iff.1 hbox).1
    have HBOX := Lib.hid hbox
    clear hrow hbel hw2 hg hbox hb1 hP1
    go_region_with (go_at_call 92; refine (place_calls monthL g 12 T _ (by rw [HX.out]; omega) (by decide) month_small (fun j x hx => month_cells (by exact HROW.out) j x hx) (by exact hglt)).mono ?_; rw [HP.out]; rintro e w3 ⟨rfl, hb3⟩; have HB3 := Lib.hid (below_step (below_drew HBEL.out) hb3); have HBX := Lib.hid ((hb3.block w.heap.size (by exact hblt)).trans HBOX.out); clear hb3)
    obtain ⟨⟨c0, c1, c2, c3, c4, c5, c6⟩, fz⟩ := cells7 HBX.out
    have z0 := fz 0
    have z1 := fz 1
    have z2 := fz 2
    have z3 := fz 3
    have z4 := fz 4
    have z5 := fz 5
    have z6 := fz 6
    clear fz
    go_wp2_with (go_at_call 68; rw [HSE.out]; refine (moment_digits.calls 7 _ _ _ _ HD.out).mono ?_; rintro e w4 ⟨rfl, ⟨nd, rfl⟩⟩)
    · rename_i hD
      refine bodyPost_ret (results_ct rfl _ _ w.heap.size 23 #[.int .i64 D1, .int .i64 (P + 1), .int .i64 d, .int .i64 0, .int .i64 0, .int .i64 0, .int .i64 0] (0, 0) _ rfl (set7 (w := w3.drewN nd) HBX.out _ _ _ _ _ _ _).1 Tryd.underlying23 rfl (by kernel_rfl)) rfl ⟨?_, (set7 (w := w3.drewN nd) HBX.out _ _ _ _ _ _ _).2 _ _ (pw_below_drewN HB3.out nd) (Nat.le_refl _)⟩
      rw [hD, Bool.true_and]
      rfl
    · rename_i hD
      refine bodyPost_ret (results_ct rfl _ _ w.heap.size 23 #[.int .i64 D1, .int .i64 (P + 1), .int .i64 d, .int .i64 0, .int .i64 0, .int .i64 0, .int .i64 0] (0, 0) _ rfl (set7 (w := w3.drewN nd) HBX.out _ _ _ _ _ _ _).1 Tryd.underlying23 rfl (by kernel_rfl)) rfl ⟨?_, (set7 (w := w3.drewN nd) HBX.out _ _ _ _ _ _ _).2 _ _ (pw_below_drewN HB3.out nd) (Nat.le_refl _)⟩
      rw [Bool.eq_false_iff.2 hD, Bool.false_and]
      rfl
  · have hp : dayP d s = (0, 0, 0, false) := by unfold dayP; rw [if_neg hs]
    rw [hp]
    by_cases h9 : s.size = 9
    · have g9 : ((s.size : Int) != 9) = false := by rw [bne_eq_false_iff_eq]; omega
      by_cases h0 : bt s 0 = 45
      · have h4 : ¬ bt s 4 = 45 := fun h => hs ⟨h9, h0, h⟩
        have e0 : ((s[0]'(by omega)).toNat : Int) = 45 := by rw [← h0]; exact bt_at s 0 (by simp; omega)
        have e4 : (((s[4]'(by omega)).toNat : Int) != 45) = true := by rw [bne_iff_ne]; intro h; exact h4 (by rw [← h]; exact (bt_at s 4 (by simp; omega)).symm)
        clear hs hp h0 h4
        go_enter Tryd.func69, Tryd.ntmps69
        go_wp2
        exact bodyPost_ret (v := .tuple #[.agg #[.int .i64 0, .int .i64 0, .int .i64 0, .int .i64 0, .int .i64 0, .int .i64 0, .int .i64 0], .bool false]) (by simp [results, Tryd.results69, go_sem]) rfl ⟨rfl, (Below.refl _ _).alloc (Nat.le_refl _) _⟩
      · have e0 : (((s[0]'(by omega)).toNat : Int) != 45) = true := by rw [bne_iff_ne]; intro h; exact h0 (by rw [← h]; exact (bt_at s 0 (by simp; omega)).symm)
        clear hs hp h0
        go_enter Tryd.func69, Tryd.ntmps69
        go_wp2
        exact bodyPost_ret (v := .tuple #[.agg #[.int .i64 0, .int .i64 0, .int .i64 0, .int .i64 0, .int .i64 0, .int .i64 0, .int .i64 0], .bool false]) (by simp [results, Tryd.results69, go_sem]) rfl ⟨rfl, (Below.refl _ _).alloc (Nat.le_refl _) _⟩
    · have g2 : ((s.size : Int) != 9) = true := by rw [bne_iff_ne]; omega
      clear hs hp
      go_enter Tryd.func69, Tryd.ntmps69
      go_wp2
      exact bodyPost_ret (v := .tuple #[.agg #[.int .i64 0, .int .i64 0, .int .i64 0, .int .i64 0, .int .i64 0, .int .i64 0, .int .i64 0], .bool false]) (by simp [results, Tryd.results69, go_sem]) rfl ⟨rfl, (Below.refl _ _).alloc (Nat.le_refl _) _⟩
theorem moment_day.calls (a0 : Int) (a1 : ByteArray) (r1 r2 r3 r4 r5 r6 r7 : Int) (r8 : Bool) (w : World) (h : moment_day.f a0 a1 = some (r1, r2, r3, r4, r5, r6, r7, r8)) :
    Calls Tryd.prog 69 #[.int .i64 a0, .string a1] w fun e w' => e = .returned (.tuple #[.agg #[.int .i64 r1, .int .i64 r2, .int .i64 r3, .int .i64 r4, .int .i64 r5, .int .i64 r6, .int .i64 r7], .bool r8]) ∧ Below w.heap.size w w' := by
  unfold moment_day.f at h
  have h := Option.some.inj h
  simp only [Prod.mk.injEq] at h
  obtain ⟨rfl, rfl, rfl, rfl, rfl, rfl, rfl, rfl⟩ := h
  exact day_calls a0 a1 w
end Go.Proofs.YtjlchnmpebdggaaDoor.Mo
end
