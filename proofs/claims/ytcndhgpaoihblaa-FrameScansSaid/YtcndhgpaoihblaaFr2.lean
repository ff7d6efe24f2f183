/- Printed by wip/myprint.py of this session over the kit's print.py: contracts of Go functions (each: what a plain Lean function says, the call does). -/
import Derived.Test.YtcndhgpaoihblaaFr0
import Derived.Test.YtcndhgpaoihblaaFr1
import Derived.Test.YtcndhgpaoihblaaGiven
namespace Go.Proofs.Ytcndhgpaoihblaa.Fr
open Go.RowKit Go.Proofs.YtcndhgpaoihblaaW.PrintWords Go.Proofs.YtcndhgpaoihblaaW.PrintLast Go.Proofs.YtcndhgpaoihblaaW.PrintMore
attribute [local go_sem] max2_int min2_int max_two min_two max_three min_three max_four min_four   -- for this text's walks alone
set_option linter.unusedVariables false
set_option linter.unusedSimpArgs false

/-! ### frame_read: function 36 -/
def frame_read.j0 : Nat → ByteArray → Int → Bool → Option (Int × Int × Int × ByteArray × Int × Bool)
 | 0, _, _, _ => none
 | k + 1, x0, x1, x28 => if x28 = true then (some (0, 0, 0, (⟨#[]⟩ : ByteArray), 0, false)) else (if 1 < (x0.size : Int) then (if 2 ≤ (x0.size : Int) then ((frame_number.f (x0.extract 2 x0.size)).bind fun t104 => (if 6 ≤ (x0.size : Int) then ((frame_number.f (x0.extract 6 x0.size)).bind fun t106 => ((frame_isKind.f (wrap64 (bt x0 1))).bind fun t107 => (if t107 = true then ((frame_isNumber.f t104).bind fun t108 => (if t108 = true then (if (wrap64 ((wrap64 (14 + t106)) - 14)) > 2097152 then (some (0, 0, 0, (⟨#[]⟩ : ByteArray), 0, false)) else (if (x0.size : Int) < (wrap64 ((wrap64 (14 + t106)) + 4)) then (some (0, 0, 0, (⟨#[]⟩ : ByteArray), 0, false)) else (if 0 ≤ (wrap64 (14 + t106)) then (if (wrap64 (14 + t106)) ≤ (x0.size : Int) then ((frame_number.f (x0.extract ((wrap64 (14 + t106)) : Int).toNat x0.size)).bind fun t109 => ((frame_Sum.f (x0.extract 0 ((wrap64 (14 + t106)) : Int).toNat)).bind fun t110 => (if t109 = t110 then (if 14 ≤ (wrap64 (14 + t106)) then (some (wrap64 (bt x0 1), t104, x1, x0.extract 14 ((wrap64 (14 + t106)) : Int).toNat, wrap64 ((wrap64 (x1 + (wrap64 (14 + t106)))) + 4), true)) else (none)) else (some (0, 0, 0, (⟨#[]⟩ : ByteArray), 0, false))))) else (none)) else (none)))) else (some (0, 0, 0, (⟨#[]⟩ : ByteArray), 0, false)))) else (some (0, 0, 0, (⟨#[]⟩ : ByteArray), 0, false))))) else (none))) else (none)) else (none))
def frame_read.f (k : Nat) (a0 : ByteArray) (a1 : Int) : Option (Int × Int × Int × ByteArray × Int × Bool) := if 0 ≤ a1 then (if a1 ≤ (a0.size : Int) then (if ((a0.extract (a1 : Int).toNat a0.size).size : Int) < 18 then (frame_read.j0 k (a0.extract (a1 : Int).toNat a0.size) a1 true) else (if 0 < ((a0.extract (a1 : Int).toNat a0.size).size : Int) then (if (bt (a0.extract (a1 : Int).toNat a0.size) 0) = 183 then (if 10 ≤ ((a0.extract (a1 : Int).toNat a0.size).size : Int) then ((frame_number.f ((a0.extract (a1 : Int).toNat a0.size).extract 10 (a0.extract (a1 : Int).toNat a0.size).size)).bind fun t102 => (if 0 ≤ 10 then ((frame_Sum.f ((a0.extract (a1 : Int).toNat a0.size).extract 0 10)).bind fun t103 => (frame_read.j0 k (a0.extract (a1 : Int).toNat a0.size) a1 (t102 != t103))) else (none))) else (none)) else (frame_read.j0 k (a0.extract (a1 : Int).toNat a0.size) a1 true)) else (none))) else (none)) else (none)
theorem frame_read.mono_l : ∀ k, (∀ y0 y1 y2, LeO (frame_read.j0 k y0 y1 y2) (frame_read.j0 (k + 1) y0 y1 y2))
 | 0 => fun _ _ _ r h => by simp [frame_read.j0] at h
 | k + 1 => by
  have ih0 := frame_read.mono_l k
  ·intro y0 y1 y2
   unfold frame_read.j0
   repeat' first
   | (with_reducible exact ih0 _ _ _)
   | (with_reducible exact LeO.refl _)
   | (with_reducible exact LeO.none _)
   | (with_reducible refine LeO.ite ?_ ?_)
   | (with_reducible refine LeO.bind ?_ (fun _ => ?_))
   | exact ih0 _ _ _
   | exact LeO.none _
   | refine LeO.ite ?_ ?_
   | refine LeO.bind ?_ (fun _ => ?_)
theorem frame_read.mono : ∀ a0 a1 k, LeO (frame_read.f k a0 a1) (frame_read.f (k + 1) a0 a1) := by
 intro a0 a1 k
 have ih0 := frame_read.mono_l k
 unfold frame_read.f
 repeat' first
   | (with_reducible exact ih0 _ _ _)
   | (with_reducible exact LeO.refl _)
   | (with_reducible exact LeO.none _)
   | (with_reducible refine LeO.ite ?_ ?_)
   | (with_reducible refine LeO.bind ?_ (fun _ => ?_))
   | exact ih0 _ _ _
   | exact LeO.none _
   | refine LeO.ite ?_ ?_
   | refine LeO.bind ?_ (fun _ => ?_)
def frame_read.T2 : Bool × List (List Nat × List Nat) := (true, [([], []), ([0], [0]), ([1], [1]), ([2], [2]), ([3], [3]), ([4, 3], [3, 4]), ([5, 3], [3, 5]), ([3, 6], [3, 6]), ([7, 3], [7]), ([8], [8]), ([9, 8], [8, 9]), ([10, 8, 8], [8, 10]), ([8], [8]), ([12, 8], [8, 12]), ([13, 11, 8], [8, 13]), ([11, 14, 8], [8, 11, 14]), ([8, 15], [8, 15])])
def frame_read.B2 : List Nat := [0, 1, 3, 7, 15, 31, 63, 127, 255, 511, 1023, 2047, 511, 4607, 16383, 32767, 65535]
theorem frame_read.tab2 : rtab .any (opsOf Try.f36 2) = frame_read.T2 := by kernel_rfl
theorem frame_read.bits2 : waitsOk frame_read.T2.2 frame_read.B2 = true := by kernel_rfl
def frame_read.T4 : Bool × List (List Nat × List Nat) := (true, [([], []), ([0], [0]), ([1], [1]), ([], []), ([3], [3]), ([4], [4]), ([], []), ([2, 5, 6], [2, 5, 6]), ([], []), ([8, 7, 5, 0, 1, 2, 3, 4, 5, 6, 7, 8], [7, 8])])
def frame_read.B4 : List Nat := [0, 1, 3, 0, 8, 24, 0, 127, 0, 511]
theorem frame_read.tab4 : rtab .any (opsOf Try.f36 4) = frame_read.T4 := by kernel_rfl
theorem frame_read.bits4 : waitsOk frame_read.T4.2 frame_read.B4 = true := by kernel_rfl
def frame_read.T6 : Bool × List (List Nat × List Nat) := (true, [([], []), ([0], [0]), ([1], [1]), ([2], [2]), ([3, 2], [3]), ([4], [4]), ([5, 4], [4, 5]), ([6, 4, 4], [4, 6]), ([7, 4], [4, 7]), ([4, 8], [4, 8]), ([9, 7], [9]), ([10], [10]), ([11, 10], [10, 11]), ([12, 10], [10, 12]), ([10, 13], [10, 13]), ([14, 10], [14]), ([15], [15]), ([16, 15], [15, 16]), ([15], [15]), ([18, 15], [15, 18]), ([17, 19, 15], [15, 17, 19]), ([15, 20], [15, 20]), ([21, 15], [21]), ([22], [22]), ([22], [22]), ([23, 24, 22], [22, 23, 24]), ([25, 22, 22], [22, 25]), ([22], [22]), ([22], [22]), ([27, 28, 22], [22, 27, 28]), ([29, 26, 22], [22, 29]), ([26, 30, 22], [22, 26, 30]), ([22, 31], [22, 31])])
def frame_read.B6 : List Nat := [0, 1, 3, 7, 15, 31, 63, 127, 255, 511, 1023, 2047, 4095, 8191, 16383, 32767, 65535, 131071, 65535, 327679, 1048575, 2097151, 4194303, 8388607, 8388607, 33554431, 67108863, 8388607, 8388607, 411041791, 1073741823, 2147483647, 4294967295]
theorem frame_read.tab6 : rtab .any (opsOf Try.f36 6) = frame_read.T6 := by kernel_rfl
theorem frame_read.bits6 : waitsOk frame_read.T6.2 frame_read.B6 = true := by kernel_rfl
set_option maxHeartbeats 8000000 in
set_option maxRecDepth 100000 in
theorem frame_read.calls (k : Nat) (a0 : ByteArray) (a1 : Int) (r1 : Int) (r2 : Int) (r3 : Int) (r4 : ByteArray) (r5 : Int) (r6 : Bool) (w : World) (h : frame_read.f k a0 a1 = some (r1, r2, r3, r4, r5, r6)) :
  Calls Try.prog 36 #[.string a0, .int .i64 a1] w fun e w' => e = .returned (.tuple #[.agg #[.int .i64 r1, .int .i64 r2, .int .i64 r3, .string r4], .int .i64 r5, .bool r6]) ∧ Below w.heap.size w w' := by
 have hu49 := Try.underlying49
 have HB := Aside0.mk (Below.refl w.heap.size w)
 have H : (if 0 ≤ a1 then (if a1 ≤ (a0.size : Int) then (if ((a0.extract (a1 : Int).toNat a0.size).size : Int) < 18 then (frame_read.j0 k (a0.extract (a1 : Int).toNat a0.size) a1 true) else (if 0 < ((a0.extract (a1 : Int).toNat a0.size).size : Int) then (if (bt (a0.extract (a1 : Int).toNat a0.size) 0) = 183 then (if 10 ≤ ((a0.extract (a1 : Int).toNat a0.size).size : Int) then ((frame_number.f ((a0.extract (a1 : Int).toNat a0.size).extract 10 (a0.extract (a1 : Int).toNat a0.size).size)).bind fun t102 => (if 0 ≤ 10 then ((frame_Sum.f ((a0.extract (a1 : Int).toNat a0.size).extract 0 10)).bind fun t103 => (frame_read.j0 k (a0.extract (a1 : Int).toNat a0.size) a1 (t102 != t103))) else (none))) else (none)) else (frame_read.j0 k (a0.extract (a1 : Int).toNat a0.size) a1 true)) else (none))) else (none)) else (none)) = some (r1, r2, r3, r4, r5, r6) := h
 clear h
 by_cases c3 : 0 ≤ a1
 ·rw [if_pos c3] at H
  have c3b0 := eq_true c3
  have c3b1 : decide (0 ≤ a1) = true := decide_eq_true c3
  clear c3
  by_cases c4 : a1 ≤ (a0.size : Int)
  ·rw [if_pos c4] at H
   have c4b0 := eq_true c4
   have c4b1 : decide (a1 ≤ (a0.size : Int)) = true := decide_eq_true c4
   clear c4
   have HC5 := Aside0.mk H
   clear H
   go_enter Try.func36, Try.ntmps36
   go_upto_region 2 with (first | ((with_reducible refine gate_dst (N := 4) rfl ?_); (try (refine gate_guard (by rfl) ?_; dsimp only)); refine box_event ?hg (N := 4) ?hd (cs := #[.int .i64 0, .int .i64 0, .int .i64 0, .string (⟨#[]⟩ : ByteArray)]) (t := 49) ?hr ?_; (case hd => rfl); (case hg => rfl); (case hr => first | (go_simp; done) | (go_simp; rfl)); intro gb101 hg w6 hbox hb; have n0_ := Aside0.mk (below_step (by repeat (first | (with_reducible first | exact HB.out | apply below_alloc | apply pw_below_drewN | apply below_drew1) | exact HB.out)) hb); have n1_ := Aside0.mk (hbox); have n2_ := Aside0.mk ((by rw [hg]; exact (below_size (by repeat (first | (with_reducible first | exact HB.out | apply below_alloc | apply pw_below_drewN | apply below_drew1) | exact HB.out))) : w.heap.size ≤ gb101)); have n3_ := Aside0.mk ((by rw [hg]; exact (below_size (by repeat (first | (with_reducible first | exact HB.out | apply below_alloc | apply pw_below_drewN | apply below_drew1) | exact HB.out))) : w.heap.size ≤ gb101)); clear HB; have HB := n0_; have BK101 := n1_; have GW101 := n2_; have GE101 := n3_; clear n0_ n1_ n2_ n3_; clear hb hbox hg))
   (try simp only [Act.put, s1_, s2_, s3_])
   generalize a0.extract (a1 : Int).toNat a0.size = t0 at *
   go_cut [28] (fun v28 wc => ∃ (kq : Nat) (x28_4 : Bool), v28 = .bool x28_4 ∧ Aside0 (frame_read.j0 kq t0 a1 x28_4 = some (r1, r2, r3, r4, r5, r6)) ∧ Aside0 (kq ≤ k) ∧ Aside0 (wc.heap[gb101]? = some (.cells #[.int .i64 0, .int .i64 0, .int .i64 0, .string (⟨#[]⟩ : ByteArray)] 49 (0, 0))) ∧ Aside0 (Below w.heap.size w wc))
   case first =>
    have H := HC5.out
    clear HC5
    by_cases c7 : (t0.size : Int) < 18
    ·rw [if_pos c7] at H
     have c7b0 : decide ((t0.size : Int) < 18) = true := decide_eq_true c7
     have c7b1 : decide (t0.size < 18) = true := decide_eq_true (by omega)
     (try (have c7b2 : decide (((a0.size - a1.toNat : Nat) : Int) < 18) = true := decide_eq_true (by have h_ := c7; simp only [ByteArray.size_extract, Nat.min_self] at h_; omega)))
     (try (have c7b3 : decide ((a0.size - a1.toNat : Nat) < 18) = true := decide_eq_true (by have h_ := c7; simp only [ByteArray.size_extract, Nat.min_self] at h_; omega)))
     (try (have c7b4 : (((a0.size - a1.toNat : Nat) : Int) < 18) = True := eq_true (by have h_ := c7; simp only [ByteArray.size_extract, Nat.min_self] at h_; omega)))
     clear c7
     (first | rw [c7b0] | (simp only [i64_w, i32_w]; rw [c7b0]) | skip)
     have H' := Aside0.mk H
     clear H
     try go_wp2
     have n0_ := Aside0.mk (blk_drew BK101.out)
     have n1_ := Aside0.mk (below_drew1 HB.out)
     clear BK101
     clear HB
     have BK101 := n0_
     have HB := n1_
     clear n0_ n1_
     refine start_ (n := 17) (S := fun w' => True) (ds := []) (bs_ 0 17) (by kernel_rfl) rfl rfl trivial (fun hHeld => ?_); refine with_tabW frame_read.tab2 frame_read.bits2 (fun HT_ HW_ => ?_)
     generalize w6.drew = w8 at BK101 HB hHeld ⊢
     refine pu_ 0 (some 12) ?_ (bs_ 1 16) rfl rfl (any_of HT_.out (by kernel_rfl)) (fun _ _ _ h => h) (y_ (by rfl) ?_) ?_ ?_ ?_
     rotate_left
     ·intro w'
      go_simp
      with_reducible rfl
     rotate_left
     ·simp only [Act.put, s1_, s2_, s3_, i64_w, i32_w]
      rfl
     refine pu_ 1 (some 13) ?_ (bs_ 2 15) rfl rfl (any_of HT_.out (by kernel_rfl)) (fun _ _ _ h => h) (y_ (by rfl) ?_) ?_ ?_ ?_
     rotate_left
     ·intro w'
      go_simp
      with_reducible rfl
     rotate_left
     ·simp only [Act.put, s1_, s2_, s3_, i64_w, i32_w]
      rfl
     refine pu_ 2 (some 14) ?_ (bs_ 3 14) rfl rfl (any_of HT_.out (by kernel_rfl)) (fun _ _ _ h => h) (y_ (by rfl) ?_) ?_ ?_ ?_
     rotate_left
     ·intro w'
      go_simp
      with_reducible rfl
     rotate_left
     ·simp only [Act.put, s1_, s2_, s3_, i64_w, i32_w]
      rfl
     refine pu_ 3 (some 15) ?_ (bs_ 4 13) rfl rfl (any_of HT_.out (by kernel_rfl)) (fun _ _ _ h => h) (y_ (by rfl) ?_) ?_ ?_ ?_
     rotate_left
     ·intro w'
      go_simp
      with_reducible rfl
     rotate_left
     ·simp only [Act.put, s1_, s2_, s3_, i64_w, i32_w]
      rfl
     refine pu_ 4 (some 16) undef (bs_ 5 12) rfl rfl (any_of HT_.out (by kernel_rfl)) (fun _ _ _ h => h) (n_ (by rfl)) ?_ ?_ ?_
     rotate_left
     ·simp only [Act.put, s1_, s2_, s3_, i64_w, i32_w]
      rfl
     refine pu_ 5 (some 17) undef (bs_ 6 11) rfl rfl (any_of HT_.out (by kernel_rfl)) (fun _ _ _ h => h) (n_ (by rfl)) ?_ ?_ ?_
     rotate_left
     ·simp only [Act.put, s1_, s2_, s3_, i64_w, i32_w]
      rfl
     refine pu_ 6 (some 18) undef (bs_ 7 10) rfl rfl (any_of HT_.out (by kernel_rfl)) (fun _ _ _ h => h) (n_ (by rfl)) ?_ ?_ ?_
     rotate_left
     ·simp only [Act.put, s1_, s2_, s3_, i64_w, i32_w]
      rfl
     refine pu_ 7 (some 19) ?_ (bs_ 8 9) rfl rfl (any_of HT_.out (by kernel_rfl)) (fun _ _ _ h => h) (y_ (by rfl) ?_) ?_ ?_ ?_
     rotate_left
     ·intro w'
      go_simp
      with_reducible rfl
     rotate_left
     ·simp only [Act.put, s1_, s2_, s3_, i64_w, i32_w]
      rfl
     refine pu_ 8 (some 20) ?_ (bs_ 9 8) rfl rfl (any_of HT_.out (by kernel_rfl)) (fun _ _ _ h => h) (y_ (by rfl) ?_) ?_ ?_ ?_
     rotate_left
     ·intro w'
      go_simp
      with_reducible rfl
     rotate_left
     ·simp only [Act.put, s1_, s2_, s3_, i64_w, i32_w]
      rfl
     refine pu_ 9 (some 21) undef (bs_ 10 7) rfl rfl (any_of HT_.out (by kernel_rfl)) (fun _ _ _ h => h) (n_ (by rfl)) ?_ ?_ ?_
     rotate_left
     ·simp only [Act.put, s1_, s2_, s3_, i64_w, i32_w]
      rfl
     refine pu_ 10 (some 22) undef (bs_ 11 6) rfl rfl (any_of HT_.out (by kernel_rfl)) (fun _ _ _ h => h) (n_ (by rfl)) ?_ ?_ ?_
     rotate_left
     ·simp only [Act.put, s1_, s2_, s3_, i64_w, i32_w]
      rfl
     refine pu_ 11 (some 23) undef (bs_ 12 5) rfl rfl (any_of HT_.out (by kernel_rfl)) (fun _ _ _ h => h) (n_ (by rfl)) ?_ ?_ ?_
     rotate_left
     ·simp only [Act.put, s1_, s2_, s3_, i64_w, i32_w]
      rfl
     refine pu_ 12 (some 24) undef (bs_ 13 4) rfl rfl (any_of HT_.out (by kernel_rfl)) (fun _ _ _ h => h) (n_ (by rfl)) ?_ ?_ ?_
     rotate_left
     ·simp only [Act.put, s1_, s2_, s3_, i64_w, i32_w]
      rfl
     refine pu_ 13 (some 25) undef (bs_ 14 3) rfl rfl (any_of HT_.out (by kernel_rfl)) (fun _ _ _ h => h) (n_ (by rfl)) ?_ ?_ ?_
     rotate_left
     ·simp only [Act.put, s1_, s2_, s3_, i64_w, i32_w]
      rfl
     refine pu_ 14 (some 26) undef (bs_ 15 2) rfl rfl (any_of HT_.out (by kernel_rfl)) (fun _ _ _ h => h) (n_ (by rfl)) ?_ ?_ ?_
     rotate_left
     ·simp only [Act.put, s1_, s2_, s3_, i64_w, i32_w]
      rfl
     refine pu_ 15 (some 27) undef (bs_ 16 1) rfl rfl (any_of HT_.out (by kernel_rfl)) (fun _ _ _ h => h) (n_ (by rfl)) ?_ ?_ ?_
     rotate_left
     ·simp only [Act.put, s1_, s2_, s3_, i64_w, i32_w]
      rfl
     refine pu_ 16 (some 28) ?_ (bs_ 17 0) rfl rfl (any_of HT_.out (by kernel_rfl)) (fun _ _ _ h => h) (y_ (by rfl) ?_) ?_ ?_ ?_
     rotate_left
     ·intro w'
      go_simp
      with_reducible rfl
     rotate_left
     ·simp only [Act.put, s1_, s2_, s3_, i64_w, i32_w]
      rfl
     refine done_ (done_of HT_.out (by kernel_rfl)) ?_
     try go_wp2
     go_meet
     case rel => exact ⟨_, (true), (by first | rfl | (simp; done) | (simp [*]; done)), H', ⟨by first | omega | exact Nat.le_refl _⟩, ⟨by (with_reducible repeat (first | refine blk_drewN ?_ _ | refine blk_drew ?_ | refine blk_alloc ?_ _)); exact BK101.out⟩, ⟨by repeat (first | (with_reducible first | exact HB.out | apply below_alloc | apply pw_below_drewN | apply below_drew1 | refine below_set ?_ GE101.out) | exact HB.out)⟩⟩
    ·rw [if_neg c7] at H
     have c7b0 : decide ((t0.size : Int) < 18) = false := decide_eq_false c7
     have c7b1 : decide (t0.size < 18) = false := decide_eq_false (by omega)
     (try (have c7b2 : decide (((a0.size - a1.toNat : Nat) : Int) < 18) = false := decide_eq_false (by have h_ := c7; simp only [ByteArray.size_extract, Nat.min_self] at h_; omega)))
     (try (have c7b3 : decide ((a0.size - a1.toNat : Nat) < 18) = false := decide_eq_false (by have h_ := c7; simp only [ByteArray.size_extract, Nat.min_self] at h_; omega)))
     (try (have c7b4 : (((a0.size - a1.toNat : Nat) : Int) < 18) = False := eq_false (by have h_ := c7; simp only [ByteArray.size_extract, Nat.min_self] at h_; omega)))
     clear c7
     (first | rw [c7b0] | (simp only [i64_w, i32_w]; rw [c7b0]) | skip)
     by_cases c9 : 0 < (t0.size : Int)
     ·rw [if_pos c9] at H
      have c9b0 : decide (0 < (t0.size : Int)) = true := decide_eq_true c9
      have c9b1 : decide (0 < t0.size) = true := decide_eq_true (by omega)
      (try (have c9b2 : decide (0 < ((a0.size - a1.toNat : Nat) : Int)) = true := decide_eq_true (by have h_ := c9; simp only [ByteArray.size_extract, Nat.min_self] at h_; omega)))
      (try (have c9b3 : decide (0 < (a0.size - a1.toNat : Nat)) = true := decide_eq_true (by have h_ := c9; simp only [ByteArray.size_extract, Nat.min_self] at h_; omega)))
      (try (have c9b4 : (0 < ((a0.size - a1.toNat : Nat) : Int)) = True := eq_true (by have h_ := c9; simp only [ByteArray.size_extract, Nat.min_self] at h_; omega)))
      clear c9
      by_cases c11 : (bt t0 0) = 183
      ·rw [if_pos c11] at H
       have c11b0 : ((bt t0 0) == 183) = true := beq_iff_eq.mpr c11
       have c11b1 : ((bt t0 0) != 183) = false := bne_eq_false_iff_eq.mpr c11
       clear c11
       by_cases c12 : 10 ≤ (t0.size : Int)
       ·rw [if_pos c12] at H
        have c12b0 := eq_true c12
        have c12b1 : decide (10 ≤ (t0.size : Int)) = true := decide_eq_true c12
        clear c12
        replace H := Option.bind_eq_some_iff.mp H
        obtain ⟨t102, A130, H⟩ := H
        replace H : (if 0 ≤ 10 then ((frame_Sum.f (t0.extract 0 10)).bind fun t103 => (frame_read.j0 k t0 a1 (t102 != t103))) else (none)) = some (r1, r2, r3, r4, r5, r6) := H
        have A13 := Aside0.mk A130
        clear A130
        by_cases c14 : 0 ≤ 10
        ·rw [if_pos c14] at H
         have c14b0 := eq_true c14
         have c14b1 : decide (0 ≤ 10) = true := decide_eq_true c14
         clear c14
         have c15b0 := eq_true (of_decide_eq_true (by first | (with_reducible assumption) | assumption) : 10 ≤ (t0.size : Int))
         replace H := Option.bind_eq_some_iff.mp H
         obtain ⟨t103, A160, H⟩ := H
         replace H : (frame_read.j0 k t0 a1 (t102 != t103)) = some (r1, r2, r3, r4, r5, r6) := H
         have A16 := Aside0.mk A160
         clear A160
         have H' := Aside0.mk H
         clear H
         try go_wp2
         have n0_ := Aside0.mk (blk_drew BK101.out)
         have n1_ := Aside0.mk (below_drew1 HB.out)
         clear BK101
         clear HB
         have BK101 := n0_
         have HB := n1_
         clear n0_ n1_
         have p10 : 0 ≤ (0 : Int) := (by omega)
         have q10 : 0 < t0.size := (by have : (0 : Int) < (t0.size : Int) := of_decide_eq_true (by first | (with_reducible assumption) | assumption); omega)
         have hx10 : ∀ h : 0 < t0.size, ((t0[0]'h).toNat : Int) = bt t0 0 := bt_at t0 0
         clear p10
         have qi10 : (0 < (t0.size : Int)) = True := eq_true (of_decide_eq_true (by first | (with_reducible assumption) | assumption))
         replace q10 := eq_true q10
         refine start_ (n := 17) (S := fun w' => True) (ds := []) (bs_ 0 17) (by kernel_rfl) rfl rfl trivial (fun hHeld => ?_); refine with_tabW frame_read.tab2 frame_read.bits2 (fun HT_ HW_ => ?_)
         generalize w6.drew = w17 at BK101 HB hHeld ⊢
         refine pu_ 0 (some 12) ?_ (bs_ 1 16) rfl rfl (any_of HT_.out (by kernel_rfl)) (fun _ _ _ h => h) (y_ (by rfl) ?_) ?_ ?_ ?_
         rotate_left
         ·intro w'
          go_simp
          with_reducible rfl
         rotate_left
         ·simp only [Act.put, s1_, s2_, s3_, i64_w, i32_w]
          rfl
         refine pu_ 1 (some 13) ?_ (bs_ 2 15) rfl rfl (any_of HT_.out (by kernel_rfl)) (fun _ _ _ h => h) (y_ (by rfl) ?_) ?_ ?_ ?_
         rotate_left
         ·intro w'
          go_simp
          with_reducible rfl
         rotate_left
         ·simp only [Act.put, s1_, s2_, s3_, i64_w, i32_w]
          rfl
         refine pu_ 2 (some 14) ?_ (bs_ 3 14) rfl rfl (any_of HT_.out (by kernel_rfl)) (fun _ _ _ h => h) (y_ (by rfl) ?_) ?_ ?_ ?_
         rotate_left
         ·intro w'
          go_simp
          with_reducible rfl
         rotate_left
         ·simp only [Act.put, s1_, s2_, s3_, i64_w, i32_w]
          rfl
         refine pu_ 3 (some 15) ?_ (bs_ 4 13) rfl rfl (any_of HT_.out (by kernel_rfl)) (fun _ _ _ h => h) (y_ (by rfl) ?_) ?_ ?_ ?_
         rotate_left
         ·intro w'
          go_simp
          with_reducible rfl
         rotate_left
         ·simp only [Act.put, s1_, s2_, s3_, i64_w, i32_w]
          rfl
         refine pu_ 4 (some 16) ?_ (bs_ 5 12) rfl rfl (any_of HT_.out (by kernel_rfl)) (fun _ _ _ h => h) (y_ (by rfl) ?_) ?_ ?_ ?_
         rotate_left
         ·intro w'
          go_simp
          with_reducible rfl
         rotate_left
         ·simp only [Act.put, s1_, s2_, s3_, i64_w, i32_w]
          rfl
         refine take_ (i := 5) (N := some 17) (v := ?_) (a' := ?_) (bs_ 6 11) rfl rfl (take_ofW HT_.out HW_.out (by kernel_rfl)) (fun _ _ _ h => h) (Or.inl ⟨by rfl, ?_⟩) hHeld ?_ ?_
         rotate_left
         ·intro w' _
          go_simp
          with_reducible rfl
         rotate_left
         ·simp only [Act.put, s1_, s2_, s3_, i64_w, i32_w]
          rfl
         refine pu_ 6 (some 18) ?_ (bs_ 7 10) rfl rfl (any_of HT_.out (by kernel_rfl)) (fun _ _ _ h => h) (y_ (by rfl) ?_) ?_ ?_ ?_
         rotate_left
         ·intro w'
          go_simp
          with_reducible rfl
         rotate_left
         ·simp only [Act.put, s1_, s2_, s3_, i64_w, i32_w]
          rfl
         refine pu_ 7 (some 19) ?_ (bs_ 8 9) rfl rfl (any_of HT_.out (by kernel_rfl)) (fun _ _ _ h => h) (y_ (by rfl) ?_) ?_ ?_ ?_
         rotate_left
         ·intro w'
          go_simp
          with_reducible rfl
         rotate_left
         ·simp only [Act.put, s1_, s2_, s3_, i64_w, i32_w]
          rfl
         refine pu_ 8 (some 20) ?_ (bs_ 9 8) rfl rfl (any_of HT_.out (by kernel_rfl)) (fun _ _ _ h => h) (y_ (by rfl) ?_) ?_ ?_ ?_
         rotate_left
         ·intro w'
          go_simp
          with_reducible rfl
         rotate_left
         ·simp only [Act.put, s1_, s2_, s3_, i64_w, i32_w]
          rfl
         refine pu_ 9 (some 21) ?_ (bs_ 10 7) rfl rfl (any_of HT_.out (by kernel_rfl)) (fun _ _ _ h => h) (y_ (by rfl) ?_) ?_ ?_ ?_
         rotate_left
         ·intro w'
          go_simp
          with_reducible rfl
         rotate_left
         ·simp only [Act.put, s1_, s2_, s3_, i64_w, i32_w]
          rfl
         refine pu_ 10 (some 22) ?_ (bs_ 11 6) rfl rfl (any_of HT_.out (by kernel_rfl)) (fun _ _ _ h => h) (y_ (by rfl) ?_) ?_ ?_ ?_
         rotate_left
         ·intro w'
          go_simp
          with_reducible rfl
         rotate_left
         ·simp only [Act.put, s1_, s2_, s3_, i64_w, i32_w]
          rfl
         refine pu_ 12 (some 24) ?_ #[true, true, true, true, true, true, true, true, true, true, true, false, true, false, false, false, false] rfl rfl (any_of HT_.out (by kernel_rfl)) (fun _ _ _ h => h) (y_ (by rfl) ?_) ?_ ?_ ?_
         rotate_left
         ·intro w'
          go_simp
          with_reducible rfl
         rotate_left
         ·simp only [Act.put, s1_, s2_, s3_, i64_w, i32_w]
          rfl
         refine pu_ 13 (some 25) ?_ #[true, true, true, true, true, true, true, true, true, true, true, false, true, true, false, false, false] rfl rfl (any_of HT_.out (by kernel_rfl)) (fun _ _ _ h => h) (y_ (by rfl) ?_) ?_ ?_ ?_
         rotate_left
         ·intro w'
          go_simp
          with_reducible rfl
         rotate_left
         ·simp only [Act.put, s1_, s2_, s3_, i64_w, i32_w]
          rfl
         refine one_ (i := 11) (N := some 23) (bs_ 14 3) rfl rfl (one_of HT_.out (by kernel_rfl)) (by decide) (fun K hK => ?_)
         refine goes_ Try.func41 (by kernel_rfl) rfl #[.string (t0.extract 10 t0.size)] (by rfl) rfl rfl (by (try simp only [List.map_toArray, List.map_cons, List.map_nil]); first | done | rfl | (simp only [List.length_drop, List.length_take]; rfl)) ?_
         with_reducible refine (frame_number.calls (t0.extract 10 t0.size) t102 _ A13.out).mono ?_
         rintro e w' ⟨rfl, ⟨nd, rfl⟩⟩
         refine ⟨_, rfl, ?_⟩
         refine hK.out _ _ trivial (fun hHeld => ?_)
         clear hK K
         refine norm_ (a' := ?_) ?_ ?_
         rotate_left
         ·show Act.put _ (some 23) _ = _
          simp only [Act.put, s1_, s2_, s3_, i64_w, i32_w]
          rfl
         refine one_ (i := 14) (N := some 26) (bs_ 15 2) rfl rfl (one_of HT_.out (by kernel_rfl)) (by decide) (fun K hK => ?_)
         refine goes_ Try.func12 (by kernel_rfl) rfl #[.string (t0.extract 0 10)] (by rfl) rfl rfl (by (try simp only [List.map_toArray, List.map_cons, List.map_nil]); first | done | rfl | (simp only [List.length_drop, List.length_take]; rfl)) ?_
         with_reducible refine (frame_Sum.calls (t0.extract 0 10) t103 _ A16.out).mono ?_
         rintro e w18 ⟨rfl, hb⟩
         refine ⟨_, rfl, ?_⟩
         have n0_ := Aside0.mk (blk_below (g := gb101) (o := .cells #[.int .i64 0, .int .i64 0, .int .i64 0, .string (⟨#[]⟩ : ByteArray)] 49 (0, 0)) (by (with_reducible repeat (first | refine blk_drewN ?_ _ | refine blk_drew ?_ | refine blk_alloc ?_ _)); exact BK101.out) hb)
         have n1_ := Aside0.mk (below_step (by repeat (first | (with_reducible first | exact HB.out | apply below_alloc | apply pw_below_drewN | apply below_drew1 | refine below_set ?_ GE101.out) | exact HB.out)) hb)
         clear BK101
         clear HB
         have BK101 := n0_
         have HB := n1_
         clear n0_ n1_
         (try clear hb)
         (try clear hb2)
         (try clear hk)
         (try clear hi)
         refine hK.out _ _ trivial (fun hHeld => ?_)
         clear hK K
         refine norm_ (a' := ?_) ?_ ?_
         rotate_left
         ·show Act.put _ (some 26) _ = _
          simp only [Act.put, s1_, s2_, s3_, i64_w, i32_w]
          rfl
         refine pu_ 15 (some 27) ?_ (bs_ 16 1) rfl rfl (any_of HT_.out (by kernel_rfl)) (fun _ _ _ h => h) (y_ (by rfl) ?_) ?_ ?_ ?_
         rotate_left
         ·intro w'
          go_simp
          with_reducible rfl
         rotate_left
         ·simp only [Act.put, s1_, s2_, s3_, i64_w, i32_w]
          rfl
         refine pu_ 16 (some 28) ?_ (bs_ 17 0) rfl rfl (any_of HT_.out (by kernel_rfl)) (fun _ _ _ h => h) (y_ (by rfl) ?_) ?_ ?_ ?_
         rotate_left
         ·intro w'
          go_simp
          with_reducible rfl
         rotate_left
         ·simp only [Act.put, s1_, s2_, s3_, i64_w, i32_w]
          rfl
         refine done_ (done_of HT_.out (by kernel_rfl)) ?_
         try go_wp2
         go_meet
         case rel => exact ⟨_, ((t102 != t103)), (by first | rfl | (simp; done) | (simp [*]; done)), H', ⟨by first | omega | exact Nat.le_refl _⟩, ⟨by (with_reducible repeat (first | refine blk_drewN ?_ _ | refine blk_drew ?_ | refine blk_alloc ?_ _)); exact BK101.out⟩, ⟨by repeat (first | (with_reducible first | exact HB.out | apply below_alloc | apply pw_below_drewN | apply below_drew1 | refine below_set ?_ GE101.out) | exact HB.out)⟩⟩
        ·rw [if_neg c14] at H
         exact absurd H (by simp)
       ·rw [if_neg c12] at H
        exact absurd H (by simp)
      ·rw [if_neg c11] at H
       have c11b0 : ((bt t0 0) == 183) = false := beq_eq_false_iff_ne.mpr c11
       have c11b1 : ((bt t0 0) != 183) = true := bne_iff_ne.mpr c11
       have H' := Aside0.mk H
       clear H
       try go_wp2
       have n0_ := Aside0.mk (blk_drew BK101.out)
       have n1_ := Aside0.mk (below_drew1 HB.out)
       clear BK101
       clear HB
       have BK101 := n0_
       have HB := n1_
       clear n0_ n1_
       have p10 : 0 ≤ (0 : Int) := (by omega)
       have q10 : 0 < t0.size := (by have : (0 : Int) < (t0.size : Int) := of_decide_eq_true (by first | (with_reducible assumption) | assumption); omega)
       have hx10 : ∀ h : 0 < t0.size, ((t0[0]'h).toNat : Int) = bt t0 0 := bt_at t0 0
       clear p10
       have qi10 : (0 < (t0.size : Int)) = True := eq_true (of_decide_eq_true (by first | (with_reducible assumption) | assumption))
       replace q10 := eq_true q10
       refine start_ (n := 17) (S := fun w' => True) (ds := []) (bs_ 0 17) (by kernel_rfl) rfl rfl trivial (fun hHeld => ?_); refine with_tabW frame_read.tab2 frame_read.bits2 (fun HT_ HW_ => ?_)
       generalize w6.drew = w19 at BK101 HB hHeld ⊢
       refine pu_ 0 (some 12) ?_ (bs_ 1 16) rfl rfl (any_of HT_.out (by kernel_rfl)) (fun _ _ _ h => h) (y_ (by rfl) ?_) ?_ ?_ ?_
       rotate_left
       ·intro w'
        go_simp
        with_reducible rfl
       rotate_left
       ·simp only [Act.put, s1_, s2_, s3_, i64_w, i32_w]
        rfl
       refine pu_ 1 (some 13) ?_ (bs_ 2 15) rfl rfl (any_of HT_.out (by kernel_rfl)) (fun _ _ _ h => h) (y_ (by rfl) ?_) ?_ ?_ ?_
       rotate_left
       ·intro w'
        go_simp
        with_reducible rfl
       rotate_left
       ·simp only [Act.put, s1_, s2_, s3_, i64_w, i32_w]
        rfl
       refine pu_ 2 (some 14) ?_ (bs_ 3 14) rfl rfl (any_of HT_.out (by kernel_rfl)) (fun _ _ _ h => h) (y_ (by rfl) ?_) ?_ ?_ ?_
       rotate_left
       ·intro w'
        go_simp
        with_reducible rfl
       rotate_left
       ·simp only [Act.put, s1_, s2_, s3_, i64_w, i32_w]
        rfl
       refine pu_ 3 (some 15) ?_ (bs_ 4 13) rfl rfl (any_of HT_.out (by kernel_rfl)) (fun _ _ _ h => h) (y_ (by rfl) ?_) ?_ ?_ ?_
       rotate_left
       ·intro w'
        go_simp
        with_reducible rfl
       rotate_left
       ·simp only [Act.put, s1_, s2_, s3_, i64_w, i32_w]
        rfl
       refine pu_ 4 (some 16) ?_ (bs_ 5 12) rfl rfl (any_of HT_.out (by kernel_rfl)) (fun _ _ _ h => h) (y_ (by rfl) ?_) ?_ ?_ ?_
       rotate_left
       ·intro w'
        go_simp
        with_reducible rfl
       rotate_left
       ·simp only [Act.put, s1_, s2_, s3_, i64_w, i32_w]
        rfl
       refine take_ (i := 5) (N := some 17) (v := ?_) (a' := ?_) (bs_ 6 11) rfl rfl (take_ofW HT_.out HW_.out (by kernel_rfl)) (fun _ _ _ h => h) (Or.inl ⟨by rfl, ?_⟩) hHeld ?_ ?_
       rotate_left
       ·intro w' _
        go_simp
        with_reducible rfl
       rotate_left
       ·simp only [Act.put, s1_, s2_, s3_, i64_w, i32_w]
        rfl
       refine pu_ 6 (some 18) ?_ (bs_ 7 10) rfl rfl (any_of HT_.out (by kernel_rfl)) (fun _ _ _ h => h) (y_ (by rfl) ?_) ?_ ?_ ?_
       rotate_left
       ·intro w'
        go_simp
        with_reducible rfl
       rotate_left
       ·simp only [Act.put, s1_, s2_, s3_, i64_w, i32_w]
        rfl
       refine pu_ 7 (some 19) ?_ (bs_ 8 9) rfl rfl (any_of HT_.out (by kernel_rfl)) (fun _ _ _ h => h) (y_ (by rfl) ?_) ?_ ?_ ?_
       rotate_left
       ·intro w'
        go_simp
        with_reducible rfl
       rotate_left
       ·simp only [Act.put, s1_, s2_, s3_, i64_w, i32_w]
        rfl
       refine pu_ 8 (some 20) ?_ (bs_ 9 8) rfl rfl (any_of HT_.out (by kernel_rfl)) (fun _ _ _ h => h) (y_ (by rfl) ?_) ?_ ?_ ?_
       rotate_left
       ·intro w'
        go_simp
        with_reducible rfl
       rotate_left
       ·simp only [Act.put, s1_, s2_, s3_, i64_w, i32_w]
        rfl
       refine pu_ 9 (some 21) undef (bs_ 10 7) rfl rfl (any_of HT_.out (by kernel_rfl)) (fun _ _ _ h => h) (n_ (by rfl)) ?_ ?_ ?_
       rotate_left
       ·simp only [Act.put, s1_, s2_, s3_, i64_w, i32_w]
        rfl
       refine pu_ 10 (some 22) undef (bs_ 11 6) rfl rfl (any_of HT_.out (by kernel_rfl)) (fun _ _ _ h => h) (n_ (by rfl)) ?_ ?_ ?_
       rotate_left
       ·simp only [Act.put, s1_, s2_, s3_, i64_w, i32_w]
        rfl
       refine pu_ 11 (some 23) undef (bs_ 12 5) rfl rfl (any_of HT_.out (by kernel_rfl)) (fun _ _ _ h => h) (n_ (by rfl)) ?_ ?_ ?_
       rotate_left
       ·simp only [Act.put, s1_, s2_, s3_, i64_w, i32_w]
        rfl
       refine pu_ 12 (some 24) undef (bs_ 13 4) rfl rfl (any_of HT_.out (by kernel_rfl)) (fun _ _ _ h => h) (n_ (by rfl)) ?_ ?_ ?_
       rotate_left
       ·simp only [Act.put, s1_, s2_, s3_, i64_w, i32_w]
        rfl
       refine pu_ 13 (some 25) undef (bs_ 14 3) rfl rfl (any_of HT_.out (by kernel_rfl)) (fun _ _ _ h => h) (n_ (by rfl)) ?_ ?_ ?_
       rotate_left
       ·simp only [Act.put, s1_, s2_, s3_, i64_w, i32_w]
        rfl
       refine pu_ 14 (some 26) undef (bs_ 15 2) rfl rfl (any_of HT_.out (by kernel_rfl)) (fun _ _ _ h => h) (n_ (by rfl)) ?_ ?_ ?_
       rotate_left
       ·simp only [Act.put, s1_, s2_, s3_, i64_w, i32_w]
        rfl
       refine pu_ 15 (some 27) undef (bs_ 16 1) rfl rfl (any_of HT_.out (by kernel_rfl)) (fun _ _ _ h => h) (n_ (by rfl)) ?_ ?_ ?_
       rotate_left
       ·simp only [Act.put, s1_, s2_, s3_, i64_w, i32_w]
        rfl
       refine pu_ 16 (some 28) ?_ (bs_ 17 0) rfl rfl (any_of HT_.out (by kernel_rfl)) (fun _ _ _ h => h) (y_ (by rfl) ?_) ?_ ?_ ?_
       rotate_left
       ·intro w'
        go_simp
        with_reducible rfl
       rotate_left
       ·simp only [Act.put, s1_, s2_, s3_, i64_w, i32_w]
        rfl
       refine done_ (done_of HT_.out (by kernel_rfl)) ?_
       try go_wp2
       go_meet
       case rel => exact ⟨_, (true), (by first | rfl | (simp; done) | (simp [*]; done)), H', ⟨by first | omega | exact Nat.le_refl _⟩, ⟨by (with_reducible repeat (first | refine blk_drewN ?_ _ | refine blk_drew ?_ | refine blk_alloc ?_ _)); exact BK101.out⟩, ⟨by repeat (first | (with_reducible first | exact HB.out | apply below_alloc | apply pw_below_drewN | apply below_drew1 | refine below_set ?_ GE101.out) | exact HB.out)⟩⟩
     ·rw [if_neg c9] at H
      exact absurd H (by simp)
   case rest =>
    clear HC5
    try clear c1
    try clear p1
    try clear q1
    try clear hx1
    try clear qi1
    try clear p2
    try clear c3
    try clear c3b0
    try clear c3b1
    try clear c4
    try clear c4b0
    try clear c4b1
    try clear c7
    try clear c7b0
    try clear c7b1
    try clear c7b2
    try clear c9
    try clear c9b0
    try clear c9b1
    try clear c9b2
    try clear p10
    try clear q10
    try clear hx10
    try clear qi10
    try clear c11
    try clear c11b0
    try clear c11b1
    try clear c12
    try clear c12b0
    try clear c12b1
    try clear c14
    try clear c14b0
    try clear c14b1
    try clear c15
    try clear c15b0
    try clear p10
    try clear q10
    obtain ⟨kq, x28_4, rfl, HA, HJ4, BK101, HB⟩ := hcut
    cases kq with
    | zero => exact absurd HA.out (by simp [frame_read.j0])
    | succ kj4 =>
     have H := HA.out
     clear HA
     simp only [frame_read.j0] at H
     by_cases c20 : x28_4 = true
     ·subst c20
      have H1 : (some (0, 0, 0, (⟨#[]⟩ : ByteArray), 0, false)) = some (r1, r2, r3, r4, r5, r6) := by rw [if_pos rfl] at H; exact H
      clear H
      have H := H1
      clear H1
      simp only [Option.some.injEq, Prod.mk.injEq] at H
      obtain ⟨rfl, rfl, rfl, rfl, rfl, rfl⟩ := H
      have hcz21_0 : wc.cell? ⟨gb101, 0, none⟩ = some (.int .i64 0) := (blk_cell BK101.out 0).trans rfl
      have hcz21_1 : wc.cell? ⟨gb101, 1, none⟩ = some (.int .i64 0) := (blk_cell BK101.out 1).trans rfl
      have hcz21_2 : wc.cell? ⟨gb101, 2, none⟩ = some (.int .i64 0) := (blk_cell BK101.out 2).trans rfl
      have hcz21_3 : wc.cell? ⟨gb101, 3, none⟩ = some (.string (⟨#[]⟩ : ByteArray)) := (blk_cell BK101.out 3).trans rfl
      have hfz21_0 := blk_frozen BK101.out 0
      have hfz21_1 := blk_frozen BK101.out 1
      have hfz21_2 := blk_frozen BK101.out 2
      have hfz21_3 := blk_frozen BK101.out 3
      go_wp2
      refine bodyPost_ret (results_ctt rfl _ _ gb101 49 #[.int .i64 0, .int .i64 0, .int .i64 0, .string (⟨#[]⟩ : ByteArray)] (0, 0) _ rfl (by (with_reducible repeat (first | refine blk_drewN ?_ _ | refine blk_drew ?_ | refine blk_alloc ?_ _)); refine blk_put (cs := #[.int .i64 0, .int .i64 0, .int .i64 0, .string (⟨#[]⟩ : ByteArray)]) ?_ 3 _ rfl; (with_reducible repeat (first | refine blk_drewN ?_ _ | refine blk_drew ?_ | refine blk_alloc ?_ _)); refine blk_put (cs := #[.int .i64 0, .int .i64 0, .int .i64 0, .string (⟨#[]⟩ : ByteArray)]) ?_ 2 _ rfl; (with_reducible repeat (first | refine blk_drewN ?_ _ | refine blk_drew ?_ | refine blk_alloc ?_ _)); refine blk_put (cs := #[.int .i64 0, .int .i64 0, .int .i64 0, .string (⟨#[]⟩ : ByteArray)]) ?_ 1 _ rfl; (with_reducible repeat (first | refine blk_drewN ?_ _ | refine blk_drew ?_ | refine blk_alloc ?_ _)); refine blk_put (cs := #[.int .i64 0, .int .i64 0, .int .i64 0, .string (⟨#[]⟩ : ByteArray)]) ?_ 0 _ rfl; (with_reducible repeat (first | refine blk_drewN ?_ _ | refine blk_drew ?_ | refine blk_alloc ?_ _)); exact BK101.out) Try.underlying49 rfl (by kernel_rfl)) rfl ?_
      exact ⟨by first | rfl | (simp [errW_none, errW_some] <;> rfl) | (simp [*, errW_none, errW_some] <;> rfl), by repeat (first | (with_reducible first | exact HB.out | apply below_alloc | apply pw_below_drewN | apply below_drew1 | refine below_set ?_ GE101.out) | exact HB.out)⟩
     ·replace c20 := Bool.eq_false_iff.mpr c20
      subst c20
      have H1 : (if 1 < (t0.size : Int) then (if 2 ≤ (t0.size : Int) then ((frame_number.f (t0.extract 2 t0.size)).bind fun t104 => (if 6 ≤ (t0.size : Int) then ((frame_number.f (t0.extract 6 t0.size)).bind fun t106 => ((frame_isKind.f (wrap64 (bt t0 1))).bind fun t107 => (if t107 = true then ((frame_isNumber.f t104).bind fun t108 => (if t108 = true then (if (wrap64 ((wrap64 (14 + t106)) - 14)) > 2097152 then (some (0, 0, 0, (⟨#[]⟩ : ByteArray), 0, false)) else (if (t0.size : Int) < (wrap64 ((wrap64 (14 + t106)) + 4)) then (some (0, 0, 0, (⟨#[]⟩ : ByteArray), 0, false)) else (if 0 ≤ (wrap64 (14 + t106)) then (if (wrap64 (14 + t106)) ≤ (t0.size : Int) then ((frame_number.f (t0.extract ((wrap64 (14 + t106)) : Int).toNat t0.size)).bind fun t109 => ((frame_Sum.f (t0.extract 0 ((wrap64 (14 + t106)) : Int).toNat)).bind fun t110 => (if t109 = t110 then (if 14 ≤ (wrap64 (14 + t106)) then (some (wrap64 (bt t0 1), t104, a1, t0.extract 14 ((wrap64 (14 + t106)) : Int).toNat, wrap64 ((wrap64 (a1 + (wrap64 (14 + t106)))) + 4), true)) else (none)) else (some (0, 0, 0, (⟨#[]⟩ : ByteArray), 0, false))))) else (none)) else (none)))) else (some (0, 0, 0, (⟨#[]⟩ : ByteArray), 0, false)))) else (some (0, 0, 0, (⟨#[]⟩ : ByteArray), 0, false))))) else (none))) else (none)) else (none)) = some (r1, r2, r3, r4, r5, r6) := by rw [if_neg (show ¬ (false = true) by decide)] at H; exact H
      clear H
      have H := H1
      clear H1
      by_cases c22 : 1 < (t0.size : Int)
      ·rw [if_pos c22] at H
       have c22b0 : decide (1 < (t0.size : Int)) = true := decide_eq_true c22
       have c22b1 : decide (1 < t0.size) = true := decide_eq_true (by omega)
       (try (have c22b2 : decide (1 < ((a0.size - a1.toNat : Nat) : Int)) = true := decide_eq_true (by have h_ := c22; simp only [ByteArray.size_extract, Nat.min_self] at h_; omega)))
       (try (have c22b3 : decide (1 < (a0.size - a1.toNat : Nat)) = true := decide_eq_true (by have h_ := c22; simp only [ByteArray.size_extract, Nat.min_self] at h_; omega)))
       (try (have c22b4 : (1 < ((a0.size - a1.toNat : Nat) : Int)) = True := eq_true (by have h_ := c22; simp only [ByteArray.size_extract, Nat.min_self] at h_; omega)))
       clear c22
       by_cases c24 : 2 ≤ (t0.size : Int)
       ·rw [if_pos c24] at H
        have c24b0 := eq_true c24
        have c24b1 : decide (2 ≤ (t0.size : Int)) = true := decide_eq_true c24
        clear c24
        replace H := Option.bind_eq_some_iff.mp H
        obtain ⟨t104, A250, H⟩ := H
        replace H : (if 6 ≤ (t0.size : Int) then ((frame_number.f (t0.extract 6 t0.size)).bind fun t106 => ((frame_isKind.f (wrap64 (bt t0 1))).bind fun t107 => (if t107 = true then ((frame_isNumber.f t104).bind fun t108 => (if t108 = true then (if (wrap64 ((wrap64 (14 + t106)) - 14)) > 2097152 then (some (0, 0, 0, (⟨#[]⟩ : ByteArray), 0, false)) else (if (t0.size : Int) < (wrap64 ((wrap64 (14 + t106)) + 4)) then (some (0, 0, 0, (⟨#[]⟩ : ByteArray), 0, false)) else (if 0 ≤ (wrap64 (14 + t106)) then (if (wrap64 (14 + t106)) ≤ (t0.size : Int) then ((frame_number.f (t0.extract ((wrap64 (14 + t106)) : Int).toNat t0.size)).bind fun t109 => ((frame_Sum.f (t0.extract 0 ((wrap64 (14 + t106)) : Int).toNat)).bind fun t110 => (if t109 = t110 then (if 14 ≤ (wrap64 (14 + t106)) then (some (wrap64 (bt t0 1), t104, a1, t0.extract 14 ((wrap64 (14 + t106)) : Int).toNat, wrap64 ((wrap64 (a1 + (wrap64 (14 + t106)))) + 4), true)) else (none)) else (some (0, 0, 0, (⟨#[]⟩ : ByteArray), 0, false))))) else (none)) else (none)))) else (some (0, 0, 0, (⟨#[]⟩ : ByteArray), 0, false)))) else (some (0, 0, 0, (⟨#[]⟩ : ByteArray), 0, false))))) else (none)) = some (r1, r2, r3, r4, r5, r6) := H
        have A25 := Aside0.mk A250
        clear A250
        by_cases c26 : 6 ≤ (t0.size : Int)
        ·rw [if_pos c26] at H
         have c26b0 := eq_true c26
         have c26b1 : decide (6 ≤ (t0.size : Int)) = true := decide_eq_true c26
         clear c26
         replace H := Option.bind_eq_some_iff.mp H
         obtain ⟨t106, A270, H⟩ := H
         replace H : ((frame_isKind.f (wrap64 (bt t0 1))).bind fun t107 => (if t107 = true then ((frame_isNumber.f t104).bind fun t108 => (if t108 = true then (if (wrap64 ((wrap64 (14 + t106)) - 14)) > 2097152 then (some (0, 0, 0, (⟨#[]⟩ : ByteArray), 0, false)) else (if (t0.size : Int) < (wrap64 ((wrap64 (14 + t106)) + 4)) then (some (0, 0, 0, (⟨#[]⟩ : ByteArray), 0, false)) else (if 0 ≤ (wrap64 (14 + t106)) then (if (wrap64 (14 + t106)) ≤ (t0.size : Int) then ((frame_number.f (t0.extract ((wrap64 (14 + t106)) : Int).toNat t0.size)).bind fun t109 => ((frame_Sum.f (t0.extract 0 ((wrap64 (14 + t106)) : Int).toNat)).bind fun t110 => (if t109 = t110 then (if 14 ≤ (wrap64 (14 + t106)) then (some (wrap64 (bt t0 1), t104, a1, t0.extract 14 ((wrap64 (14 + t106)) : Int).toNat, wrap64 ((wrap64 (a1 + (wrap64 (14 + t106)))) + 4), true)) else (none)) else (some (0, 0, 0, (⟨#[]⟩ : ByteArray), 0, false))))) else (none)) else (none)))) else (some (0, 0, 0, (⟨#[]⟩ : ByteArray), 0, false)))) else (some (0, 0, 0, (⟨#[]⟩ : ByteArray), 0, false)))) = some (r1, r2, r3, r4, r5, r6) := H
         have A27 := Aside0.mk A270
         clear A270
         replace H := Option.bind_eq_some_iff.mp H
         obtain ⟨t107, A280, H⟩ := H
         replace H : (if t107 = true then ((frame_isNumber.f t104).bind fun t108 => (if t108 = true then (if (wrap64 ((wrap64 (14 + t106)) - 14)) > 2097152 then (some (0, 0, 0, (⟨#[]⟩ : ByteArray), 0, false)) else (if (t0.size : Int) < (wrap64 ((wrap64 (14 + t106)) + 4)) then (some (0, 0, 0, (⟨#[]⟩ : ByteArray), 0, false)) else (if 0 ≤ (wrap64 (14 + t106)) then (if (wrap64 (14 + t106)) ≤ (t0.size : Int) then ((frame_number.f (t0.extract ((wrap64 (14 + t106)) : Int).toNat t0.size)).bind fun t109 => ((frame_Sum.f (t0.extract 0 ((wrap64 (14 + t106)) : Int).toNat)).bind fun t110 => (if t109 = t110 then (if 14 ≤ (wrap64 (14 + t106)) then (some (wrap64 (bt t0 1), t104, a1, t0.extract 14 ((wrap64 (14 + t106)) : Int).toNat, wrap64 ((wrap64 (a1 + (wrap64 (14 + t106)))) + 4), true)) else (none)) else (some (0, 0, 0, (⟨#[]⟩ : ByteArray), 0, false))))) else (none)) else (none)))) else (some (0, 0, 0, (⟨#[]⟩ : ByteArray), 0, false)))) else (some (0, 0, 0, (⟨#[]⟩ : ByteArray), 0, false))) = some (r1, r2, r3, r4, r5, r6) := H
         have A28 := Aside0.mk A280
         clear A280
         by_cases c29 : t107 = true
         ·subst c29
          have H1 : ((frame_isNumber.f t104).bind fun t108 => (if t108 = true then (if (wrap64 ((wrap64 (14 + t106)) - 14)) > 2097152 then (some (0, 0, 0, (⟨#[]⟩ : ByteArray), 0, false)) else (if (t0.size : Int) < (wrap64 ((wrap64 (14 + t106)) + 4)) then (some (0, 0, 0, (⟨#[]⟩ : ByteArray), 0, false)) else (if 0 ≤ (wrap64 (14 + t106)) then (if (wrap64 (14 + t106)) ≤ (t0.size : Int) then ((frame_number.f (t0.extract ((wrap64 (14 + t106)) : Int).toNat t0.size)).bind fun t109 => ((frame_Sum.f (t0.extract 0 ((wrap64 (14 + t106)) : Int).toNat)).bind fun t110 => (if t109 = t110 then (if 14 ≤ (wrap64 (14 + t106)) then (some (wrap64 (bt t0 1), t104, a1, t0.extract 14 ((wrap64 (14 + t106)) : Int).toNat, wrap64 ((wrap64 (a1 + (wrap64 (14 + t106)))) + 4), true)) else (none)) else (some (0, 0, 0, (⟨#[]⟩ : ByteArray), 0, false))))) else (none)) else (none)))) else (some (0, 0, 0, (⟨#[]⟩ : ByteArray), 0, false)))) = some (r1, r2, r3, r4, r5, r6) := by rw [if_pos rfl] at H; exact H
          clear H
          have H := H1
          clear H1
          replace H := Option.bind_eq_some_iff.mp H
          obtain ⟨t108, A300, H⟩ := H
          replace H : (if t108 = true then (if (wrap64 ((wrap64 (14 + t106)) - 14)) > 2097152 then (some (0, 0, 0, (⟨#[]⟩ : ByteArray), 0, false)) else (if (t0.size : Int) < (wrap64 ((wrap64 (14 + t106)) + 4)) then (some (0, 0, 0, (⟨#[]⟩ : ByteArray), 0, false)) else (if 0 ≤ (wrap64 (14 + t106)) then (if (wrap64 (14 + t106)) ≤ (t0.size : Int) then ((frame_number.f (t0.extract ((wrap64 (14 + t106)) : Int).toNat t0.size)).bind fun t109 => ((frame_Sum.f (t0.extract 0 ((wrap64 (14 + t106)) : Int).toNat)).bind fun t110 => (if t109 = t110 then (if 14 ≤ (wrap64 (14 + t106)) then (some (wrap64 (bt t0 1), t104, a1, t0.extract 14 ((wrap64 (14 + t106)) : Int).toNat, wrap64 ((wrap64 (a1 + (wrap64 (14 + t106)))) + 4), true)) else (none)) else (some (0, 0, 0, (⟨#[]⟩ : ByteArray), 0, false))))) else (none)) else (none)))) else (some (0, 0, 0, (⟨#[]⟩ : ByteArray), 0, false))) = some (r1, r2, r3, r4, r5, r6) := H
          have A30 := Aside0.mk A300
          clear A300
          by_cases c31 : t108 = true
          ·subst c31
           have H1 : (if (wrap64 ((wrap64 (14 + t106)) - 14)) > 2097152 then (some (0, 0, 0, (⟨#[]⟩ : ByteArray), 0, false)) else (if (t0.size : Int) < (wrap64 ((wrap64 (14 + t106)) + 4)) then (some (0, 0, 0, (⟨#[]⟩ : ByteArray), 0, false)) else (if 0 ≤ (wrap64 (14 + t106)) then (if (wrap64 (14 + t106)) ≤ (t0.size : Int) then ((frame_number.f (t0.extract ((wrap64 (14 + t106)) : Int).toNat t0.size)).bind fun t109 => ((frame_Sum.f (t0.extract 0 ((wrap64 (14 + t106)) : Int).toNat)).bind fun t110 => (if t109 = t110 then (if 14 ≤ (wrap64 (14 + t106)) then (some (wrap64 (bt t0 1), t104, a1, t0.extract 14 ((wrap64 (14 + t106)) : Int).toNat, wrap64 ((wrap64 (a1 + (wrap64 (14 + t106)))) + 4), true)) else (none)) else (some (0, 0, 0, (⟨#[]⟩ : ByteArray), 0, false))))) else (none)) else (none)))) = some (r1, r2, r3, r4, r5, r6) := by rw [if_pos rfl] at H; exact H
           clear H
           have H := H1
           clear H1
           by_cases c32 : (wrap64 ((wrap64 (14 + t106)) - 14)) > 2097152
           ·rw [if_pos c32] at H
            have c32b0 : decide (2097152 < (wrap64 ((wrap64 (14 + t106)) - 14))) = true := decide_eq_true c32
            clear c32
            simp only [Option.some.injEq, Prod.mk.injEq] at H
            obtain ⟨rfl, rfl, rfl, rfl, rfl, rfl⟩ := H
            try go_wp2
            have n0_ := Aside0.mk (blk_drew BK101.out)
            have n1_ := Aside0.mk (below_drew1 HB.out)
            clear BK101
            clear HB
            have BK101 := n0_
            have HB := n1_
            clear n0_ n1_
            have p23 : 0 ≤ (1 : Int) := (by omega)
            have q23 : 1 < t0.size := (by have : (1 : Int) < (t0.size : Int) := of_decide_eq_true (by first | (with_reducible assumption) | assumption); omega)
            have hx23 : ∀ h : 1 < t0.size, ((t0[1]'h).toNat : Int) = bt t0 1 := bt_at t0 1
            clear p23
            have qi23 : (1 < (t0.size : Int)) = True := eq_true (of_decide_eq_true (by first | (with_reducible assumption) | assumption))
            replace q23 := eq_true q23
            refine start_ (n := 10) (S := fun w' => True) (ds := []) (bs_ 0 10) (by kernel_rfl) rfl rfl trivial (fun hHeld => ?_); refine with_tabW frame_read.tab4 frame_read.bits4 (fun HT_ HW_ => ?_)
            generalize wc.drew = w33 at BK101 HB hHeld ⊢
            refine pu_ 0 (some 30) ?_ (bs_ 1 9) rfl rfl (any_of HT_.out (by kernel_rfl)) (fun _ _ _ h => h) (y_ (by rfl) ?_) ?_ ?_ ?_
            rotate_left
            ·intro w'
             go_simp
             with_reducible rfl
            rotate_left
            ·simp only [Act.put, s1_, s2_, s3_, i64_w, i32_w]
             rfl
            refine pu_ 3 (some 33) ?_ #[true, false, false, true, false, false, false, false, false, false] rfl rfl (any_of HT_.out (by kernel_rfl)) (fun _ _ _ h => h) (y_ (by rfl) ?_) ?_ ?_ ?_
            rotate_left
            ·intro w'
             go_simp
             with_reducible rfl
            rotate_left
            ·simp only [Act.put, s1_, s2_, s3_, i64_w, i32_w]
             rfl
            refine pu_ 4 (some 34) ?_ #[true, false, false, true, true, false, false, false, false, false] rfl rfl (any_of HT_.out (by kernel_rfl)) (fun _ _ _ h => h) (y_ (by rfl) ?_) ?_ ?_ ?_
            rotate_left
            ·intro w'
             go_simp
             with_reducible rfl
            rotate_left
            ·simp only [Act.put, s1_, s2_, s3_, i64_w, i32_w]
             rfl
            refine pu_ 6 (some 36) ?_ #[true, false, false, true, true, false, true, false, false, false] rfl rfl (any_of HT_.out (by kernel_rfl)) (fun _ _ _ h => h) (y_ (by rfl) ?_) ?_ ?_ ?_
            rotate_left
            ·intro w'
             go_simp
             with_reducible rfl
            rotate_left
            ·simp only [Act.put, s1_, s2_, s3_, i64_w, i32_w]
             rfl
            refine take_ (i := 1) (N := some 31) (v := ?_) (a' := ?_) #[true, true, false, true, true, false, true, false, false, false] rfl rfl (take_ofW HT_.out HW_.out (by kernel_rfl)) (fun _ _ _ h => h) (Or.inl ⟨by rfl, ?_⟩) hHeld ?_ ?_
            rotate_left
            ·intro w' _
             go_simp
             with_reducible rfl
            rotate_left
            ·simp only [Act.put, s1_, s2_, s3_, i64_w, i32_w]
             rfl
            refine pu_ 2 (some 32) ?_ #[true, true, true, true, true, false, true, false, false, false] rfl rfl (any_of HT_.out (by kernel_rfl)) (fun _ _ _ h => h) (y_ (by rfl) ?_) ?_ ?_ ?_
            rotate_left
            ·intro w'
             go_simp
             with_reducible rfl
            rotate_left
            ·simp only [Act.put, s1_, s2_, s3_, i64_w, i32_w]
             rfl
            refine join_ (σ := Nat) 1 (bs_ 9 1) (fun s_ => [(35, .int .i64 t104), (7, .pointer (some ⟨s_, 0, none⟩)), (37, .agg #[.int .i64 (wrap64 (bt t0 1)), .int .i64 t104, .int .i64 a1, .string (⟨#[]⟩ : ByteArray)])]) (fun s_ w' => (w'.heap[gb101]? = some (.cells #[.int .i64 0, .int .i64 0, .int .i64 0, .string (⟨#[]⟩ : ByteArray)] 49 (0, 0))) ∧ (w'.heap[s_]? = some (.cells #[.int .i64 0, .int .i64 0, .int .i64 0, .string (⟨#[]⟩ : ByteArray)] 49 (0, 0))) ∧ (w.heap.size ≤ s_) ∧ (w.heap.size ≤ s_) ∧ (gb101 ≠ s_) ∧ (s_ ≠ gb101) ∧ (Below w.heap.size w w')) ?_ ?_
            rotate_left
            ·intro hCont
             refine two_ (i := 5) (j := 8) (Ni := some 35) (Nj := some 7) (bs_ 7 3) #[true, true, true, true, true, false, true, false, true, false] rfl rfl rfl rfl (two_of HT_.out (by kernel_rfl)) (by decide) (by decide) (fun K hK => ?_) (fun K hK => ?_)
             ·skip
              refine goes_ Try.func41 (by kernel_rfl) rfl #[.string (t0.extract 2 t0.size)] (by rfl) rfl rfl (by (try simp only [List.map_toArray, List.map_cons, List.map_nil]); first | done | rfl | (simp only [List.length_drop, List.length_take]; rfl)) ?_
              with_reducible refine (frame_number.calls (t0.extract 2 t0.size) t104 _ A25.out).mono ?_
              rintro e w' ⟨rfl, ⟨nd, rfl⟩⟩
              refine ⟨_, rfl, ?_⟩
              refine hK.out _ _ trivial (fun hHeld => ?_)
              clear hK K
              refine norm_ (a' := ?_) ?_ ?_
              rotate_left
              ·show Act.put _ (some 35) _ = _
               simp only [Act.put, s1_, s2_, s3_, i64_w, i32_w]
               rfl
              refine pu_ 7 (some 37) ?_ (bs_ 8 2) rfl rfl (any_of HT_.out (by kernel_rfl)) (fun _ _ _ h => h) (y_ (by rfl) ?_) ?_ ?_ ?_
              rotate_left
              ·intro w'
               go_simp
               with_reducible rfl
              rotate_left
              ·simp only [Act.put, s1_, s2_, s3_, i64_w, i32_w]
               rfl
              refine one_ (i := 8) (N := some 7) (bs_ 9 1) rfl rfl (one_of HT_.out (by kernel_rfl)) (by decide) (fun K hK => ?_)
              refine box_step ?hg (N := 7) ?hd (cs := #[.int .i64 0, .int .i64 0, .int .i64 0, .string (⟨#[]⟩ : ByteArray)]) (t := 49) ?hr ?_; (case hd => rfl); (case hg => rfl); (case hr => first | (go_simp; done) | (go_simp; rfl))
              intro gb105 hg w34 hbox hb
              have n0_ := Aside0.mk (blk_below (g := gb101) (o := .cells #[.int .i64 0, .int .i64 0, .int .i64 0, .string (⟨#[]⟩ : ByteArray)] 49 (0, 0)) (by (with_reducible repeat (first | refine blk_drewN ?_ _ | refine blk_drew ?_ | refine blk_alloc ?_ _)); exact BK101.out) hb)
              have n1_ := Aside0.mk (below_step (by repeat (first | (with_reducible first | exact HB.out | apply below_alloc | apply pw_below_drewN | apply below_drew1 | refine below_set ?_ GE101.out) | exact HB.out)) hb)
              have n2_ := Aside0.mk (hbox)
              have n3_ := Aside0.mk ((by rw [hg]; exact (below_size (by repeat (first | (with_reducible first | exact HB.out | apply below_alloc | apply pw_below_drewN | apply below_drew1 | refine below_set ?_ GE101.out) | exact HB.out))) : w.heap.size ≤ gb105))
              have n4_ := Aside0.mk ((by rw [hg]; exact (below_size (by repeat (first | (with_reducible first | exact HB.out | apply below_alloc | apply pw_below_drewN | apply below_drew1 | refine below_set ?_ GE101.out) | exact HB.out))) : w.heap.size ≤ gb105))
              have n5_ := Aside0.mk ((by rw [hg]; exact Nat.ne_of_lt (blk_lt (g := gb101) (o := .cells #[.int .i64 0, .int .i64 0, .int .i64 0, .string (⟨#[]⟩ : ByteArray)] 49 (0, 0)) (by (with_reducible repeat (first | refine blk_drewN ?_ _ | refine blk_drew ?_ | refine blk_alloc ?_ _)); exact BK101.out)) : gb101 ≠ gb105))
              have n6_ := Aside0.mk ((by rw [hg]; exact Nat.ne_of_gt (blk_lt (g := gb101) (o := .cells #[.int .i64 0, .int .i64 0, .int .i64 0, .string (⟨#[]⟩ : ByteArray)] 49 (0, 0)) (by (with_reducible repeat (first | refine blk_drewN ?_ _ | refine blk_drew ?_ | refine blk_alloc ?_ _)); exact BK101.out)) : gb105 ≠ gb101))
              clear BK101
              clear HB
              have BK101 := n0_
              have HB := n1_
              have BK105 := n2_
              have GW105 := n3_
              have GE105 := n4_
              have NB101_105 := n5_
              have NB105_101 := n6_
              clear n0_ n1_ n2_ n3_ n4_ n5_ n6_
              clear hb hbox hg
              refine hK.out _ _ trivial (fun hHeld => ?_)
              clear hK K
              refine norm_ (a' := ?_) ?_ ?_
              rotate_left
              ·show Act.put _ (some 7) _ = _
               simp only [Act.put, s1_, s2_, s3_, i64_w, i32_w]
               rfl
              exact norm_ (by simp only [putAll, Act.put, s1_, s2_, s3_]) (hCont (gb105) _ ⟨(by (with_reducible repeat (first | refine blk_drewN ?_ _ | refine blk_drew ?_ | refine blk_alloc ?_ _)); exact BK101.out), (by (with_reducible repeat (first | refine blk_drewN ?_ _ | refine blk_drew ?_ | refine blk_alloc ?_ _)); exact BK105.out), GW105.out, GE105.out, NB101_105.out, NB105_101.out, (by repeat (first | (with_reducible first | exact HB.out | apply below_alloc | apply pw_below_drewN | apply below_drew1 | refine below_set ?_ GE101.out | refine below_set ?_ GE105.out) | exact HB.out))⟩)
             ·skip
              refine box_step ?hg (N := 7) ?hd (cs := #[.int .i64 0, .int .i64 0, .int .i64 0, .string (⟨#[]⟩ : ByteArray)]) (t := 49) ?hr ?_; (case hd => rfl); (case hg => rfl); (case hr => first | (go_simp; done) | (go_simp; rfl))
              intro gb105 hg w34 hbox hb
              have n0_ := Aside0.mk (blk_below (g := gb101) (o := .cells #[.int .i64 0, .int .i64 0, .int .i64 0, .string (⟨#[]⟩ : ByteArray)] 49 (0, 0)) (by (with_reducible repeat (first | refine blk_drewN ?_ _ | refine blk_drew ?_ | refine blk_alloc ?_ _)); exact BK101.out) hb)
              have n1_ := Aside0.mk (below_step (by repeat (first | (with_reducible first | exact HB.out | apply below_alloc | apply pw_below_drewN | apply below_drew1 | refine below_set ?_ GE101.out) | exact HB.out)) hb)
              have n2_ := Aside0.mk (hbox)
              have n3_ := Aside0.mk ((by rw [hg]; exact (below_size (by repeat (first | (with_reducible first | exact HB.out | apply below_alloc | apply pw_below_drewN | apply below_drew1 | refine below_set ?_ GE101.out) | exact HB.out))) : w.heap.size ≤ gb105))
              have n4_ := Aside0.mk ((by rw [hg]; exact (below_size (by repeat (first | (with_reducible first | exact HB.out | apply below_alloc | apply pw_below_drewN | apply below_drew1 | refine below_set ?_ GE101.out) | exact HB.out))) : w.heap.size ≤ gb105))
              have n5_ := Aside0.mk ((by rw [hg]; exact Nat.ne_of_lt (blk_lt (g := gb101) (o := .cells #[.int .i64 0, .int .i64 0, .int .i64 0, .string (⟨#[]⟩ : ByteArray)] 49 (0, 0)) (by (with_reducible repeat (first | refine blk_drewN ?_ _ | refine blk_drew ?_ | refine blk_alloc ?_ _)); exact BK101.out)) : gb101 ≠ gb105))
              have n6_ := Aside0.mk ((by rw [hg]; exact Nat.ne_of_gt (blk_lt (g := gb101) (o := .cells #[.int .i64 0, .int .i64 0, .int .i64 0, .string (⟨#[]⟩ : ByteArray)] 49 (0, 0)) (by (with_reducible repeat (first | refine blk_drewN ?_ _ | refine blk_drew ?_ | refine blk_alloc ?_ _)); exact BK101.out)) : gb105 ≠ gb101))
              clear BK101
              clear HB
              have BK101 := n0_
              have HB := n1_
              have BK105 := n2_
              have GW105 := n3_
              have GE105 := n4_
              have NB101_105 := n5_
              have NB105_101 := n6_
              clear n0_ n1_ n2_ n3_ n4_ n5_ n6_
              clear hb hbox hg
              refine hK.out _ _ trivial (fun hHeld => ?_)
              clear hK K
              refine norm_ (a' := ?_) ?_ ?_
              rotate_left
              ·show Act.put _ (some 7) _ = _
               simp only [Act.put, s1_, s2_, s3_, i64_w, i32_w]
               rfl
              refine one_ (i := 5) (N := some 35) #[true, true, true, true, true, true, true, false, true, false] rfl rfl (one_of HT_.out (by kernel_rfl)) (by decide) (fun K hK => ?_)
              refine goes_ Try.func41 (by kernel_rfl) rfl #[.string (t0.extract 2 t0.size)] (by rfl) rfl rfl (by (try simp only [List.map_toArray, List.map_cons, List.map_nil]); first | done | rfl | (simp only [List.length_drop, List.length_take]; rfl)) ?_
              with_reducible refine (frame_number.calls (t0.extract 2 t0.size) t104 _ A25.out).mono ?_
              rintro e w' ⟨rfl, ⟨nd, rfl⟩⟩
              refine ⟨_, rfl, ?_⟩
              refine hK.out _ _ trivial (fun hHeld => ?_)
              clear hK K
              refine norm_ (a' := ?_) ?_ ?_
              rotate_left
              ·show Act.put _ (some 35) _ = _
               simp only [Act.put, s1_, s2_, s3_, i64_w, i32_w]
               rfl
              refine pu_ 7 (some 37) ?_ (bs_ 9 1) rfl rfl (any_of HT_.out (by kernel_rfl)) (fun _ _ _ h => h) (y_ (by rfl) ?_) ?_ ?_ ?_
              rotate_left
              ·intro w'
               go_simp
               with_reducible rfl
              rotate_left
              ·simp only [Act.put, s1_, s2_, s3_, i64_w, i32_w]
               rfl
              exact norm_ (by simp only [putAll, Act.put, s1_, s2_, s3_]) (hCont (gb105) _ ⟨(by (with_reducible repeat (first | refine blk_drewN ?_ _ | refine blk_drew ?_ | refine blk_alloc ?_ _)); exact BK101.out), (by (with_reducible repeat (first | refine blk_drewN ?_ _ | refine blk_drew ?_ | refine blk_alloc ?_ _)); exact BK105.out), GW105.out, GE105.out, NB101_105.out, NB105_101.out, (by repeat (first | (with_reducible first | exact HB.out | apply below_alloc | apply pw_below_drewN | apply below_drew1 | refine below_set ?_ GE101.out | refine below_set ?_ GE105.out) | exact HB.out))⟩)
            rintro gb105 w35 ⟨h0_, h1_, h2_, h3_, h4_, h5_, h6_⟩
            have n0_ : Aside0 (w35.heap[gb101]? = some (.cells #[.int .i64 0, .int .i64 0, .int .i64 0, .string (⟨#[]⟩ : ByteArray)] 49 (0, 0))) := ⟨h0_⟩
            have n1_ : Aside0 (w35.heap[gb105]? = some (.cells #[.int .i64 0, .int .i64 0, .int .i64 0, .string (⟨#[]⟩ : ByteArray)] 49 (0, 0))) := ⟨h1_⟩
            have n2_ : Aside0 (w.heap.size ≤ gb105) := ⟨h2_⟩
            have n3_ : Aside0 (w.heap.size ≤ gb105) := ⟨h3_⟩
            have n4_ : Aside0 (gb101 ≠ gb105) := ⟨h4_⟩
            have n5_ : Aside0 (gb105 ≠ gb101) := ⟨h5_⟩
            have n6_ : Aside0 (Below w.heap.size w w35) := ⟨h6_⟩
            clear BK101
            clear HB
            clear h0_ h1_ h2_ h3_ h4_ h5_ h6_
            have BK101 := n0_
            have BK105 := n1_
            have GW105 := n2_
            have GE105 := n3_
            have NB101_105 := n4_
            have NB105_101 := n5_
            have HB := n6_
            clear n0_ n1_ n2_ n3_ n4_ n5_ n6_
            have hHeld := trivial
            refine norm_ (a' := ?_) ?_ ?_
            rotate_left
            ·simp only [putAll, Act.put, s1_, s2_, s3_]
             rfl
            refine one_ (i := 9) (N := none) (bs_ 10 0) rfl rfl (one_of HT_.out (by kernel_rfl)) (by decide) (fun K hK => ?_)
            have hs36 : w35.cell? ⟨gb105, 0, none⟩ = some (.int .i64 0) := (blk_cell BK105.out 0).trans rfl
            have hfs36 := blk_frozen BK105.out 0
            have hns36_0 := NB101_105.out
            have hms36_0 := NB105_101.out
            have hs37 : w35.cell? ⟨gb105, 1, none⟩ = some (.int .i64 0) := (blk_cell BK105.out 1).trans rfl
            have hfs37 := blk_frozen BK105.out 1
            have hns37_0 := NB101_105.out
            have hms37_0 := NB105_101.out
            have hs38 : w35.cell? ⟨gb105, 2, none⟩ = some (.int .i64 0) := (blk_cell BK105.out 2).trans rfl
            have hfs38 := blk_frozen BK105.out 2
            have hns38_0 := NB101_105.out
            have hms38_0 := NB105_101.out
            have hs39 : w35.cell? ⟨gb105, 3, none⟩ = some (.string (⟨#[]⟩ : ByteArray)) := (blk_cell BK105.out 3).trans rfl
            have hfs39 := blk_frozen BK105.out 3
            have hns39_0 := NB101_105.out
            have hms39_0 := NB105_101.out
            refine skip_ (w1 := ?_) (by rfl) rfl ?_ ?_
            rotate_left
            ·go_simp
             rfl
            refine hK.out _ _ trivial (fun hHeld => ?_)
            clear hK K
            refine done_ (done_of HT_.out (by kernel_rfl)) ?_
            try go_wp2_with (first | ((with_reducible refine gate_callee (f := 41) rfl ?_); refine goesL_ (some 40) rfl rfl Try.func41 (by kernel_rfl) rfl #[.string (t0.extract 6 t0.size)] rfl (by (try simp only [List.map_toArray, List.map_cons, List.map_nil]); first | done | rfl | (simp only [List.length_drop, List.length_take]; rfl)) ?_; (with_reducible refine (frame_number.calls (t0.extract 6 t0.size) t106 _ A27.out).mono ?_); rintro e w' ⟨rfl, ⟨nd, rfl⟩⟩; refine ⟨_, rfl, ?_⟩))
            have n0_ : Aside0 (((((w35.setCell ⟨gb105, 0, none⟩ (.int .i64 (wrap64 (bt t0 1)))).setCell ⟨gb105, 1, none⟩ (.int .i64 t104)).setCell ⟨gb105, 2, none⟩ (.int .i64 a1)).setCell ⟨gb105, 3, none⟩ (.string (⟨#[]⟩ : ByteArray))).heap[gb101]? = some (.cells #[.int .i64 0, .int .i64 0, .int .i64 0, .string (⟨#[]⟩ : ByteArray)] 49 (0, 0))) := ⟨by (with_reducible repeat (first | refine blk_drewN ?_ _ | refine blk_drew ?_ | refine blk_alloc ?_ _)); refine blk_far ?_ NB101_105.out _; (with_reducible repeat (first | refine blk_drewN ?_ _ | refine blk_drew ?_ | refine blk_alloc ?_ _)); refine blk_far ?_ NB101_105.out _; (with_reducible repeat (first | refine blk_drewN ?_ _ | refine blk_drew ?_ | refine blk_alloc ?_ _)); refine blk_far ?_ NB101_105.out _; (with_reducible repeat (first | refine blk_drewN ?_ _ | refine blk_drew ?_ | refine blk_alloc ?_ _)); refine blk_far ?_ NB101_105.out _; (with_reducible repeat (first | refine blk_drewN ?_ _ | refine blk_drew ?_ | refine blk_alloc ?_ _)); exact BK101.out⟩
            have n1_ : Aside0 (((((w35.setCell ⟨gb105, 0, none⟩ (.int .i64 (wrap64 (bt t0 1)))).setCell ⟨gb105, 1, none⟩ (.int .i64 t104)).setCell ⟨gb105, 2, none⟩ (.int .i64 a1)).setCell ⟨gb105, 3, none⟩ (.string (⟨#[]⟩ : ByteArray))).heap[gb105]? = some (.cells #[.int .i64 (wrap64 (bt t0 1)), .int .i64 t104, .int .i64 a1, .string (⟨#[]⟩ : ByteArray)] 49 (0, 0))) := ⟨by (with_reducible repeat (first | refine blk_drewN ?_ _ | refine blk_drew ?_ | refine blk_alloc ?_ _)); refine blk_put (cs := #[.int .i64 (wrap64 (bt t0 1)), .int .i64 t104, .int .i64 a1, .string (⟨#[]⟩ : ByteArray)]) ?_ 3 _ rfl; (with_reducible repeat (first | refine blk_drewN ?_ _ | refine blk_drew ?_ | refine blk_alloc ?_ _)); refine blk_put (cs := #[.int .i64 (wrap64 (bt t0 1)), .int .i64 t104, .int .i64 0, .string (⟨#[]⟩ : ByteArray)]) ?_ 2 _ rfl; (with_reducible repeat (first | refine blk_drewN ?_ _ | refine blk_drew ?_ | refine blk_alloc ?_ _)); refine blk_put (cs := #[.int .i64 (wrap64 (bt t0 1)), .int .i64 0, .int .i64 0, .string (⟨#[]⟩ : ByteArray)]) ?_ 1 _ rfl; (with_reducible repeat (first | refine blk_drewN ?_ _ | refine blk_drew ?_ | refine blk_alloc ?_ _)); refine blk_put (cs := #[.int .i64 0, .int .i64 0, .int .i64 0, .string (⟨#[]⟩ : ByteArray)]) ?_ 0 _ rfl; (with_reducible repeat (first | refine blk_drewN ?_ _ | refine blk_drew ?_ | refine blk_alloc ?_ _)); exact BK105.out⟩
            have n2_ : Aside0 (Below w.heap.size w ((((w35.setCell ⟨gb105, 0, none⟩ (.int .i64 (wrap64 (bt t0 1)))).setCell ⟨gb105, 1, none⟩ (.int .i64 t104)).setCell ⟨gb105, 2, none⟩ (.int .i64 a1)).setCell ⟨gb105, 3, none⟩ (.string (⟨#[]⟩ : ByteArray)))) := ⟨by repeat (first | (with_reducible first | exact HB.out | apply below_alloc | apply pw_below_drewN | apply below_drew1 | refine below_set ?_ GE101.out | refine below_set ?_ GE105.out) | exact HB.out)⟩
            (try clear BK101)
            (try clear BK105)
            (try clear HB)
            generalize ((((w35.setCell ⟨gb105, 0, none⟩ (.int .i64 (wrap64 (bt t0 1)))).setCell ⟨gb105, 1, none⟩ (.int .i64 t104)).setCell ⟨gb105, 2, none⟩ (.int .i64 a1)).setCell ⟨gb105, 3, none⟩ (.string (⟨#[]⟩ : ByteArray))) = w40 at n0_ n1_ n2_ ⊢
            have BK101 := n0_
            have BK105 := n1_
            have HB := n2_
            clear n0_ n1_ n2_
            (try (rw [drewN_self w40]; generalize hq_ : World.drewN w40 _ = w40; have n0_ : Aside0 (w40.heap[gb101]? = some (.cells #[.int .i64 0, .int .i64 0, .int .i64 0, .string (⟨#[]⟩ : ByteArray)] 49 (0, 0))) := ⟨by rw [← hq_]; exact (by (with_reducible repeat (first | refine blk_drewN ?_ _ | refine blk_drew ?_ | refine blk_alloc ?_ _)); exact BK101.out)⟩; have n1_ : Aside0 (w40.heap[gb105]? = some (.cells #[.int .i64 (wrap64 (bt t0 1)), .int .i64 t104, .int .i64 a1, .string (⟨#[]⟩ : ByteArray)] 49 (0, 0))) := ⟨by rw [← hq_]; exact (by (with_reducible repeat (first | refine blk_drewN ?_ _ | refine blk_drew ?_ | refine blk_alloc ?_ _)); exact BK105.out)⟩; have n2_ : Aside0 (Below w.heap.size w w40) := ⟨by rw [← hq_]; exact (by repeat (first | (with_reducible first | exact HB.out | apply below_alloc | apply pw_below_drewN | apply below_drew1 | refine below_set ?_ GE101.out | refine below_set ?_ GE105.out) | exact HB.out))⟩; clear BK101 BK105 HB hq_; have BK101 := n0_; have BK105 := n1_; have HB := n2_; clear n0_ n1_ n2_))
            have n0_ := Aside0.mk (blk_drew BK101.out)
            have n1_ := Aside0.mk (blk_drew BK105.out)
            have n2_ := Aside0.mk (below_drew1 HB.out)
            clear BK101
            clear BK105
            clear HB
            have BK101 := n0_
            have BK105 := n1_
            have HB := n2_
            clear n0_ n1_ n2_
            refine start_ (n := 33) (S := fun w' => w'.cell? ⟨gb105, 0, none⟩ = some (.int .i64 (wrap64 (bt t0 1))) ∧ w'.cell? ⟨gb105, 1, none⟩ = some (.int .i64 t104) ∧ w'.cell? ⟨gb105, 2, none⟩ = some (.int .i64 a1) ∧ w'.cell? ⟨gb105, 3, none⟩ = some (.string (⟨#[]⟩ : ByteArray))) (ds := []) (bs_ 0 33) (by kernel_rfl) rfl rfl ⟨(blk_cell BK105.out 0).trans rfl, (blk_cell BK105.out 1).trans rfl, (blk_cell BK105.out 2).trans rfl, (blk_cell BK105.out 3).trans rfl⟩ (fun hHeld => ?_); refine with_tabW frame_read.tab6 frame_read.bits6 (fun HT_ HW_ => ?_)
            generalize w40.drew = w41 at BK101 BK105 HB hHeld ⊢
            refine pu_ 0 (some 42) ?_ (bs_ 1 32) rfl rfl (any_of HT_.out (by kernel_rfl)) (fun _ _ _ h => h) (y_ (by rfl) ?_) ?_ ?_ ?_
            rotate_left
            ·intro w'
             go_simp
             with_reducible rfl
            rotate_left
            ·simp only [Act.put, s1_, s2_, s3_, i64_w, i32_w]
             rfl
            refine take_ (i := 1) (N := some 43) (v := ?_) (a' := ?_) (bs_ 2 31) rfl rfl (take_ofW HT_.out HW_.out (by kernel_rfl)) (fun _ _ _ h => h) (Or.inl ⟨by rfl, ?_⟩) hHeld ?_ ?_
            rotate_left
            ·rintro w' ⟨s0, s1, s2, s3⟩
             go_simp
             with_reducible rfl
            rotate_left
            ·simp only [Act.put, s1_, s2_, s3_, i64_w, i32_w]
             rfl
            refine one_ (i := 2) (N := some 44) (bs_ 3 30) rfl rfl (one_of HT_.out (by kernel_rfl)) (by decide) (fun K hK => ?_)
            refine goes_ Try.func32 (by kernel_rfl) rfl #[.int .i64 (wrap64 (bt t0 1))] (by rfl) rfl rfl (by (try simp only [List.map_toArray, List.map_cons, List.map_nil]); first | done | rfl | (simp only [List.length_drop, List.length_take]; rfl)) ?_
            with_reducible refine (frame_isKind.calls (wrap64 (bt t0 1)) true _ A28.out).mono ?_
            rintro e w' ⟨rfl, ⟨nd, rfl⟩⟩
            refine ⟨_, rfl, ?_⟩
            refine hK.out _ _ ⟨(blk_cell BK105.out 0).trans rfl, (blk_cell BK105.out 1).trans rfl, (blk_cell BK105.out 2).trans rfl, (blk_cell BK105.out 3).trans rfl⟩ (fun hHeld => ?_)
            clear hK K
            refine norm_ (a' := ?_) ?_ ?_
            rotate_left
            ·show Act.put _ (some 44) _ = _
             simp only [Act.put, s1_, s2_, s3_, i64_w, i32_w]
             rfl
            refine pu_ 3 (some 45) ?_ (bs_ 4 29) rfl rfl (any_of HT_.out (by kernel_rfl)) (fun _ _ _ h => h) (y_ (by rfl) ?_) ?_ ?_ ?_
            rotate_left
            ·intro w'
             go_simp
             with_reducible rfl
            rotate_left
            ·simp only [Act.put, s1_, s2_, s3_, i64_w, i32_w]
             rfl
            refine pu_ 4 (some 46) ?_ (bs_ 5 28) rfl rfl (any_of HT_.out (by kernel_rfl)) (fun _ _ _ h => h) (y_ (by rfl) ?_) ?_ ?_ ?_
            rotate_left
            ·intro w'
             go_simp
             with_reducible rfl
            rotate_left
            ·simp only [Act.put, s1_, s2_, s3_, i64_w, i32_w]
             rfl
            refine pu_ 5 (some 47) ?_ (bs_ 6 27) rfl rfl (any_of HT_.out (by kernel_rfl)) (fun _ _ _ h => h) (y_ (by rfl) ?_) ?_ ?_ ?_
            rotate_left
            ·intro w'
             go_simp
             with_reducible rfl
            rotate_left
            ·simp only [Act.put, s1_, s2_, s3_, i64_w, i32_w]
             rfl
            refine take_ (i := 6) (N := some 48) (v := ?_) (a' := ?_) (bs_ 7 26) rfl rfl (take_ofW HT_.out HW_.out (by kernel_rfl)) (fun _ _ _ h => h) (Or.inl ⟨by rfl, ?_⟩) hHeld ?_ ?_
            rotate_left
            ·rintro w' ⟨s0, s1, s2, s3⟩
             go_simp
             with_reducible rfl
            rotate_left
            ·simp only [Act.put, s1_, s2_, s3_, i64_w, i32_w]
             rfl
            refine one_ (i := 7) (N := some 49) (bs_ 8 25) rfl rfl (one_of HT_.out (by kernel_rfl)) (by decide) (fun K hK => ?_)
            refine goes_ Try.func33 (by kernel_rfl) rfl #[.int .i64 t104] (by rfl) rfl rfl (by (try simp only [List.map_toArray, List.map_cons, List.map_nil]); first | done | rfl | (simp only [List.length_drop, List.length_take]; rfl)) ?_
            with_reducible refine (frame_isNumber.calls t104 true _ A30.out).mono ?_
            rintro e w' ⟨rfl, ⟨nd, rfl⟩⟩
            refine ⟨_, rfl, ?_⟩
            refine hK.out _ _ ⟨(blk_cell BK105.out 0).trans rfl, (blk_cell BK105.out 1).trans rfl, (blk_cell BK105.out 2).trans rfl, (blk_cell BK105.out 3).trans rfl⟩ (fun hHeld => ?_)
            clear hK K
            refine norm_ (a' := ?_) ?_ ?_
            rotate_left
            ·show Act.put _ (some 49) _ = _
             simp only [Act.put, s1_, s2_, s3_, i64_w, i32_w]
             rfl
            refine pu_ 8 (some 50) ?_ (bs_ 9 24) rfl rfl (any_of HT_.out (by kernel_rfl)) (fun _ _ _ h => h) (y_ (by rfl) ?_) ?_ ?_ ?_
            rotate_left
            ·intro w'
             go_simp
             with_reducible rfl
            rotate_left
            ·simp only [Act.put, s1_, s2_, s3_, i64_w, i32_w]
             rfl
            refine pu_ 9 (some 51) ?_ (bs_ 10 23) rfl rfl (any_of HT_.out (by kernel_rfl)) (fun _ _ _ h => h) (y_ (by rfl) ?_) ?_ ?_ ?_
            rotate_left
            ·intro w'
             go_simp
             with_reducible rfl
            rotate_left
            ·simp only [Act.put, s1_, s2_, s3_, i64_w, i32_w]
             rfl
            refine pu_ 10 (some 52) ?_ (bs_ 11 22) rfl rfl (any_of HT_.out (by kernel_rfl)) (fun _ _ _ h => h) (y_ (by rfl) ?_) ?_ ?_ ?_
            rotate_left
            ·intro w'
             go_simp
             with_reducible rfl
            rotate_left
            ·simp only [Act.put, s1_, s2_, s3_, i64_w, i32_w]
             rfl
            refine pu_ 11 (some 53) ?_ (bs_ 12 21) rfl rfl (any_of HT_.out (by kernel_rfl)) (fun _ _ _ h => h) (y_ (by rfl) ?_) ?_ ?_ ?_
            rotate_left
            ·intro w'
             go_simp
             with_reducible rfl
            rotate_left
            ·simp only [Act.put, s1_, s2_, s3_, i64_w, i32_w]
             rfl
            refine pu_ 12 (some 54) ?_ (bs_ 13 20) rfl rfl (any_of HT_.out (by kernel_rfl)) (fun _ _ _ h => h) (y_ (by rfl) ?_) ?_ ?_ ?_
            rotate_left
            ·intro w'
             go_simp
             with_reducible rfl
            rotate_left
            ·simp only [Act.put, s1_, s2_, s3_, i64_w, i32_w]
             rfl
            refine pu_ 13 (some 55) ?_ (bs_ 14 19) rfl rfl (any_of HT_.out (by kernel_rfl)) (fun _ _ _ h => h) (y_ (by rfl) ?_) ?_ ?_ ?_
            rotate_left
            ·intro w'
             go_simp
             with_reducible rfl
            rotate_left
            ·simp only [Act.put, s1_, s2_, s3_, i64_w, i32_w]
             rfl
            refine pu_ 14 (some 56) ?_ (bs_ 15 18) rfl rfl (any_of HT_.out (by kernel_rfl)) (fun _ _ _ h => h) (y_ (by rfl) ?_) ?_ ?_ ?_
            rotate_left
            ·intro w'
             go_simp
             with_reducible rfl
            rotate_left
            ·simp only [Act.put, s1_, s2_, s3_, i64_w, i32_w]
             rfl
            refine pu_ 15 (some 57) ?_ (bs_ 16 17) rfl rfl (any_of HT_.out (by kernel_rfl)) (fun _ _ _ h => h) (y_ (by rfl) ?_) ?_ ?_ ?_
            rotate_left
            ·intro w'
             go_simp
             with_reducible rfl
            rotate_left
            ·simp only [Act.put, s1_, s2_, s3_, i64_w, i32_w]
             rfl
            refine pu_ 16 (some 58) undef (bs_ 17 16) rfl rfl (any_of HT_.out (by kernel_rfl)) (fun _ _ _ h => h) (n_ (by rfl)) ?_ ?_ ?_
            rotate_left
            ·simp only [Act.put, s1_, s2_, s3_, i64_w, i32_w]
             rfl
            refine pu_ 17 (some 59) undef (bs_ 18 15) rfl rfl (any_of HT_.out (by kernel_rfl)) (fun _ _ _ h => h) (n_ (by rfl)) ?_ ?_ ?_
            rotate_left
            ·simp only [Act.put, s1_, s2_, s3_, i64_w, i32_w]
             rfl
            refine pu_ 18 (some 60) undef (bs_ 19 14) rfl rfl (any_of HT_.out (by kernel_rfl)) (fun _ _ _ h => h) (n_ (by rfl)) ?_ ?_ ?_
            rotate_left
            ·simp only [Act.put, s1_, s2_, s3_, i64_w, i32_w]
             rfl
            refine pu_ 19 (some 61) undef (bs_ 20 13) rfl rfl (any_of HT_.out (by kernel_rfl)) (fun _ _ _ h => h) (n_ (by rfl)) ?_ ?_ ?_
            rotate_left
            ·simp only [Act.put, s1_, s2_, s3_, i64_w, i32_w]
             rfl
            refine pu_ 20 (some 62) undef (bs_ 21 12) rfl rfl (any_of HT_.out (by kernel_rfl)) (fun _ _ _ h => h) (n_ (by rfl)) ?_ ?_ ?_
            rotate_left
            ·simp only [Act.put, s1_, s2_, s3_, i64_w, i32_w]
             rfl
            refine pu_ 21 (some 63) ?_ (bs_ 22 11) rfl rfl (any_of HT_.out (by kernel_rfl)) (fun _ _ _ h => h) (y_ (by rfl) ?_) ?_ ?_ ?_
            rotate_left
            ·intro w'
             go_simp
             with_reducible rfl
            rotate_left
            ·simp only [Act.put, s1_, s2_, s3_, i64_w, i32_w]
             rfl
            refine pu_ 22 (some 64) ?_ (bs_ 23 10) rfl rfl (any_of HT_.out (by kernel_rfl)) (fun _ _ _ h => h) (y_ (by rfl) ?_) ?_ ?_ ?_
            rotate_left
            ·intro w'
             go_simp
             with_reducible rfl
            rotate_left
            ·simp only [Act.put, s1_, s2_, s3_, i64_w, i32_w]
             rfl
            refine pu_ 23 (some 65) undef (bs_ 24 9) rfl rfl (any_of HT_.out (by kernel_rfl)) (fun _ _ _ h => h) (n_ (by rfl)) ?_ ?_ ?_
            rotate_left
            ·simp only [Act.put, s1_, s2_, s3_, i64_w, i32_w]
             rfl
            refine pu_ 24 (some 66) undef (bs_ 25 8) rfl rfl (any_of HT_.out (by kernel_rfl)) (fun _ _ _ h => h) (n_ (by rfl)) ?_ ?_ ?_
            rotate_left
            ·simp only [Act.put, s1_, s2_, s3_, i64_w, i32_w]
             rfl
            refine pu_ 25 (some 67) undef (bs_ 26 7) rfl rfl (any_of HT_.out (by kernel_rfl)) (fun _ _ _ h => h) (n_ (by rfl)) ?_ ?_ ?_
            rotate_left
            ·simp only [Act.put, s1_, s2_, s3_, i64_w, i32_w]
             rfl
            refine pu_ 26 (some 68) undef (bs_ 27 6) rfl rfl (any_of HT_.out (by kernel_rfl)) (fun _ _ _ h => h) (n_ (by rfl)) ?_ ?_ ?_
            rotate_left
            ·simp only [Act.put, s1_, s2_, s3_, i64_w, i32_w]
             rfl
            refine pu_ 27 (some 69) undef (bs_ 28 5) rfl rfl (any_of HT_.out (by kernel_rfl)) (fun _ _ _ h => h) (n_ (by rfl)) ?_ ?_ ?_
            rotate_left
            ·simp only [Act.put, s1_, s2_, s3_, i64_w, i32_w]
             rfl
            refine pu_ 28 (some 70) undef (bs_ 29 4) rfl rfl (any_of HT_.out (by kernel_rfl)) (fun _ _ _ h => h) (n_ (by rfl)) ?_ ?_ ?_
            rotate_left
            ·simp only [Act.put, s1_, s2_, s3_, i64_w, i32_w]
             rfl
            refine pu_ 29 (some 71) undef (bs_ 30 3) rfl rfl (any_of HT_.out (by kernel_rfl)) (fun _ _ _ h => h) (n_ (by rfl)) ?_ ?_ ?_
            rotate_left
            ·simp only [Act.put, s1_, s2_, s3_, i64_w, i32_w]
             rfl
            refine pu_ 30 (some 72) undef (bs_ 31 2) rfl rfl (any_of HT_.out (by kernel_rfl)) (fun _ _ _ h => h) (n_ (by rfl)) ?_ ?_ ?_
            rotate_left
            ·simp only [Act.put, s1_, s2_, s3_, i64_w, i32_w]
             rfl
            refine pu_ 31 (some 73) undef (bs_ 32 1) rfl rfl (any_of HT_.out (by kernel_rfl)) (fun _ _ _ h => h) (n_ (by rfl)) ?_ ?_ ?_
            rotate_left
            ·simp only [Act.put, s1_, s2_, s3_, i64_w, i32_w]
             rfl
            refine pu_ 32 (some 74) ?_ (bs_ 33 0) rfl rfl (any_of HT_.out (by kernel_rfl)) (fun _ _ _ h => h) (y_ (by rfl) ?_) ?_ ?_ ?_
            rotate_left
            ·intro w'
             go_simp
             with_reducible rfl
            rotate_left
            ·simp only [Act.put, s1_, s2_, s3_, i64_w, i32_w]
             rfl
            refine done_ (done_of HT_.out (by kernel_rfl)) ?_
            have hnb42 := NB101_105.out
            have hnc42 := NB105_101.out
            have hcz43_0 : w41.cell? ⟨gb101, 0, none⟩ = some (.int .i64 0) := (blk_cell BK101.out 0).trans rfl
            have hcz43_1 : w41.cell? ⟨gb101, 1, none⟩ = some (.int .i64 0) := (blk_cell BK101.out 1).trans rfl
            have hcz43_2 : w41.cell? ⟨gb101, 2, none⟩ = some (.int .i64 0) := (blk_cell BK101.out 2).trans rfl
            have hcz43_3 : w41.cell? ⟨gb101, 3, none⟩ = some (.string (⟨#[]⟩ : ByteArray)) := (blk_cell BK101.out 3).trans rfl
            have hfz43_0 := blk_frozen BK101.out 0
            have hfz43_1 := blk_frozen BK101.out 1
            have hfz43_2 := blk_frozen BK101.out 2
            have hfz43_3 := blk_frozen BK101.out 3
            try go_wp2
            refine bodyPost_ret (results_ctt rfl _ _ gb101 49 #[.int .i64 0, .int .i64 0, .int .i64 0, .string (⟨#[]⟩ : ByteArray)] (0, 0) _ rfl (by (with_reducible repeat (first | refine blk_drewN ?_ _ | refine blk_drew ?_ | refine blk_alloc ?_ _)); refine blk_put (cs := #[.int .i64 0, .int .i64 0, .int .i64 0, .string (⟨#[]⟩ : ByteArray)]) ?_ 3 _ rfl; (with_reducible repeat (first | refine blk_drewN ?_ _ | refine blk_drew ?_ | refine blk_alloc ?_ _)); refine blk_put (cs := #[.int .i64 0, .int .i64 0, .int .i64 0, .string (⟨#[]⟩ : ByteArray)]) ?_ 2 _ rfl; (with_reducible repeat (first | refine blk_drewN ?_ _ | refine blk_drew ?_ | refine blk_alloc ?_ _)); refine blk_put (cs := #[.int .i64 0, .int .i64 0, .int .i64 0, .string (⟨#[]⟩ : ByteArray)]) ?_ 1 _ rfl; (with_reducible repeat (first | refine blk_drewN ?_ _ | refine blk_drew ?_ | refine blk_alloc ?_ _)); refine blk_put (cs := #[.int .i64 0, .int .i64 0, .int .i64 0, .string (⟨#[]⟩ : ByteArray)]) ?_ 0 _ rfl; (with_reducible repeat (first | refine blk_drewN ?_ _ | refine blk_drew ?_ | refine blk_alloc ?_ _)); exact BK101.out) Try.underlying49 rfl (by kernel_rfl)) rfl ?_
            exact ⟨by first | rfl | (simp [errW_none, errW_some] <;> rfl) | (simp [*, errW_none, errW_some] <;> rfl), by repeat (first | (with_reducible first | exact HB.out | apply below_alloc | apply pw_below_drewN | apply below_drew1 | refine below_set ?_ GE101.out | refine below_set ?_ GE105.out) | exact HB.out)⟩
           ·rw [if_neg c32] at H
            have c32b0 : decide (2097152 < (wrap64 ((wrap64 (14 + t106)) - 14))) = false := decide_eq_false c32
            clear c32
            by_cases c44 : (t0.size : Int) < (wrap64 ((wrap64 (14 + t106)) + 4))
            ·rw [if_pos c44] at H
             have c44b0 : decide ((t0.size : Int) < (wrap64 ((wrap64 (14 + t106)) + 4))) = true := decide_eq_true c44
             (try (have c44b1 : decide (((a0.size - a1.toNat : Nat) : Int) < (wrap64 ((wrap64 (14 + t106)) + 4))) = true := decide_eq_true (by have h_ := c44; simp only [ByteArray.size_extract, Nat.min_self] at h_; omega)))
             (try (have c44b2 : decide ((a0.size - a1.toNat : Nat) < (wrap64 ((wrap64 (14 + t106)) + 4))) = true := decide_eq_true (by have h_ := c44; simp only [ByteArray.size_extract, Nat.min_self] at h_; omega)))
             (try (have c44b3 : (((a0.size - a1.toNat : Nat) : Int) < (wrap64 ((wrap64 (14 + t106)) + 4))) = True := eq_true (by have h_ := c44; simp only [ByteArray.size_extract, Nat.min_self] at h_; omega)))
             clear c44
             simp only [Option.some.injEq, Prod.mk.injEq] at H
             obtain ⟨rfl, rfl, rfl, rfl, rfl, rfl⟩ := H
             try go_wp2
             have n0_ := Aside0.mk (blk_drew BK101.out)
             have n1_ := Aside0.mk (below_drew1 HB.out)
             clear BK101
             clear HB
             have BK101 := n0_
             have HB := n1_
             clear n0_ n1_
             have p23 : 0 ≤ (1 : Int) := (by omega)
             have q23 : 1 < t0.size := (by have : (1 : Int) < (t0.size : Int) := of_decide_eq_true (by first | (with_reducible assumption) | assumption); omega)
             have hx23 : ∀ h : 1 < t0.size, ((t0[1]'h).toNat : Int) = bt t0 1 := bt_at t0 1
             clear p23
             have qi23 : (1 < (t0.size : Int)) = True := eq_true (of_decide_eq_true (by first | (with_reducible assumption) | assumption))
             replace q23 := eq_true q23
             refine start_ (n := 10) (S := fun w' => True) (ds := []) (bs_ 0 10) (by kernel_rfl) rfl rfl trivial (fun hHeld => ?_); refine with_tabW frame_read.tab4 frame_read.bits4 (fun HT_ HW_ => ?_)
             generalize wc.drew = w45 at BK101 HB hHeld ⊢
             refine pu_ 0 (some 30) ?_ (bs_ 1 9) rfl rfl (any_of HT_.out (by kernel_rfl)) (fun _ _ _ h => h) (y_ (by rfl) ?_) ?_ ?_ ?_
             rotate_left
             ·intro w'
              go_simp
              with_reducible rfl
             rotate_left
             ·simp only [Act.put, s1_, s2_, s3_, i64_w, i32_w]
              rfl
             refine pu_ 3 (some 33) ?_ #[true, false, false, true, false, false, false, false, false, false] rfl rfl (any_of HT_.out (by kernel_rfl)) (fun _ _ _ h => h) (y_ (by rfl) ?_) ?_ ?_ ?_
             rotate_left
             ·intro w'
              go_simp
              with_reducible rfl
             rotate_left
             ·simp only [Act.put, s1_, s2_, s3_, i64_w, i32_w]
              rfl
             refine pu_ 4 (some 34) ?_ #[true, false, false, true, true, false, false, false, false, false] rfl rfl (any_of HT_.out (by kernel_rfl)) (fun _ _ _ h => h) (y_ (by rfl) ?_) ?_ ?_ ?_
             rotate_left
             ·intro w'
              go_simp
              with_reducible rfl
             rotate_left
             ·simp only [Act.put, s1_, s2_, s3_, i64_w, i32_w]
              rfl
             refine pu_ 6 (some 36) ?_ #[true, false, false, true, true, false, true, false, false, false] rfl rfl (any_of HT_.out (by kernel_rfl)) (fun _ _ _ h => h) (y_ (by rfl) ?_) ?_ ?_ ?_
             rotate_left
             ·intro w'
              go_simp
              with_reducible rfl
             rotate_left
             ·simp only [Act.put, s1_, s2_, s3_, i64_w, i32_w]
              rfl
             refine take_ (i := 1) (N := some 31) (v := ?_) (a' := ?_) #[true, true, false, true, true, false, true, false, false, false] rfl rfl (take_ofW HT_.out HW_.out (by kernel_rfl)) (fun _ _ _ h => h) (Or.inl ⟨by rfl, ?_⟩) hHeld ?_ ?_
             rotate_left
             ·intro w' _
              go_simp
              with_reducible rfl
             rotate_left
             ·simp only [Act.put, s1_, s2_, s3_, i64_w, i32_w]
              rfl
             refine pu_ 2 (some 32) ?_ #[true, true, true, true, true, false, true, false, false, false] rfl rfl (any_of HT_.out (by kernel_rfl)) (fun _ _ _ h => h) (y_ (by rfl) ?_) ?_ ?_ ?_
             rotate_left
             ·intro w'
              go_simp
              with_reducible rfl
             rotate_left
             ·simp only [Act.put, s1_, s2_, s3_, i64_w, i32_w]
              rfl
             refine join_ (σ := Nat) 1 (bs_ 9 1) (fun s_ => [(35, .int .i64 t104), (7, .pointer (some ⟨s_, 0, none⟩)), (37, .agg #[.int .i64 (wrap64 (bt t0 1)), .int .i64 t104, .int .i64 a1, .string (⟨#[]⟩ : ByteArray)])]) (fun s_ w' => (w'.heap[gb101]? = some (.cells #[.int .i64 0, .int .i64 0, .int .i64 0, .string (⟨#[]⟩ : ByteArray)] 49 (0, 0))) ∧ (w'.heap[s_]? = some (.cells #[.int .i64 0, .int .i64 0, .int .i64 0, .string (⟨#[]⟩ : ByteArray)] 49 (0, 0))) ∧ (w.heap.size ≤ s_) ∧ (w.heap.size ≤ s_) ∧ (gb101 ≠ s_) ∧ (s_ ≠ gb101) ∧ (Below w.heap.size w w')) ?_ ?_
             rotate_left
             ·intro hCont
              refine two_ (i := 5) (j := 8) (Ni := some 35) (Nj := some 7) (bs_ 7 3) #[true, true, true, true, true, false, true, false, true, false] rfl rfl rfl rfl (two_of HT_.out (by kernel_rfl)) (by decide) (by decide) (fun K hK => ?_) (fun K hK => ?_)
              ·skip
               refine goes_ Try.func41 (by kernel_rfl) rfl #[.string (t0.extract 2 t0.size)] (by rfl) rfl rfl (by (try simp only [List.map_toArray, List.map_cons, List.map_nil]); first | done | rfl | (simp only [List.length_drop, List.length_take]; rfl)) ?_
               with_reducible refine (frame_number.calls (t0.extract 2 t0.size) t104 _ A25.out).mono ?_
               rintro e w' ⟨rfl, ⟨nd, rfl⟩⟩
               refine ⟨_, rfl, ?_⟩
               refine hK.out _ _ trivial (fun hHeld => ?_)
               clear hK K
               refine norm_ (a' := ?_) ?_ ?_
               rotate_left
               ·show Act.put _ (some 35) _ = _
                simp only [Act.put, s1_, s2_, s3_, i64_w, i32_w]
                rfl
               refine pu_ 7 (some 37) ?_ (bs_ 8 2) rfl rfl (any_of HT_.out (by kernel_rfl)) (fun _ _ _ h => h) (y_ (by rfl) ?_) ?_ ?_ ?_
               rotate_left
               ·intro w'
                go_simp
                with_reducible rfl
               rotate_left
               ·simp only [Act.put, s1_, s2_, s3_, i64_w, i32_w]
                rfl
               refine one_ (i := 8) (N := some 7) (bs_ 9 1) rfl rfl (one_of HT_.out (by kernel_rfl)) (by decide) (fun K hK => ?_)
               refine box_step ?hg (N := 7) ?hd (cs := #[.int .i64 0, .int .i64 0, .int .i64 0, .string (⟨#[]⟩ : ByteArray)]) (t := 49) ?hr ?_; (case hd => rfl); (case hg => rfl); (case hr => first | (go_simp; done) | (go_simp; rfl))
               intro gb105 hg w46 hbox hb
               have n0_ := Aside0.mk (blk_below (g := gb101) (o := .cells #[.int .i64 0, .int .i64 0, .int .i64 0, .string (⟨#[]⟩ : ByteArray)] 49 (0, 0)) (by (with_reducible repeat (first | refine blk_drewN ?_ _ | refine blk_drew ?_ | refine blk_alloc ?_ _)); exact BK101.out) hb)
               have n1_ := Aside0.mk (below_step (by repeat (first | (with_reducible first | exact HB.out | apply below_alloc | apply pw_below_drewN | apply below_drew1 | refine below_set ?_ GE101.out) | exact HB.out)) hb)
               have n2_ := Aside0.mk (hbox)
               have n3_ := Aside0.mk ((by rw [hg]; exact (below_size (by repeat (first | (with_reducible first | exact HB.out | apply below_alloc | apply pw_below_drewN | apply below_drew1 | refine below_set ?_ GE101.out) | exact HB.out))) : w.heap.size ≤ gb105))
               have n4_ := Aside0.mk ((by rw [hg]; exact (below_size (by repeat (first | (with_reducible first | exact HB.out | apply below_alloc | apply pw_below_drewN | apply below_drew1 | refine below_set ?_ GE101.out) | exact HB.out))) : w.heap.size ≤ gb105))
               have n5_ := Aside0.mk ((by rw [hg]; exact Nat.ne_of_lt (blk_lt (g := gb101) (o := .cells #[.int .i64 0, .int .i64 0, .int .i64 0, .string (⟨#[]⟩ : ByteArray)] 49 (0, 0)) (by (with_reducible repeat (first | refine blk_drewN ?_ _ | refine blk_drew ?_ | refine blk_alloc ?_ _)); exact BK101.out)) : gb101 ≠ gb105))
               have n6_ := Aside0.mk ((by rw [hg]; exact Nat.ne_of_gt (blk_lt (g := gb101) (o := .cells #[.int .i64 0, .int .i64 0, .int .i64 0, .string (⟨#[]⟩ : ByteArray)] 49 (0, 0)) (by (with_reducible repeat (first | refine blk_drewN ?_ _ | refine blk_drew ?_ | refine blk_alloc ?_ _)); exact BK101.out)) : gb105 ≠ gb101))
               clear BK101
               clear HB
               have BK101 := n0_
               have HB := n1_
               have BK105 := n2_
               have GW105 := n3_
               have GE105 := n4_
               have NB101_105 := n5_
               have NB105_101 := n6_
               clear n0_ n1_ n2_ n3_ n4_ n5_ n6_
               clear hb hbox hg
               refine hK.out _ _ trivial (fun hHeld => ?_)
               clear hK K
               refine norm_ (a' := ?_) ?_ ?_
               rotate_left
               ·show Act.put _ (some 7) _ = _
                simp only [Act.put, s1_, s2_, s3_, i64_w, i32_w]
                rfl
               exact norm_ (by simp only [putAll, Act.put, s1_, s2_, s3_]) (hCont (gb105) _ ⟨(by (with_reducible repeat (first | refine blk_drewN ?_ _ | refine blk_drew ?_ | refine blk_alloc ?_ _)); exact BK101.out), (by (with_reducible repeat (first | refine blk_drewN ?_ _ | refine blk_drew ?_ | refine blk_alloc ?_ _)); exact BK105.out), GW105.out, GE105.out, NB101_105.out, NB105_101.out, (by repeat (first | (with_reducible first | exact HB.out | apply below_alloc | apply pw_below_drewN | apply below_drew1 | refine below_set ?_ GE101.out | refine below_set ?_ GE105.out) | exact HB.out))⟩)
              ·skip
               refine box_step ?hg (N := 7) ?hd (cs := #[.int .i64 0, .int .i64 0, .int .i64 0, .string (⟨#[]⟩ : ByteArray)]) (t := 49) ?hr ?_; (case hd => rfl); (case hg => rfl); (case hr => first | (go_simp; done) | (go_simp; rfl))
               intro gb105 hg w46 hbox hb
               have n0_ := Aside0.mk (blk_below (g := gb101) (o := .cells #[.int .i64 0, .int .i64 0, .int .i64 0, .string (⟨#[]⟩ : ByteArray)] 49 (0, 0)) (by (with_reducible repeat (first | refine blk_drewN ?_ _ | refine blk_drew ?_ | refine blk_alloc ?_ _)); exact BK101.out) hb)
               have n1_ := Aside0.mk (below_step (by repeat (first | (with_reducible first | exact HB.out | apply below_alloc | apply pw_below_drewN | apply below_drew1 | refine below_set ?_ GE101.out) | exact HB.out)) hb)
               have n2_ := Aside0.mk (hbox)
               have n3_ := Aside0.mk ((by rw [hg]; exact (below_size (by repeat (first | (with_reducible first | exact HB.out | apply below_alloc | apply pw_below_drewN | apply below_drew1 | refine below_set ?_ GE101.out) | exact HB.out))) : w.heap.size ≤ gb105))
               have n4_ := Aside0.mk ((by rw [hg]; exact (below_size (by repeat (first | (with_reducible first | exact HB.out | apply below_alloc | apply pw_below_drewN | apply below_drew1 | refine below_set ?_ GE101.out) | exact HB.out))) : w.heap.size ≤ gb105))
               have n5_ := Aside0.mk ((by rw [hg]; exact Nat.ne_of_lt (blk_lt (g := gb101) (o := .cells #[.int .i64 0, .int .i64 0, .int .i64 0, .string (⟨#[]⟩ : ByteArray)] 49 (0, 0)) (by (with_reducible repeat (first | refine blk_drewN ?_ _ | refine blk_drew ?_ | refine blk_alloc ?_ _)); exact BK101.out)) : gb101 ≠ gb105))
               have n6_ := Aside0.mk ((by rw [hg]; exact Nat.ne_of_gt (blk_lt (g := gb101) (o := .cells #[.int .i64 0, .int .i64 0, .int .i64 0, .string (⟨#[]⟩ : ByteArray)] 49 (0, 0)) (by (with_reducible repeat (first | refine blk_drewN ?_ _ | refine blk_drew ?_ | refine blk_alloc ?_ _)); exact BK101.out)) : gb105 ≠ gb101))
               clear BK101
               clear HB
               have BK101 := n0_
               have HB := n1_
               have BK105 := n2_
               have GW105 := n3_
               have GE105 := n4_
               have NB101_105 := n5_
               have NB105_101 := n6_
               clear n0_ n1_ n2_ n3_ n4_ n5_ n6_
               clear hb hbox hg
               refine hK.out _ _ trivial (fun hHeld => ?_)
               clear hK K
               refine norm_ (a' := ?_) ?_ ?_
               rotate_left
               ·show Act.put _ (some 7) _ = _
                simp only [Act.put, s1_, s2_, s3_, i64_w, i32_w]
                rfl
               refine one_ (i := 5) (N := some 35) #[true, true, true, true, true, true, true, false, true, false] rfl rfl (one_of HT_.out (by kernel_rfl)) (by decide) (fun K hK => ?_)
               refine goes_ Try.func41 (by kernel_rfl) rfl #[.string (t0.extract 2 t0.size)] (by rfl) rfl rfl (by (try simp only [List.map_toArray, List.map_cons, List.map_nil]); first | done | rfl | (simp only [List.length_drop, List.length_take]; rfl)) ?_
               with_reducible refine (frame_number.calls (t0.extract 2 t0.size) t104 _ A25.out).mono ?_
               rintro e w' ⟨rfl, ⟨nd, rfl⟩⟩
               refine ⟨_, rfl, ?_⟩
               refine hK.out _ _ trivial (fun hHeld => ?_)
               clear hK K
               refine norm_ (a' := ?_) ?_ ?_
               rotate_left
               ·show Act.put _ (some 35) _ = _
                simp only [Act.put, s1_, s2_, s3_, i64_w, i32_w]
                rfl
               refine pu_ 7 (some 37) ?_ (bs_ 9 1) rfl rfl (any_of HT_.out (by kernel_rfl)) (fun _ _ _ h => h) (y_ (by rfl) ?_) ?_ ?_ ?_
               rotate_left
               ·intro w'
                go_simp
                with_reducible rfl
               rotate_left
               ·simp only [Act.put, s1_, s2_, s3_, i64_w, i32_w]
                rfl
               exact norm_ (by simp only [putAll, Act.put, s1_, s2_, s3_]) (hCont (gb105) _ ⟨(by (with_reducible repeat (first | refine blk_drewN ?_ _ | refine blk_drew ?_ | refine blk_alloc ?_ _)); exact BK101.out), (by (with_reducible repeat (first | refine blk_drewN ?_ _ | refine blk_drew ?_ | refine blk_alloc ?_ _)); exact BK105.out), GW105.out, GE105.out, NB101_105.out, NB105_101.out, (by repeat (first | (with_reducible first | exact HB.out | apply below_alloc | apply pw_below_drewN | apply below_drew1 | refine below_set ?_ GE101.out | refine below_set ?_ GE105.out) | exact HB.out))⟩)
             rintro gb105 w47 ⟨h0_, h1_, h2_, h3_, h4_, h5_, h6_⟩
             have n0_ : Aside0 (w47.heap[gb101]? = some (.cells #[.int .i64 0, .int .i64 0, .int .i64 0, .string (⟨#[]⟩ : ByteArray)] 49 (0, 0))) := ⟨h0_⟩
             have n1_ : Aside0 (w47.heap[gb105]? = some (.cells #[.int .i64 0, .int .i64 0, .int .i64 0, .string (⟨#[]⟩ : ByteArray)] 49 (0, 0))) := ⟨h1_⟩
             have n2_ : Aside0 (w.heap.size ≤ gb105) := ⟨h2_⟩
             have n3_ : Aside0 (w.heap.size ≤ gb105) := ⟨h3_⟩
             have n4_ : Aside0 (gb101 ≠ gb105) := ⟨h4_⟩
             have n5_ : Aside0 (gb105 ≠ gb101) := ⟨h5_⟩
             have n6_ : Aside0 (Below w.heap.size w w47) := ⟨h6_⟩
             clear BK101
             clear HB
             clear h0_ h1_ h2_ h3_ h4_ h5_ h6_
             have BK101 := n0_
             have BK105 := n1_
             have GW105 := n2_
             have GE105 := n3_
             have NB101_105 := n4_
             have NB105_101 := n5_
             have HB := n6_
             clear n0_ n1_ n2_ n3_ n4_ n5_ n6_
             have hHeld := trivial
             refine norm_ (a' := ?_) ?_ ?_
             rotate_left
             ·simp only [putAll, Act.put, s1_, s2_, s3_]
              rfl
             refine one_ (i := 9) (N := none) (bs_ 10 0) rfl rfl (one_of HT_.out (by kernel_rfl)) (by decide) (fun K hK => ?_)
             have hs48 : w47.cell? ⟨gb105, 0, none⟩ = some (.int .i64 0) := (blk_cell BK105.out 0).trans rfl
             have hfs48 := blk_frozen BK105.out 0
             have hns48_0 := NB101_105.out
             have hms48_0 := NB105_101.out
             have hs49 : w47.cell? ⟨gb105, 1, none⟩ = some (.int .i64 0) := (blk_cell BK105.out 1).trans rfl
             have hfs49 := blk_frozen BK105.out 1
             have hns49_0 := NB101_105.out
             have hms49_0 := NB105_101.out
             have hs50 : w47.cell? ⟨gb105, 2, none⟩ = some (.int .i64 0) := (blk_cell BK105.out 2).trans rfl
             have hfs50 := blk_frozen BK105.out 2
             have hns50_0 := NB101_105.out
             have hms50_0 := NB105_101.out
             have hs51 : w47.cell? ⟨gb105, 3, none⟩ = some (.string (⟨#[]⟩ : ByteArray)) := (blk_cell BK105.out 3).trans rfl
             have hfs51 := blk_frozen BK105.out 3
             have hns51_0 := NB101_105.out
             have hms51_0 := NB105_101.out
             refine skip_ (w1 := ?_) (by rfl) rfl ?_ ?_
             rotate_left
             ·go_simp
              rfl
             refine hK.out _ _ trivial (fun hHeld => ?_)
             clear hK K
             refine done_ (done_of HT_.out (by kernel_rfl)) ?_
             try go_wp2_with (first | ((with_reducible refine gate_callee (f := 41) rfl ?_); refine goesL_ (some 40) rfl rfl Try.func41 (by kernel_rfl) rfl #[.string (t0.extract 6 t0.size)] rfl (by (try simp only [List.map_toArray, List.map_cons, List.map_nil]); first | done | rfl | (simp only [List.length_drop, List.length_take]; rfl)) ?_; (with_reducible refine (frame_number.calls (t0.extract 6 t0.size) t106 _ A27.out).mono ?_); rintro e w' ⟨rfl, ⟨nd, rfl⟩⟩; refine ⟨_, rfl, ?_⟩))
             have n0_ : Aside0 (((((w47.setCell ⟨gb105, 0, none⟩ (.int .i64 (wrap64 (bt t0 1)))).setCell ⟨gb105, 1, none⟩ (.int .i64 t104)).setCell ⟨gb105, 2, none⟩ (.int .i64 a1)).setCell ⟨gb105, 3, none⟩ (.string (⟨#[]⟩ : ByteArray))).heap[gb101]? = some (.cells #[.int .i64 0, .int .i64 0, .int .i64 0, .string (⟨#[]⟩ : ByteArray)] 49 (0, 0))) := ⟨by (with_reducible repeat (first | refine blk_drewN ?_ _ | refine blk_drew ?_ | refine blk_alloc ?_ _)); refine blk_far ?_ NB101_105.out _; (with_reducible repeat (first | refine blk_drewN ?_ _ | refine blk_drew ?_ | refine blk_alloc ?_ _)); refine blk_far ?_ NB101_105.out _; (with_reducible repeat (first | refine blk_drewN ?_ _ | refine blk_drew ?_ | refine blk_alloc ?_ _)); refine blk_far ?_ NB101_105.out _; (with_reducible repeat (first | refine blk_drewN ?_ _ | refine blk_drew ?_ | refine blk_alloc ?_ _)); refine blk_far ?_ NB101_105.out _; (with_reducible repeat (first | refine blk_drewN ?_ _ | refine blk_drew ?_ | refine blk_alloc ?_ _)); exact BK101.out⟩
             have n1_ : Aside0 (((((w47.setCell ⟨gb105, 0, none⟩ (.int .i64 (wrap64 (bt t0 1)))).setCell ⟨gb105, 1, none⟩ (.int .i64 t104)).setCell ⟨gb105, 2, none⟩ (.int .i64 a1)).setCell ⟨gb105, 3, none⟩ (.string (⟨#[]⟩ : ByteArray))).heap[gb105]? = some (.cells #[.int .i64 (wrap64 (bt t0 1)), .int .i64 t104, .int .i64 a1, .string (⟨#[]⟩ : ByteArray)] 49 (0, 0))) := ⟨by (with_reducible repeat (first | refine blk_drewN ?_ _ | refine blk_drew ?_ | refine blk_alloc ?_ _)); refine blk_put (cs := #[.int .i64 (wrap64 (bt t0 1)), .int .i64 t104, .int .i64 a1, .string (⟨#[]⟩ : ByteArray)]) ?_ 3 _ rfl; (with_reducible repeat (first | refine blk_drewN ?_ _ | refine blk_drew ?_ | refine blk_alloc ?_ _)); refine blk_put (cs := #[.int .i64 (wrap64 (bt t0 1)), .int .i64 t104, .int .i64 0, .string (⟨#[]⟩ : ByteArray)]) ?_ 2 _ rfl; (with_reducible repeat (first | refine blk_drewN ?_ _ | refine blk_drew ?_ | refine blk_alloc ?_ _)); refine blk_put (cs := #[.int .i64 (wrap64 (bt t0 1)), .int .i64 0, .int .i64 0, .string (⟨#[]⟩ : ByteArray)]) ?_ 1 _ rfl; (with_reducible repeat (first | refine blk_drewN ?_ _ | refine blk_drew ?_ | refine blk_alloc ?_ _)); refine blk_put (cs := #[.int .i64 0, .int .i64 0, .int .i64 0, .string (⟨#[]⟩ : ByteArray)]) ?_ 0 _ rfl; (with_reducible repeat (first | refine blk_drewN ?_ _ | refine blk_drew ?_ | refine blk_alloc ?_ _)); exact BK105.out⟩
             have n2_ : Aside0 (Below w.heap.size w ((((w47.setCell ⟨gb105, 0, none⟩ (.int .i64 (wrap64 (bt t0 1)))).setCell ⟨gb105, 1, none⟩ (.int .i64 t104)).setCell ⟨gb105, 2, none⟩ (.int .i64 a1)).setCell ⟨gb105, 3, none⟩ (.string (⟨#[]⟩ : ByteArray)))) := ⟨by repeat (first | (with_reducible first | exact HB.out | apply below_alloc | apply pw_below_drewN | apply below_drew1 | refine below_set ?_ GE101.out | refine below_set ?_ GE105.out) | exact HB.out)⟩
             (try clear BK101)
             (try clear BK105)
             (try clear HB)
             generalize ((((w47.setCell ⟨gb105, 0, none⟩ (.int .i64 (wrap64 (bt t0 1)))).setCell ⟨gb105, 1, none⟩ (.int .i64 t104)).setCell ⟨gb105, 2, none⟩ (.int .i64 a1)).setCell ⟨gb105, 3, none⟩ (.string (⟨#[]⟩ : ByteArray))) = w52 at n0_ n1_ n2_ ⊢
             have BK101 := n0_
             have BK105 := n1_
             have HB := n2_
             clear n0_ n1_ n2_
             (try (rw [drewN_self w52]; generalize hq_ : World.drewN w52 _ = w52; have n0_ : Aside0 (w52.heap[gb101]? = some (.cells #[.int .i64 0, .int .i64 0, .int .i64 0, .string (⟨#[]⟩ : ByteArray)] 49 (0, 0))) := ⟨by rw [← hq_]; exact (by (with_reducible repeat (first | refine blk_drewN ?_ _ | refine blk_drew ?_ | refine blk_alloc ?_ _)); exact BK101.out)⟩; have n1_ : Aside0 (w52.heap[gb105]? = some (.cells #[.int .i64 (wrap64 (bt t0 1)), .int .i64 t104, .int .i64 a1, .string (⟨#[]⟩ : ByteArray)] 49 (0, 0))) := ⟨by rw [← hq_]; exact (by (with_reducible repeat (first | refine blk_drewN ?_ _ | refine blk_drew ?_ | refine blk_alloc ?_ _)); exact BK105.out)⟩; have n2_ : Aside0 (Below w.heap.size w w52) := ⟨by rw [← hq_]; exact (by repeat (first | (with_reducible first | exact HB.out | apply below_alloc | apply pw_below_drewN | apply below_drew1 | refine below_set ?_ GE101.out | refine below_set ?_ GE105.out) | exact HB.out))⟩; clear BK101 BK105 HB hq_; have BK101 := n0_; have BK105 := n1_; have HB := n2_; clear n0_ n1_ n2_))
             have n0_ := Aside0.mk (blk_drew BK101.out)
             have n1_ := Aside0.mk (blk_drew BK105.out)
             have n2_ := Aside0.mk (below_drew1 HB.out)
             clear BK101
             clear BK105
             clear HB
             have BK101 := n0_
             have BK105 := n1_
             have HB := n2_
             clear n0_ n1_ n2_
             refine start_ (n := 33) (S := fun w' => w'.cell? ⟨gb105, 0, none⟩ = some (.int .i64 (wrap64 (bt t0 1))) ∧ w'.cell? ⟨gb105, 1, none⟩ = some (.int .i64 t104) ∧ w'.cell? ⟨gb105, 2, none⟩ = some (.int .i64 a1) ∧ w'.cell? ⟨gb105, 3, none⟩ = some (.string (⟨#[]⟩ : ByteArray))) (ds := []) (bs_ 0 33) (by kernel_rfl) rfl rfl ⟨(blk_cell BK105.out 0).trans rfl, (blk_cell BK105.out 1).trans rfl, (blk_cell BK105.out 2).trans rfl, (blk_cell BK105.out 3).trans rfl⟩ (fun hHeld => ?_); refine with_tabW frame_read.tab6 frame_read.bits6 (fun HT_ HW_ => ?_)
             generalize w52.drew = w53 at BK101 BK105 HB hHeld ⊢
             refine pu_ 0 (some 42) ?_ (bs_ 1 32) rfl rfl (any_of HT_.out (by kernel_rfl)) (fun _ _ _ h => h) (y_ (by rfl) ?_) ?_ ?_ ?_
             rotate_left
             ·intro w'
              go_simp
              with_reducible rfl
             rotate_left
             ·simp only [Act.put, s1_, s2_, s3_, i64_w, i32_w]
              rfl
             refine take_ (i := 1) (N := some 43) (v := ?_) (a' := ?_) (bs_ 2 31) rfl rfl (take_ofW HT_.out HW_.out (by kernel_rfl)) (fun _ _ _ h => h) (Or.inl ⟨by rfl, ?_⟩) hHeld ?_ ?_
             rotate_left
             ·rintro w' ⟨s0, s1, s2, s3⟩
              go_simp
              with_reducible rfl
             rotate_left
             ·simp only [Act.put, s1_, s2_, s3_, i64_w, i32_w]
              rfl
             refine one_ (i := 2) (N := some 44) (bs_ 3 30) rfl rfl (one_of HT_.out (by kernel_rfl)) (by decide) (fun K hK => ?_)
             refine goes_ Try.func32 (by kernel_rfl) rfl #[.int .i64 (wrap64 (bt t0 1))] (by rfl) rfl rfl (by (try simp only [List.map_toArray, List.map_cons, List.map_nil]); first | done | rfl | (simp only [List.length_drop, List.length_take]; rfl)) ?_
             with_reducible refine (frame_isKind.calls (wrap64 (bt t0 1)) true _ A28.out).mono ?_
             rintro e w' ⟨rfl, ⟨nd, rfl⟩⟩
             refine ⟨_, rfl, ?_⟩
             refine hK.out _ _ ⟨(blk_cell BK105.out 0).trans rfl, (blk_cell BK105.out 1).trans rfl, (blk_cell BK105.out 2).trans rfl, (blk_cell BK105.out 3).trans rfl⟩ (fun hHeld => ?_)
             clear hK K
             refine norm_ (a' := ?_) ?_ ?_
             rotate_left
             ·show Act.put _ (some 44) _ = _
              simp only [Act.put, s1_, s2_, s3_, i64_w, i32_w]
              rfl
             refine pu_ 3 (some 45) ?_ (bs_ 4 29) rfl rfl (any_of HT_.out (by kernel_rfl)) (fun _ _ _ h => h) (y_ (by rfl) ?_) ?_ ?_ ?_
             rotate_left
             ·intro w'
              go_simp
              with_reducible rfl
             rotate_left
             ·simp only [Act.put, s1_, s2_, s3_, i64_w, i32_w]
              rfl
             refine pu_ 4 (some 46) ?_ (bs_ 5 28) rfl rfl (any_of HT_.out (by kernel_rfl)) (fun _ _ _ h => h) (y_ (by rfl) ?_) ?_ ?_ ?_
             rotate_left
             ·intro w'
              go_simp
              with_reducible rfl
             rotate_left
             ·simp only [Act.put, s1_, s2_, s3_, i64_w, i32_w]
              rfl
             refine pu_ 5 (some 47) ?_ (bs_ 6 27) rfl rfl (any_of HT_.out (by kernel_rfl)) (fun _ _ _ h => h) (y_ (by rfl) ?_) ?_ ?_ ?_
             rotate_left
             ·intro w'
              go_simp
              with_reducible rfl
             rotate_left
             ·simp only [Act.put, s1_, s2_, s3_, i64_w, i32_w]
              rfl
             refine take_ (i := 6) (N := some 48) (v := ?_) (a' := ?_) (bs_ 7 26) rfl rfl (take_ofW HT_.out HW_.out (by kernel_rfl)) (fun _ _ _ h => h) (Or.inl ⟨by rfl, ?_⟩) hHeld ?_ ?_
             rotate_left
             ·rintro w' ⟨s0, s1, s2, s3⟩
              go_simp
              with_reducible rfl
             rotate_left
             ·simp only [Act.put, s1_, s2_, s3_, i64_w, i32_w]
              rfl
             refine one_ (i := 7) (N := some 49) (bs_ 8 25) rfl rfl (one_of HT_.out (by kernel_rfl)) (by decide) (fun K hK => ?_)
             refine goes_ Try.func33 (by kernel_rfl) rfl #[.int .i64 t104] (by rfl) rfl rfl (by (try simp only [List.map_toArray, List.map_cons, List.map_nil]); first | done | rfl | (simp only [List.length_drop, List.length_take]; rfl)) ?_
             with_reducible refine (frame_isNumber.calls t104 true _ A30.out).mono ?_
             rintro e w' ⟨rfl, ⟨nd, rfl⟩⟩
             refine ⟨_, rfl, ?_⟩
             refine hK.out _ _ ⟨(blk_cell BK105.out 0).trans rfl, (blk_cell BK105.out 1).trans rfl, (blk_cell BK105.out 2).trans rfl, (blk_cell BK105.out 3).trans rfl⟩ (fun hHeld => ?_)
             clear hK K
             refine norm_ (a' := ?_) ?_ ?_
             rotate_left
             ·show Act.put _ (some 49) _ = _
              simp only [Act.put, s1_, s2_, s3_, i64_w, i32_w]
              rfl
             refine pu_ 8 (some 50) ?_ (bs_ 9 24) rfl rfl (any_of HT_.out (by kernel_rfl)) (fun _ _ _ h => h) (y_ (by rfl) ?_) ?_ ?_ ?_
             rotate_left
             ·intro w'
              go_simp
              with_reducible rfl
             rotate_left
             ·simp only [Act.put, s1_, s2_, s3_, i64_w, i32_w]
              rfl
             refine pu_ 9 (some 51) ?_ (bs_ 10 23) rfl rfl (any_of HT_.out (by kernel_rfl)) (fun _ _ _ h => h) (y_ (by rfl) ?_) ?_ ?_ ?_
             rotate_left
             ·intro w'
              go_simp
              with_reducible rfl
             rotate_left
             ·simp only [Act.put, s1_, s2_, s3_, i64_w, i32_w]
              rfl
             refine pu_ 10 (some 52) ?_ (bs_ 11 22) rfl rfl (any_of HT_.out (by kernel_rfl)) (fun _ _ _ h => h) (y_ (by rfl) ?_) ?_ ?_ ?_
             rotate_left
             ·intro w'
              go_simp
              with_reducible rfl
             rotate_left
             ·simp only [Act.put, s1_, s2_, s3_, i64_w, i32_w]
              rfl
             refine pu_ 11 (some 53) ?_ (bs_ 12 21) rfl rfl (any_of HT_.out (by kernel_rfl)) (fun _ _ _ h => h) (y_ (by rfl) ?_) ?_ ?_ ?_
             rotate_left
             ·intro w'
              go_simp
              with_reducible rfl
             rotate_left
             ·simp only [Act.put, s1_, s2_, s3_, i64_w, i32_w]
              rfl
             refine pu_ 12 (some 54) ?_ (bs_ 13 20) rfl rfl (any_of HT_.out (by kernel_rfl)) (fun _ _ _ h => h) (y_ (by rfl) ?_) ?_ ?_ ?_
             rotate_left
             ·intro w'
              go_simp
              with_reducible rfl
             rotate_left
             ·simp only [Act.put, s1_, s2_, s3_, i64_w, i32_w]
              rfl
             refine pu_ 13 (some 55) ?_ (bs_ 14 19) rfl rfl (any_of HT_.out (by kernel_rfl)) (fun _ _ _ h => h) (y_ (by rfl) ?_) ?_ ?_ ?_
             rotate_left
             ·intro w'
              go_simp
              with_reducible rfl
             rotate_left
             ·simp only [Act.put, s1_, s2_, s3_, i64_w, i32_w]
              rfl
             refine pu_ 14 (some 56) ?_ (bs_ 15 18) rfl rfl (any_of HT_.out (by kernel_rfl)) (fun _ _ _ h => h) (y_ (by rfl) ?_) ?_ ?_ ?_
             rotate_left
             ·intro w'
              go_simp
              with_reducible rfl
             rotate_left
             ·simp only [Act.put, s1_, s2_, s3_, i64_w, i32_w]
              rfl
             refine pu_ 15 (some 57) ?_ (bs_ 16 17) rfl rfl (any_of HT_.out (by kernel_rfl)) (fun _ _ _ h => h) (y_ (by rfl) ?_) ?_ ?_ ?_
             rotate_left
             ·intro w'
              go_simp
              with_reducible rfl
             rotate_left
             ·simp only [Act.put, s1_, s2_, s3_, i64_w, i32_w]
              rfl
             refine pu_ 16 (some 58) ?_ (bs_ 17 16) rfl rfl (any_of HT_.out (by kernel_rfl)) (fun _ _ _ h => h) (y_ (by rfl) ?_) ?_ ?_ ?_
             rotate_left
             ·intro w'
              go_simp
              with_reducible rfl
             rotate_left
             ·simp only [Act.put, s1_, s2_, s3_, i64_w, i32_w]
              rfl
             refine pu_ 17 (some 59) ?_ (bs_ 18 15) rfl rfl (any_of HT_.out (by kernel_rfl)) (fun _ _ _ h => h) (y_ (by rfl) ?_) ?_ ?_ ?_
             rotate_left
             ·intro w'
              go_simp
              with_reducible rfl
             rotate_left
             ·simp only [Act.put, s1_, s2_, s3_, i64_w, i32_w]
              rfl
             refine pu_ 18 (some 60) ?_ (bs_ 19 14) rfl rfl (any_of HT_.out (by kernel_rfl)) (fun _ _ _ h => h) (y_ (by rfl) ?_) ?_ ?_ ?_
             rotate_left
             ·intro w'
              go_simp
              with_reducible rfl
             rotate_left
             ·simp only [Act.put, s1_, s2_, s3_, i64_w, i32_w]
              rfl
             refine pu_ 19 (some 61) ?_ (bs_ 20 13) rfl rfl (any_of HT_.out (by kernel_rfl)) (fun _ _ _ h => h) (y_ (by rfl) ?_) ?_ ?_ ?_
             rotate_left
             ·intro w'
              go_simp
              with_reducible rfl
             rotate_left
             ·simp only [Act.put, s1_, s2_, s3_, i64_w, i32_w]
              rfl
             refine pu_ 20 (some 62) ?_ (bs_ 21 12) rfl rfl (any_of HT_.out (by kernel_rfl)) (fun _ _ _ h => h) (y_ (by rfl) ?_) ?_ ?_ ?_
             rotate_left
             ·intro w'
              go_simp
              with_reducible rfl
             rotate_left
             ·simp only [Act.put, s1_, s2_, s3_, i64_w, i32_w]
              rfl
             refine pu_ 21 (some 63) ?_ (bs_ 22 11) rfl rfl (any_of HT_.out (by kernel_rfl)) (fun _ _ _ h => h) (y_ (by rfl) ?_) ?_ ?_ ?_
             rotate_left
             ·intro w'
              go_simp
              with_reducible rfl
             rotate_left
             ·simp only [Act.put, s1_, s2_, s3_, i64_w, i32_w]
              rfl
             refine pu_ 22 (some 64) ?_ (bs_ 23 10) rfl rfl (any_of HT_.out (by kernel_rfl)) (fun _ _ _ h => h) (y_ (by rfl) ?_) ?_ ?_ ?_
             rotate_left
             ·intro w'
              go_simp
              with_reducible rfl
             rotate_left
             ·simp only [Act.put, s1_, s2_, s3_, i64_w, i32_w]
              rfl
             refine pu_ 23 (some 65) undef (bs_ 24 9) rfl rfl (any_of HT_.out (by kernel_rfl)) (fun _ _ _ h => h) (n_ (by rfl)) ?_ ?_ ?_
             rotate_left
             ·simp only [Act.put, s1_, s2_, s3_, i64_w, i32_w]
              rfl
             refine pu_ 24 (some 66) undef (bs_ 25 8) rfl rfl (any_of HT_.out (by kernel_rfl)) (fun _ _ _ h => h) (n_ (by rfl)) ?_ ?_ ?_
             rotate_left
             ·simp only [Act.put, s1_, s2_, s3_, i64_w, i32_w]
              rfl
             refine pu_ 25 (some 67) undef (bs_ 26 7) rfl rfl (any_of HT_.out (by kernel_rfl)) (fun _ _ _ h => h) (n_ (by rfl)) ?_ ?_ ?_
             rotate_left
             ·simp only [Act.put, s1_, s2_, s3_, i64_w, i32_w]
              rfl
             refine pu_ 26 (some 68) undef (bs_ 27 6) rfl rfl (any_of HT_.out (by kernel_rfl)) (fun _ _ _ h => h) (n_ (by rfl)) ?_ ?_ ?_
             rotate_left
             ·simp only [Act.put, s1_, s2_, s3_, i64_w, i32_w]
              rfl
             refine pu_ 27 (some 69) undef (bs_ 28 5) rfl rfl (any_of HT_.out (by kernel_rfl)) (fun _ _ _ h => h) (n_ (by rfl)) ?_ ?_ ?_
             rotate_left
             ·simp only [Act.put, s1_, s2_, s3_, i64_w, i32_w]
              rfl
             refine pu_ 28 (some 70) undef (bs_ 29 4) rfl rfl (any_of HT_.out (by kernel_rfl)) (fun _ _ _ h => h) (n_ (by rfl)) ?_ ?_ ?_
             rotate_left
             ·simp only [Act.put, s1_, s2_, s3_, i64_w, i32_w]
              rfl
             refine pu_ 29 (some 71) undef (bs_ 30 3) rfl rfl (any_of HT_.out (by kernel_rfl)) (fun _ _ _ h => h) (n_ (by rfl)) ?_ ?_ ?_
             rotate_left
             ·simp only [Act.put, s1_, s2_, s3_, i64_w, i32_w]
              rfl
             refine pu_ 30 (some 72) undef (bs_ 31 2) rfl rfl (any_of HT_.out (by kernel_rfl)) (fun _ _ _ h => h) (n_ (by rfl)) ?_ ?_ ?_
             rotate_left
             ·simp only [Act.put, s1_, s2_, s3_, i64_w, i32_w]
              rfl
             refine pu_ 31 (some 73) undef (bs_ 32 1) rfl rfl (any_of HT_.out (by kernel_rfl)) (fun _ _ _ h => h) (n_ (by rfl)) ?_ ?_ ?_
             rotate_left
             ·simp only [Act.put, s1_, s2_, s3_, i64_w, i32_w]
              rfl
             refine pu_ 32 (some 74) ?_ (bs_ 33 0) rfl rfl (any_of HT_.out (by kernel_rfl)) (fun _ _ _ h => h) (y_ (by rfl) ?_) ?_ ?_ ?_
             rotate_left
             ·intro w'
              go_simp
              with_reducible rfl
             rotate_left
             ·simp only [Act.put, s1_, s2_, s3_, i64_w, i32_w]
              rfl
             refine done_ (done_of HT_.out (by kernel_rfl)) ?_
             have hnb54 := NB101_105.out
             have hnc54 := NB105_101.out
             have hcz55_0 : w53.cell? ⟨gb101, 0, none⟩ = some (.int .i64 0) := (blk_cell BK101.out 0).trans rfl
             have hcz55_1 : w53.cell? ⟨gb101, 1, none⟩ = some (.int .i64 0) := (blk_cell BK101.out 1).trans rfl
             have hcz55_2 : w53.cell? ⟨gb101, 2, none⟩ = some (.int .i64 0) := (blk_cell BK101.out 2).trans rfl
             have hcz55_3 : w53.cell? ⟨gb101, 3, none⟩ = some (.string (⟨#[]⟩ : ByteArray)) := (blk_cell BK101.out 3).trans rfl
             have hfz55_0 := blk_frozen BK101.out 0
             have hfz55_1 := blk_frozen BK101.out 1
             have hfz55_2 := blk_frozen BK101.out 2
             have hfz55_3 := blk_frozen BK101.out 3
             try go_wp2
             refine bodyPost_ret (results_ctt rfl _ _ gb101 49 #[.int .i64 0, .int .i64 0, .int .i64 0, .string (⟨#[]⟩ : ByteArray)] (0, 0) _ rfl (by (with_reducible repeat (first | refine blk_drewN ?_ _ | refine blk_drew ?_ | refine blk_alloc ?_ _)); refine blk_put (cs := #[.int .i64 0, .int .i64 0, .int .i64 0, .string (⟨#[]⟩ : ByteArray)]) ?_ 3 _ rfl; (with_reducible repeat (first | refine blk_drewN ?_ _ | refine blk_drew ?_ | refine blk_alloc ?_ _)); refine blk_put (cs := #[.int .i64 0, .int .i64 0, .int .i64 0, .string (⟨#[]⟩ : ByteArray)]) ?_ 2 _ rfl; (with_reducible repeat (first | refine blk_drewN ?_ _ | refine blk_drew ?_ | refine blk_alloc ?_ _)); refine blk_put (cs := #[.int .i64 0, .int .i64 0, .int .i64 0, .string (⟨#[]⟩ : ByteArray)]) ?_ 1 _ rfl; (with_reducible repeat (first | refine blk_drewN ?_ _ | refine blk_drew ?_ | refine blk_alloc ?_ _)); refine blk_put (cs := #[.int .i64 0, .int .i64 0, .int .i64 0, .string (⟨#[]⟩ : ByteArray)]) ?_ 0 _ rfl; (with_reducible repeat (first | refine blk_drewN ?_ _ | refine blk_drew ?_ | refine blk_alloc ?_ _)); exact BK101.out) Try.underlying49 rfl (by kernel_rfl)) rfl ?_
             exact ⟨by first | rfl | (simp [errW_none, errW_some] <;> rfl) | (simp [*, errW_none, errW_some] <;> rfl), by repeat (first | (with_reducible first | exact HB.out | apply below_alloc | apply pw_below_drewN | apply below_drew1 | refine below_set ?_ GE101.out | refine below_set ?_ GE105.out) | exact HB.out)⟩
            ·rw [if_neg c44] at H
             have c44b0 : decide ((t0.size : Int) < (wrap64 ((wrap64 (14 + t106)) + 4))) = false := decide_eq_false c44
             (try (have c44b1 : decide (((a0.size - a1.toNat : Nat) : Int) < (wrap64 ((wrap64 (14 + t106)) + 4))) = false := decide_eq_false (by have h_ := c44; simp only [ByteArray.size_extract, Nat.min_self] at h_; omega)))
             (try (have c44b2 : decide ((a0.size - a1.toNat : Nat) < (wrap64 ((wrap64 (14 + t106)) + 4))) = false := decide_eq_false (by have h_ := c44; simp only [ByteArray.size_extract, Nat.min_self] at h_; omega)))
             (try (have c44b3 : (((a0.size - a1.toNat : Nat) : Int) < (wrap64 ((wrap64 (14 + t106)) + 4))) = False := eq_false (by have h_ := c44; simp only [ByteArray.size_extract, Nat.min_self] at h_; omega)))
             clear c44
             obtain ⟨ji56, hji56⟩ : ∃ j_ : Int, (wrap64 (14 + t106)) = j_ := ⟨_, rfl⟩
             replace H : (if 0 ≤ (ji56) then (if (ji56) ≤ (t0.size : Int) then ((frame_number.f (t0.extract ((ji56) : Int).toNat t0.size)).bind fun t109 => ((frame_Sum.f (t0.extract 0 ((ji56) : Int).toNat)).bind fun t110 => (if t109 = t110 then (if 14 ≤ (ji56) then (some (wrap64 (bt t0 1), t104, a1, t0.extract 14 ((ji56) : Int).toNat, wrap64 ((wrap64 (a1 + (ji56))) + 4), true)) else (none)) else (some (0, 0, 0, (⟨#[]⟩ : ByteArray), 0, false))))) else (none)) else (none)) = some (r1, r2, r3, r4, r5, r6) := by first | (rw [hji56] at H; exact H) | (simp only [hji56] at H ⊢; exact H)
             (try rw [hji56] at c32b0)
             (try rw [hji56] at c44b0)
             (try rw [hji56] at c44b1)
             (try rw [hji56] at c44b2)
             (try rw [hji56] at c44b3)
             (try rw [hji56] at A25)
             (try rw [hji56] at A27)
             (try rw [hji56] at A28)
             (try rw [hji56] at A30)
             have hji56w : (IntKind.i64.wrap (14 + t106)) = ji56 := (i64_w _).trans hji56
             by_cases c57 : 0 ≤ (ji56)
             ·rw [if_pos c57] at H
              have c57b0 := eq_true c57
              have c57b1 : decide (0 ≤ (ji56)) = true := decide_eq_true c57
              clear c57
              by_cases c58 : (ji56) ≤ (t0.size : Int)
              ·rw [if_pos c58] at H
               have c58b0 := eq_true c58
               have c58b1 : decide ((ji56) ≤ (t0.size : Int)) = true := decide_eq_true c58
               clear c58
               replace H := Option.bind_eq_some_iff.mp H
               obtain ⟨t109, A590, H⟩ := H
               replace H : ((frame_Sum.f (t0.extract 0 ((ji56) : Int).toNat)).bind fun t110 => (if t109 = t110 then (if 14 ≤ (ji56) then (some (wrap64 (bt t0 1), t104, a1, t0.extract 14 ((ji56) : Int).toNat, wrap64 ((wrap64 (a1 + (ji56))) + 4), true)) else (none)) else (some (0, 0, 0, (⟨#[]⟩ : ByteArray), 0, false)))) = some (r1, r2, r3, r4, r5, r6) := H
               have A59 := Aside0.mk A590
               clear A590
               have c60b0 := eq_true (of_decide_eq_true (by first | (with_reducible assumption) | assumption) : 0 ≤ (ji56))
               have c61b0 := eq_true (of_decide_eq_true (by first | (with_reducible assumption) | assumption) : (ji56) ≤ (t0.size : Int))
               replace H := Option.bind_eq_some_iff.mp H
               obtain ⟨t110, A620, H⟩ := H
               replace H : (if t109 = t110 then (if 14 ≤ (ji56) then (some (wrap64 (bt t0 1), t104, a1, t0.extract 14 ((ji56) : Int).toNat, wrap64 ((wrap64 (a1 + (ji56))) + 4), true)) else (none)) else (some (0, 0, 0, (⟨#[]⟩ : ByteArray), 0, false))) = some (r1, r2, r3, r4, r5, r6) := H
               have A62 := Aside0.mk A620
               clear A620
               by_cases c63 : t109 = t110
               ·rw [if_pos c63] at H
                have c63b0 : (t109 == t110) = true := beq_iff_eq.mpr c63
                have c63b1 : (t109 != t110) = false := bne_eq_false_iff_eq.mpr c63
                clear c63
                by_cases c64 : 14 ≤ (ji56)
                ·rw [if_pos c64] at H
                 have c64b0 := eq_true c64
                 have c64b1 : decide (14 ≤ (ji56)) = true := decide_eq_true c64
                 clear c64
                 have c65b0 := eq_true (of_decide_eq_true (by first | (with_reducible assumption) | assumption) : (ji56) ≤ (t0.size : Int))
                 simp only [Option.some.injEq, Prod.mk.injEq] at H
                 obtain ⟨rfl, rfl, rfl, rfl, rfl, rfl⟩ := H
                 try go_wp2
                 have n0_ := Aside0.mk (blk_drew BK101.out)
                 have n1_ := Aside0.mk (below_drew1 HB.out)
                 clear BK101
                 clear HB
                 have BK101 := n0_
                 have HB := n1_
                 clear n0_ n1_
                 have p23 : 0 ≤ (1 : Int) := (by omega)
                 have q23 : 1 < t0.size := (by have : (1 : Int) < (t0.size : Int) := of_decide_eq_true (by first | (with_reducible assumption) | assumption); omega)
                 have hx23 : ∀ h : 1 < t0.size, ((t0[1]'h).toNat : Int) = bt t0 1 := bt_at t0 1
                 clear p23
                 have qi23 : (1 < (t0.size : Int)) = True := eq_true (of_decide_eq_true (by first | (with_reducible assumption) | assumption))
                 replace q23 := eq_true q23
                 refine start_ (n := 10) (S := fun w' => True) (ds := []) (bs_ 0 10) (by kernel_rfl) rfl rfl trivial (fun hHeld => ?_); refine with_tabW frame_read.tab4 frame_read.bits4 (fun HT_ HW_ => ?_)
                 generalize wc.drew = w66 at BK101 HB hHeld ⊢
                 refine pu_ 0 (some 30) ?_ (bs_ 1 9) rfl rfl (any_of HT_.out (by kernel_rfl)) (fun _ _ _ h => h) (y_ (by rfl) ?_) ?_ ?_ ?_
                 rotate_left
                 ·intro w'
                  go_simp
                  with_reducible rfl
                 rotate_left
                 ·simp only [Act.put, s1_, s2_, s3_, i64_w, i32_w]
                  rfl
                 refine pu_ 3 (some 33) ?_ #[true, false, false, true, false, false, false, false, false, false] rfl rfl (any_of HT_.out (by kernel_rfl)) (fun _ _ _ h => h) (y_ (by rfl) ?_) ?_ ?_ ?_
                 rotate_left
                 ·intro w'
                  go_simp
                  with_reducible rfl
                 rotate_left
                 ·simp only [Act.put, s1_, s2_, s3_, i64_w, i32_w]
                  rfl
                 refine pu_ 4 (some 34) ?_ #[true, false, false, true, true, false, false, false, false, false] rfl rfl (any_of HT_.out (by kernel_rfl)) (fun _ _ _ h => h) (y_ (by rfl) ?_) ?_ ?_ ?_
                 rotate_left
                 ·intro w'
                  go_simp
                  with_reducible rfl
                 rotate_left
                 ·simp only [Act.put, s1_, s2_, s3_, i64_w, i32_w]
                  rfl
                 refine pu_ 6 (some 36) ?_ #[true, false, false, true, true, false, true, false, false, false] rfl rfl (any_of HT_.out (by kernel_rfl)) (fun _ _ _ h => h) (y_ (by rfl) ?_) ?_ ?_ ?_
                 rotate_left
                 ·intro w'
                  go_simp
                  with_reducible rfl
                 rotate_left
                 ·simp only [Act.put, s1_, s2_, s3_, i64_w, i32_w]
                  rfl
                 refine take_ (i := 1) (N := some 31) (v := ?_) (a' := ?_) #[true, true, false, true, true, false, true, false, false, false] rfl rfl (take_ofW HT_.out HW_.out (by kernel_rfl)) (fun _ _ _ h => h) (Or.inl ⟨by rfl, ?_⟩) hHeld ?_ ?_
                 rotate_left
                 ·intro w' _
                  go_simp
                  with_reducible rfl
                 rotate_left
                 ·simp only [Act.put, s1_, s2_, s3_, i64_w, i32_w]
                  rfl
                 refine pu_ 2 (some 32) ?_ #[true, true, true, true, true, false, true, false, false, false] rfl rfl (any_of HT_.out (by kernel_rfl)) (fun _ _ _ h => h) (y_ (by rfl) ?_) ?_ ?_ ?_
                 rotate_left
                 ·intro w'
                  go_simp
                  with_reducible rfl
                 rotate_left
                 ·simp only [Act.put, s1_, s2_, s3_, i64_w, i32_w]
                  rfl
                 refine join_ (σ := Nat) 1 (bs_ 9 1) (fun s_ => [(35, .int .i64 t104), (7, .pointer (some ⟨s_, 0, none⟩)), (37, .agg #[.int .i64 (wrap64 (bt t0 1)), .int .i64 t104, .int .i64 a1, .string (⟨#[]⟩ : ByteArray)])]) (fun s_ w' => (w'.heap[gb101]? = some (.cells #[.int .i64 0, .int .i64 0, .int .i64 0, .string (⟨#[]⟩ : ByteArray)] 49 (0, 0))) ∧ (w'.heap[s_]? = some (.cells #[.int .i64 0, .int .i64 0, .int .i64 0, .string (⟨#[]⟩ : ByteArray)] 49 (0, 0))) ∧ (w.heap.size ≤ s_) ∧ (w.heap.size ≤ s_) ∧ (gb101 ≠ s_) ∧ (s_ ≠ gb101) ∧ (Below w.heap.size w w')) ?_ ?_
                 rotate_left
                 ·intro hCont
                  refine two_ (i := 5) (j := 8) (Ni := some 35) (Nj := some 7) (bs_ 7 3) #[true, true, true, true, true, false, true, false, true, false] rfl rfl rfl rfl (two_of HT_.out (by kernel_rfl)) (by decide) (by decide) (fun K hK => ?_) (fun K hK => ?_)
                  ·skip
                   refine goes_ Try.func41 (by kernel_rfl) rfl #[.string (t0.extract 2 t0.size)] (by rfl) rfl rfl (by (try simp only [List.map_toArray, List.map_cons, List.map_nil]); first | done | rfl | (simp only [List.length_drop, List.length_take]; rfl)) ?_
                   with_reducible refine (frame_number.calls (t0.extract 2 t0.size) t104 _ A25.out).mono ?_
                   rintro e w' ⟨rfl, ⟨nd, rfl⟩⟩
                   refine ⟨_, rfl, ?_⟩
                   refine hK.out _ _ trivial (fun hHeld => ?_)
                   clear hK K
                   refine norm_ (a' := ?_) ?_ ?_
                   rotate_left
                   ·show Act.put _ (some 35) _ = _
                    simp only [Act.put, s1_, s2_, s3_, i64_w, i32_w]
                    rfl
                   refine pu_ 7 (some 37) ?_ (bs_ 8 2) rfl rfl (any_of HT_.out (by kernel_rfl)) (fun _ _ _ h => h) (y_ (by rfl) ?_) ?_ ?_ ?_
                   rotate_left
                   ·intro w'
                    go_simp
                    with_reducible rfl
                   rotate_left
                   ·simp only [Act.put, s1_, s2_, s3_, i64_w, i32_w]
                    rfl
                   refine one_ (i := 8) (N := some 7) (bs_ 9 1) rfl rfl (one_of HT_.out (by kernel_rfl)) (by decide) (fun K hK => ?_)
                   refine box_step ?hg (N := 7) ?hd (cs := #[.int .i64 0, .int .i64 0, .int .i64 0, .string (⟨#[]⟩ : ByteArray)]) (t := 49) ?hr ?_; (case hd => rfl); (case hg => rfl); (case hr => first | (go_simp; done) | (go_simp; rfl))
                   intro gb105 hg w67 hbox hb
                   have n0_ := Aside0.mk (blk_below (g := gb101) (o := .cells #[.int .i64 0, .int .i64 0, .int .i64 0, .string (⟨#[]⟩ : ByteArray)] 49 (0, 0)) (by (with_reducible repeat (first | refine blk_drewN ?_ _ | refine blk_drew ?_ | refine blk_alloc ?_ _)); exact BK101.out) hb)
                   have n1_ := Aside0.mk (below_step (by repeat (first | (with_reducible first | exact HB.out | apply below_alloc | apply pw_below_drewN | apply below_drew1 | refine below_set ?_ GE101.out) | exact HB.out)) hb)
                   have n2_ := Aside0.mk (hbox)
                   have n3_ := Aside0.mk ((by rw [hg]; exact (below_size (by repeat (first | (with_reducible first | exact HB.out | apply below_alloc | apply pw_below_drewN | apply below_drew1 | refine below_set ?_ GE101.out) | exact HB.out))) : w.heap.size ≤ gb105))
                   have n4_ := Aside0.mk ((by rw [hg]; exact (below_size (by repeat (first | (with_reducible first | exact HB.out | apply below_alloc | apply pw_below_drewN | apply below_drew1 | refine below_set ?_ GE101.out) | exact HB.out))) : w.heap.size ≤ gb105))
                   have n5_ := Aside0.mk ((by rw [hg]; exact Nat.ne_of_lt (blk_lt (g := gb101) (o := .cells #[.int .i64 0, .int .i64 0, .int .i64 0, .string (⟨#[]⟩ : ByteArray)] 49 (0, 0)) (by (with_reducible repeat (first | refine blk_drewN ?_ _ | refine blk_drew ?_ | refine blk_alloc ?_ _)); exact BK101.out)) : gb101 ≠ gb105))
                   have n6_ := Aside0.mk ((by rw [hg]; exact Nat.ne_of_gt (blk_lt (g := gb101) (o := .cells #[.int .i64 0, .int .i64 0, .int .i64 0, .string (⟨#[]⟩ : ByteArray)] 49 (0, 0)) (by (with_reducible repeat (first | refine blk_drewN ?_ _ | refine blk_drew ?_ | refine blk_alloc ?_ _)); exact BK101.out)) : gb105 ≠ gb101))
                   clear BK101
                   clear HB
                   have BK101 := n0_
                   have HB := n1_
                   have BK105 := n2_
                   have GW105 := n3_
                   have GE105 := n4_
                   have NB101_105 := n5_
                   have NB105_101 := n6_
                   clear n0_ n1_ n2_ n3_ n4_ n5_ n6_
                   clear hb hbox hg
                   refine hK.out _ _ trivial (fun hHeld => ?_)
                   clear hK K
                   refine norm_ (a' := ?_) ?_ ?_
                   rotate_left
                   ·show Act.put _ (some 7) _ = _
                    simp only [Act.put, s1_, s2_, s3_, i64_w, i32_w]
                    rfl
                   exact norm_ (by simp only [putAll, Act.put, s1_, s2_, s3_]) (hCont (gb105) _ ⟨(by (with_reducible repeat (first | refine blk_drewN ?_ _ | refine blk_drew ?_ | refine blk_alloc ?_ _)); exact BK101.out), (by (with_reducible repeat (first | refine blk_drewN ?_ _ | refine blk_drew ?_ | refine blk_alloc ?_ _)); exact BK105.out), GW105.out, GE105.out, NB101_105.out, NB105_101.out, (by repeat (first | (with_reducible first | exact HB.out | apply below_alloc | apply pw_below_drewN | apply below_drew1 | refine below_set ?_ GE101.out | refine below_set ?_ GE105.out) | exact HB.out))⟩)
                  ·skip
                   refine box_step ?hg (N := 7) ?hd (cs := #[.int .i64 0, .int .i64 0, .int .i64 0, .string (⟨#[]⟩ : ByteArray)]) (t := 49) ?hr ?_; (case hd => rfl); (case hg => rfl); (case hr => first | (go_simp; done) | (go_simp; rfl))
                   intro gb105 hg w67 hbox hb
                   have n0_ := Aside0.mk (blk_below (g := gb101) (o := .cells #[.int .i64 0, .int .i64 0, .int .i64 0, .string (⟨#[]⟩ : ByteArray)] 49 (0, 0)) (by (with_reducible repeat (first | refine blk_drewN ?_ _ | refine blk_drew ?_ | refine blk_alloc ?_ _)); exact BK101.out) hb)
                   have n1_ := Aside0.mk (below_step (by repeat (first | (with_reducible first | exact HB.out | apply below_alloc | apply pw_below_drewN | apply below_drew1 | refine below_set ?_ GE101.out) | exact HB.out)) hb)
                   have n2_ := Aside0.mk (hbox)
                   have n3_ := Aside0.mk ((by rw [hg]; exact (below_size (by repeat (first | (with_reducible first | exact HB.out | apply below_alloc | apply pw_below_drewN | apply below_drew1 | refine below_set ?_ GE101.out) | exact HB.out))) : w.heap.size ≤ gb105))
                   have n4_ := Aside0.mk ((by rw [hg]; exact (below_size (by repeat (first | (with_reducible first | exact HB.out | apply below_alloc | apply pw_below_drewN | apply below_drew1 | refine below_set ?_ GE101.out) | exact HB.out))) : w.heap.size ≤ gb105))
                   have n5_ := Aside0.mk ((by rw [hg]; exact Nat.ne_of_lt (blk_lt (g := gb101) (o := .cells #[.int .i64 0, .int .i64 0, .int .i64 0, .string (⟨#[]⟩ : ByteArray)] 49 (0, 0)) (by (with_reducible repeat (first | refine blk_drewN ?_ _ | refine blk_drew ?_ | refine blk_alloc ?_ _)); exact BK101.out)) : gb101 ≠ gb105))
                   have n6_ := Aside0.mk ((by rw [hg]; exact Nat.ne_of_gt (blk_lt (g := gb101) (o := .cells #[.int .i64 0, .int .i64 0, .int .i64 0, .string (⟨#[]⟩ : ByteArray)] 49 (0, 0)) (by (with_reducible repeat (first | refine blk_drewN ?_ _ | refine blk_drew ?_ | refine blk_alloc ?_ _)); exact BK101.out)) : gb105 ≠ gb101))
                   clear BK101
                   clear HB
                   have BK101 := n0_
                   have HB := n1_
                   have BK105 := n2_
                   have GW105 := n3_
                   have GE105 := n4_
                   have NB101_105 := n5_
                   have NB105_101 := n6_
                   clear n0_ n1_ n2_ n3_ n4_ n5_ n6_
                   clear hb hbox hg
                   refine hK.out _ _ trivial (fun hHeld => ?_)
                   clear hK K
                   refine norm_ (a' := ?_) ?_ ?_
                   rotate_left
                   ·show Act.put _ (some 7) _ = _
                    simp only [Act.put, s1_, s2_, s3_, i64_w, i32_w]
                    rfl
                   refine one_ (i := 5) (N := some 35) #[true, true, true, true, true, true, true, false, true, false] rfl rfl (one_of HT_.out (by kernel_rfl)) (by decide) (fun K hK => ?_)
                   refine goes_ Try.func41 (by kernel_rfl) rfl #[.string (t0.extract 2 t0.size)] (by rfl) rfl rfl (by (try simp only [List.map_toArray, List.map_cons, List.map_nil]); first | done | rfl | (simp only [List.length_drop, List.length_take]; rfl)) ?_
                   with_reducible refine (frame_number.calls (t0.extract 2 t0.size) t104 _ A25.out).mono ?_
                   rintro e w' ⟨rfl, ⟨nd, rfl⟩⟩
                   refine ⟨_, rfl, ?_⟩
                   refine hK.out _ _ trivial (fun hHeld => ?_)
                   clear hK K
                   refine norm_ (a' := ?_) ?_ ?_
                   rotate_left
                   ·show Act.put _ (some 35) _ = _
                    simp only [Act.put, s1_, s2_, s3_, i64_w, i32_w]
                    rfl
                   refine pu_ 7 (some 37) ?_ (bs_ 9 1) rfl rfl (any_of HT_.out (by kernel_rfl)) (fun _ _ _ h => h) (y_ (by rfl) ?_) ?_ ?_ ?_
                   rotate_left
                   ·intro w'
                    go_simp
                    with_reducible rfl
                   rotate_left
                   ·simp only [Act.put, s1_, s2_, s3_, i64_w, i32_w]
                    rfl
                   exact norm_ (by simp only [putAll, Act.put, s1_, s2_, s3_]) (hCont (gb105) _ ⟨(by (with_reducible repeat (first | refine blk_drewN ?_ _ | refine blk_drew ?_ | refine blk_alloc ?_ _)); exact BK101.out), (by (with_reducible repeat (first | refine blk_drewN ?_ _ | refine blk_drew ?_ | refine blk_alloc ?_ _)); exact BK105.out), GW105.out, GE105.out, NB101_105.out, NB105_101.out, (by repeat (first | (with_reducible first | exact HB.out | apply below_alloc | apply pw_below_drewN | apply below_drew1 | refine below_set ?_ GE101.out | refine below_set ?_ GE105.out) | exact HB.out))⟩)
                 rintro gb105 w68 ⟨h0_, h1_, h2_, h3_, h4_, h5_, h6_⟩
                 have n0_ : Aside0 (w68.heap[gb101]? = some (.cells #[.int .i64 0, .int .i64 0, .int .i64 0, .string (⟨#[]⟩ : ByteArray)] 49 (0, 0))) := ⟨h0_⟩
                 have n1_ : Aside0 (w68.heap[gb105]? = some (.cells #[.int .i64 0, .int .i64 0, .int .i64 0, .string (⟨#[]⟩ : ByteArray)] 49 (0, 0))) := ⟨h1_⟩
                 have n2_ : Aside0 (w.heap.size ≤ gb105) := ⟨h2_⟩
                 have n3_ : Aside0 (w.heap.size ≤ gb105) := ⟨h3_⟩
                 have n4_ : Aside0 (gb101 ≠ gb105) := ⟨h4_⟩
                 have n5_ : Aside0 (gb105 ≠ gb101) := ⟨h5_⟩
                 have n6_ : Aside0 (Below w.heap.size w w68) := ⟨h6_⟩
                 clear BK101
                 clear HB
                 clear h0_ h1_ h2_ h3_ h4_ h5_ h6_
                 have BK101 := n0_
                 have BK105 := n1_
                 have GW105 := n2_
                 have GE105 := n3_
                 have NB101_105 := n4_
                 have NB105_101 := n5_
                 have HB := n6_
                 clear n0_ n1_ n2_ n3_ n4_ n5_ n6_
                 have hHeld := trivial
                 refine norm_ (a' := ?_) ?_ ?_
                 rotate_left
                 ·simp only [putAll, Act.put, s1_, s2_, s3_]
                  rfl
                 refine one_ (i := 9) (N := none) (bs_ 10 0) rfl rfl (one_of HT_.out (by kernel_rfl)) (by decide) (fun K hK => ?_)
                 have hs69 : w68.cell? ⟨gb105, 0, none⟩ = some (.int .i64 0) := (blk_cell BK105.out 0).trans rfl
                 have hfs69 := blk_frozen BK105.out 0
                 have hns69_0 := NB101_105.out
                 have hms69_0 := NB105_101.out
                 have hs70 : w68.cell? ⟨gb105, 1, none⟩ = some (.int .i64 0) := (blk_cell BK105.out 1).trans rfl
                 have hfs70 := blk_frozen BK105.out 1
                 have hns70_0 := NB101_105.out
                 have hms70_0 := NB105_101.out
                 have hs71 : w68.cell? ⟨gb105, 2, none⟩ = some (.int .i64 0) := (blk_cell BK105.out 2).trans rfl
                 have hfs71 := blk_frozen BK105.out 2
                 have hns71_0 := NB101_105.out
                 have hms71_0 := NB105_101.out
                 have hs72 : w68.cell? ⟨gb105, 3, none⟩ = some (.string (⟨#[]⟩ : ByteArray)) := (blk_cell BK105.out 3).trans rfl
                 have hfs72 := blk_frozen BK105.out 3
                 have hns72_0 := NB101_105.out
                 have hms72_0 := NB105_101.out
                 refine skip_ (w1 := ?_) (by rfl) rfl ?_ ?_
                 rotate_left
                 ·go_simp
                  rfl
                 refine hK.out _ _ trivial (fun hHeld => ?_)
                 clear hK K
                 refine done_ (done_of HT_.out (by kernel_rfl)) ?_
                 try go_wp2_with (first | ((with_reducible refine gate_callee (f := 41) rfl ?_); refine goesL_ (some 40) rfl rfl Try.func41 (by kernel_rfl) rfl #[.string (t0.extract 6 t0.size)] rfl (by (try simp only [List.map_toArray, List.map_cons, List.map_nil]); first | done | rfl | (simp only [List.length_drop, List.length_take]; rfl)) ?_; (with_reducible refine (frame_number.calls (t0.extract 6 t0.size) t106 _ A27.out).mono ?_); rintro e w' ⟨rfl, ⟨nd, rfl⟩⟩; refine ⟨_, rfl, ?_⟩))
                 have n0_ : Aside0 (((((w68.setCell ⟨gb105, 0, none⟩ (.int .i64 (wrap64 (bt t0 1)))).setCell ⟨gb105, 1, none⟩ (.int .i64 t104)).setCell ⟨gb105, 2, none⟩ (.int .i64 a1)).setCell ⟨gb105, 3, none⟩ (.string (⟨#[]⟩ : ByteArray))).heap[gb101]? = some (.cells #[.int .i64 0, .int .i64 0, .int .i64 0, .string (⟨#[]⟩ : ByteArray)] 49 (0, 0))) := ⟨by (with_reducible repeat (first | refine blk_drewN ?_ _ | refine blk_drew ?_ | refine blk_alloc ?_ _)); refine blk_far ?_ NB101_105.out _; (with_reducible repeat (first | refine blk_drewN ?_ _ | refine blk_drew ?_ | refine blk_alloc ?_ _)); refine blk_far ?_ NB101_105.out _; (with_reducible repeat (first | refine blk_drewN ?_ _ | refine blk_drew ?_ | refine blk_alloc ?_ _)); refine blk_far ?_ NB101_105.out _; (with_reducible repeat (first | refine blk_drewN ?_ _ | refine blk_drew ?_ | refine blk_alloc ?_ _)); refine blk_far ?_ NB101_105.out _; (with_reducible repeat (first | refine blk_drewN ?_ _ | refine blk_drew ?_ | refine blk_alloc ?_ _)); exact BK101.out⟩
                 have n1_ : Aside0 (((((w68.setCell ⟨gb105, 0, none⟩ (.int .i64 (wrap64 (bt t0 1)))).setCell ⟨gb105, 1, none⟩ (.int .i64 t104)).setCell ⟨gb105, 2, none⟩ (.int .i64 a1)).setCell ⟨gb105, 3, none⟩ (.string (⟨#[]⟩ : ByteArray))).heap[gb105]? = some (.cells #[.int .i64 (wrap64 (bt t0 1)), .int .i64 t104, .int .i64 a1, .string (⟨#[]⟩ : ByteArray)] 49 (0, 0))) := ⟨by (with_reducible repeat (first | refine blk_drewN ?_ _ | refine blk_drew ?_ | refine blk_alloc ?_ _)); refine blk_put (cs := #[.int .i64 (wrap64 (bt t0 1)), .int .i64 t104, .int .i64 a1, .string (⟨#[]⟩ : ByteArray)]) ?_ 3 _ rfl; (with_reducible repeat (first | refine blk_drewN ?_ _ | refine blk_drew ?_ | refine blk_alloc ?_ _)); refine blk_put (cs := #[.int .i64 (wrap64 (bt t0 1)), .int .i64 t104, .int .i64 0, .string (⟨#[]⟩ : ByteArray)]) ?_ 2 _ rfl; (with_reducible repeat (first | refine blk_drewN ?_ _ | refine blk_drew ?_ | refine blk_alloc ?_ _)); refine blk_put (cs := #[.int .i64 (wrap64 (bt t0 1)), .int .i64 0, .int .i64 0, .string (⟨#[]⟩ : ByteArray)]) ?_ 1 _ rfl; (with_reducible repeat (first | refine blk_drewN ?_ _ | refine blk_drew ?_ | refine blk_alloc ?_ _)); refine blk_put (cs := #[.int .i64 0, .int .i64 0, .int .i64 0, .string (⟨#[]⟩ : ByteArray)]) ?_ 0 _ rfl; (with_reducible repeat (first | refine blk_drewN ?_ _ | refine blk_drew ?_ | refine blk_alloc ?_ _)); exact BK105.out⟩
                 have n2_ : Aside0 (Below w.heap.size w ((((w68.setCell ⟨gb105, 0, none⟩ (.int .i64 (wrap64 (bt t0 1)))).setCell ⟨gb105, 1, none⟩ (.int .i64 t104)).setCell ⟨gb105, 2, none⟩ (.int .i64 a1)).setCell ⟨gb105, 3, none⟩ (.string (⟨#[]⟩ : ByteArray)))) := ⟨by repeat (first | (with_reducible first | exact HB.out | apply below_alloc | apply pw_below_drewN | apply below_drew1 | refine below_set ?_ GE101.out | refine below_set ?_ GE105.out) | exact HB.out)⟩
                 (try clear BK101)
                 (try clear BK105)
                 (try clear HB)
                 generalize ((((w68.setCell ⟨gb105, 0, none⟩ (.int .i64 (wrap64 (bt t0 1)))).setCell ⟨gb105, 1, none⟩ (.int .i64 t104)).setCell ⟨gb105, 2, none⟩ (.int .i64 a1)).setCell ⟨gb105, 3, none⟩ (.string (⟨#[]⟩ : ByteArray))) = w73 at n0_ n1_ n2_ ⊢
                 have BK101 := n0_
                 have BK105 := n1_
                 have HB := n2_
                 clear n0_ n1_ n2_
                 (try (rw [drewN_self w73]; generalize hq_ : World.drewN w73 _ = w73; have n0_ : Aside0 (w73.heap[gb101]? = some (.cells #[.int .i64 0, .int .i64 0, .int .i64 0, .string (⟨#[]⟩ : ByteArray)] 49 (0, 0))) := ⟨by rw [← hq_]; exact (by (with_reducible repeat (first | refine blk_drewN ?_ _ | refine blk_drew ?_ | refine blk_alloc ?_ _)); exact BK101.out)⟩; have n1_ : Aside0 (w73.heap[gb105]? = some (.cells #[.int .i64 (wrap64 (bt t0 1)), .int .i64 t104, .int .i64 a1, .string (⟨#[]⟩ : ByteArray)] 49 (0, 0))) := ⟨by rw [← hq_]; exact (by (with_reducible repeat (first | refine blk_drewN ?_ _ | refine blk_drew ?_ | refine blk_alloc ?_ _)); exact BK105.out)⟩; have n2_ : Aside0 (Below w.heap.size w w73) := ⟨by rw [← hq_]; exact (by repeat (first | (with_reducible first | exact HB.out | apply below_alloc | apply pw_below_drewN | apply below_drew1 | refine below_set ?_ GE101.out | refine below_set ?_ GE105.out) | exact HB.out))⟩; clear BK101 BK105 HB hq_; have BK101 := n0_; have BK105 := n1_; have HB := n2_; clear n0_ n1_ n2_))
                 have n0_ := Aside0.mk (blk_drew BK101.out)
                 have n1_ := Aside0.mk (blk_drew BK105.out)
                 have n2_ := Aside0.mk (below_drew1 HB.out)
                 clear BK101
                 clear BK105
                 clear HB
                 have BK101 := n0_
                 have BK105 := n1_
                 have HB := n2_
                 clear n0_ n1_ n2_
                 refine start_ (n := 33) (S := fun w' => w'.cell? ⟨gb105, 0, none⟩ = some (.int .i64 (wrap64 (bt t0 1))) ∧ w'.cell? ⟨gb105, 1, none⟩ = some (.int .i64 t104) ∧ w'.cell? ⟨gb105, 2, none⟩ = some (.int .i64 a1) ∧ w'.cell? ⟨gb105, 3, none⟩ = some (.string (⟨#[]⟩ : ByteArray))) (ds := []) (bs_ 0 33) (by kernel_rfl) rfl rfl ⟨(blk_cell BK105.out 0).trans rfl, (blk_cell BK105.out 1).trans rfl, (blk_cell BK105.out 2).trans rfl, (blk_cell BK105.out 3).trans rfl⟩ (fun hHeld => ?_); refine with_tabW frame_read.tab6 frame_read.bits6 (fun HT_ HW_ => ?_)
                 generalize w73.drew = w74 at BK101 BK105 HB hHeld ⊢
                 refine pu_ 0 (some 42) ?_ (bs_ 1 32) rfl rfl (any_of HT_.out (by kernel_rfl)) (fun _ _ _ h => h) (y_ (by rfl) ?_) ?_ ?_ ?_
                 rotate_left
                 ·intro w'
                  go_simp
                  with_reducible rfl
                 rotate_left
                 ·simp only [Act.put, s1_, s2_, s3_, i64_w, i32_w]
                  rfl
                 refine take_ (i := 1) (N := some 43) (v := ?_) (a' := ?_) (bs_ 2 31) rfl rfl (take_ofW HT_.out HW_.out (by kernel_rfl)) (fun _ _ _ h => h) (Or.inl ⟨by rfl, ?_⟩) hHeld ?_ ?_
                 rotate_left
                 ·rintro w' ⟨s0, s1, s2, s3⟩
                  go_simp
                  with_reducible rfl
                 rotate_left
                 ·simp only [Act.put, s1_, s2_, s3_, i64_w, i32_w]
                  rfl
                 refine one_ (i := 2) (N := some 44) (bs_ 3 30) rfl rfl (one_of HT_.out (by kernel_rfl)) (by decide) (fun K hK => ?_)
                 refine goes_ Try.func32 (by kernel_rfl) rfl #[.int .i64 (wrap64 (bt t0 1))] (by rfl) rfl rfl (by (try simp only [List.map_toArray, List.map_cons, List.map_nil]); first | done | rfl | (simp only [List.length_drop, List.length_take]; rfl)) ?_
                 with_reducible refine (frame_isKind.calls (wrap64 (bt t0 1)) true _ A28.out).mono ?_
                 rintro e w' ⟨rfl, ⟨nd, rfl⟩⟩
                 refine ⟨_, rfl, ?_⟩
                 refine hK.out _ _ ⟨(blk_cell BK105.out 0).trans rfl, (blk_cell BK105.out 1).trans rfl, (blk_cell BK105.out 2).trans rfl, (blk_cell BK105.out 3).trans rfl⟩ (fun hHeld => ?_)
                 clear hK K
                 refine norm_ (a' := ?_) ?_ ?_
                 rotate_left
                 ·show Act.put _ (some 44) _ = _
                  simp only [Act.put, s1_, s2_, s3_, i64_w, i32_w]
                  rfl
                 refine pu_ 3 (some 45) ?_ (bs_ 4 29) rfl rfl (any_of HT_.out (by kernel_rfl)) (fun _ _ _ h => h) (y_ (by rfl) ?_) ?_ ?_ ?_
                 rotate_left
                 ·intro w'
                  go_simp
                  with_reducible rfl
                 rotate_left
                 ·simp only [Act.put, s1_, s2_, s3_, i64_w, i32_w]
                  rfl
                 refine pu_ 4 (some 46) ?_ (bs_ 5 28) rfl rfl (any_of HT_.out (by kernel_rfl)) (fun _ _ _ h => h) (y_ (by rfl) ?_) ?_ ?_ ?_
                 rotate_left
                 ·intro w'
                  go_simp
                  with_reducible rfl
                 rotate_left
                 ·simp only [Act.put, s1_, s2_, s3_, i64_w, i32_w]
                  rfl
                 refine pu_ 5 (some 47) ?_ (bs_ 6 27) rfl rfl (any_of HT_.out (by kernel_rfl)) (fun _ _ _ h => h) (y_ (by rfl) ?_) ?_ ?_ ?_
                 rotate_left
                 ·intro w'
                  go_simp
                  with_reducible rfl
                 rotate_left
                 ·simp only [Act.put, s1_, s2_, s3_, i64_w, i32_w]
                  rfl
                 refine take_ (i := 6) (N := some 48) (v := ?_) (a' := ?_) (bs_ 7 26) rfl rfl (take_ofW HT_.out HW_.out (by kernel_rfl)) (fun _ _ _ h => h) (Or.inl ⟨by rfl, ?_⟩) hHeld ?_ ?_
                 rotate_left
                 ·rintro w' ⟨s0, s1, s2, s3⟩
                  go_simp
                  with_reducible rfl
                 rotate_left
                 ·simp only [Act.put, s1_, s2_, s3_, i64_w, i32_w]
                  rfl
                 refine one_ (i := 7) (N := some 49) (bs_ 8 25) rfl rfl (one_of HT_.out (by kernel_rfl)) (by decide) (fun K hK => ?_)
                 refine goes_ Try.func33 (by kernel_rfl) rfl #[.int .i64 t104] (by rfl) rfl rfl (by (try simp only [List.map_toArray, List.map_cons, List.map_nil]); first | done | rfl | (simp only [List.length_drop, List.length_take]; rfl)) ?_
                 with_reducible refine (frame_isNumber.calls t104 true _ A30.out).mono ?_
                 rintro e w' ⟨rfl, ⟨nd, rfl⟩⟩
                 refine ⟨_, rfl, ?_⟩
                 refine hK.out _ _ ⟨(blk_cell BK105.out 0).trans rfl, (blk_cell BK105.out 1).trans rfl, (blk_cell BK105.out 2).trans rfl, (blk_cell BK105.out 3).trans rfl⟩ (fun hHeld => ?_)
                 clear hK K
                 refine norm_ (a' := ?_) ?_ ?_
                 rotate_left
                 ·show Act.put _ (some 49) _ = _
                  simp only [Act.put, s1_, s2_, s3_, i64_w, i32_w]
                  rfl
                 refine pu_ 8 (some 50) ?_ (bs_ 9 24) rfl rfl (any_of HT_.out (by kernel_rfl)) (fun _ _ _ h => h) (y_ (by rfl) ?_) ?_ ?_ ?_
                 rotate_left
                 ·intro w'
                  go_simp
                  with_reducible rfl
                 rotate_left
                 ·simp only [Act.put, s1_, s2_, s3_, i64_w, i32_w]
                  rfl
                 refine pu_ 9 (some 51) ?_ (bs_ 10 23) rfl rfl (any_of HT_.out (by kernel_rfl)) (fun _ _ _ h => h) (y_ (by rfl) ?_) ?_ ?_ ?_
                 rotate_left
                 ·intro w'
                  go_simp
                  with_reducible rfl
                 rotate_left
                 ·simp only [Act.put, s1_, s2_, s3_, i64_w, i32_w]
                  rfl
                 refine pu_ 10 (some 52) ?_ (bs_ 11 22) rfl rfl (any_of HT_.out (by kernel_rfl)) (fun _ _ _ h => h) (y_ (by rfl) ?_) ?_ ?_ ?_
                 rotate_left
                 ·intro w'
                  go_simp
                  with_reducible rfl
                 rotate_left
                 ·simp only [Act.put, s1_, s2_, s3_, i64_w, i32_w]
                  rfl
                 refine pu_ 11 (some 53) ?_ (bs_ 12 21) rfl rfl (any_of HT_.out (by kernel_rfl)) (fun _ _ _ h => h) (y_ (by rfl) ?_) ?_ ?_ ?_
                 rotate_left
                 ·intro w'
                  go_simp
                  with_reducible rfl
                 rotate_left
                 ·simp only [Act.put, s1_, s2_, s3_, i64_w, i32_w]
                  rfl
                 refine pu_ 12 (some 54) ?_ (bs_ 13 20) rfl rfl (any_of HT_.out (by kernel_rfl)) (fun _ _ _ h => h) (y_ (by rfl) ?_) ?_ ?_ ?_
                 rotate_left
                 ·intro w'
                  go_simp
                  with_reducible rfl
                 rotate_left
                 ·simp only [Act.put, s1_, s2_, s3_, i64_w, i32_w]
                  rfl
                 refine pu_ 13 (some 55) ?_ (bs_ 14 19) rfl rfl (any_of HT_.out (by kernel_rfl)) (fun _ _ _ h => h) (y_ (by rfl) ?_) ?_ ?_ ?_
                 rotate_left
                 ·intro w'
                  go_simp
                  with_reducible rfl
                 rotate_left
                 ·simp only [Act.put, s1_, s2_, s3_, i64_w, i32_w]
                  rfl
                 refine pu_ 14 (some 56) ?_ (bs_ 15 18) rfl rfl (any_of HT_.out (by kernel_rfl)) (fun _ _ _ h => h) (y_ (by rfl) ?_) ?_ ?_ ?_
                 rotate_left
                 ·intro w'
                  go_simp
                  with_reducible rfl
                 rotate_left
                 ·simp only [Act.put, s1_, s2_, s3_, i64_w, i32_w]
                  rfl
                 refine pu_ 15 (some 57) ?_ (bs_ 16 17) rfl rfl (any_of HT_.out (by kernel_rfl)) (fun _ _ _ h => h) (y_ (by rfl) ?_) ?_ ?_ ?_
                 rotate_left
                 ·intro w'
                  go_simp
                  with_reducible rfl
                 rotate_left
                 ·simp only [Act.put, s1_, s2_, s3_, i64_w, i32_w]
                  rfl
                 refine pu_ 16 (some 58) ?_ (bs_ 17 16) rfl rfl (any_of HT_.out (by kernel_rfl)) (fun _ _ _ h => h) (y_ (by rfl) ?_) ?_ ?_ ?_
                 rotate_left
                 ·intro w'
                  go_simp
                  with_reducible rfl
                 rotate_left
                 ·simp only [Act.put, s1_, s2_, s3_, i64_w, i32_w]
                  rfl
                 refine pu_ 17 (some 59) ?_ (bs_ 18 15) rfl rfl (any_of HT_.out (by kernel_rfl)) (fun _ _ _ h => h) (y_ (by rfl) ?_) ?_ ?_ ?_
                 rotate_left
                 ·intro w'
                  go_simp
                  with_reducible rfl
                 rotate_left
                 ·simp only [Act.put, s1_, s2_, s3_, i64_w, i32_w]
                  rfl
                 refine pu_ 18 (some 60) ?_ (bs_ 19 14) rfl rfl (any_of HT_.out (by kernel_rfl)) (fun _ _ _ h => h) (y_ (by rfl) ?_) ?_ ?_ ?_
                 rotate_left
                 ·intro w'
                  go_simp
                  with_reducible rfl
                 rotate_left
                 ·simp only [Act.put, s1_, s2_, s3_, i64_w, i32_w]
                  rfl
                 refine pu_ 19 (some 61) ?_ (bs_ 20 13) rfl rfl (any_of HT_.out (by kernel_rfl)) (fun _ _ _ h => h) (y_ (by rfl) ?_) ?_ ?_ ?_
                 rotate_left
                 ·intro w'
                  go_simp
                  with_reducible rfl
                 rotate_left
                 ·simp only [Act.put, s1_, s2_, s3_, i64_w, i32_w]
                  rfl
                 refine pu_ 20 (some 62) ?_ (bs_ 21 12) rfl rfl (any_of HT_.out (by kernel_rfl)) (fun _ _ _ h => h) (y_ (by rfl) ?_) ?_ ?_ ?_
                 rotate_left
                 ·intro w'
                  go_simp
                  with_reducible rfl
                 rotate_left
                 ·simp only [Act.put, s1_, s2_, s3_, i64_w, i32_w]
                  rfl
                 refine pu_ 21 (some 63) ?_ (bs_ 22 11) rfl rfl (any_of HT_.out (by kernel_rfl)) (fun _ _ _ h => h) (y_ (by rfl) ?_) ?_ ?_ ?_
                 rotate_left
                 ·intro w'
                  go_simp
                  with_reducible rfl
                 rotate_left
                 ·simp only [Act.put, s1_, s2_, s3_, i64_w, i32_w]
                  rfl
                 refine pu_ 22 (some 64) ?_ (bs_ 23 10) rfl rfl (any_of HT_.out (by kernel_rfl)) (fun _ _ _ h => h) (y_ (by rfl) ?_) ?_ ?_ ?_
                 rotate_left
                 ·intro w'
                  go_simp
                  with_reducible rfl
                 rotate_left
                 ·simp only [Act.put, s1_, s2_, s3_, i64_w, i32_w]
                  rfl
                 refine pu_ 23 (some 65) ?_ (bs_ 24 9) rfl rfl (any_of HT_.out (by kernel_rfl)) (fun _ _ _ h => h) (y_ (by rfl) ?_) ?_ ?_ ?_
                 rotate_left
                 ·intro w'
                  go_simp
                  with_reducible rfl
                 rotate_left
                 ·simp only [Act.put, s1_, s2_, s3_, i64_w, i32_w]
                  rfl
                 refine pu_ 24 (some 66) ?_ (bs_ 25 8) rfl rfl (any_of HT_.out (by kernel_rfl)) (fun _ _ _ h => h) (y_ (by rfl) ?_) ?_ ?_ ?_
                 rotate_left
                 ·intro w'
                  go_simp
                  with_reducible rfl
                 rotate_left
                 ·simp only [Act.put, s1_, s2_, s3_, i64_w, i32_w]
                  rfl
                 refine pu_ 25 (some 67) ?_ (bs_ 26 7) rfl rfl (any_of HT_.out (by kernel_rfl)) (fun _ _ _ h => h) (y_ (by rfl) ?_) ?_ ?_ ?_
                 rotate_left
                 ·intro w'
                  go_simp
                  with_reducible rfl
                 rotate_left
                 ·simp only [Act.put, s1_, s2_, s3_, i64_w, i32_w]
                  rfl
                 refine pu_ 27 (some 69) ?_ #[true, true, true, true, true, true, true, true, true, true, true, true, true, true, true, true, true, true, true, true, true, true, true, true, true, true, false, true, false, false, false, false, false] rfl rfl (any_of HT_.out (by kernel_rfl)) (fun _ _ _ h => h) (y_ (by rfl) ?_) ?_ ?_ ?_
                 rotate_left
                 ·intro w'
                  go_simp
                  with_reducible rfl
                 rotate_left
                 ·simp only [Act.put, s1_, s2_, s3_, i64_w, i32_w]
                  rfl
                 refine pu_ 28 (some 70) ?_ #[true, true, true, true, true, true, true, true, true, true, true, true, true, true, true, true, true, true, true, true, true, true, true, true, true, true, false, true, true, false, false, false, false] rfl rfl (any_of HT_.out (by kernel_rfl)) (fun _ _ _ h => h) (y_ (by rfl) ?_) ?_ ?_ ?_
                 rotate_left
                 ·intro w'
                  go_simp
                  with_reducible rfl
                 rotate_left
                 ·simp only [Act.put, s1_, s2_, s3_, i64_w, i32_w]
                  rfl
                 refine pu_ 29 (some 71) ?_ #[true, true, true, true, true, true, true, true, true, true, true, true, true, true, true, true, true, true, true, true, true, true, true, true, true, true, false, true, true, true, false, false, false] rfl rfl (any_of HT_.out (by kernel_rfl)) (fun _ _ _ h => h) (y_ (by rfl) ?_) ?_ ?_ ?_
                 rotate_left
                 ·intro w'
                  go_simp
                  with_reducible rfl
                 rotate_left
                 ·simp only [Act.put, s1_, s2_, s3_, i64_w, i32_w]
                  rfl
                 refine one_ (i := 26) (N := some 68) (bs_ 30 3) rfl rfl (one_of HT_.out (by kernel_rfl)) (by decide) (fun K hK => ?_)
                 refine goes_ Try.func41 (by kernel_rfl) rfl #[.string (t0.extract ((ji56) : Int).toNat t0.size)] (by rfl) rfl rfl (by (try simp only [List.map_toArray, List.map_cons, List.map_nil]); first | done | (simp only [hji56]; rfl) | rfl | (simp only [List.length_drop, List.length_take]; rfl)) ?_
                 with_reducible refine (frame_number.calls (t0.extract ((ji56) : Int).toNat t0.size) t109 _ A59.out).mono ?_
                 rintro e w' ⟨rfl, ⟨nd, rfl⟩⟩
                 refine ⟨_, rfl, ?_⟩
                 refine hK.out _ _ ⟨(blk_cell BK105.out 0).trans rfl, (blk_cell BK105.out 1).trans rfl, (blk_cell BK105.out 2).trans rfl, (blk_cell BK105.out 3).trans rfl⟩ (fun hHeld => ?_)
                 clear hK K
                 refine norm_ (a' := ?_) ?_ ?_
                 rotate_left
                 ·show Act.put _ (some 68) _ = _
                  simp only [Act.put, s1_, s2_, s3_, i64_w, i32_w]
                  rfl
                 refine one_ (i := 30) (N := some 72) (bs_ 31 2) rfl rfl (one_of HT_.out (by kernel_rfl)) (by decide) (fun K hK => ?_)
                 refine goes_ Try.func12 (by kernel_rfl) rfl #[.string (t0.extract 0 ((ji56) : Int).toNat)] (by rfl) rfl rfl (by (try simp only [List.map_toArray, List.map_cons, List.map_nil]); first | done | (simp only [hji56]; rfl) | rfl | (simp only [List.length_drop, List.length_take]; rfl)) ?_
                 with_reducible refine (frame_Sum.calls (t0.extract 0 ((ji56) : Int).toNat) t110 _ A62.out).mono ?_
                 rintro e w75 ⟨rfl, hb⟩
                 refine ⟨_, rfl, ?_⟩
                 have n0_ := Aside0.mk (blk_below (g := gb101) (o := .cells #[.int .i64 0, .int .i64 0, .int .i64 0, .string (⟨#[]⟩ : ByteArray)] 49 (0, 0)) (by (with_reducible repeat (first | refine blk_drewN ?_ _ | refine blk_drew ?_ | refine blk_alloc ?_ _)); exact BK101.out) hb)
                 have n1_ := Aside0.mk (blk_below (g := gb105) (o := .cells #[.int .i64 (wrap64 (bt t0 1)), .int .i64 t104, .int .i64 a1, .string (⟨#[]⟩ : ByteArray)] 49 (0, 0)) (by (with_reducible repeat (first | refine blk_drewN ?_ _ | refine blk_drew ?_ | refine blk_alloc ?_ _)); exact BK105.out) hb)
                 have n2_ := Aside0.mk (below_step (by repeat (first | (with_reducible first | exact HB.out | apply below_alloc | apply pw_below_drewN | apply below_drew1 | refine below_set ?_ GE101.out | refine below_set ?_ GE105.out) | exact HB.out)) hb)
                 clear BK101
                 clear BK105
                 clear HB
                 have BK101 := n0_
                 have BK105 := n1_
                 have HB := n2_
                 clear n0_ n1_ n2_
                 (try clear hb)
                 (try clear hb2)
                 (try clear hk)
                 (try clear hi)
                 refine hK.out _ _ ⟨(blk_cell BK105.out 0).trans rfl, (blk_cell BK105.out 1).trans rfl, (blk_cell BK105.out 2).trans rfl, (blk_cell BK105.out 3).trans rfl⟩ (fun hHeld => ?_)
                 clear hK K
                 refine norm_ (a' := ?_) ?_ ?_
                 rotate_left
                 ·show Act.put _ (some 72) _ = _
                  simp only [Act.put, s1_, s2_, s3_, i64_w, i32_w]
                  rfl
                 refine pu_ 31 (some 73) ?_ (bs_ 32 1) rfl rfl (any_of HT_.out (by kernel_rfl)) (fun _ _ _ h => h) (y_ (by rfl) ?_) ?_ ?_ ?_
                 rotate_left
                 ·intro w'
                  go_simp
                  with_reducible rfl
                 rotate_left
                 ·simp only [Act.put, s1_, s2_, s3_, i64_w, i32_w]
                  rfl
                 refine pu_ 32 (some 74) ?_ (bs_ 33 0) rfl rfl (any_of HT_.out (by kernel_rfl)) (fun _ _ _ h => h) (y_ (by rfl) ?_) ?_ ?_ ?_
                 rotate_left
                 ·intro w'
                  go_simp
                  with_reducible rfl
                 rotate_left
                 ·simp only [Act.put, s1_, s2_, s3_, i64_w, i32_w]
                  rfl
                 refine done_ (done_of HT_.out (by kernel_rfl)) ?_
                 have hnb76 := NB105_101.out
                 have hnc76 := NB101_105.out
                 have hcz77_0 : w75.cell? ⟨gb105, 0, none⟩ = some (.int .i64 (wrap64 (bt t0 1))) := (blk_cell BK105.out 0).trans rfl
                 have hcz77_1 : w75.cell? ⟨gb105, 1, none⟩ = some (.int .i64 t104) := (blk_cell BK105.out 1).trans rfl
                 have hcz77_2 : w75.cell? ⟨gb105, 2, none⟩ = some (.int .i64 a1) := (blk_cell BK105.out 2).trans rfl
                 have hcz77_3 : w75.cell? ⟨gb105, 3, none⟩ = some (.string (⟨#[]⟩ : ByteArray)) := (blk_cell BK105.out 3).trans rfl
                 have hfz77_0 := blk_frozen BK105.out 0
                 have hfz77_1 := blk_frozen BK105.out 1
                 have hfz77_2 := blk_frozen BK105.out 2
                 have hfz77_3 := blk_frozen BK105.out 3
                 have hcz78_0 : w75.cell? ⟨gb101, 0, none⟩ = some (.int .i64 0) := (blk_cell BK101.out 0).trans rfl
                 have hcz78_1 : w75.cell? ⟨gb101, 1, none⟩ = some (.int .i64 0) := (blk_cell BK101.out 1).trans rfl
                 have hcz78_2 : w75.cell? ⟨gb101, 2, none⟩ = some (.int .i64 0) := (blk_cell BK101.out 2).trans rfl
                 have hcz78_3 : w75.cell? ⟨gb101, 3, none⟩ = some (.string (⟨#[]⟩ : ByteArray)) := (blk_cell BK101.out 3).trans rfl
                 have hfz78_0 := blk_frozen BK101.out 0
                 have hfz78_1 := blk_frozen BK101.out 1
                 have hfz78_2 := blk_frozen BK101.out 2
                 have hfz78_3 := blk_frozen BK101.out 3
                 try go_wp2
                 refine bodyPost_ret (results_ctt rfl _ _ gb101 49 #[.int .i64 (wrap64 (bt t0 1)), .int .i64 t104, .int .i64 a1, .string (t0.extract 14 ((ji56) : Int).toNat)] (0, 0) _ rfl (by (with_reducible repeat (first | refine blk_drewN ?_ _ | refine blk_drew ?_ | refine blk_alloc ?_ _)); refine blk_put (cs := #[.int .i64 (wrap64 (bt t0 1)), .int .i64 t104, .int .i64 a1, .string (⟨#[]⟩ : ByteArray)]) ?_ 3 _ rfl; (with_reducible repeat (first | refine blk_drewN ?_ _ | refine blk_drew ?_ | refine blk_alloc ?_ _)); refine blk_put (cs := #[.int .i64 (wrap64 (bt t0 1)), .int .i64 t104, .int .i64 0, .string (⟨#[]⟩ : ByteArray)]) ?_ 2 _ rfl; (with_reducible repeat (first | refine blk_drewN ?_ _ | refine blk_drew ?_ | refine blk_alloc ?_ _)); refine blk_put (cs := #[.int .i64 (wrap64 (bt t0 1)), .int .i64 0, .int .i64 0, .string (⟨#[]⟩ : ByteArray)]) ?_ 1 _ rfl; (with_reducible repeat (first | refine blk_drewN ?_ _ | refine blk_drew ?_ | refine blk_alloc ?_ _)); refine blk_put (cs := #[.int .i64 0, .int .i64 0, .int .i64 0, .string (⟨#[]⟩ : ByteArray)]) ?_ 0 _ rfl; (with_reducible repeat (first | refine blk_drewN ?_ _ | refine blk_drew ?_ | refine blk_alloc ?_ _)); refine blk_far ?_ NB101_105.out _; (with_reducible repeat (first | refine blk_drewN ?_ _ | refine blk_drew ?_ | refine blk_alloc ?_ _)); exact BK101.out) Try.underlying49 rfl (by kernel_rfl)) rfl ?_
                 exact ⟨by first | rfl | (simp [errW_none, errW_some] <;> rfl) | (simp only [← hji56]; first | rfl | (simp [errW_none, errW_some] <;> rfl)) | (simp [*, errW_none, errW_some] <;> rfl), by repeat (first | (with_reducible first | exact HB.out | apply below_alloc | apply pw_below_drewN | apply below_drew1 | refine below_set ?_ GE101.out | refine below_set ?_ GE105.out) | exact HB.out)⟩
                ·rw [if_neg c64] at H
                 exact absurd H (by simp)
               ·rw [if_neg c63] at H
                have c63b0 : (t109 == t110) = false := beq_eq_false_iff_ne.mpr c63
                have c63b1 : (t109 != t110) = true := bne_iff_ne.mpr c63
                simp only [Option.some.injEq, Prod.mk.injEq] at H
                obtain ⟨rfl, rfl, rfl, rfl, rfl, rfl⟩ := H
                try go_wp2
                have n0_ := Aside0.mk (blk_drew BK101.out)
                have n1_ := Aside0.mk (below_drew1 HB.out)
                clear BK101
                clear HB
                have BK101 := n0_
                have HB := n1_
                clear n0_ n1_
                have p23 : 0 ≤ (1 : Int) := (by omega)
                have q23 : 1 < t0.size := (by have : (1 : Int) < (t0.size : Int) := of_decide_eq_true (by first | (with_reducible assumption) | assumption); omega)
                have hx23 : ∀ h : 1 < t0.size, ((t0[1]'h).toNat : Int) = bt t0 1 := bt_at t0 1
                clear p23
                have qi23 : (1 < (t0.size : Int)) = True := eq_true (of_decide_eq_true (by first | (with_reducible assumption) | assumption))
                replace q23 := eq_true q23
                refine start_ (n := 10) (S := fun w' => True) (ds := []) (bs_ 0 10) (by kernel_rfl) rfl rfl trivial (fun hHeld => ?_); refine with_tabW frame_read.tab4 frame_read.bits4 (fun HT_ HW_ => ?_)
                generalize wc.drew = w79 at BK101 HB hHeld ⊢
                refine pu_ 0 (some 30) ?_ (bs_ 1 9) rfl rfl (any_of HT_.out (by kernel_rfl)) (fun _ _ _ h => h) (y_ (by rfl) ?_) ?_ ?_ ?_
                rotate_left
                ·intro w'
                 go_simp
                 with_reducible rfl
                rotate_left
                ·simp only [Act.put, s1_, s2_, s3_, i64_w, i32_w]
                 rfl
                refine pu_ 3 (some 33) ?_ #[true, false, false, true, false, false, false, false, false, false] rfl rfl (any_of HT_.out (by kernel_rfl)) (fun _ _ _ h => h) (y_ (by rfl) ?_) ?_ ?_ ?_
                rotate_left
                ·intro w'
                 go_simp
                 with_reducible rfl
                rotate_left
                ·simp only [Act.put, s1_, s2_, s3_, i64_w, i32_w]
                 rfl
                refine pu_ 4 (some 34) ?_ #[true, false, false, true, true, false, false, false, false, false] rfl rfl (any_of HT_.out (by kernel_rfl)) (fun _ _ _ h => h) (y_ (by rfl) ?_) ?_ ?_ ?_
                rotate_left
                ·intro w'
                 go_simp
                 with_reducible rfl
                rotate_left
                ·simp only [Act.put, s1_, s2_, s3_, i64_w, i32_w]
                 rfl
                refine pu_ 6 (some 36) ?_ #[true, false, false, true, true, false, true, false, false, false] rfl rfl (any_of HT_.out (by kernel_rfl)) (fun _ _ _ h => h) (y_ (by rfl) ?_) ?_ ?_ ?_
                rotate_left
                ·intro w'
                 go_simp
                 with_reducible rfl
                rotate_left
                ·simp only [Act.put, s1_, s2_, s3_, i64_w, i32_w]
                 rfl
                refine take_ (i := 1) (N := some 31) (v := ?_) (a' := ?_) #[true, true, false, true, true, false, true, false, false, false] rfl rfl (take_ofW HT_.out HW_.out (by kernel_rfl)) (fun _ _ _ h => h) (Or.inl ⟨by rfl, ?_⟩) hHeld ?_ ?_
                rotate_left
                ·intro w' _
                 go_simp
                 with_reducible rfl
                rotate_left
                ·simp only [Act.put, s1_, s2_, s3_, i64_w, i32_w]
                 rfl
                refine pu_ 2 (some 32) ?_ #[true, true, true, true, true, false, true, false, false, false] rfl rfl (any_of HT_.out (by kernel_rfl)) (fun _ _ _ h => h) (y_ (by rfl) ?_) ?_ ?_ ?_
                rotate_left
                ·intro w'
                 go_simp
                 with_reducible rfl
                rotate_left
                ·simp only [Act.put, s1_, s2_, s3_, i64_w, i32_w]
                 rfl
                refine join_ (σ := Nat) 1 (bs_ 9 1) (fun s_ => [(35, .int .i64 t104), (7, .pointer (some ⟨s_, 0, none⟩)), (37, .agg #[.int .i64 (wrap64 (bt t0 1)), .int .i64 t104, .int .i64 a1, .string (⟨#[]⟩ : ByteArray)])]) (fun s_ w' => (w'.heap[gb101]? = some (.cells #[.int .i64 0, .int .i64 0, .int .i64 0, .string (⟨#[]⟩ : ByteArray)] 49 (0, 0))) ∧ (w'.heap[s_]? = some (.cells #[.int .i64 0, .int .i64 0, .int .i64 0, .string (⟨#[]⟩ : ByteArray)] 49 (0, 0))) ∧ (w.heap.size ≤ s_) ∧ (w.heap.size ≤ s_) ∧ (gb101 ≠ s_) ∧ (s_ ≠ gb101) ∧ (Below w.heap.size w w')) ?_ ?_
                rotate_left
                ·intro hCont
                 refine two_ (i := 5) (j := 8) (Ni := some 35) (Nj := some 7) (bs_ 7 3) #[true, true, true, true, true, false, true, false, true, false] rfl rfl rfl rfl (two_of HT_.out (by kernel_rfl)) (by decide) (by decide) (fun K hK => ?_) (fun K hK => ?_)
                 ·skip
                  refine goes_ Try.func41 (by kernel_rfl) rfl #[.string (t0.extract 2 t0.size)] (by rfl) rfl rfl (by (try simp only [List.map_toArray, List.map_cons, List.map_nil]); first | done | rfl | (simp only [List.length_drop, List.length_take]; rfl)) ?_
                  with_reducible refine (frame_number.calls (t0.extract 2 t0.size) t104 _ A25.out).mono ?_
                  rintro e w' ⟨rfl, ⟨nd, rfl⟩⟩
                  refine ⟨_, rfl, ?_⟩
                  refine hK.out _ _ trivial (fun hHeld => ?_)
                  clear hK K
                  refine norm_ (a' := ?_) ?_ ?_
                  rotate_left
                  ·show Act.put _ (some 35) _ = _
                   simp only [Act.put, s1_, s2_, s3_, i64_w, i32_w]
                   rfl
                  refine pu_ 7 (some 37) ?_ (bs_ 8 2) rfl rfl (any_of HT_.out (by kernel_rfl)) (fun _ _ _ h => h) (y_ (by rfl) ?_) ?_ ?_ ?_
                  rotate_left
                  ·intro w'
                   go_simp
                   with_reducible rfl
                  rotate_left
                  ·simp only [Act.put, s1_, s2_, s3_, i64_w, i32_w]
                   rfl
                  refine one_ (i := 8) (N := some 7) (bs_ 9 1) rfl rfl (one_of HT_.out (by kernel_rfl)) (by decide) (fun K hK => ?_)
                  refine box_step ?hg (N := 7) ?hd (cs := #[.int .i64 0, .int .i64 0, .int .i64 0, .string (⟨#[]⟩ : ByteArray)]) (t := 49) ?hr ?_; (case hd => rfl); (case hg => rfl); (case hr => first | (go_simp; done) | (go_simp; rfl))
                  intro gb105 hg w80 hbox hb
                  have n0_ := Aside0.mk (blk_below (g := gb101) (o := .cells #[.int .i64 0, .int .i64 0, .int .i64 0, .string (⟨#[]⟩ : ByteArray)] 49 (0, 0)) (by (with_reducible repeat (first | refine blk_drewN ?_ _ | refine blk_drew ?_ | refine blk_alloc ?_ _)); exact BK101.out) hb)
                  have n1_ := Aside0.mk (below_step (by repeat (first | (with_reducible first | exact HB.out | apply below_alloc | apply pw_below_drewN | apply below_drew1 | refine below_set ?_ GE101.out) | exact HB.out)) hb)
                  have n2_ := Aside0.mk (hbox)
                  have n3_ := Aside0.mk ((by rw [hg]; exact (below_size (by repeat (first | (with_reducible first | exact HB.out | apply below_alloc | apply pw_below_drewN | apply below_drew1 | refine below_set ?_ GE101.out) | exact HB.out))) : w.heap.size ≤ gb105))
                  have n4_ := Aside0.mk ((by rw [hg]; exact (below_size (by repeat (first | (with_reducible first | exact HB.out | apply below_alloc | apply pw_below_drewN | apply below_drew1 | refine below_set ?_ GE101.out) | exact HB.out))) : w.heap.size ≤ gb105))
                  have n5_ := Aside0.mk ((by rw [hg]; exact Nat.ne_of_lt (blk_lt (g := gb101) (o := .cells #[.int .i64 0, .int .i64 0, .int .i64 0, .string (⟨#[]⟩ : ByteArray)] 49 (0, 0)) (by (with_reducible repeat (first | refine blk_drewN ?_ _ | refine blk_drew ?_ | refine blk_alloc ?_ _)); exact BK101.out)) : gb101 ≠ gb105))
                  have n6_ := Aside0.mk ((by rw [hg]; exact Nat.ne_of_gt (blk_lt (g := gb101) (o := .cells #[.int .i64 0, .int .i64 0, .int .i64 0, .string (⟨#[]⟩ : ByteArray)] 49 (0, 0)) (by (with_reducible repeat (first | refine blk_drewN ?_ _ | refine blk_drew ?_ | refine blk_alloc ?_ _)); exact BK101.out)) : gb105 ≠ gb101))
                  clear BK101
                  clear HB
                  have BK101 := n0_
                  have HB := n1_
                  have BK105 := n2_
                  have GW105 := n3_
                  have GE105 := n4_
                  have NB101_105 := n5_
                  have NB105_101 := n6_
                  clear n0_ n1_ n2_ n3_ n4_ n5_ n6_
                  clear hb hbox hg
                  refine hK.out _ _ trivial (fun hHeld => ?_)
                  clear hK K
                  refine norm_ (a' := ?_) ?_ ?_
                  rotate_left
                  ·show Act.put _ (some 7) _ = _
                   simp only [Act.put, s1_, s2_, s3_, i64_w, i32_w]
                   rfl
                  exact norm_ (by simp only [putAll, Act.put, s1_, s2_, s3_]) (hCont (gb105) _ ⟨(by (with_reducible repeat (first | refine blk_drewN ?_ _ | refine blk_drew ?_ | refine blk_alloc ?_ _)); exact BK101.out), (by (with_reducible repeat (first | refine blk_drewN ?_ _ | refine blk_drew ?_ | refine blk_alloc ?_ _)); exact BK105.out), GW105.out, GE105.out, NB101_105.out, NB105_101.out, (by repeat (first | (with_reducible first | exact HB.out | apply below_alloc | apply pw_below_drewN | apply below_drew1 | refine below_set ?_ GE101.out | refine below_set ?_ GE105.out) | exact HB.out))⟩)
                 ·skip
                  refine box_step ?hg (N := 7) ?hd (cs := #[.int .i64 0, .int .i64 0, .int .i64 0, .string (⟨#[]⟩ : ByteArray)]) (t := 49) ?hr ?_; (case hd => rfl); (case hg => rfl); (case hr => first | (go_simp; done) | (go_simp; rfl))
                  intro gb105 hg w80 hbox hb
                  have n0_ := Aside0.mk (blk_below (g := gb101) (o := .cells #[.int .i64 0, .int .i64 0, .int .i64 0, .string (⟨#[]⟩ : ByteArray)] 49 (0, 0)) (by (with_reducible repeat (first | refine blk_drewN ?_ _ | refine blk_drew ?_ | refine blk_alloc ?_ _)); exact BK101.out) hb)
                  have n1_ := Aside0.mk (below_step (by repeat (first | (with_reducible first | exact HB.out | apply below_alloc | apply pw_below_drewN | apply below_drew1 | refine below_set ?_ GE101.out) | exact HB.out)) hb)
                  have n2_ := Aside0.mk (hbox)
                  have n3_ := Aside0.mk ((by rw [hg]; exact (below_size (by repeat (first | (with_reducible first | exact HB.out | apply below_alloc | apply pw_below_drewN | apply below_drew1 | refine below_set ?_ GE101.out) | exact HB.out))) : w.heap.size ≤ gb105))
                  have n4_ := Aside0.mk ((by rw [hg]; exact (below_size (by repeat (first | (with_reducible first | exact HB.out | apply below_alloc | apply pw_below_drewN | apply below_drew1 | refine below_set ?_ GE101.out) | exact HB.out))) : w.heap.size ≤ gb105))
                  have n5_ := Aside0.mk ((by rw [hg]; exact Nat.ne_of_lt (blk_lt (g := gb101) (o := .cells #[.int .i64 0, .int .i64 0, .int .i64 0, .string (⟨#[]⟩ : ByteArray)] 49 (0, 0)) (by (with_reducible repeat (first | refine blk_drewN ?_ _ | refine blk_drew ?_ | refine blk_alloc ?_ _)); exact BK101.out)) : gb101 ≠ gb105))
                  have n6_ := Aside0.mk ((by rw [hg]; exact Nat.ne_of_gt (blk_lt (g := gb101) (o := .cells #[.int .i64 0, .int .i64 0, .int .i64 0, .string (⟨#[]⟩ : ByteArray)] 49 (0, 0)) (by (with_reducible repeat (first | refine blk_drewN ?_ _ | refine blk_drew ?_ | refine blk_alloc ?_ _)); exact BK101.out)) : gb105 ≠ gb101))
                  clear BK101
                  clear HB
                  have BK101 := n0_
                  have HB := n1_
                  have BK105 := n2_
                  have GW105 := n3_
                  have GE105 := n4_
                  have NB101_105 := n5_
                  have NB105_101 := n6_
                  clear n0_ n1_ n2_ n3_ n4_ n5_ n6_
                  clear hb hbox hg
                  refine hK.out _ _ trivial (fun hHeld => ?_)
                  clear hK K
                  refine norm_ (a' := ?_) ?_ ?_
                  rotate_left
                  ·show Act.put _ (some 7) _ = _
                   simp only [Act.put, s1_, s2_, s3_, i64_w, i32_w]
                   rfl
                  refine one_ (i := 5) (N := some 35) #[true, true, true, true, true, true, true, false, true, false] rfl rfl (one_of HT_.out (by kernel_rfl)) (by decide) (fun K hK => ?_)
                  refine goes_ Try.func41 (by kernel_rfl) rfl #[.string (t0.extract 2 t0.size)] (by rfl) rfl rfl (by (try simp only [List.map_toArray, List.map_cons, List.map_nil]); first | done | rfl | (simp only [List.length_drop, List.length_take]; rfl)) ?_
                  with_reducible refine (frame_number.calls (t0.extract 2 t0.size) t104 _ A25.out).mono ?_
                  rintro e w' ⟨rfl, ⟨nd, rfl⟩⟩
                  refine ⟨_, rfl, ?_⟩
                  refine hK.out _ _ trivial (fun hHeld => ?_)
                  clear hK K
                  refine norm_ (a' := ?_) ?_ ?_
                  rotate_left
                  ·show Act.put _ (some 35) _ = _
                   simp only [Act.put, s1_, s2_, s3_, i64_w, i32_w]
                   rfl
                  refine pu_ 7 (some 37) ?_ (bs_ 9 1) rfl rfl (any_of HT_.out (by kernel_rfl)) (fun _ _ _ h => h) (y_ (by rfl) ?_) ?_ ?_ ?_
                  rotate_left
                  ·intro w'
                   go_simp
                   with_reducible rfl
                  rotate_left
                  ·simp only [Act.put, s1_, s2_, s3_, i64_w, i32_w]
                   rfl
                  exact norm_ (by simp only [putAll, Act.put, s1_, s2_, s3_]) (hCont (gb105) _ ⟨(by (with_reducible repeat (first | refine blk_drewN ?_ _ | refine blk_drew ?_ | refine blk_alloc ?_ _)); exact BK101.out), (by (with_reducible repeat (first | refine blk_drewN ?_ _ | refine blk_drew ?_ | refine blk_alloc ?_ _)); exact BK105.out), GW105.out, GE105.out, NB101_105.out, NB105_101.out, (by repeat (first | (with_reducible first | exact HB.out | apply below_alloc | apply pw_below_drewN | apply below_drew1 | refine below_set ?_ GE101.out | refine below_set ?_ GE105.out) | exact HB.out))⟩)
                rintro gb105 w81 ⟨h0_, h1_, h2_, h3_, h4_, h5_, h6_⟩
                have n0_ : Aside0 (w81.heap[gb101]? = some (.cells #[.int .i64 0, .int .i64 0, .int .i64 0, .string (⟨#[]⟩ : ByteArray)] 49 (0, 0))) := ⟨h0_⟩
                have n1_ : Aside0 (w81.heap[gb105]? = some (.cells #[.int .i64 0, .int .i64 0, .int .i64 0, .string (⟨#[]⟩ : ByteArray)] 49 (0, 0))) := ⟨h1_⟩
                have n2_ : Aside0 (w.heap.size ≤ gb105) := ⟨h2_⟩
                have n3_ : Aside0 (w.heap.size ≤ gb105) := ⟨h3_⟩
                have n4_ : Aside0 (gb101 ≠ gb105) := ⟨h4_⟩
                have n5_ : Aside0 (gb105 ≠ gb101) := ⟨h5_⟩
                have n6_ : Aside0 (Below w.heap.size w w81) := ⟨h6_⟩
                clear BK101
                clear HB
                clear h0_ h1_ h2_ h3_ h4_ h5_ h6_
                have BK101 := n0_
                have BK105 := n1_
                have GW105 := n2_
                have GE105 := n3_
                have NB101_105 := n4_
                have NB105_101 := n5_
                have HB := n6_
                clear n0_ n1_ n2_ n3_ n4_ n5_ n6_
                have hHeld := trivial
                refine norm_ (a' := ?_) ?_ ?_
                rotate_left
                ·simp only [putAll, Act.put, s1_, s2_, s3_]
                 rfl
                refine one_ (i := 9) (N := none) (bs_ 10 0) rfl rfl (one_of HT_.out (by kernel_rfl)) (by decide) (fun K hK => ?_)
                have hs82 : w81.cell? ⟨gb105, 0, none⟩ = some (.int .i64 0) := (blk_cell BK105.out 0).trans rfl
                have hfs82 := blk_frozen BK105.out 0
                have hns82_0 := NB101_105.out
                have hms82_0 := NB105_101.out
                have hs83 : w81.cell? ⟨gb105, 1, none⟩ = some (.int .i64 0) := (blk_cell BK105.out 1).trans rfl
                have hfs83 := blk_frozen BK105.out 1
                have hns83_0 := NB101_105.out
                have hms83_0 := NB105_101.out
                have hs84 : w81.cell? ⟨gb105, 2, none⟩ = some (.int .i64 0) := (blk_cell BK105.out 2).trans rfl
                have hfs84 := blk_frozen BK105.out 2
                have hns84_0 := NB101_105.out
                have hms84_0 := NB105_101.out
                have hs85 : w81.cell? ⟨gb105, 3, none⟩ = some (.string (⟨#[]⟩ : ByteArray)) := (blk_cell BK105.out 3).trans rfl
                have hfs85 := blk_frozen BK105.out 3
                have hns85_0 := NB101_105.out
                have hms85_0 := NB105_101.out
                refine skip_ (w1 := ?_) (by rfl) rfl ?_ ?_
                rotate_left
                ·go_simp
                 rfl
                refine hK.out _ _ trivial (fun hHeld => ?_)
                clear hK K
                refine done_ (done_of HT_.out (by kernel_rfl)) ?_
                try go_wp2_with (first | ((with_reducible refine gate_callee (f := 41) rfl ?_); refine goesL_ (some 40) rfl rfl Try.func41 (by kernel_rfl) rfl #[.string (t0.extract 6 t0.size)] rfl (by (try simp only [List.map_toArray, List.map_cons, List.map_nil]); first | done | rfl | (simp only [List.length_drop, List.length_take]; rfl)) ?_; (with_reducible refine (frame_number.calls (t0.extract 6 t0.size) t106 _ A27.out).mono ?_); rintro e w' ⟨rfl, ⟨nd, rfl⟩⟩; refine ⟨_, rfl, ?_⟩))
                have n0_ : Aside0 (((((w81.setCell ⟨gb105, 0, none⟩ (.int .i64 (wrap64 (bt t0 1)))).setCell ⟨gb105, 1, none⟩ (.int .i64 t104)).setCell ⟨gb105, 2, none⟩ (.int .i64 a1)).setCell ⟨gb105, 3, none⟩ (.string (⟨#[]⟩ : ByteArray))).heap[gb101]? = some (.cells #[.int .i64 0, .int .i64 0, .int .i64 0, .string (⟨#[]⟩ : ByteArray)] 49 (0, 0))) := ⟨by (with_reducible repeat (first | refine blk_drewN ?_ _ | refine blk_drew ?_ | refine blk_alloc ?_ _)); refine blk_far ?_ NB101_105.out _; (with_reducible repeat (first | refine blk_drewN ?_ _ | refine blk_drew ?_ | refine blk_alloc ?_ _)); refine blk_far ?_ NB101_105.out _; (with_reducible repeat (first | refine blk_drewN ?_ _ | refine blk_drew ?_ | refine blk_alloc ?_ _)); refine blk_far ?_ NB101_105.out _; (with_reducible repeat (first | refine blk_drewN ?_ _ | refine blk_drew ?_ | refine blk_alloc ?_ _)); refine blk_far ?_ NB101_105.out _; (with_reducible repeat (first | refine blk_drewN ?_ _ | refine blk_drew ?_ | refine blk_alloc ?_ _)); exact BK101.out⟩
                have n1_ : Aside0 (((((w81.setCell ⟨gb105, 0, none⟩ (.int .i64 (wrap64 (bt t0 1)))).setCell ⟨gb105, 1, none⟩ (.int .i64 t104)).setCell ⟨gb105, 2, none⟩ (.int .i64 a1)).setCell ⟨gb105, 3, none⟩ (.string (⟨#[]⟩ : ByteArray))).heap[gb105]? = some (.cells #[.int .i64 (wrap64 (bt t0 1)), .int .i64 t104, .int .i64 a1, .string (⟨#[]⟩ : ByteArray)] 49 (0, 0))) := ⟨by (with_reducible repeat (first | refine blk_drewN ?_ _ | refine blk_drew ?_ | refine blk_alloc ?_ _)); refine blk_put (cs := #[.int .i64 (wrap64 (bt t0 1)), .int .i64 t104, .int .i64 a1, .string (⟨#[]⟩ : ByteArray)]) ?_ 3 _ rfl; (with_reducible repeat (first | refine blk_drewN ?_ _ | refine blk_drew ?_ | refine blk_alloc ?_ _)); refine blk_put (cs := #[.int .i64 (wrap64 (bt t0 1)), .int .i64 t104, .int .i64 0, .string (⟨#[]⟩ : ByteArray)]) ?_ 2 _ rfl; (with_reducible repeat (first | refine blk_drewN ?_ _ | refine blk_drew ?_ | refine blk_alloc ?_ _)); refine blk_put (cs := #[.int .i64 (wrap64 (bt t0 1)), .int .i64 0, .int .i64 0, .string (⟨#[]⟩ : ByteArray)]) ?_ 1 _ rfl; (with_reducible repeat (first | refine blk_drewN ?_ _ | refine blk_drew ?_ | refine blk_alloc ?_ _)); refine blk_put (cs := #[.int .i64 0, .int .i64 0, .int .i64 0, .string (⟨#[]⟩ : ByteArray)]) ?_ 0 _ rfl; (with_reducible repeat (first | refine blk_drewN ?_ _ | refine blk_drew ?_ | refine blk_alloc ?_ _)); exact BK105.out⟩
                have n2_ : Aside0 (Below w.heap.size w ((((w81.setCell ⟨gb105, 0, none⟩ (.int .i64 (wrap64 (bt t0 1)))).setCell ⟨gb105, 1, none⟩ (.int .i64 t104)).setCell ⟨gb105, 2, none⟩ (.int .i64 a1)).setCell ⟨gb105, 3, none⟩ (.string (⟨#[]⟩ : ByteArray)))) := ⟨by repeat (first | (with_reducible first | exact HB.out | apply below_alloc | apply pw_below_drewN | apply below_drew1 | refine below_set ?_ GE101.out | refine below_set ?_ GE105.out) | exact HB.out)⟩
                (try clear BK101)
                (try clear BK105)
                (try clear HB)
                generalize ((((w81.setCell ⟨gb105, 0, none⟩ (.int .i64 (wrap64 (bt t0 1)))).setCell ⟨gb105, 1, none⟩ (.int .i64 t104)).setCell ⟨gb105, 2, none⟩ (.int .i64 a1)).setCell ⟨gb105, 3, none⟩ (.string (⟨#[]⟩ : ByteArray))) = w86 at n0_ n1_ n2_ ⊢
                have BK101 := n0_
                have BK105 := n1_
                have HB := n2_
                clear n0_ n1_ n2_
                (try (rw [drewN_self w86]; generalize hq_ : World.drewN w86 _ = w86; have n0_ : Aside0 (w86.heap[gb101]? = some (.cells #[.int .i64 0, .int .i64 0, .int .i64 0, .string (⟨#[]⟩ : ByteArray)] 49 (0, 0))) := ⟨by rw [← hq_]; exact (by (with_reducible repeat (first | refine blk_drewN ?_ _ | refine blk_drew ?_ | refine blk_alloc ?_ _)); exact BK101.out)⟩; have n1_ : Aside0 (w86.heap[gb105]? = some (.cells #[.int .i64 (wrap64 (bt t0 1)), .int .i64 t104, .int .i64 a1, .string (⟨#[]⟩ : ByteArray)] 49 (0, 0))) := ⟨by rw [← hq_]; exact (by (with_reducible repeat (first | refine blk_drewN ?_ _ | refine blk_drew ?_ | refine blk_alloc ?_ _)); exact BK105.out)⟩; have n2_ : Aside0 (Below w.heap.size w w86) := ⟨by rw [← hq_]; exact (by repeat (first | (with_reducible first | exact HB.out | apply below_alloc | apply pw_below_drewN | apply below_drew1 | refine below_set ?_ GE101.out | refine below_set ?_ GE105.out) | exact HB.out))⟩; clear BK101 BK105 HB hq_; have BK101 := n0_; have BK105 := n1_; have HB := n2_; clear n0_ n1_ n2_))
                have n0_ := Aside0.mk (blk_drew BK101.out)
                have n1_ := Aside0.mk (blk_drew BK105.out)
                have n2_ := Aside0.mk (below_drew1 HB.out)
                clear BK101
                clear BK105
                clear HB
                have BK101 := n0_
                have BK105 := n1_
                have HB := n2_
                clear n0_ n1_ n2_
                refine start_ (n := 33) (S := fun w' => w'.cell? ⟨gb105, 0, none⟩ = some (.int .i64 (wrap64 (bt t0 1))) ∧ w'.cell? ⟨gb105, 1, none⟩ = some (.int .i64 t104) ∧ w'.cell? ⟨gb105, 2, none⟩ = some (.int .i64 a1) ∧ w'.cell? ⟨gb105, 3, none⟩ = some (.string (⟨#[]⟩ : ByteArray))) (ds := []) (bs_ 0 33) (by kernel_rfl) rfl rfl ⟨(blk_cell BK105.out 0).trans rfl, (blk_cell BK105.out 1).trans rfl, (blk_cell BK105.out 2).trans rfl, (blk_cell BK105.out 3).trans rfl⟩ (fun hHeld => ?_); refine with_tabW frame_read.tab6 frame_read.bits6 (fun HT_ HW_ => ?_)
                generalize w86.drew = w87 at BK101 BK105 HB hHeld ⊢
                refine pu_ 0 (some 42) ?_ (bs_ 1 32) rfl rfl (any_of HT_.out (by kernel_rfl)) (fun _ _ _ h => h) (y_ (by rfl) ?_) ?_ ?_ ?_
                rotate_left
                ·intro w'
                 go_simp
                 with_reducible rfl
                rotate_left
                ·simp only [Act.put, s1_, s2_, s3_, i64_w, i32_w]
                 rfl
                refine take_ (i := 1) (N := some 43) (v := ?_) (a' := ?_) (bs_ 2 31) rfl rfl (take_ofW HT_.out HW_.out (by kernel_rfl)) (fun _ _ _ h => h) (Or.inl ⟨by rfl, ?_⟩) hHeld ?_ ?_
                rotate_left
                ·rintro w' ⟨s0, s1, s2, s3⟩
                 go_simp
                 with_reducible rfl
                rotate_left
                ·simp only [Act.put, s1_, s2_, s3_, i64_w, i32_w]
                 rfl
                refine one_ (i := 2) (N := some 44) (bs_ 3 30) rfl rfl (one_of HT_.out (by kernel_rfl)) (by decide) (fun K hK => ?_)
                refine goes_ Try.func32 (by kernel_rfl) rfl #[.int .i64 (wrap64 (bt t0 1))] (by rfl) rfl rfl (by (try simp only [List.map_toArray, List.map_cons, List.map_nil]); first | done | rfl | (simp only [List.length_drop, List.length_take]; rfl)) ?_
                with_reducible refine (frame_isKind.calls (wrap64 (bt t0 1)) true _ A28.out).mono ?_
                rintro e w' ⟨rfl, ⟨nd, rfl⟩⟩
                refine ⟨_, rfl, ?_⟩
                refine hK.out _ _ ⟨(blk_cell BK105.out 0).trans rfl, (blk_cell BK105.out 1).trans rfl, (blk_cell BK105.out 2).trans rfl, (blk_cell BK105.out 3).trans rfl⟩ (fun hHeld => ?_)
                clear hK K
                refine norm_ (a' := ?_) ?_ ?_
                rotate_left
                ·show Act.put _ (some 44) _ = _
                 simp only [Act.put, s1_, s2_, s3_, i64_w, i32_w]
                 rfl
                refine pu_ 3 (some 45) ?_ (bs_ 4 29) rfl rfl (any_of HT_.out (by kernel_rfl)) (fun _ _ _ h => h) (y_ (by rfl) ?_) ?_ ?_ ?_
                rotate_left
                ·intro w'
                 go_simp
                 with_reducible rfl
                rotate_left
                ·simp only [Act.put, s1_, s2_, s3_, i64_w, i32_w]
                 rfl
                refine pu_ 4 (some 46) ?_ (bs_ 5 28) rfl rfl (any_of HT_.out (by kernel_rfl)) (fun _ _ _ h => h) (y_ (by rfl) ?_) ?_ ?_ ?_
                rotate_left
                ·intro w'
                 go_simp
                 with_reducible rfl
                rotate_left
                ·simp only [Act.put, s1_, s2_, s3_, i64_w, i32_w]
                 rfl
                refine pu_ 5 (some 47) ?_ (bs_ 6 27) rfl rfl (any_of HT_.out (by kernel_rfl)) (fun _ _ _ h => h) (y_ (by rfl) ?_) ?_ ?_ ?_
                rotate_left
                ·intro w'
                 go_simp
                 with_reducible rfl
                rotate_left
                ·simp only [Act.put, s1_, s2_, s3_, i64_w, i32_w]
                 rfl
                refine take_ (i := 6) (N := some 48) (v := ?_) (a' := ?_) (bs_ 7 26) rfl rfl (take_ofW HT_.out HW_.out (by kernel_rfl)) (fun _ _ _ h => h) (Or.inl ⟨by rfl, ?_⟩) hHeld ?_ ?_
                rotate_left
                ·rintro w' ⟨s0, s1, s2, s3⟩
                 go_simp
                 with_reducible rfl
                rotate_left
                ·simp only [Act.put, s1_, s2_, s3_, i64_w, i32_w]
                 rfl
                refine one_ (i := 7) (N := some 49) (bs_ 8 25) rfl rfl (one_of HT_.out (by kernel_rfl)) (by decide) (fun K hK => ?_)
                refine goes_ Try.func33 (by kernel_rfl) rfl #[.int .i64 t104] (by rfl) rfl rfl (by (try simp only [List.map_toArray, List.map_cons, List.map_nil]); first | done | rfl | (simp only [List.length_drop, List.length_take]; rfl)) ?_
                with_reducible refine (frame_isNumber.calls t104 true _ A30.out).mono ?_
                rintro e w' ⟨rfl, ⟨nd, rfl⟩⟩
                refine ⟨_, rfl, ?_⟩
                refine hK.out _ _ ⟨(blk_cell BK105.out 0).trans rfl, (blk_cell BK105.out 1).trans rfl, (blk_cell BK105.out 2).trans rfl, (blk_cell BK105.out 3).trans rfl⟩ (fun hHeld => ?_)
                clear hK K
                refine norm_ (a' := ?_) ?_ ?_
                rotate_left
                ·show Act.put _ (some 49) _ = _
                 simp only [Act.put, s1_, s2_, s3_, i64_w, i32_w]
                 rfl
                refine pu_ 8 (some 50) ?_ (bs_ 9 24) rfl rfl (any_of HT_.out (by kernel_rfl)) (fun _ _ _ h => h) (y_ (by rfl) ?_) ?_ ?_ ?_
                rotate_left
                ·intro w'
                 go_simp
                 with_reducible rfl
                rotate_left
                ·simp only [Act.put, s1_, s2_, s3_, i64_w, i32_w]
                 rfl
                refine pu_ 9 (some 51) ?_ (bs_ 10 23) rfl rfl (any_of HT_.out (by kernel_rfl)) (fun _ _ _ h => h) (y_ (by rfl) ?_) ?_ ?_ ?_
                rotate_left
                ·intro w'
                 go_simp
                 with_reducible rfl
                rotate_left
                ·simp only [Act.put, s1_, s2_, s3_, i64_w, i32_w]
                 rfl
                refine pu_ 10 (some 52) ?_ (bs_ 11 22) rfl rfl (any_of HT_.out (by kernel_rfl)) (fun _ _ _ h => h) (y_ (by rfl) ?_) ?_ ?_ ?_
                rotate_left
                ·intro w'
                 go_simp
                 with_reducible rfl
                rotate_left
                ·simp only [Act.put, s1_, s2_, s3_, i64_w, i32_w]
                 rfl
                refine pu_ 11 (some 53) ?_ (bs_ 12 21) rfl rfl (any_of HT_.out (by kernel_rfl)) (fun _ _ _ h => h) (y_ (by rfl) ?_) ?_ ?_ ?_
                rotate_left
                ·intro w'
                 go_simp
                 with_reducible rfl
                rotate_left
                ·simp only [Act.put, s1_, s2_, s3_, i64_w, i32_w]
                 rfl
                refine pu_ 12 (some 54) ?_ (bs_ 13 20) rfl rfl (any_of HT_.out (by kernel_rfl)) (fun _ _ _ h => h) (y_ (by rfl) ?_) ?_ ?_ ?_
                rotate_left
                ·intro w'
                 go_simp
                 with_reducible rfl
                rotate_left
                ·simp only [Act.put, s1_, s2_, s3_, i64_w, i32_w]
                 rfl
                refine pu_ 13 (some 55) ?_ (bs_ 14 19) rfl rfl (any_of HT_.out (by kernel_rfl)) (fun _ _ _ h => h) (y_ (by rfl) ?_) ?_ ?_ ?_
                rotate_left
                ·intro w'
                 go_simp
                 with_reducible rfl
                rotate_left
                ·simp only [Act.put, s1_, s2_, s3_, i64_w, i32_w]
                 rfl
                refine pu_ 14 (some 56) ?_ (bs_ 15 18) rfl rfl (any_of HT_.out (by kernel_rfl)) (fun _ _ _ h => h) (y_ (by rfl) ?_) ?_ ?_ ?_
                rotate_left
                ·intro w'
                 go_simp
                 with_reducible rfl
                rotate_left
                ·simp only [Act.put, s1_, s2_, s3_, i64_w, i32_w]
                 rfl
                refine pu_ 15 (some 57) ?_ (bs_ 16 17) rfl rfl (any_of HT_.out (by kernel_rfl)) (fun _ _ _ h => h) (y_ (by rfl) ?_) ?_ ?_ ?_
                rotate_left
                ·intro w'
                 go_simp
                 with_reducible rfl
                rotate_left
                ·simp only [Act.put, s1_, s2_, s3_, i64_w, i32_w]
                 rfl
                refine pu_ 16 (some 58) ?_ (bs_ 17 16) rfl rfl (any_of HT_.out (by kernel_rfl)) (fun _ _ _ h => h) (y_ (by rfl) ?_) ?_ ?_ ?_
                rotate_left
                ·intro w'
                 go_simp
                 with_reducible rfl
                rotate_left
                ·simp only [Act.put, s1_, s2_, s3_, i64_w, i32_w]
                 rfl
                refine pu_ 17 (some 59) ?_ (bs_ 18 15) rfl rfl (any_of HT_.out (by kernel_rfl)) (fun _ _ _ h => h) (y_ (by rfl) ?_) ?_ ?_ ?_
                rotate_left
                ·intro w'
                 go_simp
                 with_reducible rfl
                rotate_left
                ·simp only [Act.put, s1_, s2_, s3_, i64_w, i32_w]
                 rfl
                refine pu_ 18 (some 60) ?_ (bs_ 19 14) rfl rfl (any_of HT_.out (by kernel_rfl)) (fun _ _ _ h => h) (y_ (by rfl) ?_) ?_ ?_ ?_
                rotate_left
                ·intro w'
                 go_simp
                 with_reducible rfl
                rotate_left
                ·simp only [Act.put, s1_, s2_, s3_, i64_w, i32_w]
                 rfl
                refine pu_ 19 (some 61) ?_ (bs_ 20 13) rfl rfl (any_of HT_.out (by kernel_rfl)) (fun _ _ _ h => h) (y_ (by rfl) ?_) ?_ ?_ ?_
                rotate_left
                ·intro w'
                 go_simp
                 with_reducible rfl
                rotate_left
                ·simp only [Act.put, s1_, s2_, s3_, i64_w, i32_w]
                 rfl
                refine pu_ 20 (some 62) ?_ (bs_ 21 12) rfl rfl (any_of HT_.out (by kernel_rfl)) (fun _ _ _ h => h) (y_ (by rfl) ?_) ?_ ?_ ?_
                rotate_left
                ·intro w'
                 go_simp
                 with_reducible rfl
                rotate_left
                ·simp only [Act.put, s1_, s2_, s3_, i64_w, i32_w]
                 rfl
                refine pu_ 21 (some 63) ?_ (bs_ 22 11) rfl rfl (any_of HT_.out (by kernel_rfl)) (fun _ _ _ h => h) (y_ (by rfl) ?_) ?_ ?_ ?_
                rotate_left
                ·intro w'
                 go_simp
                 with_reducible rfl
                rotate_left
                ·simp only [Act.put, s1_, s2_, s3_, i64_w, i32_w]
                 rfl
                refine pu_ 22 (some 64) ?_ (bs_ 23 10) rfl rfl (any_of HT_.out (by kernel_rfl)) (fun _ _ _ h => h) (y_ (by rfl) ?_) ?_ ?_ ?_
                rotate_left
                ·intro w'
                 go_simp
                 with_reducible rfl
                rotate_left
                ·simp only [Act.put, s1_, s2_, s3_, i64_w, i32_w]
                 rfl
                refine pu_ 23 (some 65) ?_ (bs_ 24 9) rfl rfl (any_of HT_.out (by kernel_rfl)) (fun _ _ _ h => h) (y_ (by rfl) ?_) ?_ ?_ ?_
                rotate_left
                ·intro w'
                 go_simp
                 with_reducible rfl
                rotate_left
                ·simp only [Act.put, s1_, s2_, s3_, i64_w, i32_w]
                 rfl
                refine pu_ 24 (some 66) ?_ (bs_ 25 8) rfl rfl (any_of HT_.out (by kernel_rfl)) (fun _ _ _ h => h) (y_ (by rfl) ?_) ?_ ?_ ?_
                rotate_left
                ·intro w'
                 go_simp
                 with_reducible rfl
                rotate_left
                ·simp only [Act.put, s1_, s2_, s3_, i64_w, i32_w]
                 rfl
                refine pu_ 25 (some 67) ?_ (bs_ 26 7) rfl rfl (any_of HT_.out (by kernel_rfl)) (fun _ _ _ h => h) (y_ (by rfl) ?_) ?_ ?_ ?_
                rotate_left
                ·intro w'
                 go_simp
                 with_reducible rfl
                rotate_left
                ·simp only [Act.put, s1_, s2_, s3_, i64_w, i32_w]
                 rfl
                refine pu_ 27 (some 69) ?_ #[true, true, true, true, true, true, true, true, true, true, true, true, true, true, true, true, true, true, true, true, true, true, true, true, true, true, false, true, false, false, false, false, false] rfl rfl (any_of HT_.out (by kernel_rfl)) (fun _ _ _ h => h) (y_ (by rfl) ?_) ?_ ?_ ?_
                rotate_left
                ·intro w'
                 go_simp
                 with_reducible rfl
                rotate_left
                ·simp only [Act.put, s1_, s2_, s3_, i64_w, i32_w]
                 rfl
                refine pu_ 28 (some 70) ?_ #[true, true, true, true, true, true, true, true, true, true, true, true, true, true, true, true, true, true, true, true, true, true, true, true, true, true, false, true, true, false, false, false, false] rfl rfl (any_of HT_.out (by kernel_rfl)) (fun _ _ _ h => h) (y_ (by rfl) ?_) ?_ ?_ ?_
                rotate_left
                ·intro w'
                 go_simp
                 with_reducible rfl
                rotate_left
                ·simp only [Act.put, s1_, s2_, s3_, i64_w, i32_w]
                 rfl
                refine pu_ 29 (some 71) ?_ #[true, true, true, true, true, true, true, true, true, true, true, true, true, true, true, true, true, true, true, true, true, true, true, true, true, true, false, true, true, true, false, false, false] rfl rfl (any_of HT_.out (by kernel_rfl)) (fun _ _ _ h => h) (y_ (by rfl) ?_) ?_ ?_ ?_
                rotate_left
                ·intro w'
                 go_simp
                 with_reducible rfl
                rotate_left
                ·simp only [Act.put, s1_, s2_, s3_, i64_w, i32_w]
                 rfl
                refine one_ (i := 26) (N := some 68) (bs_ 30 3) rfl rfl (one_of HT_.out (by kernel_rfl)) (by decide) (fun K hK => ?_)
                refine goes_ Try.func41 (by kernel_rfl) rfl #[.string (t0.extract ((ji56) : Int).toNat t0.size)] (by rfl) rfl rfl (by (try simp only [List.map_toArray, List.map_cons, List.map_nil]); first | done | (simp only [hji56]; rfl) | rfl | (simp only [List.length_drop, List.length_take]; rfl)) ?_
                with_reducible refine (frame_number.calls (t0.extract ((ji56) : Int).toNat t0.size) t109 _ A59.out).mono ?_
                rintro e w' ⟨rfl, ⟨nd, rfl⟩⟩
                refine ⟨_, rfl, ?_⟩
                refine hK.out _ _ ⟨(blk_cell BK105.out 0).trans rfl, (blk_cell BK105.out 1).trans rfl, (blk_cell BK105.out 2).trans rfl, (blk_cell BK105.out 3).trans rfl⟩ (fun hHeld => ?_)
                clear hK K
                refine norm_ (a' := ?_) ?_ ?_
                rotate_left
                ·show Act.put _ (some 68) _ = _
                 simp only [Act.put, s1_, s2_, s3_, i64_w, i32_w]
                 rfl
                refine one_ (i := 30) (N := some 72) (bs_ 31 2) rfl rfl (one_of HT_.out (by kernel_rfl)) (by decide) (fun K hK => ?_)
                refine goes_ Try.func12 (by kernel_rfl) rfl #[.string (t0.extract 0 ((ji56) : Int).toNat)] (by rfl) rfl rfl (by (try simp only [List.map_toArray, List.map_cons, List.map_nil]); first | done | (simp only [hji56]; rfl) | rfl | (simp only [List.length_drop, List.length_take]; rfl)) ?_
                with_reducible refine (frame_Sum.calls (t0.extract 0 ((ji56) : Int).toNat) t110 _ A62.out).mono ?_
                rintro e w88 ⟨rfl, hb⟩
                refine ⟨_, rfl, ?_⟩
                have n0_ := Aside0.mk (blk_below (g := gb101) (o := .cells #[.int .i64 0, .int .i64 0, .int .i64 0, .string (⟨#[]⟩ : ByteArray)] 49 (0, 0)) (by (with_reducible repeat (first | refine blk_drewN ?_ _ | refine blk_drew ?_ | refine blk_alloc ?_ _)); exact BK101.out) hb)
                have n1_ := Aside0.mk (blk_below (g := gb105) (o := .cells #[.int .i64 (wrap64 (bt t0 1)), .int .i64 t104, .int .i64 a1, .string (⟨#[]⟩ : ByteArray)] 49 (0, 0)) (by (with_reducible repeat (first | refine blk_drewN ?_ _ | refine blk_drew ?_ | refine blk_alloc ?_ _)); exact BK105.out) hb)
                have n2_ := Aside0.mk (below_step (by repeat (first | (with_reducible first | exact HB.out | apply below_alloc | apply pw_below_drewN | apply below_drew1 | refine below_set ?_ GE101.out | refine below_set ?_ GE105.out) | exact HB.out)) hb)
                clear BK101
                clear BK105
                clear HB
                have BK101 := n0_
                have BK105 := n1_
                have HB := n2_
                clear n0_ n1_ n2_
                (try clear hb)
                (try clear hb2)
                (try clear hk)
                (try clear hi)
                refine hK.out _ _ ⟨(blk_cell BK105.out 0).trans rfl, (blk_cell BK105.out 1).trans rfl, (blk_cell BK105.out 2).trans rfl, (blk_cell BK105.out 3).trans rfl⟩ (fun hHeld => ?_)
                clear hK K
                refine norm_ (a' := ?_) ?_ ?_
                rotate_left
                ·show Act.put _ (some 72) _ = _
                 simp only [Act.put, s1_, s2_, s3_, i64_w, i32_w]
                 rfl
                refine pu_ 31 (some 73) ?_ (bs_ 32 1) rfl rfl (any_of HT_.out (by kernel_rfl)) (fun _ _ _ h => h) (y_ (by rfl) ?_) ?_ ?_ ?_
                rotate_left
                ·intro w'
                 go_simp
                 with_reducible rfl
                rotate_left
                ·simp only [Act.put, s1_, s2_, s3_, i64_w, i32_w]
                 rfl
                refine pu_ 32 (some 74) ?_ (bs_ 33 0) rfl rfl (any_of HT_.out (by kernel_rfl)) (fun _ _ _ h => h) (y_ (by rfl) ?_) ?_ ?_ ?_
                rotate_left
                ·intro w'
                 go_simp
                 with_reducible rfl
                rotate_left
                ·simp only [Act.put, s1_, s2_, s3_, i64_w, i32_w]
                 rfl
                refine done_ (done_of HT_.out (by kernel_rfl)) ?_
                have hnb89 := NB101_105.out
                have hnc89 := NB105_101.out
                have hcz90_0 : w88.cell? ⟨gb101, 0, none⟩ = some (.int .i64 0) := (blk_cell BK101.out 0).trans rfl
                have hcz90_1 : w88.cell? ⟨gb101, 1, none⟩ = some (.int .i64 0) := (blk_cell BK101.out 1).trans rfl
                have hcz90_2 : w88.cell? ⟨gb101, 2, none⟩ = some (.int .i64 0) := (blk_cell BK101.out 2).trans rfl
                have hcz90_3 : w88.cell? ⟨gb101, 3, none⟩ = some (.string (⟨#[]⟩ : ByteArray)) := (blk_cell BK101.out 3).trans rfl
                have hfz90_0 := blk_frozen BK101.out 0
                have hfz90_1 := blk_frozen BK101.out 1
                have hfz90_2 := blk_frozen BK101.out 2
                have hfz90_3 := blk_frozen BK101.out 3
                try go_wp2
                refine bodyPost_ret (results_ctt rfl _ _ gb101 49 #[.int .i64 0, .int .i64 0, .int .i64 0, .string (⟨#[]⟩ : ByteArray)] (0, 0) _ rfl (by (with_reducible repeat (first | refine blk_drewN ?_ _ | refine blk_drew ?_ | refine blk_alloc ?_ _)); refine blk_put (cs := #[.int .i64 0, .int .i64 0, .int .i64 0, .string (⟨#[]⟩ : ByteArray)]) ?_ 3 _ rfl; (with_reducible repeat (first | refine blk_drewN ?_ _ | refine blk_drew ?_ | refine blk_alloc ?_ _)); refine blk_put (cs := #[.int .i64 0, .int .i64 0, .int .i64 0, .string (⟨#[]⟩ : ByteArray)]) ?_ 2 _ rfl; (with_reducible repeat (first | refine blk_drewN ?_ _ | refine blk_drew ?_ | refine blk_alloc ?_ _)); refine blk_put (cs := #[.int .i64 0, .int .i64 0, .int .i64 0, .string (⟨#[]⟩ : ByteArray)]) ?_ 1 _ rfl; (with_reducible repeat (first | refine blk_drewN ?_ _ | refine blk_drew ?_ | refine blk_alloc ?_ _)); refine blk_put (cs := #[.int .i64 0, .int .i64 0, .int .i64 0, .string (⟨#[]⟩ : ByteArray)]) ?_ 0 _ rfl; (with_reducible repeat (first | refine blk_drewN ?_ _ | refine blk_drew ?_ | refine blk_alloc ?_ _)); exact BK101.out) Try.underlying49 rfl (by kernel_rfl)) rfl ?_
                exact ⟨by first | rfl | (simp [errW_none, errW_some] <;> rfl) | (simp only [← hji56]; first | rfl | (simp [errW_none, errW_some] <;> rfl)) | (simp [*, errW_none, errW_some] <;> rfl), by repeat (first | (with_reducible first | exact HB.out | apply below_alloc | apply pw_below_drewN | apply below_drew1 | refine below_set ?_ GE101.out | refine below_set ?_ GE105.out) | exact HB.out)⟩
              ·rw [if_neg c58] at H
               exact absurd H (by simp)
             ·rw [if_neg c57] at H
              exact absurd H (by simp)
          ·replace c31 := Bool.eq_false_iff.mpr c31
           subst c31
           have H1 : (some (0, 0, 0, (⟨#[]⟩ : ByteArray), 0, false)) = some (r1, r2, r3, r4, r5, r6) := by rw [if_neg (show ¬ (false = true) by decide)] at H; exact H
           clear H
           have H := H1
           clear H1
           simp only [Option.some.injEq, Prod.mk.injEq] at H
           obtain ⟨rfl, rfl, rfl, rfl, rfl, rfl⟩ := H
           try go_wp2
           have n0_ := Aside0.mk (blk_drew BK101.out)
           have n1_ := Aside0.mk (below_drew1 HB.out)
           clear BK101
           clear HB
           have BK101 := n0_
           have HB := n1_
           clear n0_ n1_
           have p23 : 0 ≤ (1 : Int) := (by omega)
           have q23 : 1 < t0.size := (by have : (1 : Int) < (t0.size : Int) := of_decide_eq_true (by first | (with_reducible assumption) | assumption); omega)
           have hx23 : ∀ h : 1 < t0.size, ((t0[1]'h).toNat : Int) = bt t0 1 := bt_at t0 1
           clear p23
           have qi23 : (1 < (t0.size : Int)) = True := eq_true (of_decide_eq_true (by first | (with_reducible assumption) | assumption))
           replace q23 := eq_true q23
           refine start_ (n := 10) (S := fun w' => True) (ds := []) (bs_ 0 10) (by kernel_rfl) rfl rfl trivial (fun hHeld => ?_); refine with_tabW frame_read.tab4 frame_read.bits4 (fun HT_ HW_ => ?_)
           generalize wc.drew = w91 at BK101 HB hHeld ⊢
           refine pu_ 0 (some 30) ?_ (bs_ 1 9) rfl rfl (any_of HT_.out (by kernel_rfl)) (fun _ _ _ h => h) (y_ (by rfl) ?_) ?_ ?_ ?_
           rotate_left
           ·intro w'
            go_simp
            with_reducible rfl
           rotate_left
           ·simp only [Act.put, s1_, s2_, s3_, i64_w, i32_w]
            rfl
           refine pu_ 3 (some 33) ?_ #[true, false, false, true, false, false, false, false, false, false] rfl rfl (any_of HT_.out (by kernel_rfl)) (fun _ _ _ h => h) (y_ (by rfl) ?_) ?_ ?_ ?_
           rotate_left
           ·intro w'
            go_simp
            with_reducible rfl
           rotate_left
           ·simp only [Act.put, s1_, s2_, s3_, i64_w, i32_w]
            rfl
           refine pu_ 4 (some 34) ?_ #[true, false, false, true, true, false, false, false, false, false] rfl rfl (any_of HT_.out (by kernel_rfl)) (fun _ _ _ h => h) (y_ (by rfl) ?_) ?_ ?_ ?_
           rotate_left
           ·intro w'
            go_simp
            with_reducible rfl
           rotate_left
           ·simp only [Act.put, s1_, s2_, s3_, i64_w, i32_w]
            rfl
           refine pu_ 6 (some 36) ?_ #[true, false, false, true, true, false, true, false, false, false] rfl rfl (any_of HT_.out (by kernel_rfl)) (fun _ _ _ h => h) (y_ (by rfl) ?_) ?_ ?_ ?_
           rotate_left
           ·intro w'
            go_simp
            with_reducible rfl
           rotate_left
           ·simp only [Act.put, s1_, s2_, s3_, i64_w, i32_w]
            rfl
           refine take_ (i := 1) (N := some 31) (v := ?_) (a' := ?_) #[true, true, false, true, true, false, true, false, false, false] rfl rfl (take_ofW HT_.out HW_.out (by kernel_rfl)) (fun _ _ _ h => h) (Or.inl ⟨by rfl, ?_⟩) hHeld ?_ ?_
           rotate_left
           ·intro w' _
            go_simp
            with_reducible rfl
           rotate_left
           ·simp only [Act.put, s1_, s2_, s3_, i64_w, i32_w]
            rfl
           refine pu_ 2 (some 32) ?_ #[true, true, true, true, true, false, true, false, false, false] rfl rfl (any_of HT_.out (by kernel_rfl)) (fun _ _ _ h => h) (y_ (by rfl) ?_) ?_ ?_ ?_
           rotate_left
           ·intro w'
            go_simp
            with_reducible rfl
           rotate_left
           ·simp only [Act.put, s1_, s2_, s3_, i64_w, i32_w]
            rfl
           refine join_ (σ := Nat) 1 (bs_ 9 1) (fun s_ => [(35, .int .i64 t104), (7, .pointer (some ⟨s_, 0, none⟩)), (37, .agg #[.int .i64 (wrap64 (bt t0 1)), .int .i64 t104, .int .i64 a1, .string (⟨#[]⟩ : ByteArray)])]) (fun s_ w' => (w'.heap[gb101]? = some (.cells #[.int .i64 0, .int .i64 0, .int .i64 0, .string (⟨#[]⟩ : ByteArray)] 49 (0, 0))) ∧ (w'.heap[s_]? = some (.cells #[.int .i64 0, .int .i64 0, .int .i64 0, .string (⟨#[]⟩ : ByteArray)] 49 (0, 0))) ∧ (w.heap.size ≤ s_) ∧ (w.heap.size ≤ s_) ∧ (gb101 ≠ s_) ∧ (s_ ≠ gb101) ∧ (Below w.heap.size w w')) ?_ ?_
           rotate_left
           ·intro hCont
            refine two_ (i := 5) (j := 8) (Ni := some 35) (Nj := some 7) (bs_ 7 3) #[true, true, true, true, true, false, true, false, true, false] rfl rfl rfl rfl (two_of HT_.out (by kernel_rfl)) (by decide) (by decide) (fun K hK => ?_) (fun K hK => ?_)
            ·skip
             refine goes_ Try.func41 (by kernel_rfl) rfl #[.string (t0.extract 2 t0.size)] (by rfl) rfl rfl (by (try simp only [List.map_toArray, List.map_cons, List.map_nil]); first | done | rfl | (simp only [List.length_drop, List.length_take]; rfl)) ?_
             with_reducible refine (frame_number.calls (t0.extract 2 t0.size) t104 _ A25.out).mono ?_
             rintro e w' ⟨rfl, ⟨nd, rfl⟩⟩
             refine ⟨_, rfl, ?_⟩
             refine hK.out _ _ trivial (fun hHeld => ?_)
             clear hK K
             refine norm_ (a' := ?_) ?_ ?_
             rotate_left
             ·show Act.put _ (some 35) _ = _
              simp only [Act.put, s1_, s2_, s3_, i64_w, i32_w]
              rfl
             refine pu_ 7 (some 37) ?_ (bs_ 8 2) rfl rfl (any_of HT_.out (by kernel_rfl)) (fun _ _ _ h => h) (y_ (by rfl) ?_) ?_ ?_ ?_
             rotate_left
             ·intro w'
              go_simp
              with_reducible rfl
             rotate_left
             ·simp only [Act.put, s1_, s2_, s3_, i64_w, i32_w]
              rfl
             refine one_ (i := 8) (N := some 7) (bs_ 9 1) rfl rfl (one_of HT_.out (by kernel_rfl)) (by decide) (fun K hK => ?_)
             refine box_step ?hg (N := 7) ?hd (cs := #[.int .i64 0, .int .i64 0, .int .i64 0, .string (⟨#[]⟩ : ByteArray)]) (t := 49) ?hr ?_; (case hd => rfl); (case hg => rfl); (case hr => first | (go_simp; done) | (go_simp; rfl))
             intro gb105 hg w92 hbox hb
             have n0_ := Aside0.mk (blk_below (g := gb101) (o := .cells #[.int .i64 0, .int .i64 0, .int .i64 0, .string (⟨#[]⟩ : ByteArray)] 49 (0, 0)) (by (with_reducible repeat (first | refine blk_drewN ?_ _ | refine blk_drew ?_ | refine blk_alloc ?_ _)); exact BK101.out) hb)
             have n1_ := Aside0.mk (below_step (by repeat (first | (with_reducible first | exact HB.out | apply below_alloc | apply pw_below_drewN | apply below_drew1 | refine below_set ?_ GE101.out) | exact HB.out)) hb)
             have n2_ := Aside0.mk (hbox)
             have n3_ := Aside0.mk ((by rw [hg]; exact (below_size (by repeat (first | (with_reducible first | exact HB.out | apply below_alloc | apply pw_below_drewN | apply below_drew1 | refine below_set ?_ GE101.out) | exact HB.out))) : w.heap.size ≤ gb105))
             have n4_ := Aside0.mk ((by rw [hg]; exact (below_size (by repeat (first | (with_reducible first | exact HB.out | apply below_alloc | apply pw_below_drewN | apply below_drew1 | refine below_set ?_ GE101.out) | exact HB.out))) : w.heap.size ≤ gb105))
             have n5_ := Aside0.mk ((by rw [hg]; exact Nat.ne_of_lt (blk_lt (g := gb101) (o := .cells #[.int .i64 0, .int .i64 0, .int .i64 0, .string (⟨#[]⟩ : ByteArray)] 49 (0, 0)) (by (with_reducible repeat (first | refine blk_drewN ?_ _ | refine blk_drew ?_ | refine blk_alloc ?_ _)); exact BK101.out)) : gb101 ≠ gb105))
             have n6_ := Aside0.mk ((by rw [hg]; exact Nat.ne_of_gt (blk_lt (g := gb101) (o := .cells #[.int .i64 0, .int .i64 0, .int .i64 0, .string (⟨#[]⟩ : ByteArray)] 49 (0, 0)) (by (with_reducible repeat (first | refine blk_drewN ?_ _ | refine blk_drew ?_ | refine blk_alloc ?_ _)); exact BK101.out)) : gb105 ≠ gb101))
             clear BK101
             clear HB
             have BK101 := n0_
             have HB := n1_
             have BK105 := n2_
             have GW105 := n3_
             have GE105 := n4_
             have NB101_105 := n5_
             have NB105_101 := n6_
             clear n0_ n1_ n2_ n3_ n4_ n5_ n6_
             clear hb hbox hg
             refine hK.out _ _ trivial (fun hHeld => ?_)
             clear hK K
             refine norm_ (a' := ?_) ?_ ?_
             rotate_left
             ·show Act.put _ (some 7) _ = _
              simp only [Act.put, s1_, s2_, s3_, i64_w, i32_w]
              rfl
             exact norm_ (by simp only [putAll, Act.put, s1_, s2_, s3_]) (hCont (gb105) _ ⟨(by (with_reducible repeat (first | refine blk_drewN ?_ _ | refine blk_drew ?_ | refine blk_alloc ?_ _)); exact BK101.out), (by (with_reducible repeat (first | refine blk_drewN ?_ _ | refine blk_drew ?_ | refine blk_alloc ?_ _)); exact BK105.out), GW105.out, GE105.out, NB101_105.out, NB105_101.out, (by repeat (first | (with_reducible first | exact HB.out | apply below_alloc | apply pw_below_drewN | apply below_drew1 | refine below_set ?_ GE101.out | refine below_set ?_ GE105.out) | exact HB.out))⟩)
            ·skip
             refine box_step ?hg (N := 7) ?hd (cs := #[.int .i64 0, .int .i64 0, .int .i64 0, .string (⟨#[]⟩ : ByteArray)]) (t := 49) ?hr ?_; (case hd => rfl); (case hg => rfl); (case hr => first | (go_simp; done) | (go_simp; rfl))
             intro gb105 hg w92 hbox hb
             have n0_ := Aside0.mk (blk_below (g := gb101) (o := .cells #[.int .i64 0, .int .i64 0, .int .i64 0, .string (⟨#[]⟩ : ByteArray)] 49 (0, 0)) (by (with_reducible repeat (first | refine blk_drewN ?_ _ | refine blk_drew ?_ | refine blk_alloc ?_ _)); exact BK101.out) hb)
             have n1_ := Aside0.mk (below_step (by repeat (first | (with_reducible first | exact HB.out | apply below_alloc | apply pw_below_drewN | apply below_drew1 | refine below_set ?_ GE101.out) | exact HB.out)) hb)
             have n2_ := Aside0.mk (hbox)
             have n3_ := Aside0.mk ((by rw [hg]; exact (below_size (by repeat (first | (with_reducible first | exact HB.out | apply below_alloc | apply pw_below_drewN | apply below_drew1 | refine below_set ?_ GE101.out) | exact HB.out))) : w.heap.size ≤ gb105))
             have n4_ := Aside0.mk ((by rw [hg]; exact (below_size (by repeat (first | (with_reducible first | exact HB.out | apply below_alloc | apply pw_below_drewN | apply below_drew1 | refine below_set ?_ GE101.out) | exact HB.out))) : w.heap.size ≤ gb105))
             have n5_ := Aside0.mk ((by rw [hg]; exact Nat.ne_of_lt (blk_lt (g := gb101) (o := .cells #[.int .i64 0, .int .i64 0, .int .i64 0, .string (⟨#[]⟩ : ByteArray)] 49 (0, 0)) (by (with_reducible repeat (first | refine blk_drewN ?_ _ | refine blk_drew ?_ | refine blk_alloc ?_ _)); exact BK101.out)) : gb101 ≠ gb105))
             have n6_ := Aside0.mk ((by rw [hg]; exact Nat.ne_of_gt (blk_lt (g := gb101) (o := .cells #[.int .i64 0, .int .i64 0, .int .i64 0, .string (⟨#[]⟩ : ByteArray)] 49 (0, 0)) (by (with_reducible repeat (first | refine blk_drewN ?_ _ | refine blk_drew ?_ | refine blk_alloc ?_ _)); exact BK101.out)) : gb105 ≠ gb101))
             clear BK101
             clear HB
             have BK101 := n0_
             have HB := n1_
             have BK105 := n2_
             have GW105 := n3_
             have GE105 := n4_
             have NB101_105 := n5_
             have NB105_101 := n6_
             clear n0_ n1_ n2_ n3_ n4_ n5_ n6_
             clear hb hbox hg
             refine hK.out _ _ trivial (fun hHeld => ?_)
             clear hK K
             refine norm_ (a' := ?_) ?_ ?_
             rotate_left
             ·show Act.put _ (some 7) _ = _
              simp only [Act.put, s1_, s2_, s3_, i64_w, i32_w]
              rfl
             refine one_ (i := 5) (N := some 35) #[true, true, true, true, true, true, true, false, true, false] rfl rfl (one_of HT_.out (by kernel_rfl)) (by decide) (fun K hK => ?_)
             refine goes_ Try.func41 (by kernel_rfl) rfl #[.string (t0.extract 2 t0.size)] (by rfl) rfl rfl (by (try simp only [List.map_toArray, List.map_cons, List.map_nil]); first | done | rfl | (simp only [List.length_drop, List.length_take]; rfl)) ?_
             with_reducible refine (frame_number.calls (t0.extract 2 t0.size) t104 _ A25.out).mono ?_
             rintro e w' ⟨rfl, ⟨nd, rfl⟩⟩
             refine ⟨_, rfl, ?_⟩
             refine hK.out _ _ trivial (fun hHeld => ?_)
             clear hK K
             refine norm_ (a' := ?_) ?_ ?_
             rotate_left
             ·show Act.put _ (some 35) _ = _
              simp only [Act.put, s1_, s2_, s3_, i64_w, i32_w]
              rfl
             refine pu_ 7 (some 37) ?_ (bs_ 9 1) rfl rfl (any_of HT_.out (by kernel_rfl)) (fun _ _ _ h => h) (y_ (by rfl) ?_) ?_ ?_ ?_
             rotate_left
             ·intro w'
              go_simp
              with_reducible rfl
             rotate_left
             ·simp only [Act.put, s1_, s2_, s3_, i64_w, i32_w]
              rfl
             exact norm_ (by simp only [putAll, Act.put, s1_, s2_, s3_]) (hCont (gb105) _ ⟨(by (with_reducible repeat (first | refine blk_drewN ?_ _ | refine blk_drew ?_ | refine blk_alloc ?_ _)); exact BK101.out), (by (with_reducible repeat (first | refine blk_drewN ?_ _ | refine blk_drew ?_ | refine blk_alloc ?_ _)); exact BK105.out), GW105.out, GE105.out, NB101_105.out, NB105_101.out, (by repeat (first | (with_reducible first | exact HB.out | apply below_alloc | apply pw_below_drewN | apply below_drew1 | refine below_set ?_ GE101.out | refine below_set ?_ GE105.out) | exact HB.out))⟩)
           rintro gb105 w93 ⟨h0_, h1_, h2_, h3_, h4_, h5_, h6_⟩
           have n0_ : Aside0 (w93.heap[gb101]? = some (.cells #[.int .i64 0, .int .i64 0, .int .i64 0, .string (⟨#[]⟩ : ByteArray)] 49 (0, 0))) := ⟨h0_⟩
           have n1_ : Aside0 (w93.heap[gb105]? = some (.cells #[.int .i64 0, .int .i64 0, .int .i64 0, .string (⟨#[]⟩ : ByteArray)] 49 (0, 0))) := ⟨h1_⟩
           have n2_ : Aside0 (w.heap.size ≤ gb105) := ⟨h2_⟩
           have n3_ : Aside0 (w.heap.size ≤ gb105) := ⟨h3_⟩
           have n4_ : Aside0 (gb101 ≠ gb105) := ⟨h4_⟩
           have n5_ : Aside0 (gb105 ≠ gb101) := ⟨h5_⟩
           have n6_ : Aside0 (Below w.heap.size w w93) := ⟨h6_⟩
           clear BK101
           clear HB
           clear h0_ h1_ h2_ h3_ h4_ h5_ h6_
           have BK101 := n0_
           have BK105 := n1_
           have GW105 := n2_
           have GE105 := n3_
           have NB101_105 := n4_
           have NB105_101 := n5_
           have HB := n6_
           clear n0_ n1_ n2_ n3_ n4_ n5_ n6_
           have hHeld := trivial
           refine norm_ (a' := ?_) ?_ ?_
           rotate_left
           ·simp only [putAll, Act.put, s1_, s2_, s3_]
            rfl
           refine one_ (i := 9) (N := none) (bs_ 10 0) rfl rfl (one_of HT_.out (by kernel_rfl)) (by decide) (fun K hK => ?_)
           have hs94 : w93.cell? ⟨gb105, 0, none⟩ = some (.int .i64 0) := (blk_cell BK105.out 0).trans rfl
           have hfs94 := blk_frozen BK105.out 0
           have hns94_0 := NB101_105.out
           have hms94_0 := NB105_101.out
           have hs95 : w93.cell? ⟨gb105, 1, none⟩ = some (.int .i64 0) := (blk_cell BK105.out 1).trans rfl
           have hfs95 := blk_frozen BK105.out 1
           have hns95_0 := NB101_105.out
           have hms95_0 := NB105_101.out
           have hs96 : w93.cell? ⟨gb105, 2, none⟩ = some (.int .i64 0) := (blk_cell BK105.out 2).trans rfl
           have hfs96 := blk_frozen BK105.out 2
           have hns96_0 := NB101_105.out
           have hms96_0 := NB105_101.out
           have hs97 : w93.cell? ⟨gb105, 3, none⟩ = some (.string (⟨#[]⟩ : ByteArray)) := (blk_cell BK105.out 3).trans rfl
           have hfs97 := blk_frozen BK105.out 3
           have hns97_0 := NB101_105.out
           have hms97_0 := NB105_101.out
           refine skip_ (w1 := ?_) (by rfl) rfl ?_ ?_
           rotate_left
           ·go_simp
            rfl
           refine hK.out _ _ trivial (fun hHeld => ?_)
           clear hK K
           refine done_ (done_of HT_.out (by kernel_rfl)) ?_
           try go_wp2_with (first | ((with_reducible refine gate_callee (f := 41) rfl ?_); refine goesL_ (some 40) rfl rfl Try.func41 (by kernel_rfl) rfl #[.string (t0.extract 6 t0.size)] rfl (by (try simp only [List.map_toArray, List.map_cons, List.map_nil]); first | done | rfl | (simp only [List.length_drop, List.length_take]; rfl)) ?_; (with_reducible refine (frame_number.calls (t0.extract 6 t0.size) t106 _ A27.out).mono ?_); rintro e w' ⟨rfl, ⟨nd, rfl⟩⟩; refine ⟨_, rfl, ?_⟩))
           have n0_ : Aside0 (((((w93.setCell ⟨gb105, 0, none⟩ (.int .i64 (wrap64 (bt t0 1)))).setCell ⟨gb105, 1, none⟩ (.int .i64 t104)).setCell ⟨gb105, 2, none⟩ (.int .i64 a1)).setCell ⟨gb105, 3, none⟩ (.string (⟨#[]⟩ : ByteArray))).heap[gb101]? = some (.cells #[.int .i64 0, .int .i64 0, .int .i64 0, .string (⟨#[]⟩ : ByteArray)] 49 (0, 0))) := ⟨by (with_reducible repeat (first | refine blk_drewN ?_ _ | refine blk_drew ?_ | refine blk_alloc ?_ _)); refine blk_far ?_ NB101_105.out _; (with_reducible repeat (first | refine blk_drewN ?_ _ | refine blk_drew ?_ | refine blk_alloc ?_ _)); refine blk_far ?_ NB101_105.out _; (with_reducible repeat (first | refine blk_drewN ?_ _ | refine blk_drew ?_ | refine blk_alloc ?_ _)); refine blk_far ?_ NB101_105.out _; (with_reducible repeat (first | refine blk_drewN ?_ _ | refine blk_drew ?_ | refine blk_alloc ?_ _)); refine blk_far ?_ NB101_105.out _; (with_reducible repeat (first | refine blk_drewN ?_ _ | refine blk_drew ?_ | refine blk_alloc ?_ _)); exact BK101.out⟩
           have n1_ : Aside0 (((((w93.setCell ⟨gb105, 0, none⟩ (.int .i64 (wrap64 (bt t0 1)))).setCell ⟨gb105, 1, none⟩ (.int .i64 t104)).setCell ⟨gb105, 2, none⟩ (.int .i64 a1)).setCell ⟨gb105, 3, none⟩ (.string (⟨#[]⟩ : ByteArray))).heap[gb105]? = some (.cells #[.int .i64 (wrap64 (bt t0 1)), .int .i64 t104, .int .i64 a1, .string (⟨#[]⟩ : ByteArray)] 49 (0, 0))) := ⟨by (with_reducible repeat (first | refine blk_drewN ?_ _ | refine blk_drew ?_ | refine blk_alloc ?_ _)); refine blk_put (cs := #[.int .i64 (wrap64 (bt t0 1)), .int .i64 t104, .int .i64 a1, .string (⟨#[]⟩ : ByteArray)]) ?_ 3 _ rfl; (with_reducible repeat (first | refine blk_drewN ?_ _ | refine blk_drew ?_ | refine blk_alloc ?_ _)); refine blk_put (cs := #[.int .i64 (wrap64 (bt t0 1)), .int .i64 t104, .int .i64 0, .string (⟨#[]⟩ : ByteArray)]) ?_ 2 _ rfl; (with_reducible repeat (first | refine blk_drewN ?_ _ | refine blk_drew ?_ | refine blk_alloc ?_ _)); refine blk_put (cs := #[.int .i64 (wrap64 (bt t0 1)), .int .i64 0, .int .i64 0, .string (⟨#[]⟩ : ByteArray)]) ?_ 1 _ rfl; (with_reducible repeat (first | refine blk_drewN ?_ _ | refine blk_drew ?_ | refine blk_alloc ?_ _)); refine blk_put (cs := #[.int .i64 0, .int .i64 0, .int .i64 0, .string (⟨#[]⟩ : ByteArray)]) ?_ 0 _ rfl; (with_reducible repeat (first | refine blk_drewN ?_ _ | refine blk_drew ?_ | refine blk_alloc ?_ _)); exact BK105.out⟩
           have n2_ : Aside0 (Below w.heap.size w ((((w93.setCell ⟨gb105, 0, none⟩ (.int .i64 (wrap64 (bt t0 1)))).setCell ⟨gb105, 1, none⟩ (.int .i64 t104)).setCell ⟨gb105, 2, none⟩ (.int .i64 a1)).setCell ⟨gb105, 3, none⟩ (.string (⟨#[]⟩ : ByteArray)))) := ⟨by repeat (first | (with_reducible first | exact HB.out | apply below_alloc | apply pw_below_drewN | apply below_drew1 | refine below_set ?_ GE101.out | refine below_set ?_ GE105.out) | exact HB.out)⟩
           (try clear BK101)
           (try clear BK105)
           (try clear HB)
           generalize ((((w93.setCell ⟨gb105, 0, none⟩ (.int .i64 (wrap64 (bt t0 1)))).setCell ⟨gb105, 1, none⟩ (.int .i64 t104)).setCell ⟨gb105, 2, none⟩ (.int .i64 a1)).setCell ⟨gb105, 3, none⟩ (.string (⟨#[]⟩ : ByteArray))) = w98 at n0_ n1_ n2_ ⊢
           have BK101 := n0_
           have BK105 := n1_
           have HB := n2_
           clear n0_ n1_ n2_
           (try (rw [drewN_self w98]; generalize hq_ : World.drewN w98 _ = w98; have n0_ : Aside0 (w98.heap[gb101]? = some (.cells #[.int .i64 0, .int .i64 0, .int .i64 0, .string (⟨#[]⟩ : ByteArray)] 49 (0, 0))) := ⟨by rw [← hq_]; exact (by (with_reducible repeat (first | refine blk_drewN ?_ _ | refine blk_drew ?_ | refine blk_alloc ?_ _)); exact BK101.out)⟩; have n1_ : Aside0 (w98.heap[gb105]? = some (.cells #[.int .i64 (wrap64 (bt t0 1)), .int .i64 t104, .int .i64 a1, .string (⟨#[]⟩ : ByteArray)] 49 (0, 0))) := ⟨by rw [← hq_]; exact (by (with_reducible repeat (first | refine blk_drewN ?_ _ | refine blk_drew ?_ | refine blk_alloc ?_ _)); exact BK105.out)⟩; have n2_ : Aside0 (Below w.heap.size w w98) := ⟨by rw [← hq_]; exact (by repeat (first | (with_reducible first | exact HB.out | apply below_alloc | apply pw_below_drewN | apply below_drew1 | refine below_set ?_ GE101.out | refine below_set ?_ GE105.out) | exact HB.out))⟩; clear BK101 BK105 HB hq_; have BK101 := n0_; have BK105 := n1_; have HB := n2_; clear n0_ n1_ n2_))
           have n0_ := Aside0.mk (blk_drew BK101.out)
           have n1_ := Aside0.mk (blk_drew BK105.out)
           have n2_ := Aside0.mk (below_drew1 HB.out)
           clear BK101
           clear BK105
           clear HB
           have BK101 := n0_
           have BK105 := n1_
           have HB := n2_
           clear n0_ n1_ n2_
           refine start_ (n := 33) (S := fun w' => w'.cell? ⟨gb105, 0, none⟩ = some (.int .i64 (wrap64 (bt t0 1))) ∧ w'.cell? ⟨gb105, 1, none⟩ = some (.int .i64 t104) ∧ w'.cell? ⟨gb105, 2, none⟩ = some (.int .i64 a1) ∧ w'.cell? ⟨gb105, 3, none⟩ = some (.string (⟨#[]⟩ : ByteArray))) (ds := []) (bs_ 0 33) (by kernel_rfl) rfl rfl ⟨(blk_cell BK105.out 0).trans rfl, (blk_cell BK105.out 1).trans rfl, (blk_cell BK105.out 2).trans rfl, (blk_cell BK105.out 3).trans rfl⟩ (fun hHeld => ?_); refine with_tabW frame_read.tab6 frame_read.bits6 (fun HT_ HW_ => ?_)
           generalize w98.drew = w99 at BK101 BK105 HB hHeld ⊢
           refine pu_ 0 (some 42) ?_ (bs_ 1 32) rfl rfl (any_of HT_.out (by kernel_rfl)) (fun _ _ _ h => h) (y_ (by rfl) ?_) ?_ ?_ ?_
           rotate_left
           ·intro w'
            go_simp
            with_reducible rfl
           rotate_left
           ·simp only [Act.put, s1_, s2_, s3_, i64_w, i32_w]
            rfl
           refine take_ (i := 1) (N := some 43) (v := ?_) (a' := ?_) (bs_ 2 31) rfl rfl (take_ofW HT_.out HW_.out (by kernel_rfl)) (fun _ _ _ h => h) (Or.inl ⟨by rfl, ?_⟩) hHeld ?_ ?_
           rotate_left
           ·rintro w' ⟨s0, s1, s2, s3⟩
            go_simp
            with_reducible rfl
           rotate_left
           ·simp only [Act.put, s1_, s2_, s3_, i64_w, i32_w]
            rfl
           refine one_ (i := 2) (N := some 44) (bs_ 3 30) rfl rfl (one_of HT_.out (by kernel_rfl)) (by decide) (fun K hK => ?_)
           refine goes_ Try.func32 (by kernel_rfl) rfl #[.int .i64 (wrap64 (bt t0 1))] (by rfl) rfl rfl (by (try simp only [List.map_toArray, List.map_cons, List.map_nil]); first | done | rfl | (simp only [List.length_drop, List.length_take]; rfl)) ?_
           with_reducible refine (frame_isKind.calls (wrap64 (bt t0 1)) true _ A28.out).mono ?_
           rintro e w' ⟨rfl, ⟨nd, rfl⟩⟩
           refine ⟨_, rfl, ?_⟩
           refine hK.out _ _ ⟨(blk_cell BK105.out 0).trans rfl, (blk_cell BK105.out 1).trans rfl, (blk_cell BK105.out 2).trans rfl, (blk_cell BK105.out 3).trans rfl⟩ (fun hHeld => ?_)
           clear hK K
           refine norm_ (a' := ?_) ?_ ?_
           rotate_left
           ·show Act.put _ (some 44) _ = _
            simp only [Act.put, s1_, s2_, s3_, i64_w, i32_w]
            rfl
           refine pu_ 3 (some 45) ?_ (bs_ 4 29) rfl rfl (any_of HT_.out (by kernel_rfl)) (fun _ _ _ h => h) (y_ (by rfl) ?_) ?_ ?_ ?_
           rotate_left
           ·intro w'
            go_simp
            with_reducible rfl
           rotate_left
           ·simp only [Act.put, s1_, s2_, s3_, i64_w, i32_w]
            rfl
           refine pu_ 4 (some 46) ?_ (bs_ 5 28) rfl rfl (any_of HT_.out (by kernel_rfl)) (fun _ _ _ h => h) (y_ (by rfl) ?_) ?_ ?_ ?_
           rotate_left
           ·intro w'
            go_simp
            with_reducible rfl
           rotate_left
           ·simp only [Act.put, s1_, s2_, s3_, i64_w, i32_w]
            rfl
           refine pu_ 5 (some 47) ?_ (bs_ 6 27) rfl rfl (any_of HT_.out (by kernel_rfl)) (fun _ _ _ h => h) (y_ (by rfl) ?_) ?_ ?_ ?_
           rotate_left
           ·intro w'
            go_simp
            with_reducible rfl
           rotate_left
           ·simp only [Act.put, s1_, s2_, s3_, i64_w, i32_w]
            rfl
           refine take_ (i := 6) (N := some 48) (v := ?_) (a' := ?_) (bs_ 7 26) rfl rfl (take_ofW HT_.out HW_.out (by kernel_rfl)) (fun _ _ _ h => h) (Or.inl ⟨by rfl, ?_⟩) hHeld ?_ ?_
           rotate_left
           ·rintro w' ⟨s0, s1, s2, s3⟩
            go_simp
            with_reducible rfl
           rotate_left
           ·simp only [Act.put, s1_, s2_, s3_, i64_w, i32_w]
            rfl
           refine one_ (i := 7) (N := some 49) (bs_ 8 25) rfl rfl (one_of HT_.out (by kernel_rfl)) (by decide) (fun K hK => ?_)
           refine goes_ Try.func33 (by kernel_rfl) rfl #[.int .i64 t104] (by rfl) rfl rfl (by (try simp only [List.map_toArray, List.map_cons, List.map_nil]); first | done | rfl | (simp only [List.length_drop, List.length_take]; rfl)) ?_
           with_reducible refine (frame_isNumber.calls t104 false _ A30.out).mono ?_
           rintro e w' ⟨rfl, ⟨nd, rfl⟩⟩
           refine ⟨_, rfl, ?_⟩
           refine hK.out _ _ ⟨(blk_cell BK105.out 0).trans rfl, (blk_cell BK105.out 1).trans rfl, (blk_cell BK105.out 2).trans rfl, (blk_cell BK105.out 3).trans rfl⟩ (fun hHeld => ?_)
           clear hK K
           refine norm_ (a' := ?_) ?_ ?_
           rotate_left
           ·show Act.put _ (some 49) _ = _
            simp only [Act.put, s1_, s2_, s3_, i64_w, i32_w]
            rfl
           refine pu_ 8 (some 50) ?_ (bs_ 9 24) rfl rfl (any_of HT_.out (by kernel_rfl)) (fun _ _ _ h => h) (y_ (by rfl) ?_) ?_ ?_ ?_
           rotate_left
           ·intro w'
            go_simp
            with_reducible rfl
           rotate_left
           ·simp only [Act.put, s1_, s2_, s3_, i64_w, i32_w]
            rfl
           refine pu_ 9 (some 51) ?_ (bs_ 10 23) rfl rfl (any_of HT_.out (by kernel_rfl)) (fun _ _ _ h => h) (y_ (by rfl) ?_) ?_ ?_ ?_
           rotate_left
           ·intro w'
            go_simp
            with_reducible rfl
           rotate_left
           ·simp only [Act.put, s1_, s2_, s3_, i64_w, i32_w]
            rfl
           refine pu_ 10 (some 52) ?_ (bs_ 11 22) rfl rfl (any_of HT_.out (by kernel_rfl)) (fun _ _ _ h => h) (y_ (by rfl) ?_) ?_ ?_ ?_
           rotate_left
           ·intro w'
            go_simp
            with_reducible rfl
           rotate_left
           ·simp only [Act.put, s1_, s2_, s3_, i64_w, i32_w]
            rfl
           refine pu_ 11 (some 53) undef (bs_ 12 21) rfl rfl (any_of HT_.out (by kernel_rfl)) (fun _ _ _ h => h) (n_ (by rfl)) ?_ ?_ ?_
           rotate_left
           ·simp only [Act.put, s1_, s2_, s3_, i64_w, i32_w]
            rfl
           refine pu_ 12 (some 54) undef (bs_ 13 20) rfl rfl (any_of HT_.out (by kernel_rfl)) (fun _ _ _ h => h) (n_ (by rfl)) ?_ ?_ ?_
           rotate_left
           ·simp only [Act.put, s1_, s2_, s3_, i64_w, i32_w]
            rfl
           refine pu_ 13 (some 55) undef (bs_ 14 19) rfl rfl (any_of HT_.out (by kernel_rfl)) (fun _ _ _ h => h) (n_ (by rfl)) ?_ ?_ ?_
           rotate_left
           ·simp only [Act.put, s1_, s2_, s3_, i64_w, i32_w]
            rfl
           refine pu_ 14 (some 56) ?_ (bs_ 15 18) rfl rfl (any_of HT_.out (by kernel_rfl)) (fun _ _ _ h => h) (y_ (by rfl) ?_) ?_ ?_ ?_
           rotate_left
           ·intro w'
            go_simp
            with_reducible rfl
           rotate_left
           ·simp only [Act.put, s1_, s2_, s3_, i64_w, i32_w]
            rfl
           refine pu_ 15 (some 57) ?_ (bs_ 16 17) rfl rfl (any_of HT_.out (by kernel_rfl)) (fun _ _ _ h => h) (y_ (by rfl) ?_) ?_ ?_ ?_
           rotate_left
           ·intro w'
            go_simp
            with_reducible rfl
           rotate_left
           ·simp only [Act.put, s1_, s2_, s3_, i64_w, i32_w]
            rfl
           refine pu_ 16 (some 58) undef (bs_ 17 16) rfl rfl (any_of HT_.out (by kernel_rfl)) (fun _ _ _ h => h) (n_ (by rfl)) ?_ ?_ ?_
           rotate_left
           ·simp only [Act.put, s1_, s2_, s3_, i64_w, i32_w]
            rfl
           refine pu_ 17 (some 59) undef (bs_ 18 15) rfl rfl (any_of HT_.out (by kernel_rfl)) (fun _ _ _ h => h) (n_ (by rfl)) ?_ ?_ ?_
           rotate_left
           ·simp only [Act.put, s1_, s2_, s3_, i64_w, i32_w]
            rfl
           refine pu_ 18 (some 60) undef (bs_ 19 14) rfl rfl (any_of HT_.out (by kernel_rfl)) (fun _ _ _ h => h) (n_ (by rfl)) ?_ ?_ ?_
           rotate_left
           ·simp only [Act.put, s1_, s2_, s3_, i64_w, i32_w]
            rfl
           refine pu_ 19 (some 61) undef (bs_ 20 13) rfl rfl (any_of HT_.out (by kernel_rfl)) (fun _ _ _ h => h) (n_ (by rfl)) ?_ ?_ ?_
           rotate_left
           ·simp only [Act.put, s1_, s2_, s3_, i64_w, i32_w]
            rfl
           refine pu_ 20 (some 62) undef (bs_ 21 12) rfl rfl (any_of HT_.out (by kernel_rfl)) (fun _ _ _ h => h) (n_ (by rfl)) ?_ ?_ ?_
           rotate_left
           ·simp only [Act.put, s1_, s2_, s3_, i64_w, i32_w]
            rfl
           refine pu_ 21 (some 63) ?_ (bs_ 22 11) rfl rfl (any_of HT_.out (by kernel_rfl)) (fun _ _ _ h => h) (y_ (by rfl) ?_) ?_ ?_ ?_
           rotate_left
           ·intro w'
            go_simp
            with_reducible rfl
           rotate_left
           ·simp only [Act.put, s1_, s2_, s3_, i64_w, i32_w]
            rfl
           refine pu_ 22 (some 64) ?_ (bs_ 23 10) rfl rfl (any_of HT_.out (by kernel_rfl)) (fun _ _ _ h => h) (y_ (by rfl) ?_) ?_ ?_ ?_
           rotate_left
           ·intro w'
            go_simp
            with_reducible rfl
           rotate_left
           ·simp only [Act.put, s1_, s2_, s3_, i64_w, i32_w]
            rfl
           refine pu_ 23 (some 65) undef (bs_ 24 9) rfl rfl (any_of HT_.out (by kernel_rfl)) (fun _ _ _ h => h) (n_ (by rfl)) ?_ ?_ ?_
           rotate_left
           ·simp only [Act.put, s1_, s2_, s3_, i64_w, i32_w]
            rfl
           refine pu_ 24 (some 66) undef (bs_ 25 8) rfl rfl (any_of HT_.out (by kernel_rfl)) (fun _ _ _ h => h) (n_ (by rfl)) ?_ ?_ ?_
           rotate_left
           ·simp only [Act.put, s1_, s2_, s3_, i64_w, i32_w]
            rfl
           refine pu_ 25 (some 67) undef (bs_ 26 7) rfl rfl (any_of HT_.out (by kernel_rfl)) (fun _ _ _ h => h) (n_ (by rfl)) ?_ ?_ ?_
           rotate_left
           ·simp only [Act.put, s1_, s2_, s3_, i64_w, i32_w]
            rfl
           refine pu_ 26 (some 68) undef (bs_ 27 6) rfl rfl (any_of HT_.out (by kernel_rfl)) (fun _ _ _ h => h) (n_ (by rfl)) ?_ ?_ ?_
           rotate_left
           ·simp only [Act.put, s1_, s2_, s3_, i64_w, i32_w]
            rfl
           refine pu_ 27 (some 69) undef (bs_ 28 5) rfl rfl (any_of HT_.out (by kernel_rfl)) (fun _ _ _ h => h) (n_ (by rfl)) ?_ ?_ ?_
           rotate_left
           ·simp only [Act.put, s1_, s2_, s3_, i64_w, i32_w]
            rfl
           refine pu_ 28 (some 70) undef (bs_ 29 4) rfl rfl (any_of HT_.out (by kernel_rfl)) (fun _ _ _ h => h) (n_ (by rfl)) ?_ ?_ ?_
           rotate_left
           ·simp only [Act.put, s1_, s2_, s3_, i64_w, i32_w]
            rfl
           refine pu_ 29 (some 71) undef (bs_ 30 3) rfl rfl (any_of HT_.out (by kernel_rfl)) (fun _ _ _ h => h) (n_ (by rfl)) ?_ ?_ ?_
           rotate_left
           ·simp only [Act.put, s1_, s2_, s3_, i64_w, i32_w]
            rfl
           refine pu_ 30 (some 72) undef (bs_ 31 2) rfl rfl (any_of HT_.out (by kernel_rfl)) (fun _ _ _ h => h) (n_ (by rfl)) ?_ ?_ ?_
           rotate_left
           ·simp only [Act.put, s1_, s2_, s3_, i64_w, i32_w]
            rfl
           refine pu_ 31 (some 73) undef (bs_ 32 1) rfl rfl (any_of HT_.out (by kernel_rfl)) (fun _ _ _ h => h) (n_ (by rfl)) ?_ ?_ ?_
           rotate_left
           ·simp only [Act.put, s1_, s2_, s3_, i64_w, i32_w]
            rfl
           refine pu_ 32 (some 74) ?_ (bs_ 33 0) rfl rfl (any_of HT_.out (by kernel_rfl)) (fun _ _ _ h => h) (y_ (by rfl) ?_) ?_ ?_ ?_
           rotate_left
           ·intro w'
            go_simp
            with_reducible rfl
           rotate_left
           ·simp only [Act.put, s1_, s2_, s3_, i64_w, i32_w]
            rfl
           refine done_ (done_of HT_.out (by kernel_rfl)) ?_
           have hnb100 := NB101_105.out
           have hnc100 := NB105_101.out
           have hcz101_0 : w99.cell? ⟨gb101, 0, none⟩ = some (.int .i64 0) := (blk_cell BK101.out 0).trans rfl
           have hcz101_1 : w99.cell? ⟨gb101, 1, none⟩ = some (.int .i64 0) := (blk_cell BK101.out 1).trans rfl
           have hcz101_2 : w99.cell? ⟨gb101, 2, none⟩ = some (.int .i64 0) := (blk_cell BK101.out 2).trans rfl
           have hcz101_3 : w99.cell? ⟨gb101, 3, none⟩ = some (.string (⟨#[]⟩ : ByteArray)) := (blk_cell BK101.out 3).trans rfl
           have hfz101_0 := blk_frozen BK101.out 0
           have hfz101_1 := blk_frozen BK101.out 1
           have hfz101_2 := blk_frozen BK101.out 2
           have hfz101_3 := blk_frozen BK101.out 3
           try go_wp2
           refine bodyPost_ret (results_ctt rfl _ _ gb101 49 #[.int .i64 0, .int .i64 0, .int .i64 0, .string (⟨#[]⟩ : ByteArray)] (0, 0) _ rfl (by (with_reducible repeat (first | refine blk_drewN ?_ _ | refine blk_drew ?_ | refine blk_alloc ?_ _)); refine blk_put (cs := #[.int .i64 0, .int .i64 0, .int .i64 0, .string (⟨#[]⟩ : ByteArray)]) ?_ 3 _ rfl; (with_reducible repeat (first | refine blk_drewN ?_ _ | refine blk_drew ?_ | refine blk_alloc ?_ _)); refine blk_put (cs := #[.int .i64 0, .int .i64 0, .int .i64 0, .string (⟨#[]⟩ : ByteArray)]) ?_ 2 _ rfl; (with_reducible repeat (first | refine blk_drewN ?_ _ | refine blk_drew ?_ | refine blk_alloc ?_ _)); refine blk_put (cs := #[.int .i64 0, .int .i64 0, .int .i64 0, .string (⟨#[]⟩ : ByteArray)]) ?_ 1 _ rfl; (with_reducible repeat (first | refine blk_drewN ?_ _ | refine blk_drew ?_ | refine blk_alloc ?_ _)); refine blk_put (cs := #[.int .i64 0, .int .i64 0, .int .i64 0, .string (⟨#[]⟩ : ByteArray)]) ?_ 0 _ rfl; (with_reducible repeat (first | refine blk_drewN ?_ _ | refine blk_drew ?_ | refine blk_alloc ?_ _)); exact BK101.out) Try.underlying49 rfl (by kernel_rfl)) rfl ?_
           exact ⟨by first | rfl | (simp [errW_none, errW_some] <;> rfl) | (simp [*, errW_none, errW_some] <;> rfl), by repeat (first | (with_reducible first | exact HB.out | apply below_alloc | apply pw_below_drewN | apply below_drew1 | refine below_set ?_ GE101.out | refine below_set ?_ GE105.out) | exact HB.out)⟩
         ·replace c29 := Bool.eq_false_iff.mpr c29
          subst c29
          have H1 : (some (0, 0, 0, (⟨#[]⟩ : ByteArray), 0, false)) = some (r1, r2, r3, r4, r5, r6) := by rw [if_neg (show ¬ (false = true) by decide)] at H; exact H
          clear H
          have H := H1
          clear H1
          simp only [Option.some.injEq, Prod.mk.injEq] at H
          obtain ⟨rfl, rfl, rfl, rfl, rfl, rfl⟩ := H
          try go_wp2
          have n0_ := Aside0.mk (blk_drew BK101.out)
          have n1_ := Aside0.mk (below_drew1 HB.out)
          clear BK101
          clear HB
          have BK101 := n0_
          have HB := n1_
          clear n0_ n1_
          have p23 : 0 ≤ (1 : Int) := (by omega)
          have q23 : 1 < t0.size := (by have : (1 : Int) < (t0.size : Int) := of_decide_eq_true (by first | (with_reducible assumption) | assumption); omega)
          have hx23 : ∀ h : 1 < t0.size, ((t0[1]'h).toNat : Int) = bt t0 1 := bt_at t0 1
          clear p23
          have qi23 : (1 < (t0.size : Int)) = True := eq_true (of_decide_eq_true (by first | (with_reducible assumption) | assumption))
          replace q23 := eq_true q23
          refine start_ (n := 10) (S := fun w' => True) (ds := []) (bs_ 0 10) (by kernel_rfl) rfl rfl trivial (fun hHeld => ?_); refine with_tabW frame_read.tab4 frame_read.bits4 (fun HT_ HW_ => ?_)
          generalize wc.drew = w102 at BK101 HB hHeld ⊢
          refine pu_ 0 (some 30) ?_ (bs_ 1 9) rfl rfl (any_of HT_.out (by kernel_rfl)) (fun _ _ _ h => h) (y_ (by rfl) ?_) ?_ ?_ ?_
          rotate_left
          ·intro w'
           go_simp
           with_reducible rfl
          rotate_left
          ·simp only [Act.put, s1_, s2_, s3_, i64_w, i32_w]
           rfl
          refine pu_ 3 (some 33) ?_ #[true, false, false, true, false, false, false, false, false, false] rfl rfl (any_of HT_.out (by kernel_rfl)) (fun _ _ _ h => h) (y_ (by rfl) ?_) ?_ ?_ ?_
          rotate_left
          ·intro w'
           go_simp
           with_reducible rfl
          rotate_left
          ·simp only [Act.put, s1_, s2_, s3_, i64_w, i32_w]
           rfl
          refine pu_ 4 (some 34) ?_ #[true, false, false, true, true, false, false, false, false, false] rfl rfl (any_of HT_.out (by kernel_rfl)) (fun _ _ _ h => h) (y_ (by rfl) ?_) ?_ ?_ ?_
          rotate_left
          ·intro w'
           go_simp
           with_reducible rfl
          rotate_left
          ·simp only [Act.put, s1_, s2_, s3_, i64_w, i32_w]
           rfl
          refine pu_ 6 (some 36) ?_ #[true, false, false, true, true, false, true, false, false, false] rfl rfl (any_of HT_.out (by kernel_rfl)) (fun _ _ _ h => h) (y_ (by rfl) ?_) ?_ ?_ ?_
          rotate_left
          ·intro w'
           go_simp
           with_reducible rfl
          rotate_left
          ·simp only [Act.put, s1_, s2_, s3_, i64_w, i32_w]
           rfl
          refine take_ (i := 1) (N := some 31) (v := ?_) (a' := ?_) #[true, true, false, true, true, false, true, false, false, false] rfl rfl (take_ofW HT_.out HW_.out (by kernel_rfl)) (fun _ _ _ h => h) (Or.inl ⟨by rfl, ?_⟩) hHeld ?_ ?_
          rotate_left
          ·intro w' _
           go_simp
           with_reducible rfl
          rotate_left
          ·simp only [Act.put, s1_, s2_, s3_, i64_w, i32_w]
           rfl
          refine pu_ 2 (some 32) ?_ #[true, true, true, true, true, false, true, false, false, false] rfl rfl (any_of HT_.out (by kernel_rfl)) (fun _ _ _ h => h) (y_ (by rfl) ?_) ?_ ?_ ?_
          rotate_left
          ·intro w'
           go_simp
           with_reducible rfl
          rotate_left
          ·simp only [Act.put, s1_, s2_, s3_, i64_w, i32_w]
           rfl
          refine join_ (σ := Nat) 1 (bs_ 9 1) (fun s_ => [(35, .int .i64 t104), (7, .pointer (some ⟨s_, 0, none⟩)), (37, .agg #[.int .i64 (wrap64 (bt t0 1)), .int .i64 t104, .int .i64 a1, .string (⟨#[]⟩ : ByteArray)])]) (fun s_ w' => (w'.heap[gb101]? = some (.cells #[.int .i64 0, .int .i64 0, .int .i64 0, .string (⟨#[]⟩ : ByteArray)] 49 (0, 0))) ∧ (w'.heap[s_]? = some (.cells #[.int .i64 0, .int .i64 0, .int .i64 0, .string (⟨#[]⟩ : ByteArray)] 49 (0, 0))) ∧ (w.heap.size ≤ s_) ∧ (w.heap.size ≤ s_) ∧ (gb101 ≠ s_) ∧ (s_ ≠ gb101) ∧ (Below w.heap.size w w')) ?_ ?_
          rotate_left
          ·intro hCont
           refine two_ (i := 5) (j := 8) (Ni := some 35) (Nj := some 7) (bs_ 7 3) #[true, true, true, true, true, false, true, false, true, false] rfl rfl rfl rfl (two_of HT_.out (by kernel_rfl)) (by decide) (by decide) (fun K hK => ?_) (fun K hK => ?_)
           ·skip
            refine goes_ Try.func41 (by kernel_rfl) rfl #[.string (t0.extract 2 t0.size)] (by rfl) rfl rfl (by (try simp only [List.map_toArray, List.map_cons, List.map_nil]); first | done | rfl | (simp only [List.length_drop, List.length_take]; rfl)) ?_
            with_reducible refine (frame_number.calls (t0.extract 2 t0.size) t104 _ A25.out).mono ?_
            rintro e w' ⟨rfl, ⟨nd, rfl⟩⟩
            refine ⟨_, rfl, ?_⟩
            refine hK.out _ _ trivial (fun hHeld => ?_)
            clear hK K
            refine norm_ (a' := ?_) ?_ ?_
            rotate_left
            ·show Act.put _ (some 35) _ = _
             simp only [Act.put, s1_, s2_, s3_, i64_w, i32_w]
             rfl
            refine pu_ 7 (some 37) ?_ (bs_ 8 2) rfl rfl (any_of HT_.out (by kernel_rfl)) (fun _ _ _ h => h) (y_ (by rfl) ?_) ?_ ?_ ?_
            rotate_left
            ·intro w'
             go_simp
             with_reducible rfl
            rotate_left
            ·simp only [Act.put, s1_, s2_, s3_, i64_w, i32_w]
             rfl
            refine one_ (i := 8) (N := some 7) (bs_ 9 1) rfl rfl (one_of HT_.out (by kernel_rfl)) (by decide) (fun K hK => ?_)
            refine box_step ?hg (N := 7) ?hd (cs := #[.int .i64 0, .int .i64 0, .int .i64 0, .string (⟨#[]⟩ : ByteArray)]) (t := 49) ?hr ?_; (case hd => rfl); (case hg => rfl); (case hr => first | (go_simp; done) | (go_simp; rfl))
            intro gb105 hg w103 hbox hb
            have n0_ := Aside0.mk (blk_below (g := gb101) (o := .cells #[.int .i64 0, .int .i64 0, .int .i64 0, .string (⟨#[]⟩ : ByteArray)] 49 (0, 0)) (by (with_reducible repeat (first | refine blk_drewN ?_ _ | refine blk_drew ?_ | refine blk_alloc ?_ _)); exact BK101.out) hb)
            have n1_ := Aside0.mk (below_step (by repeat (first | (with_reducible first | exact HB.out | apply below_alloc | apply pw_below_drewN | apply below_drew1 | refine below_set ?_ GE101.out) | exact HB.out)) hb)
            have n2_ := Aside0.mk (hbox)
            have n3_ := Aside0.mk ((by rw [hg]; exact (below_size (by repeat (first | (with_reducible first | exact HB.out | apply below_alloc | apply pw_below_drewN | apply below_drew1 | refine below_set ?_ GE101.out) | exact HB.out))) : w.heap.size ≤ gb105))
            have n4_ := Aside0.mk ((by rw [hg]; exact (below_size (by repeat (first | (with_reducible first | exact HB.out | apply below_alloc | apply pw_below_drewN | apply below_drew1 | refine below_set ?_ GE101.out) | exact HB.out))) : w.heap.size ≤ gb105))
            have n5_ := Aside0.mk ((by rw [hg]; exact Nat.ne_of_lt (blk_lt (g := gb101) (o := .cells #[.int .i64 0, .int .i64 0, .int .i64 0, .string (⟨#[]⟩ : ByteArray)] 49 (0, 0)) (by (with_reducible repeat (first | refine blk_drewN ?_ _ | refine blk_drew ?_ | refine blk_alloc ?_ _)); exact BK101.out)) : gb101 ≠ gb105))
            have n6_ := Aside0.mk ((by rw [hg]; exact Nat.ne_of_gt (blk_lt (g := gb101) (o := .cells #[.int .i64 0, .int .i64 0, .int .i64 0, .string (⟨#[]⟩ : ByteArray)] 49 (0, 0)) (by (with_reducible repeat (first | refine blk_drewN ?_ _ | refine blk_drew ?_ | refine blk_alloc ?_ _)); exact BK101.out)) : gb105 ≠ gb101))
            clear BK101
            clear HB
            have BK101 := n0_
            have HB := n1_
            have BK105 := n2_
            have GW105 := n3_
            have GE105 := n4_
            have NB101_105 := n5_
            have NB105_101 := n6_
            clear n0_ n1_ n2_ n3_ n4_ n5_ n6_
            clear hb hbox hg
            refine hK.out _ _ trivial (fun hHeld => ?_)
            clear hK K
            refine norm_ (a' := ?_) ?_ ?_
            rotate_left
            ·show Act.put _ (some 7) _ = _
             simp only [Act.put, s1_, s2_, s3_, i64_w, i32_w]
             rfl
            exact norm_ (by simp only [putAll, Act.put, s1_, s2_, s3_]) (hCont (gb105) _ ⟨(by (with_reducible repeat (first | refine blk_drewN ?_ _ | refine blk_drew ?_ | refine blk_alloc ?_ _)); exact BK101.out), (by (with_reducible repeat (first | refine blk_drewN ?_ _ | refine blk_drew ?_ | refine blk_alloc ?_ _)); exact BK105.out), GW105.out, GE105.out, NB101_105.out, NB105_101.out, (by repeat (first | (with_reducible first | exact HB.out | apply below_alloc | apply pw_below_drewN | apply below_drew1 | refine below_set ?_ GE101.out | refine below_set ?_ GE105.out) | exact HB.out))⟩)
           ·skip
            refine box_step ?hg (N := 7) ?hd (cs := #[.int .i64 0, .int .i64 0, .int .i64 0, .string (⟨#[]⟩ : ByteArray)]) (t := 49) ?hr ?_; (case hd => rfl); (case hg => rfl); (case hr => first | (go_simp; done) | (go_simp; rfl))
            intro gb105 hg w103 hbox hb
            have n0_ := Aside0.mk (blk_below (g := gb101) (o := .cells #[.int .i64 0, .int .i64 0, .int .i64 0, .string (⟨#[]⟩ : ByteArray)] 49 (0, 0)) (by (with_reducible repeat (first | refine blk_drewN ?_ _ | refine blk_drew ?_ | refine blk_alloc ?_ _)); exact BK101.out) hb)
            have n1_ := Aside0.mk (below_step (by repeat (first | (with_reducible first | exact HB.out | apply below_alloc | apply pw_below_drewN | apply below_drew1 | refine below_set ?_ GE101.out) | exact HB.out)) hb)
            have n2_ := Aside0.mk (hbox)
            have n3_ := Aside0.mk ((by rw [hg]; exact (below_size (by repeat (first | (with_reducible first | exact HB.out | apply below_alloc | apply pw_below_drewN | apply below_drew1 | refine below_set ?_ GE101.out) | exact HB.out))) : w.heap.size ≤ gb105))
            have n4_ := Aside0.mk ((by rw [hg]; exact (below_size (by repeat (first | (with_reducible first | exact HB.out | apply below_alloc | apply pw_below_drewN | apply below_drew1 | refine below_set ?_ GE101.out) | exact HB.out))) : w.heap.size ≤ gb105))
            have n5_ := Aside0.mk ((by rw [hg]; exact Nat.ne_of_lt (blk_lt (g := gb101) (o := .cells #[.int .i64 0, .int .i64 0, .int .i64 0, .string (⟨#[]⟩ : ByteArray)] 49 (0, 0)) (by (with_reducible repeat (first | refine blk_drewN ?_ _ | refine blk_drew ?_ | refine blk_alloc ?_ _)); exact BK101.out)) : gb101 ≠ gb105))
            have n6_ := Aside0.mk ((by rw [hg]; exact Nat.ne_of_gt (blk_lt (g := gb101) (o := .cells #[.int .i64 0, .int .i64 0, .int .i64 0, .string (⟨#[]⟩ : ByteArray)] 49 (0, 0)) (by (with_reducible repeat (first | refine blk_drewN ?_ _ | refine blk_drew ?_ | refine blk_alloc ?_ _)); exact BK101.out)) : gb105 ≠ gb101))
            clear BK101
            clear HB
            have BK101 := n0_
            have HB := n1_
            have BK105 := n2_
            have GW105 := n3_
            have GE105 := n4_
            have NB101_105 := n5_
            have NB105_101 := n6_
            clear n0_ n1_ n2_ n3_ n4_ n5_ n6_
            clear hb hbox hg
            refine hK.out _ _ trivial (fun hHeld => ?_)
            clear hK K
            refine norm_ (a' := ?_) ?_ ?_
            rotate_left
            ·show Act.put _ (some 7) _ = _
             simp only [Act.put, s1_, s2_, s3_, i64_w, i32_w]
             rfl
            refine one_ (i := 5) (N := some 35) #[true, true, true, true, true, true, true, false, true, false] rfl rfl (one_of HT_.out (by kernel_rfl)) (by decide) (fun K hK => ?_)
            refine goes_ Try.func41 (by kernel_rfl) rfl #[.string (t0.extract 2 t0.size)] (by rfl) rfl rfl (by (try simp only [List.map_toArray, List.map_cons, List.map_nil]); first | done | rfl | (simp only [List.length_drop, List.length_take]; rfl)) ?_
            with_reducible refine (frame_number.calls (t0.extract 2 t0.size) t104 _ A25.out).mono ?_
            rintro e w' ⟨rfl, ⟨nd, rfl⟩⟩
            refine ⟨_, rfl, ?_⟩
            refine hK.out _ _ trivial (fun hHeld => ?_)
            clear hK K
            refine norm_ (a' := ?_) ?_ ?_
            rotate_left
            ·show Act.put _ (some 35) _ = _
             simp only [Act.put, s1_, s2_, s3_, i64_w, i32_w]
             rfl
            refine pu_ 7 (some 37) ?_ (bs_ 9 1) rfl rfl (any_of HT_.out (by kernel_rfl)) (fun _ _ _ h => h) (y_ (by rfl) ?_) ?_ ?_ ?_
            rotate_left
            ·intro w'
             go_simp
             with_reducible rfl
            rotate_left
            ·simp only [Act.put, s1_, s2_, s3_, i64_w, i32_w]
             rfl
            exact norm_ (by simp only [putAll, Act.put, s1_, s2_, s3_]) (hCont (gb105) _ ⟨(by (with_reducible repeat (first | refine blk_drewN ?_ _ | refine blk_drew ?_ | refine blk_alloc ?_ _)); exact BK101.out), (by (with_reducible repeat (first | refine blk_drewN ?_ _ | refine blk_drew ?_ | refine blk_alloc ?_ _)); exact BK105.out), GW105.out, GE105.out, NB101_105.out, NB105_101.out, (by repeat (first | (with_reducible first | exact HB.out | apply below_alloc | apply pw_below_drewN | apply below_drew1 | refine below_set ?_ GE101.out | refine below_set ?_ GE105.out) | exact HB.out))⟩)
          rintro gb105 w104 ⟨h0_, h1_, h2_, h3_, h4_, h5_, h6_⟩
          have n0_ : Aside0 (w104.heap[gb101]? = some (.cells #[.int .i64 0, .int .i64 0, .int .i64 0, .string (⟨#[]⟩ : ByteArray)] 49 (0, 0))) := ⟨h0_⟩
          have n1_ : Aside0 (w104.heap[gb105]? = some (.cells #[.int .i64 0, .int .i64 0, .int .i64 0, .string (⟨#[]⟩ : ByteArray)] 49 (0, 0))) := ⟨h1_⟩
          have n2_ : Aside0 (w.heap.size ≤ gb105) := ⟨h2_⟩
          have n3_ : Aside0 (w.heap.size ≤ gb105) := ⟨h3_⟩
          have n4_ : Aside0 (gb101 ≠ gb105) := ⟨h4_⟩
          have n5_ : Aside0 (gb105 ≠ gb101) := ⟨h5_⟩
          have n6_ : Aside0 (Below w.heap.size w w104) := ⟨h6_⟩
          clear BK101
          clear HB
          clear h0_ h1_ h2_ h3_ h4_ h5_ h6_
          have BK101 := n0_
          have BK105 := n1_
          have GW105 := n2_
          have GE105 := n3_
          have NB101_105 := n4_
          have NB105_101 := n5_
          have HB := n6_
          clear n0_ n1_ n2_ n3_ n4_ n5_ n6_
          have hHeld := trivial
          refine norm_ (a' := ?_) ?_ ?_
          rotate_left
          ·simp only [putAll, Act.put, s1_, s2_, s3_]
           rfl
          refine one_ (i := 9) (N := none) (bs_ 10 0) rfl rfl (one_of HT_.out (by kernel_rfl)) (by decide) (fun K hK => ?_)
          have hs105 : w104.cell? ⟨gb105, 0, none⟩ = some (.int .i64 0) := (blk_cell BK105.out 0).trans rfl
          have hfs105 := blk_frozen BK105.out 0
          have hns105_0 := NB101_105.out
          have hms105_0 := NB105_101.out
          have hs106 : w104.cell? ⟨gb105, 1, none⟩ = some (.int .i64 0) := (blk_cell BK105.out 1).trans rfl
          have hfs106 := blk_frozen BK105.out 1
          have hns106_0 := NB101_105.out
          have hms106_0 := NB105_101.out
          have hs107 : w104.cell? ⟨gb105, 2, none⟩ = some (.int .i64 0) := (blk_cell BK105.out 2).trans rfl
          have hfs107 := blk_frozen BK105.out 2
          have hns107_0 := NB101_105.out
          have hms107_0 := NB105_101.out
          have hs108 : w104.cell? ⟨gb105, 3, none⟩ = some (.string (⟨#[]⟩ : ByteArray)) := (blk_cell BK105.out 3).trans rfl
          have hfs108 := blk_frozen BK105.out 3
          have hns108_0 := NB101_105.out
          have hms108_0 := NB105_101.out
          refine skip_ (w1 := ?_) (by rfl) rfl ?_ ?_
          rotate_left
          ·go_simp
           rfl
          refine hK.out _ _ trivial (fun hHeld => ?_)
          clear hK K
          refine done_ (done_of HT_.out (by kernel_rfl)) ?_
          try go_wp2_with (first | ((with_reducible refine gate_callee (f := 41) rfl ?_); refine goesL_ (some 40) rfl rfl Try.func41 (by kernel_rfl) rfl #[.string (t0.extract 6 t0.size)] rfl (by (try simp only [List.map_toArray, List.map_cons, List.map_nil]); first | done | rfl | (simp only [List.length_drop, List.length_take]; rfl)) ?_; (with_reducible refine (frame_number.calls (t0.extract 6 t0.size) t106 _ A27.out).mono ?_); rintro e w' ⟨rfl, ⟨nd, rfl⟩⟩; refine ⟨_, rfl, ?_⟩))
          have n0_ : Aside0 (((((w104.setCell ⟨gb105, 0, none⟩ (.int .i64 (wrap64 (bt t0 1)))).setCell ⟨gb105, 1, none⟩ (.int .i64 t104)).setCell ⟨gb105, 2, none⟩ (.int .i64 a1)).setCell ⟨gb105, 3, none⟩ (.string (⟨#[]⟩ : ByteArray))).heap[gb101]? = some (.cells #[.int .i64 0, .int .i64 0, .int .i64 0, .string (⟨#[]⟩ : ByteArray)] 49 (0, 0))) := ⟨by (with_reducible repeat (first | refine blk_drewN ?_ _ | refine blk_drew ?_ | refine blk_alloc ?_ _)); refine blk_far ?_ NB101_105.out _; (with_reducible repeat (first | refine blk_drewN ?_ _ | refine blk_drew ?_ | refine blk_alloc ?_ _)); refine blk_far ?_ NB101_105.out _; (with_reducible repeat (first | refine blk_drewN ?_ _ | refine blk_drew ?_ | refine blk_alloc ?_ _)); refine blk_far ?_ NB101_105.out _; (with_reducible repeat (first | refine blk_drewN ?_ _ | refine blk_drew ?_ | refine blk_alloc ?_ _)); refine blk_far ?_ NB101_105.out _; (with_reducible repeat (first | refine blk_drewN ?_ _ | refine blk_drew ?_ | refine blk_alloc ?_ _)); exact BK101.out⟩
          have n1_ : Aside0 (((((w104.setCell ⟨gb105, 0, none⟩ (.int .i64 (wrap64 (bt t0 1)))).setCell ⟨gb105, 1, none⟩ (.int .i64 t104)).setCell ⟨gb105, 2, none⟩ (.int .i64 a1)).setCell ⟨gb105, 3, none⟩ (.string (⟨#[]⟩ : ByteArray))).heap[gb105]? = some (.cells #[.int .i64 (wrap64 (bt t0 1)), .int .i64 t104, .int .i64 a1, .string (⟨#[]⟩ : ByteArray)] 49 (0, 0))) := ⟨by (with_reducible repeat (first | refine blk_drewN ?_ _ | refine blk_drew ?_ | refine blk_alloc ?_ _)); refine blk_put (cs := #[.int .i64 (wrap64 (bt t0 1)), .int .i64 t104, .int .i64 a1, .string (⟨#[]⟩ : ByteArray)]) ?_ 3 _ rfl; (with_reducible repeat (first | refine blk_drewN ?_ _ | refine blk_drew ?_ | refine blk_alloc ?_ _)); refine blk_put (cs := #[.int .i64 (wrap64 (bt t0 1)), .int .i64 t104, .int .i64 0, .string (⟨#[]⟩ : ByteArray)]) ?_ 2 _ rfl; (with_reducible repeat (first | refine blk_drewN ?_ _ | refine blk_drew ?_ | refine blk_alloc ?_ _)); refine blk_put (cs := #[.int .i64 (wrap64 (bt t0 1)), .int .i64 0, .int .i64 0, .string (⟨#[]⟩ : ByteArray)]) ?_ 1 _ rfl; (with_reducible repeat (first | refine blk_drewN ?_ _ | refine blk_drew ?_ | refine blk_alloc ?_ _)); refine blk_put (cs := #[.int .i64 0, .int .i64 0, .int .i64 0, .string (⟨#[]⟩ : ByteArray)]) ?_ 0 _ rfl; (with_reducible repeat (first | refine blk_drewN ?_ _ | refine blk_drew ?_ | refine blk_alloc ?_ _)); exact BK105.out⟩
          have n2_ : Aside0 (Below w.heap.size w ((((w104.setCell ⟨gb105, 0, none⟩ (.int .i64 (wrap64 (bt t0 1)))).setCell ⟨gb105, 1, none⟩ (.int .i64 t104)).setCell ⟨gb105, 2, none⟩ (.int .i64 a1)).setCell ⟨gb105, 3, none⟩ (.string (⟨#[]⟩ : ByteArray)))) := ⟨by repeat (first | (with_reducible first | exact HB.out | apply below_alloc | apply pw_below_drewN | apply below_drew1 | refine below_set ?_ GE101.out | refine below_set ?_ GE105.out) | exact HB.out)⟩
          (try clear BK101)
          (try clear BK105)
          (try clear HB)
          generalize ((((w104.setCell ⟨gb105, 0, none⟩ (.int .i64 (wrap64 (bt t0 1)))).setCell ⟨gb105, 1, none⟩ (.int .i64 t104)).setCell ⟨gb105, 2, none⟩ (.int .i64 a1)).setCell ⟨gb105, 3, none⟩ (.string (⟨#[]⟩ : ByteArray))) = w109 at n0_ n1_ n2_ ⊢
          have BK101 := n0_
          have BK105 := n1_
          have HB := n2_
          clear n0_ n1_ n2_
          (try (rw [drewN_self w109]; generalize hq_ : World.drewN w109 _ = w109; have n0_ : Aside0 (w109.heap[gb101]? = some (.cells #[.int .i64 0, .int .i64 0, .int .i64 0, .string (⟨#[]⟩ : ByteArray)] 49 (0, 0))) := ⟨by rw [← hq_]; exact (by (with_reducible repeat (first | refine blk_drewN ?_ _ | refine blk_drew ?_ | refine blk_alloc ?_ _)); exact BK101.out)⟩; have n1_ : Aside0 (w109.heap[gb105]? = some (.cells #[.int .i64 (wrap64 (bt t0 1)), .int .i64 t104, .int .i64 a1, .string (⟨#[]⟩ : ByteArray)] 49 (0, 0))) := ⟨by rw [← hq_]; exact (by (with_reducible repeat (first | refine blk_drewN ?_ _ | refine blk_drew ?_ | refine blk_alloc ?_ _)); exact BK105.out)⟩; have n2_ : Aside0 (Below w.heap.size w w109) := ⟨by rw [← hq_]; exact (by repeat (first | (with_reducible first | exact HB.out | apply below_alloc | apply pw_below_drewN | apply below_drew1 | refine below_set ?_ GE101.out | refine below_set ?_ GE105.out) | exact HB.out))⟩; clear BK101 BK105 HB hq_; have BK101 := n0_; have BK105 := n1_; have HB := n2_; clear n0_ n1_ n2_))
          have n0_ := Aside0.mk (blk_drew BK101.out)
          have n1_ := Aside0.mk (blk_drew BK105.out)
          have n2_ := Aside0.mk (below_drew1 HB.out)
          clear BK101
          clear BK105
          clear HB
          have BK101 := n0_
          have BK105 := n1_
          have HB := n2_
          clear n0_ n1_ n2_
          refine start_ (n := 33) (S := fun w' => w'.cell? ⟨gb105, 0, none⟩ = some (.int .i64 (wrap64 (bt t0 1))) ∧ w'.cell? ⟨gb105, 1, none⟩ = some (.int .i64 t104) ∧ w'.cell? ⟨gb105, 2, none⟩ = some (.int .i64 a1) ∧ w'.cell? ⟨gb105, 3, none⟩ = some (.string (⟨#[]⟩ : ByteArray))) (ds := []) (bs_ 0 33) (by kernel_rfl) rfl rfl ⟨(blk_cell BK105.out 0).trans rfl, (blk_cell BK105.out 1).trans rfl, (blk_cell BK105.out 2).trans rfl, (blk_cell BK105.out 3).trans rfl⟩ (fun hHeld => ?_); refine with_tabW frame_read.tab6 frame_read.bits6 (fun HT_ HW_ => ?_)
          generalize w109.drew = w110 at BK101 BK105 HB hHeld ⊢
          refine pu_ 0 (some 42) ?_ (bs_ 1 32) rfl rfl (any_of HT_.out (by kernel_rfl)) (fun _ _ _ h => h) (y_ (by rfl) ?_) ?_ ?_ ?_
          rotate_left
          ·intro w'
           go_simp
           with_reducible rfl
          rotate_left
          ·simp only [Act.put, s1_, s2_, s3_, i64_w, i32_w]
           rfl
          refine take_ (i := 1) (N := some 43) (v := ?_) (a' := ?_) (bs_ 2 31) rfl rfl (take_ofW HT_.out HW_.out (by kernel_rfl)) (fun _ _ _ h => h) (Or.inl ⟨by rfl, ?_⟩) hHeld ?_ ?_
          rotate_left
          ·rintro w' ⟨s0, s1, s2, s3⟩
           go_simp
           with_reducible rfl
          rotate_left
          ·simp only [Act.put, s1_, s2_, s3_, i64_w, i32_w]
           rfl
          refine one_ (i := 2) (N := some 44) (bs_ 3 30) rfl rfl (one_of HT_.out (by kernel_rfl)) (by decide) (fun K hK => ?_)
          refine goes_ Try.func32 (by kernel_rfl) rfl #[.int .i64 (wrap64 (bt t0 1))] (by rfl) rfl rfl (by (try simp only [List.map_toArray, List.map_cons, List.map_nil]); first | done | rfl | (simp only [List.length_drop, List.length_take]; rfl)) ?_
          with_reducible refine (frame_isKind.calls (wrap64 (bt t0 1)) false _ A28.out).mono ?_
          rintro e w' ⟨rfl, ⟨nd, rfl⟩⟩
          refine ⟨_, rfl, ?_⟩
          refine hK.out _ _ ⟨(blk_cell BK105.out 0).trans rfl, (blk_cell BK105.out 1).trans rfl, (blk_cell BK105.out 2).trans rfl, (blk_cell BK105.out 3).trans rfl⟩ (fun hHeld => ?_)
          clear hK K
          refine norm_ (a' := ?_) ?_ ?_
          rotate_left
          ·show Act.put _ (some 44) _ = _
           simp only [Act.put, s1_, s2_, s3_, i64_w, i32_w]
           rfl
          refine pu_ 3 (some 45) ?_ (bs_ 4 29) rfl rfl (any_of HT_.out (by kernel_rfl)) (fun _ _ _ h => h) (y_ (by rfl) ?_) ?_ ?_ ?_
          rotate_left
          ·intro w'
           go_simp
           with_reducible rfl
          rotate_left
          ·simp only [Act.put, s1_, s2_, s3_, i64_w, i32_w]
           rfl
          refine pu_ 4 (some 46) ?_ (bs_ 5 28) rfl rfl (any_of HT_.out (by kernel_rfl)) (fun _ _ _ h => h) (y_ (by rfl) ?_) ?_ ?_ ?_
          rotate_left
          ·intro w'
           go_simp
           with_reducible rfl
          rotate_left
          ·simp only [Act.put, s1_, s2_, s3_, i64_w, i32_w]
           rfl
          refine pu_ 5 (some 47) undef (bs_ 6 27) rfl rfl (any_of HT_.out (by kernel_rfl)) (fun _ _ _ h => h) (n_ (by rfl)) ?_ ?_ ?_
          rotate_left
          ·simp only [Act.put, s1_, s2_, s3_, i64_w, i32_w]
           rfl
          refine pu_ 6 (some 48) undef (bs_ 7 26) rfl rfl (any_of HT_.out (by kernel_rfl)) (fun _ _ _ h => h) (n_ (by rfl)) ?_ ?_ ?_
          rotate_left
          ·simp only [Act.put, s1_, s2_, s3_, i64_w, i32_w]
           rfl
          refine pu_ 7 (some 49) undef (bs_ 8 25) rfl rfl (any_of HT_.out (by kernel_rfl)) (fun _ _ _ h => h) (n_ (by rfl)) ?_ ?_ ?_
          rotate_left
          ·simp only [Act.put, s1_, s2_, s3_, i64_w, i32_w]
           rfl
          refine pu_ 8 (some 50) undef (bs_ 9 24) rfl rfl (any_of HT_.out (by kernel_rfl)) (fun _ _ _ h => h) (n_ (by rfl)) ?_ ?_ ?_
          rotate_left
          ·simp only [Act.put, s1_, s2_, s3_, i64_w, i32_w]
           rfl
          refine pu_ 9 (some 51) ?_ (bs_ 10 23) rfl rfl (any_of HT_.out (by kernel_rfl)) (fun _ _ _ h => h) (y_ (by rfl) ?_) ?_ ?_ ?_
          rotate_left
          ·intro w'
           go_simp
           with_reducible rfl
          rotate_left
          ·simp only [Act.put, s1_, s2_, s3_, i64_w, i32_w]
           rfl
          refine pu_ 10 (some 52) ?_ (bs_ 11 22) rfl rfl (any_of HT_.out (by kernel_rfl)) (fun _ _ _ h => h) (y_ (by rfl) ?_) ?_ ?_ ?_
          rotate_left
          ·intro w'
           go_simp
           with_reducible rfl
          rotate_left
          ·simp only [Act.put, s1_, s2_, s3_, i64_w, i32_w]
           rfl
          refine pu_ 11 (some 53) undef (bs_ 12 21) rfl rfl (any_of HT_.out (by kernel_rfl)) (fun _ _ _ h => h) (n_ (by rfl)) ?_ ?_ ?_
          rotate_left
          ·simp only [Act.put, s1_, s2_, s3_, i64_w, i32_w]
           rfl
          refine pu_ 12 (some 54) undef (bs_ 13 20) rfl rfl (any_of HT_.out (by kernel_rfl)) (fun _ _ _ h => h) (n_ (by rfl)) ?_ ?_ ?_
          rotate_left
          ·simp only [Act.put, s1_, s2_, s3_, i64_w, i32_w]
           rfl
          refine pu_ 13 (some 55) undef (bs_ 14 19) rfl rfl (any_of HT_.out (by kernel_rfl)) (fun _ _ _ h => h) (n_ (by rfl)) ?_ ?_ ?_
          rotate_left
          ·simp only [Act.put, s1_, s2_, s3_, i64_w, i32_w]
           rfl
          refine pu_ 14 (some 56) ?_ (bs_ 15 18) rfl rfl (any_of HT_.out (by kernel_rfl)) (fun _ _ _ h => h) (y_ (by rfl) ?_) ?_ ?_ ?_
          rotate_left
          ·intro w'
           go_simp
           with_reducible rfl
          rotate_left
          ·simp only [Act.put, s1_, s2_, s3_, i64_w, i32_w]
           rfl
          refine pu_ 15 (some 57) ?_ (bs_ 16 17) rfl rfl (any_of HT_.out (by kernel_rfl)) (fun _ _ _ h => h) (y_ (by rfl) ?_) ?_ ?_ ?_
          rotate_left
          ·intro w'
           go_simp
           with_reducible rfl
          rotate_left
          ·simp only [Act.put, s1_, s2_, s3_, i64_w, i32_w]
           rfl
          refine pu_ 16 (some 58) undef (bs_ 17 16) rfl rfl (any_of HT_.out (by kernel_rfl)) (fun _ _ _ h => h) (n_ (by rfl)) ?_ ?_ ?_
          rotate_left
          ·simp only [Act.put, s1_, s2_, s3_, i64_w, i32_w]
           rfl
          refine pu_ 17 (some 59) undef (bs_ 18 15) rfl rfl (any_of HT_.out (by kernel_rfl)) (fun _ _ _ h => h) (n_ (by rfl)) ?_ ?_ ?_
          rotate_left
          ·simp only [Act.put, s1_, s2_, s3_, i64_w, i32_w]
           rfl
          refine pu_ 18 (some 60) undef (bs_ 19 14) rfl rfl (any_of HT_.out (by kernel_rfl)) (fun _ _ _ h => h) (n_ (by rfl)) ?_ ?_ ?_
          rotate_left
          ·simp only [Act.put, s1_, s2_, s3_, i64_w, i32_w]
           rfl
          refine pu_ 19 (some 61) undef (bs_ 20 13) rfl rfl (any_of HT_.out (by kernel_rfl)) (fun _ _ _ h => h) (n_ (by rfl)) ?_ ?_ ?_
          rotate_left
          ·simp only [Act.put, s1_, s2_, s3_, i64_w, i32_w]
           rfl
          refine pu_ 20 (some 62) undef (bs_ 21 12) rfl rfl (any_of HT_.out (by kernel_rfl)) (fun _ _ _ h => h) (n_ (by rfl)) ?_ ?_ ?_
          rotate_left
          ·simp only [Act.put, s1_, s2_, s3_, i64_w, i32_w]
           rfl
          refine pu_ 21 (some 63) ?_ (bs_ 22 11) rfl rfl (any_of HT_.out (by kernel_rfl)) (fun _ _ _ h => h) (y_ (by rfl) ?_) ?_ ?_ ?_
          rotate_left
          ·intro w'
           go_simp
           with_reducible rfl
          rotate_left
          ·simp only [Act.put, s1_, s2_, s3_, i64_w, i32_w]
           rfl
          refine pu_ 22 (some 64) ?_ (bs_ 23 10) rfl rfl (any_of HT_.out (by kernel_rfl)) (fun _ _ _ h => h) (y_ (by rfl) ?_) ?_ ?_ ?_
          rotate_left
          ·intro w'
           go_simp
           with_reducible rfl
          rotate_left
          ·simp only [Act.put, s1_, s2_, s3_, i64_w, i32_w]
           rfl
          refine pu_ 23 (some 65) undef (bs_ 24 9) rfl rfl (any_of HT_.out (by kernel_rfl)) (fun _ _ _ h => h) (n_ (by rfl)) ?_ ?_ ?_
          rotate_left
          ·simp only [Act.put, s1_, s2_, s3_, i64_w, i32_w]
           rfl
          refine pu_ 24 (some 66) undef (bs_ 25 8) rfl rfl (any_of HT_.out (by kernel_rfl)) (fun _ _ _ h => h) (n_ (by rfl)) ?_ ?_ ?_
          rotate_left
          ·simp only [Act.put, s1_, s2_, s3_, i64_w, i32_w]
           rfl
          refine pu_ 25 (some 67) undef (bs_ 26 7) rfl rfl (any_of HT_.out (by kernel_rfl)) (fun _ _ _ h => h) (n_ (by rfl)) ?_ ?_ ?_
          rotate_left
          ·simp only [Act.put, s1_, s2_, s3_, i64_w, i32_w]
           rfl
          refine pu_ 26 (some 68) undef (bs_ 27 6) rfl rfl (any_of HT_.out (by kernel_rfl)) (fun _ _ _ h => h) (n_ (by rfl)) ?_ ?_ ?_
          rotate_left
          ·simp only [Act.put, s1_, s2_, s3_, i64_w, i32_w]
           rfl
          refine pu_ 27 (some 69) undef (bs_ 28 5) rfl rfl (any_of HT_.out (by kernel_rfl)) (fun _ _ _ h => h) (n_ (by rfl)) ?_ ?_ ?_
          rotate_left
          ·simp only [Act.put, s1_, s2_, s3_, i64_w, i32_w]
           rfl
          refine pu_ 28 (some 70) undef (bs_ 29 4) rfl rfl (any_of HT_.out (by kernel_rfl)) (fun _ _ _ h => h) (n_ (by rfl)) ?_ ?_ ?_
          rotate_left
          ·simp only [Act.put, s1_, s2_, s3_, i64_w, i32_w]
           rfl
          refine pu_ 29 (some 71) undef (bs_ 30 3) rfl rfl (any_of HT_.out (by kernel_rfl)) (fun _ _ _ h => h) (n_ (by rfl)) ?_ ?_ ?_
          rotate_left
          ·simp only [Act.put, s1_, s2_, s3_, i64_w, i32_w]
           rfl
          refine pu_ 30 (some 72) undef (bs_ 31 2) rfl rfl (any_of HT_.out (by kernel_rfl)) (fun _ _ _ h => h) (n_ (by rfl)) ?_ ?_ ?_
          rotate_left
          ·simp only [Act.put, s1_, s2_, s3_, i64_w, i32_w]
           rfl
          refine pu_ 31 (some 73) undef (bs_ 32 1) rfl rfl (any_of HT_.out (by kernel_rfl)) (fun _ _ _ h => h) (n_ (by rfl)) ?_ ?_ ?_
          rotate_left
          ·simp only [Act.put, s1_, s2_, s3_, i64_w, i32_w]
           rfl
          refine pu_ 32 (some 74) ?_ (bs_ 33 0) rfl rfl (any_of HT_.out (by kernel_rfl)) (fun _ _ _ h => h) (y_ (by rfl) ?_) ?_ ?_ ?_
          rotate_left
          ·intro w'
           go_simp
           with_reducible rfl
          rotate_left
          ·simp only [Act.put, s1_, s2_, s3_, i64_w, i32_w]
           rfl
          refine done_ (done_of HT_.out (by kernel_rfl)) ?_
          have hnb111 := NB101_105.out
          have hnc111 := NB105_101.out
          have hcz112_0 : w110.cell? ⟨gb101, 0, none⟩ = some (.int .i64 0) := (blk_cell BK101.out 0).trans rfl
          have hcz112_1 : w110.cell? ⟨gb101, 1, none⟩ = some (.int .i64 0) := (blk_cell BK101.out 1).trans rfl
          have hcz112_2 : w110.cell? ⟨gb101, 2, none⟩ = some (.int .i64 0) := (blk_cell BK101.out 2).trans rfl
          have hcz112_3 : w110.cell? ⟨gb101, 3, none⟩ = some (.string (⟨#[]⟩ : ByteArray)) := (blk_cell BK101.out 3).trans rfl
          have hfz112_0 := blk_frozen BK101.out 0
          have hfz112_1 := blk_frozen BK101.out 1
          have hfz112_2 := blk_frozen BK101.out 2
          have hfz112_3 := blk_frozen BK101.out 3
          try go_wp2
          refine bodyPost_ret (results_ctt rfl _ _ gb101 49 #[.int .i64 0, .int .i64 0, .int .i64 0, .string (⟨#[]⟩ : ByteArray)] (0, 0) _ rfl (by (with_reducible repeat (first | refine blk_drewN ?_ _ | refine blk_drew ?_ | refine blk_alloc ?_ _)); refine blk_put (cs := #[.int .i64 0, .int .i64 0, .int .i64 0, .string (⟨#[]⟩ : ByteArray)]) ?_ 3 _ rfl; (with_reducible repeat (first | refine blk_drewN ?_ _ | refine blk_drew ?_ | refine blk_alloc ?_ _)); refine blk_put (cs := #[.int .i64 0, .int .i64 0, .int .i64 0, .string (⟨#[]⟩ : ByteArray)]) ?_ 2 _ rfl; (with_reducible repeat (first | refine blk_drewN ?_ _ | refine blk_drew ?_ | refine blk_alloc ?_ _)); refine blk_put (cs := #[.int .i64 0, .int .i64 0, .int .i64 0, .string (⟨#[]⟩ : ByteArray)]) ?_ 1 _ rfl; (with_reducible repeat (first | refine blk_drewN ?_ _ | refine blk_drew ?_ | refine blk_alloc ?_ _)); refine blk_put (cs := #[.int .i64 0, .int .i64 0, .int .i64 0, .string (⟨#[]⟩ : ByteArray)]) ?_ 0 _ rfl; (with_reducible repeat (first | refine blk_drewN ?_ _ | refine blk_drew ?_ | refine blk_alloc ?_ _)); exact BK101.out) Try.underlying49 rfl (by kernel_rfl)) rfl ?_
          exact ⟨by first | rfl | (simp [errW_none, errW_some] <;> rfl) | (simp [*, errW_none, errW_some] <;> rfl), by repeat (first | (with_reducible first | exact HB.out | apply below_alloc | apply pw_below_drewN | apply below_drew1 | refine below_set ?_ GE101.out | refine below_set ?_ GE105.out) | exact HB.out)⟩
        ·rw [if_neg c26] at H
         exact absurd H (by simp)
       ·rw [if_neg c24] at H
        exact absurd H (by simp)
      ·rw [if_neg c22] at H
       exact absurd H (by simp)
  ·rw [if_neg c4] at H
   exact absurd H (by simp)
 ·rw [if_neg c3] at H
  exact absurd H (by simp)

end Go.Proofs.Ytcndhgpaoihblaa.Fr
