import Derived.Test.YtjlchnmpebdggaaDoorHdr2
import Derived.Test.YtjlchnmpebdggaaDoorHdr4
section
-- PRINTED by a driver of print.py
namespace Go.Proofs.YtjlchnmpebdggaaDoor.Mo
open Go.RowKit Go.Proofs.YtjlchnmpebdggaaDoorW.PrintWords Go.Proofs.YtjlchnmpebdggaaDoorW.PrintLast Go.Proofs.YtjlchnmpebdggaaDoorW.PrintMore
attribute [local go_sem] max2_int min2_int max_two min_two max_three min_three max_four min_four   -- for this text's walks alone
set_option linter.unusedVariables false
set_option linter.unusedSimpArgs false
def postbagref2_zone.f (k : Nat) (a0 : Int) : Option (ByteArray) := if a0 < 0 then ((postbagref2_text.f k (wrap64 (Int.tdiv (wrap64 (-a0)) 60)) 2).bind fun t264 => (if 1 + t264.size ≤ 9223372036854775807 then ((postbagref2_text.f k (Int.tmod (wrap64 (-a0)) 60) 2).bind fun t265 => (if ((⟨#[45]⟩ : ByteArray) ++ t264).size + t265.size ≤ 9223372036854775807 then (some (((⟨#[45]⟩ : ByteArray) ++ t264) ++ t265)) else (none))) else (none))) else ((postbagref2_text.f k (wrap64 (Int.tdiv a0 60)) 2).bind fun t266 => (if 1 + t266.size ≤ 9223372036854775807 then ((postbagref2_text.f k (Int.tmod a0 60) 2).bind fun t267 => (if ((⟨#[43]⟩ : ByteArray) ++ t266).size + t267.size ≤ 9223372036854775807 then (some (((⟨#[43]⟩ : ByteArray) ++ t266) ++ t267)) else (none))) else (none)))
set_option maxHeartbeats 8000000 in
set_option maxRecDepth 100000 in
theorem postbagref2_zone.calls (k : Nat) (a0 : Int) (r : ByteArray) (w : World) (h : postbagref2_zone.f k a0 = some r) :
  Calls Tryd.prog 96 #[.int .i64 a0] w fun e w' => e = .returned (.string r) ∧ Below w.heap.size w w' := by
 have HB := Aside0.mk (Below.refl w.heap.size w)
 have H : (if a0 < 0 then ((postbagref2_text.f k (wrap64 (Int.tdiv (wrap64 (-a0)) 60)) 2).bind fun t264 => (if 1 + t264.size ≤ 9223372036854775807 then ((postbagref2_text.f k (Int.tmod (wrap64 (-a0)) 60) 2).bind fun t265 => (if ((⟨#[45]⟩ : ByteArray) ++ t264).size + t265.size ≤ 9223372036854775807 then (some (((⟨#[45]⟩ : ByteArray) ++ t264) ++ t265)) else (none))) else (none))) else ((postbagref2_text.f k (wrap64 (Int.tdiv a0 60)) 2).bind fun t266 => (if 1 + t266.size ≤ 9223372036854775807 then ((postbagref2_text.f k (Int.tmod a0 60) 2).bind fun t267 => (if ((⟨#[43]⟩ : ByteArray) ++ t266).size + t267.size ≤ 9223372036854775807 then (some (((⟨#[43]⟩ : ByteArray) ++ t266) ++ t267)) else (none))) else (none)))) = some r := h
 clear h
 by_cases c2 : a0 < 0
 ·rw [if_pos c2] at H
  have c2b0 : decide (a0 < 0) = true := decide_eq_true c2
  clear c2
  replace H := Option.bind_eq_some_iff.mp H
  obtain ⟨t264, A30, H⟩ := H
  replace H : (if 1 + t264.size ≤ 9223372036854775807 then ((postbagref2_text.f k (Int.tmod (wrap64 (-a0)) 60) 2).bind fun t265 => (if ((⟨#[45]⟩ : ByteArray) ++ t264).size + t265.size ≤ 9223372036854775807 then (some (((⟨#[45]⟩ : ByteArray) ++ t264) ++ t265)) else (none))) else (none)) = some r := H
  have A3 := Aside0.mk A30
  clear A30
  by_cases c4 : 1 + t264.size ≤ 9223372036854775807
  ·rw [if_pos c4] at H
   have c4b0 := eq_true c4
   have c4b1 : decide (1 + t264.size ≤ 9223372036854775807) = true := decide_eq_true c4
   try have c4b2 : (9223372036854775807 < 1 + t264.size) = False := eq_false (Nat.not_lt.2 c4)
   replace H := Option.bind_eq_some_iff.mp H
   obtain ⟨t265, A50, H⟩ := H
   replace H : (if ((⟨#[45]⟩ : ByteArray) ++ t264).size + t265.size ≤ 9223372036854775807 then (some (((⟨#[45]⟩ : ByteArray) ++ t264) ++ t265)) else (none)) = some r := H
   have A5 := Aside0.mk A50
   clear A50
   by_cases c6 : ((⟨#[45]⟩ : ByteArray) ++ t264).size + t265.size ≤ 9223372036854775807
   ·rw [if_pos c6] at H
    have c6b0 := eq_true c6
    have c6b1 : decide (((⟨#[45]⟩ : ByteArray) ++ t264).size + t265.size ≤ 9223372036854775807) = true := decide_eq_true c6
    try have c6b2 : (9223372036854775807 < ((⟨#[45]⟩ : ByteArray) ++ t264).size + t265.size) = False := eq_false (Nat.not_lt.2 c6)
    try have c6b7 : (9223372036854775807 < 1 + t264.size + t265.size) = False := eq_false (by have h_ := c6; simp only [ByteArray.size_append] at h_; first | exact Nat.not_lt.2 h_ | omega | (simp at h_ ⊢; omega))
    try have c6b3 : (9223372036854775807 < (⟨#[45]⟩ : ByteArray).size + t264.size + t265.size) = False := eq_false (by have h_ := c6; simp only [ByteArray.size_append] at h_; omega)
    obtain rfl := Option.some.inj H
    go_enter Tryd.func96, Tryd.ntmps96
    go_wp2_with (first | ((with_reducible refine gate_callee (f := 79) rfl ?_); refine goesL_ (some 11) rfl rfl Tryd.func79 (by kernel_rfl) rfl #[.int .i64 (wrap64 (Int.tdiv (wrap64 (-a0)) 60)), .int .i64 2] rfl (by (try simp only [List.map_toArray, List.map_cons, List.map_nil]); first | done | rfl) ?_; (with_reducible refine (postbagref2_text.calls k (wrap64 (Int.tdiv (wrap64 (-a0)) 60)) 2 t264 _ A3.out).mono ?_); rintro e w7 ⟨rfl, hb⟩; refine ⟨_, rfl, ?_⟩; have n0_ := Aside0.mk (below_step (by repeat (first | (with_reducible first | exact HB.out | apply below_alloc | apply pw_below_drewN | apply below_drew1) | exact HB.out)) hb); clear HB; have HB := n0_; clear n0_; (try clear hb); (try clear hb2); (try clear hk); (try clear hi)) | ((with_reducible refine gate_callee (f := 79) rfl ?_); refine goesL_ (some 15) rfl rfl Tryd.func79 (by kernel_rfl) rfl #[.int .i64 (Int.tmod (wrap64 (-a0)) 60), .int .i64 2] rfl (by (try simp only [List.map_toArray, List.map_cons, List.map_nil]); first | done | rfl) ?_; (with_reducible refine (postbagref2_text.calls k (Int.tmod (wrap64 (-a0)) 60) 2 t265 _ A5.out).mono ?_); rintro e w8 ⟨rfl, hb⟩; refine ⟨_, rfl, ?_⟩; have n0_ := Aside0.mk (below_step (by repeat (first | (with_reducible first | exact HB.out | apply below_alloc | apply pw_below_drewN | apply below_drew1) | exact HB.out)) hb); clear HB; have HB := n0_; clear n0_; (try clear hb); (try clear hb2); (try clear hk); (try clear hi)))
    go_ret
    exact ⟨by first | rfl | (simp [errW_none, errW_some] <;> rfl) | (simp [*, errW_none, errW_some] <;> rfl), by repeat (first | (with_reducible first | exact HB.out | apply below_alloc | apply pw_below_drewN | apply below_drew1) | exact HB.out)⟩
   ·rw [if_neg c6] at H
    exact absurd H (by simp)
  ·rw [if_neg c4] at H
   exact absurd H (by simp)
 ·rw [if_neg c2] at H
  have c2b0 : decide (a0 < 0) = false := decide_eq_false c2
  clear c2
  replace H := Option.bind_eq_some_iff.mp H
  obtain ⟨t266, A90, H⟩ := H
  replace H : (if 1 + t266.size ≤ 9223372036854775807 then ((postbagref2_text.f k (Int.tmod a0 60) 2).bind fun t267 => (if ((⟨#[43]⟩ : ByteArray) ++ t266).size + t267.size ≤ 9223372036854775807 then (some (((⟨#[43]⟩ : ByteArray) ++ t266) ++ t267)) else (none))) else (none)) = some r := H
  have A9 := Aside0.mk A90
  clear A90
  by_cases c10 : 1 + t266.size ≤ 9223372036854775807
  ·rw [if_pos c10] at H
   have c10b0 := eq_true c10
   have c10b1 : decide (1 + t266.size ≤ 9223372036854775807) = true := decide_eq_true c10
   try have c10b2 : (9223372036854775807 < 1 + t266.size) = False := eq_false (Nat.not_lt.2 c10)
   replace H := Option.bind_eq_some_iff.mp H
   obtain ⟨t267, A110, H⟩ := H
   replace H : (if ((⟨#[43]⟩ : ByteArray) ++ t266).size + t267.size ≤ 9223372036854775807 then (some (((⟨#[43]⟩ : ByteArray) ++ t266) ++ t267)) else (none)) = some r := H
   have A11 := Aside0.mk A110
   clear A110
   by_cases c12 : ((⟨#[43]⟩ : ByteArray) ++ t266).size + t267.size ≤ 9223372036854775807
   ·rw [if_pos c12] at H
    have c12b0 := eq_true c12
    have c12b1 : decide (((⟨#[43]⟩ : ByteArray) ++ t266).size + t267.size ≤ 9223372036854775807) = true := decide_eq_true c12
    try have c12b2 : (9223372036854775807 < ((⟨#[43]⟩ : ByteArray) ++ t266).size + t267.size) = False := eq_false (Nat.not_lt.2 c12)
    try have c12b7 : (9223372036854775807 < 1 + t266.size + t267.size) = False := eq_false (by have h_ := c12; simp only [ByteArray.size_append] at h_; first | exact Nat.not_lt.2 h_ | omega | (simp at h_ ⊢; omega))
    try have c12b3 : (9223372036854775807 < (⟨#[43]⟩ : ByteArray).size + t266.size + t267.size) = False := eq_false (by have h_ := c12; simp only [ByteArray.size_append] at h_; omega)
    obtain rfl := Option.some.inj H
    go_enter Tryd.func96, Tryd.ntmps96
    go_wp2_with (first | ((with_reducible refine gate_callee (f := 79) rfl ?_); refine goesL_ (some 11) rfl rfl Tryd.func79 (by kernel_rfl) rfl #[.int .i64 (wrap64 (Int.tdiv a0 60)), .int .i64 2] rfl (by (try simp only [List.map_toArray, List.map_cons, List.map_nil]); first | done | rfl) ?_; (with_reducible refine (postbagref2_text.calls k (wrap64 (Int.tdiv a0 60)) 2 t266 _ A9.out).mono ?_); rintro e w13 ⟨rfl, hb⟩; refine ⟨_, rfl, ?_⟩; have n0_ := Aside0.mk (below_step (by repeat (first | (with_reducible first | exact HB.out | apply below_alloc | apply pw_below_drewN | apply below_drew1) | exact HB.out)) hb); clear HB; have HB := n0_; clear n0_; (try clear hb); (try clear hb2); (try clear hk); (try clear hi)) | ((with_reducible refine gate_callee (f := 79) rfl ?_); refine goesL_ (some 15) rfl rfl Tryd.func79 (by kernel_rfl) rfl #[.int .i64 (Int.tmod a0 60), .int .i64 2] rfl (by (try simp only [List.map_toArray, List.map_cons, List.map_nil]); first | done | rfl) ?_; (with_reducible refine (postbagref2_text.calls k (Int.tmod a0 60) 2 t267 _ A11.out).mono ?_); rintro e w14 ⟨rfl, hb⟩; refine ⟨_, rfl, ?_⟩; have n0_ := Aside0.mk (below_step (by repeat (first | (with_reducible first | exact HB.out | apply below_alloc | apply pw_below_drewN | apply below_drew1) | exact HB.out)) hb); clear HB; have HB := n0_; clear n0_; (try clear hb); (try clear hb2); (try clear hk); (try clear hi)))
    go_ret
    exact ⟨by first | rfl | (simp [errW_none, errW_some] <;> rfl) | (simp [*, errW_none, errW_some] <;> rfl), by repeat (first | (with_reducible first | exact HB.out | apply below_alloc | apply pw_below_drewN | apply below_drew1) | exact HB.out)⟩
   ·rw [if_neg c12] at H
    exact absurd H (by simp)
  ·rw [if_neg c10] at H
   exact absurd H (by simp)
def postbagref2_clock.f (k : Nat) (a0_0 : Int) (a0_1 : Int) (a0_2 : Int) (a0_3 : Int) (a0_4 : Int) (a0_5 : Int) (a0_6 : Int) : Option (ByteArray) := (postbagref2_text.f k a0_3 2).bind fun t269 => (if t269.size + 1 ≤ 9223372036854775807 then ((postbagref2_text.f k a0_4 2).bind fun t270 => (if (t269 ++ (⟨#[58]⟩ : ByteArray)).size + t270.size ≤ 9223372036854775807 then (if ((t269 ++ (⟨#[58]⟩ : ByteArray)) ++ t270).size + 1 ≤ 9223372036854775807 then ((postbagref2_text.f k a0_5 2).bind fun t271 => (if (((t269 ++ (⟨#[58]⟩ : ByteArray)) ++ t270) ++ (⟨#[58]⟩ : ByteArray)).size + t271.size ≤ 9223372036854775807 then (if ((((t269 ++ (⟨#[58]⟩ : ByteArray)) ++ t270) ++ (⟨#[58]⟩ : ByteArray)) ++ t271).size + 1 ≤ 9223372036854775807 then ((postbagref2_zone.f k a0_6).bind fun t272 => (if (((((t269 ++ (⟨#[58]⟩ : ByteArray)) ++ t270) ++ (⟨#[58]⟩ : ByteArray)) ++ t271) ++ (⟨#[32]⟩ : ByteArray)).size + t272.size ≤ 9223372036854775807 then (some ((((((t269 ++ (⟨#[58]⟩ : ByteArray)) ++ t270) ++ (⟨#[58]⟩ : ByteArray)) ++ t271) ++ (⟨#[32]⟩ : ByteArray)) ++ t272)) else (none))) else (none)) else (none))) else (none)) else (none))) else (none))
def postbagref2_clock.T1 : Bool × List (List Nat × List Nat) := (true, [([], []), ([0], [0]), ([1], [1]), ([2], [2]), ([], []), ([4], [4]), ([5, 2], [5]), ([3, 6], [3, 6]), ([7], [7]), ([], []), ([9], [9]), ([10, 6], [10]), ([8, 11], [8, 11]), ([12], [12]), ([], []), ([14], [14]), ([15, 11], [15]), ([13, 16], [13, 16]), ([17, 16, 0, 1, 2, 3, 4, 5, 6, 7, 8, 9, 10, 11, 12, 13, 14, 15, 16, 17], [17])])
def postbagref2_clock.B1 : List Nat := [0, 1, 3, 7, 0, 16, 55, 127, 255, 0, 512, 1655, 4095, 8191, 0, 16384, 52855, 131071, 262143]
theorem postbagref2_clock.tab1 : rtab .any (opsOf Tryd.f80 1) = postbagref2_clock.T1 := by kernel_rfl
theorem postbagref2_clock.bits1 : waitsOk postbagref2_clock.T1.2 postbagref2_clock.B1 = true := by kernel_rfl
set_option maxHeartbeats 8000000 in
set_option maxRecDepth 100000 in
theorem postbagref2_clock.calls (k : Nat) (a0_0 : Int) (a0_1 : Int) (a0_2 : Int) (a0_3 : Int) (a0_4 : Int) (a0_5 : Int) (a0_6 : Int) (r : ByteArray) (w : World) (h : postbagref2_clock.f k a0_0 a0_1 a0_2 a0_3 a0_4 a0_5 a0_6 = some r) :
  Calls Tryd.prog 80 #[.agg #[.int .i64 a0_0, .int .i64 a0_1, .int .i64 a0_2, .int .i64 a0_3, .int .i64 a0_4, .int .i64 a0_5, .int .i64 a0_6]] w fun e w' => e = .returned (.string r) ∧ Below w.heap.size w w' := by
 have hu23 := Tryd.underlying23
 have HB := Aside0.mk (Below.refl w.heap.size w)
 have H : ((postbagref2_text.f k a0_3 2).bind fun t269 => (if t269.size + 1 ≤ 9223372036854775807 then ((postbagref2_text.f k a0_4 2).bind fun t270 => (if (t269 ++ (⟨#[58]⟩ : ByteArray)).size + t270.size ≤ 9223372036854775807 then (if ((t269 ++ (⟨#[58]⟩ : ByteArray)) ++ t270).size + 1 ≤ 9223372036854775807 then ((postbagref2_text.f k a0_5 2).bind fun t271 => (if (((t269 ++ (⟨#[58]⟩ : ByteArray)) ++ t270) ++ (⟨#[58]⟩ : ByteArray)).size + t271.size ≤ 9223372036854775807 then (if ((((t269 ++ (⟨#[58]⟩ : ByteArray)) ++ t270) ++ (⟨#[58]⟩ : ByteArray)) ++ t271).size + 1 ≤ 9223372036854775807 then ((postbagref2_zone.f k a0_6).bind fun t272 => (if (((((t269 ++ (⟨#[58]⟩ : ByteArray)) ++ t270) ++ (⟨#[58]⟩ : ByteArray)) ++ t271) ++ (⟨#[32]⟩ : ByteArray)).size + t272.size ≤ 9223372036854775807 then (some ((((((t269 ++ (⟨#[58]⟩ : ByteArray)) ++ t270) ++ (⟨#[58]⟩ : ByteArray)) ++ t271) ++ (⟨#[32]⟩ : ByteArray)) ++ t272)) else (none))) else (none)) else (none))) else (none)) else (none))) else (none))) = some r := h
 clear h
 replace H := Option.bind_eq_some_iff.mp H
 obtain ⟨t269, A20, H⟩ := H
 replace H : (if t269.size + 1 ≤ 9223372036854775807 then ((postbagref2_text.f k a0_4 2).bind fun t270 => (if (t269 ++ (⟨#[58]⟩ : ByteArray)).size + t270.size ≤ 9223372036854775807 then (if ((t269 ++ (⟨#[58]⟩ : ByteArray)) ++ t270).size + 1 ≤ 9223372036854775807 then ((postbagref2_text.f k a0_5 2).bind fun t271 => (if (((t269 ++ (⟨#[58]⟩ : ByteArray)) ++ t270) ++ (⟨#[58]⟩ : ByteArray)).size + t271.size ≤ 9223372036854775807 then (if ((((t269 ++ (⟨#[58]⟩ : ByteArray)) ++ t270) ++ (⟨#[58]⟩ : ByteArray)) ++ t271).size + 1 ≤ 9223372036854775807 then ((postbagref2_zone.f k a0_6).bind fun t272 => (if (((((t269 ++ (⟨#[58]⟩ : ByteArray)) ++ t270) ++ (⟨#[58]⟩ : ByteArray)) ++ t271) ++ (⟨#[32]⟩ : ByteArray)).size + t272.size ≤ 9223372036854775807 then (some ((((((t269 ++ (⟨#[58]⟩ : ByteArray)) ++ t270) ++ (⟨#[58]⟩ : ByteArray)) ++ t271) ++ (⟨#[32]⟩ : ByteArray)) ++ t272)) else (none))) else (none)) else (none))) else (none)) else (none))) else (none)) = some r := H
 have A2 := Aside0.mk A20
 clear A20
 by_cases c3 : t269.size + 1 ≤ 9223372036854775807
 ·rw [if_pos c3] at H
  have c3b0 := eq_true c3
  have c3b1 : decide (t269.size + 1 ≤ 9223372036854775807) = true := decide_eq_true c3
  try have c3b2 : (9223372036854775807 < t269.size + 1) = False := eq_false (Nat.not_lt.2 c3)
  replace H := Option.bind_eq_some_iff.mp H
  obtain ⟨t270, A40, H⟩ := H
  replace H : (if (t269 ++ (⟨#[58]⟩ : ByteArray)).size + t270.size ≤ 9223372036854775807 then (if ((t269 ++ (⟨#[58]⟩ : ByteArray)) ++ t270).size + 1 ≤ 9223372036854775807 then ((postbagref2_text.f k a0_5 2).bind fun t271 => (if (((t269 ++ (⟨#[58]⟩ : ByteArray)) ++ t270) ++ (⟨#[58]⟩ : ByteArray)).size + t271.size ≤ 9223372036854775807 then (if ((((t269 ++ (⟨#[58]⟩ : ByteArray)) ++ t270) ++ (⟨#[58]⟩ : ByteArray)) ++ t271).size + 1 ≤ 9223372036854775807 then ((postbagref2_zone.f k a0_6).bind fun t272 => (if (((((t269 ++ (⟨#[58]⟩ : ByteArray)) ++ t270) ++ (⟨#[58]⟩ : ByteArray)) ++ t271) ++ (⟨#[32]⟩ : ByteArray)).size + t272.size ≤ 9223372036854775807 then (some ((((((t269 ++ (⟨#[58]⟩ : ByteArray)) ++ t270) ++ (⟨#[58]⟩ : ByteArray)) ++ t271) ++ (⟨#[32]⟩ : ByteArray)) ++ t272)) else (none))) else (none)) else (none))) else (none)) else (none)) = some r := H
  have A4 := Aside0.mk A40
  clear A40
  by_cases c5 : (t269 ++ (⟨#[58]⟩ : ByteArray)).size + t270.size ≤ 9223372036854775807
  ·rw [if_pos c5] at H
   have c5b0 := eq_true c5
   have c5b1 : decide ((t269 ++ (⟨#[58]⟩ : ByteArray)).size + t270.size ≤ 9223372036854775807) = true := decide_eq_true c5
   try have c5b2 : (9223372036854775807 < (t269 ++ (⟨#[58]⟩ : ByteArray)).size + t270.size) = False := eq_false (Nat.not_lt.2 c5)
   try have c5b7 : (9223372036854775807 < t269.size + 1 + t270.size) = False := eq_false (by have h_ := c5; simp only [ByteArray.size_append] at h_; first | exact Nat.not_lt.2 h_ | omega | (simp at h_ ⊢; omega))
   try have c5b3 : (9223372036854775807 < t269.size + (⟨#[58]⟩ : ByteArray).size + t270.size) = False := eq_false (by have h_ := c5; simp only [ByteArray.size_append] at h_; omega)
   by_cases c6 : ((t269 ++ (⟨#[58]⟩ : ByteArray)) ++ t270).size + 1 ≤ 9223372036854775807
   ·rw [if_pos c6] at H
    have c6b0 := eq_true c6
    have c6b1 : decide (((t269 ++ (⟨#[58]⟩ : ByteArray)) ++ t270).size + 1 ≤ 9223372036854775807) = true := decide_eq_true c6
    try have c6b2 : (9223372036854775807 < ((t269 ++ (⟨#[58]⟩ : ByteArray)) ++ t270).size + 1) = False := eq_false (Nat.not_lt.2 c6)
    try have c6b7 : (9223372036854775807 < t269.size + 1 + t270.size + 1) = False := eq_false (by have h_ := c6; simp only [ByteArray.size_append] at h_; first | exact Nat.not_lt.2 h_ | omega | (simp at h_ ⊢; omega))
    try have c6b3 : (9223372036854775807 < t269.size + (⟨#[58]⟩ : ByteArray).size + t270.size + 1) = False := eq_false (by have h_ := c6; simp only [ByteArray.size_append] at h_; omega)
    replace H := Option.bind_eq_some_iff.mp H
    obtain ⟨t271, A70, H⟩ := H
    replace H : (if (((t269 ++ (⟨#[58]⟩ : ByteArray)) ++ t270) ++ (⟨#[58]⟩ : ByteArray)).size + t271.size ≤ 9223372036854775807 then (if ((((t269 ++ (⟨#[58]⟩ : ByteArray)) ++ t270) ++ (⟨#[58]⟩ : ByteArray)) ++ t271).size + 1 ≤ 9223372036854775807 then ((postbagref2_zone.f k a0_6).bind fun t272 => (if (((((t269 ++ (⟨#[58]⟩ : ByteArray)) ++ t270) ++ (⟨#[58]⟩ : ByteArray)) ++ t271) ++ (⟨#[32]⟩ : ByteArray)).size + t272.size ≤ 9223372036854775807 then (some ((((((t269 ++ (⟨#[58]⟩ : ByteArray)) ++ t270) ++ (⟨#[58]⟩ : ByteArray)) ++ t271) ++ (⟨#[32]⟩ : ByteArray)) ++ t272)) else (none))) else (none)) else (none)) = some r := H
    have A7 := Aside0.mk A70
    clear A70
    by_cases c8 : (((t269 ++ (⟨#[58]⟩ : ByteArray)) ++ t270) ++ (⟨#[58]⟩ : ByteArray)).size + t271.size ≤ 9223372036854775807
    ·rw [if_pos c8] at H
     have c8b0 := eq_true c8
     have c8b1 : decide ((((t269 ++ (⟨#[58]⟩ : ByteArray)) ++ t270) ++ (⟨#[58]⟩ : ByteArray)).size + t271.size ≤ 9223372036854775807) = true := decide_eq_true c8
     try have c8b2 : (9223372036854775807 < (((t269 ++ (⟨#[58]⟩ : ByteArray)) ++ t270) ++ (⟨#[58]⟩ : ByteArray)).size + t271.size) = False := eq_false (Nat.not_lt.2 c8)
     try have c8b7 : (9223372036854775807 < t269.size + 1 + t270.size + 1 + t271.size) = False := eq_false (by have h_ := c8; simp only [ByteArray.size_append] at h_; first | exact Nat.not_lt.2 h_ | omega | (simp at h_ ⊢; omega))
     try have c8b3 : (9223372036854775807 < t269.size + (⟨#[58]⟩ : ByteArray).size + t270.size + (⟨#[58]⟩ : ByteArray).size + t271.size) = False := eq_false (by have h_ := c8; simp only [ByteArray.size_append] at h_; omega)
     by_cases c9 : ((((t269 ++ (⟨#[58]⟩ : ByteArray)) ++ t270) ++ (⟨#[58]⟩ : ByteArray)) ++ t271).size + 1 ≤ 9223372036854775807
     ·rw [if_pos c9] at H
      have c9b0 := eq_true c9
      have c9b1 : decide (((((t269 ++ (⟨#[58]⟩ : ByteArray)) ++ t270) ++ (⟨#[58]⟩ : ByteArray)) ++ t271).size + 1 ≤ 9223372036854775807) = true := decide_eq_true c9
      try have c9b2 : (9223372036854775807 < ((((t269 ++ (⟨#[58]⟩ : ByteArray)) ++ t270) ++ (⟨#[58]⟩ : ByteArray)) ++ t271).size + 1) = False := eq_false (Nat.not_lt.2 c9)
      try have c9b7 : (9223372036854775807 < t269.size + 1 + t270.size + 1 + t271.size + 1) = False := eq_false (by have h_ := c9; simp only [ByteArray.size_append] at h_; first | exact Nat.not_lt.2 h_ | omega | (simp at h_ ⊢; omega))
      try have c9b3 : (9223372036854775807 < t269.size + (⟨#[58]⟩ : ByteArray).size + t270.size + (⟨#[58]⟩ : ByteArray).size + t271.size + 1) = False := eq_false (by have h_ := c9; simp only [ByteArray.size_append] at h_; omega)
      replace H := Option.bind_eq_some_iff.mp H
      obtain ⟨t272, A100, H⟩ := H
      replace H : (if (((((t269 ++ (⟨#[58]⟩ : ByteArray)) ++ t270) ++ (⟨#[58]⟩ : ByteArray)) ++ t271) ++ (⟨#[32]⟩ : ByteArray)).size + t272.size ≤ 9223372036854775807 then (some ((((((t269 ++ (⟨#[58]⟩ : ByteArray)) ++ t270) ++ (⟨#[58]⟩ : ByteArray)) ++ t271) ++ (⟨#[32]⟩ : ByteArray)) ++ t272)) else (none)) = some r := H
      have A10 := Aside0.mk A100
      clear A100
      by_cases c11 : (((((t269 ++ (⟨#[58]⟩ : ByteArray)) ++ t270) ++ (⟨#[58]⟩ : ByteArray)) ++ t271) ++ (⟨#[32]⟩ : ByteArray)).size + t272.size ≤ 9223372036854775807
      ·rw [if_pos c11] at H
       have c11b0 := eq_true c11
       have c11b1 : decide ((((((t269 ++ (⟨#[58]⟩ : ByteArray)) ++ t270) ++ (⟨#[58]⟩ : ByteArray)) ++ t271) ++ (⟨#[32]⟩ : ByteArray)).size + t272.size ≤ 9223372036854775807) = true := decide_eq_true c11
       try have c11b2 : (9223372036854775807 < (((((t269 ++ (⟨#[58]⟩ : ByteArray)) ++ t270) ++ (⟨#[58]⟩ : ByteArray)) ++ t271) ++ (⟨#[32]⟩ : ByteArray)).size + t272.size) = False := eq_false (Nat.not_lt.2 c11)
       try have c11b7 : (9223372036854775807 < t269.size + 1 + t270.size + 1 + t271.size + 1 + t272.size) = False := eq_false (by have h_ := c11; simp only [ByteArray.size_append] at h_; first | exact Nat.not_lt.2 h_ | omega | (simp at h_ ⊢; omega))
       try have c11b3 : (9223372036854775807 < t269.size + (⟨#[58]⟩ : ByteArray).size + t270.size + (⟨#[58]⟩ : ByteArray).size + t271.size + (⟨#[32]⟩ : ByteArray).size + t272.size) = False := eq_false (by have h_ := c11; simp only [ByteArray.size_append] at h_; omega)
       obtain rfl := Option.some.inj H
       go_enter Tryd.func80, Tryd.ntmps80
       try go_wp2_with (first | ((with_reducible refine gate_dst (N := 1) rfl ?_); refine box_event ?hg (N := 1) ?hd (cs := #[.int .i64 a0_0, .int .i64 a0_1, .int .i64 a0_2, .int .i64 a0_3, .int .i64 a0_4, .int .i64 a0_5, .int .i64 a0_6]) (t := 23) ?hr ?_; (case hd => rfl); (case hg => rfl); (case hr => first | (go_simp; done) | (go_simp; rfl)); intro gb268 hg w12 hbox hb; have n0_ := Aside0.mk (below_step (by repeat (first | (with_reducible first | exact HB.out | apply below_alloc | apply pw_below_drewN | apply below_drew1) | exact HB.out)) hb); have n1_ := Aside0.mk (hbox); have n2_ := Aside0.mk ((by rw [hg]; exact (below_size (by repeat (first | (with_reducible first | exact HB.out | apply below_alloc | apply pw_below_drewN | apply below_drew1) | exact HB.out))) : w.heap.size ≤ gb268)); have n3_ := Aside0.mk ((by rw [hg]; exact (below_size (by repeat (first | (with_reducible first | exact HB.out | apply below_alloc | apply pw_below_drewN | apply below_drew1) | exact HB.out))) : w.heap.size ≤ gb268)); clear HB; have HB := n0_; have BK268 := n1_; have GW268 := n2_; have GE268 := n3_; clear n0_ n1_ n2_ n3_; clear hb hbox hg))
       have n0_ := Aside0.mk (blk_drew BK268.out)
       have n1_ := Aside0.mk (below_drew1 HB.out)
       clear BK268
       clear HB
       have BK268 := n0_
       have HB := n1_
       clear n0_ n1_
       refine start_ (n := 19) (S := fun w' => w'.cell? ⟨gb268, 0, none⟩ = some (.int .i64 a0_0) ∧ w'.cell? ⟨gb268, 1, none⟩ = some (.int .i64 a0_1) ∧ w'.cell? ⟨gb268, 2, none⟩ = some (.int .i64 a0_2) ∧ w'.cell? ⟨gb268, 3, none⟩ = some (.int .i64 a0_3) ∧ w'.cell? ⟨gb268, 4, none⟩ = some (.int .i64 a0_4) ∧ w'.cell? ⟨gb268, 5, none⟩ = some (.int .i64 a0_5) ∧ w'.cell? ⟨gb268, 6, none⟩ = some (.int .i64 a0_6)) (ds := []) (bs_ 0 19) (by kernel_rfl) rfl rfl ⟨(blk_cell BK268.out 0).trans rfl, (blk_cell BK268.out 1).trans rfl, (blk_cell BK268.out 2).trans rfl, (blk_cell BK268.out 3).trans rfl, (blk_cell BK268.out 4).trans rfl, (blk_cell BK268.out 5).trans rfl, (blk_cell BK268.out 6).trans rfl⟩ (fun hHeld => ?_); refine with_tabW postbagref2_clock.tab1 postbagref2_clock.bits1 (fun HT_ HW_ => ?_)
       generalize w12.drew = w13 at BK268 HB hHeld ⊢
       refine pu_ 0 (some 3) ?_ (bs_ 1 18) rfl rfl (any_of HT_.out (by kernel_rfl)) (fun _ _ _ h => h) (y_ (by rfl) ?_) ?_ ?_ ?_
       rotate_left
       ·intro w'
        go_simp
        with_reducible rfl
       rotate_left
       ·simp only [Act.put, s1_, s2_, s3_, i64_w, i32_w]
        rfl
       refine pu_ 4 (some 7) ?_ #[true, false, false, false, true, false, false, false, false, false, false, false, false, false, false, false, false, false, false] rfl rfl (any_of HT_.out (by kernel_rfl)) (fun _ _ _ h => h) (y_ (by rfl) ?_) ?_ ?_ ?_
       rotate_left
       ·intro w'
        go_simp
        with_reducible rfl
       rotate_left
       ·simp only [Act.put, s1_, s2_, s3_, i64_w, i32_w]
        rfl
       refine pu_ 9 (some 12) ?_ #[true, false, false, false, true, false, false, false, false, true, false, false, false, false, false, false, false, false, false] rfl rfl (any_of HT_.out (by kernel_rfl)) (fun _ _ _ h => h) (y_ (by rfl) ?_) ?_ ?_ ?_
       rotate_left
       ·intro w'
        go_simp
        with_reducible rfl
       rotate_left
       ·simp only [Act.put, s1_, s2_, s3_, i64_w, i32_w]
        rfl
       refine pu_ 14 (some 17) ?_ #[true, false, false, false, true, false, false, false, false, true, false, false, false, false, true, false, false, false, false] rfl rfl (any_of HT_.out (by kernel_rfl)) (fun _ _ _ h => h) (y_ (by rfl) ?_) ?_ ?_ ?_
       rotate_left
       ·intro w'
        go_simp
        with_reducible rfl
       rotate_left
       ·simp only [Act.put, s1_, s2_, s3_, i64_w, i32_w]
        rfl
       refine take_ (i := 1) (N := some 4) (v := ?_) (a' := ?_) #[true, true, false, false, true, false, false, false, false, true, false, false, false, false, true, false, false, false, false] rfl rfl (take_ofW HT_.out HW_.out (by kernel_rfl)) (fun _ _ _ h => h) (Or.inl ⟨by rfl, ?_⟩) hHeld ?_ ?_
       rotate_left
       ·rintro w' ⟨s0, s1, s2, s3, s4, s5, s6⟩
        go_simp
        with_reducible rfl
       rotate_left
       ·simp only [Act.put, s1_, s2_, s3_, i64_w, i32_w]
        rfl
       refine take_ (i := 5) (N := some 8) (v := ?_) (a' := ?_) #[true, true, false, false, true, true, false, false, false, true, false, false, false, false, true, false, false, false, false] rfl rfl (take_ofW HT_.out HW_.out (by kernel_rfl)) (fun _ _ _ h => h) (Or.inl ⟨by rfl, ?_⟩) hHeld ?_ ?_
       rotate_left
       ·rintro w' ⟨s0, s1, s2, s3, s4, s5, s6⟩
        go_simp
        with_reducible rfl
       rotate_left
       ·simp only [Act.put, s1_, s2_, s3_, i64_w, i32_w]
        rfl
       refine take_ (i := 10) (N := some 13) (v := ?_) (a' := ?_) #[true, true, false, false, true, true, false, false, false, true, true, false, false, false, true, false, false, false, false] rfl rfl (take_ofW HT_.out HW_.out (by kernel_rfl)) (fun _ _ _ h => h) (Or.inl ⟨by rfl, ?_⟩) hHeld ?_ ?_
       rotate_left
       ·rintro w' ⟨s0, s1, s2, s3, s4, s5, s6⟩
        go_simp
        with_reducible rfl
       rotate_left
       ·simp only [Act.put, s1_, s2_, s3_, i64_w, i32_w]
        rfl
       refine take_ (i := 15) (N := some 18) (v := ?_) (a' := ?_) #[true, true, false, false, true, true, false, false, false, true, true, false, false, false, true, true, false, false, false] rfl rfl (take_ofW HT_.out HW_.out (by kernel_rfl)) (fun _ _ _ h => h) (Or.inl ⟨by rfl, ?_⟩) hHeld ?_ ?_
       rotate_left
       ·rintro w' ⟨s0, s1, s2, s3, s4, s5, s6⟩
        go_simp
        with_reducible rfl
       rotate_left
       ·simp only [Act.put, s1_, s2_, s3_, i64_w, i32_w]
        rfl
       refine one_ (i := 2) (N := some 5) #[true, true, true, false, true, true, false, false, false, true, true, false, false, false, true, true, false, false, false] rfl rfl (one_of HT_.out (by kernel_rfl)) (by decide) (fun K hK => ?_)
       refine goes_ Tryd.func79 (by kernel_rfl) rfl #[.int .i64 a0_3, .int .i64 2] (by rfl) rfl rfl (by (try simp only [List.map_toArray, List.map_cons, List.map_nil]); first | done | rfl) ?_
       with_reducible refine (postbagref2_text.calls k a0_3 2 t269 _ A2.out).mono ?_
       rintro e w14 ⟨rfl, hb⟩
       refine ⟨_, rfl, ?_⟩
       have n0_ := Aside0.mk (blk_below (g := gb268) (o := .cells #[.int .i64 a0_0, .int .i64 a0_1, .int .i64 a0_2, .int .i64 a0_3, .int .i64 a0_4, .int .i64 a0_5, .int .i64 a0_6] 23 (0, 0)) (by (with_reducible repeat first | refine blk_drewN ?_ _ | refine blk_alloc ?_ _); exact BK268.out) hb)
       have n1_ := Aside0.mk (below_step (by repeat (first | (with_reducible first | exact HB.out | apply below_alloc | apply pw_below_drewN | apply below_drew1 | refine below_set ?_ GE268.out) | exact HB.out)) hb)
       clear BK268
       clear HB
       have BK268 := n0_
       have HB := n1_
       clear n0_ n1_
       (try clear hb)
       (try clear hb2)
       (try clear hk)
       (try clear hi)
       refine hK.out _ _ ⟨(blk_cell BK268.out 0).trans rfl, (blk_cell BK268.out 1).trans rfl, (blk_cell BK268.out 2).trans rfl, (blk_cell BK268.out 3).trans rfl, (blk_cell BK268.out 4).trans rfl, (blk_cell BK268.out 5).trans rfl, (blk_cell BK268.out 6).trans rfl⟩ (fun hHeld => ?_)
       clear hK K
       refine norm_ (a' := ?_) ?_ ?_
       rotate_left
       ·show Act.put _ (some 5) _ = _
        simp only [Act.put, s1_, s2_, s3_, i64_w, i32_w]
        rfl
       refine pu_ 3 (some 6) ?_ #[true, true, true, true, true, true, false, false, false, true, true, false, false, false, true, true, false, false, false] rfl rfl (any_of HT_.out (by kernel_rfl)) (fun _ _ _ h => h) (y_ (by rfl) ?_) ?_ ?_ ?_
       rotate_left
       ·intro w'
        go_simp
        with_reducible rfl
       rotate_left
       ·simp only [Act.put, s1_, s2_, s3_, i64_w, i32_w]
        rfl
       refine one_ (i := 6) (N := some 9) #[true, true, true, true, true, true, true, false, false, true, true, false, false, false, true, true, false, false, false] rfl rfl (one_of HT_.out (by kernel_rfl)) (by decide) (fun K hK => ?_)
       refine goes_ Tryd.func79 (by kernel_rfl) rfl #[.int .i64 a0_4, .int .i64 2] (by rfl) rfl rfl (by (try simp only [List.map_toArray, List.map_cons, List.map_nil]); first | done | rfl) ?_
       with_reducible refine (postbagref2_text.calls k a0_4 2 t270 _ A4.out).mono ?_
       rintro e w15 ⟨rfl, hb⟩
       refine ⟨_, rfl, ?_⟩
       have n0_ := Aside0.mk (blk_below (g := gb268) (o := .cells #[.int .i64 a0_0, .int .i64 a0_1, .int .i64 a0_2, .int .i64 a0_3, .int .i64 a0_4, .int .i64 a0_5, .int .i64 a0_6] 23 (0, 0)) (by (with_reducible repeat first | refine blk_drewN ?_ _ | refine blk_alloc ?_ _); exact BK268.out) hb)
       have n1_ := Aside0.mk (below_step (by repeat (first | (with_reducible first | exact HB.out | apply below_alloc | apply pw_below_drewN | apply below_drew1 | refine below_set ?_ GE268.out) | exact HB.out)) hb)
       clear BK268
       clear HB
       have BK268 := n0_
       have HB := n1_
       clear n0_ n1_
       (try clear hb)
       (try clear hb2)
       (try clear hk)
       (try clear hi)
       refine hK.out _ _ ⟨(blk_cell BK268.out 0).trans rfl, (blk_cell BK268.out 1).trans rfl, (blk_cell BK268.out 2).trans rfl, (blk_cell BK268.out 3).trans rfl, (blk_cell BK268.out 4).trans rfl, (blk_cell BK268.out 5).trans rfl, (blk_cell BK268.out 6).trans rfl⟩ (fun hHeld => ?_)
       clear hK K
       refine norm_ (a' := ?_) ?_ ?_
       rotate_left
       ·show Act.put _ (some 9) _ = _
        simp only [Act.put, s1_, s2_, s3_, i64_w, i32_w]
        rfl
       refine pu_ 7 (some 10) ?_ #[true, true, true, true, true, true, true, true, false, true, true, false, false, false, true, true, false, false, false] rfl rfl (any_of HT_.out (by kernel_rfl)) (fun _ _ _ h => h) (y_ (by rfl) ?_) ?_ ?_ ?_
       rotate_left
       ·intro w'
        go_simp
        with_reducible rfl
       rotate_left
       ·simp only [Act.put, s1_, s2_, s3_, i64_w, i32_w]
        rfl
       refine pu_ 8 (some 11) ?_ #[true, true, true, true, true, true, true, true, true, true, true, false, false, false, true, true, false, false, false] rfl rfl (any_of HT_.out (by kernel_rfl)) (fun _ _ _ h => h) (y_ (by rfl) ?_) ?_ ?_ ?_
       rotate_left
       ·intro w'
        go_simp
        with_reducible rfl
       rotate_left
       ·simp only [Act.put, s1_, s2_, s3_, i64_w, i32_w]
        rfl
       refine one_ (i := 11) (N := some 14) #[true, true, true, true, true, true, true, true, true, true, true, true, false, false, true, true, false, false, false] rfl rfl (one_of HT_.out (by kernel_rfl)) (by decide) (fun K hK => ?_)
       refine goes_ Tryd.func79 (by kernel_rfl) rfl #[.int .i64 a0_5, .int .i64 2] (by rfl) rfl rfl (by (try simp only [List.map_toArray, List.map_cons, List.map_nil]); first | done | rfl) ?_
       with_reducible refine (postbagref2_text.calls k a0_5 2 t271 _ A7.out).mono ?_
       rintro e w16 ⟨rfl, hb⟩
       refine ⟨_, rfl, ?_⟩
       have n0_ := Aside0.mk (blk_below (g := gb268) (o := .cells #[.int .i64 a0_0, .int .i64 a0_1, .int .i64 a0_2, .int .i64 a0_3, .int .i64 a0_4, .int .i64 a0_5, .int .i64 a0_6] 23 (0, 0)) (by (with_reducible repeat first | refine blk_drewN ?_ _ | refine blk_alloc ?_ _); exact BK268.out) hb)
       have n1_ := Aside0.mk (below_step (by repeat (first | (with_reducible first | exact HB.out | apply below_alloc | apply pw_below_drewN | apply below_drew1 | refine below_set ?_ GE268.out) | exact HB.out)) hb)
       clear BK268
       clear HB
       have BK268 := n0_
       have HB := n1_
       clear n0_ n1_
       (try clear hb)
       (try clear hb2)
       (try clear hk)
       (try clear hi)
       refine hK.out _ _ ⟨(blk_cell BK268.out 0).trans rfl, (blk_cell BK268.out 1).trans rfl, (blk_cell BK268.out 2).trans rfl, (blk_cell BK268.out 3).trans rfl, (blk_cell BK268.out 4).trans rfl, (blk_cell BK268.out 5).trans rfl, (blk_cell BK268.out 6).trans rfl⟩ (fun hHeld => ?_)
       clear hK K
       refine norm_ (a' := ?_) ?_ ?_
       rotate_left
       ·show Act.put _ (some 14) _ = _
        simp only [Act.put, s1_, s2_, s3_, i64_w, i32_w]
        rfl
       refine pu_ 12 (some 15) ?_ #[true, true, true, true, true, true, true, true, true, true, true, true, true, false, true, true, false, false, false] rfl rfl (any_of HT_.out (by kernel_rfl)) (fun _ _ _ h => h) (y_ (by rfl) ?_) ?_ ?_ ?_
       rotate_left
       ·intro w'
        go_simp
        with_reducible rfl
       rotate_left
       ·simp only [Act.put, s1_, s2_, s3_, i64_w, i32_w]
        rfl
       refine pu_ 13 (some 16) ?_ (bs_ 16 3) rfl rfl (any_of HT_.out (by kernel_rfl)) (fun _ _ _ h => h) (y_ (by rfl) ?_) ?_ ?_ ?_
       rotate_left
       ·intro w'
        go_simp
        with_reducible rfl
       rotate_left
       ·simp only [Act.put, s1_, s2_, s3_, i64_w, i32_w]
        rfl
       refine one_ (i := 16) (N := some 19) (bs_ 17 2) rfl rfl (one_of HT_.out (by kernel_rfl)) (by decide) (fun K hK => ?_)
       refine goes_ Tryd.func96 (by kernel_rfl) rfl #[.int .i64 a0_6] (by rfl) rfl rfl (by (try simp only [List.map_toArray, List.map_cons, List.map_nil]); first | done | rfl) ?_
       with_reducible refine (postbagref2_zone.calls k a0_6 t272 _ A10.out).mono ?_
       rintro e w17 ⟨rfl, hb⟩
       refine ⟨_, rfl, ?_⟩
       have n0_ := Aside0.mk (blk_below (g := gb268) (o := .cells #[.int .i64 a0_0, .int .i64 a0_1, .int .i64 a0_2, .int .i64 a0_3, .int .i64 a0_4, .int .i64 a0_5, .int .i64 a0_6] 23 (0, 0)) (by (with_reducible repeat first | refine blk_drewN ?_ _ | refine blk_alloc ?_ _); exact BK268.out) hb)
       have n1_ := Aside0.mk (below_step (by repeat (first | (with_reducible first | exact HB.out | apply below_alloc | apply pw_below_drewN | apply below_drew1 | refine below_set ?_ GE268.out) | exact HB.out)) hb)
       clear BK268
       clear HB
       have BK268 := n0_
       have HB := n1_
       clear n0_ n1_
       (try clear hb)
       (try clear hb2)
       (try clear hk)
       (try clear hi)
       refine hK.out _ _ ⟨(blk_cell BK268.out 0).trans rfl, (blk_cell BK268.out 1).trans rfl, (blk_cell BK268.out 2).trans rfl, (blk_cell BK268.out 3).trans rfl, (blk_cell BK268.out 4).trans rfl, (blk_cell BK268.out 5).trans rfl, (blk_cell BK268.out 6).trans rfl⟩ (fun hHeld => ?_)
       clear hK K
       refine norm_ (a' := ?_) ?_ ?_
       rotate_left
       ·show Act.put _ (some 19) _ = _
        simp only [Act.put, s1_, s2_, s3_, i64_w, i32_w]
        rfl
       refine pu_ 17 (some 20) ?_ (bs_ 18 1) rfl rfl (any_of HT_.out (by kernel_rfl)) (fun _ _ _ h => h) (y_ (by rfl) ?_) ?_ ?_ ?_
       rotate_left
       ·intro w'
        go_simp
        with_reducible rfl
       rotate_left
       ·simp only [Act.put, s1_, s2_, s3_, i64_w, i32_w]
        rfl
       refine pu_ 18 (some 2) ?_ (bs_ 19 0) rfl rfl (any_of HT_.out (by kernel_rfl)) (fun _ _ _ h => h) (y_ (by rfl) ?_) ?_ ?_ ?_
       rotate_left
       ·intro w'
        go_simp
        with_reducible rfl
       rotate_left
       ·simp only [Act.put, s1_, s2_, s3_, i64_w, i32_w]
        rfl
       refine done_ (done_of HT_.out (by kernel_rfl)) ?_
       try go_wp2
       go_ret
       exact ⟨by first | rfl | (simp [errW_none, errW_some] <;> rfl) | (simp [*, errW_none, errW_some] <;> rfl), by repeat (first | (with_reducible first | exact HB.out | apply below_alloc | apply pw_below_drewN | apply below_drew1 | refine below_set ?_ GE268.out) | exact HB.out)⟩
      ·rw [if_neg c11] at H
       exact absurd H (by simp)
     ·rw [if_neg c9] at H
      exact absurd H (by simp)
    ·rw [if_neg c8] at H
     exact absurd H (by simp)
   ·rw [if_neg c6] at H
    exact absurd H (by simp)
  ·rw [if_neg c5] at H
   exact absurd H (by simp)
 ·rw [if_neg c3] at H
  exact absurd H (by simp)
end Go.Proofs.YtjlchnmpebdggaaDoor.Mo
end
