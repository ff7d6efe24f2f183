import Derived.Test.YtjlchnmpebdggaaDoorInt2
import Derived.Test.YtjlchnmpebdggaaDoorInt9
import Derived.Test.YtjlchnmpebdggaaDoorInt10
section
-- PRINTED by a driver of print.py
namespace Go.Proofs.YtjlchnmpebdggaaDoor.Mo
open Go.RowKit Go.Proofs.YtjlchnmpebdggaaDoorW.PrintWords Go.Proofs.YtjlchnmpebdggaaDoorW.PrintLast Go.Proofs.YtjlchnmpebdggaaDoorW.PrintMore
attribute [local go_sem] max2_int min2_int max_two min_two max_three min_three max_four min_four   -- for this text's walks alone
set_option linter.unusedVariables false
set_option linter.unusedSimpArgs false
def postbagref2_PrintInternal.f (k : Nat) (a0_0 : Int) (a0_1 : Int) (a0_2 : Int) (a0_3 : Int) (a0_4 : Int) (a0_5 : Int) (a0_6 : Int) : Option (ByteArray × Int) := (postbagref2_may.f k a0_0 a0_1 a0_2 a0_3 a0_4 a0_5 a0_6).bind fun t274 => (if t274 = 0 then ((postbagref2_text.f k a0_2 1).bind fun t275 => (if a0_2 < 10 then (if 1 + t275.size ≤ 9223372036854775807 then (if ((⟨#[32]⟩ : ByteArray) ++ t275).size + 1 ≤ 9223372036854775807 then (if 0 ≤ (wrap64 ((wrap64 (3 * a0_1)) - 3)) then (if (wrap64 ((wrap64 (3 * a0_1)) - 3)) ≤ (wrap64 (3 * a0_1)) then (if (wrap64 (3 * a0_1)) ≤ 36 then (if (((⟨#[32]⟩ : ByteArray) ++ t275) ++ (⟨#[45]⟩ : ByteArray)).size + ((⟨#[74, 97, 110, 70, 101, 98, 77, 97, 114, 65, 112, 114, 77, 97, 121, 74, 117, 110, 74, 117, 108, 65, 117, 103, 83, 101, 112, 79, 99, 116, 78, 111, 118, 68, 101, 99]⟩ : ByteArray).extract ((wrap64 ((wrap64 (3 * a0_1)) - 3)) : Int).toNat ((wrap64 (3 * a0_1)) : Int).toNat).size ≤ 9223372036854775807 then (if ((((⟨#[32]⟩ : ByteArray) ++ t275) ++ (⟨#[45]⟩ : ByteArray)) ++ ((⟨#[74, 97, 110, 70, 101, 98, 77, 97, 114, 65, 112, 114, 77, 97, 121, 74, 117, 110, 74, 117, 108, 65, 117, 103, 83, 101, 112, 79, 99, 116, 78, 111, 118, 68, 101, 99]⟩ : ByteArray).extract ((wrap64 ((wrap64 (3 * a0_1)) - 3)) : Int).toNat ((wrap64 (3 * a0_1)) : Int).toNat)).size + 1 ≤ 9223372036854775807 then ((postbagref2_text.f k a0_0 4).bind fun t276 => (if (((((⟨#[32]⟩ : ByteArray) ++ t275) ++ (⟨#[45]⟩ : ByteArray)) ++ ((⟨#[74, 97, 110, 70, 101, 98, 77, 97, 114, 65, 112, 114, 77, 97, 121, 74, 117, 110, 74, 117, 108, 65, 117, 103, 83, 101, 112, 79, 99, 116, 78, 111, 118, 68, 101, 99]⟩ : ByteArray).extract ((wrap64 ((wrap64 (3 * a0_1)) - 3)) : Int).toNat ((wrap64 (3 * a0_1)) : Int).toNat)) ++ (⟨#[45]⟩ : ByteArray)).size + t276.size ≤ 9223372036854775807 then (if ((((((⟨#[32]⟩ : ByteArray) ++ t275) ++ (⟨#[45]⟩ : ByteArray)) ++ ((⟨#[74, 97, 110, 70, 101, 98, 77, 97, 114, 65, 112, 114, 77, 97, 121, 74, 117, 110, 74, 117, 108, 65, 117, 103, 83, 101, 112, 79, 99, 116, 78, 111, 118, 68, 101, 99]⟩ : ByteArray).extract ((wrap64 ((wrap64 (3 * a0_1)) - 3)) : Int).toNat ((wrap64 (3 * a0_1)) : Int).toNat)) ++ (⟨#[45]⟩ : ByteArray)) ++ t276).size + 1 ≤ 9223372036854775807 then ((postbagref2_clock.f k a0_0 a0_1 a0_2 a0_3 a0_4 a0_5 a0_6).bind fun t277 => (if (((((((⟨#[32]⟩ : ByteArray) ++ t275) ++ (⟨#[45]⟩ : ByteArray)) ++ ((⟨#[74, 97, 110, 70, 101, 98, 77, 97, 114, 65, 112, 114, 77, 97, 121, 74, 117, 110, 74, 117, 108, 65, 117, 103, 83, 101, 112, 79, 99, 116, 78, 111, 118, 68, 101, 99]⟩ : ByteArray).extract ((wrap64 ((wrap64 (3 * a0_1)) - 3)) : Int).toNat ((wrap64 (3 * a0_1)) : Int).toNat)) ++ (⟨#[45]⟩ : ByteArray)) ++ t276) ++ (⟨#[32]⟩ : ByteArray)).size + t277.size ≤ 9223372036854775807 then (some ((((((((⟨#[32]⟩ : ByteArray) ++ t275) ++ (⟨#[45]⟩ : ByteArray)) ++ ((⟨#[74, 97, 110, 70, 101, 98, 77, 97, 114, 65, 112, 114, 77, 97, 121, 74, 117, 110, 74, 117, 108, 65, 117, 103, 83, 101, 112, 79, 99, 116, 78, 111, 118, 68, 101, 99]⟩ : ByteArray).extract ((wrap64 ((wrap64 (3 * a0_1)) - 3)) : Int).toNat ((wrap64 (3 * a0_1)) : Int).toNat)) ++ (⟨#[45]⟩ : ByteArray)) ++ t276) ++ (⟨#[32]⟩ : ByteArray)) ++ t277, 0)) else (none))) else (none)) else (none))) else (none)) else (none)) else (none)) else (none)) else (none)) else (none)) else (none)) else (if t275.size + 1 ≤ 9223372036854775807 then (if 0 ≤ (wrap64 ((wrap64 (3 * a0_1)) - 3)) then (if (wrap64 ((wrap64 (3 * a0_1)) - 3)) ≤ (wrap64 (3 * a0_1)) then (if (wrap64 (3 * a0_1)) ≤ 36 then (if (t275 ++ (⟨#[45]⟩ : ByteArray)).size + ((⟨#[74, 97, 110, 70, 101, 98, 77, 97, 114, 65, 112, 114, 77, 97, 121, 74, 117, 110, 74, 117, 108, 65, 117, 103, 83, 101, 112, 79, 99, 116, 78, 111, 118, 68, 101, 99]⟩ : ByteArray).extract ((wrap64 ((wrap64 (3 * a0_1)) - 3)) : Int).toNat ((wrap64 (3 * a0_1)) : Int).toNat).size ≤ 9223372036854775807 then (if ((t275 ++ (⟨#[45]⟩ : ByteArray)) ++ ((⟨#[74, 97, 110, 70, 101, 98, 77, 97, 114, 65, 112, 114, 77, 97, 121, 74, 117, 110, 74, 117, 108, 65, 117, 103, 83, 101, 112, 79, 99, 116, 78, 111, 118, 68, 101, 99]⟩ : ByteArray).extract ((wrap64 ((wrap64 (3 * a0_1)) - 3)) : Int).toNat ((wrap64 (3 * a0_1)) : Int).toNat)).size + 1 ≤ 9223372036854775807 then ((postbagref2_text.f k a0_0 4).bind fun t278 => (if (((t275 ++ (⟨#[45]⟩ : ByteArray)) ++ ((⟨#[74, 97, 110, 70, 101, 98, 77, 97, 114, 65, 112, 114, 77, 97, 121, 74, 117, 110, 74, 117, 108, 65, 117, 103, 83, 101, 112, 79, 99, 116, 78, 111, 118, 68, 101, 99]⟩ : ByteArray).extract ((wrap64 ((wrap64 (3 * a0_1)) - 3)) : Int).toNat ((wrap64 (3 * a0_1)) : Int).toNat)) ++ (⟨#[45]⟩ : ByteArray)).size + t278.size ≤ 9223372036854775807 then (if ((((t275 ++ (⟨#[45]⟩ : ByteArray)) ++ ((⟨#[74, 97, 110, 70, 101, 98, 77, 97, 114, 65, 112, 114, 77, 97, 121, 74, 117, 110, 74, 117, 108, 65, 117, 103, 83, 101, 112, 79, 99, 116, 78, 111, 118, 68, 101, 99]⟩ : ByteArray).extract ((wrap64 ((wrap64 (3 * a0_1)) - 3)) : Int).toNat ((wrap64 (3 * a0_1)) : Int).toNat)) ++ (⟨#[45]⟩ : ByteArray)) ++ t278).size + 1 ≤ 9223372036854775807 then ((postbagref2_clock.f k a0_0 a0_1 a0_2 a0_3 a0_4 a0_5 a0_6).bind fun t279 => (if (((((t275 ++ (⟨#[45]⟩ : ByteArray)) ++ ((⟨#[74, 97, 110, 70, 101, 98, 77, 97, 114, 65, 112, 114, 77, 97, 121, 74, 117, 110, 74, 117, 108, 65, 117, 103, 83, 101, 112, 79, 99, 116, 78, 111, 118, 68, 101, 99]⟩ : ByteArray).extract ((wrap64 ((wrap64 (3 * a0_1)) - 3)) : Int).toNat ((wrap64 (3 * a0_1)) : Int).toNat)) ++ (⟨#[45]⟩ : ByteArray)) ++ t278) ++ (⟨#[32]⟩ : ByteArray)).size + t279.size ≤ 9223372036854775807 then (some ((((((t275 ++ (⟨#[45]⟩ : ByteArray)) ++ ((⟨#[74, 97, 110, 70, 101, 98, 77, 97, 114, 65, 112, 114, 77, 97, 121, 74, 117, 110, 74, 117, 108, 65, 117, 103, 83, 101, 112, 79, 99, 116, 78, 111, 118, 68, 101, 99]⟩ : ByteArray).extract ((wrap64 ((wrap64 (3 * a0_1)) - 3)) : Int).toNat ((wrap64 (3 * a0_1)) : Int).toNat)) ++ (⟨#[45]⟩ : ByteArray)) ++ t278) ++ (⟨#[32]⟩ : ByteArray)) ++ t279, 0)) else (none))) else (none)) else (none))) else (none)) else (none)) else (none)) else (none)) else (none)) else (none)))) else (some ((⟨#[]⟩ : ByteArray), t274)))
def postbagref2_PrintInternal.T7 : Bool × List (List Nat × List Nat) := (true, [([], []), ([0], [0]), ([], []), ([2], [2]), ([3], [3]), ([4], [4]), ([], []), ([6], [6]), ([7], [7]), ([5, 8], [5, 8]), ([1, 9], [1, 9]), ([10], [10]), ([], []), ([12], [12]), ([13], [13]), ([11, 14], [11, 14]), ([15], [15]), ([], []), ([17, 14], [17]), ([16, 18], [16, 18]), ([19, 18, 0, 1, 2, 3, 4, 5, 6, 7, 8, 9, 10, 11, 12, 13, 14, 15, 16, 17, 18, 19], [19]), ([20, 0, 1, 2, 3, 4, 5, 6, 7, 8, 9, 10, 11, 12, 13, 14, 15, 16, 17, 18, 19, 20], [])])
def postbagref2_PrintInternal.B7 : List Nat := [0, 1, 0, 4, 12, 28, 0, 64, 192, 508, 1023, 2047, 0, 4096, 12288, 32767, 65535, 0, 159744, 524287, 1048575, 2097151]
theorem postbagref2_PrintInternal.tab7 : rtab .any (opsOf Tryd.f38 7) = postbagref2_PrintInternal.T7 := by kernel_rfl
theorem postbagref2_PrintInternal.bits7 : waitsOk postbagref2_PrintInternal.T7.2 postbagref2_PrintInternal.B7 = true := by kernel_rfl
set_option maxHeartbeats 8000000 in
set_option maxRecDepth 100000 in
theorem postbagref2_PrintInternal.calls (k : Nat) (a0_0 : Int) (a0_1 : Int) (a0_2 : Int) (a0_3 : Int) (a0_4 : Int) (a0_5 : Int) (a0_6 : Int) (r1 : ByteArray) (r2 : Int) (w : World) (h : postbagref2_PrintInternal.f k a0_0 a0_1 a0_2 a0_3 a0_4 a0_5 a0_6 = some (r1, r2)) :
  Calls Tryd.prog 38 #[.agg #[.int .i64 a0_0, .int .i64 a0_1, .int .i64 a0_2, .int .i64 a0_3, .int .i64 a0_4, .int .i64 a0_5, .int .i64 a0_6]] w fun e w' => e = .returned (.tuple #[.string r1, .int .i64 r2]) ∧ Below w.heap.size w w' := by
 have hu23 := Tryd.underlying23
 have HB := Aside0.mk (Below.refl w.heap.size w)
 have H : ((postbagref2_may.f k a0_0 a0_1 a0_2 a0_3 a0_4 a0_5 a0_6).bind fun t274 => (if t274 = 0 then ((postbagref2_text.f k a0_2 1).bind fun t275 => (if a0_2 < 10 then (if 1 + t275.size ≤ 9223372036854775807 then (if ((⟨#[32]⟩ : ByteArray) ++ t275).size + 1 ≤ 9223372036854775807 then (if 0 ≤ (wrap64 ((wrap64 (3 * a0_1)) - 3)) then (if (wrap64 ((wrap64 (3 * a0_1)) - 3)) ≤ (wrap64 (3 * a0_1)) then (if (wrap64 (3 * a0_1)) ≤ 36 then (if (((⟨#[32]⟩ : ByteArray) ++ t275) ++ (⟨#[45]⟩ : ByteArray)).size + ((⟨#[74, 97, 110, 70, 101, 98, 77, 97, 114, 65, 112, 114, 77, 97, 121, 74, 117, 110, 74, 117, 108, 65, 117, 103, 83, 101, 112, 79, 99, 116, 78, 111, 118, 68, 101, 99]⟩ : ByteArray).extract ((wrap64 ((wrap64 (3 * a0_1)) - 3)) : Int).toNat ((wrap64 (3 * a0_1)) : Int).toNat).size ≤ 9223372036854775807 then (if ((((⟨#[32]⟩ : ByteArray) ++ t275) ++ (⟨#[45]⟩ : ByteArray)) ++ ((⟨#[74, 97, 110, 70, 101, 98, 77, 97, 114, 65, 112, 114, 77, 97, 121, 74, 117, 110, 74, 117, 108, 65, 117, 103, 83, 101, 112, 79, 99, 116, 78, 111, 118, 68, 101, 99]⟩ : ByteArray).extract ((wrap64 ((wrap64 (3 * a0_1)) - 3)) : Int).toNat ((wrap64 (3 * a0_1)) : Int).toNat)).size + 1 ≤ 9223372036854775807 then ((postbagref2_text.f k a0_0 4).bind fun t276 => (if (((((⟨#[32]⟩ : ByteArray) ++ t275) ++ (⟨#[45]⟩ : ByteArray)) ++ ((⟨#[74, 97, 110, 70, 101, 98, 77, 97, 114, 65, 112, 114, 77, 97, 121, 74, 117, 110, 74, 117, 108, 65, 117, 103, 83, 101, 112, 79, 99, 116, 78, 111, 118, 68, 101, 99]⟩ : ByteArray).extract ((wrap64 ((wrap64 (3 * a0_1)) - 3)) : Int).toNat ((wrap64 (3 * a0_1)) : Int).toNat)) ++ (⟨#[45]⟩ : ByteArray)).size + t276.size ≤ 9223372036854775807 then (if ((((((⟨#[32]⟩ : ByteArray) ++ t275) ++ (⟨#[45]⟩ : ByteArray)) ++ ((⟨#[74, 97, 110, 70, 101, 98, 77, 97, 114, 65, 112, 114, 77, 97, 121, 74, 117, 110, 74, 117, 108, 65, 117, 103, 83, 101, 112, 79, 99, 116, 78, 111, 118, 68, 101, 99]⟩ : ByteArray).extract ((wrap64 ((wrap64 (3 * a0_1)) - 3)) : Int).toNat ((wrap64 (3 * a0_1)) : Int).toNat)) ++ (⟨#[45]⟩ : ByteArray)) ++ t276).size + 1 ≤ 9223372036854775807 then ((postbagref2_clock.f k a0_0 a0_1 a0_2 a0_3 a0_4 a0_5 a0_6).bind fun t277 => (if (((((((⟨#[32]⟩ : ByteArray) ++ t275) ++ (⟨#[45]⟩ : ByteArray)) ++ ((⟨#[74, 97, 110, 70, 101, 98, 77, 97, 114, 65, 112, 114, 77, 97, 121, 74, 117, 110, 74, 117, 108, 65, 117, 103, 83, 101, 112, 79, 99, 116, 78, 111, 118, 68, 101, 99]⟩ : ByteArray).extract ((wrap64 ((wrap64 (3 * a0_1)) - 3)) : Int).toNat ((wrap64 (3 * a0_1)) : Int).toNat)) ++ (⟨#[45]⟩ : ByteArray)) ++ t276) ++ (⟨#[32]⟩ : ByteArray)).size + t277.size ≤ 9223372036854775807 then (some ((((((((⟨#[32]⟩ : ByteArray) ++ t275) ++ (⟨#[45]⟩ : ByteArray)) ++ ((⟨#[74, 97, 110, 70, 101, 98, 77, 97, 114, 65, 112, 114, 77, 97, 121, 74, 117, 110, 74, 117, 108, 65, 117, 103, 83, 101, 112, 79, 99, 116, 78, 111, 118, 68, 101, 99]⟩ : ByteArray).extract ((wrap64 ((wrap64 (3 * a0_1)) - 3)) : Int).toNat ((wrap64 (3 * a0_1)) : Int).toNat)) ++ (⟨#[45]⟩ : ByteArray)) ++ t276) ++ (⟨#[32]⟩ : ByteArray)) ++ t277, 0)) else (none))) else (none)) else (none))) else (none)) else (none)) else (none)) else (none)) else (none)) else (none)) else (none)) else (if t275.size + 1 ≤ 9223372036854775807 then (if 0 ≤ (wrap64 ((wrap64 (3 * a0_1)) - 3)) then (if (wrap64 ((wrap64 (3 * a0_1)) - 3)) ≤ (wrap64 (3 * a0_1)) then (if (wrap64 (3 * a0_1)) ≤ 36 then (if (t275 ++ (⟨#[45]⟩ : ByteArray)).size + ((⟨#[74, 97, 110, 70, 101, 98, 77, 97, 114, 65, 112, 114, 77, 97, 121, 74, 117, 110, 74, 117, 108, 65, 117, 103, 83, 101, 112, 79, 99, 116, 78, 111, 118, 68, 101, 99]⟩ : ByteArray).extract ((wrap64 ((wrap64 (3 * a0_1)) - 3)) : Int).toNat ((wrap64 (3 * a0_1)) : Int).toNat).size ≤ 9223372036854775807 then (if ((t275 ++ (⟨#[45]⟩ : ByteArray)) ++ ((⟨#[74, 97, 110, 70, 101, 98, 77, 97, 114, 65, 112, 114, 77, 97, 121, 74, 117, 110, 74, 117, 108, 65, 117, 103, 83, 101, 112, 79, 99, 116, 78, 111, 118, 68, 101, 99]⟩ : ByteArray).extract ((wrap64 ((wrap64 (3 * a0_1)) - 3)) : Int).toNat ((wrap64 (3 * a0_1)) : Int).toNat)).size + 1 ≤ 9223372036854775807 then ((postbagref2_text.f k a0_0 4).bind fun t278 => (if (((t275 ++ (⟨#[45]⟩ : ByteArray)) ++ ((⟨#[74, 97, 110, 70, 101, 98, 77, 97, 114, 65, 112, 114, 77, 97, 121, 74, 117, 110, 74, 117, 108, 65, 117, 103, 83, 101, 112, 79, 99, 116, 78, 111, 118, 68, 101, 99]⟩ : ByteArray).extract ((wrap64 ((wrap64 (3 * a0_1)) - 3)) : Int).toNat ((wrap64 (3 * a0_1)) : Int).toNat)) ++ (⟨#[45]⟩ : ByteArray)).size + t278.size ≤ 9223372036854775807 then (if ((((t275 ++ (⟨#[45]⟩ : ByteArray)) ++ ((⟨#[74, 97, 110, 70, 101, 98, 77, 97, 114, 65, 112, 114, 77, 97, 121, 74, 117, 110, 74, 117, 108, 65, 117, 103, 83, 101, 112, 79, 99, 116, 78, 111, 118, 68, 101, 99]⟩ : ByteArray).extract ((wrap64 ((wrap64 (3 * a0_1)) - 3)) : Int).toNat ((wrap64 (3 * a0_1)) : Int).toNat)) ++ (⟨#[45]⟩ : ByteArray)) ++ t278).size + 1 ≤ 9223372036854775807 then ((postbagref2_clock.f k a0_0 a0_1 a0_2 a0_3 a0_4 a0_5 a0_6).bind fun t279 => (if (((((t275 ++ (⟨#[45]⟩ : ByteArray)) ++ ((⟨#[74, 97, 110, 70, 101, 98, 77, 97, 114, 65, 112, 114, 77, 97, 121, 74, 117, 110, 74, 117, 108, 65, 117, 103, 83, 101, 112, 79, 99, 116, 78, 111, 118, 68, 101, 99]⟩ : ByteArray).extract ((wrap64 ((wrap64 (3 * a0_1)) - 3)) : Int).toNat ((wrap64 (3 * a0_1)) : Int).toNat)) ++ (⟨#[45]⟩ : ByteArray)) ++ t278) ++ (⟨#[32]⟩ : ByteArray)).size + t279.size ≤ 9223372036854775807 then (some ((((((t275 ++ (⟨#[45]⟩ : ByteArray)) ++ ((⟨#[74, 97, 110, 70, 101, 98, 77, 97, 114, 65, 112, 114, 77, 97, 121, 74, 117, 110, 74, 117, 108, 65, 117, 103, 83, 101, 112, 79, 99, 116, 78, 111, 118, 68, 101, 99]⟩ : ByteArray).extract ((wrap64 ((wrap64 (3 * a0_1)) - 3)) : Int).toNat ((wrap64 (3 * a0_1)) : Int).toNat)) ++ (⟨#[45]⟩ : ByteArray)) ++ t278) ++ (⟨#[32]⟩ : ByteArray)) ++ t279, 0)) else (none))) else (none)) else (none))) else (none)) else (none)) else (none)) else (none)) else (none)) else (none)))) else (some ((⟨#[]⟩ : ByteArray), t274)))) = some (r1, r2) := h
 clear h
 replace H := Option.bind_eq_some_iff.mp H
 obtain ⟨t274, A20, H⟩ := H
 replace H : (if t274 = 0 then ((postbagref2_text.f k a0_2 1).bind fun t275 => (if a0_2 < 10 then (if 1 + t275.size ≤ 9223372036854775807 then (if ((⟨#[32]⟩ : ByteArray) ++ t275).size + 1 ≤ 9223372036854775807 then (if 0 ≤ (wrap64 ((wrap64 (3 * a0_1)) - 3)) then (if (wrap64 ((wrap64 (3 * a0_1)) - 3)) ≤ (wrap64 (3 * a0_1)) then (if (wrap64 (3 * a0_1)) ≤ 36 then (if (((⟨#[32]⟩ : ByteArray) ++ t275) ++ (⟨#[45]⟩ : ByteArray)).size + ((⟨#[74, 97, 110, 70, 101, 98, 77, 97, 114, 65, 112, 114, 77, 97, 121, 74, 117, 110, 74, 117, 108, 65, 117, 103, 83, 101, 112, 79, 99, 116, 78, 111, 118, 68, 101, 99]⟩ : ByteArray).extract ((wrap64 ((wrap64 (3 * a0_1)) - 3)) : Int).toNat ((wrap64 (3 * a0_1)) : Int).toNat).size ≤ 9223372036854775807 then (if ((((⟨#[32]⟩ : ByteArray) ++ t275) ++ (⟨#[45]⟩ : ByteArray)) ++ ((⟨#[74, 97, 110, 70, 101, 98, 77, 97, 114, 65, 112, 114, 77, 97, 121, 74, 117, 110, 74, 117, 108, 65, 117, 103, 83, 101, 112, 79, 99, 116, 78, 111, 118, 68, 101, 99]⟩ : ByteArray).extract ((wrap64 ((wrap64 (3 * a0_1)) - 3)) : Int).toNat ((wrap64 (3 * a0_1)) : Int).toNat)).size + 1 ≤ 9223372036854775807 then ((postbagref2_text.f k a0_0 4).bind fun t276 => (if (((((⟨#[32]⟩ : ByteArray) ++ t275) ++ (⟨#[45]⟩ : ByteArray)) ++ ((⟨#[74, 97, 110, 70, 101, 98, 77, 97, 114, 65, 112, 114, 77, 97, 121, 74, 117, 110, 74, 117, 108, 65, 117, 103, 83, 101, 112, 79, 99, 116, 78, 111, 118, 68, 101, 99]⟩ : ByteArray).extract ((wrap64 ((wrap64 (3 * a0_1)) - 3)) : Int).toNat ((wrap64 (3 * a0_1)) : Int).toNat)) ++ (⟨#[45]⟩ : ByteArray)).size + t276.size ≤ 9223372036854775807 then (if ((((((⟨#[32]⟩ : ByteArray) ++ t275) ++ (⟨#[45]⟩ : ByteArray)) ++ ((⟨#[74, 97, 110, 70, 101, 98, 77, 97, 114, 65, 112, 114, 77, 97, 121, 74, 117, 110, 74, 117, 108, 65, 117, 103, 83, 101, 112, 79, 99, 116, 78, 111, 118, 68, 101, 99]⟩ : ByteArray).extract ((wrap64 ((wrap64 (3 * a0_1)) - 3)) : Int).toNat ((wrap64 (3 * a0_1)) : Int).toNat)) ++ (⟨#[45]⟩ : ByteArray)) ++ t276).size + 1 ≤ 9223372036854775807 then ((postbagref2_clock.f k a0_0 a0_1 a0_2 a0_3 a0_4 a0_5 a0_6).bind fun t277 => (if (((((((⟨#[32]⟩ : ByteArray) ++ t275) ++ (⟨#[45]⟩ : ByteArray)) ++ ((⟨#[74, 97, 110, 70, 101, 98, 77, 97, 114, 65, 112, 114, 77, 97, 121, 74, 117, 110, 74, 117, 108, 65, 117, 103, 83, 101, 112, 79, 99, 116, 78, 111, 118, 68, 101, 99]⟩ : ByteArray).extract ((wrap64 ((wrap64 (3 * a0_1)) - 3)) : Int).toNat ((wrap64 (3 * a0_1)) : Int).toNat)) ++ (⟨#[45]⟩ : ByteArray)) ++ t276) ++ (⟨#[32]⟩ : ByteArray)).size + t277.size ≤ 9223372036854775807 then (some ((((((((⟨#[32]⟩ : ByteArray) ++ t275) ++ (⟨#[45]⟩ : ByteArray)) ++ ((⟨#[74, 97, 110, 70, 101, 98, 77, 97, 114, 65, 112, 114, 77, 97, 121, 74, 117, 110, 74, 117, 108, 65, 117, 103, 83, 101, 112, 79, 99, 116, 78, 111, 118, 68, 101, 99]⟩ : ByteArray).extract ((wrap64 ((wrap64 (3 * a0_1)) - 3)) : Int).toNat ((wrap64 (3 * a0_1)) : Int).toNat)) ++ (⟨#[45]⟩ : ByteArray)) ++ t276) ++ (⟨#[32]⟩ : ByteArray)) ++ t277, 0)) else (none))) else (none)) else (none))) else (none)) else (none)) else (none)) else (none)) else (none)) else (none)) else (none)) else (if t275.size + 1 ≤ 9223372036854775807 then (if 0 ≤ (wrap64 ((wrap64 (3 * a0_1)) - 3)) then (if (wrap64 ((wrap64 (3 * a0_1)) - 3)) ≤ (wrap64 (3 * a0_1)) then (if (wrap64 (3 * a0_1)) ≤ 36 then (if (t275 ++ (⟨#[45]⟩ : ByteArray)).size + ((⟨#[74, 97, 110, 70, 101, 98, 77, 97, 114, 65, 112, 114, 77, 97, 121, 74, 117, 110, 74, 117, 108, 65, 117, 103, 83, 101, 112, 79, 99, 116, 78, 111, 118, 68, 101, 99]⟩ : ByteArray).extract ((wrap64 ((wrap64 (3 * a0_1)) - 3)) : Int).toNat ((wrap64 (3 * a0_1)) : Int).toNat).size ≤ 9223372036854775807 then (if ((t275 ++ (⟨#[45]⟩ : ByteArray)) ++ ((⟨#[74, 97, 110, 70, 101, 98, 77, 97, 114, 65, 112, 114, 77, 97, 121, 74, 117, 110, 74, 117, 108, 65, 117, 103, 83, 101, 112, 79, 99, 116, 78, 111, 118, 68, 101, 99]⟩ : ByteArray).extract ((wrap64 ((wrap64 (3 * a0_1)) - 3)) : Int).toNat ((wrap64 (3 * a0_1)) : Int).toNat)).size + 1 ≤ 9223372036854775807 then ((postbagref2_text.f k a0_0 4).bind fun t278 => (if (((t275 ++ (⟨#[45]⟩ : ByteArray)) ++ ((⟨#[74, 97, 110, 70, 101, 98, 77, 97, 114, 65, 112, 114, 77, 97, 121, 74, 117, 110, 74, 117, 108, 65, 117, 103, 83, 101, 112, 79, 99, 116, 78, 111, 118, 68, 101, 99]⟩ : ByteArray).extract ((wrap64 ((wrap64 (3 * a0_1)) - 3)) : Int).toNat ((wrap64 (3 * a0_1)) : Int).toNat)) ++ (⟨#[45]⟩ : ByteArray)).size + t278.size ≤ 9223372036854775807 then (if ((((t275 ++ (⟨#[45]⟩ : ByteArray)) ++ ((⟨#[74, 97, 110, 70, 101, 98, 77, 97, 114, 65, 112, 114, 77, 97, 121, 74, 117, 110, 74, 117, 108, 65, 117, 103, 83, 101, 112, 79, 99, 116, 78, 111, 118, 68, 101, 99]⟩ : ByteArray).extract ((wrap64 ((wrap64 (3 * a0_1)) - 3)) : Int).toNat ((wrap64 (3 * a0_1)) : Int).toNat)) ++ (⟨#[45]⟩ : ByteArray)) ++ t278).size + 1 ≤ 9223372036854775807 then ((postbagref2_clock.f k a0_0 a0_1 a0_2 a0_3 a0_4 a0_5 a0_6).bind fun t279 => (if (((((t275 ++ (⟨#[45]⟩ : ByteArray)) ++ ((⟨#[74, 97, 110, 70, 101, 98, 77, 97, 114, 65, 112, 114, 77, 97, 121, 74, 117, 110, 74, 117, 108, 65, 117, 103, 83, 101, 112, 79, 99, 116, 78, 111, 118, 68, 101, 99]⟩ : ByteArray).extract ((wrap64 ((wrap64 (3 * a0_1)) - 3)) : Int).toNat ((wrap64 (3 * a0_1)) : Int).toNat)) ++ (⟨#[45]⟩ : ByteArray)) ++ t278) ++ (⟨#[32]⟩ : ByteArray)).size + t279.size ≤ 9223372036854775807 then (some ((((((t275 ++ (⟨#[45]⟩ : ByteArray)) ++ ((⟨#[74, 97, 110, 70, 101, 98, 77, 97, 114, 65, 112, 114, 77, 97, 121, 74, 117, 110, 74, 117, 108, 65, 117, 103, 83, 101, 112, 79, 99, 116, 78, 111, 118, 68, 101, 99]⟩ : ByteArray).extract ((wrap64 ((wrap64 (3 * a0_1)) - 3)) : Int).toNat ((wrap64 (3 * a0_1)) : Int).toNat)) ++ (⟨#[45]⟩ : ByteArray)) ++ t278) ++ (⟨#[32]⟩ : ByteArray)) ++ t279, 0)) else (none))) else (none)) else (none))) else (none)) else (none)) else (none)) else (none)) else (none)) else (none)))) else (some ((⟨#[]⟩ : ByteArray), t274))) = some (r1, r2) := H
 have A2 := Aside0.mk A20
 clear A20
 by_cases c3 : t274 = 0
 ·rw [if_pos c3] at H
  have c3b0 : (t274 == 0) = true := beq_iff_eq.mpr c3
  have c3b1 : (t274 != 0) = false := bne_eq_false_iff_eq.mpr c3
  clear c3
  replace H := Option.bind_eq_some_iff.mp H
  obtain ⟨t275, A40, H⟩ := H
  replace H : (if a0_2 < 10 then (if 1 + t275.size ≤ 9223372036854775807 then (if ((⟨#[32]⟩ : ByteArray) ++ t275).size + 1 ≤ 9223372036854775807 then (if 0 ≤ (wrap64 ((wrap64 (3 * a0_1)) - 3)) then (if (wrap64 ((wrap64 (3 * a0_1)) - 3)) ≤ (wrap64 (3 * a0_1)) then (if (wrap64 (3 * a0_1)) ≤ 36 then (if (((⟨#[32]⟩ : ByteArray) ++ t275) ++ (⟨#[45]⟩ : ByteArray)).size + ((⟨#[74, 97, 110, 70, 101, 98, 77, 97, 114, 65, 112, 114, 77, 97, 121, 74, 117, 110, 74, 117, 108, 65, 117, 103, 83, 101, 112, 79, 99, 116, 78, 111, 118, 68, 101, 99]⟩ : ByteArray).extract ((wrap64 ((wrap64 (3 * a0_1)) - 3)) : Int).toNat ((wrap64 (3 * a0_1)) : Int).toNat).size ≤ 9223372036854775807 then (if ((((⟨#[32]⟩ : ByteArray) ++ t275) ++ (⟨#[45]⟩ : ByteArray)) ++ ((⟨#[74, 97, 110, 70, 101, 98, 77, 97, 114, 65, 112, 114, 77, 97, 121, 74, 117, 110, 74, 117, 108, 65, 117, 103, 83, 101, 112, 79, 99, 116, 78, 111, 118, 68, 101, 99]⟩ : ByteArray).extract ((wrap64 ((wrap64 (3 * a0_1)) - 3)) : Int).toNat ((wrap64 (3 * a0_1)) : Int).toNat)).size + 1 ≤ 9223372036854775807 then ((postbagref2_text.f k a0_0 4).bind fun t276 => (if (((((⟨#[32]⟩ : ByteArray) ++ t275) ++ (⟨#[45]⟩ : ByteArray)) ++ ((⟨#[74, 97, 110, 70, 101, 98, 77, 97, 114, 65, 112, 114, 77, 97, 121, 74, 117, 110, 74, 117, 108, 65, 117, 103, 83, 101, 112, 79, 99, 116, 78, 111, 118, 68, 101, 99]⟩ : ByteArray).extract ((wrap64 ((wrap64 (3 * a0_1)) - 3)) : Int).toNat ((wrap64 (3 * a0_1)) : Int).toNat)) ++ (⟨#[45]⟩ : ByteArray)).size + t276.size ≤ 9223372036854775807 then (if ((((((⟨#[32]⟩ : ByteArray) ++ t275) ++ (⟨#[45]⟩ : ByteArray)) ++ ((⟨#[74, 97, 110, 70, 101, 98, 77, 97, 114, 65, 112, 114, 77, 97, 121, 74, 117, 110, 74, 117, 108, 65, 117, 103, 83, 101, 112, 79, 99, 116, 78, 111, 118, 68, 101, 99]⟩ : ByteArray).extract ((wrap64 ((wrap64 (3 * a0_1)) - 3)) : Int).toNat ((wrap64 (3 * a0_1)) : Int).toNat)) ++ (⟨#[45]⟩ : ByteArray)) ++ t276).size + 1 ≤ 9223372036854775807 then ((postbagref2_clock.f k a0_0 a0_1 a0_2 a0_3 a0_4 a0_5 a0_6).bind fun t277 => (if (((((((⟨#[32]⟩ : ByteArray) ++ t275) ++ (⟨#[45]⟩ : ByteArray)) ++ ((⟨#[74, 97, 110, 70, 101, 98, 77, 97, 114, 65, 112, 114, 77, 97, 121, 74, 117, 110, 74, 117, 108, 65, 117, 103, 83, 101, 112, 79, 99, 116, 78, 111, 118, 68, 101, 99]⟩ : ByteArray).extract ((wrap64 ((wrap64 (3 * a0_1)) - 3)) : Int).toNat ((wrap64 (3 * a0_1)) : Int).toNat)) ++ (⟨#[45]⟩ : ByteArray)) ++ t276) ++ (⟨#[32]⟩ : ByteArray)).size + t277.size ≤ 9223372036854775807 then (some ((((((((⟨#[32]⟩ : ByteArray) ++ t275) ++ (⟨#[45]⟩ : ByteArray)) ++ ((⟨#[74, 97, 110, 70, 101, 98, 77, 97, 114, 65, 112, 114, 77, 97, 121, 74, 117, 110, 74, 117, 108, 65, 117, 103, 83, 101, 112, 79, 99, 116, 78, 111, 118, 68, 101, 99]⟩ : ByteArray).extract ((wrap64 ((wrap64 (3 * a0_1)) - 3)) : Int).toNat ((wrap64 (3 * a0_1)) : Int).toNat)) ++ (⟨#[45]⟩ : ByteArray)) ++ t276) ++ (⟨#[32]⟩ : ByteArray)) ++ t277, 0)) else (none))) else (none)) else (none))) else (none)) else (none)) else (none)) else (none)) else (none)) else (none)) else (none)) else (if t275.size + 1 ≤ 9223372036854775807 then (if 0 ≤ (wrap64 ((wrap64 (3 * a0_1)) - 3)) then (if (wrap64 ((wrap64 (3 * a0_1)) - 3)) ≤ (wrap64 (3 * a0_1)) then (if (wrap64 (3 * a0_1)) ≤ 36 then (if (t275 ++ (⟨#[45]⟩ : ByteArray)).size + ((⟨#[74, 97, 110, 70, 101, 98, 77, 97, 114, 65, 112, 114, 77, 97, 121, 74, 117, 110, 74, 117, 108, 65, 117, 103, 83, 101, 112, 79, 99, 116, 78, 111, 118, 68, 101, 99]⟩ : ByteArray).extract ((wrap64 ((wrap64 (3 * a0_1)) - 3)) : Int).toNat ((wrap64 (3 * a0_1)) : Int).toNat).size ≤ 9223372036854775807 then (if ((t275 ++ (⟨#[45]⟩ : ByteArray)) ++ ((⟨#[74, 97, 110, 70, 101, 98, 77, 97, 114, 65, 112, 114, 77, 97, 121, 74, 117, 110, 74, 117, 108, 65, 117, 103, 83, 101, 112, 79, 99, 116, 78, 111, 118, 68, 101, 99]⟩ : ByteArray).extract ((wrap64 ((wrap64 (3 * a0_1)) - 3)) : Int).toNat ((wrap64 (3 * a0_1)) : Int).toNat)).size + 1 ≤ 9223372036854775807 then ((postbagref2_text.f k a0_0 4).bind fun t278 => (if (((t275 ++ (⟨#[45]⟩ : ByteArray)) ++ ((⟨#[74, 97, 110, 70, 101, 98, 77, 97, 114, 65, 112, 114, 77, 97, 121, 74, 117, 110, 74, 117, 108, 65, 117, 103, 83, 101, 112, 79, 99, 116, 78, 111, 118, 68, 101, 99]⟩ : ByteArray).extract ((wrap64 ((wrap64 (3 * a0_1)) - 3)) : Int).toNat ((wrap64 (3 * a0_1)) : Int).toNat)) ++ (⟨#[45]⟩ : ByteArray)).size + t278.size ≤ 9223372036854775807 then (if ((((t275 ++ (⟨#[45]⟩ : ByteArray)) ++ ((⟨#[74, 97, 110, 70, 101, 98, 77, 97, 114, 65, 112, 114, 77, 97, 121, 74, 117, 110, 74, 117, 108, 65, 117, 103, 83, 101, 112, 79, 99, 116, 78, 111, 118, 68, 101, 99]⟩ : ByteArray).extract ((wrap64 ((wrap64 (3 * a0_1)) - 3)) : Int).toNat ((wrap64 (3 * a0_1)) : Int).toNat)) ++ (⟨#[45]⟩ : ByteArray)) ++ t278).size + 1 ≤ 9223372036854775807 then ((postbagref2_clock.f k a0_0 a0_1 a0_2 a0_3 a0_4 a0_5 a0_6).bind fun t279 => (if (((((t275 ++ (⟨#[45]⟩ : ByteArray)) ++ ((⟨#[74, 97, 110, 70, 101, 98, 77, 97, 114, 65, 112, 114, 77, 97, 121, 74, 117, 110, 74, 117, 108, 65, 117, 103, 83, 101, 112, 79, 99, 116, 78, 111, 118, 68, 101, 99]⟩ : ByteArray).extract ((wrap64 ((wrap64 (3 * a0_1)) - 3)) : Int).toNat ((wrap64 (3 * a0_1)) : Int).toNat)) ++ (⟨#[45]⟩ : ByteArray)) ++ t278) ++ (⟨#[32]⟩ : ByteArray)).size + t279.size ≤ 9223372036854775807 then (some ((((((t275 ++ (⟨#[45]⟩ : ByteArray)) ++ ((⟨#[74, 97, 110, 70, 101, 98, 77, 97, 114, 65, 112, 114, 77, 97, 121, 74, 117, 110, 74, 117, 108, 65, 117, 103, 83, 101, 112, 79, 99, 116, 78, 111, 118, 68, 101, 99]⟩ : ByteArray).extract ((wrap64 ((wrap64 (3 * a0_1)) - 3)) : Int).toNat ((wrap64 (3 * a0_1)) : Int).toNat)) ++ (⟨#[45]⟩ : ByteArray)) ++ t278) ++ (⟨#[32]⟩ : ByteArray)) ++ t279, 0)) else (none))) else (none)) else (none))) else (none)) else (none)) else (none)) else (none)) else (none)) else (none))) = some (r1, r2) := H
  have A4 := Aside0.mk A40
  clear A40
  by_cases c5 : a0_2 < 10
  ·rw [if_pos c5] at H
   have c5b0 : decide (a0_2 < 10) = true := decide_eq_true c5
   clear c5
   by_cases c6 : 1 + t275.size ≤ 9223372036854775807
   ·rw [if_pos c6] at H
    have c6b0 := eq_true c6
    have c6b1 : decide (1 + t275.size ≤ 9223372036854775807) = true := decide_eq_true c6
    try have c6b2 : (9223372036854775807 < 1 + t275.size) = False := eq_false (Nat.not_lt.2 c6)
    by_cases c7 : ((⟨#[32]⟩ : ByteArray) ++ t275).size + 1 ≤ 9223372036854775807
    ·rw [if_pos c7] at H
     have c7b0 := eq_true c7
     have c7b1 : decide (((⟨#[32]⟩ : ByteArray) ++ t275).size + 1 ≤ 9223372036854775807) = true := decide_eq_true c7
     try have c7b2 : (9223372036854775807 < ((⟨#[32]⟩ : ByteArray) ++ t275).size + 1) = False := eq_false (Nat.not_lt.2 c7)
     try have c7b7 : (9223372036854775807 < 1 + t275.size + 1) = False := eq_false (by have h_ := c7; have e0_ : (⟨#[32]⟩ : ByteArray).size = 1 := rfl; (try dsimp only at e0_); simp only [ByteArray.size_append, ByteArray.size_extract] at h_; first | exact Nat.not_lt.2 h_ | omega | (simp at h_ ⊢; omega))
     try have c7b3 : (9223372036854775807 < (⟨#[32]⟩ : ByteArray).size + t275.size + 1) = False := eq_false (by have h_ := c7; simp only [ByteArray.size_append] at h_; omega)
     obtain ⟨ji8, hji8⟩ : ∃ j_ : Int, (wrap64 ((wrap64 (3 * a0_1)) - 3)) = j_ := ⟨_, rfl⟩
     replace H : (if 0 ≤ (ji8) then (if (ji8) ≤ (wrap64 (3 * a0_1)) then (if (wrap64 (3 * a0_1)) ≤ 36 then (if (((⟨#[32]⟩ : ByteArray) ++ t275) ++ (⟨#[45]⟩ : ByteArray)).size + ((⟨#[74, 97, 110, 70, 101, 98, 77, 97, 114, 65, 112, 114, 77, 97, 121, 74, 117, 110, 74, 117, 108, 65, 117, 103, 83, 101, 112, 79, 99, 116, 78, 111, 118, 68, 101, 99]⟩ : ByteArray).extract ((ji8) : Int).toNat ((wrap64 (3 * a0_1)) : Int).toNat).size ≤ 9223372036854775807 then (if ((((⟨#[32]⟩ : ByteArray) ++ t275) ++ (⟨#[45]⟩ : ByteArray)) ++ ((⟨#[74, 97, 110, 70, 101, 98, 77, 97, 114, 65, 112, 114, 77, 97, 121, 74, 117, 110, 74, 117, 108, 65, 117, 103, 83, 101, 112, 79, 99, 116, 78, 111, 118, 68, 101, 99]⟩ : ByteArray).extract ((ji8) : Int).toNat ((wrap64 (3 * a0_1)) : Int).toNat)).size + 1 ≤ 9223372036854775807 then ((postbagref2_text.f k a0_0 4).bind fun t276 => (if (((((⟨#[32]⟩ : ByteArray) ++ t275) ++ (⟨#[45]⟩ : ByteArray)) ++ ((⟨#[74, 97, 110, 70, 101, 98, 77, 97, 114, 65, 112, 114, 77, 97, 121, 74, 117, 110, 74, 117, 108, 65, 117, 103, 83, 101, 112, 79, 99, 116, 78, 111, 118, 68, 101, 99]⟩ : ByteArray).extract ((ji8) : Int).toNat ((wrap64 (3 * a0_1)) : Int).toNat)) ++ (⟨#[45]⟩ : ByteArray)).size + t276.size ≤ 9223372036854775807 then (if ((((((⟨#[32]⟩ : ByteArray) ++ t275) ++ (⟨#[45]⟩ : ByteArray)) ++ ((⟨#[74, 97, 110, 70, 101, 98, 77, 97, 114, 65, 112, 114, 77, 97, 121, 74, 117, 110, 74, 117, 108, 65, 117, 103, 83, 101, 112, 79, 99, 116, 78, 111, 118, 68, 101, 99]⟩ : ByteArray).extract ((ji8) : Int).toNat ((wrap64 (3 * a0_1)) : Int).toNat)) ++ (⟨#[45]⟩ : ByteArray)) ++ t276).size + 1 ≤ 9223372036854775807 then ((postbagref2_clock.f k a0_0 a0_1 a0_2 a0_3 a0_4 a0_5 a0_6).bind fun t277 => (if (((((((⟨#[32]⟩ : ByteArray) ++ t275) ++ (⟨#[45]⟩ : ByteArray)) ++ ((⟨#[74, 97, 110, 70, 101, 98, 77, 97, 114, 65, 112, 114, 77, 97, 121, 74, 117, 110, 74, 117, 108, 65, 117, 103, 83, 101, 112, 79, 99, 116, 78, 111, 118, 68, 101, 99]⟩ : ByteArray).extract ((ji8) : Int).toNat ((wrap64 (3 * a0_1)) : Int).toNat)) ++ (⟨#[45]⟩ : ByteArray)) ++ t276) ++ (⟨#[32]⟩ : ByteArray)).size + t277.size ≤ 9223372036854775807 then (some ((((((((⟨#[32]⟩ : ByteArray) ++ t275) ++ (⟨#[45]⟩ : ByteArray)) ++ ((⟨#[74, 97, 110, 70, 101, 98, 77, 97, 114, 65, 112, 114, 77, 97, 121, 74, 117, 110, 74, 117, 108, 65, 117, 103, 83, 101, 112, 79, 99, 116, 78, 111, 118, 68, 101, 99]⟩ : ByteArray).extract ((ji8) : Int).toNat ((wrap64 (3 * a0_1)) : Int).toNat)) ++ (⟨#[45]⟩ : ByteArray)) ++ t276) ++ (⟨#[32]⟩ : ByteArray)) ++ t277, 0)) else (none))) else (none)) else (none))) else (none)) else (none)) else (none)) else (none)) else (none)) = some (r1, r2) := by first | (rw [hji8] at H; exact H) | (simp only [hji8] at H ⊢; exact H)
     (try rw [hji8] at A2)
     (try rw [hji8] at A4)
     have hji8w : (IntKind.i64.wrap ((wrap64 (3 * a0_1)) - 3)) = ji8 := (i64_w _).trans hji8
     by_cases c9 : 0 ≤ (ji8)
     ·rw [if_pos c9] at H
      have c9b0 := eq_true c9
      have c9b1 : decide (0 ≤ (ji8)) = true := decide_eq_true c9
      clear c9
      by_cases c10 : (ji8) ≤ (wrap64 (3 * a0_1))
      ·rw [if_pos c10] at H
       have c10b0 := eq_true c10
       have c10b1 : decide ((ji8) ≤ (wrap64 (3 * a0_1))) = true := decide_eq_true c10
       clear c10
       by_cases c11 : (wrap64 (3 * a0_1)) ≤ 36
       ·rw [if_pos c11] at H
        have c11b0 := eq_true c11
        have c11b1 : decide ((wrap64 (3 * a0_1)) ≤ 36) = true := decide_eq_true c11
        clear c11
        by_cases c12 : (((⟨#[32]⟩ : ByteArray) ++ t275) ++ (⟨#[45]⟩ : ByteArray)).size + ((⟨#[74, 97, 110, 70, 101, 98, 77, 97, 114, 65, 112, 114, 77, 97, 121, 74, 117, 110, 74, 117, 108, 65, 117, 103, 83, 101, 112, 79, 99, 116, 78, 111, 118, 68, 101, 99]⟩ : ByteArray).extract ((ji8) : Int).toNat ((wrap64 (3 * a0_1)) : Int).toNat).size ≤ 9223372036854775807
        ·rw [if_pos c12] at H
         have c12b0 := eq_true c12
         have c12b1 : decide ((((⟨#[32]⟩ : ByteArray) ++ t275) ++ (⟨#[45]⟩ : ByteArray)).size + ((⟨#[74, 97, 110, 70, 101, 98, 77, 97, 114, 65, 112, 114, 77, 97, 121, 74, 117, 110, 74, 117, 108, 65, 117, 103, 83, 101, 112, 79, 99, 116, 78, 111, 118, 68, 101, 99]⟩ : ByteArray).extract ((ji8) : Int).toNat ((wrap64 (3 * a0_1)) : Int).toNat).size ≤ 9223372036854775807) = true := decide_eq_true c12
         try have c12b2 : (9223372036854775807 < (((⟨#[32]⟩ : ByteArray) ++ t275) ++ (⟨#[45]⟩ : ByteArray)).size + ((⟨#[74, 97, 110, 70, 101, 98, 77, 97, 114, 65, 112, 114, 77, 97, 121, 74, 117, 110, 74, 117, 108, 65, 117, 103, 83, 101, 112, 79, 99, 116, 78, 111, 118, 68, 101, 99]⟩ : ByteArray).extract ((ji8) : Int).toNat ((wrap64 (3 * a0_1)) : Int).toNat).size) = False := eq_false (Nat.not_lt.2 c12)
         try have c12b7 : (9223372036854775807 < 1 + t275.size + 1 + ((wrap64 (3 * a0_1)).toNat - (ji8).toNat)) = False := eq_false (by have h_ := c12; have e0_ : (⟨#[32]⟩ : ByteArray).size = 1 := rfl; (try dsimp only at e0_); have e1_ : (⟨#[45]⟩ : ByteArray).size = 1 := rfl; (try dsimp only at e1_); have e2_ : (⟨#[74, 97, 110, 70, 101, 98, 77, 97, 114, 65, 112, 114, 77, 97, 121, 74, 117, 110, 74, 117, 108, 65, 117, 103, 83, 101, 112, 79, 99, 116, 78, 111, 118, 68, 101, 99]⟩ : ByteArray).size = 36 := rfl; (try dsimp only at e2_); (try have qc6_ := of_decide_eq_true c6b1); (try have qc7_ := of_decide_eq_true c7b1); (try have qc9_ := of_decide_eq_true c9b1); (try have qc10_ := of_decide_eq_true c10b1); (try have qc11_ := of_decide_eq_true c11b1); (try have qc12_ := of_decide_eq_true c12b1); simp only [ByteArray.size_append, ByteArray.size_extract] at h_; first | exact Nat.not_lt.2 h_ | omega | (simp at h_ ⊢; omega))
         try have c12b3 : (9223372036854775807 < (⟨#[32]⟩ : ByteArray).size + t275.size + (⟨#[45]⟩ : ByteArray).size + ((⟨#[74, 97, 110, 70, 101, 98, 77, 97, 114, 65, 112, 114, 77, 97, 121, 74, 117, 110, 74, 117, 108, 65, 117, 103, 83, 101, 112, 79, 99, 116, 78, 111, 118, 68, 101, 99]⟩ : ByteArray).extract ((ji8) : Int).toNat ((wrap64 (3 * a0_1)) : Int).toNat).size) = False := eq_false (by have h_ := c12; simp only [ByteArray.size_append] at h_; omega)
         by_cases c13 : ((((⟨#[32]⟩ : ByteArray) ++ t275) ++ (⟨#[45]⟩ : ByteArray)) ++ ((⟨#[74, 97, 110, 70, 101, 98, 77, 97, 114, 65, 112, 114, 77, 97, 121, 74, 117, 110, 74, 117, 108, 65, 117, 103, 83, 101, 112, 79, 99, 116, 78, 111, 118, 68, 101, 99]⟩ : ByteArray).extract ((ji8) : Int).toNat ((wrap64 (3 * a0_1)) : Int).toNat)).size + 1 ≤ 9223372036854775807
         ·rw [if_pos c13] at H
          have c13b0 := eq_true c13
          have c13b1 : decide (((((⟨#[32]⟩ : ByteArray) ++ t275) ++ (⟨#[45]⟩ : ByteArray)) ++ ((⟨#[74, 97, 110, 70, 101, 98, 77, 97, 114, 65, 112, 114, 77, 97, 121, 74, 117, 110, 74, 117, 108, 65, 117, 103, 83, 101, 112, 79, 99, 116, 78, 111, 118, 68, 101, 99]⟩ : ByteArray).extract ((ji8) : Int).toNat ((wrap64 (3 * a0_1)) : Int).toNat)).size + 1 ≤ 9223372036854775807) = true := decide_eq_true c13
          try have c13b2 : (9223372036854775807 < ((((⟨#[32]⟩ : ByteArray) ++ t275) ++ (⟨#[45]⟩ : ByteArray)) ++ ((⟨#[74, 97, 110, 70, 101, 98, 77, 97, 114, 65, 112, 114, 77, 97, 121, 74, 117, 110, 74, 117, 108, 65, 117, 103, 83, 101, 112, 79, 99, 116, 78, 111, 118, 68, 101, 99]⟩ : ByteArray).extract ((ji8) : Int).toNat ((wrap64 (3 * a0_1)) : Int).toNat)).size + 1) = False := eq_false (Nat.not_lt.2 c13)
          try have c13b7 : (9223372036854775807 < 1 + t275.size + 1 + ((wrap64 (3 * a0_1)).toNat - (ji8).toNat) + 1) = False := eq_false (by have h_ := c13; have e0_ : (⟨#[32]⟩ : ByteArray).size = 1 := rfl; (try dsimp only at e0_); have e1_ : (⟨#[45]⟩ : ByteArray).size = 1 := rfl; (try dsimp only at e1_); have e2_ : (⟨#[74, 97, 110, 70, 101, 98, 77, 97, 114, 65, 112, 114, 77, 97, 121, 74, 117, 110, 74, 117, 108, 65, 117, 103, 83, 101, 112, 79, 99, 116, 78, 111, 118, 68, 101, 99]⟩ : ByteArray).size = 36 := rfl; (try dsimp only at e2_); (try have qc6_ := of_decide_eq_true c6b1); (try have qc7_ := of_decide_eq_true c7b1); (try have qc9_ := of_decide_eq_true c9b1); (try have qc10_ := of_decide_eq_true c10b1); (try have qc11_ := of_decide_eq_true c11b1); (try have qc12_ := of_decide_eq_true c12b1); (try have qc13_ := of_decide_eq_true c13b1); simp only [ByteArray.size_append, ByteArray.size_extract] at h_; first | exact Nat.not_lt.2 h_ | omega | (simp at h_ ⊢; omega))
          try have c13b3 : (9223372036854775807 < (⟨#[32]⟩ : ByteArray).size + t275.size + (⟨#[45]⟩ : ByteArray).size + ((⟨#[74, 97, 110, 70, 101, 98, 77, 97, 114, 65, 112, 114, 77, 97, 121, 74, 117, 110, 74, 117, 108, 65, 117, 103, 83, 101, 112, 79, 99, 116, 78, 111, 118, 68, 101, 99]⟩ : ByteArray).extract ((ji8) : Int).toNat ((wrap64 (3 * a0_1)) : Int).toNat).size + 1) = False := eq_false (by have h_ := c13; simp only [ByteArray.size_append] at h_; omega)
          replace H := Option.bind_eq_some_iff.mp H
          obtain ⟨t276, A140, H⟩ := H
          replace H : (if (((((⟨#[32]⟩ : ByteArray) ++ t275) ++ (⟨#[45]⟩ : ByteArray)) ++ ((⟨#[74, 97, 110, 70, 101, 98, 77, 97, 114, 65, 112, 114, 77, 97, 121, 74, 117, 110, 74, 117, 108, 65, 117, 103, 83, 101, 112, 79, 99, 116, 78, 111, 118, 68, 101, 99]⟩ : ByteArray).extract ((ji8) : Int).toNat ((wrap64 (3 * a0_1)) : Int).toNat)) ++ (⟨#[45]⟩ : ByteArray)).size + t276.size ≤ 9223372036854775807 then (if ((((((⟨#[32]⟩ : ByteArray) ++ t275) ++ (⟨#[45]⟩ : ByteArray)) ++ ((⟨#[74, 97, 110, 70, 101, 98, 77, 97, 114, 65, 112, 114, 77, 97, 121, 74, 117, 110, 74, 117, 108, 65, 117, 103, 83, 101, 112, 79, 99, 116, 78, 111, 118, 68, 101, 99]⟩ : ByteArray).extract ((ji8) : Int).toNat ((wrap64 (3 * a0_1)) : Int).toNat)) ++ (⟨#[45]⟩ : ByteArray)) ++ t276).size + 1 ≤ 9223372036854775807 then ((postbagref2_clock.f k a0_0 a0_1 a0_2 a0_3 a0_4 a0_5 a0_6).bind fun t277 => (if (((((((⟨#[32]⟩ : ByteArray) ++ t275) ++ (⟨#[45]⟩ : ByteArray)) ++ ((⟨#[74, 97, 110, 70, 101, 98, 77, 97, 114, 65, 112, 114, 77, 97, 121, 74, 117, 110, 74, 117, 108, 65, 117, 103, 83, 101, 112, 79, 99, 116, 78, 111, 118, 68, 101, 99]⟩ : ByteArray).extract ((ji8) : Int).toNat ((wrap64 (3 * a0_1)) : Int).toNat)) ++ (⟨#[45]⟩ : ByteArray)) ++ t276) ++ (⟨#[32]⟩ : ByteArray)).size + t277.size ≤ 9223372036854775807 then (some ((((((((⟨#[32]⟩ : ByteArray) ++ t275) ++ (⟨#[45]⟩ : ByteArray)) ++ ((⟨#[74, 97, 110, 70, 101, 98, 77, 97, 114, 65, 112, 114, 77, 97, 121, 74, 117, 110, 74, 117, 108, 65, 117, 103, 83, 101, 112, 79, 99, 116, 78, 111, 118, 68, 101, 99]⟩ : ByteArray).extract ((ji8) : Int).toNat ((wrap64 (3 * a0_1)) : Int).toNat)) ++ (⟨#[45]⟩ : ByteArray)) ++ t276) ++ (⟨#[32]⟩ : ByteArray)) ++ t277, 0)) else (none))) else (none)) else (none)) = some (r1, r2) := H
          have A14 := Aside0.mk A140
          clear A140
          by_cases c15 : (((((⟨#[32]⟩ : ByteArray) ++ t275) ++ (⟨#[45]⟩ : ByteArray)) ++ ((⟨#[74, 97, 110, 70, 101, 98, 77, 97, 114, 65, 112, 114, 77, 97, 121, 74, 117, 110, 74, 117, 108, 65, 117, 103, 83, 101, 112, 79, 99, 116, 78, 111, 118, 68, 101, 99]⟩ : ByteArray).extract ((ji8) : Int).toNat ((wrap64 (3 * a0_1)) : Int).toNat)) ++ (⟨#[45]⟩ : ByteArray)).size + t276.size ≤ 9223372036854775807
          ·rw [if_pos c15] at H
           have c15b0 := eq_true c15
           have c15b1 : decide ((((((⟨#[32]⟩ : ByteArray) ++ t275) ++ (⟨#[45]⟩ : ByteArray)) ++ ((⟨#[74, 97, 110, 70, 101, 98, 77, 97, 114, 65, 112, 114, 77, 97, 121, 74, 117, 110, 74, 117, 108, 65, 117, 103, 83, 101, 112, 79, 99, 116, 78, 111, 118, 68, 101, 99]⟩ : ByteArray).extract ((ji8) : Int).toNat ((wrap64 (3 * a0_1)) : Int).toNat)) ++ (⟨#[45]⟩ : ByteArray)).size + t276.size ≤ 9223372036854775807) = true := decide_eq_true c15
           try have c15b2 : (9223372036854775807 < (((((⟨#[32]⟩ : ByteArray) ++ t275) ++ (⟨#[45]⟩ : ByteArray)) ++ ((⟨#[74, 97, 110, 70, 101, 98, 77, 97, 114, 65, 112, 114, 77, 97, 121, 74, 117, 110, 74, 117, 108, 65, 117, 103, 83, 101, 112, 79, 99, 116, 78, 111, 118, 68, 101, 99]⟩ : ByteArray).extract ((ji8) : Int).toNat ((wrap64 (3 * a0_1)) : Int).toNat)) ++ (⟨#[45]⟩ : ByteArray)).size + t276.size) = False := eq_false (Nat.not_lt.2 c15)
           try have c15b7 : (9223372036854775807 < 1 + t275.size + 1 + ((wrap64 (3 * a0_1)).toNat - (ji8).toNat) + 1 + t276.size) = False := eq_false (by have h_ := c15; have e0_ : (⟨#[32]⟩ : ByteArray).size = 1 := rfl; (try dsimp only at e0_); have e1_ : (⟨#[45]⟩ : ByteArray).size = 1 := rfl; (try dsimp only at e1_); have e2_ : (⟨#[74, 97, 110, 70, 101, 98, 77, 97, 114, 65, 112, 114, 77, 97, 121, 74, 117, 110, 74, 117, 108, 65, 117, 103, 83, 101, 112, 79, 99, 116, 78, 111, 118, 68, 101, 99]⟩ : ByteArray).size = 36 := rfl; (try dsimp only at e2_); (try have qc6_ := of_decide_eq_true c6b1); (try have qc7_ := of_decide_eq_true c7b1); (try have qc9_ := of_decide_eq_true c9b1); (try have qc10_ := of_decide_eq_true c10b1); (try have qc11_ := of_decide_eq_true c11b1); (try have qc12_ := of_decide_eq_true c12b1); (try have qc13_ := of_decide_eq_true c13b1); (try have qc15_ := of_decide_eq_true c15b1); simp only [ByteArray.size_append, ByteArray.size_extract] at h_; first | exact Nat.not_lt.2 h_ | omega | (simp at h_ ⊢; omega))
           try have c15b3 : (9223372036854775807 < (⟨#[32]⟩ : ByteArray).size + t275.size + (⟨#[45]⟩ : ByteArray).size + ((⟨#[74, 97, 110, 70, 101, 98, 77, 97, 114, 65, 112, 114, 77, 97, 121, 74, 117, 110, 74, 117, 108, 65, 117, 103, 83, 101, 112, 79, 99, 116, 78, 111, 118, 68, 101, 99]⟩ : ByteArray).extract ((ji8) : Int).toNat ((wrap64 (3 * a0_1)) : Int).toNat).size + (⟨#[45]⟩ : ByteArray).size + t276.size) = False := eq_false (by have h_ := c15; simp only [ByteArray.size_append] at h_; omega)
           by_cases c16 : ((((((⟨#[32]⟩ : ByteArray) ++ t275) ++ (⟨#[45]⟩ : ByteArray)) ++ ((⟨#[74, 97, 110, 70, 101, 98, 77, 97, 114, 65, 112, 114, 77, 97, 121, 74, 117, 110, 74, 117, 108, 65, 117, 103, 83, 101, 112, 79, 99, 116, 78, 111, 118, 68, 101, 99]⟩ : ByteArray).extract ((ji8) : Int).toNat ((wrap64 (3 * a0_1)) : Int).toNat)) ++ (⟨#[45]⟩ : ByteArray)) ++ t276).size + 1 ≤ 9223372036854775807
           ·rw [if_pos c16] at H
            have c16b0 := eq_true c16
            have c16b1 : decide (((((((⟨#[32]⟩ : ByteArray) ++ t275) ++ (⟨#[45]⟩ : ByteArray)) ++ ((⟨#[74, 97, 110, 70, 101, 98, 77, 97, 114, 65, 112, 114, 77, 97, 121, 74, 117, 110, 74, 117, 108, 65, 117, 103, 83, 101, 112, 79, 99, 116, 78, 111, 118, 68, 101, 99]⟩ : ByteArray).extract ((ji8) : Int).toNat ((wrap64 (3 * a0_1)) : Int).toNat)) ++ (⟨#[45]⟩ : ByteArray)) ++ t276).size + 1 ≤ 9223372036854775807) = true := decide_eq_true c16
            try have c16b2 : (9223372036854775807 < ((((((⟨#[32]⟩ : ByteArray) ++ t275) ++ (⟨#[45]⟩ : ByteArray)) ++ ((⟨#[74, 97, 110, 70, 101, 98, 77, 97, 114, 65, 112, 114, 77, 97, 121, 74, 117, 110, 74, 117, 108, 65, 117, 103, 83, 101, 112, 79, 99, 116, 78, 111, 118, 68, 101, 99]⟩ : ByteArray).extract ((ji8) : Int).toNat ((wrap64 (3 * a0_1)) : Int).toNat)) ++ (⟨#[45]⟩ : ByteArray)) ++ t276).size + 1) = False := eq_false (Nat.not_lt.2 c16)
            try have c16b7 : (9223372036854775807 < 1 + t275.size + 1 + ((wrap64 (3 * a0_1)).toNat - (ji8).toNat) + 1 + t276.size + 1) = False := eq_false (by have h_ := c16; have e0_ : (⟨#[32]⟩ : ByteArray).size = 1 := rfl; (try dsimp only at e0_); have e1_ : (⟨#[45]⟩ : ByteArray).size = 1 := rfl; (try dsimp only at e1_); have e2_ : (⟨#[74, 97, 110, 70, 101, 98, 77, 97, 114, 65, 112, 114, 77, 97, 121, 74, 117, 110, 74, 117, 108, 65, 117, 103, 83, 101, 112, 79, 99, 116, 78, 111, 118, 68, 101, 99]⟩ : ByteArray).size = 36 := rfl; (try dsimp only at e2_); (try have qc6_ := of_decide_eq_true c6b1); (try have qc7_ := of_decide_eq_true c7b1); (try have qc9_ := of_decide_eq_true c9b1); (try have qc10_ := of_decide_eq_true c10b1); (try have qc11_ := of_decide_eq_true c11b1); (try have qc12_ := of_decide_eq_true c12b1); (try have qc13_ := of_decide_eq_true c13b1); (try have qc15_ := of_decide_eq_true c15b1); (try have qc16_ := of_decide_eq_true c16b1); simp only [ByteArray.size_append, ByteArray.size_extract] at h_; first | exact Nat.not_lt.2 h_ | omega | (simp at h_ ⊢; omega))
            try have c16b3 : (9223372036854775807 < (⟨#[32]⟩ : ByteArray).size + t275.size + (⟨#[45]⟩ : ByteArray).size + ((⟨#[74, 97, 110, 70, 101, 98, 77, 97, 114, 65, 112, 114, 77, 97, 121, 74, 117, 110, 74, 117, 108, 65, 117, 103, 83, 101, 112, 79, 99, 116, 78, 111, 118, 68, 101, 99]⟩ : ByteArray).extract ((ji8) : Int).toNat ((wrap64 (3 * a0_1)) : Int).toNat).size + (⟨#[45]⟩ : ByteArray).size + t276.size + 1) = False := eq_false (by have h_ := c16; simp only [ByteArray.size_append] at h_; omega)
            replace H := Option.bind_eq_some_iff.mp H
            obtain ⟨t277, A170, H⟩ := H
            replace H : (if (((((((⟨#[32]⟩ : ByteArray) ++ t275) ++ (⟨#[45]⟩ : ByteArray)) ++ ((⟨#[74, 97, 110, 70, 101, 98, 77, 97, 114, 65, 112, 114, 77, 97, 121, 74, 117, 110, 74, 117, 108, 65, 117, 103, 83, 101, 112, 79, 99, 116, 78, 111, 118, 68, 101, 99]⟩ : ByteArray).extract ((ji8) : Int).toNat ((wrap64 (3 * a0_1)) : Int).toNat)) ++ (⟨#[45]⟩ : ByteArray)) ++ t276) ++ (⟨#[32]⟩ : ByteArray)).size + t277.size ≤ 9223372036854775807 then (some ((((((((⟨#[32]⟩ : ByteArray) ++ t275) ++ (⟨#[45]⟩ : ByteArray)) ++ ((⟨#[74, 97, 110, 70, 101, 98, 77, 97, 114, 65, 112, 114, 77, 97, 121, 74, 117, 110, 74, 117, 108, 65, 117, 103, 83, 101, 112, 79, 99, 116, 78, 111, 118, 68, 101, 99]⟩ : ByteArray).extract ((ji8) : Int).toNat ((wrap64 (3 * a0_1)) : Int).toNat)) ++ (⟨#[45]⟩ : ByteArray)) ++ t276) ++ (⟨#[32]⟩ : ByteArray)) ++ t277, 0)) else (none)) = some (r1, r2) := H
            have A17 := Aside0.mk A170
            clear A170
            by_cases c18 : (((((((⟨#[32]⟩ : ByteArray) ++ t275) ++ (⟨#[45]⟩ : ByteArray)) ++ ((⟨#[74, 97, 110, 70, 101, 98, 77, 97, 114, 65, 112, 114, 77, 97, 121, 74, 117, 110, 74, 117, 108, 65, 117, 103, 83, 101, 112, 79, 99, 116, 78, 111, 118, 68, 101, 99]⟩ : ByteArray).extract ((ji8) : Int).toNat ((wrap64 (3 * a0_1)) : Int).toNat)) ++ (⟨#[45]⟩ : ByteArray)) ++ t276) ++ (⟨#[32]⟩ : ByteArray)).size + t277.size ≤ 9223372036854775807
            ·rw [if_pos c18] at H
             have c18b0 := eq_true c18
             have c18b1 : decide ((((((((⟨#[32]⟩ : ByteArray) ++ t275) ++ (⟨#[45]⟩ : ByteArray)) ++ ((⟨#[74, 97, 110, 70, 101, 98, 77, 97, 114, 65, 112, 114, 77, 97, 121, 74, 117, 110, 74, 117, 108, 65, 117, 103, 83, 101, 112, 79, 99, 116, 78, 111, 118, 68, 101, 99]⟩ : ByteArray).extract ((ji8) : Int).toNat ((wrap64 (3 * a0_1)) : Int).toNat)) ++ (⟨#[45]⟩ : ByteArray)) ++ t276) ++ (⟨#[32]⟩ : ByteArray)).size + t277.size ≤ 9223372036854775807) = true := decide_eq_true c18
             try have c18b2 : (9223372036854775807 < (((((((⟨#[32]⟩ : ByteArray) ++ t275) ++ (⟨#[45]⟩ : ByteArray)) ++ ((⟨#[74, 97, 110, 70, 101, 98, 77, 97, 114, 65, 112, 114, 77, 97, 121, 74, 117, 110, 74, 117, 108, 65, 117, 103, 83, 101, 112, 79, 99, 116, 78, 111, 118, 68, 101, 99]⟩ : ByteArray).extract ((ji8) : Int).toNat ((wrap64 (3 * a0_1)) : Int).toNat)) ++ (⟨#[45]⟩ : ByteArray)) ++ t276) ++ (⟨#[32]⟩ : ByteArray)).size + t277.size) = False := eq_false (Nat.not_lt.2 c18)
             try have c18b7 : (9223372036854775807 < 1 + t275.size + 1 + ((wrap64 (3 * a0_1)).toNat - (ji8).toNat) + 1 + t276.size + 1 + t277.size) = False := eq_false (by have h_ := c18; have e0_ : (⟨#[32]⟩ : ByteArray).size = 1 := rfl; (try dsimp only at e0_); have e1_ : (⟨#[45]⟩ : ByteArray).size = 1 := rfl; (try dsimp only at e1_); have e2_ : (⟨#[74, 97, 110, 70, 101, 98, 77, 97, 114, 65, 112, 114, 77, 97, 121, 74, 117, 110, 74, 117, 108, 65, 117, 103, 83, 101, 112, 79, 99, 116, 78, 111, 118, 68, 101, 99]⟩ : ByteArray).size = 36 := rfl; (try dsimp only at e2_); (try have qc6_ := of_decide_eq_true c6b1); (try have qc7_ := of_decide_eq_true c7b1); (try have qc9_ := of_decide_eq_true c9b1); (try have qc10_ := of_decide_eq_true c10b1); (try have qc11_ := of_decide_eq_true c11b1); (try have qc12_ := of_decide_eq_true c12b1); (try have qc13_ := of_decide_eq_true c13b1); (try have qc15_ := of_decide_eq_true c15b1); (try have qc16_ := of_decide_eq_true c16b1); (try have qc18_ := of_decide_eq_true c18b1); simp only [ByteArray.size_append, ByteArray.size_extract] at h_; first | exact Nat.not_lt.2 h_ | omega | (simp at h_ ⊢; omega))
             try have c18b3 : (9223372036854775807 < (⟨#[32]⟩ : ByteArray).size + t275.size + (⟨#[45]⟩ : ByteArray).size + ((⟨#[74, 97, 110, 70, 101, 98, 77, 97, 114, 65, 112, 114, 77, 97, 121, 74, 117, 110, 74, 117, 108, 65, 117, 103, 83, 101, 112, 79, 99, 116, 78, 111, 118, 68, 101, 99]⟩ : ByteArray).extract ((ji8) : Int).toNat ((wrap64 (3 * a0_1)) : Int).toNat).size + (⟨#[45]⟩ : ByteArray).size + t276.size + (⟨#[32]⟩ : ByteArray).size + t277.size) = False := eq_false (by have h_ := c18; simp only [ByteArray.size_append] at h_; omega)
             simp only [Option.some.injEq, Prod.mk.injEq] at H
             obtain ⟨rfl, rfl⟩ := H
             go_enter Tryd.func38, Tryd.ntmps38
             try go_wp2_with (first | ((with_reducible refine gate_dst (N := 1) rfl ?_); refine box_event ?hg (N := 1) ?hd (cs := #[.int .i64 a0_0, .int .i64 a0_1, .int .i64 a0_2, .int .i64 a0_3, .int .i64 a0_4, .int .i64 a0_5, .int .i64 a0_6]) (t := 23) ?hr ?_; (case hd => rfl); (case hg => rfl); (case hr => first | (go_simp; done) | (go_simp; rfl)); intro gb273 hg w19 hbox hb; have n0_ := Aside0.mk (below_step (by repeat (first | (with_reducible first | exact HB.out | apply below_alloc | apply pw_below_drewN | apply below_drew1) | exact HB.out)) hb); have n1_ := Aside0.mk (hbox); have n2_ := Aside0.mk ((by rw [hg]; exact (below_size (by repeat (first | (with_reducible first | exact HB.out | apply below_alloc | apply pw_below_drewN | apply below_drew1) | exact HB.out))) : w.heap.size ≤ gb273)); have n3_ := Aside0.mk ((by rw [hg]; exact (below_size (by repeat (first | (with_reducible first | exact HB.out | apply below_alloc | apply pw_below_drewN | apply below_drew1) | exact HB.out))) : w.heap.size ≤ gb273)); clear HB; have HB := n0_; have BK273 := n1_; have GW273 := n2_; have GE273 := n3_; clear n0_ n1_ n2_ n3_; clear hb hbox hg; have hcz20_0 : w19.cell? ⟨gb273, 0, none⟩ = some (.int .i64 a0_0) := (blk_cell BK273.out 0).trans rfl; have hcz20_1 : w19.cell? ⟨gb273, 1, none⟩ = some (.int .i64 a0_1) := (blk_cell BK273.out 1).trans rfl; have hcz20_2 : w19.cell? ⟨gb273, 2, none⟩ = some (.int .i64 a0_2) := (blk_cell BK273.out 2).trans rfl; have hcz20_3 : w19.cell? ⟨gb273, 3, none⟩ = some (.int .i64 a0_3) := (blk_cell BK273.out 3).trans rfl; have hcz20_4 : w19.cell? ⟨gb273, 4, none⟩ = some (.int .i64 a0_4) := (blk_cell BK273.out 4).trans rfl; have hcz20_5 : w19.cell? ⟨gb273, 5, none⟩ = some (.int .i64 a0_5) := (blk_cell BK273.out 5).trans rfl; have hcz20_6 : w19.cell? ⟨gb273, 6, none⟩ = some (.int .i64 a0_6) := (blk_cell BK273.out 6).trans rfl; have hfz20_0 := blk_frozen BK273.out 0; have hfz20_1 := blk_frozen BK273.out 1; have hfz20_2 := blk_frozen BK273.out 2; have hfz20_3 := blk_frozen BK273.out 3; have hfz20_4 := blk_frozen BK273.out 4; have hfz20_5 := blk_frozen BK273.out 5; have hfz20_6 := blk_frozen BK273.out 6) | ((with_reducible refine gate_callee (f := 78) rfl ?_); refine goesL_ (some 7) rfl rfl Tryd.func78 (by kernel_rfl) rfl #[.agg #[.int .i64 a0_0, .int .i64 a0_1, .int .i64 a0_2, .int .i64 a0_3, .int .i64 a0_4, .int .i64 a0_5, .int .i64 a0_6]] rfl (by (try simp only [List.map_toArray, List.map_cons, List.map_nil]); first | done | rfl | (simp only [List.length_drop, List.length_take]; rfl)) ?_; (with_reducible refine (postbagref2_may.calls k a0_0 a0_1 a0_2 a0_3 a0_4 a0_5 a0_6 t274 _ A2.out).mono ?_); rintro e w21 ⟨rfl, hb⟩; refine ⟨_, rfl, ?_⟩; have n0_ := Aside0.mk (blk_below (g := gb273) (o := .cells #[.int .i64 a0_0, .int .i64 a0_1, .int .i64 a0_2, .int .i64 a0_3, .int .i64 a0_4, .int .i64 a0_5, .int .i64 a0_6] 23 (0, 0)) (by (with_reducible repeat (first | refine blk_drewN ?_ _ | refine blk_drew ?_ | refine blk_alloc ?_ _)); exact BK273.out) hb); have n1_ := Aside0.mk (below_step (by repeat (first | (with_reducible first | exact HB.out | apply below_alloc | apply pw_below_drewN | apply below_drew1 | refine below_set ?_ GE273.out) | exact HB.out)) hb); clear BK273; clear HB; have BK273 := n0_; have HB := n1_; clear n0_ n1_; (try clear hb); (try clear hb2); (try clear hk); (try clear hi); have hcz22_0 : w21.cell? ⟨gb273, 0, none⟩ = some (.int .i64 a0_0) := (blk_cell BK273.out 0).trans rfl; have hcz22_1 : w21.cell? ⟨gb273, 1, none⟩ = some (.int .i64 a0_1) := (blk_cell BK273.out 1).trans rfl; have hcz22_2 : w21.cell? ⟨gb273, 2, none⟩ = some (.int .i64 a0_2) := (blk_cell BK273.out 2).trans rfl; have hcz22_3 : w21.cell? ⟨gb273, 3, none⟩ = some (.int .i64 a0_3) := (blk_cell BK273.out 3).trans rfl; have hcz22_4 : w21.cell? ⟨gb273, 4, none⟩ = some (.int .i64 a0_4) := (blk_cell BK273.out 4).trans rfl; have hcz22_5 : w21.cell? ⟨gb273, 5, none⟩ = some (.int .i64 a0_5) := (blk_cell BK273.out 5).trans rfl; have hcz22_6 : w21.cell? ⟨gb273, 6, none⟩ = some (.int .i64 a0_6) := (blk_cell BK273.out 6).trans rfl; have hfz22_0 := blk_frozen BK273.out 0; have hfz22_1 := blk_frozen BK273.out 1; have hfz22_2 := blk_frozen BK273.out 2; have hfz22_3 := blk_frozen BK273.out 3; have hfz22_4 := blk_frozen BK273.out 4; have hfz22_5 := blk_frozen BK273.out 5; have hfz22_6 := blk_frozen BK273.out 6) | ((with_reducible refine gate_callee (f := 79) rfl ?_); refine goesL_ (some 13) rfl rfl Tryd.func79 (by kernel_rfl) rfl #[.int .i64 a0_2, .int .i64 1] rfl (by (try simp only [List.map_toArray, List.map_cons, List.map_nil]); first | done | rfl | (simp only [List.length_drop, List.length_take]; rfl)) ?_; (with_reducible refine (postbagref2_text.calls k a0_2 1 t275 _ A4.out).mono ?_); rintro e w23 ⟨rfl, hb⟩; refine ⟨_, rfl, ?_⟩; have n0_ := Aside0.mk (blk_below (g := gb273) (o := .cells #[.int .i64 a0_0, .int .i64 a0_1, .int .i64 a0_2, .int .i64 a0_3, .int .i64 a0_4, .int .i64 a0_5, .int .i64 a0_6] 23 (0, 0)) (by (with_reducible repeat (first | refine blk_drewN ?_ _ | refine blk_drew ?_ | refine blk_alloc ?_ _)); exact BK273.out) hb); have n1_ := Aside0.mk (below_step (by repeat (first | (with_reducible first | exact HB.out | apply below_alloc | apply pw_below_drewN | apply below_drew1 | refine below_set ?_ GE273.out) | exact HB.out)) hb); clear BK273; clear HB; have BK273 := n0_; have HB := n1_; clear n0_ n1_; (try clear hb); (try clear hb2); (try clear hk); (try clear hi); have hcz24_0 : w23.cell? ⟨gb273, 0, none⟩ = some (.int .i64 a0_0) := (blk_cell BK273.out 0).trans rfl; have hcz24_1 : w23.cell? ⟨gb273, 1, none⟩ = some (.int .i64 a0_1) := (blk_cell BK273.out 1).trans rfl; have hcz24_2 : w23.cell? ⟨gb273, 2, none⟩ = some (.int .i64 a0_2) := (blk_cell BK273.out 2).trans rfl; have hcz24_3 : w23.cell? ⟨gb273, 3, none⟩ = some (.int .i64 a0_3) := (blk_cell BK273.out 3).trans rfl; have hcz24_4 : w23.cell? ⟨gb273, 4, none⟩ = some (.int .i64 a0_4) := (blk_cell BK273.out 4).trans rfl; have hcz24_5 : w23.cell? ⟨gb273, 5, none⟩ = some (.int .i64 a0_5) := (blk_cell BK273.out 5).trans rfl; have hcz24_6 : w23.cell? ⟨gb273, 6, none⟩ = some (.int .i64 a0_6) := (blk_cell BK273.out 6).trans rfl; have hfz24_0 := blk_frozen BK273.out 0; have hfz24_1 := blk_frozen BK273.out 1; have hfz24_2 := blk_frozen BK273.out 2; have hfz24_3 := blk_frozen BK273.out 3; have hfz24_4 := blk_frozen BK273.out 4; have hfz24_5 := blk_frozen BK273.out 5; have hfz24_6 := blk_frozen BK273.out 6))
             have n0_ := Aside0.mk (blk_drew BK273.out)
             have n1_ := Aside0.mk (below_drew1 HB.out)
             clear BK273
             clear HB
             have BK273 := n0_
             have HB := n1_
             clear n0_ n1_
             refine start_ (n := 22) (S := fun w' => w'.cell? ⟨gb273, 0, none⟩ = some (.int .i64 a0_0) ∧ w'.cell? ⟨gb273, 1, none⟩ = some (.int .i64 a0_1) ∧ w'.cell? ⟨gb273, 2, none⟩ = some (.int .i64 a0_2) ∧ w'.cell? ⟨gb273, 3, none⟩ = some (.int .i64 a0_3) ∧ w'.cell? ⟨gb273, 4, none⟩ = some (.int .i64 a0_4) ∧ w'.cell? ⟨gb273, 5, none⟩ = some (.int .i64 a0_5) ∧ w'.cell? ⟨gb273, 6, none⟩ = some (.int .i64 a0_6)) (ds := []) (bs_ 0 22) (by kernel_rfl) rfl rfl ⟨(blk_cell BK273.out 0).trans rfl, (blk_cell BK273.out 1).trans rfl, (blk_cell BK273.out 2).trans rfl, (blk_cell BK273.out 3).trans rfl, (blk_cell BK273.out 4).trans rfl, (blk_cell BK273.out 5).trans rfl, (blk_cell BK273.out 6).trans rfl⟩ (fun hHeld => ?_); refine with_tabW postbagref2_PrintInternal.tab7 postbagref2_PrintInternal.bits7 (fun HT_ HW_ => ?_)
             generalize w23.drew = w25 at BK273 HB hHeld ⊢
             refine pu_ 0 (some 19) ?_ (bs_ 1 21) rfl rfl (any_of HT_.out (by kernel_rfl)) (fun _ _ _ h => h) (y_ (by rfl) ?_) ?_ ?_ ?_
             rotate_left
             ·intro w'
              go_simp
              with_reducible rfl
             rotate_left
             ·simp only [Act.put, s1_, s2_, s3_, i64_w, i32_w]
              rfl
             refine pu_ 1 (some 20) ?_ (bs_ 2 20) rfl rfl (any_of HT_.out (by kernel_rfl)) (fun _ _ _ h => h) (y_ (by rfl) ?_) ?_ ?_ ?_
             rotate_left
             ·intro w'
              go_simp
              with_reducible rfl
             rotate_left
             ·simp only [Act.put, s1_, s2_, s3_, i64_w, i32_w]
              rfl
             refine pu_ 2 (some 21) ?_ (bs_ 3 19) rfl rfl (any_of HT_.out (by kernel_rfl)) (fun _ _ _ h => h) (y_ (by rfl) ?_) ?_ ?_ ?_
             rotate_left
             ·intro w'
              go_simp
              with_reducible rfl
             rotate_left
             ·simp only [Act.put, s1_, s2_, s3_, i64_w, i32_w]
              rfl
             refine pu_ 6 (some 25) ?_ #[true, true, true, false, false, false, true, false, false, false, false, false, false, false, false, false, false, false, false, false, false, false] rfl rfl (any_of HT_.out (by kernel_rfl)) (fun _ _ _ h => h) (y_ (by rfl) ?_) ?_ ?_ ?_
             rotate_left
             ·intro w'
              go_simp
              with_reducible rfl
             rotate_left
             ·simp only [Act.put, s1_, s2_, s3_, i64_w, i32_w]
              rfl
             refine pu_ 12 (some 31) ?_ #[true, true, true, false, false, false, true, false, false, false, false, false, true, false, false, false, false, false, false, false, false, false] rfl rfl (any_of HT_.out (by kernel_rfl)) (fun _ _ _ h => h) (y_ (by rfl) ?_) ?_ ?_ ?_
             rotate_left
             ·intro w'
              go_simp
              with_reducible rfl
             rotate_left
             ·simp only [Act.put, s1_, s2_, s3_, i64_w, i32_w]
              rfl
             refine take_ (i := 3) (N := some 22) (v := ?_) (a' := ?_) #[true, true, true, true, false, false, true, false, false, false, false, false, true, false, false, false, false, false, false, false, false, false] rfl rfl (take_ofW HT_.out HW_.out (by kernel_rfl)) (fun _ _ _ h => h) (Or.inl ⟨by rfl, ?_⟩) hHeld ?_ ?_
             rotate_left
             ·rintro w' ⟨s0, s1, s2, s3, s4, s5, s6⟩
              go_simp
              with_reducible rfl
             rotate_left
             ·simp only [Act.put, s1_, s2_, s3_, i64_w, i32_w]
              rfl
             refine pu_ 4 (some 23) ?_ #[true, true, true, true, true, false, true, false, false, false, false, false, true, false, false, false, false, false, false, false, false, false] rfl rfl (any_of HT_.out (by kernel_rfl)) (fun _ _ _ h => h) (y_ (by rfl) ?_) ?_ ?_ ?_
             rotate_left
             ·intro w'
              go_simp
              with_reducible rfl
             rotate_left
             ·simp only [Act.put, s1_, s2_, s3_, i64_w, i32_w]
              rfl
             refine pu_ 5 (some 24) ?_ #[true, true, true, true, true, true, true, false, false, false, false, false, true, false, false, false, false, false, false, false, false, false] rfl rfl (any_of HT_.out (by kernel_rfl)) (fun _ _ _ h => h) (y_ (by rfl) ?_) ?_ ?_ ?_
             rotate_left
             ·intro w'
              go_simp
              with_reducible rfl
             rotate_left
             ·simp only [Act.put, s1_, s2_, s3_, i64_w, i32_w]
              rfl
             refine take_ (i := 7) (N := some 26) (v := ?_) (a' := ?_) #[true, true, true, true, true, true, true, true, false, false, false, false, true, false, false, false, false, false, false, false, false, false] rfl rfl (take_ofW HT_.out HW_.out (by kernel_rfl)) (fun _ _ _ h => h) (Or.inl ⟨by rfl, ?_⟩) hHeld ?_ ?_
             rotate_left
             ·rintro w' ⟨s0, s1, s2, s3, s4, s5, s6⟩
              go_simp
              with_reducible rfl
             rotate_left
             ·simp only [Act.put, s1_, s2_, s3_, i64_w, i32_w]
              rfl
             refine pu_ 8 (some 27) ?_ #[true, true, true, true, true, true, true, true, true, false, false, false, true, false, false, false, false, false, false, false, false, false] rfl rfl (any_of HT_.out (by kernel_rfl)) (fun _ _ _ h => h) (y_ (by rfl) ?_) ?_ ?_ ?_
             rotate_left
             ·intro w'
              go_simp
              with_reducible rfl
             rotate_left
             ·simp only [Act.put, s1_, s2_, s3_, i64_w, i32_w]
              rfl
             refine pu_ 9 (some 28) ?_ #[true, true, true, true, true, true, true, true, true, true, false, false, true, false, false, false, false, false, false, false, false, false] rfl rfl (any_of HT_.out (by kernel_rfl)) (fun _ _ _ h => h) (y_ (by rfl) ?_) ?_ ?_ ?_
             rotate_left
             ·intro w'
              go_simp
              with_reducible rfl
             rotate_left
             ·simp only [Act.put, s1_, s2_, s3_, i64_w, i32_w]
              rfl
             refine pu_ 10 (some 29) ?_ #[true, true, true, true, true, true, true, true, true, true, true, false, true, false, false, false, false, false, false, false, false, false] rfl rfl (any_of HT_.out (by kernel_rfl)) (fun _ _ _ h => h) (y_ (by rfl) ?_) ?_ ?_ ?_
             rotate_left
             ·intro w'
              go_simp
              with_reducible rfl
             rotate_left
             ·simp only [Act.put, s1_, s2_, s3_, i64_w, i32_w]
              rfl
             refine pu_ 11 (some 30) ?_ (bs_ 13 9) rfl rfl (any_of HT_.out (by kernel_rfl)) (fun _ _ _ h => h) (y_ (by rfl) ?_) ?_ ?_ ?_
             rotate_left
             ·intro w'
              go_simp
              with_reducible rfl
             rotate_left
             ·simp only [Act.put, s1_, s2_, s3_, i64_w, i32_w]
              rfl
             refine take_ (i := 13) (N := some 32) (v := ?_) (a' := ?_) (bs_ 14 8) rfl rfl (take_ofW HT_.out HW_.out (by kernel_rfl)) (fun _ _ _ h => h) (Or.inl ⟨by rfl, ?_⟩) hHeld ?_ ?_
             rotate_left
             ·rintro w' ⟨s0, s1, s2, s3, s4, s5, s6⟩
              go_simp
              with_reducible rfl
             rotate_left
             ·simp only [Act.put, s1_, s2_, s3_, i64_w, i32_w]
              rfl
             refine take_ (i := 17) (N := some 36) (v := ?_) (a' := ?_) #[true, true, true, true, true, true, true, true, true, true, true, true, true, true, false, false, false, true, false, false, false, false] rfl rfl (take_ofW HT_.out HW_.out (by kernel_rfl)) (fun _ _ _ h => h) (Or.inl ⟨by rfl, ?_⟩) hHeld ?_ ?_
             rotate_left
             ·rintro w' ⟨s0, s1, s2, s3, s4, s5, s6⟩
              go_simp
              with_reducible rfl
             rotate_left
             ·simp only [Act.put, s1_, s2_, s3_, i64_w, i32_w]
              rfl
             refine one_ (i := 14) (N := some 33) #[true, true, true, true, true, true, true, true, true, true, true, true, true, true, true, false, false, true, false, false, false, false] rfl rfl (one_of HT_.out (by kernel_rfl)) (by decide) (fun K hK => ?_)
             refine goes_ Tryd.func79 (by kernel_rfl) rfl #[.int .i64 a0_0, .int .i64 4] (by rfl) rfl rfl (by (try simp only [List.map_toArray, List.map_cons, List.map_nil]); first | done | rfl | (simp only [List.length_drop, List.length_take]; rfl)) ?_
             with_reducible refine (postbagref2_text.calls k a0_0 4 t276 _ A14.out).mono ?_
             rintro e w26 ⟨rfl, hb⟩
             refine ⟨_, rfl, ?_⟩
             have n0_ := Aside0.mk (blk_below (g := gb273) (o := .cells #[.int .i64 a0_0, .int .i64 a0_1, .int .i64 a0_2, .int .i64 a0_3, .int .i64 a0_4, .int .i64 a0_5, .int .i64 a0_6] 23 (0, 0)) (by (with_reducible repeat (first | refine blk_drewN ?_ _ | refine blk_drew ?_ | refine blk_alloc ?_ _)); exact BK273.out) hb)
             have n1_ := Aside0.mk (below_step (by repeat (first | (with_reducible first | exact HB.out | apply below_alloc | apply pw_below_drewN | apply below_drew1 | refine below_set ?_ GE273.out) | exact HB.out)) hb)
             clear BK273
             clear HB
             have BK273 := n0_
             have HB := n1_
             clear n0_ n1_
             (try clear hb)
             (try clear hb2)
             (try clear hk)
             (try clear hi)
             refine hK.out _ _ ⟨(blk_cell BK273.out 0).trans rfl, (blk_cell BK273.out 1).trans rfl, (blk_cell BK273.out 2).trans rfl, (blk_cell BK273.out 3).trans rfl, (blk_cell BK273.out 4).trans rfl, (blk_cell BK273.out 5).trans rfl, (blk_cell BK273.out 6).trans rfl⟩ (fun hHeld => ?_)
             clear hK K
             refine norm_ (a' := ?_) ?_ ?_
             rotate_left
             ·show Act.put _ (some 33) _ = _
              simp only [Act.put, s1_, s2_, s3_, i64_w, i32_w]
              rfl
             refine pu_ 15 (some 34) ?_ #[true, true, true, true, true, true, true, true, true, true, true, true, true, true, true, true, false, true, false, false, false, false] rfl rfl (any_of HT_.out (by kernel_rfl)) (fun _ _ _ h => h) (y_ (by rfl) ?_) ?_ ?_ ?_
             rotate_left
             ·intro w'
              go_simp
              with_reducible rfl
             rotate_left
             ·simp only [Act.put, s1_, s2_, s3_, i64_w, i32_w]
              rfl
             refine pu_ 16 (some 35) ?_ (bs_ 18 4) rfl rfl (any_of HT_.out (by kernel_rfl)) (fun _ _ _ h => h) (y_ (by rfl) ?_) ?_ ?_ ?_
             rotate_left
             ·intro w'
              go_simp
              with_reducible rfl
             rotate_left
             ·simp only [Act.put, s1_, s2_, s3_, i64_w, i32_w]
              rfl
             refine one_ (i := 18) (N := some 37) (bs_ 19 3) rfl rfl (one_of HT_.out (by kernel_rfl)) (by decide) (fun K hK => ?_)
             refine goes_ Tryd.func80 (by kernel_rfl) rfl #[.agg #[.int .i64 a0_0, .int .i64 a0_1, .int .i64 a0_2, .int .i64 a0_3, .int .i64 a0_4, .int .i64 a0_5, .int .i64 a0_6]] (by rfl) rfl rfl (by (try simp only [List.map_toArray, List.map_cons, List.map_nil]); first | done | rfl | (simp only [List.length_drop, List.length_take]; rfl)) ?_
             with_reducible refine (postbagref2_clock.calls k a0_0 a0_1 a0_2 a0_3 a0_4 a0_5 a0_6 t277 _ A17.out).mono ?_
             rintro e w27 ⟨rfl, hb⟩
             refine ⟨_, rfl, ?_⟩
             have n0_ := Aside0.mk (blk_below (g := gb273) (o := .cells #[.int .i64 a0_0, .int .i64 a0_1, .int .i64 a0_2, .int .i64 a0_3, .int .i64 a0_4, .int .i64 a0_5, .int .i64 a0_6] 23 (0, 0)) (by (with_reducible repeat (first | refine blk_drewN ?_ _ | refine blk_drew ?_ | refine blk_alloc ?_ _)); exact BK273.out) hb)
             have n1_ := Aside0.mk (below_step (by repeat (first | (with_reducible first | exact HB.out | apply below_alloc | apply pw_below_drewN | apply below_drew1 | refine below_set ?_ GE273.out) | exact HB.out)) hb)
             clear BK273
             clear HB
             have BK273 := n0_
             have HB := n1_
             clear n0_ n1_
             (try clear hb)
             (try clear hb2)
             (try clear hk)
             (try clear hi)
             refine hK.out _ _ ⟨(blk_cell BK273.out 0).trans rfl, (blk_cell BK273.out 1).trans rfl, (blk_cell BK273.out 2).trans rfl, (blk_cell BK273.out 3).trans rfl, (blk_cell BK273.out 4).trans rfl, (blk_cell BK273.out 5).trans rfl, (blk_cell BK273.out 6).trans rfl⟩ (fun hHeld => ?_)
             clear hK K
             refine norm_ (a' := ?_) ?_ ?_
             rotate_left
             ·show Act.put _ (some 37) _ = _
              simp only [Act.put, s1_, s2_, s3_, i64_w, i32_w]
              rfl
             refine pu_ 19 (some 38) ?_ (bs_ 20 2) rfl rfl (any_of HT_.out (by kernel_rfl)) (fun _ _ _ h => h) (y_ (by rfl) ?_) ?_ ?_ ?_
             rotate_left
             ·intro w'
              go_simp
              with_reducible rfl
             rotate_left
             ·simp only [Act.put, s1_, s2_, s3_, i64_w, i32_w]
              rfl
             refine pu_ 20 (some 2) ?_ (bs_ 21 1) rfl rfl (any_of HT_.out (by kernel_rfl)) (fun _ _ _ h => h) (y_ (by rfl) ?_) ?_ ?_ ?_
             rotate_left
             ·intro w'
              go_simp
              with_reducible rfl
             rotate_left
             ·simp only [Act.put, s1_, s2_, s3_, i64_w, i32_w]
              rfl
             refine pu_ 21 (some 3) ?_ (bs_ 22 0) rfl rfl (any_of HT_.out (by kernel_rfl)) (fun _ _ _ h => h) (y_ (by rfl) ?_) ?_ ?_ ?_
             rotate_left
             ·intro w'
              go_simp
              with_reducible rfl
             rotate_left
             ·simp only [Act.put, s1_, s2_, s3_, i64_w, i32_w]
              rfl
             refine done_ (done_of HT_.out (by kernel_rfl)) ?_
             try go_wp2
             go_ret2
             exact ⟨by first | rfl | (simp [errW_none, errW_some] <;> rfl) | (simp only [← hji8]; first | rfl | (simp [errW_none, errW_some] <;> rfl)) | (simp [*, errW_none, errW_some] <;> rfl), by repeat (first | (with_reducible first | exact HB.out | apply below_alloc | apply pw_below_drewN | apply below_drew1 | refine below_set ?_ GE273.out) | exact HB.out)⟩
            ·rw [if_neg c18] at H
             exact absurd H (by simp)
           ·rw [if_neg c16] at H
            exact absurd H (by simp)
          ·rw [if_neg c15] at H
           exact absurd H (by simp)
         ·rw [if_neg c13] at H
          exact absurd H (by simp)
        ·rw [if_neg c12] at H
         exact absurd H (by simp)
       ·rw [if_neg c11] at H
        exact absurd H (by simp)
      ·rw [if_neg c10] at H
       exact absurd H (by simp)
     ·rw [if_neg c9] at H
      exact absurd H (by simp)
    ·rw [if_neg c7] at H
     exact absurd H (by simp)
   ·rw [if_neg c6] at H
    exact absurd H (by simp)
  ·rw [if_neg c5] at H
   have c5b0 : decide (a0_2 < 10) = false := decide_eq_false c5
   clear c5
   by_cases c28 : t275.size + 1 ≤ 9223372036854775807
   ·rw [if_pos c28] at H
    have c28b0 := eq_true c28
    have c28b1 : decide (t275.size + 1 ≤ 9223372036854775807) = true := decide_eq_true c28
    try have c28b2 : (9223372036854775807 < t275.size + 1) = False := eq_false (Nat.not_lt.2 c28)
    obtain ⟨ji29, hji29⟩ : ∃ j_ : Int, (wrap64 ((wrap64 (3 * a0_1)) - 3)) = j_ := ⟨_, rfl⟩
    replace H : (if 0 ≤ (ji29) then (if (ji29) ≤ (wrap64 (3 * a0_1)) then (if (wrap64 (3 * a0_1)) ≤ 36 then (if (t275 ++ (⟨#[45]⟩ : ByteArray)).size + ((⟨#[74, 97, 110, 70, 101, 98, 77, 97, 114, 65, 112, 114, 77, 97, 121, 74, 117, 110, 74, 117, 108, 65, 117, 103, 83, 101, 112, 79, 99, 116, 78, 111, 118, 68, 101, 99]⟩ : ByteArray).extract ((ji29) : Int).toNat ((wrap64 (3 * a0_1)) : Int).toNat).size ≤ 9223372036854775807 then (if ((t275 ++ (⟨#[45]⟩ : ByteArray)) ++ ((⟨#[74, 97, 110, 70, 101, 98, 77, 97, 114, 65, 112, 114, 77, 97, 121, 74, 117, 110, 74, 117, 108, 65, 117, 103, 83, 101, 112, 79, 99, 116, 78, 111, 118, 68, 101, 99]⟩ : ByteArray).extract ((ji29) : Int).toNat ((wrap64 (3 * a0_1)) : Int).toNat)).size + 1 ≤ 9223372036854775807 then ((postbagref2_text.f k a0_0 4).bind fun t278 => (if (((t275 ++ (⟨#[45]⟩ : ByteArray)) ++ ((⟨#[74, 97, 110, 70, 101, 98, 77, 97, 114, 65, 112, 114, 77, 97, 121, 74, 117, 110, 74, 117, 108, 65, 117, 103, 83, 101, 112, 79, 99, 116, 78, 111, 118, 68, 101, 99]⟩ : ByteArray).extract ((ji29) : Int).toNat ((wrap64 (3 * a0_1)) : Int).toNat)) ++ (⟨#[45]⟩ : ByteArray)).size + t278.size ≤ 9223372036854775807 then (if ((((t275 ++ (⟨#[45]⟩ : ByteArray)) ++ ((⟨#[74, 97, 110, 70, 101, 98, 77, 97, 114, 65, 112, 114, 77, 97, 121, 74, 117, 110, 74, 117, 108, 65, 117, 103, 83, 101, 112, 79, 99, 116, 78, 111, 118, 68, 101, 99]⟩ : ByteArray).extract ((ji29) : Int).toNat ((wrap64 (3 * a0_1)) : Int).toNat)) ++ (⟨#[45]⟩ : ByteArray)) ++ t278).size + 1 ≤ 9223372036854775807 then ((postbagref2_clock.f k a0_0 a0_1 a0_2 a0_3 a0_4 a0_5 a0_6).bind fun t279 => (if (((((t275 ++ (⟨#[45]⟩ : ByteArray)) ++ ((⟨#[74, 97, 110, 70, 101, 98, 77, 97, 114, 65, 112, 114, 77, 97, 121, 74, 117, 110, 74, 117, 108, 65, 117, 103, 83, 101, 112, 79, 99, 116, 78, 111, 118, 68, 101, 99]⟩ : ByteArray).extract ((ji29) : Int).toNat ((wrap64 (3 * a0_1)) : Int).toNat)) ++ (⟨#[45]⟩ : ByteArray)) ++ t278) ++ (⟨#[32]⟩ : ByteArray)).size + t279.size ≤ 9223372036854775807 then (some ((((((t275 ++ (⟨#[45]⟩ : ByteArray)) ++ ((⟨#[74, 97, 110, 70, 101, 98, 77, 97, 114, 65, 112, 114, 77, 97, 121, 74, 117, 110, 74, 117, 108, 65, 117, 103, 83, 101, 112, 79, 99, 116, 78, 111, 118, 68, 101, 99]⟩ : ByteArray).extract ((ji29) : Int).toNat ((wrap64 (3 * a0_1)) : Int).toNat)) ++ (⟨#[45]⟩ : ByteArray)) ++ t278) ++ (⟨#[32]⟩ : ByteArray)) ++ t279, 0)) else (none))) else (none)) else (none))) else (none)) else (none)) else (none)) else (none)) else (none)) = some (r1, r2) := by first | (rw [hji29] at H; exact H) | (simp only [hji29] at H ⊢; exact H)
    (try rw [hji29] at A2)
    (try rw [hji29] at A4)
    have hji29w : (IntKind.i64.wrap ((wrap64 (3 * a0_1)) - 3)) = ji29 := (i64_w _).trans hji29
    by_cases c30 : 0 ≤ (ji29)
    ·rw [if_pos c30] at H
     have c30b0 := eq_true c30
     have c30b1 : decide (0 ≤ (ji29)) = true := decide_eq_true c30
     clear c30
     by_cases c31 : (ji29) ≤ (wrap64 (3 * a0_1))
     ·rw [if_pos c31] at H
      have c31b0 := eq_true c31
      have c31b1 : decide ((ji29) ≤ (wrap64 (3 * a0_1))) = true := decide_eq_true c31
      clear c31
      by_cases c32 : (wrap64 (3 * a0_1)) ≤ 36
      ·rw [if_pos c32] at H
       have c32b0 := eq_true c32
       have c32b1 : decide ((wrap64 (3 * a0_1)) ≤ 36) = true := decide_eq_true c32
       clear c32
       by_cases c33 : (t275 ++ (⟨#[45]⟩ : ByteArray)).size + ((⟨#[74, 97, 110, 70, 101, 98, 77, 97, 114, 65, 112, 114, 77, 97, 121, 74, 117, 110, 74, 117, 108, 65, 117, 103, 83, 101, 112, 79, 99, 116, 78, 111, 118, 68, 101, 99]⟩ : ByteArray).extract ((ji29) : Int).toNat ((wrap64 (3 * a0_1)) : Int).toNat).size ≤ 9223372036854775807
       ·rw [if_pos c33] at H
        have c33b0 := eq_true c33
        have c33b1 : decide ((t275 ++ (⟨#[45]⟩ : ByteArray)).size + ((⟨#[74, 97, 110, 70, 101, 98, 77, 97, 114, 65, 112, 114, 77, 97, 121, 74, 117, 110, 74, 117, 108, 65, 117, 103, 83, 101, 112, 79, 99, 116, 78, 111, 118, 68, 101, 99]⟩ : ByteArray).extract ((ji29) : Int).toNat ((wrap64 (3 * a0_1)) : Int).toNat).size ≤ 9223372036854775807) = true := decide_eq_true c33
        try have c33b2 : (9223372036854775807 < (t275 ++ (⟨#[45]⟩ : ByteArray)).size + ((⟨#[74, 97, 110, 70, 101, 98, 77, 97, 114, 65, 112, 114, 77, 97, 121, 74, 117, 110, 74, 117, 108, 65, 117, 103, 83, 101, 112, 79, 99, 116, 78, 111, 118, 68, 101, 99]⟩ : ByteArray).extract ((ji29) : Int).toNat ((wrap64 (3 * a0_1)) : Int).toNat).size) = False := eq_false (Nat.not_lt.2 c33)
        try have c33b7 : (9223372036854775807 < t275.size + 1 + ((wrap64 (3 * a0_1)).toNat - (ji29).toNat)) = False := eq_false (by have h_ := c33; have e0_ : (⟨#[45]⟩ : ByteArray).size = 1 := rfl; (try dsimp only at e0_); have e1_ : (⟨#[74, 97, 110, 70, 101, 98, 77, 97, 114, 65, 112, 114, 77, 97, 121, 74, 117, 110, 74, 117, 108, 65, 117, 103, 83, 101, 112, 79, 99, 116, 78, 111, 118, 68, 101, 99]⟩ : ByteArray).size = 36 := rfl; (try dsimp only at e1_); (try have qc7_ := of_decide_eq_true c7b1); (try have qc9_ := of_decide_eq_true c9b1); (try have qc10_ := of_decide_eq_true c10b1); (try have qc11_ := of_decide_eq_true c11b1); (try have qc12_ := of_decide_eq_true c12b1); (try have qc13_ := of_decide_eq_true c13b1); (try have qc15_ := of_decide_eq_true c15b1); (try have qc16_ := of_decide_eq_true c16b1); (try have qc18_ := of_decide_eq_true c18b1); (try have qc28_ := of_decide_eq_true c28b1); (try have qc30_ := of_decide_eq_true c30b1); (try have qc31_ := of_decide_eq_true c31b1); (try have qc32_ := of_decide_eq_true c32b1); (try have qc33_ := of_decide_eq_true c33b1); simp only [ByteArray.size_append, ByteArray.size_extract] at h_; first | exact Nat.not_lt.2 h_ | omega | (simp at h_ ⊢; omega))
        try have c33b3 : (9223372036854775807 < t275.size + (⟨#[45]⟩ : ByteArray).size + ((⟨#[74, 97, 110, 70, 101, 98, 77, 97, 114, 65, 112, 114, 77, 97, 121, 74, 117, 110, 74, 117, 108, 65, 117, 103, 83, 101, 112, 79, 99, 116, 78, 111, 118, 68, 101, 99]⟩ : ByteArray).extract ((ji29) : Int).toNat ((wrap64 (3 * a0_1)) : Int).toNat).size) = False := eq_false (by have h_ := c33; simp only [ByteArray.size_append] at h_; omega)
        by_cases c34 : ((t275 ++ (⟨#[45]⟩ : ByteArray)) ++ ((⟨#[74, 97, 110, 70, 101, 98, 77, 97, 114, 65, 112, 114, 77, 97, 121, 74, 117, 110, 74, 117, 108, 65, 117, 103, 83, 101, 112, 79, 99, 116, 78, 111, 118, 68, 101, 99]⟩ : ByteArray).extract ((ji29) : Int).toNat ((wrap64 (3 * a0_1)) : Int).toNat)).size + 1 ≤ 9223372036854775807
        ·rw [if_pos c34] at H
         have c34b0 := eq_true c34
         have c34b1 : decide (((t275 ++ (⟨#[45]⟩ : ByteArray)) ++ ((⟨#[74, 97, 110, 70, 101, 98, 77, 97, 114, 65, 112, 114, 77, 97, 121, 74, 117, 110, 74, 117, 108, 65, 117, 103, 83, 101, 112, 79, 99, 116, 78, 111, 118, 68, 101, 99]⟩ : ByteArray).extract ((ji29) : Int).toNat ((wrap64 (3 * a0_1)) : Int).toNat)).size + 1 ≤ 9223372036854775807) = true := decide_eq_true c34
         try have c34b2 : (9223372036854775807 < ((t275 ++ (⟨#[45]⟩ : ByteArray)) ++ ((⟨#[74, 97, 110, 70, 101, 98, 77, 97, 114, 65, 112, 114, 77, 97, 121, 74, 117, 110, 74, 117, 108, 65, 117, 103, 83, 101, 112, 79, 99, 116, 78, 111, 118, 68, 101, 99]⟩ : ByteArray).extract ((ji29) : Int).toNat ((wrap64 (3 * a0_1)) : Int).toNat)).size + 1) = False := eq_false (Nat.not_lt.2 c34)
         try have c34b7 : (9223372036854775807 < t275.size + 1 + ((wrap64 (3 * a0_1)).toNat - (ji29).toNat) + 1) = False := eq_false (by have h_ := c34; have e0_ : (⟨#[45]⟩ : ByteArray).size = 1 := rfl; (try dsimp only at e0_); have e1_ : (⟨#[74, 97, 110, 70, 101, 98, 77, 97, 114, 65, 112, 114, 77, 97, 121, 74, 117, 110, 74, 117, 108, 65, 117, 103, 83, 101, 112, 79, 99, 116, 78, 111, 118, 68, 101, 99]⟩ : ByteArray).size = 36 := rfl; (try dsimp only at e1_); (try have qc9_ := of_decide_eq_true c9b1); (try have qc10_ := of_decide_eq_true c10b1); (try have qc11_ := of_decide_eq_true c11b1); (try have qc12_ := of_decide_eq_true c12b1); (try have qc13_ := of_decide_eq_true c13b1); (try have qc15_ := of_decide_eq_true c15b1); (try have qc16_ := of_decide_eq_true c16b1); (try have qc18_ := of_decide_eq_true c18b1); (try have qc28_ := of_decide_eq_true c28b1); (try have qc30_ := of_decide_eq_true c30b1); (try have qc31_ := of_decide_eq_true c31b1); (try have qc32_ := of_decide_eq_true c32b1); (try have qc33_ := of_decide_eq_true c33b1); (try have qc34_ := of_decide_eq_true c34b1); simp only [ByteArray.size_append, ByteArray.size_extract] at h_; first | exact Nat.not_lt.2 h_ | omega | (simp at h_ ⊢; omega))
         try have c34b3 : (9223372036854775807 < t275.size + (⟨#[45]⟩ : ByteArray).size + ((⟨#[74, 97, 110, 70, 101, 98, 77, 97, 114, 65, 112, 114, 77, 97, 121, 74, 117, 110, 74, 117, 108, 65, 117, 103, 83, 101, 112, 79, 99, 116, 78, 111, 118, 68, 101, 99]⟩ : ByteArray).extract ((ji29) : Int).toNat ((wrap64 (3 * a0_1)) : Int).toNat).size + 1) = False := eq_false (by have h_ := c34; simp only [ByteArray.size_append] at h_; omega)
         replace H := Option.bind_eq_some_iff.mp H
         obtain ⟨t278, A350, H⟩ := H
         replace H : (if (((t275 ++ (⟨#[45]⟩ : ByteArray)) ++ ((⟨#[74, 97, 110, 70, 101, 98, 77, 97, 114, 65, 112, 114, 77, 97, 121, 74, 117, 110, 74, 117, 108, 65, 117, 103, 83, 101, 112, 79, 99, 116, 78, 111, 118, 68, 101, 99]⟩ : ByteArray).extract ((ji29) : Int).toNat ((wrap64 (3 * a0_1)) : Int).toNat)) ++ (⟨#[45]⟩ : ByteArray)).size + t278.size ≤ 9223372036854775807 then (if ((((t275 ++ (⟨#[45]⟩ : ByteArray)) ++ ((⟨#[74, 97, 110, 70, 101, 98, 77, 97, 114, 65, 112, 114, 77, 97, 121, 74, 117, 110, 74, 117, 108, 65, 117, 103, 83, 101, 112, 79, 99, 116, 78, 111, 118, 68, 101, 99]⟩ : ByteArray).extract ((ji29) : Int).toNat ((wrap64 (3 * a0_1)) : Int).toNat)) ++ (⟨#[45]⟩ : ByteArray)) ++ t278).size + 1 ≤ 9223372036854775807 then ((postbagref2_clock.f k a0_0 a0_1 a0_2 a0_3 a0_4 a0_5 a0_6).bind fun t279 => (if (((((t275 ++ (⟨#[45]⟩ : ByteArray)) ++ ((⟨#[74, 97, 110, 70, 101, 98, 77, 97, 114, 65, 112, 114, 77, 97, 121, 74, 117, 110, 74, 117, 108, 65, 117, 103, 83, 101, 112, 79, 99, 116, 78, 111, 118, 68, 101, 99]⟩ : ByteArray).extract ((ji29) : Int).toNat ((wrap64 (3 * a0_1)) : Int).toNat)) ++ (⟨#[45]⟩ : ByteArray)) ++ t278) ++ (⟨#[32]⟩ : ByteArray)).size + t279.size ≤ 9223372036854775807 then (some ((((((t275 ++ (⟨#[45]⟩ : ByteArray)) ++ ((⟨#[74, 97, 110, 70, 101, 98, 77, 97, 114, 65, 112, 114, 77, 97, 121, 74, 117, 110, 74, 117, 108, 65, 117, 103, 83, 101, 112, 79, 99, 116, 78, 111, 118, 68, 101, 99]⟩ : ByteArray).extract ((ji29) : Int).toNat ((wrap64 (3 * a0_1)) : Int).toNat)) ++ (⟨#[45]⟩ : ByteArray)) ++ t278) ++ (⟨#[32]⟩ : ByteArray)) ++ t279, 0)) else (none))) else (none)) else (none)) = some (r1, r2) := H
         have A35 := Aside0.mk A350
         clear A350
         by_cases c36 : (((t275 ++ (⟨#[45]⟩ : ByteArray)) ++ ((⟨#[74, 97, 110, 70, 101, 98, 77, 97, 114, 65, 112, 114, 77, 97, 121, 74, 117, 110, 74, 117, 108, 65, 117, 103, 83, 101, 112, 79, 99, 116, 78, 111, 118, 68, 101, 99]⟩ : ByteArray).extract ((ji29) : Int).toNat ((wrap64 (3 * a0_1)) : Int).toNat)) ++ (⟨#[45]⟩ : ByteArray)).size + t278.size ≤ 9223372036854775807
         ·rw [if_pos c36] at H
          have c36b0 := eq_true c36
          have c36b1 : decide ((((t275 ++ (⟨#[45]⟩ : ByteArray)) ++ ((⟨#[74, 97, 110, 70, 101, 98, 77, 97, 114, 65, 112, 114, 77, 97, 121, 74, 117, 110, 74, 117, 108, 65, 117, 103, 83, 101, 112, 79, 99, 116, 78, 111, 118, 68, 101, 99]⟩ : ByteArray).extract ((ji29) : Int).toNat ((wrap64 (3 * a0_1)) : Int).toNat)) ++ (⟨#[45]⟩ : ByteArray)).size + t278.size ≤ 9223372036854775807) = true := decide_eq_true c36
          try have c36b2 : (9223372036854775807 < (((t275 ++ (⟨#[45]⟩ : ByteArray)) ++ ((⟨#[74, 97, 110, 70, 101, 98, 77, 97, 114, 65, 112, 114, 77, 97, 121, 74, 117, 110, 74, 117, 108, 65, 117, 103, 83, 101, 112, 79, 99, 116, 78, 111, 118, 68, 101, 99]⟩ : ByteArray).extract ((ji29) : Int).toNat ((wrap64 (3 * a0_1)) : Int).toNat)) ++ (⟨#[45]⟩ : ByteArray)).size + t278.size) = False := eq_false (Nat.not_lt.2 c36)
          try have c36b7 : (9223372036854775807 < t275.size + 1 + ((wrap64 (3 * a0_1)).toNat - (ji29).toNat) + 1 + t278.size) = False := eq_false (by have h_ := c36; have e0_ : (⟨#[45]⟩ : ByteArray).size = 1 := rfl; (try dsimp only at e0_); have e1_ : (⟨#[74, 97, 110, 70, 101, 98, 77, 97, 114, 65, 112, 114, 77, 97, 121, 74, 117, 110, 74, 117, 108, 65, 117, 103, 83, 101, 112, 79, 99, 116, 78, 111, 118, 68, 101, 99]⟩ : ByteArray).size = 36 := rfl; (try dsimp only at e1_); (try have qc10_ := of_decide_eq_true c10b1); (try have qc11_ := of_decide_eq_true c11b1); (try have qc12_ := of_decide_eq_true c12b1); (try have qc13_ := of_decide_eq_true c13b1); (try have qc15_ := of_decide_eq_true c15b1); (try have qc16_ := of_decide_eq_true c16b1); (try have qc18_ := of_decide_eq_true c18b1); (try have qc28_ := of_decide_eq_true c28b1); (try have qc30_ := of_decide_eq_true c30b1); (try have qc31_ := of_decide_eq_true c31b1); (try have qc32_ := of_decide_eq_true c32b1); (try have qc33_ := of_decide_eq_true c33b1); (try have qc34_ := of_decide_eq_true c34b1); (try have qc36_ := of_decide_eq_true c36b1); simp only [ByteArray.size_append, ByteArray.size_extract] at h_; first | exact Nat.not_lt.2 h_ | omega | (simp at h_ ⊢; omega))
          try have c36b3 : (9223372036854775807 < t275.size + (⟨#[45]⟩ : ByteArray).size + ((⟨#[74, 97, 110, 70, 101, 98, 77, 97, 114, 65, 112, 114, 77, 97, 121, 74, 117, 110, 74, 117, 108, 65, 117, 103, 83, 101, 112, 79, 99, 116, 78, 111, 118, 68, 101, 99]⟩ : ByteArray).extract ((ji29) : Int).toNat ((wrap64 (3 * a0_1)) : Int).toNat).size + (⟨#[45]⟩ : ByteArray).size + t278.size) = False := eq_false (by have h_ := c36; simp only [ByteArray.size_append] at h_; omega)
          by_cases c37 : ((((t275 ++ (⟨#[45]⟩ : ByteArray)) ++ ((⟨#[74, 97, 110, 70, 101, 98, 77, 97, 114, 65, 112, 114, 77, 97, 121, 74, 117, 110, 74, 117, 108, 65, 117, 103, 83, 101, 112, 79, 99, 116, 78, 111, 118, 68, 101, 99]⟩ : ByteArray).extract ((ji29) : Int).toNat ((wrap64 (3 * a0_1)) : Int).toNat)) ++ (⟨#[45]⟩ : ByteArray)) ++ t278).size + 1 ≤ 9223372036854775807
          ·rw [if_pos c37] at H
           have c37b0 := eq_true c37
           have c37b1 : decide (((((t275 ++ (⟨#[45]⟩ : ByteArray)) ++ ((⟨#[74, 97, 110, 70, 101, 98, 77, 97, 114, 65, 112, 114, 77, 97, 121, 74, 117, 110, 74, 117, 108, 65, 117, 103, 83, 101, 112, 79, 99, 116, 78, 111, 118, 68, 101, 99]⟩ : ByteArray).extract ((ji29) : Int).toNat ((wrap64 (3 * a0_1)) : Int).toNat)) ++ (⟨#[45]⟩ : ByteArray)) ++ t278).size + 1 ≤ 9223372036854775807) = true := decide_eq_true c37
           try have c37b2 : (9223372036854775807 < ((((t275 ++ (⟨#[45]⟩ : ByteArray)) ++ ((⟨#[74, 97, 110, 70, 101, 98, 77, 97, 114, 65, 112, 114, 77, 97, 121, 74, 117, 110, 74, 117, 108, 65, 117, 103, 83, 101, 112, 79, 99, 116, 78, 111, 118, 68, 101, 99]⟩ : ByteArray).extract ((ji29) : Int).toNat ((wrap64 (3 * a0_1)) : Int).toNat)) ++ (⟨#[45]⟩ : ByteArray)) ++ t278).size + 1) = False := eq_false (Nat.not_lt.2 c37)
           try have c37b7 : (9223372036854775807 < t275.size + 1 + ((wrap64 (3 * a0_1)).toNat - (ji29).toNat) + 1 + t278.size + 1) = False := eq_false (by have h_ := c37; have e0_ : (⟨#[45]⟩ : ByteArray).size = 1 := rfl; (try dsimp only at e0_); have e1_ : (⟨#[74, 97, 110, 70, 101, 98, 77, 97, 114, 65, 112, 114, 77, 97, 121, 74, 117, 110, 74, 117, 108, 65, 117, 103, 83, 101, 112, 79, 99, 116, 78, 111, 118, 68, 101, 99]⟩ : ByteArray).size = 36 := rfl; (try dsimp only at e1_); (try have qc11_ := of_decide_eq_true c11b1); (try have qc12_ := of_decide_eq_true c12b1); (try have qc13_ := of_decide_eq_true c13b1); (try have qc15_ := of_decide_eq_true c15b1); (try have qc16_ := of_decide_eq_true c16b1); (try have qc18_ := of_decide_eq_true c18b1); (try have qc28_ := of_decide_eq_true c28b1); (try have qc30_ := of_decide_eq_true c30b1); (try have qc31_ := of_decide_eq_true c31b1); (try have qc32_ := of_decide_eq_true c32b1); (try have qc33_ := of_decide_eq_true c33b1); (try have qc34_ := of_decide_eq_true c34b1); (try have qc36_ := of_decide_eq_true c36b1); (try have qc37_ := of_decide_eq_true c37b1); simp only [ByteArray.size_append, ByteArray.size_extract] at h_; first | exact Nat.not_lt.2 h_ | omega | (simp at h_ ⊢; omega))
           try have c37b3 : (9223372036854775807 < t275.size + (⟨#[45]⟩ : ByteArray).size + ((⟨#[74, 97, 110, 70, 101, 98, 77, 97, 114, 65, 112, 114, 77, 97, 121, 74, 117, 110, 74, 117, 108, 65, 117, 103, 83, 101, 112, 79, 99, 116, 78, 111, 118, 68, 101, 99]⟩ : ByteArray).extract ((ji29) : Int).toNat ((wrap64 (3 * a0_1)) : Int).toNat).size + (⟨#[45]⟩ : ByteArray).size + t278.size + 1) = False := eq_false (by have h_ := c37; simp only [ByteArray.size_append] at h_; omega)
           replace H := Option.bind_eq_some_iff.mp H
           obtain ⟨t279, A380, H⟩ := H
           replace H : (if (((((t275 ++ (⟨#[45]⟩ : ByteArray)) ++ ((⟨#[74, 97, 110, 70, 101, 98, 77, 97, 114, 65, 112, 114, 77, 97, 121, 74, 117, 110, 74, 117, 108, 65, 117, 103, 83, 101, 112, 79, 99, 116, 78, 111, 118, 68, 101, 99]⟩ : ByteArray).extract ((ji29) : Int).toNat ((wrap64 (3 * a0_1)) : Int).toNat)) ++ (⟨#[45]⟩ : ByteArray)) ++ t278) ++ (⟨#[32]⟩ : ByteArray)).size + t279.size ≤ 9223372036854775807 then (some ((((((t275 ++ (⟨#[45]⟩ : ByteArray)) ++ ((⟨#[74, 97, 110, 70, 101, 98, 77, 97, 114, 65, 112, 114, 77, 97, 121, 74, 117, 110, 74, 117, 108, 65, 117, 103, 83, 101, 112, 79, 99, 116, 78, 111, 118, 68, 101, 99]⟩ : ByteArray).extract ((ji29) : Int).toNat ((wrap64 (3 * a0_1)) : Int).toNat)) ++ (⟨#[45]⟩ : ByteArray)) ++ t278) ++ (⟨#[32]⟩ : ByteArray)) ++ t279, 0)) else (none)) = some (r1, r2) := H
           have A38 := Aside0.mk A380
           clear A380
           by_cases c39 : (((((t275 ++ (⟨#[45]⟩ : ByteArray)) ++ ((⟨#[74, 97, 110, 70, 101, 98, 77, 97, 114, 65, 112, 114, 77, 97, 121, 74, 117, 110, 74, 117, 108, 65, 117, 103, 83, 101, 112, 79, 99, 116, 78, 111, 118, 68, 101, 99]⟩ : ByteArray).extract ((ji29) : Int).toNat ((wrap64 (3 * a0_1)) : Int).toNat)) ++ (⟨#[45]⟩ : ByteArray)) ++ t278) ++ (⟨#[32]⟩ : ByteArray)).size + t279.size ≤ 9223372036854775807
           ·rw [if_pos c39] at H
            have c39b0 := eq_true c39
            have c39b1 : decide ((((((t275 ++ (⟨#[45]⟩ : ByteArray)) ++ ((⟨#[74, 97, 110, 70, 101, 98, 77, 97, 114, 65, 112, 114, 77, 97, 121, 74, 117, 110, 74, 117, 108, 65, 117, 103, 83, 101, 112, 79, 99, 116, 78, 111, 118, 68, 101, 99]⟩ : ByteArray).extract ((ji29) : Int).toNat ((wrap64 (3 * a0_1)) : Int).toNat)) ++ (⟨#[45]⟩ : ByteArray)) ++ t278) ++ (⟨#[32]⟩ : ByteArray)).size + t279.size ≤ 9223372036854775807) = true := decide_eq_true c39
            try have c39b2 : (9223372036854775807 < (((((t275 ++ (⟨#[45]⟩ : ByteArray)) ++ ((⟨#[74, 97, 110, 70, 101, 98, 77, 97, 114, 65, 112, 114, 77, 97, 121, 74, 117, 110, 74, 117, 108, 65, 117, 103, 83, 101, 112, 79, 99, 116, 78, 111, 118, 68, 101, 99]⟩ : ByteArray).extract ((ji29) : Int).toNat ((wrap64 (3 * a0_1)) : Int).toNat)) ++ (⟨#[45]⟩ : ByteArray)) ++ t278) ++ (⟨#[32]⟩ : ByteArray)).size + t279.size) = False := eq_false (Nat.not_lt.2 c39)
            try have c39b7 : (9223372036854775807 < t275.size + 1 + ((wrap64 (3 * a0_1)).toNat - (ji29).toNat) + 1 + t278.size + 1 + t279.size) = False := eq_false (by have h_ := c39; have e0_ : (⟨#[32]⟩ : ByteArray).size = 1 := rfl; (try dsimp only at e0_); have e1_ : (⟨#[45]⟩ : ByteArray).size = 1 := rfl; (try dsimp only at e1_); have e2_ : (⟨#[74, 97, 110, 70, 101, 98, 77, 97, 114, 65, 112, 114, 77, 97, 121, 74, 117, 110, 74, 117, 108, 65, 117, 103, 83, 101, 112, 79, 99, 116, 78, 111, 118, 68, 101, 99]⟩ : ByteArray).size = 36 := rfl; (try dsimp only at e2_); (try have qc12_ := of_decide_eq_true c12b1); (try have qc13_ := of_decide_eq_true c13b1); (try have qc15_ := of_decide_eq_true c15b1); (try have qc16_ := of_decide_eq_true c16b1); (try have qc18_ := of_decide_eq_true c18b1); (try have qc28_ := of_decide_eq_true c28b1); (try have qc30_ := of_decide_eq_true c30b1); (try have qc31_ := of_decide_eq_true c31b1); (try have qc32_ := of_decide_eq_true c32b1); (try have qc33_ := of_decide_eq_true c33b1); (try have qc34_ := of_decide_eq_true c34b1); (try have qc36_ := of_decide_eq_true c36b1); (try have qc37_ := of_decide_eq_true c37b1); (try have qc39_ := of_decide_eq_true c39b1); simp only [ByteArray.size_append, ByteArray.size_extract] at h_; first | exact Nat.not_lt.2 h_ | omega | (simp at h_ ⊢; omega))
            try have c39b3 : (9223372036854775807 < t275.size + (⟨#[45]⟩ : ByteArray).size + ((⟨#[74, 97, 110, 70, 101, 98, 77, 97, 114, 65, 112, 114, 77, 97, 121, 74, 117, 110, 74, 117, 108, 65, 117, 103, 83, 101, 112, 79, 99, 116, 78, 111, 118, 68, 101, 99]⟩ : ByteArray).extract ((ji29) : Int).toNat ((wrap64 (3 * a0_1)) : Int).toNat).size + (⟨#[45]⟩ : ByteArray).size + t278.size + (⟨#[32]⟩ : ByteArray).size + t279.size) = False := eq_false (by have h_ := c39; simp only [ByteArray.size_append] at h_; omega)
            simp only [Option.some.injEq, Prod.mk.injEq] at H
            obtain ⟨rfl, rfl⟩ := H
            go_enter Tryd.func38, Tryd.ntmps38
            try go_wp2_with (first | ((with_reducible refine gate_dst (N := 1) rfl ?_); refine box_event ?hg (N := 1) ?hd (cs := #[.int .i64 a0_0, .int .i64 a0_1, .int .i64 a0_2, .int .i64 a0_3, .int .i64 a0_4, .int .i64 a0_5, .int .i64 a0_6]) (t := 23) ?hr ?_; (case hd => rfl); (case hg => rfl); (case hr => first | (go_simp; done) | (go_simp; rfl)); intro gb273 hg w40 hbox hb; have n0_ := Aside0.mk (below_step (by repeat (first | (with_reducible first | exact HB.out | apply below_alloc | apply pw_below_drewN | apply below_drew1) | exact HB.out)) hb); have n1_ := Aside0.mk (hbox); have n2_ := Aside0.mk ((by rw [hg]; exact (below_size (by repeat (first | (with_reducible first | exact HB.out | apply below_alloc | apply pw_below_drewN | apply below_drew1) | exact HB.out))) : w.heap.size ≤ gb273)); have n3_ := Aside0.mk ((by rw [hg]; exact (below_size (by repeat (first | (with_reducible first | exact HB.out | apply below_alloc | apply pw_below_drewN | apply below_drew1) | exact HB.out))) : w.heap.size ≤ gb273)); clear HB; have HB := n0_; have BK273 := n1_; have GW273 := n2_; have GE273 := n3_; clear n0_ n1_ n2_ n3_; clear hb hbox hg; have hcz41_0 : w40.cell? ⟨gb273, 0, none⟩ = some (.int .i64 a0_0) := (blk_cell BK273.out 0).trans rfl; have hcz41_1 : w40.cell? ⟨gb273, 1, none⟩ = some (.int .i64 a0_1) := (blk_cell BK273.out 1).trans rfl; have hcz41_2 : w40.cell? ⟨gb273, 2, none⟩ = some (.int .i64 a0_2) := (blk_cell BK273.out 2).trans rfl; have hcz41_3 : w40.cell? ⟨gb273, 3, none⟩ = some (.int .i64 a0_3) := (blk_cell BK273.out 3).trans rfl; have hcz41_4 : w40.cell? ⟨gb273, 4, none⟩ = some (.int .i64 a0_4) := (blk_cell BK273.out 4).trans rfl; have hcz41_5 : w40.cell? ⟨gb273, 5, none⟩ = some (.int .i64 a0_5) := (blk_cell BK273.out 5).trans rfl; have hcz41_6 : w40.cell? ⟨gb273, 6, none⟩ = some (.int .i64 a0_6) := (blk_cell BK273.out 6).trans rfl; have hfz41_0 := blk_frozen BK273.out 0; have hfz41_1 := blk_frozen BK273.out 1; have hfz41_2 := blk_frozen BK273.out 2; have hfz41_3 := blk_frozen BK273.out 3; have hfz41_4 := blk_frozen BK273.out 4; have hfz41_5 := blk_frozen BK273.out 5; have hfz41_6 := blk_frozen BK273.out 6) | ((with_reducible refine gate_callee (f := 78) rfl ?_); refine goesL_ (some 7) rfl rfl Tryd.func78 (by kernel_rfl) rfl #[.agg #[.int .i64 a0_0, .int .i64 a0_1, .int .i64 a0_2, .int .i64 a0_3, .int .i64 a0_4, .int .i64 a0_5, .int .i64 a0_6]] rfl (by (try simp only [List.map_toArray, List.map_cons, List.map_nil]); first | done | rfl | (simp only [List.length_drop, List.length_take]; rfl)) ?_; (with_reducible refine (postbagref2_may.calls k a0_0 a0_1 a0_2 a0_3 a0_4 a0_5 a0_6 t274 _ A2.out).mono ?_); rintro e w42 ⟨rfl, hb⟩; refine ⟨_, rfl, ?_⟩; have n0_ := Aside0.mk (blk_below (g := gb273) (o := .cells #[.int .i64 a0_0, .int .i64 a0_1, .int .i64 a0_2, .int .i64 a0_3, .int .i64 a0_4, .int .i64 a0_5, .int .i64 a0_6] 23 (0, 0)) (by (with_reducible repeat (first | refine blk_drewN ?_ _ | refine blk_drew ?_ | refine blk_alloc ?_ _)); exact BK273.out) hb); have n1_ := Aside0.mk (below_step (by repeat (first | (with_reducible first | exact HB.out | apply below_alloc | apply pw_below_drewN | apply below_drew1 | refine below_set ?_ GE273.out) | exact HB.out)) hb); clear BK273; clear HB; have BK273 := n0_; have HB := n1_; clear n0_ n1_; (try clear hb); (try clear hb2); (try clear hk); (try clear hi); have hcz43_0 : w42.cell? ⟨gb273, 0, none⟩ = some (.int .i64 a0_0) := (blk_cell BK273.out 0).trans rfl; have hcz43_1 : w42.cell? ⟨gb273, 1, none⟩ = some (.int .i64 a0_1) := (blk_cell BK273.out 1).trans rfl; have hcz43_2 : w42.cell? ⟨gb273, 2, none⟩ = some (.int .i64 a0_2) := (blk_cell BK273.out 2).trans rfl; have hcz43_3 : w42.cell? ⟨gb273, 3, none⟩ = some (.int .i64 a0_3) := (blk_cell BK273.out 3).trans rfl; have hcz43_4 : w42.cell? ⟨gb273, 4, none⟩ = some (.int .i64 a0_4) := (blk_cell BK273.out 4).trans rfl; have hcz43_5 : w42.cell? ⟨gb273, 5, none⟩ = some (.int .i64 a0_5) := (blk_cell BK273.out 5).trans rfl; have hcz43_6 : w42.cell? ⟨gb273, 6, none⟩ = some (.int .i64 a0_6) := (blk_cell BK273.out 6).trans rfl; have hfz43_0 := blk_frozen BK273.out 0; have hfz43_1 := blk_frozen BK273.out 1; have hfz43_2 := blk_frozen BK273.out 2; have hfz43_3 := blk_frozen BK273.out 3; have hfz43_4 := blk_frozen BK273.out 4; have hfz43_5 := blk_frozen BK273.out 5; have hfz43_6 := blk_frozen BK273.out 6) | ((with_reducible refine gate_callee (f := 79) rfl ?_); refine goesL_ (some 13) rfl rfl Tryd.func79 (by kernel_rfl) rfl #[.int .i64 a0_2, .int .i64 1] rfl (by (try simp only [List.map_toArray, List.map_cons, List.map_nil]); first | done | rfl | (simp only [List.length_drop, List.length_take]; rfl)) ?_; (with_reducible refine (postbagref2_text.calls k a0_2 1 t275 _ A4.out).mono ?_); rintro e w44 ⟨rfl, hb⟩; refine ⟨_, rfl, ?_⟩; have n0_ := Aside0.mk (blk_below (g := gb273) (o := .cells #[.int .i64 a0_0, .int .i64 a0_1, .int .i64 a0_2, .int .i64 a0_3, .int .i64 a0_4, .int .i64 a0_5, .int .i64 a0_6] 23 (0, 0)) (by (with_reducible repeat (first | refine blk_drewN ?_ _ | refine blk_drew ?_ | refine blk_alloc ?_ _)); exact BK273.out) hb); have n1_ := Aside0.mk (below_step (by repeat (first | (with_reducible first | exact HB.out | apply below_alloc | apply pw_below_drewN | apply below_drew1 | refine below_set ?_ GE273.out) | exact HB.out)) hb); clear BK273; clear HB; have BK273 := n0_; have HB := n1_; clear n0_ n1_; (try clear hb); (try clear hb2); (try clear hk); (try clear hi); have hcz45_0 : w44.cell? ⟨gb273, 0, none⟩ = some (.int .i64 a0_0) := (blk_cell BK273.out 0).trans rfl; have hcz45_1 : w44.cell? ⟨gb273, 1, none⟩ = some (.int .i64 a0_1) := (blk_cell BK273.out 1).trans rfl; have hcz45_2 : w44.cell? ⟨gb273, 2, none⟩ = some (.int .i64 a0_2) := (blk_cell BK273.out 2).trans rfl; have hcz45_3 : w44.cell? ⟨gb273, 3, none⟩ = some (.int .i64 a0_3) := (blk_cell BK273.out 3).trans rfl; have hcz45_4 : w44.cell? ⟨gb273, 4, none⟩ = some (.int .i64 a0_4) := (blk_cell BK273.out 4).trans rfl; have hcz45_5 : w44.cell? ⟨gb273, 5, none⟩ = some (.int .i64 a0_5) := (blk_cell BK273.out 5).trans rfl; have hcz45_6 : w44.cell? ⟨gb273, 6, none⟩ = some (.int .i64 a0_6) := (blk_cell BK273.out 6).trans rfl; have hfz45_0 := blk_frozen BK273.out 0; have hfz45_1 := blk_frozen BK273.out 1; have hfz45_2 := blk_frozen BK273.out 2; have hfz45_3 := blk_frozen BK273.out 3; have hfz45_4 := blk_frozen BK273.out 4; have hfz45_5 := blk_frozen BK273.out 5; have hfz45_6 := blk_frozen BK273.out 6))
            have n0_ := Aside0.mk (blk_drew BK273.out)
            have n1_ := Aside0.mk (below_drew1 HB.out)
            clear BK273
            clear HB
            have BK273 := n0_
            have HB := n1_
            clear n0_ n1_
            refine start_ (n := 22) (S := fun w' => w'.cell? ⟨gb273, 0, none⟩ = some (.int .i64 a0_0) ∧ w'.cell? ⟨gb273, 1, none⟩ = some (.int .i64 a0_1) ∧ w'.cell? ⟨gb273, 2, none⟩ = some (.int .i64 a0_2) ∧ w'.cell? ⟨gb273, 3, none⟩ = some (.int .i64 a0_3) ∧ w'.cell? ⟨gb273, 4, none⟩ = some (.int .i64 a0_4) ∧ w'.cell? ⟨gb273, 5, none⟩ = some (.int .i64 a0_5) ∧ w'.cell? ⟨gb273, 6, none⟩ = some (.int .i64 a0_6)) (ds := []) (bs_ 0 22) (by kernel_rfl) rfl rfl ⟨(blk_cell BK273.out 0).trans rfl, (blk_cell BK273.out 1).trans rfl, (blk_cell BK273.out 2).trans rfl, (blk_cell BK273.out 3).trans rfl, (blk_cell BK273.out 4).trans rfl, (blk_cell BK273.out 5).trans rfl, (blk_cell BK273.out 6).trans rfl⟩ (fun hHeld => ?_); refine with_tabW postbagref2_PrintInternal.tab7 postbagref2_PrintInternal.bits7 (fun HT_ HW_ => ?_)
            generalize w44.drew = w46 at BK273 HB hHeld ⊢
            refine pu_ 0 (some 19) ?_ (bs_ 1 21) rfl rfl (any_of HT_.out (by kernel_rfl)) (fun _ _ _ h => h) (y_ (by rfl) ?_) ?_ ?_ ?_
            rotate_left
            ·intro w'
             go_simp
             with_reducible rfl
            rotate_left
            ·simp only [Act.put, s1_, s2_, s3_, i64_w, i32_w]
             rfl
            refine pu_ 1 (some 20) ?_ (bs_ 2 20) rfl rfl (any_of HT_.out (by kernel_rfl)) (fun _ _ _ h => h) (y_ (by rfl) ?_) ?_ ?_ ?_
            rotate_left
            ·intro w'
             go_simp
             with_reducible rfl
            rotate_left
            ·simp only [Act.put, s1_, s2_, s3_, i64_w, i32_w]
             rfl
            refine pu_ 2 (some 21) ?_ (bs_ 3 19) rfl rfl (any_of HT_.out (by kernel_rfl)) (fun _ _ _ h => h) (y_ (by rfl) ?_) ?_ ?_ ?_
            rotate_left
            ·intro w'
             go_simp
             with_reducible rfl
            rotate_left
            ·simp only [Act.put, s1_, s2_, s3_, i64_w, i32_w]
             rfl
            refine pu_ 6 (some 25) ?_ #[true, true, true, false, false, false, true, false, false, false, false, false, false, false, false, false, false, false, false, false, false, false] rfl rfl (any_of HT_.out (by kernel_rfl)) (fun _ _ _ h => h) (y_ (by rfl) ?_) ?_ ?_ ?_
            rotate_left
            ·intro w'
             go_simp
             with_reducible rfl
            rotate_left
            ·simp only [Act.put, s1_, s2_, s3_, i64_w, i32_w]
             rfl
            refine pu_ 12 (some 31) ?_ #[true, true, true, false, false, false, true, false, false, false, false, false, true, false, false, false, false, false, false, false, false, false] rfl rfl (any_of HT_.out (by kernel_rfl)) (fun _ _ _ h => h) (y_ (by rfl) ?_) ?_ ?_ ?_
            rotate_left
            ·intro w'
             go_simp
             with_reducible rfl
            rotate_left
            ·simp only [Act.put, s1_, s2_, s3_, i64_w, i32_w]
             rfl
            refine take_ (i := 3) (N := some 22) (v := ?_) (a' := ?_) #[true, true, true, true, false, false, true, false, false, false, false, false, true, false, false, false, false, false, false, false, false, false] rfl rfl (take_ofW HT_.out HW_.out (by kernel_rfl)) (fun _ _ _ h => h) (Or.inl ⟨by rfl, ?_⟩) hHeld ?_ ?_
            rotate_left
            ·rintro w' ⟨s0, s1, s2, s3, s4, s5, s6⟩
             go_simp
             with_reducible rfl
            rotate_left
            ·simp only [Act.put, s1_, s2_, s3_, i64_w, i32_w]
             rfl
            refine pu_ 4 (some 23) ?_ #[true, true, true, true, true, false, true, false, false, false, false, false, true, false, false, false, false, false, false, false, false, false] rfl rfl (any_of HT_.out (by kernel_rfl)) (fun _ _ _ h => h) (y_ (by rfl) ?_) ?_ ?_ ?_
            rotate_left
            ·intro w'
             go_simp
             with_reducible rfl
            rotate_left
            ·simp only [Act.put, s1_, s2_, s3_, i64_w, i32_w]
             rfl
            refine pu_ 5 (some 24) ?_ #[true, true, true, true, true, true, true, false, false, false, false, false, true, false, false, false, false, false, false, false, false, false] rfl rfl (any_of HT_.out (by kernel_rfl)) (fun _ _ _ h => h) (y_ (by rfl) ?_) ?_ ?_ ?_
            rotate_left
            ·intro w'
             go_simp
             with_reducible rfl
            rotate_left
            ·simp only [Act.put, s1_, s2_, s3_, i64_w, i32_w]
             rfl
            refine take_ (i := 7) (N := some 26) (v := ?_) (a' := ?_) #[true, true, true, true, true, true, true, true, false, false, false, false, true, false, false, false, false, false, false, false, false, false] rfl rfl (take_ofW HT_.out HW_.out (by kernel_rfl)) (fun _ _ _ h => h) (Or.inl ⟨by rfl, ?_⟩) hHeld ?_ ?_
            rotate_left
            ·rintro w' ⟨s0, s1, s2, s3, s4, s5, s6⟩
             go_simp
             with_reducible rfl
            rotate_left
            ·simp only [Act.put, s1_, s2_, s3_, i64_w, i32_w]
             rfl
            refine pu_ 8 (some 27) ?_ #[true, true, true, true, true, true, true, true, true, false, false, false, true, false, false, false, false, false, false, false, false, false] rfl rfl (any_of HT_.out (by kernel_rfl)) (fun _ _ _ h => h) (y_ (by rfl) ?_) ?_ ?_ ?_
            rotate_left
            ·intro w'
             go_simp
             with_reducible rfl
            rotate_left
            ·simp only [Act.put, s1_, s2_, s3_, i64_w, i32_w]
             rfl
            refine pu_ 9 (some 28) ?_ #[true, true, true, true, true, true, true, true, true, true, false, false, true, false, false, false, false, false, false, false, false, false] rfl rfl (any_of HT_.out (by kernel_rfl)) (fun _ _ _ h => h) (y_ (by rfl) ?_) ?_ ?_ ?_
            rotate_left
            ·intro w'
             go_simp
             with_reducible rfl
            rotate_left
            ·simp only [Act.put, s1_, s2_, s3_, i64_w, i32_w]
             rfl
            refine pu_ 10 (some 29) ?_ #[true, true, true, true, true, true, true, true, true, true, true, false, true, false, false, false, false, false, false, false, false, false] rfl rfl (any_of HT_.out (by kernel_rfl)) (fun _ _ _ h => h) (y_ (by rfl) ?_) ?_ ?_ ?_
            rotate_left
            ·intro w'
             go_simp
             with_reducible rfl
            rotate_left
            ·simp only [Act.put, s1_, s2_, s3_, i64_w, i32_w]
             rfl
            refine pu_ 11 (some 30) ?_ (bs_ 13 9) rfl rfl (any_of HT_.out (by kernel_rfl)) (fun _ _ _ h => h) (y_ (by rfl) ?_) ?_ ?_ ?_
            rotate_left
            ·intro w'
             go_simp
             with_reducible rfl
            rotate_left
            ·simp only [Act.put, s1_, s2_, s3_, i64_w, i32_w]
             rfl
            refine take_ (i := 13) (N := some 32) (v := ?_) (a' := ?_) (bs_ 14 8) rfl rfl (take_ofW HT_.out HW_.out (by kernel_rfl)) (fun _ _ _ h => h) (Or.inl ⟨by rfl, ?_⟩) hHeld ?_ ?_
            rotate_left
            ·rintro w' ⟨s0, s1, s2, s3, s4, s5, s6⟩
             go_simp
             with_reducible rfl
            rotate_left
            ·simp only [Act.put, s1_, s2_, s3_, i64_w, i32_w]
             rfl
            refine take_ (i := 17) (N := some 36) (v := ?_) (a' := ?_) #[true, true, true, true, true, true, true, true, true, true, true, true, true, true, false, false, false, true, false, false, false, false] rfl rfl (take_ofW HT_.out HW_.out (by kernel_rfl)) (fun _ _ _ h => h) (Or.inl ⟨by rfl, ?_⟩) hHeld ?_ ?_
            rotate_left
            ·rintro w' ⟨s0, s1, s2, s3, s4, s5, s6⟩
             go_simp
             with_reducible rfl
            rotate_left
            ·simp only [Act.put, s1_, s2_, s3_, i64_w, i32_w]
             rfl
            refine one_ (i := 14) (N := some 33) #[true, true, true, true, true, true, true, true, true, true, true, true, true, true, true, false, false, true, false, false, false, false] rfl rfl (one_of HT_.out (by kernel_rfl)) (by decide) (fun K hK => ?_)
            refine goes_ Tryd.func79 (by kernel_rfl) rfl #[.int .i64 a0_0, .int .i64 4] (by rfl) rfl rfl (by (try simp only [List.map_toArray, List.map_cons, List.map_nil]); first | done | rfl | (simp only [List.length_drop, List.length_take]; rfl)) ?_
            with_reducible refine (postbagref2_text.calls k a0_0 4 t278 _ A35.out).mono ?_
            rintro e w47 ⟨rfl, hb⟩
            refine ⟨_, rfl, ?_⟩
            have n0_ := Aside0.mk (blk_below (g := gb273) (o := .cells #[.int .i64 a0_0, .int .i64 a0_1, .int .i64 a0_2, .int .i64 a0_3, .int .i64 a0_4, .int .i64 a0_5, .int .i64 a0_6] 23 (0, 0)) (by (with_reducible repeat (first | refine blk_drewN ?_ _ | refine blk_drew ?_ | refine blk_alloc ?_ _)); exact BK273.out) hb)
            have n1_ := Aside0.mk (below_step (by repeat (first | (with_reducible first | exact HB.out | apply below_alloc | apply pw_below_drewN | apply below_drew1 | refine below_set ?_ GE273.out) | exact HB.out)) hb)
            clear BK273
            clear HB
            have BK273 := n0_
            have HB := n1_
            clear n0_ n1_
            (try clear hb)
            (try clear hb2)
            (try clear hk)
            (try clear hi)
            refine hK.out _ _ ⟨(blk_cell BK273.out 0).trans rfl, (blk_cell BK273.out 1).trans rfl, (blk_cell BK273.out 2).trans rfl, (blk_cell BK273.out 3).trans rfl, (blk_cell BK273.out 4).trans rfl, (blk_cell BK273.out 5).trans rfl, (blk_cell BK273.out 6).trans rfl⟩ (fun hHeld => ?_)
            clear hK K
            refine norm_ (a' := ?_) ?_ ?_
            rotate_left
            ·show Act.put _ (some 33) _ = _
             simp only [Act.put, s1_, s2_, s3_, i64_w, i32_w]
             rfl
            refine pu_ 15 (some 34) ?_ #[true, true, true, true, true, true, true, true, true, true, true, true, true, true, true, true, false, true, false, false, false, false] rfl rfl (any_of HT_.out (by kernel_rfl)) (fun _ _ _ h => h) (y_ (by rfl) ?_) ?_ ?_ ?_
            rotate_left
            ·intro w'
             go_simp
             with_reducible rfl
            rotate_left
            ·simp only [Act.put, s1_, s2_, s3_, i64_w, i32_w]
             rfl
            refine pu_ 16 (some 35) ?_ (bs_ 18 4) rfl rfl (any_of HT_.out (by kernel_rfl)) (fun _ _ _ h => h) (y_ (by rfl) ?_) ?_ ?_ ?_
            rotate_left
            ·intro w'
             go_simp
             with_reducible rfl
            rotate_left
            ·simp only [Act.put, s1_, s2_, s3_, i64_w, i32_w]
             rfl
            refine one_ (i := 18) (N := some 37) (bs_ 19 3) rfl rfl (one_of HT_.out (by kernel_rfl)) (by decide) (fun K hK => ?_)
            refine goes_ Tryd.func80 (by kernel_rfl) rfl #[.agg #[.int .i64 a0_0, .int .i64 a0_1, .int .i64 a0_2, .int .i64 a0_3, .int .i64 a0_4, .int .i64 a0_5, .int .i64 a0_6]] (by rfl) rfl rfl (by (try simp only [List.map_toArray, List.map_cons, List.map_nil]); first | done | rfl | (simp only [List.length_drop, List.length_take]; rfl)) ?_
            with_reducible refine (postbagref2_clock.calls k a0_0 a0_1 a0_2 a0_3 a0_4 a0_5 a0_6 t279 _ A38.out).mono ?_
            rintro e w48 ⟨rfl, hb⟩
            refine ⟨_, rfl, ?_⟩
            have n0_ := Aside0.mk (blk_below (g := gb273) (o := .cells #[.int .i64 a0_0, .int .i64 a0_1, .int .i64 a0_2, .int .i64 a0_3, .int .i64 a0_4, .int .i64 a0_5, .int .i64 a0_6] 23 (0, 0)) (by (with_reducible repeat (first | refine blk_drewN ?_ _ | refine blk_drew ?_ | refine blk_alloc ?_ _)); exact BK273.out) hb)
            have n1_ := Aside0.mk (below_step (by repeat (first | (with_reducible first | exact HB.out | apply below_alloc | apply pw_below_drewN | apply below_drew1 | refine below_set ?_ GE273.out) | exact HB.out)) hb)
            clear BK273
            clear HB
            have BK273 := n0_
            have HB := n1_
            clear n0_ n1_
            (try clear hb)
            (try clear hb2)
            (try clear hk)
            (try clear hi)
            refine hK.out _ _ ⟨(blk_cell BK273.out 0).trans rfl, (blk_cell BK273.out 1).trans rfl, (blk_cell BK273.out 2).trans rfl, (blk_cell BK273.out 3).trans rfl, (blk_cell BK273.out 4).trans rfl, (blk_cell BK273.out 5).trans rfl, (blk_cell BK273.out 6).trans rfl⟩ (fun hHeld => ?_)
            clear hK K
            refine norm_ (a' := ?_) ?_ ?_
            rotate_left
            ·show Act.put _ (some 37) _ = _
             simp only [Act.put, s1_, s2_, s3_, i64_w, i32_w]
             rfl
            refine pu_ 19 (some 38) ?_ (bs_ 20 2) rfl rfl (any_of HT_.out (by kernel_rfl)) (fun _ _ _ h => h) (y_ (by rfl) ?_) ?_ ?_ ?_
            rotate_left
            ·intro w'
             go_simp
             with_reducible rfl
            rotate_left
            ·simp only [Act.put, s1_, s2_, s3_, i64_w, i32_w]
             rfl
            refine pu_ 20 (some 2) ?_ (bs_ 21 1) rfl rfl (any_of HT_.out (by kernel_rfl)) (fun _ _ _ h => h) (y_ (by rfl) ?_) ?_ ?_ ?_
            rotate_left
            ·intro w'
             go_simp
             with_reducible rfl
            rotate_left
            ·simp only [Act.put, s1_, s2_, s3_, i64_w, i32_w]
             rfl
            refine pu_ 21 (some 3) ?_ (bs_ 22 0) rfl rfl (any_of HT_.out (by kernel_rfl)) (fun _ _ _ h => h) (y_ (by rfl) ?_) ?_ ?_ ?_
            rotate_left
            ·intro w'
             go_simp
             with_reducible rfl
            rotate_left
            ·simp only [Act.put, s1_, s2_, s3_, i64_w, i32_w]
             rfl
            refine done_ (done_of HT_.out (by kernel_rfl)) ?_
            try go_wp2
            go_ret2
            exact ⟨by first | rfl | (simp [errW_none, errW_some] <;> rfl) | (simp only [← hji29]; first | rfl | (simp [errW_none, errW_some] <;> rfl)) | (simp [*, errW_none, errW_some] <;> rfl), by repeat (first | (with_reducible first | exact HB.out | apply below_alloc | apply pw_below_drewN | apply below_drew1 | refine below_set ?_ GE273.out) | exact HB.out)⟩
           ·rw [if_neg c39] at H
            exact absurd H (by simp)
          ·rw [if_neg c37] at H
           exact absurd H (by simp)
         ·rw [if_neg c36] at H
          exact absurd H (by simp)
        ·rw [if_neg c34] at H
         exact absurd H (by simp)
       ·rw [if_neg c33] at H
        exact absurd H (by simp)
      ·rw [if_neg c32] at H
       exact absurd H (by simp)
     ·rw [if_neg c31] at H
      exact absurd H (by simp)
    ·rw [if_neg c30] at H
     exact absurd H (by simp)
   ·rw [if_neg c28] at H
    exact absurd H (by simp)
 ·rw [if_neg c3] at H
  have c3b0 : (t274 == 0) = false := beq_eq_false_iff_ne.mpr c3
  have c3b1 : (t274 != 0) = true := bne_iff_ne.mpr c3
  simp only [Option.some.injEq, Prod.mk.injEq] at H
  obtain ⟨rfl, rfl⟩ := H
  go_enter Tryd.func38, Tryd.ntmps38
  go_wp2_with (first | ((with_reducible refine gate_dst (N := 1) rfl ?_); refine box_event ?hg (N := 1) ?hd (cs := #[.int .i64 a0_0, .int .i64 a0_1, .int .i64 a0_2, .int .i64 a0_3, .int .i64 a0_4, .int .i64 a0_5, .int .i64 a0_6]) (t := 23) ?hr ?_; (case hd => rfl); (case hg => rfl); (case hr => first | (go_simp; done) | (go_simp; rfl)); intro gb273 hg w49 hbox hb; have n0_ := Aside0.mk (below_step (by repeat (first | (with_reducible first | exact HB.out | apply below_alloc | apply pw_below_drewN | apply below_drew1) | exact HB.out)) hb); have n1_ := Aside0.mk (hbox); have n2_ := Aside0.mk ((by rw [hg]; exact (below_size (by repeat (first | (with_reducible first | exact HB.out | apply below_alloc | apply pw_below_drewN | apply below_drew1) | exact HB.out))) : w.heap.size ≤ gb273)); have n3_ := Aside0.mk ((by rw [hg]; exact (below_size (by repeat (first | (with_reducible first | exact HB.out | apply below_alloc | apply pw_below_drewN | apply below_drew1) | exact HB.out))) : w.heap.size ≤ gb273)); clear HB; have HB := n0_; have BK273 := n1_; have GW273 := n2_; have GE273 := n3_; clear n0_ n1_ n2_ n3_; clear hb hbox hg; have hcz50_0 : w49.cell? ⟨gb273, 0, none⟩ = some (.int .i64 a0_0) := (blk_cell BK273.out 0).trans rfl; have hcz50_1 : w49.cell? ⟨gb273, 1, none⟩ = some (.int .i64 a0_1) := (blk_cell BK273.out 1).trans rfl; have hcz50_2 : w49.cell? ⟨gb273, 2, none⟩ = some (.int .i64 a0_2) := (blk_cell BK273.out 2).trans rfl; have hcz50_3 : w49.cell? ⟨gb273, 3, none⟩ = some (.int .i64 a0_3) := (blk_cell BK273.out 3).trans rfl; have hcz50_4 : w49.cell? ⟨gb273, 4, none⟩ = some (.int .i64 a0_4) := (blk_cell BK273.out 4).trans rfl; have hcz50_5 : w49.cell? ⟨gb273, 5, none⟩ = some (.int .i64 a0_5) := (blk_cell BK273.out 5).trans rfl; have hcz50_6 : w49.cell? ⟨gb273, 6, none⟩ = some (.int .i64 a0_6) := (blk_cell BK273.out 6).trans rfl; have hfz50_0 := blk_frozen BK273.out 0; have hfz50_1 := blk_frozen BK273.out 1; have hfz50_2 := blk_frozen BK273.out 2; have hfz50_3 := blk_frozen BK273.out 3; have hfz50_4 := blk_frozen BK273.out 4; have hfz50_5 := blk_frozen BK273.out 5; have hfz50_6 := blk_frozen BK273.out 6) | ((with_reducible refine gate_callee (f := 78) rfl ?_); refine goesL_ (some 7) rfl rfl Tryd.func78 (by kernel_rfl) rfl #[.agg #[.int .i64 a0_0, .int .i64 a0_1, .int .i64 a0_2, .int .i64 a0_3, .int .i64 a0_4, .int .i64 a0_5, .int .i64 a0_6]] rfl (by (try simp only [List.map_toArray, List.map_cons, List.map_nil]); first | done | rfl | (simp only [List.length_drop, List.length_take]; rfl)) ?_; (with_reducible refine (postbagref2_may.calls k a0_0 a0_1 a0_2 a0_3 a0_4 a0_5 a0_6 t274 _ A2.out).mono ?_); rintro e w51 ⟨rfl, hb⟩; refine ⟨_, rfl, ?_⟩; have n0_ := Aside0.mk (blk_below (g := gb273) (o := .cells #[.int .i64 a0_0, .int .i64 a0_1, .int .i64 a0_2, .int .i64 a0_3, .int .i64 a0_4, .int .i64 a0_5, .int .i64 a0_6] 23 (0, 0)) (by (with_reducible repeat (first | refine blk_drewN ?_ _ | refine blk_drew ?_ | refine blk_alloc ?_ _)); exact BK273.out) hb); have n1_ := Aside0.mk (below_step (by repeat (first | (with_reducible first | exact HB.out | apply below_alloc | apply pw_below_drewN | apply below_drew1 | refine below_set ?_ GE273.out) | exact HB.out)) hb); clear BK273; clear HB; have BK273 := n0_; have HB := n1_; clear n0_ n1_; (try clear hb); (try clear hb2); (try clear hk); (try clear hi)))
  go_ret2
  exact ⟨by first | rfl | (simp [errW_none, errW_some] <;> rfl) | (simp [*, errW_none, errW_some] <;> rfl), by repeat (first | (with_reducible first | exact HB.out | apply below_alloc | apply pw_below_drewN | apply below_drew1 | refine below_set ?_ GE273.out) | exact HB.out)⟩
end Go.Proofs.YtjlchnmpebdggaaDoor.Mo
end
