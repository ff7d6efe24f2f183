import Derived.Test.YtjlchnmpebdggaaDoorJc2
import Derived.Test.YtjlchnmpebdggaaDoorJc7
import Derived.Deep.QuietTactic
import Derived.BigQuiet
import Derived.IntWalk
import Derived.Test.YtjlchnmpebdggaaDoorJc8
import Derived.Test.YtjlchnmpebdggaaDoorJc9
import Derived.Test.YtjlchnmpebdggaaDoorRows
import Derived.Test.YtjlchnmpebdggaaDoorJc0
import Derived.ProofKit
import Derived.LaidMore
import Derived.OpenShut
import Derived.Stop.Joined
/- moment.clock: time and zone as they are written. -/
namespace Go.Proofs.YtjlchnmpebdggaaDoor.Mo
open Go.RowKit Go.Proofs.YtjlchnmpebdggaaDoorW.PrintWords
def clockT (h mi se zz : Int) (sign : ByteArray) : ByteArray := twoP h ++ ⟨#[58]⟩ ++ twoP mi ++ ⟨#[58]⟩ ++ twoP se ++ ⟨#[32]⟩ ++ sign ++ twoP (zz / 60) ++ twoP (zz % 60)
def clockP (h mi se z : Int) : ByteArray := if z < 0 then clockT h mi se (-z) ⟨#[45]⟩ else clockT h mi se z ⟨#[43]⟩
theorem two_calls (n : Int) (w : World) : Calls Tryd.prog 87 #[.int .i64 n] w fun e w' => e = .returned (.string (twoP n)) ∧ Below w.heap.size w w' := moment_two.calls n _ w (two_f n)
theorem clockT_size (h mi se zz : Int) (sign : ByteArray) (hs : sign.size = 1) : (clockT h mi se zz sign).size = 14 := by
  unfold clockT
  simp only [ByteArray.size_append, twoP_size, hs]
  rfl
theorem clockP_size (h mi se z : Int) : (clockP h mi se z).size = 14 := by
  unfold clockP; split <;> exact clockT_size _ _ _ _ _ rfl
set_option maxHeartbeats 4000000 in
set_option maxRecDepth 100000 in
theorem clock_calls (y mo d h mi se z : Int) (w : World) (h0 : -1439 ≤ z) (h1 : z ≤ 1439) :
    Calls Tryd.prog 64 #[.agg #[.int .i64 y, .int .i64 mo, .int .i64 d, .int .i64 h, .int .i64 mi, .int .i64 se, .int .i64 z]] w fun e w' => e = .returned (.string (clockP h mi se z)) ∧ Below w.heap.size w w' := by
  have t1 := two_calls h
  have t2 := two_calls mi
  have t3 := two_calls se
  have s1 := twoP_size h
  have s2 := twoP_size mi
  have s3 := twoP_size se
  by_cases hz : z < 0
  · skip
    have hp : clockP h mi se z = twoP h ++ ⟨#[58]⟩ ++ twoP mi ++ ⟨#[58]⟩ ++ twoP se ++ ⟨#[32]⟩ ++ ⟨#[45]⟩ ++ twoP ((-z) / 60) ++ twoP ((-z) % 60) := by unfold clockP; rw [if_pos hz]; rfl
    have d1 : decide (z < 0) = true := decide_eq_true hz
    have z0 : 0 ≤ (-z) := by omega
    have z1 : (-z) ≤ 1439 := by omega
    have t4 := two_calls ((-z) / 60)
    have t5 := two_calls ((-z) % 60)
    have s4 := twoP_size ((-z) / 60)
    have s5 := twoP_size ((-z) % 60)
    generalize twoP h = a1 at *
    generalize twoP mi = a2 at *
    generalize twoP se = a3 at *
    generalize twoP ((-z) / 60) = a4 at *
    generalize twoP ((-z) % 60) = a5 at *
    have T1 := Lib.hid t1
    have T2 := Lib.hid t2
    have T3 := Lib.hid t3
    have T4 := Lib.hid t4
    have T5 := Lib.hid t5
    have HP := Lib.hid hp
    clear t1 t2 t3 t4 t5 hp
    go_enter Tryd.func64, Tryd.ntmps64
    go_wp2_with fail
    go_quiet (fail)
    go_wp2_with fail
    have m3 : ((w.alloc (.cells #[.int .i64 y, .int .i64 mo, .int .i64 d, .int .i64 h, .int .i64 mi, .int .i64 se, .int .i64 z] 23)).drewN nq).cell? ⟨w.heap.size, 3, none⟩ = some (.int .i64 h) := by go_simp
    have m4 : ((w.alloc (.cells #[.int .i64 y, .int .i64 mo, .int .i64 d, .int .i64 h, .int .i64 mi, .int .i64 se, .int .i64 z] 23)).drewN nq).cell? ⟨w.heap.size, 4, none⟩ = some (.int .i64 mi) := by go_simp
    have m5 : ((w.alloc (.cells #[.int .i64 y, .int .i64 mo, .int .i64 d, .int .i64 h, .int .i64 mi, .int .i64 se, .int .i64 z] 23)).drewN nq).cell? ⟨w.heap.size, 5, none⟩ = some (.int .i64 se) := by go_simp
    have hB : Below w.heap.size w ((w.alloc (.cells #[.int .i64 y, .int .i64 mo, .int .i64 d, .int .i64 h, .int .i64 mi, .int .i64 se, .int .i64 z] 23)).drewN nq) := pw_below_drewN (below_alloc (Below.refl _ w) _) nq
    generalize (w.alloc (.cells #[.int .i64 y, .int .i64 mo, .int .i64 d, .int .i64 h, .int .i64 mi, .int .i64 se, .int .i64 z] 23)).drewN nq = w1 at *
    have HB := Lib.hid hB
    clear hB
    generalize -z = zz at *
    have hq1 : zz.tdiv 60 = zz / 60 := Int.tdiv_eq_ediv_of_nonneg z0
    have hq2 : zz.tmod 60 = zz % 60 := Int.tmod_eq_emod_of_nonneg z0
    have hq3 : IntKind.i64.wrap (zz / 60) = zz / 60 := IntWalk.i64_in _ ⟨by omega, by omega⟩
    have hq4 : IntKind.i64.wrap (zz % 60) = zz % 60 := IntWalk.i64_in _ ⟨by omega, by omega⟩
    go_region_held3 (fun w' => w'.cell? ⟨w.heap.size, 3, none⟩ = some (.int .i64 h) ∧ w'.cell? ⟨w.heap.size, 4, none⟩ = some (.int .i64 mi) ∧ w'.cell? ⟨w.heap.size, 5, none⟩ = some (.int .i64 se)) (go_keep) ((first | (go_at_call 87; (with_reducible refine (T1.out _).mono ?_); rintro e w2 ⟨rfl, hb⟩; have n0_ := Lib.hid (below_step (by repeat (first | (with_reducible exact HB.out) | (with_reducible apply below_drew) | (with_reducible apply pw_below_drewN) | exact HB.out)) hb); clear HB; have HB := n0_; clear n0_; have k3 := pw_cell_below hb (a := ⟨w.heap.size, 3, none⟩) (v := .int .i64 h) (by first | assumption | go_simp); have k4 := pw_cell_below hb (a := ⟨w.heap.size, 4, none⟩) (v := .int .i64 mi) (by first | assumption | go_simp); have k5 := pw_cell_below hb (a := ⟨w.heap.size, 5, none⟩) (v := .int .i64 se) (by first | assumption | go_simp); clear hb) | (go_at_call 87; (with_reducible refine (T2.out _).mono ?_); rintro e w3 ⟨rfl, hb⟩; have n0_ := Lib.hid (below_step (by repeat (first | (with_reducible exact HB.out) | (with_reducible apply below_drew) | (with_reducible apply pw_below_drewN) | exact HB.out)) hb); clear HB; have HB := n0_; clear n0_; have k3 := pw_cell_below hb (a := ⟨w.heap.size, 3, none⟩) (v := .int .i64 h) (by first | assumption | go_simp); have k4 := pw_cell_below hb (a := ⟨w.heap.size, 4, none⟩) (v := .int .i64 mi) (by first | assumption | go_simp); have k5 := pw_cell_below hb (a := ⟨w.heap.size, 5, none⟩) (v := .int .i64 se) (by first | assumption | go_simp); clear hb) | (go_at_call 87; (with_reducible refine (T3.out _).mono ?_); rintro e w4 ⟨rfl, hb⟩; have n0_ := Lib.hid (below_step (by repeat (first | (with_reducible exact HB.out) | (with_reducible apply below_drew) | (with_reducible apply pw_below_drewN) | exact HB.out)) hb); clear HB; have HB := n0_; clear n0_; have k3 := pw_cell_below hb (a := ⟨w.heap.size, 3, none⟩) (v := .int .i64 h) (by first | assumption | go_simp); have k4 := pw_cell_below hb (a := ⟨w.heap.size, 4, none⟩) (v := .int .i64 mi) (by first | assumption | go_simp); have k5 := pw_cell_below hb (a := ⟨w.heap.size, 5, none⟩) (v := .int .i64 se) (by first | assumption | go_simp); clear hb) | (go_at_call 87; (with_reducible refine (T4.out _).mono ?_); rintro e w5 ⟨rfl, hb⟩; have n0_ := Lib.hid (below_step (by repeat (first | (with_reducible exact HB.out) | (with_reducible apply below_drew) | (with_reducible apply pw_below_drewN) | exact HB.out)) hb); clear HB; have HB := n0_; clear n0_; have k3 := pw_cell_below hb (a := ⟨w.heap.size, 3, none⟩) (v := .int .i64 h) (by first | assumption | go_simp); have k4 := pw_cell_below hb (a := ⟨w.heap.size, 4, none⟩) (v := .int .i64 mi) (by first | assumption | go_simp); have k5 := pw_cell_below hb (a := ⟨w.heap.size, 5, none⟩) (v := .int .i64 se) (by first | assumption | go_simp); clear hb) | (go_at_call 87; (with_reducible refine (T5.out _).mono ?_); rintro e w6 ⟨rfl, hb⟩; have n0_ := Lib.hid (below_step (by repeat (first | (with_reducible exact HB.out) | (with_reducible apply below_drew) | (with_reducible apply pw_below_drewN) | exact HB.out)) hb); clear HB; have HB := n0_; clear n0_; have k3 := pw_cell_below hb (a := ⟨w.heap.size, 3, none⟩) (v := .int .i64 h) (by first | assumption | go_simp); have k4 := pw_cell_below hb (a := ⟨w.heap.size, 4, none⟩) (v := .int .i64 mi) (by first | assumption | go_simp); have k5 := pw_cell_below hb (a := ⟨w.heap.size, 5, none⟩) (v := .int .i64 se) (by first | assumption | go_simp); clear hb)))
    all_goals go_wp2
    all_goals go_ret
    all_goals exact ⟨by rw [HP.out]; rfl, HB.out⟩
  · skip
    have hp : clockP h mi se z = twoP h ++ ⟨#[58]⟩ ++ twoP mi ++ ⟨#[58]⟩ ++ twoP se ++ ⟨#[32]⟩ ++ ⟨#[43]⟩ ++ twoP (z / 60) ++ twoP (z % 60) := by unfold clockP; rw [if_neg hz]; rfl
    have d1 : decide (z < 0) = false := decide_eq_false hz
    have z0 : 0 ≤ z := by omega
    have z1 : z ≤ 1439 := by omega
    have t4 := two_calls (z / 60)
    have t5 := two_calls (z % 60)
    have s4 := twoP_size (z / 60)
    have s5 := twoP_size (z % 60)
    generalize twoP h = a1 at *
    generalize twoP mi = a2 at *
    generalize twoP se = a3 at *
    generalize twoP (z / 60) = a4 at *
    generalize twoP (z % 60) = a5 at *
    have T1 := Lib.hid t1
    have T2 := Lib.hid t2
    have T3 := Lib.hid t3
    have T4 := Lib.hid t4
    have T5 := Lib.hid t5
    have HP := Lib.hid hp
    clear t1 t2 t3 t4 t5 hp
    go_enter Tryd.func64, Tryd.ntmps64
    go_wp2_with fail
    go_quiet (fail)
    go_wp2_with fail
    have m3 : ((w.alloc (.cells #[.int .i64 y, .int .i64 mo, .int .i64 d, .int .i64 h, .int .i64 mi, .int .i64 se, .int .i64 z] 23)).drewN nq).cell? ⟨w.heap.size, 3, none⟩ = some (.int .i64 h) := by go_simp
    have m4 : ((w.alloc (.cells #[.int .i64 y, .int .i64 mo, .int .i64 d, .int .i64 h, .int .i64 mi, .int .i64 se, .int .i64 z] 23)).drewN nq).cell? ⟨w.heap.size, 4, none⟩ = some (.int .i64 mi) := by go_simp
    have m5 : ((w.alloc (.cells #[.int .i64 y, .int .i64 mo, .int .i64 d, .int .i64 h, .int .i64 mi, .int .i64 se, .int .i64 z] 23)).drewN nq).cell? ⟨w.heap.size, 5, none⟩ = some (.int .i64 se) := by go_simp
    have hB : Below w.heap.size w ((w.alloc (.cells #[.int .i64 y, .int .i64 mo, .int .i64 d, .int .i64 h, .int .i64 mi, .int .i64 se, .int .i64 z] 23)).drewN nq) := pw_below_drewN (below_alloc (Below.refl _ w) _) nq
    generalize (w.alloc (.cells #[.int .i64 y, .int .i64 mo, .int .i64 d, .int .i64 h, .int .i64 mi, .int .i64 se, .int .i64 z] 23)).drewN nq = w1 at *
    have HB := Lib.hid hB
    clear hB
    have hq1 : z.tdiv 60 = z / 60 := Int.tdiv_eq_ediv_of_nonneg z0
    have hq2 : z.tmod 60 = z % 60 := Int.tmod_eq_emod_of_nonneg z0
    have hq3 : IntKind.i64.wrap (z / 60) = z / 60 := IntWalk.i64_in _ ⟨by omega, by omega⟩
    have hq4 : IntKind.i64.wrap (z % 60) = z % 60 := IntWalk.i64_in _ ⟨by omega, by omega⟩
    go_region_held3 (fun w' => w'.cell? ⟨w.heap.size, 3, none⟩ = some (.int .i64 h) ∧ w'.cell? ⟨w.heap.size, 4, none⟩ = some (.int .i64 mi) ∧ w'.cell? ⟨w.heap.size, 5, none⟩ = some (.int .i64 se)) (go_keep) ((first | (go_at_call 87; (with_reducible refine (T1.out _).mono ?_); rintro e w2 ⟨rfl, hb⟩; have n0_ := Lib.hid (below_step (by repeat (first | (with_reducible exact HB.out) | (with_reducible apply below_drew) | (with_reducible apply pw_below_drewN) | exact HB.out)) hb); clear HB; have HB := n0_; clear n0_; have k3 := pw_cell_below hb (a := ⟨w.heap.size, 3, none⟩) (v := .int .i64 h) (by first | assumption | go_simp); have k4 := pw_cell_below hb (a := ⟨w.heap.size, 4, none⟩) (v := .int .i64 mi) (by first | assumption | go_simp); have k5 := pw_cell_below hb (a := ⟨w.heap.size, 5, none⟩) (v := .int .i64 se) (by first | assumption | go_simp); clear hb) | (go_at_call 87; (with_reducible refine (T2.out _).mono ?_); rintro e w3 ⟨rfl, hb⟩; have n0_ := Lib.hid (below_step (by repeat (first | (with_reducible exact HB.out) | (with_reducible apply below_drew) | (with_reducible apply pw_below_drewN) | exact HB.out)) hb); clear HB; have HB := n0_; clear n0_; have k3 := pw_cell_below hb (a := ⟨w.heap.size, 3, none⟩) (v := .int .i64 h) (by first | assumption | go_simp); have k4 := pw_cell_below hb (a := ⟨w.heap.size, 4, none⟩) (v := .int .i64 mi) (by first | assumption | go_simp); have k5 := pw_cell_below hb (a := ⟨w.heap.size, 5, none⟩) (v := .int .i64 se) (by first | assumption | go_simp); clear hb) | (go_at_call 87; (with_reducible refine (T3.out _).mono ?_); rintro e w4 ⟨rfl, hb⟩; have n0_ := Lib.hid (below_step (by repeat (first | (with_reducible exact HB.out) | (with_reducible apply below_drew) | (with_reducible apply pw_below_drewN) | exact HB.out)) hb); clear HB; have HB := n0_; clear n0_; have k3 := pw_cell_below hb (a := ⟨w.heap.size, 3, none⟩) (v := .int .i64 h) (by first | assumption | go_simp); have k4 := pw_cell_below hb (a := ⟨w.heap.size, 4, none⟩) (v := .int .i64 mi) (by first | assumption | go_simp); have k5 := pw_cell_below hb (a := ⟨w.heap.size, 5, none⟩) (v := .int .i64 se) (by first | assumption | go_simp); clear hb) | (go_at_call 87; (with_reducible refine (T4.out _).mono ?_); rintro e w5 ⟨rfl, hb⟩; have n0_ := Lib.hid (below_step (by repeat (first | (with_reducible exact HB.out) | (with_reducible apply below_drew) | (with_reducible apply pw_below_drewN) | exact HB.out)) hb); clear HB; have HB := n0_; clear n0_; have k3 := pw_cell_below hb (a := ⟨w.heap.size, 3, none⟩) (v := .int .i64 h) (by first | assumption | go_simp); have k4 := pw_cell_below hb (a := ⟨w.heap.size, 4, none⟩) (v := .int .i64 mi) (by first | assumption | go_simp); have k5 := pw_cell_below hb (a := ⟨w.heap.size, 5, none⟩) (v := .int .i64 se) (by first | assumption | go_simp); clear hb) | (go_at_call 87; (with_reducible refine (T5.out _).mono ?_); rintro e w6 ⟨rfl, hb⟩; have n0_ := Lib.hid (below_step (by repeat (first | (with_reducible exact HB.out) | (with_reducible apply below_drew) | (with_reducible apply pw_below_drewN) | exact HB.out)) hb); clear HB; have HB := n0_; clear n0_; have k3 := pw_cell_below hb (a := ⟨w.heap.size, 3, none⟩) (v := .int .i64 h) (by first | assumption | go_simp); have k4 := pw_cell_below hb (a := ⟨w.heap.size, 4, none⟩) (v := .int .i64 mi) (by first | assumption | go_simp); have k5 := pw_cell_below hb (a := ⟨w.heap.size, 5, none⟩) (v := .int .i64 se) (by first | assumption | go_simp); clear hb)))
    all_goals go_wp2
    all_goals go_ret
    all_goals exact ⟨by rw [HP.out]; rfl, HB.out⟩
def moment_clock.f (_y _mo _d h mi se z : Int) : Option ByteArray := if -1439 ≤ z ∧ z ≤ 1439 then some (clockP h mi se z) else none
theorem moment_clock.calls (a0_0 a0_1 a0_2 a0_3 a0_4 a0_5 a0_6 : Int) (r : ByteArray) (w : World) (h : moment_clock.f a0_0 a0_1 a0_2 a0_3 a0_4 a0_5 a0_6 = some r) :
    Calls Tryd.prog 64 #[.agg #[.int .i64 a0_0, .int .i64 a0_1, .int .i64 a0_2, .int .i64 a0_3, .int .i64 a0_4, .int .i64 a0_5, .int .i64 a0_6]] w fun e w' => e = .returned (.string r) ∧ Below w.heap.size w w' := by
  unfold moment_clock.f at h
  by_cases hz : -1439 ≤ a0_6 ∧ a0_6 ≤ 1439
  · rw [if_pos hz] at h
    obtain rfl := Option.some.inj h
    exact clock_calls _ _ _ _ _ _ _ w hz.1 hz.2
  · rw [if_neg hz] at h
    exact absurd h (by simp)
end Go.Proofs.YtjlchnmpebdggaaDoor.Mo
/- moment.PrintInternal: a moment as IMAP has it. -/
namespace Go.Proofs.YtjlchnmpebdggaaDoor.Mo
open Go.RowKit Go.Proofs.YtjlchnmpebdggaaDoorW.PrintWords
def internalT (y m d h mi s z : Int) : ByteArray := padP d ++ dashP y m ++ ⟨#[32]⟩ ++ clockP h mi s z
def printInternalP (y m d h mi s z : Int) : ByteArray × Int := if refuseP y m d h mi s z = 0 then (internalT y m d h mi s z, 0) else (⟨#[]⟩, refuseP y m d h mi s z)
theorem dashP_size (y m : Int) (h1 : 1 ≤ m) (h2 : m ≤ 12) : (dashP y m).size = 9 := by
  unfold dashP
  rw [ByteArray.size_append, ByteArray.size_append, ByteArray.size_append, month_size _ (by omega), fourP_size]
  rfl
theorem refuse_zero {y m d h mi s z : Int} (hr : refuseP y m d h mi s z = 0) : isDayB y m d = true ∧ validB y m d h mi s z = true := by
  unfold refuseP at hr
  split at hr
  · split at hr
    · exact ⟨‹_›, ‹_›⟩
    · exact absurd hr (by decide)
  · exact absurd hr (by decide)
set_option maxHeartbeats 4000000 in
set_option maxRecDepth 100000 in
theorem printInternal_calls (y m d h mi s z : Int) (w : World) (hL : Laid w) :
    Calls Tryd.prog 29 #[.agg #[.int .i64 y, .int .i64 m, .int .i64 d, .int .i64 h, .int .i64 mi, .int .i64 s, .int .i64 z]] w fun e w' => e = .returned (.tuple #[.string (printInternalP y m d h mi s z).1, .int .i64 (printInternalP y m d h mi s z).2]) ∧ Below w.heap.size w w' := by
  have HL := Lib.hid (laid_below hL (below_alloc (Below.refl _ w) (.cells #[.int .i64 y, .int .i64 m, .int .i64 d, .int .i64 h, .int .i64 mi, .int .i64 s, .int .i64 z] 23)))
  have HR := Lib.hid (refused_f y m d h mi s z)
  by_cases hr : refuseP y m d h mi s z = 0
  · obtain ⟨hd, hv⟩ := refuse_zero hr
    have hdd := (isDay_iff y m d).1 hd
    have htt := (time_iff h mi s z).1 ((valid_iff y m d h mi s z).1 hv).2
    have hp : printInternalP y m d h mi s z = (internalT y m d h mi s z, 0) := if_pos hr
    rw [hp]
    have hpl := plain_f d
    have hds := dashP_size y m (by omega) (by omega)
    have hda : moment_dashed.f y m d h mi s z = some (dashP y m) := if_pos ⟨by omega, by omega⟩
    have hck : moment_clock.f y m d h mi s z = some (clockP h mi s z) := if_pos ⟨by omega, by omega⟩
    have hcs := clockP_size h mi s z
    rw [hr] at HR
    have HPL := Lib.hid hpl
    have HDA := Lib.hid hda
    have HCK := Lib.hid hck
    have hps := plainP_size d
    have HI : Hid (internalT y m d h mi s z = (if (plainP d).size = 1 then (⟨#[32]⟩ : ByteArray) ++ plainP d else plainP d) ++ dashP y m ++ ⟨#[32]⟩ ++ clockP h mi s z) := Lib.hid rfl
    generalize plainP d = pd at *
    generalize dashP y m = da at *
    generalize clockP h mi s z = ck at *
    clear hL hr hd hv hdd htt hp hpl hda hck
    have arm : True := trivial
    rcases hps with h1 | h2
    · have e : Hid (internalT y m d h mi s z = (⟨#[32]⟩ : ByteArray) ++ pd ++ da ++ ⟨#[32]⟩ ++ ck) := Lib.hid (by rw [HI.out, if_pos h1])
      clear HI
      go_enter Tryd.func29, Tryd.ntmps29
      go_wp2_with fail
      refine (moment_refused.calls _ _ _ _ _ _ _ 0 _ HR.out HL.out).mono ?_
      rintro e1 w1 ⟨rfl, hb1⟩
      have HB1 := Lib.hid (below_step (below_alloc (Below.refl _ w) _) hb1)
      have hbx := (hb1.block w.heap.size (by simp)).trans (heap_alloc_new w _)
      obtain ⟨⟨c0, c1, c2, c3, c4, c5, c6⟩, _⟩ := cells7 hbx
      have HBX := Lib.hid hbx
      clear hb1 hbx
      go_wp2_with fail
      refine (moment_plain.calls _ pd _ HPL.out).mono ?_
      rintro e1 w2 ⟨rfl, hb1⟩
      have HB := Lib.hid (below_step HB1.out hb1)
      have hbx := (hb1.block w.heap.size (blk_lt HBX.out)).trans HBX.out
      clear c0 c1 c2 c3 c4 c5 c6 HB1 HBX
      obtain ⟨⟨c0, c1, c2, c3, c4, c5, c6⟩, _⟩ := cells7 hbx
      clear hb1 hbx
      go_wp2_with fail
      go_region_held3 (fun w' => w'.cell? ⟨w.heap.size, 0, none⟩ = some (.int .i64 y) ∧ w'.cell? ⟨w.heap.size, 1, none⟩ = some (.int .i64 m) ∧ w'.cell? ⟨w.heap.size, 2, none⟩ = some (.int .i64 d) ∧ w'.cell? ⟨w.heap.size, 3, none⟩ = some (.int .i64 h) ∧ w'.cell? ⟨w.heap.size, 4, none⟩ = some (.int .i64 mi) ∧ w'.cell? ⟨w.heap.size, 5, none⟩ = some (.int .i64 s) ∧ w'.cell? ⟨w.heap.size, 6, none⟩ = some (.int .i64 z)) (go_keep) ((first | (go_at_call 50; (with_reducible refine (moment_dashed.calls y m d h mi s z _ _ HDA.out).mono ?_); rintro e1 w3 ⟨rfl, hb⟩; have n0_ := Lib.hid (below_step (by repeat (first | (with_reducible exact HB.out) | (with_reducible apply below_drew) | (with_reducible apply pw_below_drewN) | exact HB.out)) hb); clear HB; have HB := n0_; clear n0_; have k0 := pw_cell_below hb (a := ⟨w.heap.size, 0, none⟩) (v := .int .i64 y) (by first | assumption | go_simp); have k1 := pw_cell_below hb (a := ⟨w.heap.size, 1, none⟩) (v := .int .i64 m) (by first | assumption | go_simp); have k2 := pw_cell_below hb (a := ⟨w.heap.size, 2, none⟩) (v := .int .i64 d) (by first | assumption | go_simp); have k3 := pw_cell_below hb (a := ⟨w.heap.size, 3, none⟩) (v := .int .i64 h) (by first | assumption | go_simp); have k4 := pw_cell_below hb (a := ⟨w.heap.size, 4, none⟩) (v := .int .i64 mi) (by first | assumption | go_simp); have k5 := pw_cell_below hb (a := ⟨w.heap.size, 5, none⟩) (v := .int .i64 s) (by first | assumption | go_simp); have k6 := pw_cell_below hb (a := ⟨w.heap.size, 6, none⟩) (v := .int .i64 z) (by first | assumption | go_simp); clear hb) | (go_at_call 64; (with_reducible refine (moment_clock.calls y m d h mi s z _ _ HCK.out).mono ?_); rintro e1 w4 ⟨rfl, hb⟩; have n0_ := Lib.hid (below_step (by repeat (first | (with_reducible exact HB.out) | (with_reducible apply below_drew) | (with_reducible apply pw_below_drewN) | exact HB.out)) hb); clear HB; have HB := n0_; clear n0_; have k0 := pw_cell_below hb (a := ⟨w.heap.size, 0, none⟩) (v := .int .i64 y) (by first | assumption | go_simp); have k1 := pw_cell_below hb (a := ⟨w.heap.size, 1, none⟩) (v := .int .i64 m) (by first | assumption | go_simp); have k2 := pw_cell_below hb (a := ⟨w.heap.size, 2, none⟩) (v := .int .i64 d) (by first | assumption | go_simp); have k3 := pw_cell_below hb (a := ⟨w.heap.size, 3, none⟩) (v := .int .i64 h) (by first | assumption | go_simp); have k4 := pw_cell_below hb (a := ⟨w.heap.size, 4, none⟩) (v := .int .i64 mi) (by first | assumption | go_simp); have k5 := pw_cell_below hb (a := ⟨w.heap.size, 5, none⟩) (v := .int .i64 s) (by first | assumption | go_simp); have k6 := pw_cell_below hb (a := ⟨w.heap.size, 6, none⟩) (v := .int .i64 z) (by first | assumption | go_simp); clear hb)))
      all_goals go_wp2
      all_goals go_ret2
      all_goals exact ⟨by rw [e.out]; rfl, HB.out⟩
    · have e : Hid (internalT y m d h mi s z = pd ++ da ++ ⟨#[32]⟩ ++ ck) := Lib.hid (by rw [HI.out, if_neg (by omega)])
      clear HI
      go_enter Tryd.func29, Tryd.ntmps29
      go_wp2_with fail
      refine (moment_refused.calls _ _ _ _ _ _ _ 0 _ HR.out HL.out).mono ?_
      rintro e1 w1 ⟨rfl, hb1⟩
      have HB1 := Lib.hid (below_step (below_alloc (Below.refl _ w) _) hb1)
      have hbx := (hb1.block w.heap.size (by simp)).trans (heap_alloc_new w _)
      obtain ⟨⟨c0, c1, c2, c3, c4, c5, c6⟩, _⟩ := cells7 hbx
      have HBX := Lib.hid hbx
      clear hb1 hbx
      go_wp2_with fail
      refine (moment_plain.calls _ pd _ HPL.out).mono ?_
      rintro e1 w2 ⟨rfl, hb1⟩
      have HB := Lib.hid (below_step HB1.out hb1)
      have hbx := (hb1.block w.heap.size (blk_lt HBX.out)).trans HBX.out
      clear c0 c1 c2 c3 c4 c5 c6 HB1 HBX
      obtain ⟨⟨c0, c1, c2, c3, c4, c5, c6⟩, _⟩ := cells7 hbx
      clear hb1 hbx
      go_wp2_with fail
      go_region_held3 (fun w' => w'.cell? ⟨w.heap.size, 0, none⟩ = some (.int .i64 y) ∧ w'.cell? ⟨w.heap.size, 1, none⟩ = some (.int .i64 m) ∧ w'.cell? ⟨w.heap.size, 2, none⟩ = some (.int .i64 d) ∧ w'.cell? ⟨w.heap.size, 3, none⟩ = some (.int .i64 h) ∧ w'.cell? ⟨w.heap.size, 4, none⟩ = some (.int .i64 mi) ∧ w'.cell? ⟨w.heap.size, 5, none⟩ = some (.int .i64 s) ∧ w'.cell? ⟨w.heap.size, 6, none⟩ = some (.int .i64 z)) (go_keep) ((first | (go_at_call 50; (with_reducible refine (moment_dashed.calls y m d h mi s z _ _ HDA.out).mono ?_); rintro e1 w3 ⟨rfl, hb⟩; have n0_ := Lib.hid (below_step (by repeat (first | (with_reducible exact HB.out) | (with_reducible apply below_drew) | (with_reducible apply pw_below_drewN) | exact HB.out)) hb); clear HB; have HB := n0_; clear n0_; have k0 := pw_cell_below hb (a := ⟨w.heap.size, 0, none⟩) (v := .int .i64 y) (by first | assumption | go_simp); have k1 := pw_cell_below hb (a := ⟨w.heap.size, 1, none⟩) (v := .int .i64 m) (by first | assumption | go_simp); have k2 := pw_cell_below hb (a := ⟨w.heap.size, 2, none⟩) (v := .int .i64 d) (by first | assumption | go_simp); have k3 := pw_cell_below hb (a := ⟨w.heap.size, 3, none⟩) (v := .int .i64 h) (by first | assumption | go_simp); have k4 := pw_cell_below hb (a := ⟨w.heap.size, 4, none⟩) (v := .int .i64 mi) (by first | assumption | go_simp); have k5 := pw_cell_below hb (a := ⟨w.heap.size, 5, none⟩) (v := .int .i64 s) (by first | assumption | go_simp); have k6 := pw_cell_below hb (a := ⟨w.heap.size, 6, none⟩) (v := .int .i64 z) (by first | assumption | go_simp); clear hb) | (go_at_call 64; (with_reducible refine (moment_clock.calls y m d h mi s z _ _ HCK.out).mono ?_); rintro e1 w4 ⟨rfl, hb⟩; have n0_ := Lib.hid (below_step (by repeat (first | (with_reducible exact HB.out) | (with_reducible apply below_drew) | (with_reducible apply pw_below_drewN) | exact HB.out)) hb); clear HB; have HB := n0_; clear n0_; have k0 := pw_cell_below hb (a := ⟨w.heap.size, 0, none⟩) (v := .int .i64 y) (by first | assumption | go_simp); have k1 := pw_cell_below hb (a := ⟨w.heap.size, 1, none⟩) (v := .int .i64 m) (by first | assumption | go_simp); have k2 := pw_cell_below hb (a := ⟨w.heap.size, 2, none⟩) (v := .int .i64 d) (by first | assumption | go_simp); have k3 := pw_cell_below hb (a := ⟨w.heap.size, 3, none⟩) (v := .int .i64 h) (by first | assumption | go_simp); have k4 := pw_cell_below hb (a := ⟨w.heap.size, 4, none⟩) (v := .int .i64 mi) (by first | assumption | go_simp); have k5 := pw_cell_below hb (a := ⟨w.heap.size, 5, none⟩) (v := .int .i64 s) (by first | assumption | go_simp); have k6 := pw_cell_below hb (a := ⟨w.heap.size, 6, none⟩) (v := .int .i64 z) (by first | assumption | go_simp); clear hb)))
      all_goals go_wp2
      all_goals go_ret2
      all_goals exact ⟨by rw [e.out]; rfl, HB.out⟩
  · have hp : printInternalP y m d h mi s z = (⟨#[]⟩, refuseP y m d h mi s z) := if_neg hr
    rw [hp]
    generalize refuseP y m d h mi s z = q at *
    have hq : (q != 0) = true := by rw [bne_iff_ne]; exact hr
    clear hL hp hr
    go_enter Tryd.func29, Tryd.ntmps29
    go_wp2_with fail
    refine (moment_refused.calls _ _ _ _ _ _ _ q _ HR.out HL.out).mono ?_
    rintro e1 w1 ⟨rfl, hb1⟩
    have HB1 := Lib.hid (below_step (below_alloc (Below.refl _ w) _) hb1)
    clear hb1
    go_wp2
    go_ret2
    exact ⟨rfl, HB1.out⟩
def moment_PrintInternal.f (y m d h mi s z : Int) : Option (ByteArray × Int) := some (printInternalP y m d h mi s z)
theorem moment_PrintInternal.calls (a0_0 a0_1 a0_2 a0_3 a0_4 a0_5 a0_6 : Int) (r1 : ByteArray) (r2 : Int) (w : World) (h : moment_PrintInternal.f a0_0 a0_1 a0_2 a0_3 a0_4 a0_5 a0_6 = some (r1, r2)) (hL : Laid w) :
    Calls Tryd.prog 29 #[.agg #[.int .i64 a0_0, .int .i64 a0_1, .int .i64 a0_2, .int .i64 a0_3, .int .i64 a0_4, .int .i64 a0_5, .int .i64 a0_6]] w fun e w' => e = .returned (.tuple #[.string r1, .int .i64 r2]) ∧ Below w.heap.size w w' := by
  have h := Option.some.inj h
  have h2 := printInternal_calls a0_0 a0_1 a0_2 a0_3 a0_4 a0_5 a0_6 w hL
  rw [h] at h2
  exact h2
end Go.Proofs.YtjlchnmpebdggaaDoor.Mo
/- postbaglaw2.known: it answers true. -/
namespace Go.Proofs.YtjlchnmpebdggaaDoor.Mo
open Go.RowKit Go.Proofs.YtjlchnmpebdggaaDoorW.PrintWords
def text1 : ByteArray := ⟨#[32, 49, 45, 70, 101, 98, 45, 50, 48, 50, 54, 32, 49, 48, 58, 48, 48, 58, 48, 48, 32, 43, 48, 49, 48, 48]⟩
def text2 : ByteArray := ⟨#[49, 32, 70, 101, 98, 32, 50, 48, 50, 54, 32, 49, 48, 58, 48, 48, 32, 43, 48, 49, 48, 48]⟩
theorem kn_print : moment_PrintInternal.f 2026 2 1 10 0 0 60 = some (text1, 0) := by kernel_rfl
theorem kn_read : moment_ReadInternal.f text1 = some (2026, 2, 1, 10, 0, 0, 60, 0) := by kernel_rfl
theorem kn_head : moment_ReadHeader.f text2 = some (2026, 2, 1, 10, 0, 0, 60, 0) := by kernel_rfl
theorem kn_valid : moment_Valid.f 2026 2 1 10 0 0 60 = some true := by kernel_rfl
theorem kn_week : moment_Weekday.f 20 2026 2 1 10 0 0 60 = some 0 := by kernel_rfl
theorem kn_days : moment_Days.f 20 2026 2 1 10 0 0 60 = some 20485 := by kernel_rfl
set_option maxHeartbeats 4000000 in
set_option maxRecDepth 100000 in
theorem known_calls (w : World) (hL : Laid w) : Calls Tryd.prog 15 #[] w fun e w' => e = .returned (.bool true) ∧ Below w.heap.size w w' := by
  have HL := Lib.hid hL
  clear hL
  have K1 := Lib.hid kn_print
  have K2 := Lib.hid kn_read
  have K3 := Lib.hid kn_head
  have K4 := Lib.hid kn_valid
  have K5 := Lib.hid kn_week
  have K6 := Lib.hid kn_days
  go_enter Tryd.func15, Tryd.ntmps15
  go_wp2_with fail
  have HA := Lib.hid (heap_alloc_new w (.cells #[.int .i64 2026, .int .i64 2, .int .i64 1, .int .i64 10, .int .i64 0, .int .i64 0, .int .i64 60] 23))
  have HB := Lib.hid (below_alloc (Below.refl _ w) (.cells #[.int .i64 2026, .int .i64 2, .int .i64 1, .int .i64 10, .int .i64 0, .int .i64 0, .int .i64 60] 23))
  generalize w.alloc (.cells #[.int .i64 2026, .int .i64 2, .int .i64 1, .int .i64 10, .int .i64 0, .int .i64 0, .int .i64 60] 23) = w0 at *
  refine (moment_PrintInternal.calls 2026 2 1 10 0 0 60 text1 0 _ K1.out (laid_below HL.out (by repeat (first | (with_reducible exact HB.out) | (with_reducible apply below_drew) | (with_reducible apply pw_below_drewN) | exact HB.out)))).mono ?_
  rintro e w1 ⟨rfl, hb⟩
  have n0_ := Lib.hid (below_step (by repeat (first | (with_reducible exact HB.out) | (with_reducible apply below_drew) | (with_reducible apply pw_below_drewN) | exact HB.out)) hb)
  clear HB
  have HB := n0_
  clear n0_
  have n0_ := Lib.hid ((hb.block _ (blk_lt HA.out)).trans HA.out)
  clear HA
  have HA := n0_
  clear n0_
  clear hb
  go_wp2_with fail
  refine (moment_ReadInternal.calls text1 2026 2 1 10 0 0 60 0 _ K2.out (laid_below HL.out (by repeat (first | (with_reducible exact HB.out) | (with_reducible apply below_drew) | (with_reducible apply pw_below_drewN) | exact HB.out)))).mono ?_
  rintro e w2 ⟨rfl, hb⟩
  have n0_ := Lib.hid (below_step (by repeat (first | (with_reducible exact HB.out) | (with_reducible apply below_drew) | (with_reducible apply pw_below_drewN) | exact HB.out)) hb)
  clear HB
  have HB := n0_
  clear n0_
  have n0_ := Lib.hid ((hb.block _ (blk_lt HA.out)).trans HA.out)
  clear HA
  have HA := n0_
  clear n0_
  clear hb
  go_wp2_with fail
  have n1_ := Lib.hid (heap_alloc_new w2 (.cells #[.int .i64 2026, .int .i64 2, .int .i64 1, .int .i64 10, .int .i64 0, .int .i64 0, .int .i64 60] 23))
  have n0_ := Lib.hid ((Below.heap_alloc w2 (.cells #[.int .i64 2026, .int .i64 2, .int .i64 1, .int .i64 10, .int .i64 0, .int .i64 0, .int .i64 60] 23) _ (blk_lt HA.out)).trans HA.out)
  clear HA
  have HA := n0_
  clear n0_
  have HX := n1_
  clear n1_
  have n0_ := Lib.hid (below_alloc HB.out (.cells #[.int .i64 2026, .int .i64 2, .int .i64 1, .int .i64 10, .int .i64 0, .int .i64 0, .int .i64 60] 23))
  clear HB
  have HB := n0_
  clear n0_
  generalize w2.alloc (.cells #[.int .i64 2026, .int .i64 2, .int .i64 1, .int .i64 10, .int .i64 0, .int .i64 0, .int .i64 60] 23) = w3 at *
  refine (moment_ReadHeader.calls text2 2026 2 1 10 0 0 60 0 _ K3.out (laid_below HL.out (by repeat (first | (with_reducible exact HB.out) | (with_reducible apply below_drew) | (with_reducible apply pw_below_drewN) | exact HB.out)))).mono ?_
  rintro e w4 ⟨rfl, hb⟩
  have n0_ := Lib.hid (below_step (by repeat (first | (with_reducible exact HB.out) | (with_reducible apply below_drew) | (with_reducible apply pw_below_drewN) | exact HB.out)) hb)
  clear HB
  have HB := n0_
  clear n0_
  have n0_ := Lib.hid ((hb.block _ (blk_lt HA.out)).trans HA.out)
  clear HA
  have HA := n0_
  clear n0_
  have n0_ := Lib.hid ((hb.block _ (blk_lt HX.out)).trans HX.out)
  clear HX
  have HX := n0_
  clear n0_
  clear hb
  go_upto_region 5 with fail
  have n1_ := Lib.hid (heap_alloc_new w4 (.cells #[.int .i64 2026, .int .i64 2, .int .i64 1, .int .i64 10, .int .i64 0, .int .i64 0, .int .i64 60] 23))
  have n0_ := Lib.hid ((Below.heap_alloc w4 (.cells #[.int .i64 2026, .int .i64 2, .int .i64 1, .int .i64 10, .int .i64 0, .int .i64 0, .int .i64 60] 23) _ (blk_lt HA.out)).trans HA.out)
  clear HA
  have HA := n0_
  clear n0_
  have n0_ := Lib.hid ((Below.heap_alloc w4 (.cells #[.int .i64 2026, .int .i64 2, .int .i64 1, .int .i64 10, .int .i64 0, .int .i64 0, .int .i64 60] 23) _ (blk_lt HX.out)).trans HX.out)
  clear HX
  have HX := n0_
  clear n0_
  have HH := n1_
  clear n1_
  have n0_ := Lib.hid (below_alloc HB.out (.cells #[.int .i64 2026, .int .i64 2, .int .i64 1, .int .i64 10, .int .i64 0, .int .i64 0, .int .i64 60] 23))
  clear HB
  have HB := n0_
  clear n0_
  generalize w4.alloc (.cells #[.int .i64 2026, .int .i64 2, .int .i64 1, .int .i64 10, .int .i64 0, .int .i64 0, .int .i64 60] 23) = w5 at *
  obtain ⟨⟨a0, a1, a2, a3, a4, a5, a6⟩, _⟩ := cells7 HA.out
  obtain ⟨⟨x0, x1, x2, x3, x4, x5, x6⟩, _⟩ := cells7 HX.out
  obtain ⟨⟨y0, y1, y2, y3, y4, y5, y6⟩, _⟩ := cells7 HH.out
  go_wp2_with fail
  clear a0 a1 a2 a3 a4 a5 a6
  clear x0 x1 x2 x3 x4 x5 x6
  clear y0 y1 y2 y3 y4 y5 y6
  refine (moment_Valid.calls 2026 2 1 10 0 0 60 true _ K4.out (laid_below HL.out (by repeat (first | (with_reducible exact HB.out) | (with_reducible apply below_drew) | (with_reducible apply pw_below_drewN) | exact HB.out)))).mono ?_
  rintro e w6 ⟨rfl, hb⟩
  have n0_ := Lib.hid (below_step (by repeat (first | (with_reducible exact HB.out) | (with_reducible apply below_drew) | (with_reducible apply pw_below_drewN) | exact HB.out)) hb)
  clear HB
  have HB := n0_
  clear n0_
  have n0_ := Lib.hid ((hb.block _ (blk_lt HA.out)).trans HA.out)
  clear HA
  have HA := n0_
  clear n0_
  clear hb
  obtain ⟨⟨a0, a1, a2, a3, a4, a5, a6⟩, _⟩ := cells7 HA.out
  go_wp2_with fail
  clear a0 a1 a2 a3 a4 a5 a6
  refine (moment_Weekday.calls 20 2026 2 1 10 0 0 60 0 _ K5.out (laid_below HL.out (by repeat (first | (with_reducible exact HB.out) | (with_reducible apply below_drew) | (with_reducible apply pw_below_drewN) | exact HB.out)))).mono ?_
  rintro e w7 ⟨rfl, hb⟩
  have n0_ := Lib.hid (below_step (by repeat (first | (with_reducible exact HB.out) | (with_reducible apply below_drew) | (with_reducible apply pw_below_drewN) | exact HB.out)) hb)
  clear HB
  have HB := n0_
  clear n0_
  have n0_ := Lib.hid ((hb.block _ (blk_lt HA.out)).trans HA.out)
  clear HA
  have HA := n0_
  clear n0_
  clear hb
  obtain ⟨⟨a0, a1, a2, a3, a4, a5, a6⟩, _⟩ := cells7 HA.out
  go_wp2_with fail
  clear a0 a1 a2 a3 a4 a5 a6
  refine (moment_Days.calls 20 2026 2 1 10 0 0 60 20485 _ K6.out (laid_below HL.out (by repeat (first | (with_reducible exact HB.out) | (with_reducible apply below_drew) | (with_reducible apply pw_below_drewN) | exact HB.out)))).mono ?_
  rintro e w8 ⟨rfl, hb⟩
  have n0_ := Lib.hid (below_step (by repeat (first | (with_reducible exact HB.out) | (with_reducible apply below_drew) | (with_reducible apply pw_below_drewN) | exact HB.out)) hb)
  clear HB
  have HB := n0_
  clear n0_
  have n0_ := Lib.hid ((hb.block _ (blk_lt HA.out)).trans HA.out)
  clear HA
  have HA := n0_
  clear n0_
  clear hb
  go_wp2
  go_ret
  exact ⟨rfl, HB.out⟩
def postbaglaw2_known.f : Option Bool := some true
theorem postbaglaw2_known.calls (r : Bool) (w : World) (h : postbaglaw2_known.f = some r) (hL : Laid w) :
    Calls Tryd.prog 15 #[] w fun e w' => e = .returned (.bool r) ∧ Below w.heap.size w w' := by
  obtain rfl : true = r := Option.some.inj h
  exact known_calls w hL
end Go.Proofs.YtjlchnmpebdggaaDoor.Mo
/- postbaglaw2.counted and MomentCounts: the program counts as the document does. -/
namespace Go.Proofs.YtjlchnmpebdggaaDoor.Mo
open Go.RowKit Go.Proofs.YtjlchnmpebdggaaDoorW.PrintWords
set_option maxHeartbeats 8000000 in
set_option maxRecDepth 100000 in
theorem counted_calls (y m d h mi s z : Int) (w : World) (hL : Laid w) :
    Calls Tryd.prog 17 #[.agg #[.int .i64 y, .int .i64 m, .int .i64 d, .int .i64 h, .int .i64 mi, .int .i64 s, .int .i64 z]] w fun e w' => e = .returned (.bool true) ∧ Below w.heap.size w w' := by
  have HL := Lib.hid hL
  have H1 := Lib.hid (valid_f y m d h mi s z)
  have H2 := Lib.hid (valid_ref 20000 (by omega) y m d h mi s z)
  have H3 := Lib.hid (days_f 20000 (by omega) y m d h mi s z)
  have H4 := Lib.hid (days_ref 20000 (by omega) y m d h mi s z)
  have H5 := Lib.hid (week_f 20000 (by omega) y m d h mi s z)
  have H6 := Lib.hid (week_ref 20000 (by omega) y m d h mi s z)
  have H7 := Lib.hid (stamp_f 20000 (by omega) y m d h mi s z)
  have H8 := Lib.hid (stamp_ref 20000 (by omega) y m d h mi s z)
  generalize validB y m d h mi s z = VB at *
  generalize daysV y m d h mi s z = VD at *
  generalize weekP7 y m d h mi s z = VW at *
  generalize stampP y m d h mi s z = VS at *
  clear hL
  have HB := Lib.hid (below_alloc (Below.refl _ w) (.cells #[.int .i64 y, .int .i64 m, .int .i64 d, .int .i64 h, .int .i64 mi, .int .i64 s, .int .i64 z] 23))
  go_enter Tryd.func17, Tryd.ntmps17
  go_wp2_with fail
  go_region_held3 (fun w' => w'.cell? ⟨w.heap.size, 0, none⟩ = some (.int .i64 y) ∧ w'.cell? ⟨w.heap.size, 1, none⟩ = some (.int .i64 m) ∧ w'.cell? ⟨w.heap.size, 2, none⟩ = some (.int .i64 d) ∧ w'.cell? ⟨w.heap.size, 3, none⟩ = some (.int .i64 h) ∧ w'.cell? ⟨w.heap.size, 4, none⟩ = some (.int .i64 mi) ∧ w'.cell? ⟨w.heap.size, 5, none⟩ = some (.int .i64 s) ∧ w'.cell? ⟨w.heap.size, 6, none⟩ = some (.int .i64 z)) (go_keep) ((first | (go_at_call 19; (with_reducible refine (moment_Valid.calls y m d h mi s z VB _ H1.out (laid_below HL.out (by repeat (first | (with_reducible exact HB.out) | (with_reducible apply below_drew) | (with_reducible apply pw_below_drewN) | exact HB.out)))).mono ?_); rintro e w19 ⟨rfl, hb⟩; have n0_ := Lib.hid (below_step (by repeat (first | (with_reducible exact HB.out) | (with_reducible apply below_drew) | (with_reducible apply pw_below_drewN) | exact HB.out)) hb); clear HB; have HB := n0_; clear n0_; have k0 := pw_cell_below hb (a := ⟨w.heap.size, 0, none⟩) (v := .int .i64 y) (by first | assumption | go_simp); have k1 := pw_cell_below hb (a := ⟨w.heap.size, 1, none⟩) (v := .int .i64 m) (by first | assumption | go_simp); have k2 := pw_cell_below hb (a := ⟨w.heap.size, 2, none⟩) (v := .int .i64 d) (by first | assumption | go_simp); have k3 := pw_cell_below hb (a := ⟨w.heap.size, 3, none⟩) (v := .int .i64 h) (by first | assumption | go_simp); have k4 := pw_cell_below hb (a := ⟨w.heap.size, 4, none⟩) (v := .int .i64 mi) (by first | assumption | go_simp); have k5 := pw_cell_below hb (a := ⟨w.heap.size, 5, none⟩) (v := .int .i64 s) (by first | assumption | go_simp); have k6 := pw_cell_below hb (a := ⟨w.heap.size, 6, none⟩) (v := .int .i64 z) (by first | assumption | go_simp); clear hb) | (go_at_call 40; (with_reducible refine (postbagref2_Valid.calls 20000 y m d h mi s z VB _ H2.out).mono ?_); rintro e w40 ⟨rfl, hb⟩; have n0_ := Lib.hid (below_step (by repeat (first | (with_reducible exact HB.out) | (with_reducible apply below_drew) | (with_reducible apply pw_below_drewN) | exact HB.out)) hb); clear HB; have HB := n0_; clear n0_; have k0 := pw_cell_below hb (a := ⟨w.heap.size, 0, none⟩) (v := .int .i64 y) (by first | assumption | go_simp); have k1 := pw_cell_below hb (a := ⟨w.heap.size, 1, none⟩) (v := .int .i64 m) (by first | assumption | go_simp); have k2 := pw_cell_below hb (a := ⟨w.heap.size, 2, none⟩) (v := .int .i64 d) (by first | assumption | go_simp); have k3 := pw_cell_below hb (a := ⟨w.heap.size, 3, none⟩) (v := .int .i64 h) (by first | assumption | go_simp); have k4 := pw_cell_below hb (a := ⟨w.heap.size, 4, none⟩) (v := .int .i64 mi) (by first | assumption | go_simp); have k5 := pw_cell_below hb (a := ⟨w.heap.size, 5, none⟩) (v := .int .i64 s) (by first | assumption | go_simp); have k6 := pw_cell_below hb (a := ⟨w.heap.size, 6, none⟩) (v := .int .i64 z) (by first | assumption | go_simp); clear hb) | (go_at_call 20; (with_reducible refine (moment_Days.calls 20000 y m d h mi s z VD _ H3.out (laid_below HL.out (by repeat (first | (with_reducible exact HB.out) | (with_reducible apply below_drew) | (with_reducible apply pw_below_drewN) | exact HB.out)))).mono ?_); rintro e w20 ⟨rfl, hb⟩; have n0_ := Lib.hid (below_step (by repeat (first | (with_reducible exact HB.out) | (with_reducible apply below_drew) | (with_reducible apply pw_below_drewN) | exact HB.out)) hb); clear HB; have HB := n0_; clear n0_; have k0 := pw_cell_below hb (a := ⟨w.heap.size, 0, none⟩) (v := .int .i64 y) (by first | assumption | go_simp); have k1 := pw_cell_below hb (a := ⟨w.heap.size, 1, none⟩) (v := .int .i64 m) (by first | assumption | go_simp); have k2 := pw_cell_below hb (a := ⟨w.heap.size, 2, none⟩) (v := .int .i64 d) (by first | assumption | go_simp); have k3 := pw_cell_below hb (a := ⟨w.heap.size, 3, none⟩) (v := .int .i64 h) (by first | assumption | go_simp); have k4 := pw_cell_below hb (a := ⟨w.heap.size, 4, none⟩) (v := .int .i64 mi) (by first | assumption | go_simp); have k5 := pw_cell_below hb (a := ⟨w.heap.size, 5, none⟩) (v := .int .i64 s) (by first | assumption | go_simp); have k6 := pw_cell_below hb (a := ⟨w.heap.size, 6, none⟩) (v := .int .i64 z) (by first | assumption | go_simp); clear hb) | (go_at_call 41; (with_reducible refine (postbagref2_Days.calls 20000 y m d h mi s z VD _ H4.out).mono ?_); rintro e w41 ⟨rfl, hb⟩; have n0_ := Lib.hid (below_step (by repeat (first | (with_reducible exact HB.out) | (with_reducible apply below_drew) | (with_reducible apply pw_below_drewN) | exact HB.out)) hb); clear HB; have HB := n0_; clear n0_; have k0 := pw_cell_below hb (a := ⟨w.heap.size, 0, none⟩) (v := .int .i64 y) (by first | assumption | go_simp); have k1 := pw_cell_below hb (a := ⟨w.heap.size, 1, none⟩) (v := .int .i64 m) (by first | assumption | go_simp); have k2 := pw_cell_below hb (a := ⟨w.heap.size, 2, none⟩) (v := .int .i64 d) (by first | assumption | go_simp); have k3 := pw_cell_below hb (a := ⟨w.heap.size, 3, none⟩) (v := .int .i64 h) (by first | assumption | go_simp); have k4 := pw_cell_below hb (a := ⟨w.heap.size, 4, none⟩) (v := .int .i64 mi) (by first | assumption | go_simp); have k5 := pw_cell_below hb (a := ⟨w.heap.size, 5, none⟩) (v := .int .i64 s) (by first | assumption | go_simp); have k6 := pw_cell_below hb (a := ⟨w.heap.size, 6, none⟩) (v := .int .i64 z) (by first | assumption | go_simp); clear hb) | (go_at_call 21; (with_reducible refine (moment_Weekday.calls 20000 y m d h mi s z VW _ H5.out (laid_below HL.out (by repeat (first | (with_reducible exact HB.out) | (with_reducible apply below_drew) | (with_reducible apply pw_below_drewN) | exact HB.out)))).mono ?_); rintro e w21 ⟨rfl, hb⟩; have n0_ := Lib.hid (below_step (by repeat (first | (with_reducible exact HB.out) | (with_reducible apply below_drew) | (with_reducible apply pw_below_drewN) | exact HB.out)) hb); clear HB; have HB := n0_; clear n0_; have k0 := pw_cell_below hb (a := ⟨w.heap.size, 0, none⟩) (v := .int .i64 y) (by first | assumption | go_simp); have k1 := pw_cell_below hb (a := ⟨w.heap.size, 1, none⟩) (v := .int .i64 m) (by first | assumption | go_simp); have k2 := pw_cell_below hb (a := ⟨w.heap.size, 2, none⟩) (v := .int .i64 d) (by first | assumption | go_simp); have k3 := pw_cell_below hb (a := ⟨w.heap.size, 3, none⟩) (v := .int .i64 h) (by first | assumption | go_simp); have k4 := pw_cell_below hb (a := ⟨w.heap.size, 4, none⟩) (v := .int .i64 mi) (by first | assumption | go_simp); have k5 := pw_cell_below hb (a := ⟨w.heap.size, 5, none⟩) (v := .int .i64 s) (by first | assumption | go_simp); have k6 := pw_cell_below hb (a := ⟨w.heap.size, 6, none⟩) (v := .int .i64 z) (by first | assumption | go_simp); clear hb) | (go_at_call 42; (with_reducible refine (postbagref2_Weekday.calls 20000 y m d h mi s z VW _ H6.out).mono ?_); rintro e w42 ⟨rfl, hb⟩; have n0_ := Lib.hid (below_step (by repeat (first | (with_reducible exact HB.out) | (with_reducible apply below_drew) | (with_reducible apply pw_below_drewN) | exact HB.out)) hb); clear HB; have HB := n0_; clear n0_; have k0 := pw_cell_below hb (a := ⟨w.heap.size, 0, none⟩) (v := .int .i64 y) (by first | assumption | go_simp); have k1 := pw_cell_below hb (a := ⟨w.heap.size, 1, none⟩) (v := .int .i64 m) (by first | assumption | go_simp); have k2 := pw_cell_below hb (a := ⟨w.heap.size, 2, none⟩) (v := .int .i64 d) (by first | assumption | go_simp); have k3 := pw_cell_below hb (a := ⟨w.heap.size, 3, none⟩) (v := .int .i64 h) (by first | assumption | go_simp); have k4 := pw_cell_below hb (a := ⟨w.heap.size, 4, none⟩) (v := .int .i64 mi) (by first | assumption | go_simp); have k5 := pw_cell_below hb (a := ⟨w.heap.size, 5, none⟩) (v := .int .i64 s) (by first | assumption | go_simp); have k6 := pw_cell_below hb (a := ⟨w.heap.size, 6, none⟩) (v := .int .i64 z) (by first | assumption | go_simp); clear hb) | (go_at_call 22; (with_reducible refine (moment_Stamp.calls 20000 y m d h mi s z VS _ H7.out (laid_below HL.out (by repeat (first | (with_reducible exact HB.out) | (with_reducible apply below_drew) | (with_reducible apply pw_below_drewN) | exact HB.out)))).mono ?_); rintro e w22 ⟨rfl, hb⟩; have n0_ := Lib.hid (below_step (by repeat (first | (with_reducible exact HB.out) | (with_reducible apply below_drew) | (with_reducible apply pw_below_drewN) | exact HB.out)) hb); clear HB; have HB := n0_; clear n0_; have k0 := pw_cell_below hb (a := ⟨w.heap.size, 0, none⟩) (v := .int .i64 y) (by first | assumption | go_simp); have k1 := pw_cell_below hb (a := ⟨w.heap.size, 1, none⟩) (v := .int .i64 m) (by first | assumption | go_simp); have k2 := pw_cell_below hb (a := ⟨w.heap.size, 2, none⟩) (v := .int .i64 d) (by first | assumption | go_simp); have k3 := pw_cell_below hb (a := ⟨w.heap.size, 3, none⟩) (v := .int .i64 h) (by first | assumption | go_simp); have k4 := pw_cell_below hb (a := ⟨w.heap.size, 4, none⟩) (v := .int .i64 mi) (by first | assumption | go_simp); have k5 := pw_cell_below hb (a := ⟨w.heap.size, 5, none⟩) (v := .int .i64 s) (by first | assumption | go_simp); have k6 := pw_cell_below hb (a := ⟨w.heap.size, 6, none⟩) (v := .int .i64 z) (by first | assumption | go_simp); clear hb) | (go_at_call 43; (with_reducible refine (postbagref2_Stamp.calls 20000 y m d h mi s z VS _ H8.out).mono ?_); rintro e w43 ⟨rfl, hb⟩; have n0_ := Lib.hid (below_step (by repeat (first | (with_reducible exact HB.out) | (with_reducible apply below_drew) | (with_reducible apply pw_below_drewN) | exact HB.out)) hb); clear HB; have HB := n0_; clear n0_; have k0 := pw_cell_below hb (a := ⟨w.heap.size, 0, none⟩) (v := .int .i64 y) (by first | assumption | go_simp); have k1 := pw_cell_below hb (a := ⟨w.heap.size, 1, none⟩) (v := .int .i64 m) (by first | assumption | go_simp); have k2 := pw_cell_below hb (a := ⟨w.heap.size, 2, none⟩) (v := .int .i64 d) (by first | assumption | go_simp); have k3 := pw_cell_below hb (a := ⟨w.heap.size, 3, none⟩) (v := .int .i64 h) (by first | assumption | go_simp); have k4 := pw_cell_below hb (a := ⟨w.heap.size, 4, none⟩) (v := .int .i64 mi) (by first | assumption | go_simp); have k5 := pw_cell_below hb (a := ⟨w.heap.size, 5, none⟩) (v := .int .i64 s) (by first | assumption | go_simp); have k6 := pw_cell_below hb (a := ⟨w.heap.size, 6, none⟩) (v := .int .i64 z) (by first | assumption | go_simp); clear hb)))
  all_goals go_wp2
  all_goals go_ret
  all_goals exact ⟨rfl, HB.out⟩
set_option maxHeartbeats 4000000 in
set_option maxRecDepth 100000 in
theorem counts_calls (y m d h mi s z y' m' d' h' mi' s' z' : Int) (w : World) (hL : Laid w) :
    Calls Tryd.prog 4 #[.agg #[.int .i64 y, .int .i64 m, .int .i64 d, .int .i64 h, .int .i64 mi, .int .i64 s, .int .i64 z], .agg #[.int .i64 y', .int .i64 m', .int .i64 d', .int .i64 h', .int .i64 mi', .int .i64 s', .int .i64 z']] w fun e w' => e = .returned (.bool true) ∧ Below w.heap.size w w' := by
  have HL := Lib.hid hL
  clear hL
  have HB := Lib.hid (below_alloc (below_alloc (Below.refl _ w) (.cells #[.int .i64 y, .int .i64 m, .int .i64 d, .int .i64 h, .int .i64 mi, .int .i64 s, .int .i64 z] 23)) (.cells #[.int .i64 y', .int .i64 m', .int .i64 d', .int .i64 h', .int .i64 mi', .int .i64 s', .int .i64 z'] 23))
  have HA := Lib.hid ((Below.heap_alloc (w.alloc (.cells #[.int .i64 y, .int .i64 m, .int .i64 d, .int .i64 h, .int .i64 mi, .int .i64 s, .int .i64 z] 23)) (.cells #[.int .i64 y', .int .i64 m', .int .i64 d', .int .i64 h', .int .i64 mi', .int .i64 s', .int .i64 z'] 23) w.heap.size (by simp)).trans (heap_alloc_new w (.cells #[.int .i64 y, .int .i64 m, .int .i64 d, .int .i64 h, .int .i64 mi, .int .i64 s, .int .i64 z] 23)))
  have hx := heap_alloc_new (w.alloc (.cells #[.int .i64 y, .int .i64 m, .int .i64 d, .int .i64 h, .int .i64 mi, .int .i64 s, .int .i64 z] 23)) (.cells #[.int .i64 y', .int .i64 m', .int .i64 d', .int .i64 h', .int .i64 mi', .int .i64 s', .int .i64 z'] 23)
  rw [show (w.alloc (.cells #[.int .i64 y, .int .i64 m, .int .i64 d, .int .i64 h, .int .i64 mi, .int .i64 s, .int .i64 z] 23)).heap.size = w.heap.size + 1 from by simp] at hx
  have HX := Lib.hid hx
  clear hx
  go_enter Tryd.func4, Tryd.ntmps4
  go_wp2_with fail
  refine (known_calls _ (laid_below HL.out (by repeat (first | (with_reducible exact HB.out) | (with_reducible apply below_drew) | (with_reducible apply pw_below_drewN) | exact HB.out)))).mono ?_
  rintro e w1 ⟨rfl, hb⟩
  have n0_ := Lib.hid (below_step (by repeat (first | (with_reducible exact HB.out) | (with_reducible apply below_drew) | (with_reducible apply pw_below_drewN) | exact HB.out)) hb)
  clear HB
  have HB := n0_
  clear n0_
  have n0_ := Lib.hid ((hb.block _ (blk_lt HA.out)).trans HA.out)
  clear HA
  have HA := n0_
  clear n0_
  have n0_ := Lib.hid ((hb.block _ (blk_lt HX.out)).trans HX.out)
  clear HX
  have HX := n0_
  clear n0_
  clear hb
  obtain ⟨⟨a0, a1, a2, a3, a4, a5, a6⟩, _⟩ := cells7 HA.out
  go_wp2_with fail
  clear a0 a1 a2 a3 a4 a5 a6
  refine (counted_calls y m d h mi s z _ (laid_below HL.out (by repeat (first | (with_reducible exact HB.out) | (with_reducible apply below_drew) | (with_reducible apply pw_below_drewN) | exact HB.out)))).mono ?_
  rintro e w2 ⟨rfl, hb⟩
  have n0_ := Lib.hid (below_step (by repeat (first | (with_reducible exact HB.out) | (with_reducible apply below_drew) | (with_reducible apply pw_below_drewN) | exact HB.out)) hb)
  clear HB
  have HB := n0_
  clear n0_
  have n0_ := Lib.hid ((hb.block _ (blk_lt HA.out)).trans HA.out)
  clear HA
  have HA := n0_
  clear n0_
  have n0_ := Lib.hid ((hb.block _ (blk_lt HX.out)).trans HX.out)
  clear HX
  have HX := n0_
  clear n0_
  clear hb
  obtain ⟨⟨a0, a1, a2, a3, a4, a5, a6⟩, _⟩ := cells7 HX.out
  go_wp2_with fail
  clear a0 a1 a2 a3 a4 a5 a6
  refine (counted_calls y' m' d' h' mi' s' z' _ (laid_below HL.out (by repeat (first | (with_reducible exact HB.out) | (with_reducible apply below_drew) | (with_reducible apply pw_below_drewN) | exact HB.out)))).mono ?_
  rintro e w3 ⟨rfl, hb⟩
  have n0_ := Lib.hid (below_step (by repeat (first | (with_reducible exact HB.out) | (with_reducible apply below_drew) | (with_reducible apply pw_below_drewN) | exact HB.out)) hb)
  clear HB
  have HB := n0_
  clear n0_
  have n0_ := Lib.hid ((hb.block _ (blk_lt HA.out)).trans HA.out)
  clear HA
  have HA := n0_
  clear n0_
  have n0_ := Lib.hid ((hb.block _ (blk_lt HX.out)).trans HX.out)
  clear HX
  have HX := n0_
  clear n0_
  clear hb
  obtain ⟨⟨a0, a1, a2, a3, a4, a5, a6⟩, _⟩ := cells7 HA.out
  go_wp2_with fail
  clear a0 a1 a2 a3 a4 a5 a6
  refine (counted_calls y m d h mi s z _ (laid_below HL.out (by repeat (first | (with_reducible exact HB.out) | (with_reducible apply below_drew) | (with_reducible apply pw_below_drewN) | exact HB.out)))).mono ?_
  rintro e w4 ⟨rfl, hb⟩
  have n0_ := Lib.hid (below_step (by repeat (first | (with_reducible exact HB.out) | (with_reducible apply below_drew) | (with_reducible apply pw_below_drewN) | exact HB.out)) hb)
  clear HB
  have HB := n0_
  clear n0_
  have n0_ := Lib.hid ((hb.block _ (blk_lt HA.out)).trans HA.out)
  clear HA
  have HA := n0_
  clear n0_
  have n0_ := Lib.hid ((hb.block _ (blk_lt HX.out)).trans HX.out)
  clear HX
  have HX := n0_
  clear n0_
  clear hb
  go_wp2
  go_ret
  exact ⟨rfl, HB.out⟩
def postbaglaw2_MomentCounts.f (_ _ _ _ _ _ _ _ _ _ _ _ _ _ : Int) : Option Bool := some true
theorem postbaglaw2_MomentCounts.calls (a0_0 a0_1 a0_2 a0_3 a0_4 a0_5 a0_6 a1_0 a1_1 a1_2 a1_3 a1_4 a1_5 a1_6 : Int) (r : Bool) (w : World) (h : postbaglaw2_MomentCounts.f a0_0 a0_1 a0_2 a0_3 a0_4 a0_5 a0_6 a1_0 a1_1 a1_2 a1_3 a1_4 a1_5 a1_6 = some r) (hL : Laid w) :
    Calls Tryd.prog 4 #[.agg #[.int .i64 a0_0, .int .i64 a0_1, .int .i64 a0_2, .int .i64 a0_3, .int .i64 a0_4, .int .i64 a0_5, .int .i64 a0_6], .agg #[.int .i64 a1_0, .int .i64 a1_1, .int .i64 a1_2, .int .i64 a1_3, .int .i64 a1_4, .int .i64 a1_5, .int .i64 a1_6]] w fun e w' => e = .returned (.bool r) ∧ Below w.heap.size w w' := by
  obtain rfl : true = r := Option.some.inj h
  exact counts_calls _ _ _ _ _ _ _ _ _ _ _ _ _ _ w hL
end Go.Proofs.YtjlchnmpebdggaaDoor.Mo
/- MomentCounts: its pure statement. -/
namespace Go.Proofs.YtjlchnmpebdggaaDoor.Pure
open Go.Proofs.YtjlchnmpebdggaaDoor.Mo
theorem MomentCounts (x y : S23) {P Q : Prop} (_ : P) (_ : Q) : postbaglaw2_MomentCounts.f x.f0 x.f1 x.f2 x.f3 x.f4 x.f5 x.f6 y.f0 y.f1 y.f2 y.f3 y.f4 y.f5 y.f6 = some true := rfl
end Go.Proofs.YtjlchnmpebdggaaDoor.Pure
/- The table of the months' days, out of the rows' condition on it. -/
namespace Go.Proofs.YtjlchnmpebdggaaDoor.Mo
open Go.ChangeShapes Go.WideShapes Go.ChangeAt Go.RowKit
theorem gLengths : Tryd.prog.globalNamed "postbag/moment.lengths" = some 0 := by kernel_rfl
theorem tLengths : (Tryd.prog.globals[0]?).map (·.type) = some 86 := by kernel_rfl
/-- The door's own heap meets the condition. -/
theorem door_met (os : Os) (args : Array Value) : laidMetH Tryd.prog [("postbag/moment.lengths", Rows.laid_postbag_moment_lengths)] ((World.doorLaid Tryd.prog 400 os).forCall (fun _ _ => 0) ⟨#[], args, []⟩).memory :=
  laidMetH_of_parts3 (fuel := 8) (laidMet_of_run' 8 (by kernel_rfl) (by kernel_rfl)) (by kernel_rfl) (by kernel_rfl)
theorem of_laid {W : World} (h : laidMetH Tryd.prog [("postbag/moment.lengths", Rows.laid_postbag_moment_lengths)] W) : Laid W := by
  rw [MakeChecks.laidMetH_plain _ _ _ (by kernel_rfl)] at h
  obtain ⟨ps, ⟨g1, t1, cs1, f1, p1, q1, hg1, ht1, hv1, hd1, _, _⟩, _, _⟩ := h
  obtain rfl := Option.some.inj (gLengths.symm.trans hg1)
  obtain rfl := Option.some.inj (tLengths.symm.trans ht1)
  obtain ⟨xs, m1, rfl, hx1, hlen, hn3, hel⟩ := DataW.trod_array Tryd.underlying86 hd1
  have c3 : Tryd.prog.cellsOf 3 = 1 := by kernel_rfl
  simp only [Prod.mk.injEq, Rows.laid_postbag_moment_lengths, DataW.agg.injEq] at hx1
  have hcell : ∀ j, j < 12 → W.cell? ⟨0, j, none⟩ = some (.int .i64 (monthDays.getD j 0)) := by
    intro j hj
    have hj1 : j < xs.length := by omega
    have he := hel j hj
    rw [List.getElem?_eq_getElem hj1] at he
    obtain ⟨k, e1, e2, _⟩ := DataW.trod_int Tryd.underlying3 he
    have e3 : (xs.map (·.1))[j]? = some (.lit (.int .i64 k)) := by rw [List.getElem?_map, List.getElem?_eq_getElem hj1, e2]; rfl
    rw [← hx1.1] at e3
    have hk : k = monthDays.getD j 0 := by
      have hc : j = 0 ∨ j = 1 ∨ j = 2 ∨ j = 3 ∨ j = 4 ∨ j = 5 ∨ j = 6 ∨ j = 7 ∨ j = 8 ∨ j = 9 ∨ j = 10 ∨ j = 11 := by omega
      rcases hc with rfl | rfl | rfl | rfl | rfl | rfl | rfl | rfl | rfl | rfl | rfl | rfl <;> (simp at e3; rw [← e3]; rfl)
    rw [World.var?_cell hg1 hv1 j]
    rw [c3, Nat.mul_one] at e1
    have e4 : (cs1.toList.drop j)[0]? = some (.int .i64 k) := by
      have := congrArg (fun l => l[0]?) e1
      simpa [List.getElem?_take] using this
    rw [List.getElem?_drop, Nat.add_zero, Array.getElem?_toList] at e4
    rw [e4, hk]
  refine ⟨?_, hcell⟩
  have := hcell 0 (by omega)
  exact World.block_lt_of_cell? W ⟨0, 0, none⟩ this
end Go.Proofs.YtjlchnmpebdggaaDoor.Mo
