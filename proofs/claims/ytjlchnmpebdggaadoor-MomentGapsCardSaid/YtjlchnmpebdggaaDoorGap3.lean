import Derived.Test.YtjlchnmpebdggaaDoorGap2
import Derived.Test.YtjlchnmpebdggaaDoorGap1
import Derived.Lib.Hide
import Derived.Deep.QuietTactic
import Derived.BigQuiet
import Derived.IntWalk
import Derived.Laws.IdiomStrings
import Derived.DataShut
section
namespace Go.Proofs.YtjlchnmpebdggaaDoor.Mo
open Go.RowKit Go.Proofs.YtjlchnmpebdggaaDoorW.PrintWords
theorem w64 (n : Int) (h0 : -1000000000000000 ≤ n) (h1 : n ≤ 1000000000000000) : wrap64 n = n := IntWalk.wrap64_in _ ⟨by omega, by omega⟩
theorem month_cases {m : Int} (h1 : 1 ≤ m) (h2 : m ≤ 12) : m = 1 ∨ m = 2 ∨ m = 3 ∨ m = 4 ∨ m = 5 ∨ m = 6 ∨ m = 7 ∨ m = 8 ∨ m = 9 ∨ m = 10 ∨ m = 11 ∨ m = 12 := by omega
theorem length_range (y m : Int) (h1 : 1 ≤ m) (h2 : m ≤ 12) : 28 ≤ lengthP y m ∧ lengthP y m ≤ 31 := by
  unfold lengthP
  rcases month_cases h1 h2 with rfl | rfl | rfl | rfl | rfl | rfl | rfl | rfl | rfl | rfl | rfl | rfl <;> split <;> decide
end Go.Proofs.YtjlchnmpebdggaaDoor.Mo
end
section
namespace Go.Proofs.YtjlchnmpebdggaaDoor.Mo
open Go.RowKit Go.Proofs.YtjlchnmpebdggaaDoorW.PrintWords
theorem set7 {w : World} {g t : Nat} {a0 a1 a2 a3 a4 a5 a6 : Value} (h : w.heap[g]? = some (.cells #[a0, a1, a2, a3, a4, a5, a6] t (0, 0))) (b0 b1 b2 b3 b4 b5 b6 : Value) :
    (((((((w.setCell ⟨g, 0, none⟩ b0).setCell ⟨g, 1, none⟩ b1).setCell ⟨g, 2, none⟩ b2).setCell ⟨g, 3, none⟩ b3).setCell ⟨g, 4, none⟩ b4).setCell ⟨g, 5, none⟩ b5).setCell ⟨g, 6, none⟩ b6).heap[g]? = some (.cells #[b0, b1, b2, b3, b4, b5, b6] t (0, 0)) ∧
    ∀ (B : Nat) (w0 : World), Below B w0 w → B ≤ g → Below B w0 (((((((w.setCell ⟨g, 0, none⟩ b0).setCell ⟨g, 1, none⟩ b1).setCell ⟨g, 2, none⟩ b2).setCell ⟨g, 3, none⟩ b3).setCell ⟨g, 4, none⟩ b4).setCell ⟨g, 5, none⟩ b5).setCell ⟨g, 6, none⟩ b6) := by
  have h1 := blk_put (cs' := #[b0, a1, a2, a3, a4, a5, a6]) h 0 b0 rfl
  have h2 := blk_put (cs' := #[b0, b1, a2, a3, a4, a5, a6]) h1 1 b1 rfl
  have h3 := blk_put (cs' := #[b0, b1, b2, a3, a4, a5, a6]) h2 2 b2 rfl
  have h4 := blk_put (cs' := #[b0, b1, b2, b3, a4, a5, a6]) h3 3 b3 rfl
  have h5 := blk_put (cs' := #[b0, b1, b2, b3, b4, a5, a6]) h4 4 b4 rfl
  have h6 := blk_put (cs' := #[b0, b1, b2, b3, b4, b5, a6]) h5 5 b5 rfl
  have h7 := blk_put (cs' := #[b0, b1, b2, b3, b4, b5, b6]) h6 6 b6 rfl
  exact ⟨h7, fun B w0 hb hB => ((((((hb.setCell (p := ⟨g, 0, none⟩) hB b0).setCell (p := ⟨g, 1, none⟩) hB b1).setCell (p := ⟨g, 2, none⟩) hB b2).setCell (p := ⟨g, 3, none⟩) hB b3).setCell (p := ⟨g, 4, none⟩) hB b4).setCell (p := ⟨g, 5, none⟩) hB b5).setCell (p := ⟨g, 6, none⟩) hB b6⟩
theorem cells7 {w : World} {g t : Nat} {a0 a1 a2 a3 a4 a5 a6 : Value} (h : w.heap[g]? = some (.cells #[a0, a1, a2, a3, a4, a5, a6] t (0, 0))) :
    (w.cell? ⟨g, 0, none⟩ = some a0 ∧ w.cell? ⟨g, 1, none⟩ = some a1 ∧ w.cell? ⟨g, 2, none⟩ = some a2 ∧ w.cell? ⟨g, 3, none⟩ = some a3 ∧ w.cell? ⟨g, 4, none⟩ = some a4 ∧ w.cell? ⟨g, 5, none⟩ = some a5 ∧ w.cell? ⟨g, 6, none⟩ = some a6) ∧
    ∀ i, w.frozen? ⟨g, i, none⟩ = false :=
  ⟨⟨cell_of_row w g 0 _ _ _ h, cell_of_row w g 1 _ _ _ h, cell_of_row w g 2 _ _ _ h, cell_of_row w g 3 _ _ _ h, cell_of_row w g 4 _ _ _ h, cell_of_row w g 5 _ _ _ h, cell_of_row w g 6 _ _ _ h⟩, fun i => frozen_of_row w g i _ _ h⟩
end Go.Proofs.YtjlchnmpebdggaaDoor.Mo
end
section
namespace Go.Proofs.YtjlchnmpebdggaaDoor.Mo
open Go.RowKit Go.Proofs.YtjlchnmpebdggaaDoorW.PrintWords
def clockT (h mi se zz : Int) (sign : ByteArray) : ByteArray := twoP h ++ ⟨#[58]⟩ ++ twoP mi ++ ⟨#[58]⟩ ++ twoP se ++ ⟨#[32]⟩ ++ sign ++ twoP (zz / 60) ++ twoP (zz % 60)
def clockP (h mi se z : Int) : ByteArray := if z < 0 then clockT h mi se (-z) ⟨#[45]⟩ else clockT h mi se z ⟨#[43]⟩
theorem two_calls (n : Int) (w : World) : Calls Tryd.prog 87 #[.int .i64 n] w fun e w' => e = .returned (.string (twoP n)) ∧ Below w.heap.size w w' := moment_two.calls n _ w (two_f n)
theorem clockT_size (h mi se zz : Int) (sign : ByteArray) (hs : sign.size = 1) : (clockT h mi se zz sign).size = 14 := by
  unfold clockT
  simp only [ByteArray.size_append, twoP_size, hs]
  rfl
theorem clockP_size (h mi se z : Int) : (clockP h mi se z).size = 14 := by
  unfold clockP; split <;> exact clockT_size _ _ _ _ _ rfl
set_option maxHeartbeats 4000000 in
set_option maxRecDepth 100000 in
theorem clock_calls (y mo d h mi se z : Int) (w : World) (h0 : -1439 ≤ z) (h1 : z ≤ 1439) :
    Calls Tryd.prog 64 #[.agg #[.int .i64 y, .int .i64 mo, .int .i64 d, .int .i64 h, .int .i64 mi, .int .i64 se, .int .i64 z]] w fun e w' => e = .returned (.string (clockP h mi se z)) ∧ Below w.heap.size w w' := by
  have t1 := two_calls h
  have t2 := two_calls mi
  have t3 := two_calls se
  have s1 := twoP_size h
  have s2 := twoP_size mi
  have s3 := twoP_size se
  by_cases hz : z < 0
  · skip
    have hp : clockP h mi se z = twoP h ++ ⟨#[58]⟩ ++ twoP mi ++ ⟨#[58]⟩ ++ twoP se ++ ⟨#[32]⟩ ++ ⟨#[45]⟩ ++ twoP ((-z) / 60) ++ twoP ((-z) % 60) := by unfold clockP; rw [if_pos hz]; rfl
    have d1 : decide (z < 0) = true := decide_eq_true hz
    have z0 : 0 ≤ (-z) := by omega
    have z1 : (-z) ≤ 1439 := by omega
    have t4 := two_calls ((-z) / 60)
    have t5 := two_calls ((-z) % 60)
    have s4 := twoP_size ((-z) / 60)
    have s5 := twoP_size ((-z) % 60)
    generalize twoP h = a1 at *
    generalize twoP mi = a2 at *
    generalize twoP se = a3 at *
    generalize twoP ((-z) / 60) = a4 at *
    generalize twoP ((-z) % 60) = a5 at *
    have T1 := Lib.hid t1
    have T2 := Lib.hid t2
    have T3 := Lib.hid t3
    have T4 := Lib.hid t4
    have T5 := Lib.hid t5
    have HP := Lib.hid hp
    clear t1 t2 t3 t4 t5 hp
    go_enter Tryd.func64, Tryd.ntmps64
    go_wp2_with fail
    go_quiet (fail)
    go_wp2_with fail
    have m3 : ((w.alloc (.cells #[.int .i64 y, .int .i64 mo, .int .i64 d, .int .i64 h, .int .i64 mi, .int .i64 se, .int .i64 z] 23)).drewN nq).cell? ⟨w.heap.size, 3, none⟩ = some (.int .i64 h) := by go_simp
    have m4 : ((w.alloc (.cells #[.int .i64 y, .int .i64 mo, .int .i64 d, .int .i64 h, .int .i64 mi, .int .i64 se, .int .i64 z] 23)).drewN nq).cell? ⟨w.heap.size, 4, none⟩ = some (.int .i64 mi) := by go_simp
    have m5 : ((w.alloc (.cells #[.int .i64 y, .int .i64 mo, .int .i64 d, .int .i64 h, .int .i64 mi, .int .i64 se, .int .i64 z] 23)).drewN nq).cell? ⟨w.heap.size, 5, none⟩ = some (.int .i64 se) := by go_simp
    have hB : Below w.heap.size w ((w.alloc (.cells #[.int .i64 y, .int .i64 mo, .int .i64 d, .int .i64 h, .int .i64 mi, .int .i64 se, .int .i64 z] 23)).drewN nq) := pw_below_drewN (below_alloc (Below.refl _ w) _) nq
    generalize (w.alloc (.cells #[.int .i64 y, .int .i64 mo, .int .i64 d, .int .i64 h, .int .i64 mi, .int .i64 se, .int .i64 z] 23)).drewN nq = w1 at *
    have HB := Lib.hid hB
    clear hB
    generalize -z = zz at *
    have hq1 : zz.tdiv 60 = zz / 60 := Int.tdiv_eq_ediv_of_nonneg z0
    have hq2 : zz.tmod 60 = zz % 60 := Int.tmod_eq_emod_of_nonneg z0
    have hq3 : IntKind.i64.wrap (zz / 60) = zz / 60 := IntWalk.i64_in _ ⟨by omega, by omega⟩
    have hq4 : IntKind.i64.wrap (zz % 60) = zz % 60 := IntWalk.i64_in _ ⟨by omega, by omega⟩
    go_region_held3 (fun w' => w'.cell? ⟨w.heap.size, 3, none⟩ = some (.int .i64 h) ∧ w'.cell? ⟨w.heap.size, 4, none⟩ = some (.int .i64 mi) ∧ w'.cell? ⟨w.heap.size, 5, none⟩ = some (.int .i64 se)) (go_keep) ((first | (go_at_call 87; (with_reducible refine (T1.out _).mono ?_); rintro e w2 ⟨rfl, hb⟩; have n0_ := Lib.hid (below_step (by repeat (first | (with_reducible exact HB.out) | (with_reducible apply below_drew) | (with_reducible apply pw_below_drewN) | exact HB.out)) hb); clear HB; have HB := n0_; clear n0_; have k3 := pw_cell_below hb (a := ⟨w.heap.size, 3, none⟩) (v := .int .i64 h) (by first | assumption | go_simp); have k4 := pw_cell_below hb (a := ⟨w.heap.size, 4, none⟩) (v := .int .i64 mi) (by first | assumption | go_simp); have k5 := pw_cell_below hb (a := ⟨w.heap.size, 5, none⟩) (v := .int .i64 se) (by first | assumption | go_simp); clear hb) | (go_at_call 87; (with_reducible refine (T2.out _).mono ?_); rintro e w3 ⟨rfl, hb⟩; have n0_ := Lib.hid (below_step (by repeat (first | (with_reducible exact HB.out) | (with_reducible apply below_drew) | (with_reducible apply pw_below_drewN) | exact HB.out)) hb); clear HB; have HB := n0_; clear n0_; have k3 := pw_cell_below hb (a := ⟨w.heap.size, 3, none⟩) (v := .int .i64 h) (by first | assumption | go_simp); have k4 := pw_cell_below hb (a := ⟨w.heap.size, 4, none⟩) (v := .int .i64 mi) (by first | assumption | go_simp); have k5 := pw_cell_below hb (a := ⟨w.heap.size, 5, none⟩) (v := .int .i64 se) (by first | assumption | go_simp); clear hb) | (go_at_call 87; (with_reducible refine (T3.out _).mono ?_); rintro e w4 ⟨rfl, hb⟩; have n0_ := Lib.hid (below_step (by repeat (first | (with_reducible exact HB.out) | (with_reducible apply below_drew) | (with_reducible apply pw_below_drewN) | exact HB.out)) hb); clear HB; have HB := n0_; clear n0_; have k3 := pw_cell_below hb (a := ⟨w.heap.size, 3, none⟩) (v := .int .i64 h) (by first | assumption | go_simp); have k4 := pw_cell_below hb (a := ⟨w.heap.size, 4, none⟩) (v := .int .i64 mi) (by first | assumption | go_simp); have k5 := pw_cell_below hb (a := ⟨w.heap.size, 5, none⟩) (v := .int .i64 se) (by first | assumption | go_simp); clear hb) | (go_at_call 87; (with_reducible refine (T4.out _).mono ?_); rintro e w5 ⟨rfl, hb⟩; have n0_ := Lib.hid (below_step (by repeat (first | (with_reducible exact HB.out) | (with_reducible apply below_drew) | (with_reducible apply pw_below_drewN) | exact HB.out)) hb); clear HB; have HB := n0_; clear n0_; have k3 := pw_cell_below hb (a := ⟨w.heap.size, 3, none⟩) (v := .int .i64 h) (by first | assumption | go_simp); have k4 := pw_cell_below hb (a := ⟨w.heap.size, 4, none⟩) (v := .int .i64 mi) (by first | assumption | go_simp); have k5 := pw_cell_below hb (a := ⟨w.heap.size, 5, none⟩) (v := .int .i64 se) (by first | assumption | go_simp); clear hb) | (go_at_call 87; (with_reducible refine (T5.out _).mono ?_); rintro e w6 ⟨rfl, hb⟩; have n0_ := Lib.hid (below_step (by repeat (first | (with_reducible exact HB.out) | (with_reducible apply below_drew) | (with_reducible apply pw_below_drewN) | exact HB.out)) hb); clear HB; have HB := n0_; clear n0_; have k3 := pw_cell_below hb (a := ⟨w.heap.size, 3, none⟩) (v := .int .i64 h) (by first | assumption | go_simp); have k4 := pw_cell_below hb (a := ⟨w.heap.size, 4, none⟩) (v := .int .i64 mi) (by first | assumption | go_simp); have k5 := pw_cell_below hb (a := ⟨w.heap.size, 5, none⟩) (v := .int .i64 se) (by first | assumption | go_simp); clear hb)))
    all_goals go_wp2
    all_goals go_ret
    all_goals exact ⟨by rw [HP.out]; rfl, HB.out⟩
  · skip
    have hp : clockP h mi se z = twoP h ++ ⟨#[58]⟩ ++ twoP mi ++ ⟨#[58]⟩ ++ twoP se ++ ⟨#[32]⟩ ++ ⟨#[43]⟩ ++ twoP (z / 60) ++ twoP (z % 60) := by unfold clockP; rw [if_neg hz]; rfl
    have d1 : decide (z < 0) = false := decide_eq_false hz
    have z0 : 0 ≤ z := by omega
    have z1 : z ≤ 1439 := by omega
    have t4 := two_calls (z / 60)
    have t5 := two_calls (z % 60)
    have s4 := twoP_size (z / 60)
    have s5 := twoP_size (z % 60)
    generalize twoP h = a1 at *
    generalize twoP mi = a2 at *
    generalize twoP se = a3 at *
    generalize twoP (z / 60) = a4 at *
    generalize twoP (z % 60) = a5 at *
    have T1 := Lib.hid t1
    have T2 := Lib.hid t2
    have T3 := Lib.hid t3
    have T4 := Lib.hid t4
    have T5 := Lib.hid t5
    have HP := Lib.hid hp
    clear t1 t2 t3 t4 t5 hp
    go_enter Tryd.func64, Tryd.ntmps64
    go_wp2_with fail
    go_quiet (fail)
    go_wp2_with fail
    have m3 : ((w.alloc (.cells #[.int .i64 y, .int .i64 mo, .int .i64 d, .int .i64 h, .int .i64 mi, .int .i64 se, .int .i64 z] 23)).drewN nq).cell? ⟨w.heap.size, 3, none⟩ = some (.int .i64 h) := by go_simp
    have m4 : ((w.alloc (.cells #[.int .i64 y, .int .i64 mo, .int .i64 d, .int .i64 h, .int .i64 mi, .int .i64 se, .int .i64 z] 23)).drewN nq).cell? ⟨w.heap.size, 4, none⟩ = some (.int .i64 mi) := by go_simp
    have m5 : ((w.alloc (.cells #[.int .i64 y, .int .i64 mo, .int .i64 d, .int .i64 h, .int .i64 mi, .int .i64 se, .int .i64 z] 23)).drewN nq).cell? ⟨w.heap.size, 5, none⟩ = some (.int .i64 se) := by go_simp
    have hB : Below w.heap.size w ((w.alloc (.cells #[.int .i64 y, .int .i64 mo, .int .i64 d, .int .i64 h, .int .i64 mi, .int .i64 se, .int .i64 z] 23)).drewN nq) := pw_below_drewN (below_alloc (Below.refl _ w) _) nq
    generalize (w.alloc (.cells #[.int .i64 y, .int .i64 mo, .int .i64 d, .int .i64 h, .int .i64 mi, .int .i64 se, .int .i64 z] 23)).drewN nq = w1 at *
    have HB := Lib.hid hB
    clear hB
    have hq1 : z.tdiv 60 = z / 60 := Int.tdiv_eq_ediv_of_nonneg z0
    have hq2 : z.tmod 60 = z % 60 := Int.tmod_eq_emod_of_nonneg z0
    have hq3 : IntKind.i64.wrap (z / 60) = z / 60 := IntWalk.i64_in _ ⟨by omega, by omega⟩
    have hq4 : IntKind.i64.wrap (z % 60) = z % 60 := IntWalk.i64_in _ ⟨by omega, by omega⟩
    go_region_held3 (fun w' => w'.cell? ⟨w.heap.size, 3, none⟩ = some (.int .i64 h) ∧ w'.cell? ⟨w.heap.size, 4, none⟩ = some (.int .i64 mi) ∧ w'.cell? ⟨w.heap.size, 5, none⟩ = some (.int .i64 se)) (go_keep) ((first | (go_at_call 87; (with_reducible refine (T1.out _).mono ?_); rintro e w2 ⟨rfl, hb⟩; have n0_ := Lib.hid (below_step (by repeat (first | (with_reducible exact HB.out) | (with_reducible apply below_drew) | (with_reducible apply pw_below_drewN) | exact HB.out)) hb); clear HB; have HB := n0_; clear n0_; have k3 := pw_cell_below hb (a := ⟨w.heap.size, 3, none⟩) (v := .int .i64 h) (by first | assumption | go_simp); have k4 := pw_cell_below hb (a := ⟨w.heap.size, 4, none⟩) (v := .int .i64 mi) (by first | assumption | go_simp); have k5 := pw_cell_below hb (a := ⟨w.heap.size, 5, none⟩) (v := .int .i64 se) (by first | assumption | go_simp); clear hb) | (go_at_call 87; (with_reducible refine (T2.out _).mono ?_); rintro e w3 ⟨rfl, hb⟩; have n0_ := Lib.hid (below_step (by repeat (first | (with_reducible exact HB.out) | (with_reducible apply below_drew) | (with_reducible apply pw_below_drewN) | exact HB.out)) hb); clear HB; have HB := n0_; clear n0_; have k3 := pw_cell_below hb (a := ⟨w.heap.size, 3, none⟩) (v := .int .i64 h) (by first | assumption | go_simp); have k4 := pw_cell_below hb (a := ⟨w.heap.size, 4, none⟩) (v := .int .i64 mi) (by first | assumption | go_simp); have k5 := pw_cell_below hb (a := ⟨w.heap.size, 5, none⟩) (v := .int .i64 se) (by first | assumption | go_simp); clear hb) | (go_at_call 87; (with_reducible refine (T3.out _).mono ?_); rintro e w4 ⟨rfl, hb⟩; have n0_ := Lib.hid (below_step (by repeat (first | (with_reducible exact HB.out) | (with_reducible apply below_drew) | (with_reducible apply pw_below_drewN) | exact HB.out)) hb); clear HB; have HB := n0_; clear n0_; have k3 := pw_cell_below hb (a := ⟨w.heap.size, 3, none⟩) (v := .int .i64 h) (by first | assumption | go_simp); have k4 := pw_cell_below hb (a := ⟨w.heap.size, 4, none⟩) (v := .int .i64 mi) (by first | assumption | go_simp); have k5 := pw_cell_below hb (a := ⟨w.heap.size, 5, none⟩) (v := .int .i64 se) (by first | assumption | go_simp); clear hb) | (go_at_call 87; (with_reducible refine (T4.out _).mono ?_); rintro e w5 ⟨rfl, hb⟩; have n0_ := Lib.hid (below_step (by repeat (first | (with_reducible exact HB.out) | (with_reducible apply below_drew) | (with_reducible apply pw_below_drewN) | exact HB.out)) hb); clear HB; have HB := n0_; clear n0_; have k3 := pw_cell_below hb (a := ⟨w.heap.size, 3, none⟩) (v := .int .i64 h) (by first | assumption | go_simp); have k4 := pw_cell_below hb (a := ⟨w.heap.size, 4, none⟩) (v := .int .i64 mi) (by first | assumption | go_simp); have k5 := pw_cell_below hb (a := ⟨w.heap.size, 5, none⟩) (v := .int .i64 se) (by first | assumption | go_simp); clear hb) | (go_at_call 87; (with_reducible refine (T5.out _).mono ?_); rintro e w6 ⟨rfl, hb⟩; have n0_ := Lib.hid (below_step (by repeat (first | (with_reducible exact HB.out) | (with_reducible apply below_drew) | (with_reducible apply pw_below_drewN) | exact HB.out)) hb); clear HB; have HB := n0_; clear n0_; have k3 := pw_cell_below hb (a := ⟨w.heap.size, 3, none⟩) (v := .int .i64 h) (by first | assumption | go_simp); have k4 := pw_cell_below hb (a := ⟨w.heap.size, 4, none⟩) (v := .int .i64 mi) (by first | assumption | go_simp); have k5 := pw_cell_below hb (a := ⟨w.heap.size, 5, none⟩) (v := .int .i64 se) (by first | assumption | go_simp); clear hb)))
    all_goals go_wp2
    all_goals go_ret
    all_goals exact ⟨by rw [HP.out]; rfl, HB.out⟩
def moment_clock.f (_y _mo _d h mi se z : Int) : Option ByteArray := if -1439 ≤ z ∧ z ≤ 1439 then some (clockP h mi se z) else none
theorem moment_clock.calls (a0_0 a0_1 a0_2 a0_3 a0_4 a0_5 a0_6 : Int) (r : ByteArray) (w : World) (h : moment_clock.f a0_0 a0_1 a0_2 a0_3 a0_4 a0_5 a0_6 = some r) :
    Calls Tryd.prog 64 #[.agg #[.int .i64 a0_0, .int .i64 a0_1, .int .i64 a0_2, .int .i64 a0_3, .int .i64 a0_4, .int .i64 a0_5, .int .i64 a0_6]] w fun e w' => e = .returned (.string r) ∧ Below w.heap.size w w' := by
  unfold moment_clock.f at h
  by_cases hz : -1439 ≤ a0_6 ∧ a0_6 ≤ 1439
  · rw [if_pos hz] at h
    obtain rfl := Option.some.inj h
    exact clock_calls _ _ _ _ _ _ _ w hz.1 hz.2
  · rw [if_neg hz] at h
    exact absurd h (by simp)
end Go.Proofs.YtjlchnmpebdggaaDoor.Mo
end
section
namespace Go.Proofs.YtjlchnmpebdggaaDoor.Mo
open Go.RowKit Go.Proofs.YtjlchnmpebdggaaDoorW.PrintWords
def internalT (y m d h mi s z : Int) : ByteArray := padP d ++ dashP y m ++ ⟨#[32]⟩ ++ clockP h mi s z
def printInternalP (y m d h mi s z : Int) : ByteArray × Int := if refuseP y m d h mi s z = 0 then (internalT y m d h mi s z, 0) else (⟨#[]⟩, refuseP y m d h mi s z)
theorem dashP_size (y m : Int) (h1 : 1 ≤ m) (h2 : m ≤ 12) : (dashP y m).size = 9 := by
  unfold dashP
  rw [ByteArray.size_append, ByteArray.size_append, ByteArray.size_append, month_size _ (by omega), fourP_size]
  rfl
theorem refuse_zero {y m d h mi s z : Int} (hr : refuseP y m d h mi s z = 0) : isDayB y m d = true ∧ validB y m d h mi s z = true := by
  unfold refuseP at hr
  split at hr
  · split at hr
    · exact ⟨‹_›, ‹_›⟩
    · exact absurd hr (by decide)
  · exact absurd hr (by decide)
set_option maxHeartbeats 4000000 in
set_option maxRecDepth 100000 in
theorem printInternal_calls (y m d h mi s z : Int) (w : World) (hL : Laid w) :
    Calls Tryd.prog 29 #[.agg #[.int .i64 y, .int .i64 m, .int .i64 d, .int .i64 h, .int .i64 mi, .int .i64 s, .int .i64 z]] w fun e w' => e = .returned (.tuple #[.string (printInternalP y m d h mi s z).1, .int .i64 (printInternalP y m d h mi s z).2]) ∧ Below w.heap.size w w' := by
  have HL := Lib.hid (laid_below hL (below_alloc (Below.refl _ w) (.cells #[.int .i64 y, .int .i64 m, .int .i64 d, .int .i64 h, .int .i64 mi, .int .i64 s, .int .i64 z] 23)))
  have HR := Lib.hid (refused_f y m d h mi s z)
  by_cases hr : refuseP y m d h mi s z = 0
  · obtain ⟨hd, hv⟩ := refuse_zero hr
    have hdd := (isDay_iff y m d).1 hd
    have htt := (time_iff h mi s z).1 ((valid_iff y m d h mi s z).1 hv).2
    have hp : printInternalP y m d h mi s z = (internalT y m d h mi s z, 0) := if_pos hr
    rw [hp]
    have hpl := plain_f d
    have hds := dashP_size y m (by omega) (by omega)
    have hda : moment_dashed.f y m d h mi s z = some (dashP y m) := if_pos ⟨by omega, by omega⟩
    have hck : moment_clock.f y m d h mi s z = some (clockP h mi s z) := if_pos ⟨by omega, by omega⟩
    have hcs := clockP_size h mi s z
    rw [hr] at HR
    have HPL := Lib.hid hpl
    have HDA := Lib.hid hda
    have HCK := Lib.hid hck
    have hps := plainP_size d
    have HI : Hid (internalT y m d h mi s z = (if (plainP d).size = 1 then (⟨#[32]⟩ : ByteArray) ++ plainP d else plainP d) ++ dashP y m ++ ⟨#[32]⟩ ++ clockP h mi s z) := Lib.hid rfl
    generalize plainP d = pd at *
    generalize dashP y m = da at *
    generalize clockP h mi s z = ck at *
    clear hL hr hd hv hdd htt hp hpl hda hck
    have arm : True := trivial
    rcases hps with h1 | h2
    · have e : Hid (internalT y m d h mi s z = (⟨#[32]⟩ : ByteArray) ++ pd ++ da ++ ⟨#[32]⟩ ++ ck) := Lib.hid (by rw [HI.out, if_pos h1])
      clear HI
      go_enter Tryd.func29, Tryd.ntmps29
      go_wp2_with fail
      refine (moment_refused.calls _ _ _ _ _ _ _ 0 _ HR.out HL.out).mono ?_
      rintro e1 w1 ⟨rfl, hb1⟩
      have HB1 := Lib.hid (below_step (below_alloc (Below.refl _ w) _) hb1)
      have hbx := (hb1.block w.heap.size (by simp)).trans (heap_alloc_new w _)
      obtain ⟨⟨c0, c1, c2, c3, c4, c5, c6⟩, _⟩ := cells7 hbx
      have HBX := Lib.hid hbx
      clear hb1 hbx
      go_wp2_with fail
      refine (moment_plain.calls _ pd _ HPL.out).mono ?_
      rintro e1 w2 ⟨rfl, hb1⟩
      have HB := Lib.hid (below_step HB1.out hb1)
      have hbx := (hb1.block w.heap.size (blk_lt HBX.out)).trans HBX.out
      clear c0 c1 c2 c3 c4 c5 c6 HB1 HBX
      obtain ⟨⟨c0, c1, c2, c3, c4, c5, c6⟩, _⟩ := cells7 hbx
      clear hb1 hbx
      go_wp2_with fail
      go_region_held3 (fun w' => w'.cell? ⟨w.heap.size, 0, none⟩ = some (.int .i64 y) ∧ w'.cell? ⟨w.heap.size, 1, none⟩ = some (.int .i64 m) ∧ w'.cell? ⟨w.heap.size, 2, none⟩ = some (.int .i64 d) ∧ w'.cell? ⟨w.heap.size, 3, none⟩ = some (.int .i64 h) ∧ w'.cell? ⟨w.heap.size, 4, none⟩ = some (.int .i64 mi) ∧ w'.cell? ⟨w.heap.size, 5, none⟩ = some (.int .i64 s) ∧ w'.cell? ⟨w.heap.size, 6, none⟩ = some (.int .i64 z)) (go_keep) ((first | (go_at_call 50; (with_reducible refine (moment_dashed.calls y m d h mi s z _ _ HDA.out).mono ?_); rintro e1 w3 ⟨rfl, hb⟩; have n0_ := Lib.hid (below_step (by repeat (first | (with_reducible exact HB.out) | (with_reducible apply below_drew) | (with_reducible apply pw_below_drewN) | exact HB.out)) hb); clear HB; have HB := n0_; clear n0_; have k0 := pw_cell_below hb (a := ⟨w.heap.size, 0, none⟩) (v := .int .i64 y) (by first | assumption | go_simp); have k1 := pw_cell_below hb (a := ⟨w.heap.size, 1, none⟩) (v := .int .i64 m) (by first | assumption | go_simp); have k2 := pw_cell_below hb (a := ⟨w.heap.size, 2, none⟩) (v := .int .i64 d) (by first | assumption | go_simp); have k3 := pw_cell_below hb (a := ⟨w.heap.size, 3, none⟩) (v := .int .i64 h) (by first | assumption | go_simp); have k4 := pw_cell_below hb (a := ⟨w.heap.size, 4, none⟩) (v := .int .i64 mi) (by first | assumption | go_simp); have k5 := pw_cell_below hb (a := ⟨w.heap.size, 5, none⟩) (v := .int .i64 s) (by first | assumption | go_simp); have k6 := pw_cell_below hb (a := ⟨w.heap.size, 6, none⟩) (v := .int .i64 z) (by first | assumption | go_simp); clear hb) | (go_at_call 64; (with_reducible refine (moment_clock.calls y m d h mi s z _ _ HCK.out).mono ?_); rintro e1 w4 ⟨rfl, hb⟩; have n0_ := Lib.hid (below_step (by repeat (first | (with_reducible exact HB.out) | (with_reducible apply below_drew) | (with_reducible apply pw_below_drewN) | exact HB.out)) hb); clear HB; have HB := n0_; clear n0_; have k0 := pw_cell_below hb (a := ⟨w.heap.size, 0, none⟩) (v := .int .i64 y) (by first | assumption | go_simp); have k1 := pw_cell_below hb (a := ⟨w.heap.size, 1, none⟩) (v := .int .i64 m) (by first | assumption | go_simp); have k2 := pw_cell_below hb (a := ⟨w.heap.size, 2, none⟩) (v := .int .i64 d) (by first | assumption | go_simp); have k3 := pw_cell_below hb (a := ⟨w.heap.size, 3, none⟩) (v := .int .i64 h) (by first | assumption | go_simp); have k4 := pw_cell_below hb (a := ⟨w.heap.size, 4, none⟩) (v := .int .i64 mi) (by first | assumption | go_simp); have k5 := pw_cell_below hb (a := ⟨w.heap.size, 5, none⟩) (v := .int .i64 s) (by first | assumption | go_simp); have k6 := pw_cell_below hb (a := ⟨w.heap.size, 6, none⟩) (v := .int .i64 z) (by first | assumption | go_simp); clear hb)))
      all_goals go_wp2
      all_goals go_ret2
      all_goals exact ⟨by rw [e.out]; rfl, HB.out⟩
    · have e : Hid (internalT y m d h mi s z = pd ++ da ++ ⟨#[32]⟩ ++ ck) := Lib.hid (by rw [HI.out, if_neg (by omega)])
      clear HI
      go_enter Tryd.func29, Tryd.ntmps29
      go_wp2_with fail
      refine (moment_refused.calls _ _ _ _ _ _ _ 0 _ HR.out HL.out).mono ?_
      rintro e1 w1 ⟨rfl, hb1⟩
      have HB1 := Lib.hid (below_step (below_alloc (Below.refl _ w) _) hb1)
      have hbx := (hb1.block w.heap.size (by simp)).trans (heap_alloc_new w _)
      obtain ⟨⟨c0, c1, c2, c3, c4, c5, c6⟩, _⟩ := cells7 hbx
      have HBX := Lib.hid hbx
      clear hb1 hbx
      go_wp2_with fail
      refine (moment_plain.calls _ pd _ HPL.out).mono ?_
      rintro e1 w2 ⟨rfl, hb1⟩
      have HB := Lib.hid (below_step HB1.out hb1)
      have hbx := (hb1.block w.heap.size (blk_lt HBX.out)).trans HBX.out
      clear c0 c1 c2 c3 c4 c5 c6 HB1 HBX
      obtain ⟨⟨c0, c1, c2, c3, c4, c5, c6⟩, _⟩ := cells7 hbx
      clear hb1 hbx
      go_wp2_with fail
      go_region_held3 (fun w' => w'.cell? ⟨w.heap.size, 0, none⟩ = some (.int .i64 y) ∧ w'.cell? ⟨w.heap.size, 1, none⟩ = some (.int .i64 m) ∧ w'.cell? ⟨w.heap.size, 2, none⟩ = some (.int .i64 d) ∧ w'.cell? ⟨w.heap.size, 3, none⟩ = some (.int .i64 h) ∧ w'.cell? ⟨w.heap.size, 4, none⟩ = some (.int .i64 mi) ∧ w'.cell? ⟨w.heap.size, 5, none⟩ = some (.int .i64 s) ∧ w'.cell? ⟨w.heap.size, 6, none⟩ = some (.int .i64 z)) (go_keep) ((first | (go_at_call 50; (with_reducible refine (moment_dashed.calls y m d h mi s z _ _ HDA.out).mono ?_); rintro e1 w3 ⟨rfl, hb⟩; have n0_ := Lib.hid (below_step (by repeat (first | (with_reducible exact HB.out) | (with_reducible apply below_drew) | (with_reducible apply pw_below_drewN) | exact HB.out)) hb); clear HB; have HB := n0_; clear n0_; have k0 := pw_cell_below hb (a := ⟨w.heap.size, 0, none⟩) (v := .int .i64 y) (by first | assumption | go_simp); have k1 := pw_cell_below hb (a := ⟨w.heap.size, 1, none⟩) (v := .int .i64 m) (by first | assumption | go_simp); have k2 := pw_cell_below hb (a := ⟨w.heap.size, 2, none⟩) (v := .int .i64 d) (by first | assumption | go_simp); have k3 := pw_cell_below hb (a := ⟨w.heap.size, 3, none⟩) (v := .int .i64 h) (by first | assumption | go_simp); have k4 := pw_cell_below hb (a := ⟨w.heap.size, 4, none⟩) (v := .int .i64 mi) (by first | assumption | go_simp); have k5 := pw_cell_below hb (a := ⟨w.heap.size, 5, none⟩) (v := .int .i64 s) (by first | assumption | go_simp); have k6 := pw_cell_below hb (a := ⟨w.heap.size, 6, none⟩) (v := .int .i64 z) (by first | assumption | go_simp); clear hb) | (go_at_call 64; (with_reducible refine (moment_clock.calls y m d h mi s z _ _ HCK.out).mono ?_); rintro e1 w4 ⟨rfl, hb⟩; have n0_ := Lib.hid (below_step (by repeat (first | (with_reducible exact HB.out) | (with_reducible apply below_drew) | (with_reducible apply pw_below_drewN) | exact HB.out)) hb); clear HB; have HB := n0_; clear n0_; have k0 := pw_cell_below hb (a := ⟨w.heap.size, 0, none⟩) (v := .int .i64 y) (by first | assumption | go_simp); have k1 := pw_cell_below hb (a := ⟨w.heap.size, 1, none⟩) (v := .int .i64 m) (by first | assumption | go_simp); have k2 := pw_cell_below hb (a := ⟨w.heap.size, 2, none⟩) (v := .int .i64 d) (by first | assumption | go_simp); have k3 := pw_cell_below hb (a := ⟨w.heap.size, 3, none⟩) (v := .int .i64 h) (by first | assumption | go_simp); have k4 := pw_cell_below hb (a := ⟨w.heap.size, 4, none⟩) (v := .int .i64 mi) (by first | assumption | go_simp); have k5 := pw_cell_below hb (a := ⟨w.heap.size, 5, none⟩) (v := .int .i64 s) (by first | assumption | go_simp); have k6 := pw_cell_below hb (a := ⟨w.heap.size, 6, none⟩) (v := .int .i64 z) (by first | assumption | go_simp); clear hb)))
      all_goals go_wp2
      all_goals go_ret2
      all_goals exact ⟨by rw [e.out]; rfl, HB.out⟩
  · have hp : printInternalP y m d h mi s z = (⟨#[]⟩, refuseP y m d h mi s z) := if_neg hr
    rw [hp]
    generalize refuseP y m d h mi s z = q at *
    have hq : (q != 0) = true := by rw [bne_iff_ne]; exact hr
    clear hL hp hr
    go_enter Tryd.func29, Tryd.ntmps29
    go_wp2_with fail
    refine (moment_refused.calls _ _ _ _ _ _ _ q _ HR.out HL.out).mono ?_
    rintro e1 w1 ⟨rfl, hb1⟩
    have HB1 := Lib.hid (below_step (below_alloc (Below.refl _ w) _) hb1)
    clear hb1
    go_wp2
    go_ret2
    exact ⟨rfl, HB1.out⟩
def moment_PrintInternal.f (y m d h mi s z : Int) : Option (ByteArray × Int) := some (printInternalP y m d h mi s z)
theorem moment_PrintInternal.calls (a0_0 a0_1 a0_2 a0_3 a0_4 a0_5 a0_6 : Int) (r1 : ByteArray) (r2 : Int) (w : World) (h : moment_PrintInternal.f a0_0 a0_1 a0_2 a0_3 a0_4 a0_5 a0_6 = some (r1, r2)) (hL : Laid w) :
    Calls Tryd.prog 29 #[.agg #[.int .i64 a0_0, .int .i64 a0_1, .int .i64 a0_2, .int .i64 a0_3, .int .i64 a0_4, .int .i64 a0_5, .int .i64 a0_6]] w fun e w' => e = .returned (.tuple #[.string r1, .int .i64 r2]) ∧ Below w.heap.size w w' := by
  have h := Option.some.inj h
  have h2 := printInternal_calls a0_0 a0_1 a0_2 a0_3 a0_4 a0_5 a0_6 w hL
  rw [h] at h2
  exact h2
end Go.Proofs.YtjlchnmpebdggaaDoor.Mo
end
section
namespace Go.Proofs.YtjlchnmpebdggaaDoor.Mo
open Go.RowKit Go.Proofs.YtjlchnmpebdggaaDoorW.PrintWords
theorem str_app (l m : List Int) : strOfNums l ++ strOfNums m = strOfNums (l ++ m) := by
  apply ByteArray.ext
  apply Array.toList_inj.1
  rw [ByteArray.data_append, Array.toList_append, strOfNums_data, strOfNums_data, strOfNums_data, List.map_append]
def digP (n : Int) : ByteArray := strOfNums [48 + n]
theorem twoP_dig (n : Int) (h0 : 0 ≤ n) (h1 : n ≤ 99) : twoP n = digP (n / 10) ++ digP (n % 10) := by
  unfold twoP digP
  rw [str_app, Int.tmod_eq_emod_of_nonneg h0, Int.tdiv_eq_ediv_of_nonneg h0, w64 (n / 10) (by omega) (by omega), w64 (48 + n / 10) (by omega) (by omega), w64 (48 + n % 10) (by omega) (by omega), Int.emod_eq_of_lt (by omega) (by omega), Int.emod_eq_of_lt (by omega) (by omega)]
  rfl
end Go.Proofs.YtjlchnmpebdggaaDoor.Mo
end
section
namespace Go.Proofs.YtjlchnmpebdggaaDoor.Mo
open Go.RowKit Go.Proofs.YtjlchnmpebdggaaDoorW.PrintWords
def up (c : UInt8) : UInt8 := if 97 ≤ c ∧ c ≤ 122 then c - 32 else c
def upTo (l : List UInt8) (k : Nat) : List UInt8 := (l.take k).map up ++ l.drop k
def upperP (s : ByteArray) : ByteArray := ⟨(s.data.toList.map up).toArray⟩
theorem upTo_get (l : List UInt8) (k j : Nat) : (upTo l k)[j]? = if j < k then l[j]?.map up else l[j]? := by
  unfold upTo
  by_cases h : j < k
  · rw [if_pos h]
    by_cases hj : j < l.length
    · rw [List.getElem?_append_left (by simp; omega), List.getElem?_map, List.getElem?_take, if_pos h]
    · rw [List.getElem?_append_right (by simp; omega), List.getElem?_drop, List.getElem?_eq_none (by simp; omega), List.getElem?_eq_none (by omega)]; rfl
  · rw [if_neg h]
    by_cases hj : k ≤ l.length
    · rw [List.getElem?_append_right (by simp; omega), List.getElem?_drop]
      congr 1
      simp
      omega
    · rw [List.getElem?_eq_none (by simp; omega), List.getElem?_eq_none (by omega)]
theorem upTo_all (l : List UInt8) : upTo l l.length = l.map up := by simp [upTo]
theorem up_small (c : UInt8) (h : 97 ≤ c.toNat) (h2 : c.toNat ≤ 122) : ((up c).toNat : Int) = (c.toNat : Int) - 32 := by
  have e : (97 : UInt8) ≤ c ∧ c ≤ 122 := ⟨UInt8.le_iff_toNat_le.2 h, UInt8.le_iff_toNat_le.2 h2⟩
  unfold up
  rw [if_pos e, UInt8.toNat_sub_of_le _ _ (UInt8.le_iff_toNat_le.2 (by show 32 ≤ _; omega))]
  show ((c.toNat - 32 : Nat) : Int) = _
  omega
theorem up_else (c : UInt8) (h : ¬ (97 ≤ c.toNat ∧ c.toNat ≤ 122)) : up c = c := by
  unfold up
  rw [if_neg]
  rintro ⟨h1, h2⟩
  exact h ⟨UInt8.le_iff_toNat_le.1 h1, UInt8.le_iff_toNat_le.1 h2⟩
theorem upperP_size (s : ByteArray) : (upperP s).size = s.size := by show (s.data.toList.map up).toArray.size = _; simp
set_option maxHeartbeats 1000000 in
theorem upper_calls (a : ByteArray) (w : World) (ha : a.size ≤ 140737488351232) :
    Calls Tryd.prog 94 #[.string a] w fun e w' => e = .returned (.string (upperP a)) ∧ Below w.heap.size w w' := by
  have hcv := fun w => run_bytes_of_string (P := Tryd.prog) w 9 58 5 a Tryd.underlying9 Tryd.underlying58 Tryd.underlying5
  go_enter Tryd.func94, Tryd.ntmps94
  go_wp2_with fail
  have cell0 : ∀ (j : Nat) (b : UInt8), a.data.toList[j]? = some b → (w.alloc (Obj.cells (bytesRow a (grownCap w a.size 0 5)) 5 ((bytesRow a (grownCap w a.size 0 5)).size, (bytesRow a (grownCap w a.size 0 5)).size + 1))).drew.cell? ⟨w.heap.size, j, none⟩ = some (.int .u8 b.toNat) := fun j b hj => by
    have hlt := (List.getElem?_eq_some_iff.1 hj).1
    rw [List.getElem?_eq_getElem hlt] at hj
    have hj := Option.some.inj hj
    refine (World.cell?_alloc_mark w _ _ _ j).trans ?_
    rw [bytesRow_at a _ j (by simpa using hlt)]
    rw [← hj]
    rfl
  have frz0 : ∀ j : Nat, j < a.size → (w.alloc (Obj.cells (bytesRow a (grownCap w a.size 0 5)) 5 ((bytesRow a (grownCap w a.size 0 5)).size, (bytesRow a (grownCap w a.size 0 5)).size + 1))).drew.frozen? ⟨w.heap.size, j, none⟩ = false := fun j hj => by
    refine (World.frozen?_alloc_mark w _ _ _ _ j).trans ?_
    have : (bytesRow a (grownCap w a.size 0 5)).size ≥ a.size := by unfold bytesRow; simp
    rw [decide_eq_false (by omega), Bool.false_and]
  have bel0 : Below w.heap.size w (w.alloc (Obj.cells (bytesRow a (grownCap w a.size 0 5)) 5 ((bytesRow a (grownCap w a.size 0 5)).size, (bytesRow a (grownCap w a.size 0 5)).size + 1))).drew := ((Below.refl _ w).alloc (Nat.le_refl _) _).drew
  generalize (w.alloc (Obj.cells (bytesRow a (grownCap w a.size 0 5)) 5 ((bytesRow a (grownCap w a.size 0 5)).size, (bytesRow a (grownCap w a.size 0 5)).size + 1))).drew = w0 at *
  generalize hcap : grownCap w a.size 0 5 = cap at *
  clear hcv hcap
  go_loopw [10] (fun n wr => ∃ k : Nat, k ≤ a.size ∧ n = .int .i64 k ∧ (∀ (j : Nat) (b : UInt8), (upTo a.data.toList k)[j]? = some b → wr.cell? ⟨w.heap.size, j, none⟩ = some (.int .u8 b.toNat)) ∧
      (∀ j : Nat, j < a.size → wr.frozen? ⟨w.heap.size, j, none⟩ = false) ∧ Below w.heap.size w wr) (fun n _ => a.size - (intOf n).toNat)
  case atStart => exact ⟨0, by omega, rfl, fun j b hj => cell0 j b (by simpa [upTo] using hj), frz0, bel0⟩
  case round =>
    obtain ⟨k, hk, rfl, hc, hf, hB⟩ := hrel
    have HC := Lib.hid hc
    have HF := Lib.hid hf
    have HB := Lib.hid hB
    clear cell0 frz0 bel0 hc hf hB
    by_cases hlt : k < a.size
    · have hlen : k < a.data.toList.length := by simpa using hlt
      obtain ⟨b, hb⟩ : ∃ b, a.data.toList[k]? = some b := ⟨_, List.getElem?_eq_getElem hlen⟩
      have hget : (upTo a.data.toList k)[k]? = some b := by rw [upTo_get, if_neg (by omega), hb]
      have hc := HC.out k b hget
      have hf := HF.out k hlt
      have HBB := Lib.hid hb
      have hb8 := b.toNat_lt
      clear hget hb
      by_cases hs : 97 ≤ b.toNat ∧ b.toNat ≤ 122
      · obtain ⟨h1, h2⟩ := hs
        have hup := up_small b h1 h2
        have d1 : decide ((97 : Int) ≤ (b.toNat : Int)) = true := decide_eq_true (by omega)
        have d2 : decide ((b.toNat : Int) ≤ 122) = true := decide_eq_true (by omega)
        go_wp2
        go_roundw
        case rel =>
          refine ⟨k + 1, by omega, by go_num, ?_, ?_, (HB.out.setCell (by simp) _)⟩
          · intro j b' hj
            rw [upTo_get] at hj
            by_cases q : k = j
            · subst q
              rw [if_pos (by omega), HBB.out] at hj
              obtain rfl := Option.some.inj hj
              rw [hup]
              exact World.cell?_setCell_same _ _ _ hc
            · refine (World.cell?_setCell_other _ _ _ _ (fun e => q (congrArg Addr.off e))).trans (HC.out j b' ?_)
              rw [upTo_get]
              by_cases q2 : j < k
              · rw [if_pos (by omega)] at hj; rw [if_pos q2]; exact hj
              · rw [if_neg (by omega)] at hj; rw [if_neg q2]; exact hj
          · intro j hj
            rw [World.frozen?_setCell]
            exact HF.out j hj
        case measure => simp [intOf]; omega
      · have hup := up_else b hs
        have rel : ∃ k_1 : Nat, k_1 ≤ a.size ∧ Value.int .i64 ((k : Int) + 1) = .int .i64 k_1 ∧ (∀ (j : Nat) (b : UInt8), (upTo a.data.toList k_1)[j]? = some b → wr.cell? ⟨w.heap.size, j, none⟩ = some (.int .u8 b.toNat)) ∧
            (∀ j : Nat, j < a.size → wr.frozen? ⟨w.heap.size, j, none⟩ = false) ∧ Below w.heap.size w wr := by
          refine ⟨k + 1, by omega, by go_num, ?_, HF.out, HB.out⟩
          intro j b' hj
          refine HC.out j b' ?_
          rw [upTo_get] at hj ⊢
          by_cases q : k = j
          · subst q
            rw [if_pos (by omega), HBB.out] at hj
            rw [if_neg (by omega), HBB.out]
            rw [← hj]
            simp [hup]
          · by_cases q2 : j < k
            · rw [if_pos (by omega)] at hj; rw [if_pos q2]; exact hj
            · rw [if_neg (by omega)] at hj; rw [if_neg q2]; exact hj
        have REL := Lib.hid rel
        clear rel
        by_cases h1 : 97 ≤ b.toNat
        · have d1 : decide ((97 : Int) ≤ (b.toNat : Int)) = true := decide_eq_true (by omega)
          have d2 : decide ((b.toNat : Int) ≤ 122) = false := decide_eq_false (by omega)
          go_wp2
          go_roundw
          case rel => exact REL.out
          case measure => simp [intOf]; omega
        · have d1 : decide ((97 : Int) ≤ (b.toNat : Int)) = false := decide_eq_false (by omega)
          go_wp2
          go_roundw
          case rel => exact REL.out
          case measure => simp [intOf]; omega
    · obtain rfl : k = a.size := by omega
      have hal : a.data.toList.length = a.size := by simp
      have hback : (convert 58 9 (.slice (some ⟨w.heap.size, 0, none⟩) a.size cap)).run Tryd.prog wr = .ok (.string (upperP a)) wr := by
        have HL : a.size = (a.data.toList.map up).length := by rw [List.length_map, hal]
        rw [HL]
        exact run_convert_bytes_back (P := Tryd.prog) wr 58 9 5 ⟨w.heap.size, 0, none⟩ cap (a.data.toList.map up) Tryd.underlying58 Tryd.underlying5 Tryd.underlying9 (fun j hj => by
          rw [add_plain]
          refine HC.out j _ ?_
          rw [← hal, upTo_all]
          exact List.getElem?_eq_getElem hj)
      go_wp2
      go_ret
      exact ⟨rfl, HB.out⟩
end Go.Proofs.YtjlchnmpebdggaaDoor.Mo
end
section
namespace Go.Proofs.YtjlchnmpebdggaaDoor.Mo
open Go.RowKit Go.Proofs.YtjlchnmpebdggaaDoorW.PrintWords
def placeP (t : ByteArray) : List ByteArray → Nat → Int
  | [], _ => -1
  | x :: r, k => if (upperP x).toList = (upperP t).toList then k else placeP t r (k + 1)
set_option maxHeartbeats 1000000 in
theorem place_calls (l : List ByteArray) (b cap : Nat) (s : ByteArray) (w : World) (hs : s.size ≤ 140737488351232) (hl : l.length ≤ 1000) (hx : ∀ x ∈ l, x.size ≤ 1000)
    (hc : ∀ j x, l[j]? = some x → w.cell? ⟨b, j, none⟩ = some (.string x)) (hb : b < w.heap.size) :
    Calls Tryd.prog 92 #[.slice (some ⟨b, 0, none⟩) l.length cap, .string s] w fun e w' => e = .returned (.int .i64 (placeP s l 0)) ∧ Below w.heap.size w w' := by
  have HX := Lib.hid hx
  have HC := Lib.hid hc
  clear hx hc
  go_enter Tryd.func92, Tryd.ntmps92
  go_wp2_with fail
  refine (upper_calls s _ hs).mono ?_
  rintro e w1 ⟨rfl, hB1⟩
  go_wp2_with fail
  go_loopw [11] (fun n wr => ∃ k : Nat, k ≤ l.length ∧ n = .int .i64 k ∧ placeP s l 0 = placeP s (l.drop k) k ∧ Below w.heap.size w wr) (fun n _ => l.length - (intOf n).toNat)
  case atStart => exact ⟨0, by omega, rfl, rfl, hB1⟩
  case round =>
    obtain ⟨k, hk, rfl, hp, hB⟩ := hrel
    have HB := Lib.hid hB
    have HP := Lib.hid hp
    have hsz := hB.size
    clear hB hp hB1
    by_cases hlt : k < l.length
    · have hc : wr.cell? ⟨b, k, none⟩ = some (.string l[k]) := (HB.out.cell (p := ⟨b, k, none⟩) hb).trans (HC.out k _ (List.getElem?_eq_getElem hlt))
      have hxs := HX.out l[k] (List.getElem_mem hlt)
      have hd : Hid (l.drop k = l[k] :: l.drop (k + 1)) := by show l.drop k = _; exact List.drop_eq_getElem_cons hlt
      generalize l[k] = x at *
      have hq : Hid (placeP s l 0 = if (upperP x).toList = (upperP s).toList then (k : Int) else placeP s (l.drop (k + 1)) (k + 1)) := by
        show placeP s l 0 = _; rw [HP.out, hd.out]; rfl
      by_cases he : (upperP x).toList = (upperP s).toList
      · have HE := Lib.hid he
        have hz : ((upperP x).toList == (upperP s).toList) = true := beq_iff_eq.2 he
        clear he
        go_wp2_with (go_at_call 94; refine (upper_calls _ _ (by omega)).mono ?_; rintro e w2 ⟨rfl, hB2⟩)
        go_ret
        exact ⟨by rw [hq.out, if_pos HE.out]; rfl, HB.out.trans (hB2.mono hsz)⟩
      · have HE := Lib.hid he
        have hz : ((upperP x).toList == (upperP s).toList) = false := beq_eq_false_iff_ne.2 he
        clear he
        go_wp2_with (go_at_call 94; refine (upper_calls _ _ (by omega)).mono ?_; rintro e w2 ⟨rfl, hB2⟩)
        go_roundw
        case rel => exact ⟨k + 1, by omega, by go_num, by rw [hq.out, if_neg HE.out], HB.out.trans (hB2.mono hsz)⟩
        case measure => simp [intOf]; omega
    · obtain rfl : k = l.length := by omega
      go_wp2
      go_ret
      exact ⟨by rw [HP.out, List.drop_length]; rfl, HB.out⟩
end Go.Proofs.YtjlchnmpebdggaaDoor.Mo
end
section
namespace Go.Proofs.YtjlchnmpebdggaaDoor.Mo
open Go.RowKit Go.Proofs.YtjlchnmpebdggaaDoorW.PrintWords
def dayP (d : Int) (s : ByteArray) : Int × Int × Int × Bool :=
  if s.size = 9 ∧ bt s 0 = 45 ∧ bt s 4 = 45 then
    ((digitsP (s.extract 5 9)).1, placeP (s.extract 1 4) monthL 0 + 1, d, (digitsP (s.extract 5 9)).2 && decide (0 ≤ placeP (s.extract 1 4) monthL 0))
  else (0, 0, 0, false)
def moment_day.f (d : Int) (s : ByteArray) : Option (Int × Int × Int × Int × Int × Int × Int × Bool) :=
  some ((dayP d s).1, (dayP d s).2.1, (dayP d s).2.2.1, 0, 0, 0, 0, (dayP d s).2.2.2)
theorem placeP_range (t : ByteArray) : ∀ (l : List ByteArray) (k : Nat), -1 ≤ placeP t l k ∧ placeP t l k < k + l.length
  | [], k => by unfold placeP; simp; omega
  | x :: r, k => by
    unfold placeP
    have := placeP_range t r (k + 1)
    rw [List.length_cons]
    split <;> omega
set_option maxHeartbeats 1000000 in
set_option maxRecDepth 100000 in
theorem day_calls (d : Int) (s : ByteArray) (w : World) :
    Calls Tryd.prog 69 #[.int .i64 d, .string s] w fun e w' => e = .returned (.tuple #[.agg #[.int .i64 (dayP d s).1, .int .i64 (dayP d s).2.1, .int .i64 (dayP d s).2.2.1, .int .i64 0, .int .i64 0, .int .i64 0, .int .i64 0], .bool (dayP d s).2.2.2]) ∧ Below w.heap.size w w' := by
  by_cases hs : s.size = 9 ∧ bt s 0 = 45 ∧ bt s 4 = 45
  · obtain ⟨⟨D1, D2⟩, hD⟩ : ∃ D, digitsP (s.extract 5 9) = D := ⟨_, rfl⟩
    obtain ⟨P, hP⟩ : ∃ P, placeP (s.extract 1 4) monthL 0 = P := ⟨_, rfl⟩
    have hp : dayP d s = (D1, P + 1, d, D2 && decide (0 ≤ P)) := by unfold dayP; rw [if_pos hs, hD, hP]
    have hr := placeP_range (s.extract 1 4) monthL 0
    rw [hP] at hr
    rw [hp]
    dsimp only
    obtain ⟨h9, h0, h4⟩ := hs
    have hb0 : 0 < s.size := by omega
    have hb4 : 4 < s.size := by omega
    have e0 : ((s[0]'hb0).toNat : Int) = 45 := by rw [← h0]; exact bt_at s 0 (by simp; omega)
    have e4 : ((s[4]'hb4).toNat : Int) = 45 := by rw [← h4]; exact bt_at s 4 (by simp; omega)
    have g9 : ((s.size : Int) != 9) = false := by rw [bne_eq_false_iff_eq]; omega
    have hx1 : (s.extract 1 4).size = 3 := by rw [ByteArray.size_extract]; omega
    have hdig : moment_digits.f 7 (s.extract 5 9) = some (D1, D2) := by rw [digits_f 7 (by omega), hD]
    have hr0 : -1 ≤ P := hr.1
    have hr1 : P < 12 := hr.2
    have hse : s.extract 5 s.size = s.extract 5 9 := by rw [h9]
    have HP := Lib.hid hP
    have HD := Lib.hid hdig
    have HX := Lib.hid hx1
    have hP1 : wrap64 (P + 1) = P + 1 := IntWalk.wrap64_in _ ⟨by omega, by omega⟩
    have HSE := Lib.hid hse
    clear hP hD hp hr h0 h4 hdig hx1 hse
    have hb9 : 9 ≤ s.size := by omega
    have hb9' : s.size ≤ 9 := by omega
    have H9 := Lib.hid h9
    clear h9
    have hsl : ∀ w', (Instr.slice 9 (.string s) (some (.int .i64 1)) (some (.int .i64 4)) none).run Tryd.prog w' = .ok (.string (s.extract 1 4)) w' := fun w' => by
      rw [run_slice_string (P := Tryd.prog) w' 9 s .i64 .i64 1 4 Tryd.underlying9 (by omega) (by omega) (by omega)]; rfl
    generalize s.extract 1 4 = T at *
    go_enter Tryd.func69, Tryd.ntmps69
    go_wp2_with fail
    refine (months_calls _).mono ?_
    rintro e w1 ⟨rfl, hb1⟩
    go_wp2_with fail
    have hrow := heap_alloc_new w1 (.cells (monthL.map Value.string).toArray 71)
    have hbel : Below w.heap.size w (w1.alloc (.cells (monthL.map Value.string).toArray 71)) := below_alloc (below_step (below_alloc (Below.refl _ w) _) hb1) _
    obtain ⟨g, hg⟩ : ∃ g, w1.heap.size = g := ⟨_, rfl⟩
    have hbox : (w1.alloc (.cells (monthL.map Value.string).toArray 71)).heap[w.heap.size]? = some (.cells #[.int .i64 0, .int .i64 0, .int .i64 0, .int .i64 0, .int .i64 0, .int .i64 0, .int .i64 0] 23 (0, 0)) := by
      have := hb1.size
      rw [Below.heap_alloc _ _ _ (by simp at this; omega), hb1.block _ (by simp)]; exact heap_alloc_new _ _
    obtain ⟨w2, hw2⟩ : ∃ w2, w1.alloc (.cells (monthL.map Value.string).toArray 71) = w2 := ⟨_, rfl⟩
    rw [hw2] at hrow hbel hbox
    rw [hg] at hrow ⊢
    rw [show w1.alloc (Obj.cells #[Value.string ⟨#[74, 97, 110]⟩, .string ⟨#[70, 101, 98]⟩, .string ⟨#[77, 97, 114]⟩, .string ⟨#[65, 112, 114]⟩, .string ⟨#[77, 97, 121]⟩, .string ⟨#[74, 117, 110]⟩, .string ⟨#[74, 117, 108]⟩, .string ⟨#[65, 117, 103]⟩, .string ⟨#[83, 101, 112]⟩, .string ⟨#[79, 99, 116]⟩, .string ⟨#[78, 111, 118]⟩, .string ⟨#[68, 101, 99]⟩] 71) = w2 from hw2]
    have hglt : g < w2.heap.size := (Array.getElem?_eq_some_iff.1 hrow).1
    have HROW := Lib.hid hrow
    have HBEL := Lib.hid hbel
    have HP1 := Lib.hid hP1
    have hblt : w.heap.size < w2.heap.size := (Array.getElem?_eq_some_iff.1 hbox).1
    have HBOX := Lib.hid hbox
    clear hrow hbel hw2 hg hbox hb1 hP1
    go_region_with (go_at_call 92; refine (place_calls monthL g 12 T _ (by rw [HX.out]; omega) (by decide) month_small (fun j x hx => month_cells (by exact HROW.out) j x hx) (by exact hglt)).mono ?_; rw [HP.out]; rintro e w3 ⟨rfl, hb3⟩; have HB3 := Lib.hid (below_step (below_drew HBEL.out) hb3); have HBX := Lib.hid ((hb3.block w.heap.size (by exact hblt)).trans HBOX.out); clear hb3)
    obtain ⟨⟨c0, c1, c2, c3, c4, c5, c6⟩, fz⟩ := cells7 HBX.out
    have z0 := fz 0
    have z1 := fz 1
    have z2 := fz 2
    have z3 := fz 3
    have z4 := fz 4
    have z5 := fz 5
    have z6 := fz 6
    clear fz
    go_wp2_with (go_at_call 68; rw [HSE.out]; refine (moment_digits.calls 7 _ _ _ _ HD.out).mono ?_; rintro e w4 ⟨rfl, ⟨nd, rfl⟩⟩)
    · rename_i hD
      refine bodyPost_ret (results_ct rfl _ _ w.heap.size 23 #[.int .i64 D1, .int .i64 (P + 1), .int .i64 d, .int .i64 0, .int .i64 0, .int .i64 0, .int .i64 0] (0, 0) _ rfl (set7 (w := w3.drewN nd) HBX.out _ _ _ _ _ _ _).1 Tryd.underlying23 rfl (by kernel_rfl)) rfl ⟨?_, (set7 (w := w3.drewN nd) HBX.out _ _ _ _ _ _ _).2 _ _ (pw_below_drewN HB3.out nd) (Nat.le_refl _)⟩
      rw [hD, Bool.true_and]
      rfl
    · rename_i hD
      refine bodyPost_ret (results_ct rfl _ _ w.heap.size 23 #[.int .i64 D1, .int .i64 (P + 1), .int .i64 d, .int .i64 0, .int .i64 0, .int .i64 0, .int .i64 0] (0, 0) _ rfl (set7 (w := w3.drewN nd) HBX.out _ _ _ _ _ _ _).1 Tryd.underlying23 rfl (by kernel_rfl)) rfl ⟨?_, (set7 (w := w3.drewN nd) HBX.out _ _ _ _ _ _ _).2 _ _ (pw_below_drewN HB3.out nd) (Nat.le_refl _)⟩
      rw [Bool.eq_false_iff.2 hD, Bool.false_and]
      rfl
  · have hp : dayP d s = (0, 0, 0, false) := by unfold dayP; rw [if_neg hs]
    rw [hp]
    by_cases h9 : s.size = 9
    · have g9 : ((s.size : Int) != 9) = false := by rw [bne_eq_false_iff_eq]; omega
      by_cases h0 : bt s 0 = 45
      · have h4 : ¬ bt s 4 = 45 := fun h => hs ⟨h9, h0, h⟩
        have e0 : ((s[0]'(by omega)).toNat : Int) = 45 := by rw [← h0]; exact bt_at s 0 (by simp; omega)
        have e4 : (((s[4]'(by omega)).toNat : Int) != 45) = true := by rw [bne_iff_ne]; intro h; exact h4 (by rw [← h]; exact (bt_at s 4 (by simp; omega)).symm)
        clear hs hp h0 h4
        go_enter Tryd.func69, Tryd.ntmps69
        go_wp2
        exact bodyPost_ret (v := .tuple #[.agg #[.int .i64 0, .int .i64 0, .int .i64 0, .int .i64 0, .int .i64 0, .int .i64 0, .int .i64 0], .bool false]) (by simp [results, Tryd.results69, go_sem]) rfl ⟨rfl, (Below.refl _ _).alloc (Nat.le_refl _) _⟩
      · have e0 : (((s[0]'(by omega)).toNat : Int) != 45) = true := by rw [bne_iff_ne]; intro h; exact h0 (by rw [← h]; exact (bt_at s 0 (by simp; omega)).symm)
        clear hs hp h0
        go_enter Tryd.func69, Tryd.ntmps69
        go_wp2
        exact bodyPost_ret (v := .tuple #[.agg #[.int .i64 0, .int .i64 0, .int .i64 0, .int .i64 0, .int .i64 0, .int .i64 0, .int .i64 0], .bool false]) (by simp [results, Tryd.results69, go_sem]) rfl ⟨rfl, (Below.refl _ _).alloc (Nat.le_refl _) _⟩
    · have g2 : ((s.size : Int) != 9) = true := by rw [bne_iff_ne]; omega
      clear hs hp
      go_enter Tryd.func69, Tryd.ntmps69
      go_wp2
      exact bodyPost_ret (v := .tuple #[.agg #[.int .i64 0, .int .i64 0, .int .i64 0, .int .i64 0, .int .i64 0, .int .i64 0, .int .i64 0], .bool false]) (by simp [results, Tryd.results69, go_sem]) rfl ⟨rfl, (Below.refl _ _).alloc (Nat.le_refl _) _⟩
theorem moment_day.calls (a0 : Int) (a1 : ByteArray) (r1 r2 r3 r4 r5 r6 r7 : Int) (r8 : Bool) (w : World) (h : moment_day.f a0 a1 = some (r1, r2, r3, r4, r5, r6, r7, r8)) :
    Calls Tryd.prog 69 #[.int .i64 a0, .string a1] w fun e w' => e = .returned (.tuple #[.agg #[.int .i64 r1, .int .i64 r2, .int .i64 r3, .int .i64 r4, .int .i64 r5, .int .i64 r6, .int .i64 r7], .bool r8]) ∧ Below w.heap.size w w' := by
  unfold moment_day.f at h
  have h := Option.some.inj h
  simp only [Prod.mk.injEq] at h
  obtain ⟨rfl, rfl, rfl, rfl, rfl, rfl, rfl, rfl⟩ := h
  exact day_calls a0 a1 w
end Go.Proofs.YtjlchnmpebdggaaDoor.Mo
end
section
namespace Go.Proofs.YtjlchnmpebdggaaDoor.Mo
open Go.RowKit Go.Proofs.YtjlchnmpebdggaaDoorW.PrintWords
end Go.Proofs.YtjlchnmpebdggaaDoor.Mo
end
section
namespace Go.Proofs.YtjlchnmpebdggaaDoor.Mo
open Go.RowKit Go.Proofs.YtjlchnmpebdggaaDoorW.PrintWords Go.Proofs.YtjlchnmpebdggaaDoorW.PrintLast Go.Proofs.YtjlchnmpebdggaaDoorW.PrintMore
attribute [local go_sem] max2_int min2_int max_two min_two max_three min_three max_four min_four   -- for this text's walks alone
set_option linter.unusedVariables false
set_option linter.unusedSimpArgs false
def moment_zone.j0 : Nat → ByteArray → Bool → Option (Int × Bool)
 | 0, _, _ => none
 | k + 1, x0, x21 => if x21 = true then (some (0, false)) else (if 1 ≤ 3 then (if 3 ≤ (x0.size : Int) then ((moment_below.f k (x0.extract 1 3) 23).bind fun bt119 => ((moment_below.f k (x0.extract 3 x0.size) 59).bind fun bt121 => (if 0 < (x0.size : Int) then (if (bt x0 0) = 45 then (if bt119.2 = true then (some (wrap64 (-(wrap64 ((wrap64 (60 * bt119.1)) + bt121.1))), bt121.2)) else (some (wrap64 (-(wrap64 ((wrap64 (60 * bt119.1)) + bt121.1))), false))) else (if bt119.2 = true then (some (wrap64 ((wrap64 (60 * bt119.1)) + bt121.1), bt121.2)) else (some (wrap64 ((wrap64 (60 * bt119.1)) + bt121.1), false)))) else (none)))) else (none)) else (none))
def moment_zone.f (k : Nat) (a0 : ByteArray) : Option (Int × Bool) := if (a0.size : Int) = 5 then (if 0 < (a0.size : Int) then (if (bt a0 0) = 43 then (moment_zone.j0 k a0 false) else (moment_zone.j0 k a0 ((bt a0 0) != 45))) else (none)) else (moment_zone.j0 k a0 true)
set_option maxHeartbeats 8000000 in
set_option maxRecDepth 100000 in
theorem moment_zone.calls (k : Nat) (a0 : ByteArray) (r1 : Int) (r2 : Bool) (w : World) (h : moment_zone.f k a0 = some (r1, r2)) :
  Calls Tryd.prog 71 #[.string a0] w fun e w' => e = .returned (.tuple #[.int .i64 r1, .bool r2]) ∧ Drawn0 w w' := by
 have H : (if (a0.size : Int) = 5 then (if 0 < (a0.size : Int) then (if (bt a0 0) = 43 then (moment_zone.j0 k a0 false) else (moment_zone.j0 k a0 ((bt a0 0) != 45))) else (none)) else (moment_zone.j0 k a0 true)) = some (r1, r2) := h
 clear h
 have HC2 := Aside0.mk H
 clear H
 go_enter Tryd.func71, Tryd.ntmps71
 go_upto_region 1 with (fail)
 go_cut [21] (fun v21 wc => ∃ (kq : Nat) (x21_1 : Bool), v21 = .bool x21_1 ∧ Aside0 (moment_zone.j0 kq a0 x21_1 = some (r1, r2)) ∧ Aside0 (kq ≤ k) ∧ Drawn0 w wc)
 case first =>
  have H := HC2.out
  clear HC2
  by_cases c3 : (a0.size : Int) = 5
  ·rw [if_pos c3] at H
   have c3b0 : ((a0.size : Int) == 5) = true := beq_iff_eq.mpr c3
   have c3b1 : ((a0.size : Int) != 5) = false := bne_eq_false_iff_eq.mpr c3
   clear c3
   (first | rw [c3b0] | (simp only [i64_w, i32_w]; rw [c3b0]) | skip)
   by_cases c4 : 0 < (a0.size : Int)
   ·rw [if_pos c4] at H
    have c4b0 : decide (0 < (a0.size : Int)) = true := decide_eq_true c4
    have c4b1 : decide (0 < a0.size) = true := decide_eq_true (by omega)
    clear c4
    by_cases c6 : (bt a0 0) = 43
    ·rw [if_pos c6] at H
     have c6b0 : ((bt a0 0) == 43) = true := beq_iff_eq.mpr c6
     have c6b1 : ((bt a0 0) != 43) = false := bne_eq_false_iff_eq.mpr c6
     clear c6
     have H' := Aside0.mk H
     clear H
     have p5 : 0 ≤ (0 : Int) := (by omega)
     have q5 : 0 < a0.size := (by have : (0 : Int) < (a0.size : Int) := of_decide_eq_true (by first | (with_reducible assumption) | assumption); omega)
     have hx5 : ∀ h : 0 < a0.size, ((a0[0]'h).toNat : Int) = bt a0 0 := bt_at a0 0
     clear p5
     have qi5 : (0 < (a0.size : Int)) = True := eq_true (of_decide_eq_true (by first | (with_reducible assumption) | assumption))
     replace q5 := eq_true q5
     go_wp2
     go_meet
     case rel => exact ⟨_, (false), (by first | rfl | (simp; done) | (simp [*]; done)), H', ⟨by first | omega | exact Nat.le_refl _⟩, by repeat (first | exact Drawn0.refl _ | apply Drawn0.step)⟩
    ·rw [if_neg c6] at H
     have c6b0 : ((bt a0 0) == 43) = false := beq_eq_false_iff_ne.mpr c6
     have c6b1 : ((bt a0 0) != 43) = true := bne_iff_ne.mpr c6
     have H' := Aside0.mk H
     clear H
     have p5 : 0 ≤ (0 : Int) := (by omega)
     have q5 : 0 < a0.size := (by have : (0 : Int) < (a0.size : Int) := of_decide_eq_true (by first | (with_reducible assumption) | assumption); omega)
     have hx5 : ∀ h : 0 < a0.size, ((a0[0]'h).toNat : Int) = bt a0 0 := bt_at a0 0
     clear p5
     have qi5 : (0 < (a0.size : Int)) = True := eq_true (of_decide_eq_true (by first | (with_reducible assumption) | assumption))
     replace q5 := eq_true q5
     have p7 : 0 ≤ (0 : Int) := (by omega)
     have q7 : 0 < a0.size := (by have : (0 : Int) < (a0.size : Int) := of_decide_eq_true (by first | (with_reducible assumption) | assumption); omega)
     have hx7 : ∀ h : 0 < a0.size, ((a0[0]'h).toNat : Int) = bt a0 0 := bt_at a0 0
     clear p7
     have qi7 : (0 < (a0.size : Int)) = True := eq_true (of_decide_eq_true (by first | (with_reducible assumption) | assumption))
     replace q7 := eq_true q7
     go_wp2
     go_meet
     case rel => exact ⟨_, (((bt a0 0) != 45)), (by first | rfl | (simp; done) | (simp [*]; done)), H', ⟨by first | omega | exact Nat.le_refl _⟩, by repeat (first | exact Drawn0.refl _ | apply Drawn0.step)⟩
   ·rw [if_neg c4] at H
    exact absurd H (by simp)
  ·rw [if_neg c3] at H
   have c3b0 : ((a0.size : Int) == 5) = false := beq_eq_false_iff_ne.mpr c3
   have c3b1 : ((a0.size : Int) != 5) = true := bne_iff_ne.mpr c3
   (first | rw [c3b0] | (simp only [i64_w, i32_w]; rw [c3b0]) | skip)
   have H' := Aside0.mk H
   clear H
   go_wp2
   go_meet
   case rel => exact ⟨_, (true), (by first | rfl | (simp; done) | (simp [*]; done)), H', ⟨by first | omega | exact Nat.le_refl _⟩, by repeat (first | exact Drawn0.refl _ | apply Drawn0.step)⟩
 case rest =>
  clear HC2
  try clear p2
  try clear c3
  try clear c3b0
  try clear c3b1
  try clear c4
  try clear c4b0
  try clear c4b1
  try clear p5
  try clear q5
  try clear hx5
  try clear qi5
  try clear c6
  try clear c6b0
  try clear c6b1
  try clear c7
  try clear p7
  try clear q7
  try clear hx7
  try clear qi7
  try clear p5
  try clear p7
  try clear q5
  try clear q7
  obtain ⟨kq, x21_1, rfl, HA, HJ1, ⟨mc1, rfl⟩⟩ := hcut
  cases kq with
  | zero => exact absurd HA.out (by simp [moment_zone.j0])
  | succ kj1 =>
   have H := HA.out
   clear HA
   simp only [moment_zone.j0] at H
   by_cases c8 : x21_1 = true
   ·subst c8
    have H1 : (some (0, false)) = some (r1, r2) := by rw [if_pos rfl] at H; exact H
    clear H
    have H := H1
    clear H1
    simp only [Option.some.injEq, Prod.mk.injEq] at H
    obtain ⟨rfl, rfl⟩ := H
    go_wp2
    go_ret2
    exact ⟨by first | rfl | (simp; done) | (simp [*]; done), by repeat (first | exact Drawn0.refl _ | apply Drawn0.step)⟩
   ·replace c8 := Bool.eq_false_iff.mpr c8
    subst c8
    have H1 : (if 1 ≤ 3 then (if 3 ≤ (a0.size : Int) then ((moment_below.f kj1 (a0.extract 1 3) 23).bind fun bt119 => ((moment_below.f kj1 (a0.extract 3 a0.size) 59).bind fun bt121 => (if 0 < (a0.size : Int) then (if (bt a0 0) = 45 then (if bt119.2 = true then (some (wrap64 (-(wrap64 ((wrap64 (60 * bt119.1)) + bt121.1))), bt121.2)) else (some (wrap64 (-(wrap64 ((wrap64 (60 * bt119.1)) + bt121.1))), false))) else (if bt119.2 = true then (some (wrap64 ((wrap64 (60 * bt119.1)) + bt121.1), bt121.2)) else (some (wrap64 ((wrap64 (60 * bt119.1)) + bt121.1), false)))) else (none)))) else (none)) else (none)) = some (r1, r2) := by rw [if_neg (show ¬ (false = true) by decide)] at H; exact H
    clear H
    have H := H1
    clear H1
    by_cases c9 : 1 ≤ 3
    ·rw [if_pos c9] at H
     have c9b0 := eq_true c9
     have c9b1 : decide (1 ≤ 3) = true := decide_eq_true c9
     clear c9
     by_cases c10 : 3 ≤ (a0.size : Int)
     ·rw [if_pos c10] at H
      have c10b0 := eq_true c10
      have c10b1 : decide (3 ≤ (a0.size : Int)) = true := decide_eq_true c10
      clear c10
      replace H := Option.bind_eq_some_iff.mp H
      obtain ⟨⟨t119, t120⟩, A110, H⟩ := H
      replace H : ((moment_below.f kj1 (a0.extract 3 a0.size) 59).bind fun bt121 => (if 0 < (a0.size : Int) then (if (bt a0 0) = 45 then (if t120 = true then (some (wrap64 (-(wrap64 ((wrap64 (60 * t119)) + bt121.1))), bt121.2)) else (some (wrap64 (-(wrap64 ((wrap64 (60 * t119)) + bt121.1))), false))) else (if t120 = true then (some (wrap64 ((wrap64 (60 * t119)) + bt121.1), bt121.2)) else (some (wrap64 ((wrap64 (60 * t119)) + bt121.1), false)))) else (none))) = some (r1, r2) := H
      have A11 := Aside0.mk A110
      clear A110
      have c12b0 := eq_true (of_decide_eq_true (by first | (with_reducible assumption) | assumption) : 3 ≤ (a0.size : Int))
      replace H := Option.bind_eq_some_iff.mp H
      obtain ⟨⟨t121, t122⟩, A130, H⟩ := H
      replace H : (if 0 < (a0.size : Int) then (if (bt a0 0) = 45 then (if t120 = true then (some (wrap64 (-(wrap64 ((wrap64 (60 * t119)) + t121))), t122)) else (some (wrap64 (-(wrap64 ((wrap64 (60 * t119)) + t121))), false))) else (if t120 = true then (some (wrap64 ((wrap64 (60 * t119)) + t121), t122)) else (some (wrap64 ((wrap64 (60 * t119)) + t121), false)))) else (none)) = some (r1, r2) := H
      have A13 := Aside0.mk A130
      clear A130
      by_cases c14 : 0 < (a0.size : Int)
      ·rw [if_pos c14] at H
       have c14b0 : decide (0 < (a0.size : Int)) = true := decide_eq_true c14
       have c14b1 : decide (0 < a0.size) = true := decide_eq_true (by omega)
       clear c14
       by_cases c16 : (bt a0 0) = 45
       ·rw [if_pos c16] at H
        have c16b0 : ((bt a0 0) == 45) = true := beq_iff_eq.mpr c16
        have c16b1 : ((bt a0 0) != 45) = false := bne_eq_false_iff_eq.mpr c16
        clear c16
        by_cases c17 : t120 = true
        ·subst c17
         have H1 : (some (wrap64 (-(wrap64 ((wrap64 (60 * t119)) + t121))), t122)) = some (r1, r2) := by rw [if_pos rfl] at H; exact H
         clear H
         have H := H1
         clear H1
         simp only [Option.some.injEq, Prod.mk.injEq] at H
         obtain ⟨rfl, rfl⟩ := H
         go_wp2_with (first | ((with_reducible refine gate_callee (f := 70) rfl ?_); refine goesL_ (some 25) rfl rfl Tryd.func70 (by kernel_rfl) rfl #[.string (a0.extract 1 3), .int .i64 23] rfl (by (try simp only [List.map_toArray, List.map_cons, List.map_nil]); first | done | rfl) ?_; (with_reducible refine (moment_below.calls kj1 (a0.extract 1 3) 23 t119 true _ A11.out).mono ?_); rintro e w' ⟨rfl, ⟨nd, rfl⟩⟩; refine ⟨_, rfl, ?_⟩) | ((with_reducible refine gate_callee (f := 70) rfl ?_); refine goesL_ (some 31) rfl rfl Tryd.func70 (by kernel_rfl) rfl #[.string (a0.extract 3 a0.size), .int .i64 59] rfl (by (try simp only [List.map_toArray, List.map_cons, List.map_nil]); first | done | rfl) ?_; (with_reducible refine (moment_below.calls kj1 (a0.extract 3 a0.size) 59 t121 t122 _ A13.out).mono ?_); rintro e w' ⟨rfl, ⟨nd, rfl⟩⟩; refine ⟨_, rfl, ?_⟩; have p15 : 0 ≤ (0 : Int) := (by omega); have q15 : 0 < a0.size := (by have : (0 : Int) < (a0.size : Int) := of_decide_eq_true (by first | (with_reducible assumption) | assumption); omega); have hx15 : ∀ h : 0 < a0.size, ((a0[0]'h).toNat : Int) = bt a0 0 := bt_at a0 0; clear p15; have qi15 : (0 < (a0.size : Int)) = True := eq_true (of_decide_eq_true (by first | (with_reducible assumption) | assumption)); replace q15 := eq_true q15))
         go_ret2
         exact ⟨by first | rfl | (simp; done) | (simp [*]; done), by repeat (first | exact Drawn0.refl _ | apply Drawn0.step)⟩
        ·replace c17 := Bool.eq_false_iff.mpr c17
         subst c17
         have H1 : (some (wrap64 (-(wrap64 ((wrap64 (60 * t119)) + t121))), false)) = some (r1, r2) := by rw [if_neg (show ¬ (false = true) by decide)] at H; exact H
         clear H
         have H := H1
         clear H1
         simp only [Option.some.injEq, Prod.mk.injEq] at H
         obtain ⟨rfl, rfl⟩ := H
         go_wp2_with (first | ((with_reducible refine gate_callee (f := 70) rfl ?_); refine goesL_ (some 25) rfl rfl Tryd.func70 (by kernel_rfl) rfl #[.string (a0.extract 1 3), .int .i64 23] rfl (by (try simp only [List.map_toArray, List.map_cons, List.map_nil]); first | done | rfl) ?_; (with_reducible refine (moment_below.calls kj1 (a0.extract 1 3) 23 t119 false _ A11.out).mono ?_); rintro e w' ⟨rfl, ⟨nd, rfl⟩⟩; refine ⟨_, rfl, ?_⟩) | ((with_reducible refine gate_callee (f := 70) rfl ?_); refine goesL_ (some 31) rfl rfl Tryd.func70 (by kernel_rfl) rfl #[.string (a0.extract 3 a0.size), .int .i64 59] rfl (by (try simp only [List.map_toArray, List.map_cons, List.map_nil]); first | done | rfl) ?_; (with_reducible refine (moment_below.calls kj1 (a0.extract 3 a0.size) 59 t121 t122 _ A13.out).mono ?_); rintro e w' ⟨rfl, ⟨nd, rfl⟩⟩; refine ⟨_, rfl, ?_⟩; have p15 : 0 ≤ (0 : Int) := (by omega); have q15 : 0 < a0.size := (by have : (0 : Int) < (a0.size : Int) := of_decide_eq_true (by first | (with_reducible assumption) | assumption); omega); have hx15 : ∀ h : 0 < a0.size, ((a0[0]'h).toNat : Int) = bt a0 0 := bt_at a0 0; clear p15; have qi15 : (0 < (a0.size : Int)) = True := eq_true (of_decide_eq_true (by first | (with_reducible assumption) | assumption)); replace q15 := eq_true q15))
         go_ret2
         exact ⟨by first | rfl | (simp; done) | (simp [*]; done), by repeat (first | exact Drawn0.refl _ | apply Drawn0.step)⟩
       ·rw [if_neg c16] at H
        have c16b0 : ((bt a0 0) == 45) = false := beq_eq_false_iff_ne.mpr c16
        have c16b1 : ((bt a0 0) != 45) = true := bne_iff_ne.mpr c16
        by_cases c18 : t120 = true
        ·subst c18
         have H1 : (some (wrap64 ((wrap64 (60 * t119)) + t121), t122)) = some (r1, r2) := by rw [if_pos rfl] at H; exact H
         clear H
         have H := H1
         clear H1
         simp only [Option.some.injEq, Prod.mk.injEq] at H
         obtain ⟨rfl, rfl⟩ := H
         go_wp2_with (first | ((with_reducible refine gate_callee (f := 70) rfl ?_); refine goesL_ (some 25) rfl rfl Tryd.func70 (by kernel_rfl) rfl #[.string (a0.extract 1 3), .int .i64 23] rfl (by (try simp only [List.map_toArray, List.map_cons, List.map_nil]); first | done | rfl) ?_; (with_reducible refine (moment_below.calls kj1 (a0.extract 1 3) 23 t119 true _ A11.out).mono ?_); rintro e w' ⟨rfl, ⟨nd, rfl⟩⟩; refine ⟨_, rfl, ?_⟩) | ((with_reducible refine gate_callee (f := 70) rfl ?_); refine goesL_ (some 31) rfl rfl Tryd.func70 (by kernel_rfl) rfl #[.string (a0.extract 3 a0.size), .int .i64 59] rfl (by (try simp only [List.map_toArray, List.map_cons, List.map_nil]); first | done | rfl) ?_; (with_reducible refine (moment_below.calls kj1 (a0.extract 3 a0.size) 59 t121 t122 _ A13.out).mono ?_); rintro e w' ⟨rfl, ⟨nd, rfl⟩⟩; refine ⟨_, rfl, ?_⟩; have p15 : 0 ≤ (0 : Int) := (by omega); have q15 : 0 < a0.size := (by have : (0 : Int) < (a0.size : Int) := of_decide_eq_true (by first | (with_reducible assumption) | assumption); omega); have hx15 : ∀ h : 0 < a0.size, ((a0[0]'h).toNat : Int) = bt a0 0 := bt_at a0 0; clear p15; have qi15 : (0 < (a0.size : Int)) = True := eq_true (of_decide_eq_true (by first | (with_reducible assumption) | assumption)); replace q15 := eq_true q15))
         go_ret2
         exact ⟨by first | rfl | (simp; done) | (simp [*]; done), by repeat (first | exact Drawn0.refl _ | apply Drawn0.step)⟩
        ·replace c18 := Bool.eq_false_iff.mpr c18
         subst c18
         have H1 : (some (wrap64 ((wrap64 (60 * t119)) + t121), false)) = some (r1, r2) := by rw [if_neg (show ¬ (false = true) by decide)] at H; exact H
         clear H
         have H := H1
         clear H1
         simp only [Option.some.injEq, Prod.mk.injEq] at H
         obtain ⟨rfl, rfl⟩ := H
         go_wp2_with (first | ((with_reducible refine gate_callee (f := 70) rfl ?_); refine goesL_ (some 25) rfl rfl Tryd.func70 (by kernel_rfl) rfl #[.string (a0.extract 1 3), .int .i64 23] rfl (by (try simp only [List.map_toArray, List.map_cons, List.map_nil]); first | done | rfl) ?_; (with_reducible refine (moment_below.calls kj1 (a0.extract 1 3) 23 t119 false _ A11.out).mono ?_); rintro e w' ⟨rfl, ⟨nd, rfl⟩⟩; refine ⟨_, rfl, ?_⟩) | ((with_reducible refine gate_callee (f := 70) rfl ?_); refine goesL_ (some 31) rfl rfl Tryd.func70 (by kernel_rfl) rfl #[.string (a0.extract 3 a0.size), .int .i64 59] rfl (by (try simp only [List.map_toArray, List.map_cons, List.map_nil]); first | done | rfl) ?_; (with_reducible refine (moment_below.calls kj1 (a0.extract 3 a0.size) 59 t121 t122 _ A13.out).mono ?_); rintro e w' ⟨rfl, ⟨nd, rfl⟩⟩; refine ⟨_, rfl, ?_⟩; have p15 : 0 ≤ (0 : Int) := (by omega); have q15 : 0 < a0.size := (by have : (0 : Int) < (a0.size : Int) := of_decide_eq_true (by first | (with_reducible assumption) | assumption); omega); have hx15 : ∀ h : 0 < a0.size, ((a0[0]'h).toNat : Int) = bt a0 0 := bt_at a0 0; clear p15; have qi15 : (0 < (a0.size : Int)) = True := eq_true (of_decide_eq_true (by first | (with_reducible assumption) | assumption)); replace q15 := eq_true q15))
         go_ret2
         exact ⟨by first | rfl | (simp; done) | (simp [*]; done), by repeat (first | exact Drawn0.refl _ | apply Drawn0.step)⟩
      ·rw [if_neg c14] at H
       exact absurd H (by simp)
     ·rw [if_neg c10] at H
      exact absurd H (by simp)
    ·rw [if_neg c9] at H
     exact absurd H (by simp)
def moment_read.f (a0_0 : Int) (a0_1 : Int) (a0_2 : Int) (a0_3 : Int) (a0_4 : Int) (a0_5 : Int) (a0_6 : Int) (a1 : Bool) : Option (Int × Int × Int × Int × Int × Int × Int × Int) := if a1 = true then ((moment_isDay.f a0_0 a0_1 a0_2 a0_3 a0_4 a0_5 a0_6).bind fun t127 => (if t127 = true then (some (a0_0, a0_1, a0_2, a0_3, a0_4, a0_5, a0_6, 0)) else (some (0, 0, 0, 0, 0, 0, 0, 21)))) else (some (0, 0, 0, 0, 0, 0, 0, 20))
set_option maxHeartbeats 8000000 in
set_option maxRecDepth 100000 in
theorem moment_read.calls (a0_0 : Int) (a0_1 : Int) (a0_2 : Int) (a0_3 : Int) (a0_4 : Int) (a0_5 : Int) (a0_6 : Int) (a1 : Bool) (r1 : Int) (r2 : Int) (r3 : Int) (r4 : Int) (r5 : Int) (r6 : Int) (r7 : Int) (r8 : Int) (w : World) (h : moment_read.f a0_0 a0_1 a0_2 a0_3 a0_4 a0_5 a0_6 a1 = some (r1, r2, r3, r4, r5, r6, r7, r8)) (hL_ : Laid w) :
  Calls Tryd.prog 60 #[.agg #[.int .i64 a0_0, .int .i64 a0_1, .int .i64 a0_2, .int .i64 a0_3, .int .i64 a0_4, .int .i64 a0_5, .int .i64 a0_6], .bool a1] w fun e w' => e = .returned (.tuple #[.agg #[.int .i64 r1, .int .i64 r2, .int .i64 r3, .int .i64 r4, .int .i64 r5, .int .i64 r6, .int .i64 r7], .int .i64 r8]) ∧ Below w.heap.size w w' := by
 have HL_ := Aside0.mk hL_
 clear hL_
 have hu23 := Tryd.underlying23
 have HB := Aside0.mk (Below.refl w.heap.size w)
 have H : (if a1 = true then ((moment_isDay.f a0_0 a0_1 a0_2 a0_3 a0_4 a0_5 a0_6).bind fun t127 => (if t127 = true then (some (a0_0, a0_1, a0_2, a0_3, a0_4, a0_5, a0_6, 0)) else (some (0, 0, 0, 0, 0, 0, 0, 21)))) else (some (0, 0, 0, 0, 0, 0, 0, 20))) = some (r1, r2, r3, r4, r5, r6, r7, r8) := h
 clear h
 by_cases c3 : a1 = true
 ·subst c3
  have H1 : ((moment_isDay.f a0_0 a0_1 a0_2 a0_3 a0_4 a0_5 a0_6).bind fun t127 => (if t127 = true then (some (a0_0, a0_1, a0_2, a0_3, a0_4, a0_5, a0_6, 0)) else (some (0, 0, 0, 0, 0, 0, 0, 21)))) = some (r1, r2, r3, r4, r5, r6, r7, r8) := by rw [if_pos rfl] at H; exact H
  clear H
  have H := H1
  clear H1
  replace H := Option.bind_eq_some_iff.mp H
  obtain ⟨t127, A40, H⟩ := H
  replace H : (if t127 = true then (some (a0_0, a0_1, a0_2, a0_3, a0_4, a0_5, a0_6, 0)) else (some (0, 0, 0, 0, 0, 0, 0, 21))) = some (r1, r2, r3, r4, r5, r6, r7, r8) := H
  have A4 := Aside0.mk A40
  clear A40
  by_cases c5 : t127 = true
  ·subst c5
   have H1 : (some (a0_0, a0_1, a0_2, a0_3, a0_4, a0_5, a0_6, 0)) = some (r1, r2, r3, r4, r5, r6, r7, r8) := by rw [if_pos rfl] at H; exact H
   clear H
   have H := H1
   clear H1
   simp only [Option.some.injEq, Prod.mk.injEq] at H
   obtain ⟨rfl, rfl, rfl, rfl, rfl, rfl, rfl, rfl⟩ := H
   go_enter Tryd.func60, Tryd.ntmps60
   go_wp2_with (first | ((with_reducible refine gate_dst (N := 2) rfl ?_); refine box_event ?hg (N := 2) ?hd (cs := #[.int .i64 a0_0, .int .i64 a0_1, .int .i64 a0_2, .int .i64 a0_3, .int .i64 a0_4, .int .i64 a0_5, .int .i64 a0_6]) (t := 23) ?hr ?_; (case hd => rfl); (case hg => rfl); (case hr => first | (go_simp; done) | (go_simp; rfl)); intro gb125 hg w6 hbox hb; have n0_ := Aside0.mk (below_step (by repeat (first | (with_reducible first | exact HB.out | apply below_alloc | apply pw_below_drewN | apply below_drew1) | exact HB.out)) hb); have n1_ := Aside0.mk (hbox); have n2_ := Aside0.mk ((by rw [hg]; exact (below_size (by repeat (first | (with_reducible first | exact HB.out | apply below_alloc | apply pw_below_drewN | apply below_drew1) | exact HB.out))) : w.heap.size ≤ gb125)); have n3_ := Aside0.mk ((by rw [hg]; exact (below_size (by repeat (first | (with_reducible first | exact HB.out | apply below_alloc | apply pw_below_drewN | apply below_drew1) | exact HB.out))) : w.heap.size ≤ gb125)); clear HB; have HB := n0_; have BK125 := n1_; have GW125 := n2_; have GE125 := n3_; clear n0_ n1_ n2_ n3_; clear hb hbox hg) | ((with_reducible refine gate_dst (N := 4) rfl ?_); refine box_event ?hg (N := 4) ?hd (cs := #[.int .i64 0, .int .i64 0, .int .i64 0, .int .i64 0, .int .i64 0, .int .i64 0, .int .i64 0]) (t := 23) ?hr ?_; (case hd => rfl); (case hg => rfl); (case hr => first | (go_simp; done) | (go_simp; rfl)); intro gb126 hg w7 hbox hb; have n0_ := Aside0.mk (blk_below (g := gb125) (o := .cells #[.int .i64 a0_0, .int .i64 a0_1, .int .i64 a0_2, .int .i64 a0_3, .int .i64 a0_4, .int .i64 a0_5, .int .i64 a0_6] 23 (0, 0)) (by (with_reducible repeat first | refine blk_drewN ?_ _ | refine blk_alloc ?_ _); exact BK125.out) hb); have n1_ := Aside0.mk (below_step (by repeat (first | (with_reducible first | exact HB.out | apply below_alloc | apply pw_below_drewN | apply below_drew1 | refine below_set ?_ GE125.out) | exact HB.out)) hb); have n2_ := Aside0.mk (hbox); have n3_ := Aside0.mk ((by rw [hg]; exact (below_size (by repeat (first | (with_reducible first | exact HB.out | apply below_alloc | apply pw_below_drewN | apply below_drew1 | refine below_set ?_ GE125.out) | exact HB.out))) : w.heap.size ≤ gb126)); have n4_ := Aside0.mk ((by rw [hg]; exact (below_size (by repeat (first | (with_reducible first | exact HB.out | apply below_alloc | apply pw_below_drewN | apply below_drew1 | refine below_set ?_ GE125.out) | exact HB.out))) : w.heap.size ≤ gb126)); have n5_ := Aside0.mk ((by rw [hg]; exact Nat.ne_of_lt (blk_lt (g := gb125) (o := .cells #[.int .i64 a0_0, .int .i64 a0_1, .int .i64 a0_2, .int .i64 a0_3, .int .i64 a0_4, .int .i64 a0_5, .int .i64 a0_6] 23 (0, 0)) (by (with_reducible repeat first | refine blk_drewN ?_ _ | refine blk_alloc ?_ _); exact BK125.out)) : gb125 ≠ gb126)); have n6_ := Aside0.mk ((by rw [hg]; exact Nat.ne_of_gt (blk_lt (g := gb125) (o := .cells #[.int .i64 a0_0, .int .i64 a0_1, .int .i64 a0_2, .int .i64 a0_3, .int .i64 a0_4, .int .i64 a0_5, .int .i64 a0_6] 23 (0, 0)) (by (with_reducible repeat first | refine blk_drewN ?_ _ | refine blk_alloc ?_ _); exact BK125.out)) : gb126 ≠ gb125)); clear BK125; clear HB; have BK125 := n0_; have HB := n1_; have BK126 := n2_; have GW126 := n3_; have GE126 := n4_; have NB125_126 := n5_; have NB126_125 := n6_; clear n0_ n1_ n2_ n3_ n4_ n5_ n6_; clear hb hbox hg; have hnb8 := NB125_126.out; have hnc8 := NB126_125.out; have hcz9_0 : w7.cell? ⟨gb125, 0, none⟩ = some (.int .i64 a0_0) := (blk_cell BK125.out 0).trans rfl; have hcz9_1 : w7.cell? ⟨gb125, 1, none⟩ = some (.int .i64 a0_1) := (blk_cell BK125.out 1).trans rfl; have hcz9_2 : w7.cell? ⟨gb125, 2, none⟩ = some (.int .i64 a0_2) := (blk_cell BK125.out 2).trans rfl; have hcz9_3 : w7.cell? ⟨gb125, 3, none⟩ = some (.int .i64 a0_3) := (blk_cell BK125.out 3).trans rfl; have hcz9_4 : w7.cell? ⟨gb125, 4, none⟩ = some (.int .i64 a0_4) := (blk_cell BK125.out 4).trans rfl; have hcz9_5 : w7.cell? ⟨gb125, 5, none⟩ = some (.int .i64 a0_5) := (blk_cell BK125.out 5).trans rfl; have hcz9_6 : w7.cell? ⟨gb125, 6, none⟩ = some (.int .i64 a0_6) := (blk_cell BK125.out 6).trans rfl; have hfz9_0 := blk_frozen BK125.out 0; have hfz9_1 := blk_frozen BK125.out 1; have hfz9_2 := blk_frozen BK125.out 2; have hfz9_3 := blk_frozen BK125.out 3; have hfz9_4 := blk_frozen BK125.out 4; have hfz9_5 := blk_frozen BK125.out 5; have hfz9_6 := blk_frozen BK125.out 6) | ((with_reducible refine gate_callee (f := 46) rfl ?_); refine goesL_ (some 12) rfl rfl Tryd.func46 (by kernel_rfl) rfl #[.agg #[.int .i64 a0_0, .int .i64 a0_1, .int .i64 a0_2, .int .i64 a0_3, .int .i64 a0_4, .int .i64 a0_5, .int .i64 a0_6]] rfl (by (try simp only [List.map_toArray, List.map_cons, List.map_nil]); first | done | rfl) ?_; (with_reducible refine (moment_isDay.calls a0_0 a0_1 a0_2 a0_3 a0_4 a0_5 a0_6 true _ A4.out (by first | exact laid_below HL_.out (by repeat (first | (with_reducible first | exact HB.out | apply below_alloc | apply pw_below_drewN | apply below_drew1) | exact HB.out)) | exact laid_drawn HL_.out (by repeat (first | exact Drawn0.refl _ | apply Drawn0.step)))).mono ?_); rintro e w10 ⟨rfl, hb⟩; refine ⟨_, rfl, ?_⟩; have n0_ := Aside0.mk (blk_below (g := gb125) (o := .cells #[.int .i64 a0_0, .int .i64 a0_1, .int .i64 a0_2, .int .i64 a0_3, .int .i64 a0_4, .int .i64 a0_5, .int .i64 a0_6] 23 (0, 0)) (by (with_reducible repeat first | refine blk_drewN ?_ _ | refine blk_alloc ?_ _); exact BK125.out) hb); have n1_ := Aside0.mk (blk_below (g := gb126) (o := .cells #[.int .i64 0, .int .i64 0, .int .i64 0, .int .i64 0, .int .i64 0, .int .i64 0, .int .i64 0] 23 (0, 0)) (by (with_reducible repeat first | refine blk_drewN ?_ _ | refine blk_alloc ?_ _); exact BK126.out) hb); have n2_ := Aside0.mk (below_step (by repeat (first | (with_reducible first | exact HB.out | apply below_alloc | apply pw_below_drewN | apply below_drew1 | refine below_set ?_ GE125.out | refine below_set ?_ GE126.out) | exact HB.out)) hb); clear BK125; clear BK126; clear HB; have BK125 := n0_; have BK126 := n1_; have HB := n2_; clear n0_ n1_ n2_; (try clear hb); (try clear hb2); (try clear hk); (try clear hi); have hcz11_0 : w10.cell? ⟨gb125, 0, none⟩ = some (.int .i64 a0_0) := (blk_cell BK125.out 0).trans rfl; have hcz11_1 : w10.cell? ⟨gb125, 1, none⟩ = some (.int .i64 a0_1) := (blk_cell BK125.out 1).trans rfl; have hcz11_2 : w10.cell? ⟨gb125, 2, none⟩ = some (.int .i64 a0_2) := (blk_cell BK125.out 2).trans rfl; have hcz11_3 : w10.cell? ⟨gb125, 3, none⟩ = some (.int .i64 a0_3) := (blk_cell BK125.out 3).trans rfl; have hcz11_4 : w10.cell? ⟨gb125, 4, none⟩ = some (.int .i64 a0_4) := (blk_cell BK125.out 4).trans rfl; have hcz11_5 : w10.cell? ⟨gb125, 5, none⟩ = some (.int .i64 a0_5) := (blk_cell BK125.out 5).trans rfl; have hcz11_6 : w10.cell? ⟨gb125, 6, none⟩ = some (.int .i64 a0_6) := (blk_cell BK125.out 6).trans rfl; have hfz11_0 := blk_frozen BK125.out 0; have hfz11_1 := blk_frozen BK125.out 1; have hfz11_2 := blk_frozen BK125.out 2; have hfz11_3 := blk_frozen BK125.out 3; have hfz11_4 := blk_frozen BK125.out 4; have hfz11_5 := blk_frozen BK125.out 5; have hfz11_6 := blk_frozen BK125.out 6; have hcz12_0 : w10.cell? ⟨gb126, 0, none⟩ = some (.int .i64 0) := (blk_cell BK126.out 0).trans rfl; have hcz12_1 : w10.cell? ⟨gb126, 1, none⟩ = some (.int .i64 0) := (blk_cell BK126.out 1).trans rfl; have hcz12_2 : w10.cell? ⟨gb126, 2, none⟩ = some (.int .i64 0) := (blk_cell BK126.out 2).trans rfl; have hcz12_3 : w10.cell? ⟨gb126, 3, none⟩ = some (.int .i64 0) := (blk_cell BK126.out 3).trans rfl; have hcz12_4 : w10.cell? ⟨gb126, 4, none⟩ = some (.int .i64 0) := (blk_cell BK126.out 4).trans rfl; have hcz12_5 : w10.cell? ⟨gb126, 5, none⟩ = some (.int .i64 0) := (blk_cell BK126.out 5).trans rfl; have hcz12_6 : w10.cell? ⟨gb126, 6, none⟩ = some (.int .i64 0) := (blk_cell BK126.out 6).trans rfl; have hfz12_0 := blk_frozen BK126.out 0; have hfz12_1 := blk_frozen BK126.out 1; have hfz12_2 := blk_frozen BK126.out 2; have hfz12_3 := blk_frozen BK126.out 3; have hfz12_4 := blk_frozen BK126.out 4; have hfz12_5 := blk_frozen BK126.out 5; have hfz12_6 := blk_frozen BK126.out 6))
   refine bodyPost_ret (results_ct rfl _ _ gb126 23 #[.int .i64 a0_0, .int .i64 a0_1, .int .i64 a0_2, .int .i64 a0_3, .int .i64 a0_4, .int .i64 a0_5, .int .i64 a0_6] (0, 0) _ rfl (by (with_reducible repeat first | refine blk_drewN ?_ _ | refine blk_alloc ?_ _); refine blk_put (cs := #[.int .i64 a0_0, .int .i64 a0_1, .int .i64 a0_2, .int .i64 a0_3, .int .i64 a0_4, .int .i64 a0_5, .int .i64 0]) ?_ 6 _ rfl; (with_reducible repeat first | refine blk_drewN ?_ _ | refine blk_alloc ?_ _); refine blk_put (cs := #[.int .i64 a0_0, .int .i64 a0_1, .int .i64 a0_2, .int .i64 a0_3, .int .i64 a0_4, .int .i64 0, .int .i64 0]) ?_ 5 _ rfl; (with_reducible repeat first | refine blk_drewN ?_ _ | refine blk_alloc ?_ _); refine blk_put (cs := #[.int .i64 a0_0, .int .i64 a0_1, .int .i64 a0_2, .int .i64 a0_3, .int .i64 0, .int .i64 0, .int .i64 0]) ?_ 4 _ rfl; (with_reducible repeat first | refine blk_drewN ?_ _ | refine blk_alloc ?_ _); refine blk_put (cs := #[.int .i64 a0_0, .int .i64 a0_1, .int .i64 a0_2, .int .i64 0, .int .i64 0, .int .i64 0, .int .i64 0]) ?_ 3 _ rfl; (with_reducible repeat first | refine blk_drewN ?_ _ | refine blk_alloc ?_ _); refine blk_put (cs := #[.int .i64 a0_0, .int .i64 a0_1, .int .i64 0, .int .i64 0, .int .i64 0, .int .i64 0, .int .i64 0]) ?_ 2 _ rfl; (with_reducible repeat first | refine blk_drewN ?_ _ | refine blk_alloc ?_ _); refine blk_put (cs := #[.int .i64 a0_0, .int .i64 0, .int .i64 0, .int .i64 0, .int .i64 0, .int .i64 0, .int .i64 0]) ?_ 1 _ rfl; (with_reducible repeat first | refine blk_drewN ?_ _ | refine blk_alloc ?_ _); refine blk_put (cs := #[.int .i64 0, .int .i64 0, .int .i64 0, .int .i64 0, .int .i64 0, .int .i64 0, .int .i64 0]) ?_ 0 _ rfl; (with_reducible repeat first | refine blk_drewN ?_ _ | refine blk_alloc ?_ _); exact BK126.out) Tryd.underlying23 rfl (by kernel_rfl)) rfl ?_
   exact ⟨by first | rfl | (simp [errW_none, errW_some] <;> rfl) | (simp [*, errW_none, errW_some] <;> rfl), by repeat (first | (with_reducible first | exact HB.out | apply below_alloc | apply pw_below_drewN | apply below_drew1 | refine below_set ?_ GE125.out | refine below_set ?_ GE126.out) | exact HB.out)⟩
  ·replace c5 := Bool.eq_false_iff.mpr c5
   subst c5
   have H1 : (some (0, 0, 0, 0, 0, 0, 0, 21)) = some (r1, r2, r3, r4, r5, r6, r7, r8) := by rw [if_neg (show ¬ (false = true) by decide)] at H; exact H
   clear H
   have H := H1
   clear H1
   simp only [Option.some.injEq, Prod.mk.injEq] at H
   obtain ⟨rfl, rfl, rfl, rfl, rfl, rfl, rfl, rfl⟩ := H
   go_enter Tryd.func60, Tryd.ntmps60
   go_wp2_with (first | ((with_reducible refine gate_dst (N := 2) rfl ?_); refine box_event ?hg (N := 2) ?hd (cs := #[.int .i64 a0_0, .int .i64 a0_1, .int .i64 a0_2, .int .i64 a0_3, .int .i64 a0_4, .int .i64 a0_5, .int .i64 a0_6]) (t := 23) ?hr ?_; (case hd => rfl); (case hg => rfl); (case hr => first | (go_simp; done) | (go_simp; rfl)); intro gb125 hg w13 hbox hb; have n0_ := Aside0.mk (below_step (by repeat (first | (with_reducible first | exact HB.out | apply below_alloc | apply pw_below_drewN | apply below_drew1) | exact HB.out)) hb); have n1_ := Aside0.mk (hbox); have n2_ := Aside0.mk ((by rw [hg]; exact (below_size (by repeat (first | (with_reducible first | exact HB.out | apply below_alloc | apply pw_below_drewN | apply below_drew1) | exact HB.out))) : w.heap.size ≤ gb125)); have n3_ := Aside0.mk ((by rw [hg]; exact (below_size (by repeat (first | (with_reducible first | exact HB.out | apply below_alloc | apply pw_below_drewN | apply below_drew1) | exact HB.out))) : w.heap.size ≤ gb125)); clear HB; have HB := n0_; have BK125 := n1_; have GW125 := n2_; have GE125 := n3_; clear n0_ n1_ n2_ n3_; clear hb hbox hg) | ((with_reducible refine gate_dst (N := 4) rfl ?_); refine box_event ?hg (N := 4) ?hd (cs := #[.int .i64 0, .int .i64 0, .int .i64 0, .int .i64 0, .int .i64 0, .int .i64 0, .int .i64 0]) (t := 23) ?hr ?_; (case hd => rfl); (case hg => rfl); (case hr => first | (go_simp; done) | (go_simp; rfl)); intro gb126 hg w14 hbox hb; have n0_ := Aside0.mk (blk_below (g := gb125) (o := .cells #[.int .i64 a0_0, .int .i64 a0_1, .int .i64 a0_2, .int .i64 a0_3, .int .i64 a0_4, .int .i64 a0_5, .int .i64 a0_6] 23 (0, 0)) (by (with_reducible repeat first | refine blk_drewN ?_ _ | refine blk_alloc ?_ _); exact BK125.out) hb); have n1_ := Aside0.mk (below_step (by repeat (first | (with_reducible first | exact HB.out | apply below_alloc | apply pw_below_drewN | apply below_drew1 | refine below_set ?_ GE125.out) | exact HB.out)) hb); have n2_ := Aside0.mk (hbox); have n3_ := Aside0.mk ((by rw [hg]; exact (below_size (by repeat (first | (with_reducible first | exact HB.out | apply below_alloc | apply pw_below_drewN | apply below_drew1 | refine below_set ?_ GE125.out) | exact HB.out))) : w.heap.size ≤ gb126)); have n4_ := Aside0.mk ((by rw [hg]; exact (below_size (by repeat (first | (with_reducible first | exact HB.out | apply below_alloc | apply pw_below_drewN | apply below_drew1 | refine below_set ?_ GE125.out) | exact HB.out))) : w.heap.size ≤ gb126)); have n5_ := Aside0.mk ((by rw [hg]; exact Nat.ne_of_lt (blk_lt (g := gb125) (o := .cells #[.int .i64 a0_0, .int .i64 a0_1, .int .i64 a0_2, .int .i64 a0_3, .int .i64 a0_4, .int .i64 a0_5, .int .i64 a0_6] 23 (0, 0)) (by (with_reducible repeat first | refine blk_drewN ?_ _ | refine blk_alloc ?_ _); exact BK125.out)) : gb125 ≠ gb126)); have n6_ := Aside0.mk ((by rw [hg]; exact Nat.ne_of_gt (blk_lt (g := gb125) (o := .cells #[.int .i64 a0_0, .int .i64 a0_1, .int .i64 a0_2, .int .i64 a0_3, .int .i64 a0_4, .int .i64 a0_5, .int .i64 a0_6] 23 (0, 0)) (by (with_reducible repeat first | refine blk_drewN ?_ _ | refine blk_alloc ?_ _); exact BK125.out)) : gb126 ≠ gb125)); clear BK125; clear HB; have BK125 := n0_; have HB := n1_; have BK126 := n2_; have GW126 := n3_; have GE126 := n4_; have NB125_126 := n5_; have NB126_125 := n6_; clear n0_ n1_ n2_ n3_ n4_ n5_ n6_; clear hb hbox hg; have hnb15 := NB125_126.out; have hnc15 := NB126_125.out; have hcz16_0 : w14.cell? ⟨gb125, 0, none⟩ = some (.int .i64 a0_0) := (blk_cell BK125.out 0).trans rfl; have hcz16_1 : w14.cell? ⟨gb125, 1, none⟩ = some (.int .i64 a0_1) := (blk_cell BK125.out 1).trans rfl; have hcz16_2 : w14.cell? ⟨gb125, 2, none⟩ = some (.int .i64 a0_2) := (blk_cell BK125.out 2).trans rfl; have hcz16_3 : w14.cell? ⟨gb125, 3, none⟩ = some (.int .i64 a0_3) := (blk_cell BK125.out 3).trans rfl; have hcz16_4 : w14.cell? ⟨gb125, 4, none⟩ = some (.int .i64 a0_4) := (blk_cell BK125.out 4).trans rfl; have hcz16_5 : w14.cell? ⟨gb125, 5, none⟩ = some (.int .i64 a0_5) := (blk_cell BK125.out 5).trans rfl; have hcz16_6 : w14.cell? ⟨gb125, 6, none⟩ = some (.int .i64 a0_6) := (blk_cell BK125.out 6).trans rfl; have hfz16_0 := blk_frozen BK125.out 0; have hfz16_1 := blk_frozen BK125.out 1; have hfz16_2 := blk_frozen BK125.out 2; have hfz16_3 := blk_frozen BK125.out 3; have hfz16_4 := blk_frozen BK125.out 4; have hfz16_5 := blk_frozen BK125.out 5; have hfz16_6 := blk_frozen BK125.out 6) | ((with_reducible refine gate_callee (f := 46) rfl ?_); refine goesL_ (some 12) rfl rfl Tryd.func46 (by kernel_rfl) rfl #[.agg #[.int .i64 a0_0, .int .i64 a0_1, .int .i64 a0_2, .int .i64 a0_3, .int .i64 a0_4, .int .i64 a0_5, .int .i64 a0_6]] rfl (by (try simp only [List.map_toArray, List.map_cons, List.map_nil]); first | done | rfl) ?_; (with_reducible refine (moment_isDay.calls a0_0 a0_1 a0_2 a0_3 a0_4 a0_5 a0_6 false _ A4.out (by first | exact laid_below HL_.out (by repeat (first | (with_reducible first | exact HB.out | apply below_alloc | apply pw_below_drewN | apply below_drew1) | exact HB.out)) | exact laid_drawn HL_.out (by repeat (first | exact Drawn0.refl _ | apply Drawn0.step)))).mono ?_); rintro e w17 ⟨rfl, hb⟩; refine ⟨_, rfl, ?_⟩; have n0_ := Aside0.mk (blk_below (g := gb125) (o := .cells #[.int .i64 a0_0, .int .i64 a0_1, .int .i64 a0_2, .int .i64 a0_3, .int .i64 a0_4, .int .i64 a0_5, .int .i64 a0_6] 23 (0, 0)) (by (with_reducible repeat first | refine blk_drewN ?_ _ | refine blk_alloc ?_ _); exact BK125.out) hb); have n1_ := Aside0.mk (blk_below (g := gb126) (o := .cells #[.int .i64 0, .int .i64 0, .int .i64 0, .int .i64 0, .int .i64 0, .int .i64 0, .int .i64 0] 23 (0, 0)) (by (with_reducible repeat first | refine blk_drewN ?_ _ | refine blk_alloc ?_ _); exact BK126.out) hb); have n2_ := Aside0.mk (below_step (by repeat (first | (with_reducible first | exact HB.out | apply below_alloc | apply pw_below_drewN | apply below_drew1 | refine below_set ?_ GE125.out | refine below_set ?_ GE126.out) | exact HB.out)) hb); clear BK125; clear BK126; clear HB; have BK125 := n0_; have BK126 := n1_; have HB := n2_; clear n0_ n1_ n2_; (try clear hb); (try clear hb2); (try clear hk); (try clear hi); have hcz18_0 : w17.cell? ⟨gb126, 0, none⟩ = some (.int .i64 0) := (blk_cell BK126.out 0).trans rfl; have hcz18_1 : w17.cell? ⟨gb126, 1, none⟩ = some (.int .i64 0) := (blk_cell BK126.out 1).trans rfl; have hcz18_2 : w17.cell? ⟨gb126, 2, none⟩ = some (.int .i64 0) := (blk_cell BK126.out 2).trans rfl; have hcz18_3 : w17.cell? ⟨gb126, 3, none⟩ = some (.int .i64 0) := (blk_cell BK126.out 3).trans rfl; have hcz18_4 : w17.cell? ⟨gb126, 4, none⟩ = some (.int .i64 0) := (blk_cell BK126.out 4).trans rfl; have hcz18_5 : w17.cell? ⟨gb126, 5, none⟩ = some (.int .i64 0) := (blk_cell BK126.out 5).trans rfl; have hcz18_6 : w17.cell? ⟨gb126, 6, none⟩ = some (.int .i64 0) := (blk_cell BK126.out 6).trans rfl; have hfz18_0 := blk_frozen BK126.out 0; have hfz18_1 := blk_frozen BK126.out 1; have hfz18_2 := blk_frozen BK126.out 2; have hfz18_3 := blk_frozen BK126.out 3; have hfz18_4 := blk_frozen BK126.out 4; have hfz18_5 := blk_frozen BK126.out 5; have hfz18_6 := blk_frozen BK126.out 6))
   refine bodyPost_ret (results_ct rfl _ _ gb126 23 #[.int .i64 0, .int .i64 0, .int .i64 0, .int .i64 0, .int .i64 0, .int .i64 0, .int .i64 0] (0, 0) _ rfl (by (with_reducible repeat first | refine blk_drewN ?_ _ | refine blk_alloc ?_ _); refine blk_put (cs := #[.int .i64 0, .int .i64 0, .int .i64 0, .int .i64 0, .int .i64 0, .int .i64 0, .int .i64 0]) ?_ 6 _ rfl; (with_reducible repeat first | refine blk_drewN ?_ _ | refine blk_alloc ?_ _); refine blk_put (cs := #[.int .i64 0, .int .i64 0, .int .i64 0, .int .i64 0, .int .i64 0, .int .i64 0, .int .i64 0]) ?_ 5 _ rfl; (with_reducible repeat first | refine blk_drewN ?_ _ | refine blk_alloc ?_ _); refine blk_put (cs := #[.int .i64 0, .int .i64 0, .int .i64 0, .int .i64 0, .int .i64 0, .int .i64 0, .int .i64 0]) ?_ 4 _ rfl; (with_reducible repeat first | refine blk_drewN ?_ _ | refine blk_alloc ?_ _); refine blk_put (cs := #[.int .i64 0, .int .i64 0, .int .i64 0, .int .i64 0, .int .i64 0, .int .i64 0, .int .i64 0]) ?_ 3 _ rfl; (with_reducible repeat first | refine blk_drewN ?_ _ | refine blk_alloc ?_ _); refine blk_put (cs := #[.int .i64 0, .int .i64 0, .int .i64 0, .int .i64 0, .int .i64 0, .int .i64 0, .int .i64 0]) ?_ 2 _ rfl; (with_reducible repeat first | refine blk_drewN ?_ _ | refine blk_alloc ?_ _); refine blk_put (cs := #[.int .i64 0, .int .i64 0, .int .i64 0, .int .i64 0, .int .i64 0, .int .i64 0, .int .i64 0]) ?_ 1 _ rfl; (with_reducible repeat first | refine blk_drewN ?_ _ | refine blk_alloc ?_ _); refine blk_put (cs := #[.int .i64 0, .int .i64 0, .int .i64 0, .int .i64 0, .int .i64 0, .int .i64 0, .int .i64 0]) ?_ 0 _ rfl; (with_reducible repeat first | refine blk_drewN ?_ _ | refine blk_alloc ?_ _); exact BK126.out) Tryd.underlying23 rfl (by kernel_rfl)) rfl ?_
   exact ⟨by first | rfl | (simp [errW_none, errW_some] <;> rfl) | (simp [*, errW_none, errW_some] <;> rfl), by repeat (first | (with_reducible first | exact HB.out | apply below_alloc | apply pw_below_drewN | apply below_drew1 | refine below_set ?_ GE125.out | refine below_set ?_ GE126.out) | exact HB.out)⟩
 ·replace c3 := Bool.eq_false_iff.mpr c3
  subst c3
  have H1 : (some (0, 0, 0, 0, 0, 0, 0, 20)) = some (r1, r2, r3, r4, r5, r6, r7, r8) := by rw [if_neg (show ¬ (false = true) by decide)] at H; exact H
  clear H
  have H := H1
  clear H1
  simp only [Option.some.injEq, Prod.mk.injEq] at H
  obtain ⟨rfl, rfl, rfl, rfl, rfl, rfl, rfl, rfl⟩ := H
  go_enter Tryd.func60, Tryd.ntmps60
  go_wp2_with (first | ((with_reducible refine gate_dst (N := 2) rfl ?_); refine box_event ?hg (N := 2) ?hd (cs := #[.int .i64 a0_0, .int .i64 a0_1, .int .i64 a0_2, .int .i64 a0_3, .int .i64 a0_4, .int .i64 a0_5, .int .i64 a0_6]) (t := 23) ?hr ?_; (case hd => rfl); (case hg => rfl); (case hr => first | (go_simp; done) | (go_simp; rfl)); intro gb125 hg w19 hbox hb; have n0_ := Aside0.mk (below_step (by repeat (first | (with_reducible first | exact HB.out | apply below_alloc | apply pw_below_drewN | apply below_drew1) | exact HB.out)) hb); have n1_ := Aside0.mk (hbox); have n2_ := Aside0.mk ((by rw [hg]; exact (below_size (by repeat (first | (with_reducible first | exact HB.out | apply below_alloc | apply pw_below_drewN | apply below_drew1) | exact HB.out))) : w.heap.size ≤ gb125)); have n3_ := Aside0.mk ((by rw [hg]; exact (below_size (by repeat (first | (with_reducible first | exact HB.out | apply below_alloc | apply pw_below_drewN | apply below_drew1) | exact HB.out))) : w.heap.size ≤ gb125)); clear HB; have HB := n0_; have BK125 := n1_; have GW125 := n2_; have GE125 := n3_; clear n0_ n1_ n2_ n3_; clear hb hbox hg) | ((with_reducible refine gate_dst (N := 4) rfl ?_); refine box_event ?hg (N := 4) ?hd (cs := #[.int .i64 0, .int .i64 0, .int .i64 0, .int .i64 0, .int .i64 0, .int .i64 0, .int .i64 0]) (t := 23) ?hr ?_; (case hd => rfl); (case hg => rfl); (case hr => first | (go_simp; done) | (go_simp; rfl)); intro gb126 hg w20 hbox hb; have n0_ := Aside0.mk (blk_below (g := gb125) (o := .cells #[.int .i64 a0_0, .int .i64 a0_1, .int .i64 a0_2, .int .i64 a0_3, .int .i64 a0_4, .int .i64 a0_5, .int .i64 a0_6] 23 (0, 0)) (by (with_reducible repeat first | refine blk_drewN ?_ _ | refine blk_alloc ?_ _); exact BK125.out) hb); have n1_ := Aside0.mk (below_step (by repeat (first | (with_reducible first | exact HB.out | apply below_alloc | apply pw_below_drewN | apply below_drew1 | refine below_set ?_ GE125.out) | exact HB.out)) hb); have n2_ := Aside0.mk (hbox); have n3_ := Aside0.mk ((by rw [hg]; exact (below_size (by repeat (first | (with_reducible first | exact HB.out | apply below_alloc | apply pw_below_drewN | apply below_drew1 | refine below_set ?_ GE125.out) | exact HB.out))) : w.heap.size ≤ gb126)); have n4_ := Aside0.mk ((by rw [hg]; exact (below_size (by repeat (first | (with_reducible first | exact HB.out | apply below_alloc | apply pw_below_drewN | apply below_drew1 | refine below_set ?_ GE125.out) | exact HB.out))) : w.heap.size ≤ gb126)); have n5_ := Aside0.mk ((by rw [hg]; exact Nat.ne_of_lt (blk_lt (g := gb125) (o := .cells #[.int .i64 a0_0, .int .i64 a0_1, .int .i64 a0_2, .int .i64 a0_3, .int .i64 a0_4, .int .i64 a0_5, .int .i64 a0_6] 23 (0, 0)) (by (with_reducible repeat first | refine blk_drewN ?_ _ | refine blk_alloc ?_ _); exact BK125.out)) : gb125 ≠ gb126)); have n6_ := Aside0.mk ((by rw [hg]; exact Nat.ne_of_gt (blk_lt (g := gb125) (o := .cells #[.int .i64 a0_0, .int .i64 a0_1, .int .i64 a0_2, .int .i64 a0_3, .int .i64 a0_4, .int .i64 a0_5, .int .i64 a0_6] 23 (0, 0)) (by (with_reducible repeat first | refine blk_drewN ?_ _ | refine blk_alloc ?_ _); exact BK125.out)) : gb126 ≠ gb125)); clear BK125; clear HB; have BK125 := n0_; have HB := n1_; have BK126 := n2_; have GW126 := n3_; have GE126 := n4_; have NB125_126 := n5_; have NB126_125 := n6_; clear n0_ n1_ n2_ n3_ n4_ n5_ n6_; clear hb hbox hg; have hnb21 := NB126_125.out; have hnc21 := NB125_126.out; have hcz22_0 : w20.cell? ⟨gb126, 0, none⟩ = some (.int .i64 0) := (blk_cell BK126.out 0).trans rfl; have hcz22_1 : w20.cell? ⟨gb126, 1, none⟩ = some (.int .i64 0) := (blk_cell BK126.out 1).trans rfl; have hcz22_2 : w20.cell? ⟨gb126, 2, none⟩ = some (.int .i64 0) := (blk_cell BK126.out 2).trans rfl; have hcz22_3 : w20.cell? ⟨gb126, 3, none⟩ = some (.int .i64 0) := (blk_cell BK126.out 3).trans rfl; have hcz22_4 : w20.cell? ⟨gb126, 4, none⟩ = some (.int .i64 0) := (blk_cell BK126.out 4).trans rfl; have hcz22_5 : w20.cell? ⟨gb126, 5, none⟩ = some (.int .i64 0) := (blk_cell BK126.out 5).trans rfl; have hcz22_6 : w20.cell? ⟨gb126, 6, none⟩ = some (.int .i64 0) := (blk_cell BK126.out 6).trans rfl; have hfz22_0 := blk_frozen BK126.out 0; have hfz22_1 := blk_frozen BK126.out 1; have hfz22_2 := blk_frozen BK126.out 2; have hfz22_3 := blk_frozen BK126.out 3; have hfz22_4 := blk_frozen BK126.out 4; have hfz22_5 := blk_frozen BK126.out 5; have hfz22_6 := blk_frozen BK126.out 6))
  refine bodyPost_ret (results_ct rfl _ _ gb126 23 #[.int .i64 0, .int .i64 0, .int .i64 0, .int .i64 0, .int .i64 0, .int .i64 0, .int .i64 0] (0, 0) _ rfl (by (with_reducible repeat first | refine blk_drewN ?_ _ | refine blk_alloc ?_ _); refine blk_put (cs := #[.int .i64 0, .int .i64 0, .int .i64 0, .int .i64 0, .int .i64 0, .int .i64 0, .int .i64 0]) ?_ 6 _ rfl; (with_reducible repeat first | refine blk_drewN ?_ _ | refine blk_alloc ?_ _); refine blk_put (cs := #[.int .i64 0, .int .i64 0, .int .i64 0, .int .i64 0, .int .i64 0, .int .i64 0, .int .i64 0]) ?_ 5 _ rfl; (with_reducible repeat first | refine blk_drewN ?_ _ | refine blk_alloc ?_ _); refine blk_put (cs := #[.int .i64 0, .int .i64 0, .int .i64 0, .int .i64 0, .int .i64 0, .int .i64 0, .int .i64 0]) ?_ 4 _ rfl; (with_reducible repeat first | refine blk_drewN ?_ _ | refine blk_alloc ?_ _); refine blk_put (cs := #[.int .i64 0, .int .i64 0, .int .i64 0, .int .i64 0, .int .i64 0, .int .i64 0, .int .i64 0]) ?_ 3 _ rfl; (with_reducible repeat first | refine blk_drewN ?_ _ | refine blk_alloc ?_ _); refine blk_put (cs := #[.int .i64 0, .int .i64 0, .int .i64 0, .int .i64 0, .int .i64 0, .int .i64 0, .int .i64 0]) ?_ 2 _ rfl; (with_reducible repeat first | refine blk_drewN ?_ _ | refine blk_alloc ?_ _); refine blk_put (cs := #[.int .i64 0, .int .i64 0, .int .i64 0, .int .i64 0, .int .i64 0, .int .i64 0, .int .i64 0]) ?_ 1 _ rfl; (with_reducible repeat first | refine blk_drewN ?_ _ | refine blk_alloc ?_ _); refine blk_put (cs := #[.int .i64 0, .int .i64 0, .int .i64 0, .int .i64 0, .int .i64 0, .int .i64 0, .int .i64 0]) ?_ 0 _ rfl; (with_reducible repeat first | refine blk_drewN ?_ _ | refine blk_alloc ?_ _); exact BK126.out) Tryd.underlying23 rfl (by kernel_rfl)) rfl ?_
  exact ⟨by first | rfl | (simp [errW_none, errW_some] <;> rfl) | (simp [*, errW_none, errW_some] <;> rfl), by repeat (first | (with_reducible first | exact HB.out | apply below_alloc | apply pw_below_drewN | apply below_drew1 | refine below_set ?_ GE125.out | refine below_set ?_ GE126.out) | exact HB.out)⟩
end Go.Proofs.YtjlchnmpebdggaaDoor.Mo
end
section
namespace Go.Proofs.YtjlchnmpebdggaaDoor.Mo
open Go.RowKit Go.Proofs.YtjlchnmpebdggaaDoorW.PrintWords Go.Proofs.YtjlchnmpebdggaaDoorW.PrintLast Go.Proofs.YtjlchnmpebdggaaDoorW.PrintMore
attribute [local go_sem] max2_int min2_int max_two min_two max_three min_three max_four min_four   -- for this text's walks alone
set_option linter.unusedVariables false
set_option linter.unusedSimpArgs false
end Go.Proofs.YtjlchnmpebdggaaDoor.Mo
end
section
namespace Go.Proofs.YtjlchnmpebdggaaDoor.Mo
open Go.RowKit Go.Proofs.YtjlchnmpebdggaaDoorW.PrintWords
def toldP (y m d h mi s z : Int) (ok : Bool) : Int × Int × Int × Int × Int × Int × Int × Int :=
  if ok = true then (if isDayB y m d = true then (y, m, d, h, mi, s, z, 0) else (0, 0, 0, 0, 0, 0, 0, 21)) else (0, 0, 0, 0, 0, 0, 0, 20)
theorem read_f (y m d h mi s z : Int) (ok : Bool) : moment_read.f y m d h mi s z ok = some (toldP y m d h mi s z ok) := by
  unfold moment_read.f toldP
  rw [isDay_f, Option.bind_some]
  cases ok <;> cases isDayB y m d <;> rfl
end Go.Proofs.YtjlchnmpebdggaaDoor.Mo
end
section
namespace Go.Proofs.YtjlchnmpebdggaaDoor.Mo
open Go.RowKit Go.Proofs.YtjlchnmpebdggaaDoorW.PrintWords
theorem digitsP_range (s : ByteArray) : 0 ≤ (digitsP s).1 ∧ (digitsP s).1 < 10000 := by
  unfold digitsP
  split
  · rename_i h
    have := dval_bound _ h.2.2
    have h4 : (10 : Int) ^ s.data.toList.length ≤ 10 ^ 4 := by
      rw [toList_len]
      have h4 : s.size = 1 ∨ s.size = 2 ∨ s.size = 3 ∨ s.size = 4 := by omega
      rcases h4 with h | h | h | h <;> rw [h] <;> decide
    exact ⟨this.1, by have := this.2; omega⟩
  · exact ⟨by decide, by decide⟩
def belowP (s : ByteArray) (most : Int) : Int × Bool := ((digitsP s).1, (digitsP s).2 && (decide (s.size = 2) && decide ((digitsP s).1 ≤ most)))
theorem below_f (k : Nat) (hk : 7 ≤ k) (s : ByteArray) (most : Int) : moment_below.f k s most = some (belowP s most) := by
  unfold moment_below.f belowP
  rw [digits_f k hk]
  simp only [Option.bind_some]
  cases h : (digitsP s).2 with
  | false => rw [if_neg (by simp)]; rfl
  | true =>
    rw [if_pos rfl]
    by_cases h2 : s.size = 2
    · rw [if_pos (by omega)]
      simp [h2]
    · rw [if_neg (by omega)]
      simp [h2]
def zoneT (s : ByteArray) : Int × Bool :=
  if s.size = 5 ∧ (bt s 0 = 43 ∨ bt s 0 = 45) then
    ((if bt s 0 = 45 then -(60 * (belowP (s.extract 1 3) 23).1 + (belowP (s.extract 3 5) 59).1) else 60 * (belowP (s.extract 1 3) 23).1 + (belowP (s.extract 3 5) 59).1),
      (belowP (s.extract 1 3) 23).2 && (belowP (s.extract 3 5) 59).2)
  else (0, false)
theorem belowP_range (s : ByteArray) (m : Int) : 0 ≤ (belowP s m).1 ∧ (belowP s m).1 < 10000 := by
  unfold belowP; exact digitsP_range s
theorem wrap_small (n : Int) (h0 : -1000000 ≤ n) (h1 : n ≤ 1000000) : wrap64 n = n := IntWalk.wrap64_in _ ⟨by omega, by omega⟩
theorem zone_f (k : Nat) (hk : 10 ≤ k) (s : ByteArray) : moment_zone.f k s = some (zoneT s) := by
  obtain ⟨k, rfl⟩ : ∃ m, k = m + 1 := ⟨k - 1, by omega⟩
  unfold moment_zone.f zoneT
  by_cases h5 : s.size = 5
  · have e35 : s.extract 3 s.size = s.extract 3 5 := by rw [h5]
    have r1 := belowP_range (s.extract 1 3) 23
    have r2 := belowP_range (s.extract 3 5) 59
    have f1 := below_f k (by omega) (s.extract 1 3) 23
    have f2 := below_f k (by omega) (s.extract 3 5) 59
    have hj : moment_zone.j0 (k + 1) s false = some ((if bt s 0 = 45 then -(60 * (belowP (s.extract 1 3) 23).1 + (belowP (s.extract 3 5) 59).1) else 60 * (belowP (s.extract 1 3) 23).1 + (belowP (s.extract 3 5) 59).1),
        (belowP (s.extract 1 3) 23).2 && (belowP (s.extract 3 5) 59).2) := by
      generalize belowP (s.extract 1 3) 23 = A at *
      generalize belowP (s.extract 3 5) 59 = B at *
      obtain ⟨H, hb⟩ := A
      obtain ⟨M, mb⟩ := B
      simp only at r1 r2
      rw [moment_zone.j0, if_neg (by simp), if_pos (by omega), if_pos (by omega), e35, f1, f2]
      simp only [Option.bind_some]
      rw [wrap_small (60 * H) (by omega) (by omega), wrap_small (60 * H + M) (by omega) (by omega), wrap_small (-(60 * H + M)) (by omega) (by omega), if_pos (by omega)]
      by_cases h45 : bt s 0 = 45
      · rw [if_pos h45, if_pos h45]
        cases hb <;> simp
      · rw [if_neg h45, if_neg h45]
        cases hb <;> simp
    rw [if_pos (by omega), if_pos (by omega)]
    by_cases h43 : bt s 0 = 43
    · rw [if_pos h43, hj, if_pos (show s.size = 5 ∧ (bt s 0 = 43 ∨ bt s 0 = 45) from ⟨h5, .inl h43⟩)]
    · rw [if_neg h43]
      by_cases h45 : bt s 0 = 45
      · have e : (bt s 0 != 45) = false := by rw [bne_eq_false_iff_eq]; exact h45
        rw [e, hj, if_pos (show s.size = 5 ∧ (bt s 0 = 43 ∨ bt s 0 = 45) from ⟨h5, .inr h45⟩)]
      · have e : (bt s 0 != 45) = true := by rw [bne_iff_ne]; exact h45
        rw [e, moment_zone.j0, if_pos rfl, if_neg (fun h => h.2.elim h43 h45)]
  · rw [if_neg (by omega), moment_zone.j0, if_pos rfl, if_neg (fun h => h5 h.1)]
end Go.Proofs.YtjlchnmpebdggaaDoor.Mo
end
