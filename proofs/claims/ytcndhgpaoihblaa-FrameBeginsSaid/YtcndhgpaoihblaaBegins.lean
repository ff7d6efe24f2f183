/- postbaglaw10.FrameBegins: it answers true of every argument. -/
import Derived.Test.YtcndhgpaoihblaaTold
import Derived.Test.YtcndhgpaoihblaaGivenK
import Derived.Test.YtcndhgpaoihblaaEncF
import Derived.Test.YtcndhgpaoihblaaRowF
import Derived.Deep.LoopGhost
import Derived.Deep.CutRange
namespace Go.Proofs.Ytcndhgpaoihblaa.Fr
open Go.RowKit Go.Proofs.YtcndhgpaoihblaaW.PrintWords
open Plain Crc

/-- What a scan tells hangs together. -/
def chainP (t : List UInt8) : Nat → Option Nat → List Seen → Prop
  | _, _, [] => True
  | a, p, x :: r => x.at_ = a ∧ (p = none ∨ p.map (· + 1) = some x.number) ∧ fits x.kind x.number x.body.length = true ∧ x.next = a + 18 + x.body.length ∧ x.next ≤ t.length ∧
    (t.drop a).take (18 + x.body.length) = encL x.kind x.number x.body ∧ chainP t x.next (some x.number) r
theorem scanT_chain (t : List UInt8) (i : Nat) (p : Option Nat) (hi : i ≤ t.length) : chainP t i p (scanT (t.drop i) i p) := by
  match h : frameL (t.drop i) with
  | none => rw [scanT_none h]; trivial
  | some (k, n, m) =>
    have hs := frameL_some h
    have hl := hs.2.1
    rw [List.length_drop] at hl
    rw [scanT_some h]
    have hb : (((t.drop i).drop 14).take m).length = m := by rw [List.length_take, List.length_drop, List.length_drop]; omega
    by_cases c : p = none ∨ p.map (· + 1) = some n
    · rw [if_pos c]
      have ih := scanT_chain t (i + 18 + m) (some n) (by omega)
      have e1 : (t.drop i).drop (18 + m) = t.drop (i + 18 + m) := by rw [List.drop_drop]; congr 1; omega
      refine ⟨rfl, c, ?_, ?_, ?_, ?_, ?_⟩
      · simp only [hb]; exact hs.1
      · simp only [hb]
      · simp only; omega
      · simp only [hb]; exact hs.2.2
      · rw [e1]; exact ih
    · rw [if_neg c]; trivial
termination_by t.length - i
decreasing_by
  have := (frameL_some h).2.1
  rw [List.length_drop] at this
  omega
def lastB (l : List Seen) : Option Nat := l.getLast?.map (·.number)
/-- The head of the loop. -/
structure BHead (s : ByteArray) (A3 A4 : Option Addr) (w : World) (n : Nat) (v5 v6 : Value) (done rest : List Seen) (a : Nat) (wr : World) : Prop where
  len : rest.length + 1 = n
  tot : done ++ rest = scanT s.data.toList 0 none
  chain : chainP s.data.toList a (lastB done) rest
  place : v5 = .int .i64 a
  idx : v6 = .int .i64 done.length
  l1 : Kd.C k49 wr A3 (scanT s.data.toList 0 none).length ((scanT s.data.toList 0 none).map s49)
  l2 : Kd.C (Kd.int .i64) wr A4 (scanT s.data.toList 0 none).length ((scanT s.data.toList 0 none).map nx)
  below : Below w.heap.size w wr
theorem drawn_more {w w' : World} {x : Nat} (h : Drawn0 (w.drewN x) w') : ∃ n, w' = w.drewN n := by
  obtain ⟨n, hn⟩ := ((Drawn0.refl w).step x).step 0 |>.out |> fun _ => h.out
  exact ⟨x + n, by rw [hn]; simp [World.drewN]; omega⟩
theorem cell_lt {w : World} {p : Addr} {v : Value} (h : w.cell? p = some v) : p.block < w.heap.size := by
  unfold World.cell? at h
  split at h
  · rename_i hb; exact (Array.getElem?_eq_some_iff.1 hb).1
  · exact absurd h (by simp)
theorem ext_mid (s : ByteArray) (a m : Nat) : s.extract a (a + m) = ⟨((s.data.toList.drop a).take m).toArray⟩ := by
  have e : (s.extract a (a + m)).data.toList = (s.data.toList.drop a).take m := by
    rw [ext_data, List.drop_take]
    congr 1
    omega
  exact congrArg ByteArray.mk (Array.toList_inj.1 e)

set_option maxHeartbeats 2000000 in
set_option maxRecDepth 100000 in
theorem begins_calls (s : ByteArray) (w : World) (hs0 : s.size ≤ 140737488351232) : Calls Try.prog 9 #[.string s] w fun e w' => e = .returned (.bool true) ∧ Below w.heap.size w w' := by
  by_cases c : (s.size : Int) > 4195304
  · go_enter Try.func9, Try.ntmps9
    go_wp2
    go_ret
    exact ⟨rfl, Below.refl _ _⟩
  · have hsc := scanT_length s.data.toList 0 none
    rw [toList_length] at hsc
    go_enter Try.func9, Try.ntmps9
    go_wp2_with fail
    refine (told_calls s _ (by omega)).mono ?_
    rintro e w1 ⟨v0, v1, rfl, hR1, hR2, hB⟩
    obtain ⟨A3, c3, rfl, hle3, hC3⟩ := Kd.R_reads hR1
    obtain ⟨A4, c4, rfl, hle4, hC4⟩ := Kd.R_reads hR2
    clear hR1 hR2 hle3 hle4
    rw [List.length_map] at hC3 hC4
    have HC3 := Lib.hid hC3
    have HC4 := Lib.hid hC4
    have HB := Lib.hid hB
    have hn1 : ((scanT s.data.toList 0 none).map s49).length = (scanT s.data.toList 0 none).length := List.length_map ..
    have hn2 : ((scanT s.data.toList 0 none).map nx).length = (scanT s.data.toList 0 none).length := List.length_map ..
    rw [hn1, hn2]
    clear hC3 hC4 hB hn1 hn2
    go_wp2_with fail
    go_loopg [5, 6] ((scanT s.data.toList 0 none).length + 1) (fun n v5 v6 wr => ∃ done rest a, BHead s A3 A4 w n v5 v6 done rest a wr)
    case atStart => exact ⟨[], _, 0, ⟨rfl, rfl, scanT_chain s.data.toList 0 none (Nat.zero_le _), rfl, rfl, HC3.out, HC4.out, HB.out⟩⟩
    case round =>
      obtain ⟨done, rest, a, H0⟩ := hrel
      have hv5 := H0.place
      have hv6 := H0.idx
      subst hv5 hv6
      have H := Lib.hid H0
      clear H0
      have htot := congrArg List.length H.out.tot
      rw [List.length_append] at htot
      cases rest with
      | nil =>
        have hd : (scanT s.data.toList 0 none).length = done.length := by rw [← htot]; rfl
        go_wp2_with fail
        refine (known_calls _).mono ?_
        rintro e w3 ⟨rfl, hB3⟩
        have HB3 := Lib.hid (below_step H.out.below hB3)
        clear hB3
        go_wp2
        go_ret
        exact ⟨rfl, HB3.out⟩
      | cons x r =>
        rw [List.length_cons] at htot
        obtain ⟨p1, p2, p3, p4, p5, p6, p7⟩ := H.out.chain
        rw [toList_length] at p5
        have hdl : done.length < (scanT s.data.toList 0 none).length := by omega
        have hget : (scanT s.data.toList 0 none)[done.length]? = some x := by rw [← H.out.tot, List.getElem?_append_right (Nat.le_refl _), Nat.sub_self]; rfl
        have hrd : rd_T49 ((scanT s.data.toList 0 none).map s49) ((done.length : Nat) : Int) = s49 x := by
          unfold rd_T49
          rw [Int.toNat_natCast, List.getD_eq_getElem?_getD, List.getElem?_map, hget]
          rfl
        have hrd2 : rd ((scanT s.data.toList 0 none).map nx) ((done.length : Nat) : Int) = (x.next : Int) := by
          unfold rd
          rw [Int.toNat_natCast, List.getD_eq_getElem?_getD, List.getElem?_map, hget]
          rfl
        have hBs : (⟨x.body.toArray⟩ : ByteArray).size = x.body.length := size_str _
        obtain ⟨B, hB⟩ : ∃ B : ByteArray, (⟨x.body.toArray⟩ : ByteArray) = B := ⟨_, rfl⟩
        obtain ⟨E, hE⟩ : ∃ E : ByteArray, (⟨(encL x.kind x.number x.body).toArray⟩ : ByteArray) = E := ⟨_, rfl⟩
        have hEs : E.size = 18 + x.body.length := by rw [← hE, size_str, encL_length]
        have hfit := fits_iff.1 p3
        have hen : frame_Encode.f (x.kind : Int) (x.number : Int) B = some (E, 0) := by
          rw [encode_f]
          unfold encAns
          rw [if_neg (by rw [← hB, hBs]; omega), if_neg (by omega), if_neg (by omega), Int.toNat_natCast, Int.toNat_natCast, ← hB, ← hE]
        have hex : s.extract a (a + E.size) = E := by rw [hEs, ext_mid, p6, hE]
        have hsz : frame_Size.f (B.size : Int) = some (E.size : Int) := by
          rw [← hB, hBs, size_f _ hfit.2.2.2, hEs, Nat.add_comm]
        have hle : a + E.size ≤ s.size := by omega
        have hnx : (x.next : Int) = (a : Int) + (E.size : Int) := by omega
        obtain ⟨ad, hA3, g0, g1, g2, g3⟩ := at_T49 H.out.l1 (done.length : Int) (by omega) (by omega)
        obtain ⟨ad4, hA4, g4⟩ := Kd.at_int H.out.l2 (done.length : Int) (by omega) (by omega)
        rw [hrd, Int.toNat_natCast] at g0 g1 g2 g3
        rw [hrd2, Int.toNat_natCast, hnx] at g4
        replace g0 : wr.cell? (ad.add (done.length * 4)) = some (.int .i64 (x.kind : Int)) := g0
        replace g1 : wr.cell? ⟨(ad.add (done.length * 4)).block, (ad.add (done.length * 4)).off + 1, none⟩ = some (.int .i64 (x.number : Int)) := g1
        replace g2 : wr.cell? ⟨(ad.add (done.length * 4)).block, (ad.add (done.length * 4)).off + 2, none⟩ = some (.int .i64 (a : Int)) := by rw [← p1]; exact g2
        replace g3 : wr.cell? ⟨(ad.add (done.length * 4)).block, (ad.add (done.length * 4)).off + 3, none⟩ = some (.string B) := by rw [← hB]; exact g3
        have lt3 : (ad.add (done.length * 4)).block < wr.heap.size := cell_lt g0
        have lt4 : (ad4.add done.length).block < wr.heap.size := cell_lt g4
        subst hA3 hA4
        have hxb : (x.number : Int) < 4294967296 := by omega
        have P2 := Lib.hid p2
        have P7 := Lib.hid p7
        have HN := Lib.hid (show x.next = a + E.size by omega)
        have HHB := Lib.hid hB
        clear p1 p2 p3 p4 p5 p6 p7 hrd hrd2 hget hB hE hBs hfit hnx hEs
        rcases List.eq_nil_or_concat done with hd | ⟨d0, y, hd⟩
        · have hz0 : decide (0 < ((done.length : Nat) : Int)) = false := by rw [hd]; rfl
          have hz1 : decide (0 < done.length) = false := by rw [hd]; rfl
          generalize hln : done.length = n at *
          have HLN := Lib.hid hln
          clear hln
          go_upto_region 8 with fail
          go_cut [7, 8] from 18 to 111 (fun s7 s8 wx => s7 = .string E ∧ s8 = .int .i64 0 ∧ Below wr.heap.size wr wx)
          case first =>
            go_region_with (go_at_call 17; (refine (frame_Encode.calls _ _ _ _ _ _ hen).mono ?_); rintro e w2 ⟨rfl, hb2⟩)
            all_goals (go_wp2_with fail; go_meet)
            all_goals exact ⟨rfl, rfl, below_step (Below.refl _ wr).drew hb2⟩
          case rest =>
            obtain ⟨rfl, rfl, hbx⟩ := hcut
            have h0 := (hbx.cell lt3).trans g0
            have h1 := (hbx.cell (p := ⟨(ad.add (n * 4)).block, (ad.add (n * 4)).off + 1, none⟩) lt3).trans g1
            have h2 := (hbx.cell (p := ⟨(ad.add (n * 4)).block, (ad.add (n * 4)).off + 2, none⟩) lt3).trans g2
            have h3 := (hbx.cell (p := ⟨(ad.add (n * 4)).block, (ad.add (n * 4)).off + 3, none⟩) lt3).trans g3
            have h4 := (hbx.cell lt4).trans g4
            have HBX := Lib.hid hbx
            have hdc : decide ((s.size : Int) < (a : Int) + (E.size : Int)) = false := decide_eq_false (by omega)
            have hsl : ∀ w' : World, (Instr.slice 9 (.string s) (some (.int .i64 (a : Int))) (some (.int .i64 ((a : Int) + (E.size : Int)))) none).run Try.prog w' = .ok (.string E) w' := fun w' => by
              rw [run_slice_string (P := Try.prog) w' 9 s .i64 .i64 (a : Int) ((a : Int) + (E.size : Int)) Try.underlying9 (by omega) (by omega) (by omega), Int.toNat_natCast, show ((a : Int) + (E.size : Int)).toNat = a + E.size from by omega, hex]
            clear g0 g1 g2 g3 g4 hbx lt3 lt4 hen
            go_wp2_with fail
            go_quiet (exact (frame_Size.calls _ _ _ hsz).mono (fun e w' h => ⟨h.1, drawn_more h.2⟩))
            go_wp2
            go_roundg (r.length + 1)
            case measure => have := H.out.len; rw [List.length_cons] at this; omega
            case rel =>
              have hbw : Below wr.heap.size wr (wc.drewN nq) := by apply pw_below_drewN; exact HBX.out
              refine ⟨done ++ [x], r, a + E.size, ⟨rfl, ?_, ?_, rfl, ?_, Kd.C_below H.out.l1 hbw, Kd.C_below H.out.l2 hbw, below_step H.out.below hbw⟩⟩
              · rw [← H.out.tot]; simp
              · have e2 : lastB (done ++ [x]) = some x.number := by unfold lastB; rw [List.getLast?_append]; rfl
                rw [e2, ← HN.out]
                exact P7.out
              · rw [List.length_append, List.length_singleton, HLN.out]
                rfl
        · rw [List.concat_eq_append] at hd
          subst hd
          have hgy : (scanT s.data.toList 0 none)[d0.length]? = some y := by
            rw [← H.out.tot, List.append_assoc, List.getElem?_append_right (Nat.le_refl _), Nat.sub_self]; rfl
          have hrdy : rd_T49 ((scanT s.data.toList 0 none).map s49) ((d0.length : Nat) : Int) = s49 y := by
            unfold rd_T49
            rw [Int.toNat_natCast, List.getD_eq_getElem?_getD, List.getElem?_map, hgy]
            rfl
          have hl1 : (d0 ++ [y]).length = d0.length + 1 := by simp
          obtain ⟨ad', hA', _, gy, _, _⟩ := at_T49 H.out.l1 (d0.length : Int) (by omega) (by rw [hl1] at hdl; omega)
          obtain rfl := Option.some.inj hA'
          rw [hrdy, Int.toNat_natCast] at gy
          replace gy : wr.cell? ⟨(ad.add (d0.length * 4)).block, (ad.add (d0.length * 4)).off + 1, none⟩ = some (.int .i64 (y.number : Int)) := gy
          have lty : (ad.add (d0.length * 4)).block < wr.heap.size := cell_lt (p := ⟨(ad.add (d0.length * 4)).block, (ad.add (d0.length * 4)).off + 1, none⟩) gy
          have hnum : x.number = y.number + 1 := by
            have e2 : lastB (d0 ++ [y]) = some y.number := by unfold lastB; rw [List.getLast?_append]; rfl
            have h := P2.out
            rw [e2] at h
            rcases h with h | h
            · exact absurd h (by simp)
            · simpa using h.symm
          have hz0 : ((x.number : Int) != (y.number : Int) + 1) = false := by rw [bne_eq_false_iff_eq]; omega
          have hyb : (y.number : Int) < 4294967295 := by omega
          have HLN := Lib.hid hl1
          rw [hl1] at g0 g1 g2 g3 g4 lt3 lt4 hdl htot
          rw [hl1]
          clear hgy hrdy hl1 hA' hnum
          rw [show d0.length * 4 = (d0.length + 1 - 1) * 4 from by omega] at gy lty
          have hN2 : (0 : Int) ≤ ((d0.length + 1 : Nat) : Int) - 1 := by omega
          have hN3 : ((d0.length + 1 : Nat) : Int) - 1 < ((scanT s.data.toList 0 none).length : Int) := by omega
          have hN4 : decide ((0 : Int) < ((d0.length + 1 : Nat) : Int)) = true := decide_eq_true (by omega)
          have hN5 : decide (0 < d0.length + 1) = true := decide_eq_true (by omega)
          have hN6 : (1 : Int) ≤ ((d0.length + 1 : Nat) : Int) := by omega
          have hN7 : 1 ≤ d0.length + 1 := by omega
          have hN8 : ((d0.length + 1 : Nat) : Int) ≤ ((scanT s.data.toList 0 none).length : Int) := by omega
          generalize hln : d0.length + 1 = n at *
          clear hln
          go_upto_region 8 with fail
          go_cut [7, 8] from 18 to 111 (fun s7 s8 wx => s7 = .string E ∧ s8 = .int .i64 0 ∧ Below wr.heap.size wr wx)
          case first =>
            go_region_with (go_at_call 17; (refine (frame_Encode.calls _ _ _ _ _ _ hen).mono ?_); rintro e w2 ⟨rfl, hb2⟩)
            all_goals (go_wp2_with fail; go_meet)
            all_goals exact ⟨rfl, rfl, below_step (Below.refl _ wr).drew hb2⟩
          case rest =>
            obtain ⟨rfl, rfl, hbx⟩ := hcut
            have h0 := (hbx.cell lt3).trans g0
            have h1 := (hbx.cell (p := ⟨(ad.add (n * 4)).block, (ad.add (n * 4)).off + 1, none⟩) lt3).trans g1
            have h2 := (hbx.cell (p := ⟨(ad.add (n * 4)).block, (ad.add (n * 4)).off + 2, none⟩) lt3).trans g2
            have h3 := (hbx.cell (p := ⟨(ad.add (n * 4)).block, (ad.add (n * 4)).off + 3, none⟩) lt3).trans g3
            have h4 := (hbx.cell lt4).trans g4
            have hy := (hbx.cell (p := ⟨(ad.add ((n - 1) * 4)).block, (ad.add ((n - 1) * 4)).off + 1, none⟩) lty).trans gy
            have HBX := Lib.hid hbx
            have hdc : decide ((s.size : Int) < (a : Int) + (E.size : Int)) = false := decide_eq_false (by omega)
            have hsl : ∀ w' : World, (Instr.slice 9 (.string s) (some (.int .i64 (a : Int))) (some (.int .i64 ((a : Int) + (E.size : Int)))) none).run Try.prog w' = .ok (.string E) w' := fun w' => by
              rw [run_slice_string (P := Try.prog) w' 9 s .i64 .i64 (a : Int) ((a : Int) + (E.size : Int)) Try.underlying9 (by omega) (by omega) (by omega), Int.toNat_natCast, show ((a : Int) + (E.size : Int)).toNat = a + E.size from by omega, hex]
            clear g0 g1 g2 g3 g4 gy hbx lt3 lt4 lty hen
            have hw1 : IntKind.i64.wrap ((n : Int) - 1) = (n : Int) - 1 := IntWalk.i64_in _ (by omega)
            have hw2 : IntKind.i64.wrap ((y.number : Int) + 1) = (y.number : Int) + 1 := IntWalk.i64_in _ (by omega)
            go_wp2_with fail
            go_quiet (exact (frame_Size.calls _ _ _ hsz).mono (fun e w' h => ⟨h.1, drawn_more h.2⟩))
            go_wp2
            go_roundg (r.length + 1)
            case measure => have := H.out.len; rw [List.length_cons] at this; omega
            case rel =>
              have hbw : Below wr.heap.size wr (wc.drewN nq) := by apply pw_below_drewN; exact HBX.out
              refine ⟨d0 ++ [y] ++ [x], r, a + E.size, ⟨rfl, ?_, ?_, rfl, ?_, Kd.C_below H.out.l1 hbw, Kd.C_below H.out.l2 hbw, below_step H.out.below hbw⟩⟩
              · rw [← H.out.tot]; simp
              · have e2 : lastB (d0 ++ [y] ++ [x]) = some x.number := by unfold lastB; rw [List.getLast?_append]; rfl
                rw [e2, ← HN.out]
                exact P7.out
              · rw [List.length_append, List.length_singleton, HLN.out]
                rfl
/-- In the print's form. -/
def postbaglaw10_FrameBegins.f (a : ByteArray) : Option Bool := if a.size ≤ 140737488351232 then some true else none
theorem postbaglaw10_FrameBegins.calls (a : ByteArray) (r : Bool) (w : World) (h : postbaglaw10_FrameBegins.f a = some r) :
    Calls Try.prog 9 #[.string a] w fun e w' => e = .returned (.bool r) ∧ Below w.heap.size w w' := by
  unfold postbaglaw10_FrameBegins.f at h
  split at h
  · injection h with h
    subst h
    exact begins_calls a w ‹_›
  · exact absurd h (by simp)
end Go.Proofs.Ytcndhgpaoihblaa.Fr
