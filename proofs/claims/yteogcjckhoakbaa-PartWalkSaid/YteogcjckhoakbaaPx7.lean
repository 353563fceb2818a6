-- Written by wip/xprint.py (a program of this repo) out of the translation; Lean checks it.
import Derived.Test.YteogcjckhoakbaaPx0
import Derived.Test.YteogcjckhoakbaaPx2
import Derived.Test.YteogcjckhoakbaaPx3
import Derived.Test.YteogcjckhoakbaaPx6
namespace Go.Proofs.Yteogcjckhoakbaa.P
open Go.RowKit Go.Proofs.YteogcjckhoakbaaW.PrintWords Go.Proofs.YteogcjckhoakbaaW.PrintLast Go.Proofs.YteogcjckhoakbaaW.PrintMore
attribute [local go_sem] max2_int min2_int max_two min_two max_three min_three max_four min_four   -- for this text's walks alone
attribute [local go_sem ↓ high] Go.Proofs.YteogcjckhoakbaaX.isSome_setCell
set_option linter.unusedVariables false
set_option linter.unusedSimpArgs false

/-! ### hyphenlaw4_PartWalk: function 10 -/
mutual
def hyphenlaw4_PartWalk.j0 : Nat → Int → List Int → List Int → Bool → Option (Bool)
  | 0, _, _, _, _ => none
  | k + 1, x1, x5, x6, x33 => if x33 = true then (none) else (hyphenlaw4_PartWalk.l0 k x1 x5 x6 0)
def hyphenlaw4_PartWalk.l0 : Nat → Int → List Int → List Int → Int → Option (Bool)
  | 0, _, _, _, _ => none
  | k + 1, x1, x5, x6, x7 => if x7 < (x5.length : Int) then (if (wrap64 (x7 + 1)) < (x5.length : Int) then (if 0 ≤ (wrap64 (x7 + 1)) then (hyphenlaw4_PartWalk.j2 k x1 x5 x6 x7 (wrap64 ((rd x5 (wrap64 (x7 + 1))) - 1))) else (none)) else (hyphenlaw4_PartWalk.j2 k x1 x5 x6 x7 1114111)) else (some true)
def hyphenlaw4_PartWalk.j2 : Nat → Int → List Int → List Int → Int → Int → Option (Bool)
  | 0, _, _, _, _, _ => none
  | k + 1, x1, x5, x6, x7, x8 => if 0 ≤ x7 then (if x7 < (x5.length : Int) then (if x8 < (rd x5 x7) then (none) else ((hyphenlaw4_within.f x1 (wrap64 ((wrap64 (x8 - (rd x5 x7))) + 1))).bind fun t299 => ((part_Letter.f x5 x6 (rd x5 x7)).bind fun t301 => (if x7 < (x6.length : Int) then (if t301 = (rd x6 x7) then ((part_Letter.f x5 x6 x8).bind fun t303 => (if t303 = (rd x6 x7) then ((part_Letter.f x5 x6 (wrap64 ((rd x5 x7) + t299))).bind fun t305 => ((hyphenref4_Letter.f k x5 x6 (wrap64 ((rd x5 x7) + t299))).bind fun t306 => (if t305 = t306 then (hyphenlaw4_PartWalk.l0 k x1 x5 x6 (wrap64 (x7 + 1))) else (none)))) else (none))) else (none)) else (none))))) else (none)) else (none)
end
def hyphenlaw4_PartWalk.f (k : Nat) (l0 : List Int) (a1 : Int) : Option (Bool) := (hyphenlaw4_known.f k).bind fun t284 => (if t284 = true then ((hyphenlaw4_Sets.f k l0 12).bind fun t285 => ((part_Cuts.f k t285).bind fun bt288 => (if (bt288.1.length : Int) = 0 then (hyphenlaw4_PartWalk.j0 k a1 bt288.1 bt288.2 true) else (if (bt288.1.length : Int) = (bt288.2.length : Int) then (if 0 < (bt288.1.length : Int) then (hyphenlaw4_PartWalk.j0 k a1 bt288.1 bt288.2 ((rd bt288.1 0) != 0)) else (none)) else (hyphenlaw4_PartWalk.j0 k a1 bt288.1 bt288.2 true))))) else (none))
theorem hyphenlaw4_PartWalk.mono_l : ∀ k, (∀ y0 y1 y2 y3, LeO (hyphenlaw4_PartWalk.j0 k y0 y1 y2 y3) (hyphenlaw4_PartWalk.j0 (k + 1) y0 y1 y2 y3)) ∧ (∀ y0 y1 y2 y3, LeO (hyphenlaw4_PartWalk.l0 k y0 y1 y2 y3) (hyphenlaw4_PartWalk.l0 (k + 1) y0 y1 y2 y3)) ∧ (∀ y0 y1 y2 y3 y4, LeO (hyphenlaw4_PartWalk.j2 k y0 y1 y2 y3 y4) (hyphenlaw4_PartWalk.j2 (k + 1) y0 y1 y2 y3 y4))
  | 0 => ⟨fun _ _ _ _ r h => by simp [hyphenlaw4_PartWalk.j0] at h, fun _ _ _ _ r h => by simp [hyphenlaw4_PartWalk.l0] at h, fun _ _ _ _ _ r h => by simp [hyphenlaw4_PartWalk.j2] at h⟩
  | k + 1 => by
    obtain ⟨ih0, ih1, ih2⟩ := hyphenlaw4_PartWalk.mono_l k
    refine ⟨?_, ?_, ?_⟩
    · intro y0 y1 y2 y3
      unfold hyphenlaw4_PartWalk.j0
      repeat' first
      | (with_reducible exact ih0 _ _ _ _)
      | (with_reducible exact ih1 _ _ _ _)
      | (with_reducible exact ih2 _ _ _ _ _)
      | (with_reducible exact hyphenlaw4_Sets.mono _ _ _)
      | (with_reducible exact hyphenlaw4_known.mono _)
      | (with_reducible exact hyphenref4_Letter.mono _ _ _ _)
      | (with_reducible exact part_Cuts.mono _ _)
      | (with_reducible exact LeO.refl _)
      | (with_reducible exact LeO.none _)
      | (with_reducible refine LeO.ite ?_ ?_)
      | (with_reducible refine LeO.bind ?_ (fun _ => ?_))
      | exact ih0 _ _ _ _
      | exact ih1 _ _ _ _
      | exact ih2 _ _ _ _ _
      | exact hyphenlaw4_Sets.mono _ _ _
      | exact hyphenlaw4_known.mono _
      | exact hyphenref4_Letter.mono _ _ _ _
      | exact part_Cuts.mono _ _
      | exact LeO.none _
      | refine LeO.ite ?_ ?_
      | refine LeO.bind ?_ (fun _ => ?_)
    · intro y0 y1 y2 y3
      unfold hyphenlaw4_PartWalk.l0
      repeat' first
      | (with_reducible exact ih0 _ _ _ _)
      | (with_reducible exact ih1 _ _ _ _)
      | (with_reducible exact ih2 _ _ _ _ _)
      | (with_reducible exact hyphenlaw4_Sets.mono _ _ _)
      | (with_reducible exact hyphenlaw4_known.mono _)
      | (with_reducible exact hyphenref4_Letter.mono _ _ _ _)
      | (with_reducible exact part_Cuts.mono _ _)
      | (with_reducible exact LeO.refl _)
      | (with_reducible exact LeO.none _)
      | (with_reducible refine LeO.ite ?_ ?_)
      | (with_reducible refine LeO.bind ?_ (fun _ => ?_))
      | exact ih0 _ _ _ _
      | exact ih1 _ _ _ _
      | exact ih2 _ _ _ _ _
      | exact hyphenlaw4_Sets.mono _ _ _
      | exact hyphenlaw4_known.mono _
      | exact hyphenref4_Letter.mono _ _ _ _
      | exact part_Cuts.mono _ _
      | exact LeO.none _
      | refine LeO.ite ?_ ?_
      | refine LeO.bind ?_ (fun _ => ?_)
    · intro y0 y1 y2 y3 y4
      unfold hyphenlaw4_PartWalk.j2
      repeat' first
      | (with_reducible exact ih0 _ _ _ _)
      | (with_reducible exact ih1 _ _ _ _)
      | (with_reducible exact ih2 _ _ _ _ _)
      | (with_reducible exact hyphenlaw4_Sets.mono _ _ _)
      | (with_reducible exact hyphenlaw4_known.mono _)
      | (with_reducible exact hyphenref4_Letter.mono _ _ _ _)
      | (with_reducible exact part_Cuts.mono _ _)
      | (with_reducible exact LeO.refl _)
      | (with_reducible exact LeO.none _)
      | (with_reducible refine LeO.ite ?_ ?_)
      | (with_reducible refine LeO.bind ?_ (fun _ => ?_))
      | exact ih0 _ _ _ _
      | exact ih1 _ _ _ _
      | exact ih2 _ _ _ _ _
      | exact hyphenlaw4_Sets.mono _ _ _
      | exact hyphenlaw4_known.mono _
      | exact hyphenref4_Letter.mono _ _ _ _
      | exact part_Cuts.mono _ _
      | exact LeO.none _
      | refine LeO.ite ?_ ?_
      | refine LeO.bind ?_ (fun _ => ?_)
theorem hyphenlaw4_PartWalk.mono : ∀ a0 a1 k, LeO (hyphenlaw4_PartWalk.f k a0 a1) (hyphenlaw4_PartWalk.f (k + 1) a0 a1) := by
  intro a0 a1 k
  obtain ⟨ih0, ih1, ih2⟩ := hyphenlaw4_PartWalk.mono_l k
  unfold hyphenlaw4_PartWalk.f
  repeat' first
      | (with_reducible exact ih0 _ _ _ _)
      | (with_reducible exact ih1 _ _ _ _)
      | (with_reducible exact ih2 _ _ _ _ _)
      | (with_reducible exact hyphenlaw4_Sets.mono _ _ _)
      | (with_reducible exact hyphenlaw4_known.mono _)
      | (with_reducible exact hyphenref4_Letter.mono _ _ _ _)
      | (with_reducible exact part_Cuts.mono _ _)
      | (with_reducible exact LeO.refl _)
      | (with_reducible exact LeO.none _)
      | (with_reducible refine LeO.ite ?_ ?_)
      | (with_reducible refine LeO.bind ?_ (fun _ => ?_))
      | exact ih0 _ _ _ _
      | exact ih1 _ _ _ _
      | exact ih2 _ _ _ _ _
      | exact hyphenlaw4_Sets.mono _ _ _
      | exact hyphenlaw4_known.mono _
      | exact hyphenref4_Letter.mono _ _ _ _
      | exact part_Cuts.mono _ _
      | exact LeO.none _
      | refine LeO.ite ?_ ?_
      | refine LeO.bind ?_ (fun _ => ?_)
def hyphenlaw4_PartWalk.T14 : Bool × List (List Nat × List Nat) := (true, [([], []), ([], []), ([0, 1], [0, 1]), ([2], [2]), ([], []), ([], []), ([], []), ([], []), ([6, 7], [6, 7]), ([8], [8]), ([5, 9], [5, 9]), ([10], [10]), ([4, 11], [4, 11]), ([3, 12], [3, 12]), ([13, 12, 0, 1, 2, 3, 4, 5, 6, 7, 8, 9, 10, 11, 12, 13], [13])])
def hyphenlaw4_PartWalk.B14 : List Nat := [0, 0, 3, 7, 0, 0, 0, 0, 192, 448, 992, 2016, 4080, 8191, 16383]
theorem hyphenlaw4_PartWalk.tab14 : rtab .any (opsOf Try.f10 14) = hyphenlaw4_PartWalk.T14 := by kernel_rfl
theorem hyphenlaw4_PartWalk.bits14 : waitsOk hyphenlaw4_PartWalk.T14.2 hyphenlaw4_PartWalk.B14 = true := by kernel_rfl
def hyphenlaw4_PartWalk.T15 : Bool × List (List Nat × List Nat) := (true, [([], []), ([], []), ([], []), ([], []), ([2, 3], [2, 3]), ([4], [4]), ([0, 1, 5], [0, 1, 5]), ([], []), ([], []), ([7, 8], [7, 8]), ([9], [9]), ([6, 10], [6, 10]), ([11, 6], [11]), ([12], [12]), ([12], [12]), ([12], [12]), ([13, 14, 15, 12, 12], [12, 13, 14, 15]), ([12], [12]), ([12], [12]), ([17, 18, 12], [12, 17, 18]), ([19, 12], [12, 19]), ([16, 20, 12], [12, 16, 20]), ([12, 21], [12, 21]), ([22, 16], [22]), ([23], [23]), ([23], [23]), ([23], [23]), ([24, 25, 26, 23, 23], [23, 24, 25, 26]), ([23], [23]), ([23], [23]), ([23], [23]), ([28, 29, 30, 27, 23], [23, 28, 29, 30]), ([27, 31, 23], [23, 27, 31]), ([23, 32], [23, 32])])
def hyphenlaw4_PartWalk.B15 : List Nat := [0, 0, 0, 0, 12, 28, 63, 0, 0, 384, 896, 2047, 4095, 8191, 8191, 8191, 65535, 8191, 8191, 401407, 925695, 2097151, 4194303, 8388607, 16777215, 16777215, 16777215, 134217727, 16777215, 16777215, 16777215, 2147483647, 4294967295, 8589934591]
theorem hyphenlaw4_PartWalk.tab15 : rtab .any (opsOf Try.f10 15) = hyphenlaw4_PartWalk.T15 := by kernel_rfl
theorem hyphenlaw4_PartWalk.bits15 : waitsOk hyphenlaw4_PartWalk.T15.2 hyphenlaw4_PartWalk.B15 = true := by kernel_rfl
set_option maxHeartbeats 8000000 in
set_option maxRecDepth 100000 in
theorem hyphenlaw4_PartWalk.calls (k : Nat) (A0 : Option Addr) (c0 : Nat) (l0 : List Int) (a1 : Int) (r : Bool) (w : World) (hr0 : Kd.C (Kd.int .i64) w A0 l0.length l0) (hc0 : l0.length ≤ c0) (h : hyphenlaw4_PartWalk.f k l0 a1 = some r) :
    Calls Try.prog 10 #[.slice A0 l0.length c0, .int .i64 a1] w fun e w' => e = .returned (.bool r) ∧ Below w.heap.size w w' := by
  have HR0 := Aside0.mk hr0
  have HC0 := Aside0.mk hc0
  clear hr0 hc0
  have HB := Aside0.mk (Below.refl w.heap.size w)
  have H : ((hyphenlaw4_known.f k).bind fun t284 => (if t284 = true then ((hyphenlaw4_Sets.f k l0 12).bind fun t285 => ((part_Cuts.f k t285).bind fun bt288 => (if (bt288.1.length : Int) = 0 then (hyphenlaw4_PartWalk.j0 k a1 bt288.1 bt288.2 true) else (if (bt288.1.length : Int) = (bt288.2.length : Int) then (if 0 < (bt288.1.length : Int) then (hyphenlaw4_PartWalk.j0 k a1 bt288.1 bt288.2 ((rd bt288.1 0) != 0)) else (none)) else (hyphenlaw4_PartWalk.j0 k a1 bt288.1 bt288.2 true))))) else (none))) = some r := h
  clear h
  replace H := Option.bind_eq_some_iff.mp H
  obtain ⟨t284, A30, H⟩ := H
  replace H : (if t284 = true then ((hyphenlaw4_Sets.f k l0 12).bind fun t285 => ((part_Cuts.f k t285).bind fun bt288 => (if (bt288.1.length : Int) = 0 then (hyphenlaw4_PartWalk.j0 k a1 bt288.1 bt288.2 true) else (if (bt288.1.length : Int) = (bt288.2.length : Int) then (if 0 < (bt288.1.length : Int) then (hyphenlaw4_PartWalk.j0 k a1 bt288.1 bt288.2 ((rd bt288.1 0) != 0)) else (none)) else (hyphenlaw4_PartWalk.j0 k a1 bt288.1 bt288.2 true))))) else (none)) = some r := H
  have A3 := Aside0.mk A30
  clear A30
  by_cases c4 : t284 = true
  · subst c4
    have H1 : ((hyphenlaw4_Sets.f k l0 12).bind fun t285 => ((part_Cuts.f k t285).bind fun bt288 => (if (bt288.1.length : Int) = 0 then (hyphenlaw4_PartWalk.j0 k a1 bt288.1 bt288.2 true) else (if (bt288.1.length : Int) = (bt288.2.length : Int) then (if 0 < (bt288.1.length : Int) then (hyphenlaw4_PartWalk.j0 k a1 bt288.1 bt288.2 ((rd bt288.1 0) != 0)) else (none)) else (hyphenlaw4_PartWalk.j0 k a1 bt288.1 bt288.2 true))))) = some r := by rw [if_pos rfl] at H; exact H
    clear H
    have H := H1
    clear H1
    replace H := Option.bind_eq_some_iff.mp H
    obtain ⟨t285, A50, H⟩ := H
    replace H : ((part_Cuts.f k t285).bind fun bt288 => (if (bt288.1.length : Int) = 0 then (hyphenlaw4_PartWalk.j0 k a1 bt288.1 bt288.2 true) else (if (bt288.1.length : Int) = (bt288.2.length : Int) then (if 0 < (bt288.1.length : Int) then (hyphenlaw4_PartWalk.j0 k a1 bt288.1 bt288.2 ((rd bt288.1 0) != 0)) else (none)) else (hyphenlaw4_PartWalk.j0 k a1 bt288.1 bt288.2 true)))) = some r := H
    have A5 := Aside0.mk A50
    clear A50
    replace H := Option.bind_eq_some_iff.mp H
    obtain ⟨⟨t288, t289⟩, A60, H⟩ := H
    replace H : (if (t288.length : Int) = 0 then (hyphenlaw4_PartWalk.j0 k a1 t288 t289 true) else (if (t288.length : Int) = (t289.length : Int) then (if 0 < (t288.length : Int) then (hyphenlaw4_PartWalk.j0 k a1 t288 t289 ((rd t288 0) != 0)) else (none)) else (hyphenlaw4_PartWalk.j0 k a1 t288 t289 true))) = some r := H
    have A6 := Aside0.mk A60
    clear A60
    have HC7 := Aside0.mk H
    clear H
    go_enter Try.func10, Try.ntmps10
    go_upto_region 4 with (first | ((with_reducible refine gate_callee (f := 11) rfl ?_); refine goesL_ (some 10) rfl rfl Try.func11 (by kernel_rfl) rfl #[] rfl (by (try simp only [List.map_toArray, List.map_cons, List.map_nil]); first | done | rfl | (simp only [List.length_drop, List.length_take]; rfl)) ?_; (with_reducible refine (hyphenlaw4_known.calls k  true _ A3.out).mono ?_); rintro e w8 ⟨rfl, hb⟩; refine ⟨_, rfl, ?_⟩; have n0_ := Aside0.mk (below_step (by repeat (first | (with_reducible first | exact HB.out | apply below_alloc | apply pw_below_drewN | apply below_drew1) | exact HB.out)) hb); clear HB; have HB := n0_; clear n0_; (try clear hb); (try clear hb2); (try clear hk); (try clear hi)) | ((with_reducible refine gate_callee (f := 12) rfl ?_); refine goesL_ (some 14) rfl rfl Try.func12 (by kernel_rfl) rfl #[.slice A0 l0.length c0, .int .i64 12] rfl (by (try simp only [List.map_toArray, List.map_cons, List.map_nil]); first | done | rfl | (simp only [List.length_drop, List.length_take]; rfl)) ?_; (with_reducible refine (hyphenlaw4_Sets.calls k _ _ l0 12 t285 _ ?side1 ?side2 A5.out).mono ?_); (case side1 => repeat (first | exact (Kd.C_below HR0.out HB.out) | (with_reducible refine Kd.C_alloc ?_ _) | (with_reducible refine Kd.C_drewN ?_ _) | (with_reducible refine Kd.C_drew ?_))); (case side2 => exact HC0.out); rintro e w9 ⟨v286, rfl, ho0, hb⟩; refine ⟨_, rfl, ?_⟩; have n0_ := Aside0.mk (Kd.R_lower ho0 (below_size (by repeat (first | (with_reducible first | exact HB.out | apply below_alloc | apply pw_below_drewN | apply below_drew1) | exact HB.out)))); have n1_ := Aside0.mk (below_step (by repeat (first | (with_reducible first | exact HB.out | apply below_alloc | apply pw_below_drewN | apply below_drew1) | exact HB.out)) hb); clear HB; have HO287 := n0_; have HB := n1_; clear n0_ n1_; (try clear hb); (try clear hb2); (try clear hk); (try clear hi); (try clear ho0); obtain ⟨Ao10, co10, eo10⟩ := Kd.R_slice HO287.out; subst eo10) | ((with_reducible refine gate_callee (f := 13) rfl ?_); refine goesL_ (some 15) rfl rfl Try.func13 (by kernel_rfl) rfl #[.slice Ao10 t285.length co10] rfl (by (try simp only [List.map_toArray, List.map_cons, List.map_nil]); first | done | rfl | (simp only [List.length_drop, List.length_take]; rfl)) ?_; (with_reducible refine (part_Cuts.calls k _ _ t285 t288 t289 _ ?side1 ?side2 A6.out).mono ?_); (case side1 => repeat (first | exact (Kd.R_reads' HO287.out).2.2 | (with_reducible refine Kd.C_alloc ?_ _) | (with_reducible refine Kd.C_drewN ?_ _) | (with_reducible refine Kd.C_drew ?_))); (case side2 => exact (Kd.R_reads' HO287.out).2.1); rintro e w11 ⟨v290, v292, rfl, ho0, ho1, hb⟩; refine ⟨_, rfl, ?_⟩; have n0_ := Aside0.mk (Kd.R_below (by (with_reducible repeat (first | apply Kd.R_alloc | apply Kd.R_drewN | apply Kd.R_drew)); exact HO287.out) hb); have n1_ := Aside0.mk (Kd.R_lower ho0 (below_size (by repeat (first | (with_reducible first | exact HB.out | apply below_alloc | apply pw_below_drewN | apply below_drew1) | exact HB.out)))); have n2_ := Aside0.mk (Kd.R_lower ho1 (below_size (by repeat (first | (with_reducible first | exact HB.out | apply below_alloc | apply pw_below_drewN | apply below_drew1) | exact HB.out)))); have n3_ := Aside0.mk (below_step (by repeat (first | (with_reducible first | exact HB.out | apply below_alloc | apply pw_below_drewN | apply below_drew1) | exact HB.out)) hb); clear HO287; clear HB; have HO287 := n0_; have HO291 := n1_; have HO293 := n2_; have HB := n3_; clear n0_ n1_ n2_ n3_; (try clear hb); (try clear hb2); (try clear hk); (try clear hi); (try clear ho0); (try clear ho1)))
    (try simp only [Act.put, List.setIfInBounds_toArray, List.set_cons_zero, List.set_cons_succ])
    go_cut [33] (fun v33 wc => ∃ (kq : Nat) (x33_6 : Bool), v33 = .bool x33_6 ∧ Aside0 (hyphenlaw4_PartWalk.j0 kq a1 t288 t289 x33_6 = some r) ∧ Aside0 (kq ≤ k) ∧ Aside0 (Kd.R (Kd.int .i64) 3 wc w.heap.size (fun k_ => some k_ ≠ (v292 : Value).ownBlock) v290 t288) ∧ Aside0 (Kd.R (Kd.int .i64) 3 wc w.heap.size (fun k_ => some k_ ≠ (v290 : Value).ownBlock) v292 t289) ∧ Aside0 (Below w.heap.size w wc))
    case first =>
      have H := HC7.out
      clear HC7
      by_cases c12 : (t288.length : Int) = 0
      · rw [if_pos c12] at H
        have c12b0 : ((t288.length : Int) == 0) = true := beq_iff_eq.mpr c12
        have c12b1 : ((t288.length : Int) != 0) = false := bne_eq_false_iff_eq.mpr c12
        clear c12
        (first | rw [c12b0] | (simp only [i64_w, i32_w]; rw [c12b0]) | skip)
        have H' := Aside0.mk H
        clear H
        obtain ⟨Ao13, co13, eo13⟩ := Kd.R_slice HO291.out
        subst eo13
        go_wp2
        go_meet
        case rel => exact ⟨_, (true), (by first | rfl | (simp; done) | (simp [*]; done)), H', ⟨by first | omega | exact Nat.le_refl _⟩, ⟨by (with_reducible repeat (first | apply Kd.R_alloc | apply Kd.R_drewN | apply Kd.R_drew)); exact HO291.out⟩, ⟨by (with_reducible repeat (first | apply Kd.R_alloc | apply Kd.R_drewN | apply Kd.R_drew)); exact HO293.out⟩, ⟨by repeat (first | (with_reducible first | exact HB.out | apply below_alloc | apply pw_below_drewN | apply below_drew1) | exact HB.out)⟩⟩
      · rw [if_neg c12] at H
        have c12b0 : ((t288.length : Int) == 0) = false := beq_eq_false_iff_ne.mpr c12
        have c12b1 : ((t288.length : Int) != 0) = true := bne_iff_ne.mpr c12
        have c12b2 : ¬ (t288 = []) := fun h_ => c12 (by rw [h_]; rfl)
        (first | rw [c12b0] | (simp only [i64_w, i32_w]; rw [c12b0]) | skip)
        by_cases c14 : (t288.length : Int) = (t289.length : Int)
        · rw [if_pos c14] at H
          have c14b0 : ((t288.length : Int) == (t289.length : Int)) = true := beq_iff_eq.mpr c14
          have c14b1 : ((t288.length : Int) != (t289.length : Int)) = false := bne_eq_false_iff_eq.mpr c14
          have c14b2 : (t288.length == t289.length) = true := by first | simpa using c14 | (simp at c14 ⊢; omega)
          clear c14
          by_cases c15 : 0 < (t288.length : Int)
          · rw [if_pos c15] at H
            have c15b0 : decide (0 < (t288.length : Int)) = true := decide_eq_true c15
            have c15b1 : decide (0 < t288.length) = true := decide_eq_true (by omega)
            clear c15
            have H' := Aside0.mk H
            clear H
            obtain ⟨Ao16, co16, eo16⟩ := Kd.R_slice HO291.out
            subst eo16
            obtain ⟨Ao17, co17, eo17⟩ := Kd.R_slice HO293.out
            subst eo17
            have p294 : 0 ≤ (0 : Int) := (by omega)
            have q294 : 0 < (t288.length : Int) := of_decide_eq_true (by first | (with_reducible assumption) | assumption)
            obtain ⟨ad294, e294, hx294_0⟩ := Kd.at_int (Kd.R_reads' HO291.out).2.2 0 p294 q294
            cases e294
            have qi294 : (0 < t288.length) = True := eq_true (by omega)
            (try rw [show ((0 : Int)).toNat = 0 from rfl] at hx294_0)
            (try rw [Addr.add_zero'] at hx294_0)
            replace p294 := eq_true p294
            replace q294 := eq_true q294
            go_wp2
            go_meet
            case rel => exact ⟨_, (((rd t288 0) != 0)), (by first | rfl | (simp; done) | (simp [*]; done)), H', ⟨by first | omega | exact Nat.le_refl _⟩, ⟨by (with_reducible repeat (first | apply Kd.R_alloc | apply Kd.R_drewN | apply Kd.R_drew)); exact HO291.out⟩, ⟨by (with_reducible repeat (first | apply Kd.R_alloc | apply Kd.R_drewN | apply Kd.R_drew)); exact HO293.out⟩, ⟨by repeat (first | (with_reducible first | exact HB.out | apply below_alloc | apply pw_below_drewN | apply below_drew1) | exact HB.out)⟩⟩
          · rw [if_neg c15] at H
            exact absurd H (by simp)
        · rw [if_neg c14] at H
          have c14b0 : ((t288.length : Int) == (t289.length : Int)) = false := beq_eq_false_iff_ne.mpr c14
          have c14b1 : ((t288.length : Int) != (t289.length : Int)) = true := bne_iff_ne.mpr c14
          have c14b2 : (t288.length == t289.length) = false := by first | simpa using c14 | (simp at c14 ⊢; omega)
          have H' := Aside0.mk H
          clear H
          obtain ⟨Ao18, co18, eo18⟩ := Kd.R_slice HO291.out
          subst eo18
          obtain ⟨Ao19, co19, eo19⟩ := Kd.R_slice HO293.out
          subst eo19
          go_wp2
          go_meet
          case rel => exact ⟨_, (true), (by first | rfl | (simp; done) | (simp [*]; done)), H', ⟨by first | omega | exact Nat.le_refl _⟩, ⟨by (with_reducible repeat (first | apply Kd.R_alloc | apply Kd.R_drewN | apply Kd.R_drew)); exact HO291.out⟩, ⟨by (with_reducible repeat (first | apply Kd.R_alloc | apply Kd.R_drewN | apply Kd.R_drew)); exact HO293.out⟩, ⟨by repeat (first | (with_reducible first | exact HB.out | apply below_alloc | apply pw_below_drewN | apply below_drew1) | exact HB.out)⟩⟩
    case rest =>
      clear HC7
      try clear c1
      try clear p2
      try clear q2
      try clear hx2
      try clear qi2
      try clear c4
      try clear c10
      try clear c11
      try clear c12
      try clear c12b0
      try clear c12b1
      try clear c12b2
      try clear c13
      try clear c14
      try clear c14b0
      try clear c14b1
      try clear c14b2
      try clear c15
      try clear c15b0
      try clear c15b1
      try clear hx294_0
      try clear p294
      try clear q294
      obtain ⟨kq, x33_6, rfl, HA, HJ6, HO_5, HO_6, HB⟩ := hcut
      cases kq with
      | zero => exact absurd HA.out (by simp [hyphenlaw4_PartWalk.j0])
      | succ kj6 =>
        have H := HA.out
        clear HA
        simp only [hyphenlaw4_PartWalk.j0] at H
        by_cases c20 : x33_6 = true
        · subst c20
          have H1 : (none) = some r := by rw [if_pos rfl] at H; exact H
          clear H
          have H := H1
          clear H1
          exact absurd H (by simp)
        · replace c20 := Bool.eq_false_iff.mpr c20
          subst c20
          have H1 : (hyphenlaw4_PartWalk.l0 kj6 a1 t288 t289 0) = some r := by rw [if_neg (show ¬ (false = true) by decide)] at H; exact H
          clear H
          have H := H1
          clear H1
          have H' := Aside0.mk H
          clear H
          go_wp2
          go_loopg [7] kj6 (fun kq v7 w' => ∃ (x7_2 : Int), v7 = .int .i64 x7_2 ∧ Aside0 (hyphenlaw4_PartWalk.l0 kq a1 t288 t289 x7_2 = some r) ∧ Aside0 (kq ≤ kj6) ∧ Aside0 (Kd.R (Kd.int .i64) 3 w' w.heap.size (fun k_ => some k_ ≠ (v292 : Value).ownBlock) v290 t288) ∧ Aside0 (Kd.R (Kd.int .i64) 3 w' w.heap.size (fun k_ => some k_ ≠ (v290 : Value).ownBlock) v292 t289) ∧ Aside0 (Below w.heap.size w w'))
          case atStart => exact ⟨(0), (by first | rfl | (simp; done) | (simp [*]; done)), H', ⟨Nat.le_refl _⟩, ⟨by (with_reducible repeat (first | apply Kd.R_alloc | apply Kd.R_drewN | apply Kd.R_drew)); exact HO_5.out⟩, ⟨by (with_reducible repeat (first | apply Kd.R_alloc | apply Kd.R_drewN | apply Kd.R_drew)); exact HO_6.out⟩, ⟨by repeat (first | (with_reducible first | exact HB.out | apply below_alloc | apply pw_below_drewN | apply below_drew1) | exact HB.out)⟩⟩
          case round =>
            clear H'
            try clear c1
            try clear c2
            try clear p2
            try clear q2
            try clear hx2
            try clear qi2
            try clear c4
            try clear c10
            try clear c11
            try clear c12
            try clear c12b0
            try clear c12b1
            try clear c12b2
            try clear c13
            try clear c14
            try clear c14b0
            try clear c14b1
            try clear c14b2
            try clear c15
            try clear c15b0
            try clear c15b1
            try clear c20
            try clear hx294_0
            try clear p2
            try clear p294
            try clear q2
            try clear q294
            obtain ⟨x7_2, rfl, HA, HK2, HO_5, HO_6, HB⟩ := hrel
            cases gk with
            | zero => exact absurd HA.out (by simp [hyphenlaw4_PartWalk.l0])
            | succ k2 =>
              have H := HA.out
              clear HA
              simp only [hyphenlaw4_PartWalk.l0] at H
              by_cases c21 : x7_2 < (t288.length : Int)
              · rw [if_pos c21] at H
                have c21b0 : decide (x7_2 < (t288.length : Int)) = true := decide_eq_true c21
                clear c21
                have HC22 := Aside0.mk H
                clear H
                obtain ⟨Ao23, co23, eo23⟩ := Kd.R_slice HO_5.out
                subst eo23
                go_upto_if 44 with (fail)
                go_cut [8] (fun v8 wc => ∃ (kq : Nat) (x8_21 : Int), v8 = .int .i64 x8_21 ∧ Aside0 (hyphenlaw4_PartWalk.j2 kq a1 t288 t289 x7_2 x8_21 = some r) ∧ Aside0 (kq ≤ k2) ∧ Aside0 (Kd.R (Kd.int .i64) 3 wc w.heap.size (fun k_ => some k_ ≠ (v292 : Value).ownBlock) (.slice Ao23 t288.length co23) t288) ∧ Aside0 (Kd.R (Kd.int .i64) 3 wc w.heap.size (fun k_ => some k_ ≠ ((.slice Ao23 t288.length co23) : Value).ownBlock) v292 t289) ∧ Aside0 (Below w.heap.size w wc))
                case first =>
                  have H := HC22.out
                  clear HC22
                  by_cases c24 : (wrap64 (x7_2 + 1)) < (t288.length : Int)
                  · rw [if_pos c24] at H
                    have c24b0 : decide ((wrap64 (x7_2 + 1)) < (t288.length : Int)) = true := decide_eq_true c24
                    clear c24
                    (first | rw [c24b0] | (simp only [i64_w, i32_w]; rw [c24b0]) | skip)
                    obtain ⟨ji25, hji25⟩ : ∃ j_ : Int, (wrap64 (x7_2 + 1)) = j_ := ⟨_, rfl⟩
                    replace H : (if 0 ≤ (ji25) then (hyphenlaw4_PartWalk.j2 k2 a1 t288 t289 x7_2 (wrap64 ((rd t288 (ji25)) - 1))) else (none)) = some r := by first | (rw [hji25] at H; exact H) | (simp only [hji25] at H ⊢; exact H)
                    (try rw [hji25] at c24b0)
                    have hji25w : (IntKind.i64.wrap (x7_2 + 1)) = ji25 := (i64_w _).trans hji25
                    by_cases c26 : 0 ≤ (ji25)
                    · rw [if_pos c26] at H
                      have c26b0 : decide (0 ≤ (ji25)) = true := decide_eq_true c26
                      clear c26
                      have H' := Aside0.mk H
                      clear H
                      have p295 : 0 ≤ ((ji25) : Int) := of_decide_eq_true (by first | (with_reducible assumption) | assumption)
                      have q295 : (ji25) < (t288.length : Int) := of_decide_eq_true (by first | (with_reducible assumption) | assumption)
                      obtain ⟨ad295, e295, hx295_0⟩ := Kd.at_int (Kd.R_reads' HO_5.out).2.2 (ji25) p295 q295
                      cases e295
                      replace p295 := eq_true p295
                      replace q295 := eq_true q295
                      go_wp2
                      go_meet
                      case rel => exact ⟨_, (wrap64 ((rd t288 (ji25)) - 1)), (by first | rfl | (simp; done) | (simp only [← hji25] <;> (first | rfl | simp)) | (simp [*]; done)), H', ⟨by have := HJ6.out; have := HK2.out; first | omega | exact Nat.le_refl _⟩, ⟨by (with_reducible repeat (first | apply Kd.R_alloc | apply Kd.R_drewN | apply Kd.R_drew)); exact HO_5.out⟩, ⟨by (with_reducible repeat (first | apply Kd.R_alloc | apply Kd.R_drewN | apply Kd.R_drew)); exact HO_6.out⟩, ⟨by repeat (first | (with_reducible first | exact HB.out | apply below_alloc | apply pw_below_drewN | apply below_drew1) | exact HB.out)⟩⟩
                    · rw [if_neg c26] at H
                      exact absurd H (by simp)
                  · rw [if_neg c24] at H
                    have c24b0 : decide ((wrap64 (x7_2 + 1)) < (t288.length : Int)) = false := decide_eq_false c24
                    clear c24
                    (first | rw [c24b0] | (simp only [i64_w, i32_w]; rw [c24b0]) | skip)
                    have H' := Aside0.mk H
                    clear H
                    go_wp2
                    go_meet
                    case rel => exact ⟨_, (1114111), (by first | rfl | (simp; done) | (simp [*]; done)), H', ⟨by have := HJ6.out; have := HK2.out; first | omega | exact Nat.le_refl _⟩, ⟨by (with_reducible repeat (first | apply Kd.R_alloc | apply Kd.R_drewN | apply Kd.R_drew)); exact HO_5.out⟩, ⟨by (with_reducible repeat (first | apply Kd.R_alloc | apply Kd.R_drewN | apply Kd.R_drew)); exact HO_6.out⟩, ⟨by repeat (first | (with_reducible first | exact HB.out | apply below_alloc | apply pw_below_drewN | apply below_drew1) | exact HB.out)⟩⟩
                case rest =>
                  clear HC22
                  try clear c1
                  try clear c2
                  try clear p2
                  try clear q2
                  try clear hx2
                  try clear qi2
                  try clear c4
                  try clear p6
                  try clear c10
                  try clear c11
                  try clear c12
                  try clear c12b0
                  try clear c12b1
                  try clear c12b2
                  try clear c13
                  try clear c14
                  try clear c14b0
                  try clear c14b1
                  try clear c14b2
                  try clear c15
                  try clear c15b0
                  try clear c15b1
                  try clear c20
                  try clear c21
                  try clear c21b0
                  try clear c24
                  try clear c24b0
                  try clear c26
                  try clear c26b0
                  try clear hx294_0
                  try clear hx295_0
                  try clear p2
                  try clear p294
                  try clear p295
                  try clear q2
                  try clear q294
                  try clear q295
                  obtain ⟨kq, x8_21, rfl, HA, HJ21, HO_5, HO_6, HB⟩ := hcut
                  cases kq with
                  | zero => exact absurd HA.out (by simp [hyphenlaw4_PartWalk.j2])
                  | succ kj21 =>
                    have H := HA.out
                    clear HA
                    simp only [hyphenlaw4_PartWalk.j2] at H
                    by_cases c27 : 0 ≤ x7_2
                    · rw [if_pos c27] at H
                      have c27b0 : decide (0 ≤ x7_2) = true := decide_eq_true c27
                      clear c27
                      by_cases c28 : x7_2 < (t288.length : Int)
                      · rw [if_pos c28] at H
                        have c28b0 : decide (x7_2 < (t288.length : Int)) = true := decide_eq_true c28
                        clear c28
                        by_cases c29 : x8_21 < (rd t288 x7_2)
                        · rw [if_pos c29] at H
                          exact absurd H (by simp)
                        · rw [if_neg c29] at H
                          have c29b0 : decide (x8_21 < (rd t288 x7_2)) = false := decide_eq_false c29
                          clear c29
                          replace H := Option.bind_eq_some_iff.mp H
                          obtain ⟨t299, A300, H⟩ := H
                          replace H : ((part_Letter.f t288 t289 (rd t288 x7_2)).bind fun t301 => (if x7_2 < (t289.length : Int) then (if t301 = (rd t289 x7_2) then ((part_Letter.f t288 t289 x8_21).bind fun t303 => (if t303 = (rd t289 x7_2) then ((part_Letter.f t288 t289 (wrap64 ((rd t288 x7_2) + t299))).bind fun t305 => ((hyphenref4_Letter.f kj21 t288 t289 (wrap64 ((rd t288 x7_2) + t299))).bind fun t306 => (if t305 = t306 then (hyphenlaw4_PartWalk.l0 kj21 a1 t288 t289 (wrap64 (x7_2 + 1))) else (none)))) else (none))) else (none)) else (none))) = some r := H
                          have A30 := Aside0.mk A300
                          clear A300
                          replace H := Option.bind_eq_some_iff.mp H
                          obtain ⟨t301, A310, H⟩ := H
                          replace H : (if x7_2 < (t289.length : Int) then (if t301 = (rd t289 x7_2) then ((part_Letter.f t288 t289 x8_21).bind fun t303 => (if t303 = (rd t289 x7_2) then ((part_Letter.f t288 t289 (wrap64 ((rd t288 x7_2) + t299))).bind fun t305 => ((hyphenref4_Letter.f kj21 t288 t289 (wrap64 ((rd t288 x7_2) + t299))).bind fun t306 => (if t305 = t306 then (hyphenlaw4_PartWalk.l0 kj21 a1 t288 t289 (wrap64 (x7_2 + 1))) else (none)))) else (none))) else (none)) else (none)) = some r := H
                          have A31 := Aside0.mk A310
                          clear A310
                          by_cases c32 : x7_2 < (t289.length : Int)
                          · rw [if_pos c32] at H
                            have c32b0 : decide (x7_2 < (t289.length : Int)) = true := decide_eq_true c32
                            clear c32
                            by_cases c33 : t301 = (rd t289 x7_2)
                            · rw [if_pos c33] at H
                              have c33b0 : (t301 == (rd t289 x7_2)) = true := beq_iff_eq.mpr c33
                              have c33b1 : (t301 != (rd t289 x7_2)) = false := bne_eq_false_iff_eq.mpr c33
                              clear c33
                              replace H := Option.bind_eq_some_iff.mp H
                              obtain ⟨t303, A340, H⟩ := H
                              replace H : (if t303 = (rd t289 x7_2) then ((part_Letter.f t288 t289 (wrap64 ((rd t288 x7_2) + t299))).bind fun t305 => ((hyphenref4_Letter.f kj21 t288 t289 (wrap64 ((rd t288 x7_2) + t299))).bind fun t306 => (if t305 = t306 then (hyphenlaw4_PartWalk.l0 kj21 a1 t288 t289 (wrap64 (x7_2 + 1))) else (none)))) else (none)) = some r := H
                              have A34 := Aside0.mk A340
                              clear A340
                              by_cases c35 : t303 = (rd t289 x7_2)
                              · rw [if_pos c35] at H
                                have c35b0 : (t303 == (rd t289 x7_2)) = true := beq_iff_eq.mpr c35
                                have c35b1 : (t303 != (rd t289 x7_2)) = false := bne_eq_false_iff_eq.mpr c35
                                clear c35
                                replace H := Option.bind_eq_some_iff.mp H
                                obtain ⟨t305, A360, H⟩ := H
                                replace H : ((hyphenref4_Letter.f kj21 t288 t289 (wrap64 ((rd t288 x7_2) + t299))).bind fun t306 => (if t305 = t306 then (hyphenlaw4_PartWalk.l0 kj21 a1 t288 t289 (wrap64 (x7_2 + 1))) else (none))) = some r := H
                                have A36 := Aside0.mk A360
                                clear A360
                                replace H := Option.bind_eq_some_iff.mp H
                                obtain ⟨t306, A370, H⟩ := H
                                replace H : (if t305 = t306 then (hyphenlaw4_PartWalk.l0 kj21 a1 t288 t289 (wrap64 (x7_2 + 1))) else (none)) = some r := H
                                have A37 := Aside0.mk A370
                                clear A370
                                by_cases c38 : t305 = t306
                                · rw [if_pos c38] at H
                                  have c38b0 : (t305 == t306) = true := beq_iff_eq.mpr c38
                                  have c38b1 : (t305 != t306) = false := bne_eq_false_iff_eq.mpr c38
                                  clear c38
                                  have H' := Aside0.mk H
                                  clear H
                                  have p296 : 0 ≤ (x7_2 : Int) := of_decide_eq_true (by first | (with_reducible assumption) | assumption)
                                  have q296 : x7_2 < (t288.length : Int) := of_decide_eq_true (by first | (with_reducible assumption) | assumption)
                                  obtain ⟨ad296, e296, hx296_0⟩ := Kd.at_int (Kd.R_reads' HO_5.out).2.2 x7_2 p296 q296
                                  cases e296
                                  replace p296 := eq_true p296
                                  replace q296 := eq_true q296
                                  try go_wp2
                                  have n0_ := Aside0.mk (Kd.R_drew HO_5.out)
                                  have n1_ := Aside0.mk (Kd.R_drew HO_6.out)
                                  have n2_ := Aside0.mk (below_drew1 HB.out)
                                  clear HO_5
                                  clear HO_6
                                  clear HB
                                  have HO_5 := n0_
                                  have HO_6 := n1_
                                  have HB := n2_
                                  clear n0_ n1_ n2_
                                  have p297 : 0 ≤ (x7_2 : Int) := of_decide_eq_true (by first | (with_reducible assumption) | assumption)
                                  have q297 : x7_2 < (t288.length : Int) := of_decide_eq_true (by first | (with_reducible assumption) | assumption)
                                  obtain ⟨ad297, e297, hx297_0⟩ := Kd.at_int (Kd.R_reads' HO_5.out).2.2 x7_2 p297 q297
                                  obtain rfl : ad296 = ad297 := (by injection e297)
                                  replace p297 := eq_true p297
                                  replace q297 := eq_true q297
                                  have p298 : 0 ≤ (x7_2 : Int) := of_decide_eq_true (by first | (with_reducible assumption) | assumption)
                                  have q298 : x7_2 < (t288.length : Int) := of_decide_eq_true (by first | (with_reducible assumption) | assumption)
                                  obtain ⟨ad298, e298, hx298_0⟩ := Kd.at_int (Kd.R_reads' HO_5.out).2.2 x7_2 p298 q298
                                  obtain rfl : ad296 = ad298 := (by injection e298)
                                  replace p298 := eq_true p298
                                  replace q298 := eq_true q298
                                  refine start_ (n := 15) (S := fun w' => w'.cell? (ad296.add (x7_2).toNat) = some (.int .i64 (rd t288 x7_2)) ∧ w'.cell? (ad296.add (x7_2).toNat) = some (.int .i64 (rd t288 x7_2))) (ds := []) #[false, false, false, false, false, false, false, false, false, false, false, false, false, false, false] (by kernel_rfl) rfl rfl ⟨hx297_0, hx298_0⟩ (fun hHeld => ?_); refine with_tabW hyphenlaw4_PartWalk.tab14 hyphenlaw4_PartWalk.bits14 (fun HT_ HW_ => ?_)
                                  generalize wc.drew = w39 at HO_5 HO_6 HB hx297_0 hx298_0 hHeld ⊢
                                  refine pure_ (i := 0) (N := some 57) (v := ?_) (a' := ?_) #[true, false, false, false, false, false, false, false, false, false, false, false, false, false, false] rfl rfl (any_of HT_.out (by kernel_rfl)) (fun _ _ _ h => h) (Or.inl ⟨by rfl, ?_⟩) ?_ ?_
                                  rotate_left
                                  · intro w'
                                    go_simp
                                    with_reducible rfl
                                  rotate_left
                                  · simp only [Act.put, List.setIfInBounds_toArray, List.set_cons_zero, List.set_cons_succ, i64_w, i32_w]
                                    rfl
                                  refine pure_ (i := 1) (N := some 58) (v := ?_) (a' := ?_) #[true, true, false, false, false, false, false, false, false, false, false, false, false, false, false] rfl rfl (any_of HT_.out (by kernel_rfl)) (fun _ _ _ h => h) (Or.inl ⟨by rfl, ?_⟩) ?_ ?_
                                  rotate_left
                                  · intro w'
                                    go_simp
                                    with_reducible rfl
                                  rotate_left
                                  · simp only [Act.put, List.setIfInBounds_toArray, List.set_cons_zero, List.set_cons_succ, i64_w, i32_w]
                                    rfl
                                  refine pure_ (i := 2) (N := some 59) (v := ?_) (a' := ?_) #[true, true, true, false, false, false, false, false, false, false, false, false, false, false, false] rfl rfl (any_of HT_.out (by kernel_rfl)) (fun _ _ _ h => h) (Or.inl ⟨by rfl, ?_⟩) ?_ ?_
                                  rotate_left
                                  · intro w'
                                    go_simp
                                    with_reducible rfl
                                  rotate_left
                                  · simp only [Act.put, List.setIfInBounds_toArray, List.set_cons_zero, List.set_cons_succ, i64_w, i32_w]
                                    rfl
                                  refine pure_ (i := 4) (N := some 61) (v := ?_) (a' := ?_) #[true, true, true, false, true, false, false, false, false, false, false, false, false, false, false] rfl rfl (any_of HT_.out (by kernel_rfl)) (fun _ _ _ h => h) (Or.inl ⟨by rfl, ?_⟩) ?_ ?_
                                  rotate_left
                                  · intro w'
                                    go_simp
                                    with_reducible rfl
                                  rotate_left
                                  · simp only [Act.put, List.setIfInBounds_toArray, List.set_cons_zero, List.set_cons_succ, i64_w, i32_w]
                                    rfl
                                  refine pure_ (i := 5) (N := some 62) (v := ?_) (a' := ?_) #[true, true, true, false, true, true, false, false, false, false, false, false, false, false, false] rfl rfl (any_of HT_.out (by kernel_rfl)) (fun _ _ _ h => h) (Or.inl ⟨by rfl, ?_⟩) ?_ ?_
                                  rotate_left
                                  · intro w'
                                    go_simp
                                    with_reducible rfl
                                  rotate_left
                                  · simp only [Act.put, List.setIfInBounds_toArray, List.set_cons_zero, List.set_cons_succ, i64_w, i32_w]
                                    rfl
                                  refine pure_ (i := 6) (N := some 63) (v := ?_) (a' := ?_) #[true, true, true, false, true, true, true, false, false, false, false, false, false, false, false] rfl rfl (any_of HT_.out (by kernel_rfl)) (fun _ _ _ h => h) (Or.inl ⟨by rfl, ?_⟩) ?_ ?_
                                  rotate_left
                                  · intro w'
                                    go_simp
                                    with_reducible rfl
                                  rotate_left
                                  · simp only [Act.put, List.setIfInBounds_toArray, List.set_cons_zero, List.set_cons_succ, i64_w, i32_w]
                                    rfl
                                  refine pure_ (i := 7) (N := some 64) (v := ?_) (a' := ?_) #[true, true, true, false, true, true, true, true, false, false, false, false, false, false, false] rfl rfl (any_of HT_.out (by kernel_rfl)) (fun _ _ _ h => h) (Or.inl ⟨by rfl, ?_⟩) ?_ ?_
                                  rotate_left
                                  · intro w'
                                    go_simp
                                    with_reducible rfl
                                  rotate_left
                                  · simp only [Act.put, List.setIfInBounds_toArray, List.set_cons_zero, List.set_cons_succ, i64_w, i32_w]
                                    rfl
                                  refine pure_ (i := 8) (N := some 65) (v := ?_) (a' := ?_) #[true, true, true, false, true, true, true, true, true, false, false, false, false, false, false] rfl rfl (any_of HT_.out (by kernel_rfl)) (fun _ _ _ h => h) (Or.inl ⟨by rfl, ?_⟩) ?_ ?_
                                  rotate_left
                                  · intro w'
                                    go_simp
                                    with_reducible rfl
                                  rotate_left
                                  · simp only [Act.put, List.setIfInBounds_toArray, List.set_cons_zero, List.set_cons_succ, i64_w, i32_w]
                                    rfl
                                  refine take_ (i := 3) (N := some 60) (v := ?_) (a' := ?_) #[true, true, true, true, true, true, true, true, true, false, false, false, false, false, false] rfl rfl (take_ofW HT_.out HW_.out (by kernel_rfl)) (fun _ _ _ h => h) (Or.inl ⟨by rfl, ?_⟩) hHeld ?_ ?_
                                  rotate_left
                                  · rintro w' ⟨s0, s1⟩
                                    go_simp
                                    with_reducible rfl
                                  rotate_left
                                  · simp only [Act.put, List.setIfInBounds_toArray, List.set_cons_zero, List.set_cons_succ, i64_w, i32_w]
                                    rfl
                                  refine take_ (i := 9) (N := some 66) (v := ?_) (a' := ?_) #[true, true, true, true, true, true, true, true, true, true, false, false, false, false, false] rfl rfl (take_ofW HT_.out HW_.out (by kernel_rfl)) (fun _ _ _ h => h) (Or.inl ⟨by rfl, ?_⟩) hHeld ?_ ?_
                                  rotate_left
                                  · rintro w' ⟨s0, s1⟩
                                    go_simp
                                    with_reducible rfl
                                  rotate_left
                                  · simp only [Act.put, List.setIfInBounds_toArray, List.set_cons_zero, List.set_cons_succ, i64_w, i32_w]
                                    rfl
                                  refine pure_ (i := 10) (N := some 67) (v := ?_) (a' := ?_) #[true, true, true, true, true, true, true, true, true, true, true, false, false, false, false] rfl rfl (any_of HT_.out (by kernel_rfl)) (fun _ _ _ h => h) (Or.inl ⟨by rfl, ?_⟩) ?_ ?_
                                  rotate_left
                                  · intro w'
                                    go_simp
                                    with_reducible rfl
                                  rotate_left
                                  · simp only [Act.put, List.setIfInBounds_toArray, List.set_cons_zero, List.set_cons_succ, i64_w, i32_w]
                                    rfl
                                  refine pure_ (i := 11) (N := some 68) (v := ?_) (a' := ?_) #[true, true, true, true, true, true, true, true, true, true, true, true, false, false, false] rfl rfl (any_of HT_.out (by kernel_rfl)) (fun _ _ _ h => h) (Or.inl ⟨by rfl, ?_⟩) ?_ ?_
                                  rotate_left
                                  · intro w'
                                    go_simp
                                    with_reducible rfl
                                  rotate_left
                                  · simp only [Act.put, List.setIfInBounds_toArray, List.set_cons_zero, List.set_cons_succ, i64_w, i32_w]
                                    rfl
                                  refine one_ (i := 12) (N := some 69) #[true, true, true, true, true, true, true, true, true, true, true, true, true, false, false] rfl rfl (one_of HT_.out (by kernel_rfl)) (by decide) (fun K hK => ?_)
                                  refine goes_ Try.func20 (by kernel_rfl) rfl #[.int .i64 a1, .int .i64 (wrap64 ((wrap64 (x8_21 - (rd t288 x7_2))) + 1))] (by rfl) rfl rfl (by (try simp only [List.map_toArray, List.map_cons, List.map_nil]); first | done | rfl | (simp only [List.length_drop, List.length_take]; rfl)) ?_
                                  with_reducible refine (hyphenlaw4_within.calls a1 (wrap64 ((wrap64 (x8_21 - (rd t288 x7_2))) + 1)) t299 _ A30.out).mono ?_
                                  rintro e w' ⟨rfl, ⟨nd, rfl⟩⟩
                                  refine ⟨_, rfl, ?_⟩
                                  refine hK.out _ _ ⟨hHeld.1, hHeld.2⟩ (fun hHeld => ?_)
                                  clear hK K
                                  refine norm_ (a' := ?_) ?_ ?_
                                  rotate_left
                                  · show Act.put _ (some 69) _ = _
                                    simp only [Act.put, List.setIfInBounds_toArray, List.set_cons_zero, List.set_cons_succ, i64_w, i32_w]
                                    rfl
                                  refine pure_ (i := 13) (N := some 70) (v := ?_) (a' := ?_) #[true, true, true, true, true, true, true, true, true, true, true, true, true, true, false] rfl rfl (any_of HT_.out (by kernel_rfl)) (fun _ _ _ h => h) (Or.inl ⟨by rfl, ?_⟩) ?_ ?_
                                  rotate_left
                                  · intro w'
                                    go_simp
                                    with_reducible rfl
                                  rotate_left
                                  · simp only [Act.put, List.setIfInBounds_toArray, List.set_cons_zero, List.set_cons_succ, i64_w, i32_w]
                                    rfl
                                  refine pure_ (i := 14) (N := some 9) (v := ?_) (a' := ?_) #[true, true, true, true, true, true, true, true, true, true, true, true, true, true, true] rfl rfl (any_of HT_.out (by kernel_rfl)) (fun _ _ _ h => h) (Or.inl ⟨by rfl, ?_⟩) ?_ ?_
                                  rotate_left
                                  · intro w'
                                    go_simp
                                    with_reducible rfl
                                  rotate_left
                                  · simp only [Act.put, List.setIfInBounds_toArray, List.set_cons_zero, List.set_cons_succ, i64_w, i32_w]
                                    rfl
                                  refine done_ (done_of HT_.out (by kernel_rfl)) ?_
                                  try go_wp2
                                  (try (rw [drewN_self w39]; generalize hq_ : World.drewN w39 _ = w39; have n0_ : Aside0 (Kd.R (Kd.int .i64) 3 w39 w.heap.size (fun k_ => some k_ ≠ (v292 : Value).ownBlock) (.slice (some ad296) t288.length co23) t288) := ⟨by rw [← hq_]; exact (by (with_reducible repeat (first | apply Kd.R_alloc | apply Kd.R_drewN | apply Kd.R_drew)); exact HO_5.out)⟩; have n1_ : Aside0 (Kd.R (Kd.int .i64) 3 w39 w.heap.size (fun k_ => some k_ ≠ (.slice (some ad296) t288.length co23 : Value).ownBlock) v292 t289) := ⟨by rw [← hq_]; exact (by (with_reducible repeat (first | apply Kd.R_alloc | apply Kd.R_drewN | apply Kd.R_drew)); exact HO_6.out)⟩; have n2_ : Aside0 (Below w.heap.size w w39) := ⟨by rw [← hq_]; exact (by repeat (first | (with_reducible first | exact HB.out | apply below_alloc | apply pw_below_drewN | apply below_drew1) | exact HB.out))⟩; clear HO_5 HO_6 HB hq_; have HO_5 := n0_; have HO_6 := n1_; have HB := n2_; clear n0_ n1_ n2_))
                                  have n0_ := Aside0.mk (Kd.R_drew HO_5.out)
                                  have n1_ := Aside0.mk (Kd.R_drew HO_6.out)
                                  have n2_ := Aside0.mk (below_drew1 HB.out)
                                  clear HO_5
                                  clear HO_6
                                  clear HB
                                  have HO_5 := n0_
                                  have HO_6 := n1_
                                  have HB := n2_
                                  clear n0_ n1_ n2_
                                  have p300 : 0 ≤ (x7_2 : Int) := of_decide_eq_true (by first | (with_reducible assumption) | assumption)
                                  have q300 : x7_2 < (t288.length : Int) := of_decide_eq_true (by first | (with_reducible assumption) | assumption)
                                  obtain ⟨ad300, e300, hx300_0⟩ := Kd.at_int (Kd.R_reads' HO_5.out).2.2 x7_2 p300 q300
                                  obtain rfl : ad296 = ad300 := (by injection e300)
                                  replace p300 := eq_true p300
                                  replace q300 := eq_true q300
                                  obtain ⟨Ao41, co41, eo41⟩ := Kd.R_slice HO_6.out
                                  (first | subst eo41 | (injection eo41 with f1_ f2_ f3_; have f4_ := f1_.symm; have f5_ := f3_.symm; clear f1_ f2_ f3_; subst f4_; subst f5_))
                                  have p302 : 0 ≤ (x7_2 : Int) := of_decide_eq_true (by first | (with_reducible assumption) | assumption)
                                  have q302 : x7_2 < (t289.length : Int) := of_decide_eq_true (by first | (with_reducible assumption) | assumption)
                                  obtain ⟨ad302, e302, hx302_0⟩ := Kd.at_int (Kd.R_reads' HO_6.out).2.2 x7_2 p302 q302
                                  cases e302
                                  replace p302 := eq_true p302
                                  replace q302 := eq_true q302
                                  have p304 : 0 ≤ (x7_2 : Int) := of_decide_eq_true (by first | (with_reducible assumption) | assumption)
                                  have q304 : x7_2 < (t289.length : Int) := of_decide_eq_true (by first | (with_reducible assumption) | assumption)
                                  obtain ⟨ad304, e304, hx304_0⟩ := Kd.at_int (Kd.R_reads' HO_6.out).2.2 x7_2 p304 q304
                                  obtain rfl : ad302 = ad304 := (by injection e304)
                                  replace p304 := eq_true p304
                                  replace q304 := eq_true q304
                                  refine start_ (n := 34) (S := fun w' => w'.cell? (ad296.add (x7_2).toNat) = some (.int .i64 (rd t288 x7_2)) ∧ w'.cell? (ad302.add (x7_2).toNat) = some (.int .i64 (rd t289 x7_2)) ∧ w'.cell? (ad302.add (x7_2).toNat) = some (.int .i64 (rd t289 x7_2))) (ds := []) #[false, false, false, false, false, false, false, false, false, false, false, false, false, false, false, false, false, false, false, false, false, false, false, false, false, false, false, false, false, false, false, false, false, false] (by kernel_rfl) rfl rfl ⟨hx300_0, hx302_0, hx304_0⟩ (fun hHeld => ?_); refine with_tabW hyphenlaw4_PartWalk.tab15 hyphenlaw4_PartWalk.bits15 (fun HT_ HW_ => ?_)
                                  generalize w39.drew = w40 at HO_5 HO_6 HB hx300_0 hx302_0 hx304_0 hHeld ⊢
                                  refine pure_ (i := 0) (N := some 71) (v := ?_) (a' := ?_) #[true, false, false, false, false, false, false, false, false, false, false, false, false, false, false, false, false, false, false, false, false, false, false, false, false, false, false, false, false, false, false, false, false, false] rfl rfl (any_of HT_.out (by kernel_rfl)) (fun _ _ _ h => h) (Or.inl ⟨by rfl, ?_⟩) ?_ ?_
                                  rotate_left
                                  · intro w'
                                    go_simp
                                    with_reducible rfl
                                  rotate_left
                                  · simp only [Act.put, List.setIfInBounds_toArray, List.set_cons_zero, List.set_cons_succ, i64_w, i32_w]
                                    rfl
                                  refine pure_ (i := 1) (N := some 72) (v := ?_) (a' := ?_) #[true, true, false, false, false, false, false, false, false, false, false, false, false, false, false, false, false, false, false, false, false, false, false, false, false, false, false, false, false, false, false, false, false, false] rfl rfl (any_of HT_.out (by kernel_rfl)) (fun _ _ _ h => h) (Or.inl ⟨by rfl, ?_⟩) ?_ ?_
                                  rotate_left
                                  · intro w'
                                    go_simp
                                    with_reducible rfl
                                  rotate_left
                                  · simp only [Act.put, List.setIfInBounds_toArray, List.set_cons_zero, List.set_cons_succ, i64_w, i32_w]
                                    rfl
                                  refine pure_ (i := 2) (N := some 73) (v := ?_) (a' := ?_) #[true, true, true, false, false, false, false, false, false, false, false, false, false, false, false, false, false, false, false, false, false, false, false, false, false, false, false, false, false, false, false, false, false, false] rfl rfl (any_of HT_.out (by kernel_rfl)) (fun _ _ _ h => h) (Or.inl ⟨by rfl, ?_⟩) ?_ ?_
                                  rotate_left
                                  · intro w'
                                    go_simp
                                    with_reducible rfl
                                  rotate_left
                                  · simp only [Act.put, List.setIfInBounds_toArray, List.set_cons_zero, List.set_cons_succ, i64_w, i32_w]
                                    rfl
                                  refine pure_ (i := 3) (N := some 74) (v := ?_) (a' := ?_) #[true, true, true, true, false, false, false, false, false, false, false, false, false, false, false, false, false, false, false, false, false, false, false, false, false, false, false, false, false, false, false, false, false, false] rfl rfl (any_of HT_.out (by kernel_rfl)) (fun _ _ _ h => h) (Or.inl ⟨by rfl, ?_⟩) ?_ ?_
                                  rotate_left
                                  · intro w'
                                    go_simp
                                    with_reducible rfl
                                  rotate_left
                                  · simp only [Act.put, List.setIfInBounds_toArray, List.set_cons_zero, List.set_cons_succ, i64_w, i32_w]
                                    rfl
                                  refine pure_ (i := 4) (N := some 75) (v := ?_) (a' := ?_) #[true, true, true, true, true, false, false, false, false, false, false, false, false, false, false, false, false, false, false, false, false, false, false, false, false, false, false, false, false, false, false, false, false, false] rfl rfl (any_of HT_.out (by kernel_rfl)) (fun _ _ _ h => h) (Or.inl ⟨by rfl, ?_⟩) ?_ ?_
                                  rotate_left
                                  · intro w'
                                    go_simp
                                    with_reducible rfl
                                  rotate_left
                                  · simp only [Act.put, List.setIfInBounds_toArray, List.set_cons_zero, List.set_cons_succ, i64_w, i32_w]
                                    rfl
                                  refine pure_ (i := 7) (N := some 78) (v := ?_) (a' := ?_) #[true, true, true, true, true, false, false, true, false, false, false, false, false, false, false, false, false, false, false, false, false, false, false, false, false, false, false, false, false, false, false, false, false, false] rfl rfl (any_of HT_.out (by kernel_rfl)) (fun _ _ _ h => h) (Or.inl ⟨by rfl, ?_⟩) ?_ ?_
                                  rotate_left
                                  · intro w'
                                    go_simp
                                    with_reducible rfl
                                  rotate_left
                                  · simp only [Act.put, List.setIfInBounds_toArray, List.set_cons_zero, List.set_cons_succ, i64_w, i32_w]
                                    rfl
                                  refine pure_ (i := 8) (N := some 79) (v := ?_) (a' := ?_) #[true, true, true, true, true, false, false, true, true, false, false, false, false, false, false, false, false, false, false, false, false, false, false, false, false, false, false, false, false, false, false, false, false, false] rfl rfl (any_of HT_.out (by kernel_rfl)) (fun _ _ _ h => h) (Or.inl ⟨by rfl, ?_⟩) ?_ ?_
                                  rotate_left
                                  · intro w'
                                    go_simp
                                    with_reducible rfl
                                  rotate_left
                                  · simp only [Act.put, List.setIfInBounds_toArray, List.set_cons_zero, List.set_cons_succ, i64_w, i32_w]
                                    rfl
                                  refine pure_ (i := 9) (N := some 80) (v := ?_) (a' := ?_) #[true, true, true, true, true, false, false, true, true, true, false, false, false, false, false, false, false, false, false, false, false, false, false, false, false, false, false, false, false, false, false, false, false, false] rfl rfl (any_of HT_.out (by kernel_rfl)) (fun _ _ _ h => h) (Or.inl ⟨by rfl, ?_⟩) ?_ ?_
                                  rotate_left
                                  · intro w'
                                    go_simp
                                    with_reducible rfl
                                  rotate_left
                                  · simp only [Act.put, List.setIfInBounds_toArray, List.set_cons_zero, List.set_cons_succ, i64_w, i32_w]
                                    rfl
                                  refine take_ (i := 5) (N := some 76) (v := ?_) (a' := ?_) #[true, true, true, true, true, true, false, true, true, true, false, false, false, false, false, false, false, false, false, false, false, false, false, false, false, false, false, false, false, false, false, false, false, false] rfl rfl (take_ofW HT_.out HW_.out (by kernel_rfl)) (fun _ _ _ h => h) (Or.inl ⟨by rfl, ?_⟩) hHeld ?_ ?_
                                  rotate_left
                                  · rintro w' ⟨s0, s1, s2⟩
                                    go_simp
                                    with_reducible rfl
                                  rotate_left
                                  · simp only [Act.put, List.setIfInBounds_toArray, List.set_cons_zero, List.set_cons_succ, i64_w, i32_w]
                                    rfl
                                  refine take_ (i := 10) (N := some 81) (v := ?_) (a' := ?_) #[true, true, true, true, true, true, false, true, true, true, true, false, false, false, false, false, false, false, false, false, false, false, false, false, false, false, false, false, false, false, false, false, false, false] rfl rfl (take_ofW HT_.out HW_.out (by kernel_rfl)) (fun _ _ _ h => h) (Or.inl ⟨by rfl, ?_⟩) hHeld ?_ ?_
                                  rotate_left
                                  · rintro w' ⟨s0, s1, s2⟩
                                    go_simp
                                    with_reducible rfl
                                  rotate_left
                                  · simp only [Act.put, List.setIfInBounds_toArray, List.set_cons_zero, List.set_cons_succ, i64_w, i32_w]
                                    rfl
                                  refine one_ (i := 6) (N := some 77) #[true, true, true, true, true, true, true, true, true, true, true, false, false, false, false, false, false, false, false, false, false, false, false, false, false, false, false, false, false, false, false, false, false, false] rfl rfl (one_of HT_.out (by kernel_rfl)) (by decide) (fun K hK => ?_)
                                  refine goes_ Try.func21 (by kernel_rfl) rfl #[.slice (some ad296) t288.length co23, .slice (some ad302) t289.length co41, .int .i64 (rd t288 x7_2)] (by rfl) rfl rfl (by (try simp only [List.map_toArray, List.map_cons, List.map_nil]); first | done | rfl | (simp only [List.length_drop, List.length_take]; rfl)) ?_
                                  with_reducible refine (part_Letter.calls _ _ t288 _ _ t289 (rd t288 x7_2) t301 _ ?side1 ?side2 ?side3 ?side4 A31.out).mono ?_
                                  (case side1 => repeat (first | exact (Kd.R_reads' HO_5.out).2.2 | (with_reducible refine Kd.C_alloc ?_ _) | (with_reducible refine Kd.C_drewN ?_ _) | (with_reducible refine Kd.C_drew ?_)))
                                  (case side2 => exact (Kd.R_reads' HO_5.out).2.1)
                                  (case side3 => repeat (first | exact (Kd.R_reads' HO_6.out).2.2 | (with_reducible refine Kd.C_alloc ?_ _) | (with_reducible refine Kd.C_drewN ?_ _) | (with_reducible refine Kd.C_drew ?_)))
                                  (case side4 => exact (Kd.R_reads' HO_6.out).2.1)
                                  rintro e w' ⟨rfl, ⟨nd, rfl⟩⟩
                                  refine ⟨_, rfl, ?_⟩
                                  refine hK.out _ _ ⟨hHeld.1, hHeld.2.1, hHeld.2.2⟩ (fun hHeld => ?_)
                                  clear hK K
                                  refine norm_ (a' := ?_) ?_ ?_
                                  rotate_left
                                  · show Act.put _ (some 77) _ = _
                                    simp only [Act.put, List.setIfInBounds_toArray, List.set_cons_zero, List.set_cons_succ, i64_w, i32_w]
                                    rfl
                                  refine pure_ (i := 11) (N := some 82) (v := ?_) (a' := ?_) #[true, true, true, true, true, true, true, true, true, true, true, true, false, false, false, false, false, false, false, false, false, false, false, false, false, false, false, false, false, false, false, false, false, false] rfl rfl (any_of HT_.out (by kernel_rfl)) (fun _ _ _ h => h) (Or.inl ⟨by rfl, ?_⟩) ?_ ?_
                                  rotate_left
                                  · intro w'
                                    go_simp
                                    with_reducible rfl
                                  rotate_left
                                  · simp only [Act.put, List.setIfInBounds_toArray, List.set_cons_zero, List.set_cons_succ, i64_w, i32_w]
                                    rfl
                                  refine pure_ (i := 12) (N := some 83) (v := ?_) (a' := ?_) #[true, true, true, true, true, true, true, true, true, true, true, true, true, false, false, false, false, false, false, false, false, false, false, false, false, false, false, false, false, false, false, false, false, false] rfl rfl (any_of HT_.out (by kernel_rfl)) (fun _ _ _ h => h) (Or.inl ⟨by rfl, ?_⟩) ?_ ?_
                                  rotate_left
                                  · intro w'
                                    go_simp
                                    with_reducible rfl
                                  rotate_left
                                  · simp only [Act.put, List.setIfInBounds_toArray, List.set_cons_zero, List.set_cons_succ, i64_w, i32_w]
                                    rfl
                                  refine pure_ (i := 13) (N := some 84) (v := ?_) (a' := ?_) #[true, true, true, true, true, true, true, true, true, true, true, true, true, true, false, false, false, false, false, false, false, false, false, false, false, false, false, false, false, false, false, false, false, false] rfl rfl (any_of HT_.out (by kernel_rfl)) (fun _ _ _ h => h) (Or.inl ⟨by rfl, ?_⟩) ?_ ?_
                                  rotate_left
                                  · intro w'
                                    go_simp
                                    with_reducible rfl
                                  rotate_left
                                  · simp only [Act.put, List.setIfInBounds_toArray, List.set_cons_zero, List.set_cons_succ, i64_w, i32_w]
                                    rfl
                                  refine pure_ (i := 14) (N := some 85) (v := ?_) (a' := ?_) #[true, true, true, true, true, true, true, true, true, true, true, true, true, true, true, false, false, false, false, false, false, false, false, false, false, false, false, false, false, false, false, false, false, false] rfl rfl (any_of HT_.out (by kernel_rfl)) (fun _ _ _ h => h) (Or.inl ⟨by rfl, ?_⟩) ?_ ?_
                                  rotate_left
                                  · intro w'
                                    go_simp
                                    with_reducible rfl
                                  rotate_left
                                  · simp only [Act.put, List.setIfInBounds_toArray, List.set_cons_zero, List.set_cons_succ, i64_w, i32_w]
                                    rfl
                                  refine pure_ (i := 15) (N := some 86) (v := ?_) (a' := ?_) #[true, true, true, true, true, true, true, true, true, true, true, true, true, true, true, true, false, false, false, false, false, false, false, false, false, false, false, false, false, false, false, false, false, false] rfl rfl (any_of HT_.out (by kernel_rfl)) (fun _ _ _ h => h) (Or.inl ⟨by rfl, ?_⟩) ?_ ?_
                                  rotate_left
                                  · intro w'
                                    go_simp
                                    with_reducible rfl
                                  rotate_left
                                  · simp only [Act.put, List.setIfInBounds_toArray, List.set_cons_zero, List.set_cons_succ, i64_w, i32_w]
                                    rfl
                                  refine pure_ (i := 17) (N := some 88) (v := ?_) (a' := ?_) #[true, true, true, true, true, true, true, true, true, true, true, true, true, true, true, true, false, true, false, false, false, false, false, false, false, false, false, false, false, false, false, false, false, false] rfl rfl (any_of HT_.out (by kernel_rfl)) (fun _ _ _ h => h) (Or.inl ⟨by rfl, ?_⟩) ?_ ?_
                                  rotate_left
                                  · intro w'
                                    go_simp
                                    with_reducible rfl
                                  rotate_left
                                  · simp only [Act.put, List.setIfInBounds_toArray, List.set_cons_zero, List.set_cons_succ, i64_w, i32_w]
                                    rfl
                                  refine pure_ (i := 18) (N := some 89) (v := ?_) (a' := ?_) #[true, true, true, true, true, true, true, true, true, true, true, true, true, true, true, true, false, true, true, false, false, false, false, false, false, false, false, false, false, false, false, false, false, false] rfl rfl (any_of HT_.out (by kernel_rfl)) (fun _ _ _ h => h) (Or.inl ⟨by rfl, ?_⟩) ?_ ?_
                                  rotate_left
                                  · intro w'
                                    go_simp
                                    with_reducible rfl
                                  rotate_left
                                  · simp only [Act.put, List.setIfInBounds_toArray, List.set_cons_zero, List.set_cons_succ, i64_w, i32_w]
                                    rfl
                                  refine pure_ (i := 19) (N := some 90) (v := ?_) (a' := ?_) #[true, true, true, true, true, true, true, true, true, true, true, true, true, true, true, true, false, true, true, true, false, false, false, false, false, false, false, false, false, false, false, false, false, false] rfl rfl (any_of HT_.out (by kernel_rfl)) (fun _ _ _ h => h) (Or.inl ⟨by rfl, ?_⟩) ?_ ?_
                                  rotate_left
                                  · intro w'
                                    go_simp
                                    with_reducible rfl
                                  rotate_left
                                  · simp only [Act.put, List.setIfInBounds_toArray, List.set_cons_zero, List.set_cons_succ, i64_w, i32_w]
                                    rfl
                                  refine take_ (i := 20) (N := some 91) (v := ?_) (a' := ?_) #[true, true, true, true, true, true, true, true, true, true, true, true, true, true, true, true, false, true, true, true, true, false, false, false, false, false, false, false, false, false, false, false, false, false] rfl rfl (take_ofW HT_.out HW_.out (by kernel_rfl)) (fun _ _ _ h => h) (Or.inl ⟨by rfl, ?_⟩) hHeld ?_ ?_
                                  rotate_left
                                  · rintro w' ⟨s0, s1, s2⟩
                                    go_simp
                                    with_reducible rfl
                                  rotate_left
                                  · simp only [Act.put, List.setIfInBounds_toArray, List.set_cons_zero, List.set_cons_succ, i64_w, i32_w]
                                    rfl
                                  refine one_ (i := 16) (N := some 87) #[true, true, true, true, true, true, true, true, true, true, true, true, true, true, true, true, true, true, true, true, true, false, false, false, false, false, false, false, false, false, false, false, false, false] rfl rfl (one_of HT_.out (by kernel_rfl)) (by decide) (fun K hK => ?_)
                                  refine goes_ Try.func21 (by kernel_rfl) rfl #[.slice (some ad296) t288.length co23, .slice (some ad302) t289.length co41, .int .i64 x8_21] (by rfl) rfl rfl (by (try simp only [List.map_toArray, List.map_cons, List.map_nil]); first | done | rfl | (simp only [List.length_drop, List.length_take]; rfl)) ?_
                                  with_reducible refine (part_Letter.calls _ _ t288 _ _ t289 x8_21 t303 _ ?side1 ?side2 ?side3 ?side4 A34.out).mono ?_
                                  (case side1 => repeat (first | exact (Kd.R_reads' HO_5.out).2.2 | (with_reducible refine Kd.C_alloc ?_ _) | (with_reducible refine Kd.C_drewN ?_ _) | (with_reducible refine Kd.C_drew ?_)))
                                  (case side2 => exact (Kd.R_reads' HO_5.out).2.1)
                                  (case side3 => repeat (first | exact (Kd.R_reads' HO_6.out).2.2 | (with_reducible refine Kd.C_alloc ?_ _) | (with_reducible refine Kd.C_drewN ?_ _) | (with_reducible refine Kd.C_drew ?_)))
                                  (case side4 => exact (Kd.R_reads' HO_6.out).2.1)
                                  rintro e w' ⟨rfl, ⟨nd, rfl⟩⟩
                                  refine ⟨_, rfl, ?_⟩
                                  refine hK.out _ _ ⟨hHeld.1, hHeld.2.1, hHeld.2.2⟩ (fun hHeld => ?_)
                                  clear hK K
                                  refine norm_ (a' := ?_) ?_ ?_
                                  rotate_left
                                  · show Act.put _ (some 87) _ = _
                                    simp only [Act.put, List.setIfInBounds_toArray, List.set_cons_zero, List.set_cons_succ, i64_w, i32_w]
                                    rfl
                                  refine pure_ (i := 21) (N := some 92) (v := ?_) (a' := ?_) #[true, true, true, true, true, true, true, true, true, true, true, true, true, true, true, true, true, true, true, true, true, true, false, false, false, false, false, false, false, false, false, false, false, false] rfl rfl (any_of HT_.out (by kernel_rfl)) (fun _ _ _ h => h) (Or.inl ⟨by rfl, ?_⟩) ?_ ?_
                                  rotate_left
                                  · intro w'
                                    go_simp
                                    with_reducible rfl
                                  rotate_left
                                  · simp only [Act.put, List.setIfInBounds_toArray, List.set_cons_zero, List.set_cons_succ, i64_w, i32_w]
                                    rfl
                                  refine pure_ (i := 22) (N := some 93) (v := ?_) (a' := ?_) #[true, true, true, true, true, true, true, true, true, true, true, true, true, true, true, true, true, true, true, true, true, true, true, false, false, false, false, false, false, false, false, false, false, false] rfl rfl (any_of HT_.out (by kernel_rfl)) (fun _ _ _ h => h) (Or.inl ⟨by rfl, ?_⟩) ?_ ?_
                                  rotate_left
                                  · intro w'
                                    go_simp
                                    with_reducible rfl
                                  rotate_left
                                  · simp only [Act.put, List.setIfInBounds_toArray, List.set_cons_zero, List.set_cons_succ, i64_w, i32_w]
                                    rfl
                                  refine pure_ (i := 23) (N := some 94) (v := ?_) (a' := ?_) #[true, true, true, true, true, true, true, true, true, true, true, true, true, true, true, true, true, true, true, true, true, true, true, true, false, false, false, false, false, false, false, false, false, false] rfl rfl (any_of HT_.out (by kernel_rfl)) (fun _ _ _ h => h) (Or.inl ⟨by rfl, ?_⟩) ?_ ?_
                                  rotate_left
                                  · intro w'
                                    go_simp
                                    with_reducible rfl
                                  rotate_left
                                  · simp only [Act.put, List.setIfInBounds_toArray, List.set_cons_zero, List.set_cons_succ, i64_w, i32_w]
                                    rfl
                                  refine pure_ (i := 24) (N := some 95) (v := ?_) (a' := ?_) #[true, true, true, true, true, true, true, true, true, true, true, true, true, true, true, true, true, true, true, true, true, true, true, true, true, false, false, false, false, false, false, false, false, false] rfl rfl (any_of HT_.out (by kernel_rfl)) (fun _ _ _ h => h) (Or.inl ⟨by rfl, ?_⟩) ?_ ?_
                                  rotate_left
                                  · intro w'
                                    go_simp
                                    with_reducible rfl
                                  rotate_left
                                  · simp only [Act.put, List.setIfInBounds_toArray, List.set_cons_zero, List.set_cons_succ, i64_w, i32_w]
                                    rfl
                                  refine pure_ (i := 25) (N := some 96) (v := ?_) (a' := ?_) #[true, true, true, true, true, true, true, true, true, true, true, true, true, true, true, true, true, true, true, true, true, true, true, true, true, true, false, false, false, false, false, false, false, false] rfl rfl (any_of HT_.out (by kernel_rfl)) (fun _ _ _ h => h) (Or.inl ⟨by rfl, ?_⟩) ?_ ?_
                                  rotate_left
                                  · intro w'
                                    go_simp
                                    with_reducible rfl
                                  rotate_left
                                  · simp only [Act.put, List.setIfInBounds_toArray, List.set_cons_zero, List.set_cons_succ, i64_w, i32_w]
                                    rfl
                                  refine pure_ (i := 26) (N := some 97) (v := ?_) (a' := ?_) #[true, true, true, true, true, true, true, true, true, true, true, true, true, true, true, true, true, true, true, true, true, true, true, true, true, true, true, false, false, false, false, false, false, false] rfl rfl (any_of HT_.out (by kernel_rfl)) (fun _ _ _ h => h) (Or.inl ⟨by rfl, ?_⟩) ?_ ?_
                                  rotate_left
                                  · intro w'
                                    go_simp
                                    with_reducible rfl
                                  rotate_left
                                  · simp only [Act.put, List.setIfInBounds_toArray, List.set_cons_zero, List.set_cons_succ, i64_w, i32_w]
                                    rfl
                                  refine pure_ (i := 28) (N := some 99) (v := ?_) (a' := ?_) #[true, true, true, true, true, true, true, true, true, true, true, true, true, true, true, true, true, true, true, true, true, true, true, true, true, true, true, false, true, false, false, false, false, false] rfl rfl (any_of HT_.out (by kernel_rfl)) (fun _ _ _ h => h) (Or.inl ⟨by rfl, ?_⟩) ?_ ?_
                                  rotate_left
                                  · intro w'
                                    go_simp
                                    with_reducible rfl
                                  rotate_left
                                  · simp only [Act.put, List.setIfInBounds_toArray, List.set_cons_zero, List.set_cons_succ, i64_w, i32_w]
                                    rfl
                                  refine pure_ (i := 29) (N := some 100) (v := ?_) (a' := ?_) #[true, true, true, true, true, true, true, true, true, true, true, true, true, true, true, true, true, true, true, true, true, true, true, true, true, true, true, false, true, true, false, false, false, false] rfl rfl (any_of HT_.out (by kernel_rfl)) (fun _ _ _ h => h) (Or.inl ⟨by rfl, ?_⟩) ?_ ?_
                                  rotate_left
                                  · intro w'
                                    go_simp
                                    with_reducible rfl
                                  rotate_left
                                  · simp only [Act.put, List.setIfInBounds_toArray, List.set_cons_zero, List.set_cons_succ, i64_w, i32_w]
                                    rfl
                                  refine pure_ (i := 30) (N := some 101) (v := ?_) (a' := ?_) #[true, true, true, true, true, true, true, true, true, true, true, true, true, true, true, true, true, true, true, true, true, true, true, true, true, true, true, false, true, true, true, false, false, false] rfl rfl (any_of HT_.out (by kernel_rfl)) (fun _ _ _ h => h) (Or.inl ⟨by rfl, ?_⟩) ?_ ?_
                                  rotate_left
                                  · intro w'
                                    go_simp
                                    with_reducible rfl
                                  rotate_left
                                  · simp only [Act.put, List.setIfInBounds_toArray, List.set_cons_zero, List.set_cons_succ, i64_w, i32_w]
                                    rfl
                                  refine one_ (i := 27) (N := some 98) #[true, true, true, true, true, true, true, true, true, true, true, true, true, true, true, true, true, true, true, true, true, true, true, true, true, true, true, true, true, true, true, false, false, false] rfl rfl (one_of HT_.out (by kernel_rfl)) (by decide) (fun K hK => ?_)
                                  refine goes_ Try.func21 (by kernel_rfl) rfl #[.slice (some ad296) t288.length co23, .slice (some ad302) t289.length co41, .int .i64 (wrap64 ((rd t288 x7_2) + t299))] (by rfl) rfl rfl (by (try simp only [List.map_toArray, List.map_cons, List.map_nil]); first | done | rfl | (simp only [List.length_drop, List.length_take]; rfl)) ?_
                                  with_reducible refine (part_Letter.calls _ _ t288 _ _ t289 (wrap64 ((rd t288 x7_2) + t299)) t305 _ ?side1 ?side2 ?side3 ?side4 A36.out).mono ?_
                                  (case side1 => repeat (first | exact (Kd.R_reads' HO_5.out).2.2 | (with_reducible refine Kd.C_alloc ?_ _) | (with_reducible refine Kd.C_drewN ?_ _) | (with_reducible refine Kd.C_drew ?_)))
                                  (case side2 => exact (Kd.R_reads' HO_5.out).2.1)
                                  (case side3 => repeat (first | exact (Kd.R_reads' HO_6.out).2.2 | (with_reducible refine Kd.C_alloc ?_ _) | (with_reducible refine Kd.C_drewN ?_ _) | (with_reducible refine Kd.C_drew ?_)))
                                  (case side4 => exact (Kd.R_reads' HO_6.out).2.1)
                                  rintro e w' ⟨rfl, ⟨nd, rfl⟩⟩
                                  refine ⟨_, rfl, ?_⟩
                                  refine hK.out _ _ ⟨hHeld.1, hHeld.2.1, hHeld.2.2⟩ (fun hHeld => ?_)
                                  clear hK K
                                  refine norm_ (a' := ?_) ?_ ?_
                                  rotate_left
                                  · show Act.put _ (some 98) _ = _
                                    simp only [Act.put, List.setIfInBounds_toArray, List.set_cons_zero, List.set_cons_succ, i64_w, i32_w]
                                    rfl
                                  refine one_ (i := 31) (N := some 102) #[true, true, true, true, true, true, true, true, true, true, true, true, true, true, true, true, true, true, true, true, true, true, true, true, true, true, true, true, true, true, true, true, false, false] rfl rfl (one_of HT_.out (by kernel_rfl)) (by decide) (fun K hK => ?_)
                                  refine goes_ Try.func22 (by kernel_rfl) rfl #[.slice (some ad296) t288.length co23, .slice (some ad302) t289.length co41, .int .i64 (wrap64 ((rd t288 x7_2) + t299))] (by rfl) rfl rfl (by (try simp only [List.map_toArray, List.map_cons, List.map_nil]); first | done | rfl | (simp only [List.length_drop, List.length_take]; rfl)) ?_
                                  with_reducible refine (hyphenref4_Letter.calls kj21 _ _ t288 _ _ t289 (wrap64 ((rd t288 x7_2) + t299)) t306 _ ?side1 ?side2 ?side3 ?side4 A37.out).mono ?_
                                  (case side1 => repeat (first | exact (Kd.R_reads' HO_5.out).2.2 | (with_reducible refine Kd.C_alloc ?_ _) | (with_reducible refine Kd.C_drewN ?_ _) | (with_reducible refine Kd.C_drew ?_)))
                                  (case side2 => exact (Kd.R_reads' HO_5.out).2.1)
                                  (case side3 => repeat (first | exact (Kd.R_reads' HO_6.out).2.2 | (with_reducible refine Kd.C_alloc ?_ _) | (with_reducible refine Kd.C_drewN ?_ _) | (with_reducible refine Kd.C_drew ?_)))
                                  (case side4 => exact (Kd.R_reads' HO_6.out).2.1)
                                  rintro e w' ⟨rfl, ⟨nd, rfl⟩⟩
                                  refine ⟨_, rfl, ?_⟩
                                  refine hK.out _ _ ⟨hHeld.1, hHeld.2.1, hHeld.2.2⟩ (fun hHeld => ?_)
                                  clear hK K
                                  refine norm_ (a' := ?_) ?_ ?_
                                  rotate_left
                                  · show Act.put _ (some 102) _ = _
                                    simp only [Act.put, List.setIfInBounds_toArray, List.set_cons_zero, List.set_cons_succ, i64_w, i32_w]
                                    rfl
                                  refine pure_ (i := 32) (N := some 103) (v := ?_) (a' := ?_) #[true, true, true, true, true, true, true, true, true, true, true, true, true, true, true, true, true, true, true, true, true, true, true, true, true, true, true, true, true, true, true, true, true, false] rfl rfl (any_of HT_.out (by kernel_rfl)) (fun _ _ _ h => h) (Or.inl ⟨by rfl, ?_⟩) ?_ ?_
                                  rotate_left
                                  · intro w'
                                    go_simp
                                    with_reducible rfl
                                  rotate_left
                                  · simp only [Act.put, List.setIfInBounds_toArray, List.set_cons_zero, List.set_cons_succ, i64_w, i32_w]
                                    rfl
                                  refine pure_ (i := 33) (N := some 104) (v := ?_) (a' := ?_) #[true, true, true, true, true, true, true, true, true, true, true, true, true, true, true, true, true, true, true, true, true, true, true, true, true, true, true, true, true, true, true, true, true, true] rfl rfl (any_of HT_.out (by kernel_rfl)) (fun _ _ _ h => h) (Or.inl ⟨by rfl, ?_⟩) ?_ ?_
                                  rotate_left
                                  · intro w'
                                    go_simp
                                    with_reducible rfl
                                  rotate_left
                                  · simp only [Act.put, List.setIfInBounds_toArray, List.set_cons_zero, List.set_cons_succ, i64_w, i32_w]
                                    rfl
                                  refine done_ (done_of HT_.out (by kernel_rfl)) ?_
                                  try go_wp2
                                  go_roundg kj21
                                  case measure => have := HJ6.out; have := HK2.out; have := HJ21.out; omega
                                  case rel => exact ⟨(wrap64 (x7_2 + 1)), (by first | rfl | (simp; done) | (simp [*]; done)), H', ⟨by have := HJ6.out; have := HK2.out; have := HJ21.out; omega⟩, ⟨by (with_reducible repeat (first | apply Kd.R_alloc | apply Kd.R_drewN | apply Kd.R_drew)); exact HO_5.out⟩, ⟨by (with_reducible repeat (first | apply Kd.R_alloc | apply Kd.R_drewN | apply Kd.R_drew)); exact HO_6.out⟩, ⟨by repeat (first | (with_reducible first | exact HB.out | apply below_alloc | apply pw_below_drewN | apply below_drew1) | exact HB.out)⟩⟩
                                · rw [if_neg c38] at H
                                  exact absurd H (by simp)
                              · rw [if_neg c35] at H
                                have c35b0 : (t303 == (rd t289 x7_2)) = false := beq_eq_false_iff_ne.mpr c35
                                have c35b1 : (t303 != (rd t289 x7_2)) = true := bne_iff_ne.mpr c35
                                exact absurd H (by simp)
                            · rw [if_neg c33] at H
                              have c33b0 : (t301 == (rd t289 x7_2)) = false := beq_eq_false_iff_ne.mpr c33
                              have c33b1 : (t301 != (rd t289 x7_2)) = true := bne_iff_ne.mpr c33
                              exact absurd H (by simp)
                          · rw [if_neg c32] at H
                            exact absurd H (by simp)
                      · rw [if_neg c28] at H
                        exact absurd H (by simp)
                    · rw [if_neg c27] at H
                      exact absurd H (by simp)
              · rw [if_neg c21] at H
                have c21b0 : decide (x7_2 < (t288.length : Int)) = false := decide_eq_false c21
                clear c21
                obtain rfl := Option.some.inj H
                obtain ⟨Ao42, co42, eo42⟩ := Kd.R_slice HO_5.out
                subst eo42
                go_wp2
                go_ret
                exact ⟨by first | rfl | (simp [errW_none, errW_some] <;> rfl) | (simp [*, errW_none, errW_some] <;> rfl), by repeat (first | (with_reducible first | exact HB.out | apply below_alloc | apply pw_below_drewN | apply below_drew1) | exact HB.out)⟩
  · replace c4 := Bool.eq_false_iff.mpr c4
    subst c4
    have H1 : (none) = some r := by rw [if_neg (show ¬ (false = true) by decide)] at H; exact H
    clear H
    have H := H1
    clear H1
    exact absurd H (by simp)

/-- THE ONE PURE STATEMENT of hyphenlaw4_PartWalk: yours. -/
def hyphenlaw4_PartWalk.Pure : Prop := ∀ (l0 : List Int) (a1 : Int), l0.length ≤ maxLen → l0.length * 8 ≤ 140737488351232 → (∀ x ∈ l0, (Lit.int .i64 x).wf = true) → (Lit.int .i64 a1).wf = true → ∃ k, hyphenlaw4_PartWalk.f k l0 a1 = some true
theorem hyphenlaw4_PartWalk.walk (P : hyphenlaw4_PartWalk.Pure) (a0 : Option Addr) (len0 cap0 : Nat) (z0 : List Int) (a1 : Int) (w : World) (w0 : (a0 = none ∧ len0 = 0 ∧ cap0 = 0 ∧ z0 = []) ∨ ∃ x, a0 = some x ∧ len0 ≤ cap0 ∧ cap0 ≤ maxLen ∧ z0.length = cap0 ∧ (∀ i, i < z0.length → w.cell? (x.add i) = some (.int .i64 (z0.getD i 0))) ∧ ∀ n ∈ z0, (Lit.int .i64 n).wf = true) (y0 : len0 * 8 ≤ 140737488351232) (w1 : (Lit.int .i64 a1).wf = true) :
    Calls Try.prog 10 #[.slice a0 len0 cap0, .int .i64 a1] w fun e w' => e = .returned (.bool true) ∧ Below w.heap.size w w' := by
  obtain ⟨l0, rfl, hr0, hm0, hw0, hc0⟩ := ReadsInt.ofRowC w0
  obtain ⟨k, h⟩ := P l0 a1 hm0 y0 hw0 w1
  refine (hyphenlaw4_PartWalk.calls k _ _ l0 a1 true w (Kd.C_of_reads (d := (0 : Int)) (h1 := fun _ => rfl) hr0) hc0 h).mono ?_
  rintro e w' ⟨rfl, hd⟩
  exact ⟨rfl, hd⟩

end Go.Proofs.Yteogcjckhoakbaa.P
