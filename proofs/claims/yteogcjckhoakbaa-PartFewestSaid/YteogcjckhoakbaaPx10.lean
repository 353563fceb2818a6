-- Written by wip/xprint.py (a program of this repo) out of the translation; Lean checks it.
import Derived.Test.YteogcjckhoakbaaPx0
import Derived.Test.YteogcjckhoakbaaPx2
import Derived.Test.YteogcjckhoakbaaPx3
import Derived.Test.YteogcjckhoakbaaPx6
namespace Go.Proofs.Yteogcjckhoakbaa.P
open Go.RowKit Go.Proofs.YteogcjckhoakbaaW.PrintWords Go.Proofs.YteogcjckhoakbaaW.PrintLast Go.Proofs.YteogcjckhoakbaaW.PrintMore
attribute [local go_sem] max2_int min2_int max_two min_two max_three min_three max_four min_four   -- for this text's walks alone
attribute [local go_sem ↓ high] Go.Proofs.YteogcjckhoakbaaX.isSome_setCell
set_option linter.unusedVariables false
set_option linter.unusedSimpArgs false

/-! ### hyphenlaw4_PartFewest: function 6 -/
mutual
def hyphenlaw4_PartFewest.l0 : Nat → List Int → List Int → List (List Bool) → Int → Int → Option (Bool)
  | 0, _, _, _, _, _ => none
  | k + 1, x4, x5, x6, x7, x8 => if x8 < x7 then (hyphenlaw4_PartFewest.l1 k x4 x5 x6 x7 x8 0) else (hyphenlaw4_PartFewest.l3 k x4 x5 x7 0 0)
def hyphenlaw4_PartFewest.l1 : Nat → List Int → List Int → List (List Bool) → Int → Int → Int → Option (Bool)
  | 0, _, _, _, _, _, _ => none
  | k + 1, x4, x5, x6, x7, x8, x9 => if x9 < x8 then (hyphenlaw4_PartFewest.l2 k x4 x5 x6 x7 x8 x9 true 0) else (hyphenlaw4_PartFewest.l0 k x4 x5 x6 x7 (wrap64 (x8 + 1)))
def hyphenlaw4_PartFewest.l2 : Nat → List Int → List Int → List (List Bool) → Int → Int → Int → Bool → Int → Option (Bool)
  | 0, _, _, _, _, _, _, _, _ => none
  | k + 1, x4, x5, x6, x7, x8, x9, x10, x11 => if x11 < (x6.length : Int) then (if 0 ≤ x11 then (if ((rd_L7 x6 x11).length : Int) = x7 then (if x10 = true then (if 0 ≤ x8 then (if x8 < ((rd_L7 x6 x11).length : Int) then (if 0 ≤ x9 then (if x9 < ((rd_L7 x6 x11).length : Int) then (hyphenlaw4_PartFewest.l2 k x4 x5 x6 x7 x8 x9 ((rdOf false (rd_L7 x6 x11) x8) == (rdOf false (rd_L7 x6 x11) x9)) (wrap64 (x11 + 1))) else (none)) else (none)) else (none)) else (none)) else (hyphenlaw4_PartFewest.l2 k x4 x5 x6 x7 x8 x9 false (wrap64 (x11 + 1)))) else (none)) else (none)) else (if x10 = true then (none) else (hyphenlaw4_PartFewest.l1 k x4 x5 x6 x7 x8 (wrap64 (x9 + 1))))
def hyphenlaw4_PartFewest.l3 : Nat → List Int → List Int → Int → Int → Int → Option (Bool)
  | 0, _, _, _, _, _ => none
  | k + 1, x4, x5, x7, x12, x13 => if x13 < (x5.length : Int) then (if 0 ≤ x13 then (if (rd x5 x13) > x12 then (hyphenlaw4_PartFewest.j4 k x4 x5 x7 x12 x13 true) else (if (rd x5 x13) < 0 then (hyphenlaw4_PartFewest.j4 k x4 x5 x7 x12 x13 true) else (if x13 > 0 then (if x13 < (x4.length : Int) then (if 0 ≤ (wrap64 (x13 - 1)) then (if (wrap64 (x13 - 1)) < (x4.length : Int) then (if (rd x4 x13) ≤ (rd x4 (wrap64 (x13 - 1))) then (hyphenlaw4_PartFewest.j4 k x4 x5 x7 x12 x13 true) else (if (wrap64 (x13 - 1)) < (x5.length : Int) then (hyphenlaw4_PartFewest.j4 k x4 x5 x7 x12 x13 ((rd x5 x13) == (rd x5 (wrap64 (x13 - 1))))) else (none))) else (none)) else (none)) else (none)) else (hyphenlaw4_PartFewest.j4 k x4 x5 x7 x12 x13 false)))) else (none)) else (if x12 = x7 then (some ((x4.length : Int) == (x5.length : Int))) else (none))
def hyphenlaw4_PartFewest.j4 : Nat → List Int → List Int → Int → Int → Int → Bool → Option (Bool)
  | 0, _, _, _, _, _, _ => none
  | k + 1, x4, x5, x7, x12, x13, x117 => if x117 = true then (none) else (if 0 ≤ x13 then (if x13 < (x5.length : Int) then (if (rd x5 x13) = x12 then (hyphenlaw4_PartFewest.l3 k x4 x5 x7 (wrap64 (x12 + 1)) (wrap64 (x13 + 1))) else (hyphenlaw4_PartFewest.l3 k x4 x5 x7 x12 (wrap64 (x13 + 1)))) else (none)) else (none))
end
def hyphenlaw4_PartFewest.f (k : Nat) (l0 : List Int) : Option (Bool) := (hyphenlaw4_known.f k).bind fun t389 => (if t389 = true then ((hyphenlaw4_Sets.f k l0 12).bind fun t390 => ((part_Cuts.f k t390).bind fun bt393 => ((part_In.f k t390 bt393.1 bt393.2).bind fun t399 => ((part_Count.f k bt393.2).bind fun t402 => (hyphenlaw4_PartFewest.l0 k bt393.1 bt393.2 t399 t402 0))))) else (none))
theorem hyphenlaw4_PartFewest.mono_l : ∀ k, (∀ y0 y1 y2 y3 y4, LeO (hyphenlaw4_PartFewest.l0 k y0 y1 y2 y3 y4) (hyphenlaw4_PartFewest.l0 (k + 1) y0 y1 y2 y3 y4)) ∧ (∀ y0 y1 y2 y3 y4 y5, LeO (hyphenlaw4_PartFewest.l1 k y0 y1 y2 y3 y4 y5) (hyphenlaw4_PartFewest.l1 (k + 1) y0 y1 y2 y3 y4 y5)) ∧ (∀ y0 y1 y2 y3 y4 y5 y6 y7, LeO (hyphenlaw4_PartFewest.l2 k y0 y1 y2 y3 y4 y5 y6 y7) (hyphenlaw4_PartFewest.l2 (k + 1) y0 y1 y2 y3 y4 y5 y6 y7)) ∧ (∀ y0 y1 y2 y3 y4, LeO (hyphenlaw4_PartFewest.l3 k y0 y1 y2 y3 y4) (hyphenlaw4_PartFewest.l3 (k + 1) y0 y1 y2 y3 y4)) ∧ (∀ y0 y1 y2 y3 y4 y5, LeO (hyphenlaw4_PartFewest.j4 k y0 y1 y2 y3 y4 y5) (hyphenlaw4_PartFewest.j4 (k + 1) y0 y1 y2 y3 y4 y5))
  | 0 => ⟨fun _ _ _ _ _ r h => by simp [hyphenlaw4_PartFewest.l0] at h, fun _ _ _ _ _ _ r h => by simp [hyphenlaw4_PartFewest.l1] at h, fun _ _ _ _ _ _ _ _ r h => by simp [hyphenlaw4_PartFewest.l2] at h, fun _ _ _ _ _ r h => by simp [hyphenlaw4_PartFewest.l3] at h, fun _ _ _ _ _ _ r h => by simp [hyphenlaw4_PartFewest.j4] at h⟩
  | k + 1 => by
    obtain ⟨ih0, ih1, ih2, ih3, ih4⟩ := hyphenlaw4_PartFewest.mono_l k
    refine ⟨?_, ?_, ?_, ?_, ?_⟩
    · intro y0 y1 y2 y3 y4
      unfold hyphenlaw4_PartFewest.l0
      repeat' first
      | (with_reducible exact ih0 _ _ _ _ _)
      | (with_reducible exact ih1 _ _ _ _ _ _)
      | (with_reducible exact ih2 _ _ _ _ _ _ _ _)
      | (with_reducible exact ih3 _ _ _ _ _)
      | (with_reducible exact ih4 _ _ _ _ _ _)
      | (with_reducible exact hyphenlaw4_Sets.mono _ _ _)
      | (with_reducible exact hyphenlaw4_known.mono _)
      | (with_reducible exact part_Count.mono _ _)
      | (with_reducible exact part_Cuts.mono _ _)
      | (with_reducible exact part_In.mono _ _ _ _)
      | (with_reducible exact LeO.refl _)
      | (with_reducible exact LeO.none _)
      | (with_reducible refine LeO.ite ?_ ?_)
      | (with_reducible refine LeO.bind ?_ (fun _ => ?_))
      | exact ih0 _ _ _ _ _
      | exact ih1 _ _ _ _ _ _
      | exact ih2 _ _ _ _ _ _ _ _
      | exact ih3 _ _ _ _ _
      | exact ih4 _ _ _ _ _ _
      | exact hyphenlaw4_Sets.mono _ _ _
      | exact hyphenlaw4_known.mono _
      | exact part_Count.mono _ _
      | exact part_Cuts.mono _ _
      | exact part_In.mono _ _ _ _
      | exact LeO.none _
      | refine LeO.ite ?_ ?_
      | refine LeO.bind ?_ (fun _ => ?_)
    · intro y0 y1 y2 y3 y4 y5
      unfold hyphenlaw4_PartFewest.l1
      repeat' first
      | (with_reducible exact ih0 _ _ _ _ _)
      | (with_reducible exact ih1 _ _ _ _ _ _)
      | (with_reducible exact ih2 _ _ _ _ _ _ _ _)
      | (with_reducible exact ih3 _ _ _ _ _)
      | (with_reducible exact ih4 _ _ _ _ _ _)
      | (with_reducible exact hyphenlaw4_Sets.mono _ _ _)
      | (with_reducible exact hyphenlaw4_known.mono _)
      | (with_reducible exact part_Count.mono _ _)
      | (with_reducible exact part_Cuts.mono _ _)
      | (with_reducible exact part_In.mono _ _ _ _)
      | (with_reducible exact LeO.refl _)
      | (with_reducible exact LeO.none _)
      | (with_reducible refine LeO.ite ?_ ?_)
      | (with_reducible refine LeO.bind ?_ (fun _ => ?_))
      | exact ih0 _ _ _ _ _
      | exact ih1 _ _ _ _ _ _
      | exact ih2 _ _ _ _ _ _ _ _
      | exact ih3 _ _ _ _ _
      | exact ih4 _ _ _ _ _ _
      | exact hyphenlaw4_Sets.mono _ _ _
      | exact hyphenlaw4_known.mono _
      | exact part_Count.mono _ _
      | exact part_Cuts.mono _ _
      | exact part_In.mono _ _ _ _
      | exact LeO.none _
      | refine LeO.ite ?_ ?_
      | refine LeO.bind ?_ (fun _ => ?_)
    · intro y0 y1 y2 y3 y4 y5 y6 y7
      unfold hyphenlaw4_PartFewest.l2
      repeat' first
      | (with_reducible exact ih0 _ _ _ _ _)
      | (with_reducible exact ih1 _ _ _ _ _ _)
      | (with_reducible exact ih2 _ _ _ _ _ _ _ _)
      | (with_reducible exact ih3 _ _ _ _ _)
      | (with_reducible exact ih4 _ _ _ _ _ _)
      | (with_reducible exact hyphenlaw4_Sets.mono _ _ _)
      | (with_reducible exact hyphenlaw4_known.mono _)
      | (with_reducible exact part_Count.mono _ _)
      | (with_reducible exact part_Cuts.mono _ _)
      | (with_reducible exact part_In.mono _ _ _ _)
      | (with_reducible exact LeO.refl _)
      | (with_reducible exact LeO.none _)
      | (with_reducible refine LeO.ite ?_ ?_)
      | (with_reducible refine LeO.bind ?_ (fun _ => ?_))
      | exact ih0 _ _ _ _ _
      | exact ih1 _ _ _ _ _ _
      | exact ih2 _ _ _ _ _ _ _ _
      | exact ih3 _ _ _ _ _
      | exact ih4 _ _ _ _ _ _
      | exact hyphenlaw4_Sets.mono _ _ _
      | exact hyphenlaw4_known.mono _
      | exact part_Count.mono _ _
      | exact part_Cuts.mono _ _
      | exact part_In.mono _ _ _ _
      | exact LeO.none _
      | refine LeO.ite ?_ ?_
      | refine LeO.bind ?_ (fun _ => ?_)
    · intro y0 y1 y2 y3 y4
      unfold hyphenlaw4_PartFewest.l3
      repeat' first
      | (with_reducible exact ih0 _ _ _ _ _)
      | (with_reducible exact ih1 _ _ _ _ _ _)
      | (with_reducible exact ih2 _ _ _ _ _ _ _ _)
      | (with_reducible exact ih3 _ _ _ _ _)
      | (with_reducible exact ih4 _ _ _ _ _ _)
      | (with_reducible exact hyphenlaw4_Sets.mono _ _ _)
      | (with_reducible exact hyphenlaw4_known.mono _)
      | (with_reducible exact part_Count.mono _ _)
      | (with_reducible exact part_Cuts.mono _ _)
      | (with_reducible exact part_In.mono _ _ _ _)
      | (with_reducible exact LeO.refl _)
      | (with_reducible exact LeO.none _)
      | (with_reducible refine LeO.ite ?_ ?_)
      | (with_reducible refine LeO.bind ?_ (fun _ => ?_))
      | exact ih0 _ _ _ _ _
      | exact ih1 _ _ _ _ _ _
      | exact ih2 _ _ _ _ _ _ _ _
      | exact ih3 _ _ _ _ _
      | exact ih4 _ _ _ _ _ _
      | exact hyphenlaw4_Sets.mono _ _ _
      | exact hyphenlaw4_known.mono _
      | exact part_Count.mono _ _
      | exact part_Cuts.mono _ _
      | exact part_In.mono _ _ _ _
      | exact LeO.none _
      | refine LeO.ite ?_ ?_
      | refine LeO.bind ?_ (fun _ => ?_)
    · intro y0 y1 y2 y3 y4 y5
      unfold hyphenlaw4_PartFewest.j4
      repeat' first
      | (with_reducible exact ih0 _ _ _ _ _)
      | (with_reducible exact ih1 _ _ _ _ _ _)
      | (with_reducible exact ih2 _ _ _ _ _ _ _ _)
      | (with_reducible exact ih3 _ _ _ _ _)
      | (with_reducible exact ih4 _ _ _ _ _ _)
      | (with_reducible exact hyphenlaw4_Sets.mono _ _ _)
      | (with_reducible exact hyphenlaw4_known.mono _)
      | (with_reducible exact part_Count.mono _ _)
      | (with_reducible exact part_Cuts.mono _ _)
      | (with_reducible exact part_In.mono _ _ _ _)
      | (with_reducible exact LeO.refl _)
      | (with_reducible exact LeO.none _)
      | (with_reducible refine LeO.ite ?_ ?_)
      | (with_reducible refine LeO.bind ?_ (fun _ => ?_))
      | exact ih0 _ _ _ _ _
      | exact ih1 _ _ _ _ _ _
      | exact ih2 _ _ _ _ _ _ _ _
      | exact ih3 _ _ _ _ _
      | exact ih4 _ _ _ _ _ _
      | exact hyphenlaw4_Sets.mono _ _ _
      | exact hyphenlaw4_known.mono _
      | exact part_Count.mono _ _
      | exact part_Cuts.mono _ _
      | exact part_In.mono _ _ _ _
      | exact LeO.none _
      | refine LeO.ite ?_ ?_
      | refine LeO.bind ?_ (fun _ => ?_)
theorem hyphenlaw4_PartFewest.mono : ∀ a0 k, LeO (hyphenlaw4_PartFewest.f k a0) (hyphenlaw4_PartFewest.f (k + 1) a0) := by
  intro a0 k
  obtain ⟨ih0, ih1, ih2, ih3, ih4⟩ := hyphenlaw4_PartFewest.mono_l k
  unfold hyphenlaw4_PartFewest.f
  repeat' first
      | (with_reducible exact ih0 _ _ _ _ _)
      | (with_reducible exact ih1 _ _ _ _ _ _)
      | (with_reducible exact ih2 _ _ _ _ _ _ _ _)
      | (with_reducible exact ih3 _ _ _ _ _)
      | (with_reducible exact ih4 _ _ _ _ _ _)
      | (with_reducible exact hyphenlaw4_Sets.mono _ _ _)
      | (with_reducible exact hyphenlaw4_known.mono _)
      | (with_reducible exact part_Count.mono _ _)
      | (with_reducible exact part_Cuts.mono _ _)
      | (with_reducible exact part_In.mono _ _ _ _)
      | (with_reducible exact LeO.refl _)
      | (with_reducible exact LeO.none _)
      | (with_reducible refine LeO.ite ?_ ?_)
      | (with_reducible refine LeO.bind ?_ (fun _ => ?_))
      | exact ih0 _ _ _ _ _
      | exact ih1 _ _ _ _ _ _
      | exact ih2 _ _ _ _ _ _ _ _
      | exact ih3 _ _ _ _ _
      | exact ih4 _ _ _ _ _ _
      | exact hyphenlaw4_Sets.mono _ _ _
      | exact hyphenlaw4_known.mono _
      | exact part_Count.mono _ _
      | exact part_Cuts.mono _ _
      | exact part_In.mono _ _ _ _
      | exact LeO.none _
      | refine LeO.ite ?_ ?_
      | refine LeO.bind ?_ (fun _ => ?_)
set_option maxHeartbeats 8000000 in
set_option maxRecDepth 100000 in
theorem hyphenlaw4_PartFewest.calls (k : Nat) (A0 : Option Addr) (c0 : Nat) (l0 : List Int) (r : Bool) (w : World) (hr0 : Kd.C (Kd.int .i64) w A0 l0.length l0) (hc0 : l0.length ≤ c0) (h : hyphenlaw4_PartFewest.f k l0 = some r) :
    Calls Try.prog 6 #[.slice A0 l0.length c0] w fun e w' => e = .returned (.bool r) ∧ Below w.heap.size w w' := by
  have HR0 := Aside0.mk hr0
  have HC0 := Aside0.mk hc0
  clear hr0 hc0
  have HB := Aside0.mk (Below.refl w.heap.size w)
  have H : ((hyphenlaw4_known.f k).bind fun t389 => (if t389 = true then ((hyphenlaw4_Sets.f k l0 12).bind fun t390 => ((part_Cuts.f k t390).bind fun bt393 => ((part_In.f k t390 bt393.1 bt393.2).bind fun t399 => ((part_Count.f k bt393.2).bind fun t402 => (hyphenlaw4_PartFewest.l0 k bt393.1 bt393.2 t399 t402 0))))) else (none))) = some r := h
  clear h
  replace H := Option.bind_eq_some_iff.mp H
  obtain ⟨t389, A20, H⟩ := H
  replace H : (if t389 = true then ((hyphenlaw4_Sets.f k l0 12).bind fun t390 => ((part_Cuts.f k t390).bind fun bt393 => ((part_In.f k t390 bt393.1 bt393.2).bind fun t399 => ((part_Count.f k bt393.2).bind fun t402 => (hyphenlaw4_PartFewest.l0 k bt393.1 bt393.2 t399 t402 0))))) else (none)) = some r := H
  have A2 := Aside0.mk A20
  clear A20
  by_cases c3 : t389 = true
  · subst c3
    have H1 : ((hyphenlaw4_Sets.f k l0 12).bind fun t390 => ((part_Cuts.f k t390).bind fun bt393 => ((part_In.f k t390 bt393.1 bt393.2).bind fun t399 => ((part_Count.f k bt393.2).bind fun t402 => (hyphenlaw4_PartFewest.l0 k bt393.1 bt393.2 t399 t402 0))))) = some r := by rw [if_pos rfl] at H; exact H
    clear H
    have H := H1
    clear H1
    replace H := Option.bind_eq_some_iff.mp H
    obtain ⟨t390, A40, H⟩ := H
    replace H : ((part_Cuts.f k t390).bind fun bt393 => ((part_In.f k t390 bt393.1 bt393.2).bind fun t399 => ((part_Count.f k bt393.2).bind fun t402 => (hyphenlaw4_PartFewest.l0 k bt393.1 bt393.2 t399 t402 0)))) = some r := H
    have A4 := Aside0.mk A40
    clear A40
    replace H := Option.bind_eq_some_iff.mp H
    obtain ⟨⟨t393, t394⟩, A50, H⟩ := H
    replace H : ((part_In.f k t390 t393 t394).bind fun t399 => ((part_Count.f k t394).bind fun t402 => (hyphenlaw4_PartFewest.l0 k t393 t394 t399 t402 0))) = some r := H
    have A5 := Aside0.mk A50
    clear A50
    replace H := Option.bind_eq_some_iff.mp H
    obtain ⟨t399, A60, H⟩ := H
    replace H : ((part_Count.f k t394).bind fun t402 => (hyphenlaw4_PartFewest.l0 k t393 t394 t399 t402 0)) = some r := H
    have A6 := Aside0.mk A60
    clear A60
    replace H := Option.bind_eq_some_iff.mp H
    obtain ⟨t402, A70, H⟩ := H
    replace H : (hyphenlaw4_PartFewest.l0 k t393 t394 t399 t402 0) = some r := H
    have A7 := Aside0.mk A70
    clear A70
    have H' := Aside0.mk H
    clear H
    go_enter Try.func6, Try.ntmps6
    go_wp2_with (first | (go_at_call 11; (with_reducible refine (hyphenlaw4_known.calls k  true _ A2.out).mono ?_); rintro e w8 ⟨rfl, hb⟩; have n0_ := Aside0.mk (below_step (by repeat (first | (with_reducible first | exact HB.out | apply below_alloc | apply pw_below_drewN | apply below_drew1) | exact HB.out)) hb); clear HB; have HB := n0_; clear n0_; (try clear hb); (try clear hb2); (try clear hk); (try clear hi)) | (go_at_call 12; (with_reducible refine (hyphenlaw4_Sets.calls k _ _ l0 12 t390 _ ?side1 ?side2 A4.out).mono ?_); (case side1 => repeat (first | exact (Kd.C_below HR0.out HB.out) | (with_reducible refine Kd.C_alloc ?_ _) | (with_reducible refine Kd.C_drewN ?_ _) | (with_reducible refine Kd.C_drew ?_))); (case side2 => exact HC0.out); rintro e w9 ⟨v391, rfl, ho0, hb⟩; have n0_ := Aside0.mk (Kd.R_lower ho0 (below_size (by repeat (first | (with_reducible first | exact HB.out | apply below_alloc | apply pw_below_drewN | apply below_drew1) | exact HB.out)))); have n1_ := Aside0.mk (below_step (by repeat (first | (with_reducible first | exact HB.out | apply below_alloc | apply pw_below_drewN | apply below_drew1) | exact HB.out)) hb); clear HB; have HO392 := n0_; have HB := n1_; clear n0_ n1_; (try clear hb); (try clear hb2); (try clear hk); (try clear hi); (try clear ho0); obtain ⟨Ao10, co10, eo10⟩ := Kd.R_slice HO392.out; subst eo10) | (go_at_call 13; (with_reducible refine (part_Cuts.calls k _ _ t390 t393 t394 _ ?side1 ?side2 A5.out).mono ?_); (case side1 => repeat (first | exact (Kd.R_reads' HO392.out).2.2 | (with_reducible refine Kd.C_alloc ?_ _) | (with_reducible refine Kd.C_drewN ?_ _) | (with_reducible refine Kd.C_drew ?_))); (case side2 => exact (Kd.R_reads' HO392.out).2.1); rintro e w11 ⟨v395, v397, rfl, ho0, ho1, hb⟩; have n0_ := Aside0.mk (Kd.R_below (by (with_reducible repeat (first | apply Kd.R_alloc | apply Kd.R_drewN | apply Kd.R_drew)); exact HO392.out) hb); have n1_ := Aside0.mk (Kd.R_lower ho0 (below_size (by repeat (first | (with_reducible first | exact HB.out | apply below_alloc | apply pw_below_drewN | apply below_drew1) | exact HB.out)))); have n2_ := Aside0.mk (Kd.R_lower ho1 (below_size (by repeat (first | (with_reducible first | exact HB.out | apply below_alloc | apply pw_below_drewN | apply below_drew1) | exact HB.out)))); have n3_ := Aside0.mk (below_step (by repeat (first | (with_reducible first | exact HB.out | apply below_alloc | apply pw_below_drewN | apply below_drew1) | exact HB.out)) hb); clear HO392; clear HB; have HO392 := n0_; have HO396 := n1_; have HO398 := n2_; have HB := n3_; clear n0_ n1_ n2_ n3_; (try clear hb); (try clear hb2); (try clear hk); (try clear hi); (try clear ho0); (try clear ho1); obtain ⟨Ao12, co12, eo12⟩ := Kd.R_slice HO396.out; subst eo12; obtain ⟨Ao13, co13, eo13⟩ := Kd.R_slice HO398.out; subst eo13) | (go_at_call 18; (with_reducible refine (part_In.calls k _ _ t390 _ _ t393 _ _ t394 t399 _ ?side1 ?side2 ?side3 ?side4 ?side5 ?side6 A6.out).mono ?_); (case side1 => repeat (first | exact (Kd.R_reads' HO392.out).2.2 | (with_reducible refine Kd.C_alloc ?_ _) | (with_reducible refine Kd.C_drewN ?_ _) | (with_reducible refine Kd.C_drew ?_))); (case side2 => exact (Kd.R_reads' HO392.out).2.1); (case side3 => repeat (first | exact (Kd.R_reads' HO396.out).2.2 | (with_reducible refine Kd.C_alloc ?_ _) | (with_reducible refine Kd.C_drewN ?_ _) | (with_reducible refine Kd.C_drew ?_))); (case side4 => exact (Kd.R_reads' HO396.out).2.1); (case side5 => repeat (first | exact (Kd.R_reads' HO398.out).2.2 | (with_reducible refine Kd.C_alloc ?_ _) | (with_reducible refine Kd.C_drewN ?_ _) | (with_reducible refine Kd.C_drew ?_))); (case side6 => exact (Kd.R_reads' HO398.out).2.1); rintro e w14 ⟨v400, rfl, ho0, hb⟩; have n0_ := Aside0.mk (Kd.R_below (by (with_reducible repeat (first | apply Kd.R_alloc | apply Kd.R_drewN | apply Kd.R_drew)); exact HO392.out) hb); have n1_ := Aside0.mk (Kd.R_below (by (with_reducible repeat (first | apply Kd.R_alloc | apply Kd.R_drewN | apply Kd.R_drew)); exact HO396.out) hb); have n2_ := Aside0.mk (Kd.R_below (by (with_reducible repeat (first | apply Kd.R_alloc | apply Kd.R_drewN | apply Kd.R_drew)); exact HO398.out) hb); have n3_ := Aside0.mk (Kd.R_lower ho0 (below_size (by repeat (first | (with_reducible first | exact HB.out | apply below_alloc | apply pw_below_drewN | apply below_drew1) | exact HB.out)))); have n4_ := Aside0.mk (below_step (by repeat (first | (with_reducible first | exact HB.out | apply below_alloc | apply pw_below_drewN | apply below_drew1) | exact HB.out)) hb); clear HO392; clear HO396; clear HO398; clear HB; have HO392 := n0_; have HO396 := n1_; have HO398 := n2_; have HO401 := n3_; have HB := n4_; clear n0_ n1_ n2_ n3_ n4_; (try clear hb); (try clear hb2); (try clear hk); (try clear hi); (try clear ho0)) | (go_at_call 16; (with_reducible refine (part_Count.calls k _ _ t394 t402 _ ?side1 ?side2 A7.out).mono ?_); (case side1 => repeat (first | exact (Kd.R_reads' HO398.out).2.2 | (with_reducible refine Kd.C_alloc ?_ _) | (with_reducible refine Kd.C_drewN ?_ _) | (with_reducible refine Kd.C_drew ?_))); (case side2 => exact (Kd.R_reads' HO398.out).2.1); rintro e w15 ⟨rfl, hb⟩; have n0_ := Aside0.mk (Kd.R_below (by (with_reducible repeat (first | apply Kd.R_alloc | apply Kd.R_drewN | apply Kd.R_drew)); exact HO392.out) hb); have n1_ := Aside0.mk (Kd.R_below (by (with_reducible repeat (first | apply Kd.R_alloc | apply Kd.R_drewN | apply Kd.R_drew)); exact HO396.out) hb); have n2_ := Aside0.mk (Kd.R_below (by (with_reducible repeat (first | apply Kd.R_alloc | apply Kd.R_drewN | apply Kd.R_drew)); exact HO398.out) hb); have n3_ := Aside0.mk (Kd.R_below (by (with_reducible repeat (first | apply Kd.R_alloc | apply Kd.R_drewN | apply Kd.R_drew)); exact HO401.out) hb); have n4_ := Aside0.mk (below_step (by repeat (first | (with_reducible first | exact HB.out | apply below_alloc | apply pw_below_drewN | apply below_drew1) | exact HB.out)) hb); clear HO392; clear HO396; clear HO398; clear HO401; clear HB; have HO392 := n0_; have HO396 := n1_; have HO398 := n2_; have HO401 := n3_; have HB := n4_; clear n0_ n1_ n2_ n3_ n4_; (try clear hb); (try clear hb2); (try clear hk); (try clear hi)))
    repeat (go_quiet (first | (go_at_call 11; (with_reducible refine (hyphenlaw4_known.calls k  true _ A2.out).mono ?_); rintro e w8 ⟨rfl, hb⟩; have n0_ := Aside0.mk (below_step (by repeat (first | (with_reducible first | exact HB.out | apply below_alloc | apply pw_below_drewN | apply below_drew1) | exact HB.out)) hb); clear HB; have HB := n0_; clear n0_; (try clear hb); (try clear hb2); (try clear hk); (try clear hi)) | (go_at_call 12; (with_reducible refine (hyphenlaw4_Sets.calls k _ _ l0 12 t390 _ ?side1 ?side2 A4.out).mono ?_); (case side1 => repeat (first | exact (Kd.C_below HR0.out HB.out) | (with_reducible refine Kd.C_alloc ?_ _) | (with_reducible refine Kd.C_drewN ?_ _) | (with_reducible refine Kd.C_drew ?_))); (case side2 => exact HC0.out); rintro e w9 ⟨v391, rfl, ho0, hb⟩; have n0_ := Aside0.mk (Kd.R_lower ho0 (below_size (by repeat (first | (with_reducible first | exact HB.out | apply below_alloc | apply pw_below_drewN | apply below_drew1) | exact HB.out)))); have n1_ := Aside0.mk (below_step (by repeat (first | (with_reducible first | exact HB.out | apply below_alloc | apply pw_below_drewN | apply below_drew1) | exact HB.out)) hb); clear HB; have HO392 := n0_; have HB := n1_; clear n0_ n1_; (try clear hb); (try clear hb2); (try clear hk); (try clear hi); (try clear ho0); obtain ⟨Ao10, co10, eo10⟩ := Kd.R_slice HO392.out; subst eo10) | (go_at_call 13; (with_reducible refine (part_Cuts.calls k _ _ t390 t393 t394 _ ?side1 ?side2 A5.out).mono ?_); (case side1 => repeat (first | exact (Kd.R_reads' HO392.out).2.2 | (with_reducible refine Kd.C_alloc ?_ _) | (with_reducible refine Kd.C_drewN ?_ _) | (with_reducible refine Kd.C_drew ?_))); (case side2 => exact (Kd.R_reads' HO392.out).2.1); rintro e w11 ⟨v395, v397, rfl, ho0, ho1, hb⟩; have n0_ := Aside0.mk (Kd.R_below (by (with_reducible repeat (first | apply Kd.R_alloc | apply Kd.R_drewN | apply Kd.R_drew)); exact HO392.out) hb); have n1_ := Aside0.mk (Kd.R_lower ho0 (below_size (by repeat (first | (with_reducible first | exact HB.out | apply below_alloc | apply pw_below_drewN | apply below_drew1) | exact HB.out)))); have n2_ := Aside0.mk (Kd.R_lower ho1 (below_size (by repeat (first | (with_reducible first | exact HB.out | apply below_alloc | apply pw_below_drewN | apply below_drew1) | exact HB.out)))); have n3_ := Aside0.mk (below_step (by repeat (first | (with_reducible first | exact HB.out | apply below_alloc | apply pw_below_drewN | apply below_drew1) | exact HB.out)) hb); clear HO392; clear HB; have HO392 := n0_; have HO396 := n1_; have HO398 := n2_; have HB := n3_; clear n0_ n1_ n2_ n3_; (try clear hb); (try clear hb2); (try clear hk); (try clear hi); (try clear ho0); (try clear ho1); obtain ⟨Ao12, co12, eo12⟩ := Kd.R_slice HO396.out; subst eo12; obtain ⟨Ao13, co13, eo13⟩ := Kd.R_slice HO398.out; subst eo13) | (go_at_call 18; (with_reducible refine (part_In.calls k _ _ t390 _ _ t393 _ _ t394 t399 _ ?side1 ?side2 ?side3 ?side4 ?side5 ?side6 A6.out).mono ?_); (case side1 => repeat (first | exact (Kd.R_reads' HO392.out).2.2 | (with_reducible refine Kd.C_alloc ?_ _) | (with_reducible refine Kd.C_drewN ?_ _) | (with_reducible refine Kd.C_drew ?_))); (case side2 => exact (Kd.R_reads' HO392.out).2.1); (case side3 => repeat (first | exact (Kd.R_reads' HO396.out).2.2 | (with_reducible refine Kd.C_alloc ?_ _) | (with_reducible refine Kd.C_drewN ?_ _) | (with_reducible refine Kd.C_drew ?_))); (case side4 => exact (Kd.R_reads' HO396.out).2.1); (case side5 => repeat (first | exact (Kd.R_reads' HO398.out).2.2 | (with_reducible refine Kd.C_alloc ?_ _) | (with_reducible refine Kd.C_drewN ?_ _) | (with_reducible refine Kd.C_drew ?_))); (case side6 => exact (Kd.R_reads' HO398.out).2.1); rintro e w14 ⟨v400, rfl, ho0, hb⟩; have n0_ := Aside0.mk (Kd.R_below (by (with_reducible repeat (first | apply Kd.R_alloc | apply Kd.R_drewN | apply Kd.R_drew)); exact HO392.out) hb); have n1_ := Aside0.mk (Kd.R_below (by (with_reducible repeat (first | apply Kd.R_alloc | apply Kd.R_drewN | apply Kd.R_drew)); exact HO396.out) hb); have n2_ := Aside0.mk (Kd.R_below (by (with_reducible repeat (first | apply Kd.R_alloc | apply Kd.R_drewN | apply Kd.R_drew)); exact HO398.out) hb); have n3_ := Aside0.mk (Kd.R_lower ho0 (below_size (by repeat (first | (with_reducible first | exact HB.out | apply below_alloc | apply pw_below_drewN | apply below_drew1) | exact HB.out)))); have n4_ := Aside0.mk (below_step (by repeat (first | (with_reducible first | exact HB.out | apply below_alloc | apply pw_below_drewN | apply below_drew1) | exact HB.out)) hb); clear HO392; clear HO396; clear HO398; clear HB; have HO392 := n0_; have HO396 := n1_; have HO398 := n2_; have HO401 := n3_; have HB := n4_; clear n0_ n1_ n2_ n3_ n4_; (try clear hb); (try clear hb2); (try clear hk); (try clear hi); (try clear ho0)) | (go_at_call 16; (with_reducible refine (part_Count.calls k _ _ t394 t402 _ ?side1 ?side2 A7.out).mono ?_); (case side1 => repeat (first | exact (Kd.R_reads' HO398.out).2.2 | (with_reducible refine Kd.C_alloc ?_ _) | (with_reducible refine Kd.C_drewN ?_ _) | (with_reducible refine Kd.C_drew ?_))); (case side2 => exact (Kd.R_reads' HO398.out).2.1); rintro e w15 ⟨rfl, hb⟩; have n0_ := Aside0.mk (Kd.R_below (by (with_reducible repeat (first | apply Kd.R_alloc | apply Kd.R_drewN | apply Kd.R_drew)); exact HO392.out) hb); have n1_ := Aside0.mk (Kd.R_below (by (with_reducible repeat (first | apply Kd.R_alloc | apply Kd.R_drewN | apply Kd.R_drew)); exact HO396.out) hb); have n2_ := Aside0.mk (Kd.R_below (by (with_reducible repeat (first | apply Kd.R_alloc | apply Kd.R_drewN | apply Kd.R_drew)); exact HO398.out) hb); have n3_ := Aside0.mk (Kd.R_below (by (with_reducible repeat (first | apply Kd.R_alloc | apply Kd.R_drewN | apply Kd.R_drew)); exact HO401.out) hb); have n4_ := Aside0.mk (below_step (by repeat (first | (with_reducible first | exact HB.out | apply below_alloc | apply pw_below_drewN | apply below_drew1) | exact HB.out)) hb); clear HO392; clear HO396; clear HO398; clear HO401; clear HB; have HO392 := n0_; have HO396 := n1_; have HO398 := n2_; have HO401 := n3_; have HB := n4_; clear n0_ n1_ n2_ n3_ n4_; (try clear hb); (try clear hb2); (try clear hk); (try clear hi))); try go_wp2_with (first | (go_at_call 11; (with_reducible refine (hyphenlaw4_known.calls k  true _ A2.out).mono ?_); rintro e w8 ⟨rfl, hb⟩; have n0_ := Aside0.mk (below_step (by repeat (first | (with_reducible first | exact HB.out | apply below_alloc | apply pw_below_drewN | apply below_drew1) | exact HB.out)) hb); clear HB; have HB := n0_; clear n0_; (try clear hb); (try clear hb2); (try clear hk); (try clear hi)) | (go_at_call 12; (with_reducible refine (hyphenlaw4_Sets.calls k _ _ l0 12 t390 _ ?side1 ?side2 A4.out).mono ?_); (case side1 => repeat (first | exact (Kd.C_below HR0.out HB.out) | (with_reducible refine Kd.C_alloc ?_ _) | (with_reducible refine Kd.C_drewN ?_ _) | (with_reducible refine Kd.C_drew ?_))); (case side2 => exact HC0.out); rintro e w9 ⟨v391, rfl, ho0, hb⟩; have n0_ := Aside0.mk (Kd.R_lower ho0 (below_size (by repeat (first | (with_reducible first | exact HB.out | apply below_alloc | apply pw_below_drewN | apply below_drew1) | exact HB.out)))); have n1_ := Aside0.mk (below_step (by repeat (first | (with_reducible first | exact HB.out | apply below_alloc | apply pw_below_drewN | apply below_drew1) | exact HB.out)) hb); clear HB; have HO392 := n0_; have HB := n1_; clear n0_ n1_; (try clear hb); (try clear hb2); (try clear hk); (try clear hi); (try clear ho0); obtain ⟨Ao10, co10, eo10⟩ := Kd.R_slice HO392.out; subst eo10) | (go_at_call 13; (with_reducible refine (part_Cuts.calls k _ _ t390 t393 t394 _ ?side1 ?side2 A5.out).mono ?_); (case side1 => repeat (first | exact (Kd.R_reads' HO392.out).2.2 | (with_reducible refine Kd.C_alloc ?_ _) | (with_reducible refine Kd.C_drewN ?_ _) | (with_reducible refine Kd.C_drew ?_))); (case side2 => exact (Kd.R_reads' HO392.out).2.1); rintro e w11 ⟨v395, v397, rfl, ho0, ho1, hb⟩; have n0_ := Aside0.mk (Kd.R_below (by (with_reducible repeat (first | apply Kd.R_alloc | apply Kd.R_drewN | apply Kd.R_drew)); exact HO392.out) hb); have n1_ := Aside0.mk (Kd.R_lower ho0 (below_size (by repeat (first | (with_reducible first | exact HB.out | apply below_alloc | apply pw_below_drewN | apply below_drew1) | exact HB.out)))); have n2_ := Aside0.mk (Kd.R_lower ho1 (below_size (by repeat (first | (with_reducible first | exact HB.out | apply below_alloc | apply pw_below_drewN | apply below_drew1) | exact HB.out)))); have n3_ := Aside0.mk (below_step (by repeat (first | (with_reducible first | exact HB.out | apply below_alloc | apply pw_below_drewN | apply below_drew1) | exact HB.out)) hb); clear HO392; clear HB; have HO392 := n0_; have HO396 := n1_; have HO398 := n2_; have HB := n3_; clear n0_ n1_ n2_ n3_; (try clear hb); (try clear hb2); (try clear hk); (try clear hi); (try clear ho0); (try clear ho1); obtain ⟨Ao12, co12, eo12⟩ := Kd.R_slice HO396.out; subst eo12; obtain ⟨Ao13, co13, eo13⟩ := Kd.R_slice HO398.out; subst eo13) | (go_at_call 18; (with_reducible refine (part_In.calls k _ _ t390 _ _ t393 _ _ t394 t399 _ ?side1 ?side2 ?side3 ?side4 ?side5 ?side6 A6.out).mono ?_); (case side1 => repeat (first | exact (Kd.R_reads' HO392.out).2.2 | (with_reducible refine Kd.C_alloc ?_ _) | (with_reducible refine Kd.C_drewN ?_ _) | (with_reducible refine Kd.C_drew ?_))); (case side2 => exact (Kd.R_reads' HO392.out).2.1); (case side3 => repeat (first | exact (Kd.R_reads' HO396.out).2.2 | (with_reducible refine Kd.C_alloc ?_ _) | (with_reducible refine Kd.C_drewN ?_ _) | (with_reducible refine Kd.C_drew ?_))); (case side4 => exact (Kd.R_reads' HO396.out).2.1); (case side5 => repeat (first | exact (Kd.R_reads' HO398.out).2.2 | (with_reducible refine Kd.C_alloc ?_ _) | (with_reducible refine Kd.C_drewN ?_ _) | (with_reducible refine Kd.C_drew ?_))); (case side6 => exact (Kd.R_reads' HO398.out).2.1); rintro e w14 ⟨v400, rfl, ho0, hb⟩; have n0_ := Aside0.mk (Kd.R_below (by (with_reducible repeat (first | apply Kd.R_alloc | apply Kd.R_drewN | apply Kd.R_drew)); exact HO392.out) hb); have n1_ := Aside0.mk (Kd.R_below (by (with_reducible repeat (first | apply Kd.R_alloc | apply Kd.R_drewN | apply Kd.R_drew)); exact HO396.out) hb); have n2_ := Aside0.mk (Kd.R_below (by (with_reducible repeat (first | apply Kd.R_alloc | apply Kd.R_drewN | apply Kd.R_drew)); exact HO398.out) hb); have n3_ := Aside0.mk (Kd.R_lower ho0 (below_size (by repeat (first | (with_reducible first | exact HB.out | apply below_alloc | apply pw_below_drewN | apply below_drew1) | exact HB.out)))); have n4_ := Aside0.mk (below_step (by repeat (first | (with_reducible first | exact HB.out | apply below_alloc | apply pw_below_drewN | apply below_drew1) | exact HB.out)) hb); clear HO392; clear HO396; clear HO398; clear HB; have HO392 := n0_; have HO396 := n1_; have HO398 := n2_; have HO401 := n3_; have HB := n4_; clear n0_ n1_ n2_ n3_ n4_; (try clear hb); (try clear hb2); (try clear hk); (try clear hi); (try clear ho0)) | (go_at_call 16; (with_reducible refine (part_Count.calls k _ _ t394 t402 _ ?side1 ?side2 A7.out).mono ?_); (case side1 => repeat (first | exact (Kd.R_reads' HO398.out).2.2 | (with_reducible refine Kd.C_alloc ?_ _) | (with_reducible refine Kd.C_drewN ?_ _) | (with_reducible refine Kd.C_drew ?_))); (case side2 => exact (Kd.R_reads' HO398.out).2.1); rintro e w15 ⟨rfl, hb⟩; have n0_ := Aside0.mk (Kd.R_below (by (with_reducible repeat (first | apply Kd.R_alloc | apply Kd.R_drewN | apply Kd.R_drew)); exact HO392.out) hb); have n1_ := Aside0.mk (Kd.R_below (by (with_reducible repeat (first | apply Kd.R_alloc | apply Kd.R_drewN | apply Kd.R_drew)); exact HO396.out) hb); have n2_ := Aside0.mk (Kd.R_below (by (with_reducible repeat (first | apply Kd.R_alloc | apply Kd.R_drewN | apply Kd.R_drew)); exact HO398.out) hb); have n3_ := Aside0.mk (Kd.R_below (by (with_reducible repeat (first | apply Kd.R_alloc | apply Kd.R_drewN | apply Kd.R_drew)); exact HO401.out) hb); have n4_ := Aside0.mk (below_step (by repeat (first | (with_reducible first | exact HB.out | apply below_alloc | apply pw_below_drewN | apply below_drew1) | exact HB.out)) hb); clear HO392; clear HO396; clear HO398; clear HO401; clear HB; have HO392 := n0_; have HO396 := n1_; have HO398 := n2_; have HO401 := n3_; have HB := n4_; clear n0_ n1_ n2_ n3_ n4_; (try clear hb); (try clear hb2); (try clear hk); (try clear hi))))
    go_loopg [8] k (fun kq v8 w' => ∃ (x8_1 : Int), v8 = .int .i64 x8_1 ∧ Aside0 (hyphenlaw4_PartFewest.l0 kq t393 t394 t399 t402 x8_1 = some r) ∧ Aside0 (kq ≤ k) ∧ Aside0 (Kd.R (Kd.int .i64) 3 w' w.heap.size (fun k_ => some k_ ≠ ((.slice Ao13 t394.length co13) : Value).ownBlock) (.slice Ao12 t393.length co12) t393) ∧ Aside0 (Kd.R (Kd.int .i64) 3 w' w.heap.size (fun k_ => some k_ ≠ ((.slice Ao12 t393.length co12) : Value).ownBlock) (.slice Ao13 t394.length co13) t394) ∧ Aside0 (Kd.R (Kd.slice 4 Kd.bool) 32 w' w.heap.size (fun _ => True) v400 t399) ∧ Aside0 (Below w.heap.size w w'))
    case atStart => exact ⟨(0), (by first | rfl | (simp; done) | (simp [*]; done)), H', ⟨Nat.le_refl _⟩, ⟨by (with_reducible repeat (first | apply Kd.R_alloc | apply Kd.R_drewN | apply Kd.R_drew)); exact HO396.out⟩, ⟨by (with_reducible repeat (first | apply Kd.R_alloc | apply Kd.R_drewN | apply Kd.R_drew)); exact HO398.out⟩, ⟨by (with_reducible repeat (first | apply Kd.R_alloc | apply Kd.R_drewN | apply Kd.R_drew)); exact HO401.out⟩, ⟨by repeat (first | (with_reducible first | exact HB.out | apply below_alloc | apply pw_below_drewN | apply below_drew1) | exact HB.out)⟩⟩
    case round =>
      clear H'
      try clear p2
      try clear c3
      try clear c6
      obtain ⟨x8_1, rfl, HA, HK1, HO_4, HO_5, HO_6, HB⟩ := hrel
      cases gk with
      | zero => exact absurd HA.out (by simp [hyphenlaw4_PartFewest.l0])
      | succ k1 =>
        have H := HA.out
        clear HA
        simp only [hyphenlaw4_PartFewest.l0] at H
        by_cases c16 : x8_1 < t402
        · rw [if_pos c16] at H
          have c16b0 : decide (x8_1 < t402) = true := decide_eq_true c16
          clear c16
          have H' := Aside0.mk H
          clear H
          go_wp2
          repeat (go_quiet (fail); try go_wp2)
          go_loopg [9] k1 (fun kq v9 w' => ∃ (x9_2 : Int), v9 = .int .i64 x9_2 ∧ Aside0 (hyphenlaw4_PartFewest.l1 kq t393 t394 t399 t402 x8_1 x9_2 = some r) ∧ Aside0 (kq ≤ k1) ∧ Aside0 (Kd.R (Kd.int .i64) 3 w' w.heap.size (fun k_ => some k_ ≠ ((.slice Ao13 t394.length co13) : Value).ownBlock) (.slice Ao12 t393.length co12) t393) ∧ Aside0 (Kd.R (Kd.int .i64) 3 w' w.heap.size (fun k_ => some k_ ≠ ((.slice Ao12 t393.length co12) : Value).ownBlock) (.slice Ao13 t394.length co13) t394) ∧ Aside0 (Kd.R (Kd.slice 4 Kd.bool) 32 w' w.heap.size (fun _ => True) v400 t399) ∧ Aside0 (Below w.heap.size w w'))
          case atStart => exact ⟨(0), (by first | rfl | (simp; done) | (simp [*]; done)), H', ⟨Nat.le_refl _⟩, ⟨by (with_reducible repeat (first | apply Kd.R_alloc | apply Kd.R_drewN | apply Kd.R_drew)); exact HO_4.out⟩, ⟨by (with_reducible repeat (first | apply Kd.R_alloc | apply Kd.R_drewN | apply Kd.R_drew)); exact HO_5.out⟩, ⟨by (with_reducible repeat (first | apply Kd.R_alloc | apply Kd.R_drewN | apply Kd.R_drew)); exact HO_6.out⟩, ⟨by repeat (first | (with_reducible first | exact HB.out | apply below_alloc | apply pw_below_drewN | apply below_drew1) | exact HB.out)⟩⟩
          case round =>
            clear H'
            try clear c1
            try clear p2
            try clear c3
            try clear c6
            try clear c16
            try clear c16b0
            try clear p2
            obtain ⟨x9_2, rfl, HA, HK2, HO_4, HO_5, HO_6, HB⟩ := hrel
            cases gk with
            | zero => exact absurd HA.out (by simp [hyphenlaw4_PartFewest.l1])
            | succ k2 =>
              have H := HA.out
              clear HA
              simp only [hyphenlaw4_PartFewest.l1] at H
              by_cases c17 : x9_2 < x8_1
              · rw [if_pos c17] at H
                have c17b0 : decide (x9_2 < x8_1) = true := decide_eq_true c17
                clear c17
                have H' := Aside0.mk H
                clear H
                go_wp2
                repeat (go_quiet (fail); try go_wp2)
                go_loopg [10, 11] k2 (fun kq v10 v11 w' => ∃ (x10_3 : Bool) (x11_3 : Int), v10 = .bool x10_3 ∧ v11 = .int .i64 x11_3 ∧ Aside0 (hyphenlaw4_PartFewest.l2 kq t393 t394 t399 t402 x8_1 x9_2 x10_3 x11_3 = some r) ∧ Aside0 (kq ≤ k2) ∧ Aside0 (Kd.R (Kd.int .i64) 3 w' w.heap.size (fun k_ => some k_ ≠ ((.slice Ao13 t394.length co13) : Value).ownBlock) (.slice Ao12 t393.length co12) t393) ∧ Aside0 (Kd.R (Kd.int .i64) 3 w' w.heap.size (fun k_ => some k_ ≠ ((.slice Ao12 t393.length co12) : Value).ownBlock) (.slice Ao13 t394.length co13) t394) ∧ Aside0 (Kd.R (Kd.slice 4 Kd.bool) 32 w' w.heap.size (fun _ => True) v400 t399) ∧ Aside0 (Below w.heap.size w w'))
                case atStart => exact ⟨(true), (0), (by first | rfl | (simp; done) | (simp [*]; done)), (by first | rfl | (simp; done) | (simp [*]; done)), H', ⟨Nat.le_refl _⟩, ⟨by (with_reducible repeat (first | apply Kd.R_alloc | apply Kd.R_drewN | apply Kd.R_drew)); exact HO_4.out⟩, ⟨by (with_reducible repeat (first | apply Kd.R_alloc | apply Kd.R_drewN | apply Kd.R_drew)); exact HO_5.out⟩, ⟨by (with_reducible repeat (first | apply Kd.R_alloc | apply Kd.R_drewN | apply Kd.R_drew)); exact HO_6.out⟩, ⟨by repeat (first | (with_reducible first | exact HB.out | apply below_alloc | apply pw_below_drewN | apply below_drew1) | exact HB.out)⟩⟩
                case round =>
                  clear H'
                  try clear c1
                  try clear p2
                  try clear c3
                  try clear c6
                  try clear c16
                  try clear c16b0
                  try clear c17
                  try clear c17b0
                  try clear p2
                  obtain ⟨x10_3, x11_3, rfl, rfl, HA, HK3, HO_4, HO_5, HO_6, HB⟩ := hrel
                  cases gk with
                  | zero => exact absurd HA.out (by simp [hyphenlaw4_PartFewest.l2])
                  | succ k3 =>
                    have H := HA.out
                    clear HA
                    simp only [hyphenlaw4_PartFewest.l2] at H
                    by_cases c18 : x11_3 < (t399.length : Int)
                    · rw [if_pos c18] at H
                      have c18b0 : decide (x11_3 < (t399.length : Int)) = true := decide_eq_true c18
                      clear c18
                      by_cases c19 : 0 ≤ x11_3
                      · rw [if_pos c19] at H
                        have c19b0 : decide (0 ≤ x11_3) = true := decide_eq_true c19
                        clear c19
                        by_cases c20 : ((rd_L7 t399 x11_3).length : Int) = t402
                        · rw [if_pos c20] at H
                          have c20b0 : (((rd_L7 t399 x11_3).length : Int) == t402) = true := beq_iff_eq.mpr c20
                          have c20b1 : (((rd_L7 t399 x11_3).length : Int) != t402) = false := bne_eq_false_iff_eq.mpr c20
                          clear c20
                          by_cases c21 : x10_3 = true
                          · subst c21
                            have H1 : (if 0 ≤ x8_1 then (if x8_1 < ((rd_L7 t399 x11_3).length : Int) then (if 0 ≤ x9_2 then (if x9_2 < ((rd_L7 t399 x11_3).length : Int) then (hyphenlaw4_PartFewest.l2 k3 t393 t394 t399 t402 x8_1 x9_2 ((rdOf false (rd_L7 t399 x11_3) x8_1) == (rdOf false (rd_L7 t399 x11_3) x9_2)) (wrap64 (x11_3 + 1))) else (none)) else (none)) else (none)) else (none)) = some r := by rw [if_pos rfl] at H; exact H
                            clear H
                            have H := H1
                            clear H1
                            by_cases c22 : 0 ≤ x8_1
                            · rw [if_pos c22] at H
                              have c22b0 : decide (0 ≤ x8_1) = true := decide_eq_true c22
                              clear c22
                              by_cases c23 : x8_1 < ((rd_L7 t399 x11_3).length : Int)
                              · rw [if_pos c23] at H
                                have c23b0 : decide (x8_1 < ((rd_L7 t399 x11_3).length : Int)) = true := decide_eq_true c23
                                clear c23
                                by_cases c24 : 0 ≤ x9_2
                                · rw [if_pos c24] at H
                                  have c24b0 : decide (0 ≤ x9_2) = true := decide_eq_true c24
                                  clear c24
                                  by_cases c25 : x9_2 < ((rd_L7 t399 x11_3).length : Int)
                                  · rw [if_pos c25] at H
                                    have c25b0 : decide (x9_2 < ((rd_L7 t399 x11_3).length : Int)) = true := decide_eq_true c25
                                    clear c25
                                    have H' := Aside0.mk H
                                    clear H
                                    obtain ⟨Ao26, co26, eo26⟩ := Kd.R_slice HO_6.out
                                    subst eo26
                                    have p403 : 0 ≤ (x11_3 : Int) := of_decide_eq_true (by first | (with_reducible assumption) | assumption)
                                    have q403 : x11_3 < (t399.length : Int) := of_decide_eq_true (by first | (with_reducible assumption) | assumption)
                                    obtain ⟨ad403, A403_0, c403_0, e403, hx403_0, hl403_0, hi403_0⟩ := at_L7 (Kd.R_reads' HO_6.out).2.2 x11_3 p403 q403
                                    cases e403
                                    obtain ⟨ce403, hce403, hMe403, hcc403⟩ := Kd.R_get HO_6.out [] x11_3 p403 (by first | exact q403 | exact of_decide_eq_true (by first | (with_reducible assumption) | assumption) | (have e_ := (Kd.R_reads' HO_6.out).1; omega))
                                    obtain ⟨ve403_0, rfl, ge403_0⟩ := hMe403
                                    have hv403_0 := hcc403 0 _ rfl
                                    rw [Nat.add_zero, show ((Kd.slice 4 Kd.bool)).sz = 1 from rfl, Nat.mul_one] at hv403_0
                                    replace hv403_0 := Option.some.inj (hv403_0.symm.trans hx403_0)
                                    rw [hv403_0] at ge403_0
                                    have HL403_0 := Aside0.mk (show Kd.R Kd.bool 4 _ _ _ _ (rd_L7 t399 x11_3) from ge403_0)
                                    clear hv403_0 ge403_0
                                    clear hcc403 hce403
                                    have HR403_0 := Aside0.mk hi403_0
                                    have HC403_0 := Aside0.mk hl403_0
                                    clear hi403_0 hl403_0
                                    replace p403 := eq_true p403
                                    replace q403 := eq_true q403
                                    have p404 : 0 ≤ (x11_3 : Int) := of_decide_eq_true (by first | (with_reducible assumption) | assumption)
                                    have q404 : x11_3 < (t399.length : Int) := of_decide_eq_true (by first | (with_reducible assumption) | assumption)
                                    obtain ⟨ad404, A404_0, c404_0, e404, hx404_0, hl404_0, hi404_0⟩ := at_L7 (Kd.R_reads' HO_6.out).2.2 x11_3 p404 q404
                                    obtain rfl : ad403 = ad404 := (by injection e404)
                                    obtain ⟨ce404, hce404, hMe404, hcc404⟩ := Kd.R_get HO_6.out [] x11_3 p404 (by first | exact q404 | exact of_decide_eq_true (by first | (with_reducible assumption) | assumption) | (have e_ := (Kd.R_reads' HO_6.out).1; omega))
                                    obtain ⟨ve404_0, rfl, ge404_0⟩ := hMe404
                                    have hv404_0 := hcc404 0 _ rfl
                                    rw [Nat.add_zero, show ((Kd.slice 4 Kd.bool)).sz = 1 from rfl, Nat.mul_one] at hv404_0
                                    replace hv404_0 := Option.some.inj (hv404_0.symm.trans hx404_0)
                                    rw [hv404_0] at ge404_0
                                    have HL404_0 := Aside0.mk (show Kd.R Kd.bool 4 _ _ _ _ (rd_L7 t399 x11_3) from ge404_0)
                                    clear hv404_0 ge404_0
                                    clear hcc404 hce404
                                    have HR404_0 := Aside0.mk hi404_0
                                    have HC404_0 := Aside0.mk hl404_0
                                    clear hi404_0 hl404_0
                                    replace p404 := eq_true p404
                                    replace q404 := eq_true q404
                                    have ea_ := Option.some.inj (hx403_0.symm.trans hx404_0)
                                    injection ea_ with ea_ en_ ec_
                                    subst ea_
                                    subst ec_
                                    clear en_
                                    have p405 : 0 ≤ (x8_1 : Int) := of_decide_eq_true (by first | (with_reducible assumption) | assumption)
                                    have q405 : x8_1 < ((rd_L7 t399 x11_3).length : Int) := of_decide_eq_true (by first | (with_reducible assumption) | assumption)
                                    obtain ⟨ad405, e405, hx405_0⟩ := Kd.at_bool (by repeat (first | (with_reducible exact HR404_0.out) | (with_reducible refine Kd.C_alloc ?_ _) | (with_reducible refine Kd.C_drewN ?_ _) | (with_reducible refine Kd.C_drew ?_) | exact HR404_0.out)) x8_1 p405 q405
                                    cases e405
                                    replace p405 := eq_true p405
                                    replace q405 := eq_true q405
                                    have p406 : 0 ≤ (x11_3 : Int) := of_decide_eq_true (by first | (with_reducible assumption) | assumption)
                                    have q406 : x11_3 < (t399.length : Int) := of_decide_eq_true (by first | (with_reducible assumption) | assumption)
                                    obtain ⟨ad406, A406_0, c406_0, e406, hx406_0, hl406_0, hi406_0⟩ := at_L7 (Kd.R_reads' HO_6.out).2.2 x11_3 p406 q406
                                    obtain rfl : ad403 = ad406 := (by injection e406)
                                    obtain ⟨ce406, hce406, hMe406, hcc406⟩ := Kd.R_get HO_6.out [] x11_3 p406 (by first | exact q406 | exact of_decide_eq_true (by first | (with_reducible assumption) | assumption) | (have e_ := (Kd.R_reads' HO_6.out).1; omega))
                                    obtain ⟨ve406_0, rfl, ge406_0⟩ := hMe406
                                    have hv406_0 := hcc406 0 _ rfl
                                    rw [Nat.add_zero, show ((Kd.slice 4 Kd.bool)).sz = 1 from rfl, Nat.mul_one] at hv406_0
                                    replace hv406_0 := Option.some.inj (hv406_0.symm.trans hx406_0)
                                    rw [hv406_0] at ge406_0
                                    have HL406_0 := Aside0.mk (show Kd.R Kd.bool 4 _ _ _ _ (rd_L7 t399 x11_3) from ge406_0)
                                    clear hv406_0 ge406_0
                                    clear hcc406 hce406
                                    have HR406_0 := Aside0.mk hi406_0
                                    have HC406_0 := Aside0.mk hl406_0
                                    clear hi406_0 hl406_0
                                    replace p406 := eq_true p406
                                    replace q406 := eq_true q406
                                    have ea_ := Option.some.inj (hx403_0.symm.trans hx406_0)
                                    injection ea_ with ea_ en_ ec_
                                    subst ea_
                                    subst ec_
                                    clear en_
                                    have p407 : 0 ≤ (x9_2 : Int) := of_decide_eq_true (by first | (with_reducible assumption) | assumption)
                                    have q407 : x9_2 < ((rd_L7 t399 x11_3).length : Int) := of_decide_eq_true (by first | (with_reducible assumption) | assumption)
                                    obtain ⟨ad407, e407, hx407_0⟩ := Kd.at_bool (by repeat (first | (with_reducible exact HR406_0.out) | (with_reducible refine Kd.C_alloc ?_ _) | (with_reducible refine Kd.C_drewN ?_ _) | (with_reducible refine Kd.C_drew ?_) | exact HR406_0.out)) x9_2 p407 q407
                                    cases e407
                                    replace p407 := eq_true p407
                                    replace q407 := eq_true q407
                                    go_wp2
                                    repeat (go_quiet (fail); try go_wp2)
                                    go_roundg k3
                                    case measure => have := HK1.out; have := HK2.out; have := HK3.out; omega
                                    case rel => exact ⟨(((rdOf false (rd_L7 t399 x11_3) x8_1) == (rdOf false (rd_L7 t399 x11_3) x9_2))), (wrap64 (x11_3 + 1)), (by first | rfl | (simp; done) | (simp [*]; done)), (by first | rfl | (simp; done) | (simp [*]; done)), H', ⟨by have := HK1.out; have := HK2.out; have := HK3.out; omega⟩, ⟨by (with_reducible repeat (first | apply Kd.R_alloc | apply Kd.R_drewN | apply Kd.R_drew)); exact HO_4.out⟩, ⟨by (with_reducible repeat (first | apply Kd.R_alloc | apply Kd.R_drewN | apply Kd.R_drew)); exact HO_5.out⟩, ⟨by (with_reducible repeat (first | apply Kd.R_alloc | apply Kd.R_drewN | apply Kd.R_drew)); exact HO_6.out⟩, ⟨by repeat (first | (with_reducible first | exact HB.out | apply below_alloc | apply pw_below_drewN | apply below_drew1) | exact HB.out)⟩⟩
                                  · rw [if_neg c25] at H
                                    exact absurd H (by simp)
                                · rw [if_neg c24] at H
                                  exact absurd H (by simp)
                              · rw [if_neg c23] at H
                                exact absurd H (by simp)
                            · rw [if_neg c22] at H
                              exact absurd H (by simp)
                          · replace c21 := Bool.eq_false_iff.mpr c21
                            subst c21
                            have H1 : (hyphenlaw4_PartFewest.l2 k3 t393 t394 t399 t402 x8_1 x9_2 false (wrap64 (x11_3 + 1))) = some r := by rw [if_neg (show ¬ (false = true) by decide)] at H; exact H
                            clear H
                            have H := H1
                            clear H1
                            have H' := Aside0.mk H
                            clear H
                            obtain ⟨Ao27, co27, eo27⟩ := Kd.R_slice HO_6.out
                            subst eo27
                            have p403 : 0 ≤ (x11_3 : Int) := of_decide_eq_true (by first | (with_reducible assumption) | assumption)
                            have q403 : x11_3 < (t399.length : Int) := of_decide_eq_true (by first | (with_reducible assumption) | assumption)
                            obtain ⟨ad403, A403_0, c403_0, e403, hx403_0, hl403_0, hi403_0⟩ := at_L7 (Kd.R_reads' HO_6.out).2.2 x11_3 p403 q403
                            cases e403
                            obtain ⟨ce403, hce403, hMe403, hcc403⟩ := Kd.R_get HO_6.out [] x11_3 p403 (by first | exact q403 | exact of_decide_eq_true (by first | (with_reducible assumption) | assumption) | (have e_ := (Kd.R_reads' HO_6.out).1; omega))
                            obtain ⟨ve403_0, rfl, ge403_0⟩ := hMe403
                            have hv403_0 := hcc403 0 _ rfl
                            rw [Nat.add_zero, show ((Kd.slice 4 Kd.bool)).sz = 1 from rfl, Nat.mul_one] at hv403_0
                            replace hv403_0 := Option.some.inj (hv403_0.symm.trans hx403_0)
                            rw [hv403_0] at ge403_0
                            have HL403_0 := Aside0.mk (show Kd.R Kd.bool 4 _ _ _ _ (rd_L7 t399 x11_3) from ge403_0)
                            clear hv403_0 ge403_0
                            clear hcc403 hce403
                            have HR403_0 := Aside0.mk hi403_0
                            have HC403_0 := Aside0.mk hl403_0
                            clear hi403_0 hl403_0
                            replace p403 := eq_true p403
                            replace q403 := eq_true q403
                            go_wp2
                            repeat (go_quiet (fail); try go_wp2)
                            go_roundg k3
                            case measure => have := HK1.out; have := HK2.out; have := HK3.out; omega
                            case rel => exact ⟨(false), (wrap64 (x11_3 + 1)), (by first | rfl | (simp; done) | (simp [*]; done)), (by first | rfl | (simp; done) | (simp [*]; done)), H', ⟨by have := HK1.out; have := HK2.out; have := HK3.out; omega⟩, ⟨by (with_reducible repeat (first | apply Kd.R_alloc | apply Kd.R_drewN | apply Kd.R_drew)); exact HO_4.out⟩, ⟨by (with_reducible repeat (first | apply Kd.R_alloc | apply Kd.R_drewN | apply Kd.R_drew)); exact HO_5.out⟩, ⟨by (with_reducible repeat (first | apply Kd.R_alloc | apply Kd.R_drewN | apply Kd.R_drew)); exact HO_6.out⟩, ⟨by repeat (first | (with_reducible first | exact HB.out | apply below_alloc | apply pw_below_drewN | apply below_drew1) | exact HB.out)⟩⟩
                        · rw [if_neg c20] at H
                          exact absurd H (by simp)
                      · rw [if_neg c19] at H
                        exact absurd H (by simp)
                    · rw [if_neg c18] at H
                      have c18b0 : decide (x11_3 < (t399.length : Int)) = false := decide_eq_false c18
                      clear c18
                      by_cases c28 : x10_3 = true
                      · subst c28
                        have H1 : (none) = some r := by rw [if_pos rfl] at H; exact H
                        clear H
                        have H := H1
                        clear H1
                        exact absurd H (by simp)
                      · replace c28 := Bool.eq_false_iff.mpr c28
                        subst c28
                        have H1 : (hyphenlaw4_PartFewest.l1 k3 t393 t394 t399 t402 x8_1 (wrap64 (x9_2 + 1))) = some r := by rw [if_neg (show ¬ (false = true) by decide)] at H; exact H
                        clear H
                        have H := H1
                        clear H1
                        have H' := Aside0.mk H
                        clear H
                        obtain ⟨Ao29, co29, eo29⟩ := Kd.R_slice HO_6.out
                        subst eo29
                        go_wp2
                        repeat (go_quiet (fail); try go_wp2)
                        go_roundg k3
                        case measure => have := HK1.out; have := HK2.out; have := HK3.out; omega
                        case rel => exact ⟨(wrap64 (x9_2 + 1)), (by first | rfl | (simp; done) | (simp [*]; done)), H', ⟨by have := HK1.out; have := HK2.out; have := HK3.out; omega⟩, ⟨by (with_reducible repeat (first | apply Kd.R_alloc | apply Kd.R_drewN | apply Kd.R_drew)); exact HO_4.out⟩, ⟨by (with_reducible repeat (first | apply Kd.R_alloc | apply Kd.R_drewN | apply Kd.R_drew)); exact HO_5.out⟩, ⟨by (with_reducible repeat (first | apply Kd.R_alloc | apply Kd.R_drewN | apply Kd.R_drew)); exact HO_6.out⟩, ⟨by repeat (first | (with_reducible first | exact HB.out | apply below_alloc | apply pw_below_drewN | apply below_drew1) | exact HB.out)⟩⟩
              · rw [if_neg c17] at H
                have c17b0 : decide (x9_2 < x8_1) = false := decide_eq_false c17
                clear c17
                have H' := Aside0.mk H
                clear H
                go_wp2
                repeat (go_quiet (fail); try go_wp2)
                go_roundg k2
                case measure => have := HK1.out; have := HK2.out; omega
                case rel => exact ⟨(wrap64 (x8_1 + 1)), (by first | rfl | (simp; done) | (simp [*]; done)), H', ⟨by have := HK1.out; have := HK2.out; omega⟩, ⟨by (with_reducible repeat (first | apply Kd.R_alloc | apply Kd.R_drewN | apply Kd.R_drew)); exact HO_4.out⟩, ⟨by (with_reducible repeat (first | apply Kd.R_alloc | apply Kd.R_drewN | apply Kd.R_drew)); exact HO_5.out⟩, ⟨by (with_reducible repeat (first | apply Kd.R_alloc | apply Kd.R_drewN | apply Kd.R_drew)); exact HO_6.out⟩, ⟨by repeat (first | (with_reducible first | exact HB.out | apply below_alloc | apply pw_below_drewN | apply below_drew1) | exact HB.out)⟩⟩
        · rw [if_neg c16] at H
          have c16b0 : decide (x8_1 < t402) = false := decide_eq_false c16
          clear c16
          have H' := Aside0.mk H
          clear H
          go_wp2
          repeat (go_quiet (fail); try go_wp2)
          go_loopg [12, 13] k1 (fun kq v12 v13 w' => ∃ (x12_2 : Int) (x13_2 : Int), v12 = .int .i64 x12_2 ∧ v13 = .int .i64 x13_2 ∧ Aside0 (hyphenlaw4_PartFewest.l3 kq t393 t394 t402 x12_2 x13_2 = some r) ∧ Aside0 (kq ≤ k1) ∧ Aside0 (Kd.R (Kd.int .i64) 3 w' w.heap.size (fun k_ => some k_ ≠ ((.slice Ao13 t394.length co13) : Value).ownBlock) (.slice Ao12 t393.length co12) t393) ∧ Aside0 (Kd.R (Kd.int .i64) 3 w' w.heap.size (fun k_ => some k_ ≠ ((.slice Ao12 t393.length co12) : Value).ownBlock) (.slice Ao13 t394.length co13) t394) ∧ Aside0 (Below w.heap.size w w'))
          case atStart => exact ⟨(0), (0), (by first | rfl | (simp; done) | (simp [*]; done)), (by first | rfl | (simp; done) | (simp [*]; done)), H', ⟨Nat.le_refl _⟩, ⟨by (with_reducible repeat (first | apply Kd.R_alloc | apply Kd.R_drewN | apply Kd.R_drew)); exact HO_4.out⟩, ⟨by (with_reducible repeat (first | apply Kd.R_alloc | apply Kd.R_drewN | apply Kd.R_drew)); exact HO_5.out⟩, ⟨by repeat (first | (with_reducible first | exact HB.out | apply below_alloc | apply pw_below_drewN | apply below_drew1) | exact HB.out)⟩⟩
          case round =>
            clear H'
            try clear c1
            try clear c2
            try clear p2
            try clear c3
            try clear c4
            try clear p4
            try clear q4
            try clear hx4
            try clear c6
            try clear p6
            try clear c16
            try clear c16b0
            try clear c17
            try clear c17b0
            try clear c18
            try clear c18b0
            try clear c19
            try clear c19b0
            try clear c20
            try clear c20b0
            try clear c20b1
            try clear c21
            try clear c22
            try clear c22b0
            try clear c23
            try clear c23b0
            try clear c24
            try clear c24b0
            try clear c25
            try clear c25b0
            try clear c28
            try clear hx403_0
            try clear hx404_0
            try clear hx405_0
            try clear hx406_0
            try clear hx407_0
            try clear p2
            try clear p403
            try clear p404
            try clear p405
            try clear p406
            try clear p407
            try clear q403
            try clear q404
            try clear q405
            try clear q406
            try clear q407
            obtain ⟨x12_2, x13_2, rfl, rfl, HA, HK2, HO_4, HO_5, HB⟩ := hrel
            cases gk with
            | zero => exact absurd HA.out (by simp [hyphenlaw4_PartFewest.l3])
            | succ k2 =>
              have H := HA.out
              clear HA
              simp only [hyphenlaw4_PartFewest.l3] at H
              by_cases c30 : x13_2 < (t394.length : Int)
              · rw [if_pos c30] at H
                have c30b0 : decide (x13_2 < (t394.length : Int)) = true := decide_eq_true c30
                clear c30
                have HC31 := Aside0.mk H
                clear H
                go_upto_region 26 with (fail)
                repeat (go_quiet (fail); go_upto_region 26 with (fail))
                go_cut [117] (fun v117 wc => ∃ (kq : Nat) (x117_30 : Bool), v117 = .bool x117_30 ∧ Aside0 (hyphenlaw4_PartFewest.j4 kq t393 t394 t402 x12_2 x13_2 x117_30 = some r) ∧ Aside0 (kq ≤ k2) ∧ Aside0 (Kd.R (Kd.int .i64) 3 wc w.heap.size (fun k_ => some k_ ≠ ((.slice Ao13 t394.length co13) : Value).ownBlock) (.slice Ao12 t393.length co12) t393) ∧ Aside0 (Kd.R (Kd.int .i64) 3 wc w.heap.size (fun k_ => some k_ ≠ ((.slice Ao12 t393.length co12) : Value).ownBlock) (.slice Ao13 t394.length co13) t394) ∧ Aside0 (Below w.heap.size w wc))
                case first =>
                  have H := HC31.out
                  clear HC31
                  by_cases c32 : 0 ≤ x13_2
                  · rw [if_pos c32] at H
                    have c32b0 : decide (0 ≤ x13_2) = true := decide_eq_true c32
                    clear c32
                    (first | rw [c32b0] | (simp only [i64_w, i32_w]; rw [c32b0]) | skip)
                    by_cases c33 : (rd t394 x13_2) > x12_2
                    · rw [if_pos c33] at H
                      have c33b0 : decide (x12_2 < (rd t394 x13_2)) = true := decide_eq_true c33
                      clear c33
                      have H' := Aside0.mk H
                      clear H
                      have p408 : 0 ≤ (x13_2 : Int) := of_decide_eq_true (by first | (with_reducible assumption) | assumption)
                      have q408 : x13_2 < (t394.length : Int) := of_decide_eq_true (by first | (with_reducible assumption) | assumption)
                      obtain ⟨ad408, e408, hx408_0⟩ := Kd.at_int (Kd.R_reads' HO_5.out).2.2 x13_2 p408 q408
                      cases e408
                      replace p408 := eq_true p408
                      replace q408 := eq_true q408
                      go_wp2
                      repeat (go_quiet (fail); try go_wp2)
                      go_meet
                      case rel => exact ⟨_, (true), (by first | rfl | (simp; done) | (simp [*]; done)), H', ⟨by have := HK1.out; have := HK2.out; first | omega | exact Nat.le_refl _⟩, ⟨by (with_reducible repeat (first | apply Kd.R_alloc | apply Kd.R_drewN | apply Kd.R_drew)); exact HO_4.out⟩, ⟨by (with_reducible repeat (first | apply Kd.R_alloc | apply Kd.R_drewN | apply Kd.R_drew)); exact HO_5.out⟩, ⟨by repeat (first | (with_reducible first | exact HB.out | apply below_alloc | apply pw_below_drewN | apply below_drew1) | exact HB.out)⟩⟩
                    · rw [if_neg c33] at H
                      have c33b0 : decide (x12_2 < (rd t394 x13_2)) = false := decide_eq_false c33
                      clear c33
                      by_cases c34 : (rd t394 x13_2) < 0
                      · rw [if_pos c34] at H
                        have c34b0 : decide ((rd t394 x13_2) < 0) = true := decide_eq_true c34
                        clear c34
                        have H' := Aside0.mk H
                        clear H
                        have p408 : 0 ≤ (x13_2 : Int) := of_decide_eq_true (by first | (with_reducible assumption) | assumption)
                        have q408 : x13_2 < (t394.length : Int) := of_decide_eq_true (by first | (with_reducible assumption) | assumption)
                        obtain ⟨ad408, e408, hx408_0⟩ := Kd.at_int (Kd.R_reads' HO_5.out).2.2 x13_2 p408 q408
                        cases e408
                        replace p408 := eq_true p408
                        replace q408 := eq_true q408
                        have p409 : 0 ≤ (x13_2 : Int) := of_decide_eq_true (by first | (with_reducible assumption) | assumption)
                        have q409 : x13_2 < (t394.length : Int) := of_decide_eq_true (by first | (with_reducible assumption) | assumption)
                        obtain ⟨ad409, e409, hx409_0⟩ := Kd.at_int (Kd.R_reads' HO_5.out).2.2 x13_2 p409 q409
                        obtain rfl : ad408 = ad409 := (by injection e409)
                        replace p409 := eq_true p409
                        replace q409 := eq_true q409
                        go_wp2
                        repeat (go_quiet (fail); try go_wp2)
                        go_meet
                        case rel => exact ⟨_, (true), (by first | rfl | (simp; done) | (simp [*]; done)), H', ⟨by have := HK1.out; have := HK2.out; first | omega | exact Nat.le_refl _⟩, ⟨by (with_reducible repeat (first | apply Kd.R_alloc | apply Kd.R_drewN | apply Kd.R_drew)); exact HO_4.out⟩, ⟨by (with_reducible repeat (first | apply Kd.R_alloc | apply Kd.R_drewN | apply Kd.R_drew)); exact HO_5.out⟩, ⟨by repeat (first | (with_reducible first | exact HB.out | apply below_alloc | apply pw_below_drewN | apply below_drew1) | exact HB.out)⟩⟩
                      · rw [if_neg c34] at H
                        have c34b0 : decide ((rd t394 x13_2) < 0) = false := decide_eq_false c34
                        clear c34
                        by_cases c35 : x13_2 > 0
                        · rw [if_pos c35] at H
                          have c35b0 : decide (0 < x13_2) = true := decide_eq_true c35
                          clear c35
                          by_cases c36 : x13_2 < (t393.length : Int)
                          · rw [if_pos c36] at H
                            have c36b0 : decide (x13_2 < (t393.length : Int)) = true := decide_eq_true c36
                            clear c36
                            obtain ⟨ji37, hji37⟩ : ∃ j_ : Int, (wrap64 (x13_2 - 1)) = j_ := ⟨_, rfl⟩
                            replace H : (if 0 ≤ (ji37) then (if (ji37) < (t393.length : Int) then (if (rd t393 x13_2) ≤ (rd t393 (ji37)) then (hyphenlaw4_PartFewest.j4 k2 t393 t394 t402 x12_2 x13_2 true) else (if (ji37) < (t394.length : Int) then (hyphenlaw4_PartFewest.j4 k2 t393 t394 t402 x12_2 x13_2 ((rd t394 x13_2) == (rd t394 (ji37)))) else (none))) else (none)) else (none)) = some r := by first | (rw [hji37] at H; exact H) | (simp only [hji37] at H ⊢; exact H)
                            have hji37w : (IntKind.i64.wrap (x13_2 - 1)) = ji37 := (i64_w _).trans hji37
                            by_cases c38 : 0 ≤ (ji37)
                            · rw [if_pos c38] at H
                              have c38b0 : decide (0 ≤ (ji37)) = true := decide_eq_true c38
                              clear c38
                              by_cases c39 : (ji37) < (t393.length : Int)
                              · rw [if_pos c39] at H
                                have c39b0 : decide ((ji37) < (t393.length : Int)) = true := decide_eq_true c39
                                clear c39
                                by_cases c40 : (rd t393 x13_2) ≤ (rd t393 (ji37))
                                · rw [if_pos c40] at H
                                  have c40b0 : decide ((rd t393 x13_2) ≤ (rd t393 (ji37))) = true := decide_eq_true c40
                                  clear c40
                                  have H' := Aside0.mk H
                                  clear H
                                  have p408 : 0 ≤ (x13_2 : Int) := of_decide_eq_true (by first | (with_reducible assumption) | assumption)
                                  have q408 : x13_2 < (t394.length : Int) := of_decide_eq_true (by first | (with_reducible assumption) | assumption)
                                  obtain ⟨ad408, e408, hx408_0⟩ := Kd.at_int (Kd.R_reads' HO_5.out).2.2 x13_2 p408 q408
                                  cases e408
                                  replace p408 := eq_true p408
                                  replace q408 := eq_true q408
                                  have p409 : 0 ≤ (x13_2 : Int) := of_decide_eq_true (by first | (with_reducible assumption) | assumption)
                                  have q409 : x13_2 < (t394.length : Int) := of_decide_eq_true (by first | (with_reducible assumption) | assumption)
                                  obtain ⟨ad409, e409, hx409_0⟩ := Kd.at_int (Kd.R_reads' HO_5.out).2.2 x13_2 p409 q409
                                  obtain rfl : ad408 = ad409 := (by injection e409)
                                  replace p409 := eq_true p409
                                  replace q409 := eq_true q409
                                  have p410 : 0 ≤ (x13_2 : Int) := of_decide_eq_true (by first | (with_reducible assumption) | assumption)
                                  have q410 : x13_2 < (t393.length : Int) := of_decide_eq_true (by first | (with_reducible assumption) | assumption)
                                  obtain ⟨ad410, e410, hx410_0⟩ := Kd.at_int (Kd.R_reads' HO_4.out).2.2 x13_2 p410 q410
                                  cases e410
                                  replace p410 := eq_true p410
                                  replace q410 := eq_true q410
                                  have p411 : 0 ≤ ((ji37) : Int) := of_decide_eq_true (by first | (with_reducible assumption) | assumption)
                                  have q411 : (ji37) < (t393.length : Int) := of_decide_eq_true (by first | (with_reducible assumption) | assumption)
                                  obtain ⟨ad411, e411, hx411_0⟩ := Kd.at_int (Kd.R_reads' HO_4.out).2.2 (ji37) p411 q411
                                  obtain rfl : ad410 = ad411 := (by injection e411)
                                  replace p411 := eq_true p411
                                  replace q411 := eq_true q411
                                  go_wp2
                                  repeat (go_quiet (fail); try go_wp2)
                                  go_meet
                                  case rel => exact ⟨_, (true), (by first | rfl | (simp; done) | (simp [*]; done)), H', ⟨by have := HK1.out; have := HK2.out; first | omega | exact Nat.le_refl _⟩, ⟨by (with_reducible repeat (first | apply Kd.R_alloc | apply Kd.R_drewN | apply Kd.R_drew)); exact HO_4.out⟩, ⟨by (with_reducible repeat (first | apply Kd.R_alloc | apply Kd.R_drewN | apply Kd.R_drew)); exact HO_5.out⟩, ⟨by repeat (first | (with_reducible first | exact HB.out | apply below_alloc | apply pw_below_drewN | apply below_drew1) | exact HB.out)⟩⟩
                                · rw [if_neg c40] at H
                                  have c40b0 : decide ((rd t393 x13_2) ≤ (rd t393 (ji37))) = false := decide_eq_false c40
                                  clear c40
                                  by_cases c41 : (ji37) < (t394.length : Int)
                                  · rw [if_pos c41] at H
                                    have c41b0 : decide ((ji37) < (t394.length : Int)) = true := decide_eq_true c41
                                    clear c41
                                    have H' := Aside0.mk H
                                    clear H
                                    have p408 : 0 ≤ (x13_2 : Int) := of_decide_eq_true (by first | (with_reducible assumption) | assumption)
                                    have q408 : x13_2 < (t394.length : Int) := of_decide_eq_true (by first | (with_reducible assumption) | assumption)
                                    obtain ⟨ad408, e408, hx408_0⟩ := Kd.at_int (Kd.R_reads' HO_5.out).2.2 x13_2 p408 q408
                                    cases e408
                                    replace p408 := eq_true p408
                                    replace q408 := eq_true q408
                                    have p409 : 0 ≤ (x13_2 : Int) := of_decide_eq_true (by first | (with_reducible assumption) | assumption)
                                    have q409 : x13_2 < (t394.length : Int) := of_decide_eq_true (by first | (with_reducible assumption) | assumption)
                                    obtain ⟨ad409, e409, hx409_0⟩ := Kd.at_int (Kd.R_reads' HO_5.out).2.2 x13_2 p409 q409
                                    obtain rfl : ad408 = ad409 := (by injection e409)
                                    replace p409 := eq_true p409
                                    replace q409 := eq_true q409
                                    have p410 : 0 ≤ (x13_2 : Int) := of_decide_eq_true (by first | (with_reducible assumption) | assumption)
                                    have q410 : x13_2 < (t393.length : Int) := of_decide_eq_true (by first | (with_reducible assumption) | assumption)
                                    obtain ⟨ad410, e410, hx410_0⟩ := Kd.at_int (Kd.R_reads' HO_4.out).2.2 x13_2 p410 q410
                                    cases e410
                                    replace p410 := eq_true p410
                                    replace q410 := eq_true q410
                                    have p411 : 0 ≤ ((ji37) : Int) := of_decide_eq_true (by first | (with_reducible assumption) | assumption)
                                    have q411 : (ji37) < (t393.length : Int) := of_decide_eq_true (by first | (with_reducible assumption) | assumption)
                                    obtain ⟨ad411, e411, hx411_0⟩ := Kd.at_int (Kd.R_reads' HO_4.out).2.2 (ji37) p411 q411
                                    obtain rfl : ad410 = ad411 := (by injection e411)
                                    replace p411 := eq_true p411
                                    replace q411 := eq_true q411
                                    have p412 : 0 ≤ (x13_2 : Int) := of_decide_eq_true (by first | (with_reducible assumption) | assumption)
                                    have q412 : x13_2 < (t394.length : Int) := of_decide_eq_true (by first | (with_reducible assumption) | assumption)
                                    obtain ⟨ad412, e412, hx412_0⟩ := Kd.at_int (Kd.R_reads' HO_5.out).2.2 x13_2 p412 q412
                                    obtain rfl : ad408 = ad412 := (by injection e412)
                                    replace p412 := eq_true p412
                                    replace q412 := eq_true q412
                                    have p413 : 0 ≤ ((ji37) : Int) := of_decide_eq_true (by first | (with_reducible assumption) | assumption)
                                    have q413 : (ji37) < (t394.length : Int) := of_decide_eq_true (by first | (with_reducible assumption) | assumption)
                                    obtain ⟨ad413, e413, hx413_0⟩ := Kd.at_int (Kd.R_reads' HO_5.out).2.2 (ji37) p413 q413
                                    obtain rfl : ad408 = ad413 := (by injection e413)
                                    replace p413 := eq_true p413
                                    replace q413 := eq_true q413
                                    go_wp2
                                    repeat (go_quiet (fail); try go_wp2)
                                    go_meet
                                    case rel => exact ⟨_, (((rd t394 x13_2) == (rd t394 (ji37)))), (by first | rfl | (simp; done) | (simp only [← hji37] <;> (first | rfl | simp)) | (simp [*]; done)), H', ⟨by have := HK1.out; have := HK2.out; first | omega | exact Nat.le_refl _⟩, ⟨by (with_reducible repeat (first | apply Kd.R_alloc | apply Kd.R_drewN | apply Kd.R_drew)); exact HO_4.out⟩, ⟨by (with_reducible repeat (first | apply Kd.R_alloc | apply Kd.R_drewN | apply Kd.R_drew)); exact HO_5.out⟩, ⟨by repeat (first | (with_reducible first | exact HB.out | apply below_alloc | apply pw_below_drewN | apply below_drew1) | exact HB.out)⟩⟩
                                  · rw [if_neg c41] at H
                                    exact absurd H (by simp)
                              · rw [if_neg c39] at H
                                exact absurd H (by simp)
                            · rw [if_neg c38] at H
                              exact absurd H (by simp)
                          · rw [if_neg c36] at H
                            exact absurd H (by simp)
                        · rw [if_neg c35] at H
                          have c35b0 : decide (0 < x13_2) = false := decide_eq_false c35
                          clear c35
                          have H' := Aside0.mk H
                          clear H
                          have p408 : 0 ≤ (x13_2 : Int) := of_decide_eq_true (by first | (with_reducible assumption) | assumption)
                          have q408 : x13_2 < (t394.length : Int) := of_decide_eq_true (by first | (with_reducible assumption) | assumption)
                          obtain ⟨ad408, e408, hx408_0⟩ := Kd.at_int (Kd.R_reads' HO_5.out).2.2 x13_2 p408 q408
                          cases e408
                          replace p408 := eq_true p408
                          replace q408 := eq_true q408
                          have p409 : 0 ≤ (x13_2 : Int) := of_decide_eq_true (by first | (with_reducible assumption) | assumption)
                          have q409 : x13_2 < (t394.length : Int) := of_decide_eq_true (by first | (with_reducible assumption) | assumption)
                          obtain ⟨ad409, e409, hx409_0⟩ := Kd.at_int (Kd.R_reads' HO_5.out).2.2 x13_2 p409 q409
                          obtain rfl : ad408 = ad409 := (by injection e409)
                          replace p409 := eq_true p409
                          replace q409 := eq_true q409
                          go_wp2
                          repeat (go_quiet (fail); try go_wp2)
                          go_meet
                          case rel => exact ⟨_, (false), (by first | rfl | (simp; done) | (simp [*]; done)), H', ⟨by have := HK1.out; have := HK2.out; first | omega | exact Nat.le_refl _⟩, ⟨by (with_reducible repeat (first | apply Kd.R_alloc | apply Kd.R_drewN | apply Kd.R_drew)); exact HO_4.out⟩, ⟨by (with_reducible repeat (first | apply Kd.R_alloc | apply Kd.R_drewN | apply Kd.R_drew)); exact HO_5.out⟩, ⟨by repeat (first | (with_reducible first | exact HB.out | apply below_alloc | apply pw_below_drewN | apply below_drew1) | exact HB.out)⟩⟩
                  · rw [if_neg c32] at H
                    exact absurd H (by simp)
                case rest =>
                  clear HC31
                  try clear c1
                  try clear c2
                  try clear p2
                  try clear c3
                  try clear c4
                  try clear p4
                  try clear q4
                  try clear hx4
                  try clear c6
                  try clear p6
                  try clear c16
                  try clear c16b0
                  try clear c17
                  try clear c17b0
                  try clear c18
                  try clear c18b0
                  try clear c19
                  try clear c19b0
                  try clear c20
                  try clear c20b0
                  try clear c20b1
                  try clear c21
                  try clear c22
                  try clear c22b0
                  try clear c23
                  try clear c23b0
                  try clear c24
                  try clear c24b0
                  try clear c25
                  try clear c25b0
                  try clear c28
                  try clear c30
                  try clear c30b0
                  try clear c32
                  try clear c32b0
                  try clear c33
                  try clear c33b0
                  try clear c34
                  try clear c34b0
                  try clear c35
                  try clear c35b0
                  try clear c36
                  try clear c36b0
                  try clear c38
                  try clear c38b0
                  try clear c39
                  try clear c39b0
                  try clear c40
                  try clear c40b0
                  try clear p40
                  try clear q40
                  try clear hx40
                  try clear c41
                  try clear c41b0
                  try clear p41
                  try clear q41
                  try clear hx41
                  try clear hx403_0
                  try clear hx404_0
                  try clear hx405_0
                  try clear hx406_0
                  try clear hx407_0
                  try clear hx408_0
                  try clear hx409_0
                  try clear hx410_0
                  try clear hx411_0
                  try clear hx412_0
                  try clear hx413_0
                  try clear p2
                  try clear p4
                  try clear p403
                  try clear p404
                  try clear p405
                  try clear p406
                  try clear p407
                  try clear p408
                  try clear p409
                  try clear p410
                  try clear p411
                  try clear p412
                  try clear p413
                  try clear p6
                  try clear q4
                  try clear q403
                  try clear q404
                  try clear q405
                  try clear q406
                  try clear q407
                  try clear q408
                  try clear q409
                  try clear q410
                  try clear q411
                  try clear q412
                  try clear q413
                  obtain ⟨kq, x117_30, rfl, HA, HJ30, HO_4, HO_5, HB⟩ := hcut
                  cases kq with
                  | zero => exact absurd HA.out (by simp [hyphenlaw4_PartFewest.j4])
                  | succ kj30 =>
                    have H := HA.out
                    clear HA
                    simp only [hyphenlaw4_PartFewest.j4] at H
                    by_cases c42 : x117_30 = true
                    · subst c42
                      have H1 : (none) = some r := by rw [if_pos rfl] at H; exact H
                      clear H
                      have H := H1
                      clear H1
                      exact absurd H (by simp)
                    · replace c42 := Bool.eq_false_iff.mpr c42
                      subst c42
                      have H1 : (if 0 ≤ x13_2 then (if x13_2 < (t394.length : Int) then (if (rd t394 x13_2) = x12_2 then (hyphenlaw4_PartFewest.l3 kj30 t393 t394 t402 (wrap64 (x12_2 + 1)) (wrap64 (x13_2 + 1))) else (hyphenlaw4_PartFewest.l3 kj30 t393 t394 t402 x12_2 (wrap64 (x13_2 + 1)))) else (none)) else (none)) = some r := by rw [if_neg (show ¬ (false = true) by decide)] at H; exact H
                      clear H
                      have H := H1
                      clear H1
                      by_cases c43 : 0 ≤ x13_2
                      · rw [if_pos c43] at H
                        have c43b0 : decide (0 ≤ x13_2) = true := decide_eq_true c43
                        clear c43
                        by_cases c44 : x13_2 < (t394.length : Int)
                        · rw [if_pos c44] at H
                          have c44b0 : decide (x13_2 < (t394.length : Int)) = true := decide_eq_true c44
                          clear c44
                          by_cases c45 : (rd t394 x13_2) = x12_2
                          · rw [if_pos c45] at H
                            have c45b0 : ((rd t394 x13_2) == x12_2) = true := beq_iff_eq.mpr c45
                            have c45b1 : ((rd t394 x13_2) != x12_2) = false := bne_eq_false_iff_eq.mpr c45
                            clear c45
                            have H' := Aside0.mk H
                            clear H
                            have p414 : 0 ≤ (x13_2 : Int) := of_decide_eq_true (by first | (with_reducible assumption) | assumption)
                            have q414 : x13_2 < (t394.length : Int) := of_decide_eq_true (by first | (with_reducible assumption) | assumption)
                            obtain ⟨ad414, e414, hx414_0⟩ := Kd.at_int (Kd.R_reads' HO_5.out).2.2 x13_2 p414 q414
                            cases e414
                            replace p414 := eq_true p414
                            replace q414 := eq_true q414
                            go_wp2
                            repeat (go_quiet (fail); try go_wp2)
                            go_roundg kj30
                            case measure => have := HK1.out; have := HK2.out; have := HJ30.out; omega
                            case rel => exact ⟨(wrap64 (x12_2 + 1)), (wrap64 (x13_2 + 1)), (by first | rfl | (simp; done) | (simp [*]; done)), (by first | rfl | (simp; done) | (simp [*]; done)), H', ⟨by have := HK1.out; have := HK2.out; have := HJ30.out; omega⟩, ⟨by (with_reducible repeat (first | apply Kd.R_alloc | apply Kd.R_drewN | apply Kd.R_drew)); exact HO_4.out⟩, ⟨by (with_reducible repeat (first | apply Kd.R_alloc | apply Kd.R_drewN | apply Kd.R_drew)); exact HO_5.out⟩, ⟨by repeat (first | (with_reducible first | exact HB.out | apply below_alloc | apply pw_below_drewN | apply below_drew1) | exact HB.out)⟩⟩
                          · rw [if_neg c45] at H
                            have c45b0 : ((rd t394 x13_2) == x12_2) = false := beq_eq_false_iff_ne.mpr c45
                            have c45b1 : ((rd t394 x13_2) != x12_2) = true := bne_iff_ne.mpr c45
                            have H' := Aside0.mk H
                            clear H
                            have p414 : 0 ≤ (x13_2 : Int) := of_decide_eq_true (by first | (with_reducible assumption) | assumption)
                            have q414 : x13_2 < (t394.length : Int) := of_decide_eq_true (by first | (with_reducible assumption) | assumption)
                            obtain ⟨ad414, e414, hx414_0⟩ := Kd.at_int (Kd.R_reads' HO_5.out).2.2 x13_2 p414 q414
                            cases e414
                            replace p414 := eq_true p414
                            replace q414 := eq_true q414
                            go_wp2
                            repeat (go_quiet (fail); try go_wp2)
                            go_roundg kj30
                            case measure => have := HK1.out; have := HK2.out; have := HJ30.out; omega
                            case rel => exact ⟨(x12_2), (wrap64 (x13_2 + 1)), (by first | rfl | (simp; done) | (simp [*]; done)), (by first | rfl | (simp; done) | (simp [*]; done)), H', ⟨by have := HK1.out; have := HK2.out; have := HJ30.out; omega⟩, ⟨by (with_reducible repeat (first | apply Kd.R_alloc | apply Kd.R_drewN | apply Kd.R_drew)); exact HO_4.out⟩, ⟨by (with_reducible repeat (first | apply Kd.R_alloc | apply Kd.R_drewN | apply Kd.R_drew)); exact HO_5.out⟩, ⟨by repeat (first | (with_reducible first | exact HB.out | apply below_alloc | apply pw_below_drewN | apply below_drew1) | exact HB.out)⟩⟩
                        · rw [if_neg c44] at H
                          exact absurd H (by simp)
                      · rw [if_neg c43] at H
                        exact absurd H (by simp)
              · rw [if_neg c30] at H
                have c30b0 : decide (x13_2 < (t394.length : Int)) = false := decide_eq_false c30
                clear c30
                by_cases c46 : x12_2 = t402
                · rw [if_pos c46] at H
                  have c46b0 : (x12_2 == t402) = true := beq_iff_eq.mpr c46
                  have c46b1 : (x12_2 != t402) = false := bne_eq_false_iff_eq.mpr c46
                  clear c46
                  obtain rfl := Option.some.inj H
                  go_wp2
                  repeat (go_quiet (fail); try go_wp2)
                  go_ret
                  exact ⟨by first | rfl | (simp [errW_none, errW_some] <;> rfl) | (simp [*, errW_none, errW_some] <;> rfl), by repeat (first | (with_reducible first | exact HB.out | apply below_alloc | apply pw_below_drewN | apply below_drew1) | exact HB.out)⟩
                · rw [if_neg c46] at H
                  exact absurd H (by simp)
  · replace c3 := Bool.eq_false_iff.mpr c3
    subst c3
    have H1 : (none) = some r := by rw [if_neg (show ¬ (false = true) by decide)] at H; exact H
    clear H
    have H := H1
    clear H1
    exact absurd H (by simp)

/-- THE ONE PURE STATEMENT of hyphenlaw4_PartFewest: yours. -/
def hyphenlaw4_PartFewest.Pure : Prop := ∀ (l0 : List Int), l0.length ≤ maxLen → l0.length * 8 ≤ 140737488351232 → (∀ x ∈ l0, (Lit.int .i64 x).wf = true) → ∃ k, hyphenlaw4_PartFewest.f k l0 = some true
theorem hyphenlaw4_PartFewest.walk (P : hyphenlaw4_PartFewest.Pure) (a0 : Option Addr) (len0 cap0 : Nat) (z0 : List Int) (w : World) (w0 : (a0 = none ∧ len0 = 0 ∧ cap0 = 0 ∧ z0 = []) ∨ ∃ x, a0 = some x ∧ len0 ≤ cap0 ∧ cap0 ≤ maxLen ∧ z0.length = cap0 ∧ (∀ i, i < z0.length → w.cell? (x.add i) = some (.int .i64 (z0.getD i 0))) ∧ ∀ n ∈ z0, (Lit.int .i64 n).wf = true) (y0 : len0 * 8 ≤ 140737488351232) :
    Calls Try.prog 6 #[.slice a0 len0 cap0] w fun e w' => e = .returned (.bool true) ∧ Below w.heap.size w w' := by
  obtain ⟨l0, rfl, hr0, hm0, hw0, hc0⟩ := ReadsInt.ofRowC w0
  obtain ⟨k, h⟩ := P l0 hm0 y0 hw0
  refine (hyphenlaw4_PartFewest.calls k _ _ l0 true w (Kd.C_of_reads (d := (0 : Int)) (h1 := fun _ => rfl) hr0) hc0 h).mono ?_
  rintro e w' ⟨rfl, hd⟩
  exact ⟨rfl, hd⟩

end Go.Proofs.Yteogcjckhoakbaa.P
