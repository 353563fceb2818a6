-- Written by wip/xprint.py (a program of this repo) out of the translation; Lean checks it.
import Derived.Test.YteogcjckhoakbaaPx0
import Derived.Test.YteogcjckhoakbaaPx2
import Derived.Test.YteogcjckhoakbaaPx3
import Derived.Test.YteogcjckhoakbaaPx6
import Derived.Test.YteogcjckhoakbaaPx11
import Derived.Test.YteogcjckhoakbaaPx14
import Derived.Test.YteogcjckhoakbaaPx15
namespace Go.Proofs.Yteogcjckhoakbaa.P
open Go.RowKit Go.Proofs.YteogcjckhoakbaaW.PrintWords Go.Proofs.YteogcjckhoakbaaW.PrintLast Go.Proofs.YteogcjckhoakbaaW.PrintMore
attribute [local go_sem] max2_int min2_int max_two min_two max_three min_three max_four min_four   -- for this text's walks alone
attribute [local go_sem ↓ high] Go.Proofs.YteogcjckhoakbaaX.isSome_setCell
set_option linter.unusedVariables false
set_option linter.unusedSimpArgs false

/-! ### hyphenlaw4_PartAll: function 3 -/
mutual
def hyphenlaw4_PartAll.j0 : Nat → Int → List (List (S44)) → List Int → List Int → List Int → List Int → Bool → Option (Bool)
 | 0, _, _, _, _, _, _, _ => none
 | k + 1, x1, x5, x6, x7, x8, x9, x45 => if x45 = true then (none) else ((part_In.f k x5 x6 x7).bind fun t566 => ((hyphenref4_In.f k x5 x8 x9).bind fun t569 => (if (t566.length : Int) = (t569.length : Int) then (hyphenlaw4_PartAll.l0 k x1 x6 x7 x8 x9 t566 t569 0) else (none))))
def hyphenlaw4_PartAll.l0 : Nat → Int → List Int → List Int → List Int → List Int → List (List Bool) → List (List Bool) → Int → Option (Bool)
 | 0, _, _, _, _, _, _, _, _ => none
 | k + 1, x1, x6, x7, x8, x9, x10, x11, x12 => if x12 < (x10.length : Int) then (if 0 ≤ x12 then (if x12 < (x11.length : Int) then (if ((rd_L7 x10 x12).length : Int) = ((rd_L7 x11 x12).length : Int) then (hyphenlaw4_PartAll.l1 k x1 x6 x7 x8 x9 x10 x11 x12 0) else (none)) else (none)) else (none)) else ((hyphenlaw4_within.f x1 1114112).bind fun t572 => ((part_Letter.f x6 x7 t572).bind fun t573 => ((hyphenref4_Letter.f k x8 x9 t572).bind fun t574 => (some (t573 == t574)))))
def hyphenlaw4_PartAll.l1 : Nat → Int → List Int → List Int → List Int → List Int → List (List Bool) → List (List Bool) → Int → Int → Option (Bool)
 | 0, _, _, _, _, _, _, _, _, _ => none
 | k + 1, x1, x6, x7, x8, x9, x10, x11, x12, x13 => if 0 ≤ x12 then (if x12 < (x10.length : Int) then (if x13 < ((rd_L7 x10 x12).length : Int) then (if 0 ≤ x13 then (if x12 < (x11.length : Int) then (if x13 < ((rd_L7 x11 x12).length : Int) then (if ((rdOf false (rd_L7 x10 x12) x13) != (rdOf false (rd_L7 x11 x12) x13)) = true then (none) else (hyphenlaw4_PartAll.l1 k x1 x6 x7 x8 x9 x10 x11 x12 (wrap64 (x13 + 1)))) else (none)) else (none)) else (none)) else (hyphenlaw4_PartAll.l0 k x1 x6 x7 x8 x9 x10 x11 (wrap64 (x12 + 1)))) else (none)) else (none)
end
def hyphenlaw4_PartAll.f (k : Nat) (l0 : List Int) (a1 : Int) : Option (Bool) := (hyphenlaw4_known.f k).bind fun t546 => (if t546 = true then ((hyphenlaw4_Sets.f k l0 12).bind fun t547 => ((part_Cuts.f k t547).bind fun bt550 => ((hyphenref4_Cuts.f k t547).bind fun bt556 => ((hyphenref1_Ints.f k bt550.1 bt556.1).bind fun t562 => (if t562 = true then ((hyphenref1_Ints.f k bt550.2 bt556.2).bind fun t563 => (if t563 = true then ((part_Count.f k bt550.2).bind fun t564 => ((hyphenref4_Count.f k bt556.2).bind fun t565 => (hyphenlaw4_PartAll.j0 k a1 t547 bt550.1 bt550.2 bt556.1 bt556.2 (t564 != t565)))) else (hyphenlaw4_PartAll.j0 k a1 t547 bt550.1 bt550.2 bt556.1 bt556.2 true))) else (hyphenlaw4_PartAll.j0 k a1 t547 bt550.1 bt550.2 bt556.1 bt556.2 true)))))) else (none))
theorem hyphenlaw4_PartAll.mono_l : ∀ k, (∀ y0 y1 y2 y3 y4 y5 y6, LeO (hyphenlaw4_PartAll.j0 k y0 y1 y2 y3 y4 y5 y6) (hyphenlaw4_PartAll.j0 (k + 1) y0 y1 y2 y3 y4 y5 y6)) ∧ (∀ y0 y1 y2 y3 y4 y5 y6 y7, LeO (hyphenlaw4_PartAll.l0 k y0 y1 y2 y3 y4 y5 y6 y7) (hyphenlaw4_PartAll.l0 (k + 1) y0 y1 y2 y3 y4 y5 y6 y7)) ∧ (∀ y0 y1 y2 y3 y4 y5 y6 y7 y8, LeO (hyphenlaw4_PartAll.l1 k y0 y1 y2 y3 y4 y5 y6 y7 y8) (hyphenlaw4_PartAll.l1 (k + 1) y0 y1 y2 y3 y4 y5 y6 y7 y8))
 | 0 => ⟨fun _ _ _ _ _ _ _ r h => by simp [hyphenlaw4_PartAll.j0] at h, fun _ _ _ _ _ _ _ _ r h => by simp [hyphenlaw4_PartAll.l0] at h, fun _ _ _ _ _ _ _ _ _ r h => by simp [hyphenlaw4_PartAll.l1] at h⟩
 | k + 1 => by
  obtain ⟨ih0, ih1, ih2⟩ := hyphenlaw4_PartAll.mono_l k
  refine ⟨?_, ?_, ?_⟩
  ·intro y0 y1 y2 y3 y4 y5 y6
   unfold hyphenlaw4_PartAll.j0
   repeat' first
   | (with_reducible exact ih0 _ _ _ _ _ _ _)
   | (with_reducible exact ih1 _ _ _ _ _ _ _ _)
   | (with_reducible exact ih2 _ _ _ _ _ _ _ _ _)
   | (with_reducible exact hyphenlaw4_Sets.mono _ _ _)
   | (with_reducible exact hyphenlaw4_known.mono _)
   | (with_reducible exact hyphenref1_Ints.mono _ _ _)
   | (with_reducible exact hyphenref4_Count.mono _ _)
   | (with_reducible exact hyphenref4_Cuts.mono _ _)
   | (with_reducible exact hyphenref4_In.mono _ _ _ _)
   | (with_reducible exact hyphenref4_Letter.mono _ _ _ _)
   | (with_reducible exact part_Count.mono _ _)
   | (with_reducible exact part_Cuts.mono _ _)
   | (with_reducible exact part_In.mono _ _ _ _)
   | (with_reducible exact LeO.refl _)
   | (with_reducible exact LeO.none _)
   | (with_reducible refine LeO.ite ?_ ?_)
   | (with_reducible refine LeO.bind ?_ (fun _ => ?_))
   | exact ih0 _ _ _ _ _ _ _
   | exact ih1 _ _ _ _ _ _ _ _
   | exact ih2 _ _ _ _ _ _ _ _ _
   | exact hyphenlaw4_Sets.mono _ _ _
   | exact hyphenlaw4_known.mono _
   | exact hyphenref1_Ints.mono _ _ _
   | exact hyphenref4_Count.mono _ _
   | exact hyphenref4_Cuts.mono _ _
   | exact hyphenref4_In.mono _ _ _ _
   | exact hyphenref4_Letter.mono _ _ _ _
   | exact part_Count.mono _ _
   | exact part_Cuts.mono _ _
   | exact part_In.mono _ _ _ _
   | exact LeO.none _
   | refine LeO.ite ?_ ?_
   | refine LeO.bind ?_ (fun _ => ?_)
  ·intro y0 y1 y2 y3 y4 y5 y6 y7
   unfold hyphenlaw4_PartAll.l0
   repeat' first
   | (with_reducible exact ih0 _ _ _ _ _ _ _)
   | (with_reducible exact ih1 _ _ _ _ _ _ _ _)
   | (with_reducible exact ih2 _ _ _ _ _ _ _ _ _)
   | (with_reducible exact hyphenlaw4_Sets.mono _ _ _)
   | (with_reducible exact hyphenlaw4_known.mono _)
   | (with_reducible exact hyphenref1_Ints.mono _ _ _)
   | (with_reducible exact hyphenref4_Count.mono _ _)
   | (with_reducible exact hyphenref4_Cuts.mono _ _)
   | (with_reducible exact hyphenref4_In.mono _ _ _ _)
   | (with_reducible exact hyphenref4_Letter.mono _ _ _ _)
   | (with_reducible exact part_Count.mono _ _)
   | (with_reducible exact part_Cuts.mono _ _)
   | (with_reducible exact part_In.mono _ _ _ _)
   | (with_reducible exact LeO.refl _)
   | (with_reducible exact LeO.none _)
   | (with_reducible refine LeO.ite ?_ ?_)
   | (with_reducible refine LeO.bind ?_ (fun _ => ?_))
   | exact ih0 _ _ _ _ _ _ _
   | exact ih1 _ _ _ _ _ _ _ _
   | exact ih2 _ _ _ _ _ _ _ _ _
   | exact hyphenlaw4_Sets.mono _ _ _
   | exact hyphenlaw4_known.mono _
   | exact hyphenref1_Ints.mono _ _ _
   | exact hyphenref4_Count.mono _ _
   | exact hyphenref4_Cuts.mono _ _
   | exact hyphenref4_In.mono _ _ _ _
   | exact hyphenref4_Letter.mono _ _ _ _
   | exact part_Count.mono _ _
   | exact part_Cuts.mono _ _
   | exact part_In.mono _ _ _ _
   | exact LeO.none _
   | refine LeO.ite ?_ ?_
   | refine LeO.bind ?_ (fun _ => ?_)
  ·intro y0 y1 y2 y3 y4 y5 y6 y7 y8
   unfold hyphenlaw4_PartAll.l1
   repeat' first
   | (with_reducible exact ih0 _ _ _ _ _ _ _)
   | (with_reducible exact ih1 _ _ _ _ _ _ _ _)
   | (with_reducible exact ih2 _ _ _ _ _ _ _ _ _)
   | (with_reducible exact hyphenlaw4_Sets.mono _ _ _)
   | (with_reducible exact hyphenlaw4_known.mono _)
   | (with_reducible exact hyphenref1_Ints.mono _ _ _)
   | (with_reducible exact hyphenref4_Count.mono _ _)
   | (with_reducible exact hyphenref4_Cuts.mono _ _)
   | (with_reducible exact hyphenref4_In.mono _ _ _ _)
   | (with_reducible exact hyphenref4_Letter.mono _ _ _ _)
   | (with_reducible exact part_Count.mono _ _)
   | (with_reducible exact part_Cuts.mono _ _)
   | (with_reducible exact part_In.mono _ _ _ _)
   | (with_reducible exact LeO.refl _)
   | (with_reducible exact LeO.none _)
   | (with_reducible refine LeO.ite ?_ ?_)
   | (with_reducible refine LeO.bind ?_ (fun _ => ?_))
   | exact ih0 _ _ _ _ _ _ _
   | exact ih1 _ _ _ _ _ _ _ _
   | exact ih2 _ _ _ _ _ _ _ _ _
   | exact hyphenlaw4_Sets.mono _ _ _
   | exact hyphenlaw4_known.mono _
   | exact hyphenref1_Ints.mono _ _ _
   | exact hyphenref4_Count.mono _ _
   | exact hyphenref4_Cuts.mono _ _
   | exact hyphenref4_In.mono _ _ _ _
   | exact hyphenref4_Letter.mono _ _ _ _
   | exact part_Count.mono _ _
   | exact part_Cuts.mono _ _
   | exact part_In.mono _ _ _ _
   | exact LeO.none _
   | refine LeO.ite ?_ ?_
   | refine LeO.bind ?_ (fun _ => ?_)
theorem hyphenlaw4_PartAll.mono : ∀ a0 a1 k, LeO (hyphenlaw4_PartAll.f k a0 a1) (hyphenlaw4_PartAll.f (k + 1) a0 a1) := by
 intro a0 a1 k
 obtain ⟨ih0, ih1, ih2⟩ := hyphenlaw4_PartAll.mono_l k
 unfold hyphenlaw4_PartAll.f
 repeat' first
   | (with_reducible exact ih0 _ _ _ _ _ _ _)
   | (with_reducible exact ih1 _ _ _ _ _ _ _ _)
   | (with_reducible exact ih2 _ _ _ _ _ _ _ _ _)
   | (with_reducible exact hyphenlaw4_Sets.mono _ _ _)
   | (with_reducible exact hyphenlaw4_known.mono _)
   | (with_reducible exact hyphenref1_Ints.mono _ _ _)
   | (with_reducible exact hyphenref4_Count.mono _ _)
   | (with_reducible exact hyphenref4_Cuts.mono _ _)
   | (with_reducible exact hyphenref4_In.mono _ _ _ _)
   | (with_reducible exact hyphenref4_Letter.mono _ _ _ _)
   | (with_reducible exact part_Count.mono _ _)
   | (with_reducible exact part_Cuts.mono _ _)
   | (with_reducible exact part_In.mono _ _ _ _)
   | (with_reducible exact LeO.refl _)
   | (with_reducible exact LeO.none _)
   | (with_reducible refine LeO.ite ?_ ?_)
   | (with_reducible refine LeO.bind ?_ (fun _ => ?_))
   | exact ih0 _ _ _ _ _ _ _
   | exact ih1 _ _ _ _ _ _ _ _
   | exact ih2 _ _ _ _ _ _ _ _ _
   | exact hyphenlaw4_Sets.mono _ _ _
   | exact hyphenlaw4_known.mono _
   | exact hyphenref1_Ints.mono _ _ _
   | exact hyphenref4_Count.mono _ _
   | exact hyphenref4_Cuts.mono _ _
   | exact hyphenref4_In.mono _ _ _ _
   | exact hyphenref4_Letter.mono _ _ _ _
   | exact part_Count.mono _ _
   | exact part_Cuts.mono _ _
   | exact part_In.mono _ _ _ _
   | exact LeO.none _
   | refine LeO.ite ?_ ?_
   | refine LeO.bind ?_ (fun _ => ?_)
set_option maxHeartbeats 8000000 in
set_option maxRecDepth 100000 in
theorem hyphenlaw4_PartAll.calls (k : Nat) (A0 : Option Addr) (c0 : Nat) (l0 : List Int) (a1 : Int) (r : Bool) (w : World) (hr0 : Kd.C (Kd.int .i64) w A0 l0.length l0) (hc0 : l0.length ≤ c0) (h : hyphenlaw4_PartAll.f k l0 a1 = some r) :
  Calls Try.prog 3 #[.slice A0 l0.length c0, .int .i64 a1] w fun e w' => e = .returned (.bool r) ∧ Below w.heap.size w w' := by
 have HR0 := Aside0.mk hr0
 have HC0 := Aside0.mk hc0
 clear hr0 hc0
 have HB := Aside0.mk (Below.refl w.heap.size w)
 have H : ((hyphenlaw4_known.f k).bind fun t546 => (if t546 = true then ((hyphenlaw4_Sets.f k l0 12).bind fun t547 => ((part_Cuts.f k t547).bind fun bt550 => ((hyphenref4_Cuts.f k t547).bind fun bt556 => ((hyphenref1_Ints.f k bt550.1 bt556.1).bind fun t562 => (if t562 = true then ((hyphenref1_Ints.f k bt550.2 bt556.2).bind fun t563 => (if t563 = true then ((part_Count.f k bt550.2).bind fun t564 => ((hyphenref4_Count.f k bt556.2).bind fun t565 => (hyphenlaw4_PartAll.j0 k a1 t547 bt550.1 bt550.2 bt556.1 bt556.2 (t564 != t565)))) else (hyphenlaw4_PartAll.j0 k a1 t547 bt550.1 bt550.2 bt556.1 bt556.2 true))) else (hyphenlaw4_PartAll.j0 k a1 t547 bt550.1 bt550.2 bt556.1 bt556.2 true)))))) else (none))) = some r := h
 clear h
 replace H := Option.bind_eq_some_iff.mp H
 obtain ⟨t546, A30, H⟩ := H
 replace H : (if t546 = true then ((hyphenlaw4_Sets.f k l0 12).bind fun t547 => ((part_Cuts.f k t547).bind fun bt550 => ((hyphenref4_Cuts.f k t547).bind fun bt556 => ((hyphenref1_Ints.f k bt550.1 bt556.1).bind fun t562 => (if t562 = true then ((hyphenref1_Ints.f k bt550.2 bt556.2).bind fun t563 => (if t563 = true then ((part_Count.f k bt550.2).bind fun t564 => ((hyphenref4_Count.f k bt556.2).bind fun t565 => (hyphenlaw4_PartAll.j0 k a1 t547 bt550.1 bt550.2 bt556.1 bt556.2 (t564 != t565)))) else (hyphenlaw4_PartAll.j0 k a1 t547 bt550.1 bt550.2 bt556.1 bt556.2 true))) else (hyphenlaw4_PartAll.j0 k a1 t547 bt550.1 bt550.2 bt556.1 bt556.2 true)))))) else (none)) = some r := H
 have A3 := Aside0.mk A30
 clear A30
 by_cases c4 : t546 = true
 ·subst c4
  have H1 : ((hyphenlaw4_Sets.f k l0 12).bind fun t547 => ((part_Cuts.f k t547).bind fun bt550 => ((hyphenref4_Cuts.f k t547).bind fun bt556 => ((hyphenref1_Ints.f k bt550.1 bt556.1).bind fun t562 => (if t562 = true then ((hyphenref1_Ints.f k bt550.2 bt556.2).bind fun t563 => (if t563 = true then ((part_Count.f k bt550.2).bind fun t564 => ((hyphenref4_Count.f k bt556.2).bind fun t565 => (hyphenlaw4_PartAll.j0 k a1 t547 bt550.1 bt550.2 bt556.1 bt556.2 (t564 != t565)))) else (hyphenlaw4_PartAll.j0 k a1 t547 bt550.1 bt550.2 bt556.1 bt556.2 true))) else (hyphenlaw4_PartAll.j0 k a1 t547 bt550.1 bt550.2 bt556.1 bt556.2 true)))))) = some r := by rw [if_pos rfl] at H; exact H
  clear H
  have H := H1
  clear H1
  replace H := Option.bind_eq_some_iff.mp H
  obtain ⟨t547, A50, H⟩ := H
  replace H : ((part_Cuts.f k t547).bind fun bt550 => ((hyphenref4_Cuts.f k t547).bind fun bt556 => ((hyphenref1_Ints.f k bt550.1 bt556.1).bind fun t562 => (if t562 = true then ((hyphenref1_Ints.f k bt550.2 bt556.2).bind fun t563 => (if t563 = true then ((part_Count.f k bt550.2).bind fun t564 => ((hyphenref4_Count.f k bt556.2).bind fun t565 => (hyphenlaw4_PartAll.j0 k a1 t547 bt550.1 bt550.2 bt556.1 bt556.2 (t564 != t565)))) else (hyphenlaw4_PartAll.j0 k a1 t547 bt550.1 bt550.2 bt556.1 bt556.2 true))) else (hyphenlaw4_PartAll.j0 k a1 t547 bt550.1 bt550.2 bt556.1 bt556.2 true))))) = some r := H
  have A5 := Aside0.mk A50
  clear A50
  replace H := Option.bind_eq_some_iff.mp H
  obtain ⟨⟨t550, t551⟩, A60, H⟩ := H
  replace H : ((hyphenref4_Cuts.f k t547).bind fun bt556 => ((hyphenref1_Ints.f k t550 bt556.1).bind fun t562 => (if t562 = true then ((hyphenref1_Ints.f k t551 bt556.2).bind fun t563 => (if t563 = true then ((part_Count.f k t551).bind fun t564 => ((hyphenref4_Count.f k bt556.2).bind fun t565 => (hyphenlaw4_PartAll.j0 k a1 t547 t550 t551 bt556.1 bt556.2 (t564 != t565)))) else (hyphenlaw4_PartAll.j0 k a1 t547 t550 t551 bt556.1 bt556.2 true))) else (hyphenlaw4_PartAll.j0 k a1 t547 t550 t551 bt556.1 bt556.2 true)))) = some r := H
  have A6 := Aside0.mk A60
  clear A60
  replace H := Option.bind_eq_some_iff.mp H
  obtain ⟨⟨t556, t557⟩, A70, H⟩ := H
  replace H : ((hyphenref1_Ints.f k t550 t556).bind fun t562 => (if t562 = true then ((hyphenref1_Ints.f k t551 t557).bind fun t563 => (if t563 = true then ((part_Count.f k t551).bind fun t564 => ((hyphenref4_Count.f k t557).bind fun t565 => (hyphenlaw4_PartAll.j0 k a1 t547 t550 t551 t556 t557 (t564 != t565)))) else (hyphenlaw4_PartAll.j0 k a1 t547 t550 t551 t556 t557 true))) else (hyphenlaw4_PartAll.j0 k a1 t547 t550 t551 t556 t557 true))) = some r := H
  have A7 := Aside0.mk A70
  clear A70
  have HC8 := Aside0.mk H
  clear H
  go_enter Try.func3, Try.ntmps3
  go_upto_region 6 with (first | (go_at_call 11; (with_reducible refine (hyphenlaw4_known.calls k  true _ A3.out).mono ?_); rintro e w9 ⟨rfl, hb⟩; have n0_ := Aside0.mk (below_step (by repeat (first | (with_reducible first | exact HB.out | apply below_alloc | apply pw_below_drewN | apply below_drew1) | exact HB.out)) hb); clear HB; have HB := n0_; clear n0_; (try clear hb); (try clear hb2); (try clear hk); (try clear hi)) | (go_at_call 12; (with_reducible refine (hyphenlaw4_Sets.calls k _ _ l0 12 t547 _ ?side1 ?side2 A5.out).mono ?_); (case side1 => repeat (first | exact (Kd.C_below HR0.out HB.out) | (with_reducible refine Kd.C_alloc ?_ _) | (with_reducible refine Kd.C_drewN ?_ _) | (with_reducible refine Kd.C_drew ?_))); (case side2 => exact HC0.out); rintro e w10 ⟨v548, rfl, ho0, hb⟩; have n0_ := Aside0.mk (Kd.R_lower ho0 (below_size (by repeat (first | (with_reducible first | exact HB.out | apply below_alloc | apply pw_below_drewN | apply below_drew1) | exact HB.out)))); have n1_ := Aside0.mk (below_step (by repeat (first | (with_reducible first | exact HB.out | apply below_alloc | apply pw_below_drewN | apply below_drew1) | exact HB.out)) hb); clear HB; have HO549 := n0_; have HB := n1_; clear n0_ n1_; (try clear hb); (try clear hb2); (try clear hk); (try clear hi); (try clear ho0); obtain ⟨Ao11, co11, eo11⟩ := Kd.R_slice HO549.out; subst eo11) | (go_at_call 13; (with_reducible refine (part_Cuts.calls k _ _ t547 t550 t551 _ ?side1 ?side2 A6.out).mono ?_); (case side1 => repeat (first | exact (Kd.R_reads' HO549.out).2.2 | (with_reducible refine Kd.C_alloc ?_ _) | (with_reducible refine Kd.C_drewN ?_ _) | (with_reducible refine Kd.C_drew ?_))); (case side2 => exact (Kd.R_reads' HO549.out).2.1); rintro e w12 ⟨v552, v554, rfl, ho0, ho1, hb⟩; have n0_ := Aside0.mk (Kd.R_below (by (with_reducible repeat (first | apply Kd.R_alloc | apply Kd.R_drewN | apply Kd.R_drew)); exact HO549.out) hb); have n1_ := Aside0.mk (Kd.R_lower ho0 (below_size (by repeat (first | (with_reducible first | exact HB.out | apply below_alloc | apply pw_below_drewN | apply below_drew1) | exact HB.out)))); have n2_ := Aside0.mk (Kd.R_lower ho1 (below_size (by repeat (first | (with_reducible first | exact HB.out | apply below_alloc | apply pw_below_drewN | apply below_drew1) | exact HB.out)))); have n3_ := Aside0.mk (below_step (by repeat (first | (with_reducible first | exact HB.out | apply below_alloc | apply pw_below_drewN | apply below_drew1) | exact HB.out)) hb); clear HO549; clear HB; have HO549 := n0_; have HO553 := n1_; have HO555 := n2_; have HB := n3_; clear n0_ n1_ n2_ n3_; (try clear hb); (try clear hb2); (try clear hk); (try clear hi); (try clear ho0); (try clear ho1)) | (go_at_call 14; (with_reducible refine (hyphenref4_Cuts.calls k _ _ t547 t556 t557 _ ?side1 ?side2 A7.out).mono ?_); (case side1 => repeat (first | exact (Kd.R_reads' HO549.out).2.2 | (with_reducible refine Kd.C_alloc ?_ _) | (with_reducible refine Kd.C_drewN ?_ _) | (with_reducible refine Kd.C_drew ?_))); (case side2 => exact (Kd.R_reads' HO549.out).2.1); rintro e w13 ⟨v558, v560, rfl, ho0, ho1, hb⟩; have n0_ := Aside0.mk (Kd.R_below (by (with_reducible repeat (first | apply Kd.R_alloc | apply Kd.R_drewN | apply Kd.R_drew)); exact HO549.out) hb); have n1_ := Aside0.mk (Kd.R_mono (Kd.R_told (Kd.R_told (Kd.R_old (by (with_reducible repeat (first | apply Kd.R_alloc | apply Kd.R_drewN | apply Kd.R_drew)); exact HO553.out) hb) (Kd.R_base ho0)) (Kd.R_base ho1)) (fun _ h_ => h_.1)); have n2_ := Aside0.mk (Kd.R_mono (Kd.R_told (Kd.R_told (Kd.R_old (by (with_reducible repeat (first | apply Kd.R_alloc | apply Kd.R_drewN | apply Kd.R_drew)); exact HO555.out) hb) (Kd.R_base ho0)) (Kd.R_base ho1)) (fun _ h_ => h_.1)); have n3_ := Aside0.mk (Kd.R_lower (Kd.R_new' (Kd.R_new' ho0 (Kd.R_lt (by (with_reducible repeat (first | apply Kd.R_alloc | apply Kd.R_drewN | apply Kd.R_drew)); exact HO553.out))) (Kd.R_lt (by (with_reducible repeat (first | apply Kd.R_alloc | apply Kd.R_drewN | apply Kd.R_drew)); exact HO555.out))) (below_size (by repeat (first | (with_reducible first | exact HB.out | apply below_alloc | apply pw_below_drewN | apply below_drew1) | exact HB.out)))); have n4_ := Aside0.mk (Kd.R_lower (Kd.R_new' (Kd.R_new' ho1 (Kd.R_lt (by (with_reducible repeat (first | apply Kd.R_alloc | apply Kd.R_drewN | apply Kd.R_drew)); exact HO553.out))) (Kd.R_lt (by (with_reducible repeat (first | apply Kd.R_alloc | apply Kd.R_drewN | apply Kd.R_drew)); exact HO555.out))) (below_size (by repeat (first | (with_reducible first | exact HB.out | apply below_alloc | apply pw_below_drewN | apply below_drew1) | exact HB.out)))); have n5_ := Aside0.mk (below_step (by repeat (first | (with_reducible first | exact HB.out | apply below_alloc | apply pw_below_drewN | apply below_drew1) | exact HB.out)) hb); clear HO549; clear HO553; clear HO555; clear HB; have HO549 := n0_; have HO553 := n1_; have HO555 := n2_; have HO559 := n3_; have HO561 := n4_; have HB := n5_; clear n0_ n1_ n2_ n3_ n4_ n5_; (try clear hb); (try clear hb2); (try clear hk); (try clear hi); (try clear ho0); (try clear ho1)))
  repeat (go_quiet (first | (go_at_call 11; (with_reducible refine (hyphenlaw4_known.calls k  true _ A3.out).mono ?_); rintro e w9 ⟨rfl, hb⟩; have n0_ := Aside0.mk (below_step (by repeat (first | (with_reducible first | exact HB.out | apply below_alloc | apply pw_below_drewN | apply below_drew1) | exact HB.out)) hb); clear HB; have HB := n0_; clear n0_; (try clear hb); (try clear hb2); (try clear hk); (try clear hi)) | (go_at_call 12; (with_reducible refine (hyphenlaw4_Sets.calls k _ _ l0 12 t547 _ ?side1 ?side2 A5.out).mono ?_); (case side1 => repeat (first | exact (Kd.C_below HR0.out HB.out) | (with_reducible refine Kd.C_alloc ?_ _) | (with_reducible refine Kd.C_drewN ?_ _) | (with_reducible refine Kd.C_drew ?_))); (case side2 => exact HC0.out); rintro e w10 ⟨v548, rfl, ho0, hb⟩; have n0_ := Aside0.mk (Kd.R_lower ho0 (below_size (by repeat (first | (with_reducible first | exact HB.out | apply below_alloc | apply pw_below_drewN | apply below_drew1) | exact HB.out)))); have n1_ := Aside0.mk (below_step (by repeat (first | (with_reducible first | exact HB.out | apply below_alloc | apply pw_below_drewN | apply below_drew1) | exact HB.out)) hb); clear HB; have HO549 := n0_; have HB := n1_; clear n0_ n1_; (try clear hb); (try clear hb2); (try clear hk); (try clear hi); (try clear ho0); obtain ⟨Ao11, co11, eo11⟩ := Kd.R_slice HO549.out; subst eo11) | (go_at_call 13; (with_reducible refine (part_Cuts.calls k _ _ t547 t550 t551 _ ?side1 ?side2 A6.out).mono ?_); (case side1 => repeat (first | exact (Kd.R_reads' HO549.out).2.2 | (with_reducible refine Kd.C_alloc ?_ _) | (with_reducible refine Kd.C_drewN ?_ _) | (with_reducible refine Kd.C_drew ?_))); (case side2 => exact (Kd.R_reads' HO549.out).2.1); rintro e w12 ⟨v552, v554, rfl, ho0, ho1, hb⟩; have n0_ := Aside0.mk (Kd.R_below (by (with_reducible repeat (first | apply Kd.R_alloc | apply Kd.R_drewN | apply Kd.R_drew)); exact HO549.out) hb); have n1_ := Aside0.mk (Kd.R_lower ho0 (below_size (by repeat (first | (with_reducible first | exact HB.out | apply below_alloc | apply pw_below_drewN | apply below_drew1) | exact HB.out)))); have n2_ := Aside0.mk (Kd.R_lower ho1 (below_size (by repeat (first | (with_reducible first | exact HB.out | apply below_alloc | apply pw_below_drewN | apply below_drew1) | exact HB.out)))); have n3_ := Aside0.mk (below_step (by repeat (first | (with_reducible first | exact HB.out | apply below_alloc | apply pw_below_drewN | apply below_drew1) | exact HB.out)) hb); clear HO549; clear HB; have HO549 := n0_; have HO553 := n1_; have HO555 := n2_; have HB := n3_; clear n0_ n1_ n2_ n3_; (try clear hb); (try clear hb2); (try clear hk); (try clear hi); (try clear ho0); (try clear ho1)) | (go_at_call 14; (with_reducible refine (hyphenref4_Cuts.calls k _ _ t547 t556 t557 _ ?side1 ?side2 A7.out).mono ?_); (case side1 => repeat (first | exact (Kd.R_reads' HO549.out).2.2 | (with_reducible refine Kd.C_alloc ?_ _) | (with_reducible refine Kd.C_drewN ?_ _) | (with_reducible refine Kd.C_drew ?_))); (case side2 => exact (Kd.R_reads' HO549.out).2.1); rintro e w13 ⟨v558, v560, rfl, ho0, ho1, hb⟩; have n0_ := Aside0.mk (Kd.R_below (by (with_reducible repeat (first | apply Kd.R_alloc | apply Kd.R_drewN | apply Kd.R_drew)); exact HO549.out) hb); have n1_ := Aside0.mk (Kd.R_mono (Kd.R_told (Kd.R_told (Kd.R_old (by (with_reducible repeat (first | apply Kd.R_alloc | apply Kd.R_drewN | apply Kd.R_drew)); exact HO553.out) hb) (Kd.R_base ho0)) (Kd.R_base ho1)) (fun _ h_ => h_.1)); have n2_ := Aside0.mk (Kd.R_mono (Kd.R_told (Kd.R_told (Kd.R_old (by (with_reducible repeat (first | apply Kd.R_alloc | apply Kd.R_drewN | apply Kd.R_drew)); exact HO555.out) hb) (Kd.R_base ho0)) (Kd.R_base ho1)) (fun _ h_ => h_.1)); have n3_ := Aside0.mk (Kd.R_lower (Kd.R_new' (Kd.R_new' ho0 (Kd.R_lt (by (with_reducible repeat (first | apply Kd.R_alloc | apply Kd.R_drewN | apply Kd.R_drew)); exact HO553.out))) (Kd.R_lt (by (with_reducible repeat (first | apply Kd.R_alloc | apply Kd.R_drewN | apply Kd.R_drew)); exact HO555.out))) (below_size (by repeat (first | (with_reducible first | exact HB.out | apply below_alloc | apply pw_below_drewN | apply below_drew1) | exact HB.out)))); have n4_ := Aside0.mk (Kd.R_lower (Kd.R_new' (Kd.R_new' ho1 (Kd.R_lt (by (with_reducible repeat (first | apply Kd.R_alloc | apply Kd.R_drewN | apply Kd.R_drew)); exact HO553.out))) (Kd.R_lt (by (with_reducible repeat (first | apply Kd.R_alloc | apply Kd.R_drewN | apply Kd.R_drew)); exact HO555.out))) (below_size (by repeat (first | (with_reducible first | exact HB.out | apply below_alloc | apply pw_below_drewN | apply below_drew1) | exact HB.out)))); have n5_ := Aside0.mk (below_step (by repeat (first | (with_reducible first | exact HB.out | apply below_alloc | apply pw_below_drewN | apply below_drew1) | exact HB.out)) hb); clear HO549; clear HO553; clear HO555; clear HB; have HO549 := n0_; have HO553 := n1_; have HO555 := n2_; have HO559 := n3_; have HO561 := n4_; have HB := n5_; clear n0_ n1_ n2_ n3_ n4_ n5_; (try clear hb); (try clear hb2); (try clear hk); (try clear hi); (try clear ho0); (try clear ho1))); go_upto_region 6 with (first | (go_at_call 11; (with_reducible refine (hyphenlaw4_known.calls k  true _ A3.out).mono ?_); rintro e w9 ⟨rfl, hb⟩; have n0_ := Aside0.mk (below_step (by repeat (first | (with_reducible first | exact HB.out | apply below_alloc | apply pw_below_drewN | apply below_drew1) | exact HB.out)) hb); clear HB; have HB := n0_; clear n0_; (try clear hb); (try clear hb2); (try clear hk); (try clear hi)) | (go_at_call 12; (with_reducible refine (hyphenlaw4_Sets.calls k _ _ l0 12 t547 _ ?side1 ?side2 A5.out).mono ?_); (case side1 => repeat (first | exact (Kd.C_below HR0.out HB.out) | (with_reducible refine Kd.C_alloc ?_ _) | (with_reducible refine Kd.C_drewN ?_ _) | (with_reducible refine Kd.C_drew ?_))); (case side2 => exact HC0.out); rintro e w10 ⟨v548, rfl, ho0, hb⟩; have n0_ := Aside0.mk (Kd.R_lower ho0 (below_size (by repeat (first | (with_reducible first | exact HB.out | apply below_alloc | apply pw_below_drewN | apply below_drew1) | exact HB.out)))); have n1_ := Aside0.mk (below_step (by repeat (first | (with_reducible first | exact HB.out | apply below_alloc | apply pw_below_drewN | apply below_drew1) | exact HB.out)) hb); clear HB; have HO549 := n0_; have HB := n1_; clear n0_ n1_; (try clear hb); (try clear hb2); (try clear hk); (try clear hi); (try clear ho0); obtain ⟨Ao11, co11, eo11⟩ := Kd.R_slice HO549.out; subst eo11) | (go_at_call 13; (with_reducible refine (part_Cuts.calls k _ _ t547 t550 t551 _ ?side1 ?side2 A6.out).mono ?_); (case side1 => repeat (first | exact (Kd.R_reads' HO549.out).2.2 | (with_reducible refine Kd.C_alloc ?_ _) | (with_reducible refine Kd.C_drewN ?_ _) | (with_reducible refine Kd.C_drew ?_))); (case side2 => exact (Kd.R_reads' HO549.out).2.1); rintro e w12 ⟨v552, v554, rfl, ho0, ho1, hb⟩; have n0_ := Aside0.mk (Kd.R_below (by (with_reducible repeat (first | apply Kd.R_alloc | apply Kd.R_drewN | apply Kd.R_drew)); exact HO549.out) hb); have n1_ := Aside0.mk (Kd.R_lower ho0 (below_size (by repeat (first | (with_reducible first | exact HB.out | apply below_alloc | apply pw_below_drewN | apply below_drew1) | exact HB.out)))); have n2_ := Aside0.mk (Kd.R_lower ho1 (below_size (by repeat (first | (with_reducible first | exact HB.out | apply below_alloc | apply pw_below_drewN | apply below_drew1) | exact HB.out)))); have n3_ := Aside0.mk (below_step (by repeat (first | (with_reducible first | exact HB.out | apply below_alloc | apply pw_below_drewN | apply below_drew1) | exact HB.out)) hb); clear HO549; clear HB; have HO549 := n0_; have HO553 := n1_; have HO555 := n2_; have HB := n3_; clear n0_ n1_ n2_ n3_; (try clear hb); (try clear hb2); (try clear hk); (try clear hi); (try clear ho0); (try clear ho1)) | (go_at_call 14; (with_reducible refine (hyphenref4_Cuts.calls k _ _ t547 t556 t557 _ ?side1 ?side2 A7.out).mono ?_); (case side1 => repeat (first | exact (Kd.R_reads' HO549.out).2.2 | (with_reducible refine Kd.C_alloc ?_ _) | (with_reducible refine Kd.C_drewN ?_ _) | (with_reducible refine Kd.C_drew ?_))); (case side2 => exact (Kd.R_reads' HO549.out).2.1); rintro e w13 ⟨v558, v560, rfl, ho0, ho1, hb⟩; have n0_ := Aside0.mk (Kd.R_below (by (with_reducible repeat (first | apply Kd.R_alloc | apply Kd.R_drewN | apply Kd.R_drew)); exact HO549.out) hb); have n1_ := Aside0.mk (Kd.R_mono (Kd.R_told (Kd.R_told (Kd.R_old (by (with_reducible repeat (first | apply Kd.R_alloc | apply Kd.R_drewN | apply Kd.R_drew)); exact HO553.out) hb) (Kd.R_base ho0)) (Kd.R_base ho1)) (fun _ h_ => h_.1)); have n2_ := Aside0.mk (Kd.R_mono (Kd.R_told (Kd.R_told (Kd.R_old (by (with_reducible repeat (first | apply Kd.R_alloc | apply Kd.R_drewN | apply Kd.R_drew)); exact HO555.out) hb) (Kd.R_base ho0)) (Kd.R_base ho1)) (fun _ h_ => h_.1)); have n3_ := Aside0.mk (Kd.R_lower (Kd.R_new' (Kd.R_new' ho0 (Kd.R_lt (by (with_reducible repeat (first | apply Kd.R_alloc | apply Kd.R_drewN | apply Kd.R_drew)); exact HO553.out))) (Kd.R_lt (by (with_reducible repeat (first | apply Kd.R_alloc | apply Kd.R_drewN | apply Kd.R_drew)); exact HO555.out))) (below_size (by repeat (first | (with_reducible first | exact HB.out | apply below_alloc | apply pw_below_drewN | apply below_drew1) | exact HB.out)))); have n4_ := Aside0.mk (Kd.R_lower (Kd.R_new' (Kd.R_new' ho1 (Kd.R_lt (by (with_reducible repeat (first | apply Kd.R_alloc | apply Kd.R_drewN | apply Kd.R_drew)); exact HO553.out))) (Kd.R_lt (by (with_reducible repeat (first | apply Kd.R_alloc | apply Kd.R_drewN | apply Kd.R_drew)); exact HO555.out))) (below_size (by repeat (first | (with_reducible first | exact HB.out | apply below_alloc | apply pw_below_drewN | apply below_drew1) | exact HB.out)))); have n5_ := Aside0.mk (below_step (by repeat (first | (with_reducible first | exact HB.out | apply below_alloc | apply pw_below_drewN | apply below_drew1) | exact HB.out)) hb); clear HO549; clear HO553; clear HO555; clear HB; have HO549 := n0_; have HO553 := n1_; have HO555 := n2_; have HO559 := n3_; have HO561 := n4_; have HB := n5_; clear n0_ n1_ n2_ n3_ n4_ n5_; (try clear hb); (try clear hb2); (try clear hk); (try clear hi); (try clear ho0); (try clear ho1))))
  (try simp only [Act.put, List.setIfInBounds_toArray, List.set_cons_zero, List.set_cons_succ])
  go_cut [45] (fun v45 wc => ∃ (kq : Nat) (x45_7 : Bool), v45 = .bool x45_7 ∧ Aside0 (hyphenlaw4_PartAll.j0 kq a1 t547 t550 t551 t556 t557 x45_7 = some r) ∧ Aside0 (kq ≤ k) ∧ Aside0 (Kd.R (Kd.slice 44 k44) 37 wc w.heap.size (fun _ => True) (.slice Ao11 t547.length co11) t547) ∧ Aside0 (Kd.R (Kd.int .i64) 3 wc w.heap.size (fun k_ => some k_ ≠ (v554 : Value).ownBlock ∧ some k_ ≠ (v558 : Value).ownBlock ∧ some k_ ≠ (v560 : Value).ownBlock) v552 t550) ∧ Aside0 (Kd.R (Kd.int .i64) 3 wc w.heap.size (fun k_ => some k_ ≠ (v552 : Value).ownBlock ∧ some k_ ≠ (v558 : Value).ownBlock ∧ some k_ ≠ (v560 : Value).ownBlock) v554 t551) ∧ Aside0 (Kd.R (Kd.int .i64) 3 wc w.heap.size (fun k_ => some k_ ≠ (v552 : Value).ownBlock ∧ some k_ ≠ (v554 : Value).ownBlock ∧ some k_ ≠ (v560 : Value).ownBlock) v558 t556) ∧ Aside0 (Kd.R (Kd.int .i64) 3 wc w.heap.size (fun k_ => some k_ ≠ (v552 : Value).ownBlock ∧ some k_ ≠ (v554 : Value).ownBlock ∧ some k_ ≠ (v558 : Value).ownBlock) v560 t557) ∧ Aside0 (Below w.heap.size w wc))
  case first =>
   have H := HC8.out
   clear HC8
   replace H := Option.bind_eq_some_iff.mp H
   obtain ⟨t562, A140, H⟩ := H
   replace H : (if t562 = true then ((hyphenref1_Ints.f k t551 t557).bind fun t563 => (if t563 = true then ((part_Count.f k t551).bind fun t564 => ((hyphenref4_Count.f k t557).bind fun t565 => (hyphenlaw4_PartAll.j0 k a1 t547 t550 t551 t556 t557 (t564 != t565)))) else (hyphenlaw4_PartAll.j0 k a1 t547 t550 t551 t556 t557 true))) else (hyphenlaw4_PartAll.j0 k a1 t547 t550 t551 t556 t557 true)) = some r := H
   have A14 := Aside0.mk A140
   clear A140
   by_cases c15 : t562 = true
   ·subst c15
    have H1 : ((hyphenref1_Ints.f k t551 t557).bind fun t563 => (if t563 = true then ((part_Count.f k t551).bind fun t564 => ((hyphenref4_Count.f k t557).bind fun t565 => (hyphenlaw4_PartAll.j0 k a1 t547 t550 t551 t556 t557 (t564 != t565)))) else (hyphenlaw4_PartAll.j0 k a1 t547 t550 t551 t556 t557 true))) = some r := by rw [if_pos rfl] at H; exact H
    clear H
    have H := H1
    clear H1
    replace H := Option.bind_eq_some_iff.mp H
    obtain ⟨t563, A160, H⟩ := H
    replace H : (if t563 = true then ((part_Count.f k t551).bind fun t564 => ((hyphenref4_Count.f k t557).bind fun t565 => (hyphenlaw4_PartAll.j0 k a1 t547 t550 t551 t556 t557 (t564 != t565)))) else (hyphenlaw4_PartAll.j0 k a1 t547 t550 t551 t556 t557 true)) = some r := H
    have A16 := Aside0.mk A160
    clear A160
    by_cases c17 : t563 = true
    ·subst c17
     have H1 : ((part_Count.f k t551).bind fun t564 => ((hyphenref4_Count.f k t557).bind fun t565 => (hyphenlaw4_PartAll.j0 k a1 t547 t550 t551 t556 t557 (t564 != t565)))) = some r := by rw [if_pos rfl] at H; exact H
     clear H
     have H := H1
     clear H1
     replace H := Option.bind_eq_some_iff.mp H
     obtain ⟨t564, A180, H⟩ := H
     replace H : ((hyphenref4_Count.f k t557).bind fun t565 => (hyphenlaw4_PartAll.j0 k a1 t547 t550 t551 t556 t557 (t564 != t565))) = some r := H
     have A18 := Aside0.mk A180
     clear A180
     replace H := Option.bind_eq_some_iff.mp H
     obtain ⟨t565, A190, H⟩ := H
     replace H : (hyphenlaw4_PartAll.j0 k a1 t547 t550 t551 t556 t557 (t564 != t565)) = some r := H
     have A19 := Aside0.mk A190
     clear A190
     have H' := Aside0.mk H
     clear H
     obtain ⟨Ao20, co20, eo20⟩ := Kd.R_slice HO553.out
     subst eo20
     obtain ⟨Ao21, co21, eo21⟩ := Kd.R_slice HO559.out
     subst eo21
     go_wp2_with (first | (go_at_call 15; (with_reducible refine (hyphenref1_Ints.calls k _ _ t550 _ _ t556 true _ ?side1 ?side2 ?side3 ?side4 A14.out).mono ?_); (case side1 => repeat (first | exact (Kd.R_reads' HO553.out).2.2 | (with_reducible refine Kd.C_alloc ?_ _) | (with_reducible refine Kd.C_drewN ?_ _) | (with_reducible refine Kd.C_drew ?_))); (case side2 => exact (Kd.R_reads' HO553.out).2.1); (case side3 => repeat (first | exact (Kd.R_reads' HO559.out).2.2 | (with_reducible refine Kd.C_alloc ?_ _) | (with_reducible refine Kd.C_drewN ?_ _) | (with_reducible refine Kd.C_drew ?_))); (case side4 => exact (Kd.R_reads' HO559.out).2.1); rintro e w' ⟨rfl, ⟨nd, rfl⟩⟩; (try first | exact ⟨rfl, _, World.drewN_drewN _ _ _⟩ | exact ⟨rfl, _, Eq.trans (World.drewN_drewN _ _ _) (congrArg (World.drewN _) (Nat.add_assoc _ _ _))⟩); obtain ⟨Ao22, co22, eo22⟩ := Kd.R_slice HO555.out; subst eo22; obtain ⟨Ao23, co23, eo23⟩ := Kd.R_slice HO561.out; subst eo23) | (go_at_call 15; (with_reducible refine (hyphenref1_Ints.calls k _ _ t551 _ _ t557 true _ ?side1 ?side2 ?side3 ?side4 A16.out).mono ?_); (case side1 => repeat (first | exact (Kd.R_reads' HO555.out).2.2 | (with_reducible refine Kd.C_alloc ?_ _) | (with_reducible refine Kd.C_drewN ?_ _) | (with_reducible refine Kd.C_drew ?_))); (case side2 => exact (Kd.R_reads' HO555.out).2.1); (case side3 => repeat (first | exact (Kd.R_reads' HO561.out).2.2 | (with_reducible refine Kd.C_alloc ?_ _) | (with_reducible refine Kd.C_drewN ?_ _) | (with_reducible refine Kd.C_drew ?_))); (case side4 => exact (Kd.R_reads' HO561.out).2.1); rintro e w' ⟨rfl, ⟨nd, rfl⟩⟩; (try first | exact ⟨rfl, _, World.drewN_drewN _ _ _⟩ | exact ⟨rfl, _, Eq.trans (World.drewN_drewN _ _ _) (congrArg (World.drewN _) (Nat.add_assoc _ _ _))⟩)) | (go_at_call 16; (with_reducible refine (part_Count.calls k _ _ t551 t564 _ ?side1 ?side2 A18.out).mono ?_); (case side1 => repeat (first | exact (Kd.R_reads' HO555.out).2.2 | (with_reducible refine Kd.C_alloc ?_ _) | (with_reducible refine Kd.C_drewN ?_ _) | (with_reducible refine Kd.C_drew ?_))); (case side2 => exact (Kd.R_reads' HO555.out).2.1); rintro e w24 ⟨rfl, hb⟩; have n0_ := Aside0.mk (Kd.R_below (by (with_reducible repeat (first | apply Kd.R_alloc | apply Kd.R_drewN | apply Kd.R_drew)); exact HO549.out) hb); have n1_ := Aside0.mk (Kd.R_below (by (with_reducible repeat (first | apply Kd.R_alloc | apply Kd.R_drewN | apply Kd.R_drew)); exact HO553.out) hb); have n2_ := Aside0.mk (Kd.R_below (by (with_reducible repeat (first | apply Kd.R_alloc | apply Kd.R_drewN | apply Kd.R_drew)); exact HO555.out) hb); have n3_ := Aside0.mk (Kd.R_below (by (with_reducible repeat (first | apply Kd.R_alloc | apply Kd.R_drewN | apply Kd.R_drew)); exact HO559.out) hb); have n4_ := Aside0.mk (Kd.R_below (by (with_reducible repeat (first | apply Kd.R_alloc | apply Kd.R_drewN | apply Kd.R_drew)); exact HO561.out) hb); have n5_ := Aside0.mk (below_step (by repeat (first | (with_reducible first | exact HB.out | apply below_alloc | apply pw_below_drewN | apply below_drew1) | exact HB.out)) hb); clear HO549; clear HO553; clear HO555; clear HO559; clear HO561; clear HB; have HO549 := n0_; have HO553 := n1_; have HO555 := n2_; have HO559 := n3_; have HO561 := n4_; have HB := n5_; clear n0_ n1_ n2_ n3_ n4_ n5_; (try clear hb); (try clear hb2); (try clear hk); (try clear hi)) | (go_at_call 17; (with_reducible refine (hyphenref4_Count.calls k _ _ t557 t565 _ ?side1 ?side2 A19.out).mono ?_); (case side1 => repeat (first | exact (Kd.R_reads' HO561.out).2.2 | (with_reducible refine Kd.C_alloc ?_ _) | (with_reducible refine Kd.C_drewN ?_ _) | (with_reducible refine Kd.C_drew ?_))); (case side2 => exact (Kd.R_reads' HO561.out).2.1); rintro e w25 ⟨rfl, hb⟩; have n0_ := Aside0.mk (Kd.R_below (by (with_reducible repeat (first | apply Kd.R_alloc | apply Kd.R_drewN | apply Kd.R_drew)); exact HO549.out) hb); have n1_ := Aside0.mk (Kd.R_below (by (with_reducible repeat (first | apply Kd.R_alloc | apply Kd.R_drewN | apply Kd.R_drew)); exact HO553.out) hb); have n2_ := Aside0.mk (Kd.R_below (by (with_reducible repeat (first | apply Kd.R_alloc | apply Kd.R_drewN | apply Kd.R_drew)); exact HO555.out) hb); have n3_ := Aside0.mk (Kd.R_below (by (with_reducible repeat (first | apply Kd.R_alloc | apply Kd.R_drewN | apply Kd.R_drew)); exact HO559.out) hb); have n4_ := Aside0.mk (Kd.R_below (by (with_reducible repeat (first | apply Kd.R_alloc | apply Kd.R_drewN | apply Kd.R_drew)); exact HO561.out) hb); have n5_ := Aside0.mk (below_step (by repeat (first | (with_reducible first | exact HB.out | apply below_alloc | apply pw_below_drewN | apply below_drew1) | exact HB.out)) hb); clear HO549; clear HO553; clear HO555; clear HO559; clear HO561; clear HB; have HO549 := n0_; have HO553 := n1_; have HO555 := n2_; have HO559 := n3_; have HO561 := n4_; have HB := n5_; clear n0_ n1_ n2_ n3_ n4_ n5_; (try clear hb); (try clear hb2); (try clear hk); (try clear hi)))
     repeat (go_quiet (first | (go_at_call 15; (with_reducible refine (hyphenref1_Ints.calls k _ _ t550 _ _ t556 true _ ?side1 ?side2 ?side3 ?side4 A14.out).mono ?_); (case side1 => repeat (first | exact (Kd.R_reads' HO553.out).2.2 | (with_reducible refine Kd.C_alloc ?_ _) | (with_reducible refine Kd.C_drewN ?_ _) | (with_reducible refine Kd.C_drew ?_))); (case side2 => exact (Kd.R_reads' HO553.out).2.1); (case side3 => repeat (first | exact (Kd.R_reads' HO559.out).2.2 | (with_reducible refine Kd.C_alloc ?_ _) | (with_reducible refine Kd.C_drewN ?_ _) | (with_reducible refine Kd.C_drew ?_))); (case side4 => exact (Kd.R_reads' HO559.out).2.1); rintro e w' ⟨rfl, ⟨nd, rfl⟩⟩; (try first | exact ⟨rfl, _, World.drewN_drewN _ _ _⟩ | exact ⟨rfl, _, Eq.trans (World.drewN_drewN _ _ _) (congrArg (World.drewN _) (Nat.add_assoc _ _ _))⟩); obtain ⟨Ao22, co22, eo22⟩ := Kd.R_slice HO555.out; subst eo22; obtain ⟨Ao23, co23, eo23⟩ := Kd.R_slice HO561.out; subst eo23) | (go_at_call 15; (with_reducible refine (hyphenref1_Ints.calls k _ _ t551 _ _ t557 true _ ?side1 ?side2 ?side3 ?side4 A16.out).mono ?_); (case side1 => repeat (first | exact (Kd.R_reads' HO555.out).2.2 | (with_reducible refine Kd.C_alloc ?_ _) | (with_reducible refine Kd.C_drewN ?_ _) | (with_reducible refine Kd.C_drew ?_))); (case side2 => exact (Kd.R_reads' HO555.out).2.1); (case side3 => repeat (first | exact (Kd.R_reads' HO561.out).2.2 | (with_reducible refine Kd.C_alloc ?_ _) | (with_reducible refine Kd.C_drewN ?_ _) | (with_reducible refine Kd.C_drew ?_))); (case side4 => exact (Kd.R_reads' HO561.out).2.1); rintro e w' ⟨rfl, ⟨nd, rfl⟩⟩; (try first | exact ⟨rfl, _, World.drewN_drewN _ _ _⟩ | exact ⟨rfl, _, Eq.trans (World.drewN_drewN _ _ _) (congrArg (World.drewN _) (Nat.add_assoc _ _ _))⟩)) | (go_at_call 16; (with_reducible refine (part_Count.calls k _ _ t551 t564 _ ?side1 ?side2 A18.out).mono ?_); (case side1 => repeat (first | exact (Kd.R_reads' HO555.out).2.2 | (with_reducible refine Kd.C_alloc ?_ _) | (with_reducible refine Kd.C_drewN ?_ _) | (with_reducible refine Kd.C_drew ?_))); (case side2 => exact (Kd.R_reads' HO555.out).2.1); rintro e w24 ⟨rfl, hb⟩; have n0_ := Aside0.mk (Kd.R_below (by (with_reducible repeat (first | apply Kd.R_alloc | apply Kd.R_drewN | apply Kd.R_drew)); exact HO549.out) hb); have n1_ := Aside0.mk (Kd.R_below (by (with_reducible repeat (first | apply Kd.R_alloc | apply Kd.R_drewN | apply Kd.R_drew)); exact HO553.out) hb); have n2_ := Aside0.mk (Kd.R_below (by (with_reducible repeat (first | apply Kd.R_alloc | apply Kd.R_drewN | apply Kd.R_drew)); exact HO555.out) hb); have n3_ := Aside0.mk (Kd.R_below (by (with_reducible repeat (first | apply Kd.R_alloc | apply Kd.R_drewN | apply Kd.R_drew)); exact HO559.out) hb); have n4_ := Aside0.mk (Kd.R_below (by (with_reducible repeat (first | apply Kd.R_alloc | apply Kd.R_drewN | apply Kd.R_drew)); exact HO561.out) hb); have n5_ := Aside0.mk (below_step (by repeat (first | (with_reducible first | exact HB.out | apply below_alloc | apply pw_below_drewN | apply below_drew1) | exact HB.out)) hb); clear HO549; clear HO553; clear HO555; clear HO559; clear HO561; clear HB; have HO549 := n0_; have HO553 := n1_; have HO555 := n2_; have HO559 := n3_; have HO561 := n4_; have HB := n5_; clear n0_ n1_ n2_ n3_ n4_ n5_; (try clear hb); (try clear hb2); (try clear hk); (try clear hi)) | (go_at_call 17; (with_reducible refine (hyphenref4_Count.calls k _ _ t557 t565 _ ?side1 ?side2 A19.out).mono ?_); (case side1 => repeat (first | exact (Kd.R_reads' HO561.out).2.2 | (with_reducible refine Kd.C_alloc ?_ _) | (with_reducible refine Kd.C_drewN ?_ _) | (with_reducible refine Kd.C_drew ?_))); (case side2 => exact (Kd.R_reads' HO561.out).2.1); rintro e w25 ⟨rfl, hb⟩; have n0_ := Aside0.mk (Kd.R_below (by (with_reducible repeat (first | apply Kd.R_alloc | apply Kd.R_drewN | apply Kd.R_drew)); exact HO549.out) hb); have n1_ := Aside0.mk (Kd.R_below (by (with_reducible repeat (first | apply Kd.R_alloc | apply Kd.R_drewN | apply Kd.R_drew)); exact HO553.out) hb); have n2_ := Aside0.mk (Kd.R_below (by (with_reducible repeat (first | apply Kd.R_alloc | apply Kd.R_drewN | apply Kd.R_drew)); exact HO555.out) hb); have n3_ := Aside0.mk (Kd.R_below (by (with_reducible repeat (first | apply Kd.R_alloc | apply Kd.R_drewN | apply Kd.R_drew)); exact HO559.out) hb); have n4_ := Aside0.mk (Kd.R_below (by (with_reducible repeat (first | apply Kd.R_alloc | apply Kd.R_drewN | apply Kd.R_drew)); exact HO561.out) hb); have n5_ := Aside0.mk (below_step (by repeat (first | (with_reducible first | exact HB.out | apply below_alloc | apply pw_below_drewN | apply below_drew1) | exact HB.out)) hb); clear HO549; clear HO553; clear HO555; clear HO559; clear HO561; clear HB; have HO549 := n0_; have HO553 := n1_; have HO555 := n2_; have HO559 := n3_; have HO561 := n4_; have HB := n5_; clear n0_ n1_ n2_ n3_ n4_ n5_; (try clear hb); (try clear hb2); (try clear hk); (try clear hi))); try go_wp2_with (first | (go_at_call 15; (with_reducible refine (hyphenref1_Ints.calls k _ _ t550 _ _ t556 true _ ?side1 ?side2 ?side3 ?side4 A14.out).mono ?_); (case side1 => repeat (first | exact (Kd.R_reads' HO553.out).2.2 | (with_reducible refine Kd.C_alloc ?_ _) | (with_reducible refine Kd.C_drewN ?_ _) | (with_reducible refine Kd.C_drew ?_))); (case side2 => exact (Kd.R_reads' HO553.out).2.1); (case side3 => repeat (first | exact (Kd.R_reads' HO559.out).2.2 | (with_reducible refine Kd.C_alloc ?_ _) | (with_reducible refine Kd.C_drewN ?_ _) | (with_reducible refine Kd.C_drew ?_))); (case side4 => exact (Kd.R_reads' HO559.out).2.1); rintro e w' ⟨rfl, ⟨nd, rfl⟩⟩; (try first | exact ⟨rfl, _, World.drewN_drewN _ _ _⟩ | exact ⟨rfl, _, Eq.trans (World.drewN_drewN _ _ _) (congrArg (World.drewN _) (Nat.add_assoc _ _ _))⟩); obtain ⟨Ao22, co22, eo22⟩ := Kd.R_slice HO555.out; subst eo22; obtain ⟨Ao23, co23, eo23⟩ := Kd.R_slice HO561.out; subst eo23) | (go_at_call 15; (with_reducible refine (hyphenref1_Ints.calls k _ _ t551 _ _ t557 true _ ?side1 ?side2 ?side3 ?side4 A16.out).mono ?_); (case side1 => repeat (first | exact (Kd.R_reads' HO555.out).2.2 | (with_reducible refine Kd.C_alloc ?_ _) | (with_reducible refine Kd.C_drewN ?_ _) | (with_reducible refine Kd.C_drew ?_))); (case side2 => exact (Kd.R_reads' HO555.out).2.1); (case side3 => repeat (first | exact (Kd.R_reads' HO561.out).2.2 | (with_reducible refine Kd.C_alloc ?_ _) | (with_reducible refine Kd.C_drewN ?_ _) | (with_reducible refine Kd.C_drew ?_))); (case side4 => exact (Kd.R_reads' HO561.out).2.1); rintro e w' ⟨rfl, ⟨nd, rfl⟩⟩; (try first | exact ⟨rfl, _, World.drewN_drewN _ _ _⟩ | exact ⟨rfl, _, Eq.trans (World.drewN_drewN _ _ _) (congrArg (World.drewN _) (Nat.add_assoc _ _ _))⟩)) | (go_at_call 16; (with_reducible refine (part_Count.calls k _ _ t551 t564 _ ?side1 ?side2 A18.out).mono ?_); (case side1 => repeat (first | exact (Kd.R_reads' HO555.out).2.2 | (with_reducible refine Kd.C_alloc ?_ _) | (with_reducible refine Kd.C_drewN ?_ _) | (with_reducible refine Kd.C_drew ?_))); (case side2 => exact (Kd.R_reads' HO555.out).2.1); rintro e w24 ⟨rfl, hb⟩; have n0_ := Aside0.mk (Kd.R_below (by (with_reducible repeat (first | apply Kd.R_alloc | apply Kd.R_drewN | apply Kd.R_drew)); exact HO549.out) hb); have n1_ := Aside0.mk (Kd.R_below (by (with_reducible repeat (first | apply Kd.R_alloc | apply Kd.R_drewN | apply Kd.R_drew)); exact HO553.out) hb); have n2_ := Aside0.mk (Kd.R_below (by (with_reducible repeat (first | apply Kd.R_alloc | apply Kd.R_drewN | apply Kd.R_drew)); exact HO555.out) hb); have n3_ := Aside0.mk (Kd.R_below (by (with_reducible repeat (first | apply Kd.R_alloc | apply Kd.R_drewN | apply Kd.R_drew)); exact HO559.out) hb); have n4_ := Aside0.mk (Kd.R_below (by (with_reducible repeat (first | apply Kd.R_alloc | apply Kd.R_drewN | apply Kd.R_drew)); exact HO561.out) hb); have n5_ := Aside0.mk (below_step (by repeat (first | (with_reducible first | exact HB.out | apply below_alloc | apply pw_below_drewN | apply below_drew1) | exact HB.out)) hb); clear HO549; clear HO553; clear HO555; clear HO559; clear HO561; clear HB; have HO549 := n0_; have HO553 := n1_; have HO555 := n2_; have HO559 := n3_; have HO561 := n4_; have HB := n5_; clear n0_ n1_ n2_ n3_ n4_ n5_; (try clear hb); (try clear hb2); (try clear hk); (try clear hi)) | (go_at_call 17; (with_reducible refine (hyphenref4_Count.calls k _ _ t557 t565 _ ?side1 ?side2 A19.out).mono ?_); (case side1 => repeat (first | exact (Kd.R_reads' HO561.out).2.2 | (with_reducible refine Kd.C_alloc ?_ _) | (with_reducible refine Kd.C_drewN ?_ _) | (with_reducible refine Kd.C_drew ?_))); (case side2 => exact (Kd.R_reads' HO561.out).2.1); rintro e w25 ⟨rfl, hb⟩; have n0_ := Aside0.mk (Kd.R_below (by (with_reducible repeat (first | apply Kd.R_alloc | apply Kd.R_drewN | apply Kd.R_drew)); exact HO549.out) hb); have n1_ := Aside0.mk (Kd.R_below (by (with_reducible repeat (first | apply Kd.R_alloc | apply Kd.R_drewN | apply Kd.R_drew)); exact HO553.out) hb); have n2_ := Aside0.mk (Kd.R_below (by (with_reducible repeat (first | apply Kd.R_alloc | apply Kd.R_drewN | apply Kd.R_drew)); exact HO555.out) hb); have n3_ := Aside0.mk (Kd.R_below (by (with_reducible repeat (first | apply Kd.R_alloc | apply Kd.R_drewN | apply Kd.R_drew)); exact HO559.out) hb); have n4_ := Aside0.mk (Kd.R_below (by (with_reducible repeat (first | apply Kd.R_alloc | apply Kd.R_drewN | apply Kd.R_drew)); exact HO561.out) hb); have n5_ := Aside0.mk (below_step (by repeat (first | (with_reducible first | exact HB.out | apply below_alloc | apply pw_below_drewN | apply below_drew1) | exact HB.out)) hb); clear HO549; clear HO553; clear HO555; clear HO559; clear HO561; clear HB; have HO549 := n0_; have HO553 := n1_; have HO555 := n2_; have HO559 := n3_; have HO561 := n4_; have HB := n5_; clear n0_ n1_ n2_ n3_ n4_ n5_; (try clear hb); (try clear hb2); (try clear hk); (try clear hi))))
     go_meet
     case rel => exact ⟨_, ((t564 != t565)), (by first | rfl | (simp; done) | (simp [*]; done)), H', ⟨by first | omega | exact Nat.le_refl _⟩, ⟨by (with_reducible repeat (first | apply Kd.R_alloc | apply Kd.R_drewN | apply Kd.R_drew)); exact HO549.out⟩, ⟨by (with_reducible repeat (first | apply Kd.R_alloc | apply Kd.R_drewN | apply Kd.R_drew)); exact Kd.R_mono HO553.out (fun _ hk => ⟨hk.1.1, ⟨hk.1.2, hk.2⟩⟩)⟩, ⟨by (with_reducible repeat (first | apply Kd.R_alloc | apply Kd.R_drewN | apply Kd.R_drew)); exact Kd.R_mono HO555.out (fun _ hk => ⟨hk.1.1, ⟨hk.1.2, hk.2⟩⟩)⟩, ⟨by (with_reducible repeat (first | apply Kd.R_alloc | apply Kd.R_drewN | apply Kd.R_drew)); exact Kd.R_mono HO559.out (fun _ hk => ⟨hk.1.2, ⟨hk.2, hk.1.1⟩⟩)⟩, ⟨by (with_reducible repeat (first | apply Kd.R_alloc | apply Kd.R_drewN | apply Kd.R_drew)); exact Kd.R_mono HO561.out (fun _ hk => ⟨hk.1.2, ⟨hk.2, hk.1.1⟩⟩)⟩, ⟨by repeat (first | (with_reducible first | exact HB.out | apply below_alloc | apply pw_below_drewN | apply below_drew1) | exact HB.out)⟩⟩
    ·replace c17 := Bool.eq_false_iff.mpr c17
     subst c17
     have H1 : (hyphenlaw4_PartAll.j0 k a1 t547 t550 t551 t556 t557 true) = some r := by rw [if_neg (show ¬ (false = true) by decide)] at H; exact H
     clear H
     have H := H1
     clear H1
     have H' := Aside0.mk H
     clear H
     obtain ⟨Ao26, co26, eo26⟩ := Kd.R_slice HO553.out
     subst eo26
     obtain ⟨Ao27, co27, eo27⟩ := Kd.R_slice HO559.out
     subst eo27
     go_wp2_with (first | (go_at_call 15; (with_reducible refine (hyphenref1_Ints.calls k _ _ t550 _ _ t556 true _ ?side1 ?side2 ?side3 ?side4 A14.out).mono ?_); (case side1 => repeat (first | exact (Kd.R_reads' HO553.out).2.2 | (with_reducible refine Kd.C_alloc ?_ _) | (with_reducible refine Kd.C_drewN ?_ _) | (with_reducible refine Kd.C_drew ?_))); (case side2 => exact (Kd.R_reads' HO553.out).2.1); (case side3 => repeat (first | exact (Kd.R_reads' HO559.out).2.2 | (with_reducible refine Kd.C_alloc ?_ _) | (with_reducible refine Kd.C_drewN ?_ _) | (with_reducible refine Kd.C_drew ?_))); (case side4 => exact (Kd.R_reads' HO559.out).2.1); rintro e w' ⟨rfl, ⟨nd, rfl⟩⟩; (try first | exact ⟨rfl, _, World.drewN_drewN _ _ _⟩ | exact ⟨rfl, _, Eq.trans (World.drewN_drewN _ _ _) (congrArg (World.drewN _) (Nat.add_assoc _ _ _))⟩); obtain ⟨Ao28, co28, eo28⟩ := Kd.R_slice HO555.out; subst eo28; obtain ⟨Ao29, co29, eo29⟩ := Kd.R_slice HO561.out; subst eo29) | (go_at_call 15; (with_reducible refine (hyphenref1_Ints.calls k _ _ t551 _ _ t557 false _ ?side1 ?side2 ?side3 ?side4 A16.out).mono ?_); (case side1 => repeat (first | exact (Kd.R_reads' HO555.out).2.2 | (with_reducible refine Kd.C_alloc ?_ _) | (with_reducible refine Kd.C_drewN ?_ _) | (with_reducible refine Kd.C_drew ?_))); (case side2 => exact (Kd.R_reads' HO555.out).2.1); (case side3 => repeat (first | exact (Kd.R_reads' HO561.out).2.2 | (with_reducible refine Kd.C_alloc ?_ _) | (with_reducible refine Kd.C_drewN ?_ _) | (with_reducible refine Kd.C_drew ?_))); (case side4 => exact (Kd.R_reads' HO561.out).2.1); rintro e w' ⟨rfl, ⟨nd, rfl⟩⟩; (try first | exact ⟨rfl, _, World.drewN_drewN _ _ _⟩ | exact ⟨rfl, _, Eq.trans (World.drewN_drewN _ _ _) (congrArg (World.drewN _) (Nat.add_assoc _ _ _))⟩)))
     repeat (go_quiet (first | (go_at_call 15; (with_reducible refine (hyphenref1_Ints.calls k _ _ t550 _ _ t556 true _ ?side1 ?side2 ?side3 ?side4 A14.out).mono ?_); (case side1 => repeat (first | exact (Kd.R_reads' HO553.out).2.2 | (with_reducible refine Kd.C_alloc ?_ _) | (with_reducible refine Kd.C_drewN ?_ _) | (with_reducible refine Kd.C_drew ?_))); (case side2 => exact (Kd.R_reads' HO553.out).2.1); (case side3 => repeat (first | exact (Kd.R_reads' HO559.out).2.2 | (with_reducible refine Kd.C_alloc ?_ _) | (with_reducible refine Kd.C_drewN ?_ _) | (with_reducible refine Kd.C_drew ?_))); (case side4 => exact (Kd.R_reads' HO559.out).2.1); rintro e w' ⟨rfl, ⟨nd, rfl⟩⟩; (try first | exact ⟨rfl, _, World.drewN_drewN _ _ _⟩ | exact ⟨rfl, _, Eq.trans (World.drewN_drewN _ _ _) (congrArg (World.drewN _) (Nat.add_assoc _ _ _))⟩); obtain ⟨Ao28, co28, eo28⟩ := Kd.R_slice HO555.out; subst eo28; obtain ⟨Ao29, co29, eo29⟩ := Kd.R_slice HO561.out; subst eo29) | (go_at_call 15; (with_reducible refine (hyphenref1_Ints.calls k _ _ t551 _ _ t557 false _ ?side1 ?side2 ?side3 ?side4 A16.out).mono ?_); (case side1 => repeat (first | exact (Kd.R_reads' HO555.out).2.2 | (with_reducible refine Kd.C_alloc ?_ _) | (with_reducible refine Kd.C_drewN ?_ _) | (with_reducible refine Kd.C_drew ?_))); (case side2 => exact (Kd.R_reads' HO555.out).2.1); (case side3 => repeat (first | exact (Kd.R_reads' HO561.out).2.2 | (with_reducible refine Kd.C_alloc ?_ _) | (with_reducible refine Kd.C_drewN ?_ _) | (with_reducible refine Kd.C_drew ?_))); (case side4 => exact (Kd.R_reads' HO561.out).2.1); rintro e w' ⟨rfl, ⟨nd, rfl⟩⟩; (try first | exact ⟨rfl, _, World.drewN_drewN _ _ _⟩ | exact ⟨rfl, _, Eq.trans (World.drewN_drewN _ _ _) (congrArg (World.drewN _) (Nat.add_assoc _ _ _))⟩))); try go_wp2_with (first | (go_at_call 15; (with_reducible refine (hyphenref1_Ints.calls k _ _ t550 _ _ t556 true _ ?side1 ?side2 ?side3 ?side4 A14.out).mono ?_); (case side1 => repeat (first | exact (Kd.R_reads' HO553.out).2.2 | (with_reducible refine Kd.C_alloc ?_ _) | (with_reducible refine Kd.C_drewN ?_ _) | (with_reducible refine Kd.C_drew ?_))); (case side2 => exact (Kd.R_reads' HO553.out).2.1); (case side3 => repeat (first | exact (Kd.R_reads' HO559.out).2.2 | (with_reducible refine Kd.C_alloc ?_ _) | (with_reducible refine Kd.C_drewN ?_ _) | (with_reducible refine Kd.C_drew ?_))); (case side4 => exact (Kd.R_reads' HO559.out).2.1); rintro e w' ⟨rfl, ⟨nd, rfl⟩⟩; (try first | exact ⟨rfl, _, World.drewN_drewN _ _ _⟩ | exact ⟨rfl, _, Eq.trans (World.drewN_drewN _ _ _) (congrArg (World.drewN _) (Nat.add_assoc _ _ _))⟩); obtain ⟨Ao28, co28, eo28⟩ := Kd.R_slice HO555.out; subst eo28; obtain ⟨Ao29, co29, eo29⟩ := Kd.R_slice HO561.out; subst eo29) | (go_at_call 15; (with_reducible refine (hyphenref1_Ints.calls k _ _ t551 _ _ t557 false _ ?side1 ?side2 ?side3 ?side4 A16.out).mono ?_); (case side1 => repeat (first | exact (Kd.R_reads' HO555.out).2.2 | (with_reducible refine Kd.C_alloc ?_ _) | (with_reducible refine Kd.C_drewN ?_ _) | (with_reducible refine Kd.C_drew ?_))); (case side2 => exact (Kd.R_reads' HO555.out).2.1); (case side3 => repeat (first | exact (Kd.R_reads' HO561.out).2.2 | (with_reducible refine Kd.C_alloc ?_ _) | (with_reducible refine Kd.C_drewN ?_ _) | (with_reducible refine Kd.C_drew ?_))); (case side4 => exact (Kd.R_reads' HO561.out).2.1); rintro e w' ⟨rfl, ⟨nd, rfl⟩⟩; (try first | exact ⟨rfl, _, World.drewN_drewN _ _ _⟩ | exact ⟨rfl, _, Eq.trans (World.drewN_drewN _ _ _) (congrArg (World.drewN _) (Nat.add_assoc _ _ _))⟩))))
     go_meet
     case rel => exact ⟨_, (true), (by first | rfl | (simp; done) | (simp [*]; done)), H', ⟨by first | omega | exact Nat.le_refl _⟩, ⟨by (with_reducible repeat (first | apply Kd.R_alloc | apply Kd.R_drewN | apply Kd.R_drew)); exact HO549.out⟩, ⟨by (with_reducible repeat (first | apply Kd.R_alloc | apply Kd.R_drewN | apply Kd.R_drew)); exact Kd.R_mono HO553.out (fun _ hk => ⟨hk.1.1, ⟨hk.1.2, hk.2⟩⟩)⟩, ⟨by (with_reducible repeat (first | apply Kd.R_alloc | apply Kd.R_drewN | apply Kd.R_drew)); exact Kd.R_mono HO555.out (fun _ hk => ⟨hk.1.1, ⟨hk.1.2, hk.2⟩⟩)⟩, ⟨by (with_reducible repeat (first | apply Kd.R_alloc | apply Kd.R_drewN | apply Kd.R_drew)); exact Kd.R_mono HO559.out (fun _ hk => ⟨hk.1.2, ⟨hk.2, hk.1.1⟩⟩)⟩, ⟨by (with_reducible repeat (first | apply Kd.R_alloc | apply Kd.R_drewN | apply Kd.R_drew)); exact Kd.R_mono HO561.out (fun _ hk => ⟨hk.1.2, ⟨hk.2, hk.1.1⟩⟩)⟩, ⟨by repeat (first | (with_reducible first | exact HB.out | apply below_alloc | apply pw_below_drewN | apply below_drew1) | exact HB.out)⟩⟩
   ·replace c15 := Bool.eq_false_iff.mpr c15
    subst c15
    have H1 : (hyphenlaw4_PartAll.j0 k a1 t547 t550 t551 t556 t557 true) = some r := by rw [if_neg (show ¬ (false = true) by decide)] at H; exact H
    clear H
    have H := H1
    clear H1
    have H' := Aside0.mk H
    clear H
    obtain ⟨Ao30, co30, eo30⟩ := Kd.R_slice HO553.out
    subst eo30
    obtain ⟨Ao31, co31, eo31⟩ := Kd.R_slice HO559.out
    subst eo31
    go_wp2_with (first | (go_at_call 15; (with_reducible refine (hyphenref1_Ints.calls k _ _ t550 _ _ t556 false _ ?side1 ?side2 ?side3 ?side4 A14.out).mono ?_); (case side1 => repeat (first | exact (Kd.R_reads' HO553.out).2.2 | (with_reducible refine Kd.C_alloc ?_ _) | (with_reducible refine Kd.C_drewN ?_ _) | (with_reducible refine Kd.C_drew ?_))); (case side2 => exact (Kd.R_reads' HO553.out).2.1); (case side3 => repeat (first | exact (Kd.R_reads' HO559.out).2.2 | (with_reducible refine Kd.C_alloc ?_ _) | (with_reducible refine Kd.C_drewN ?_ _) | (with_reducible refine Kd.C_drew ?_))); (case side4 => exact (Kd.R_reads' HO559.out).2.1); rintro e w' ⟨rfl, ⟨nd, rfl⟩⟩; (try first | exact ⟨rfl, _, World.drewN_drewN _ _ _⟩ | exact ⟨rfl, _, Eq.trans (World.drewN_drewN _ _ _) (congrArg (World.drewN _) (Nat.add_assoc _ _ _))⟩)))
    repeat (go_quiet (first | (go_at_call 15; (with_reducible refine (hyphenref1_Ints.calls k _ _ t550 _ _ t556 false _ ?side1 ?side2 ?side3 ?side4 A14.out).mono ?_); (case side1 => repeat (first | exact (Kd.R_reads' HO553.out).2.2 | (with_reducible refine Kd.C_alloc ?_ _) | (with_reducible refine Kd.C_drewN ?_ _) | (with_reducible refine Kd.C_drew ?_))); (case side2 => exact (Kd.R_reads' HO553.out).2.1); (case side3 => repeat (first | exact (Kd.R_reads' HO559.out).2.2 | (with_reducible refine Kd.C_alloc ?_ _) | (with_reducible refine Kd.C_drewN ?_ _) | (with_reducible refine Kd.C_drew ?_))); (case side4 => exact (Kd.R_reads' HO559.out).2.1); rintro e w' ⟨rfl, ⟨nd, rfl⟩⟩; (try first | exact ⟨rfl, _, World.drewN_drewN _ _ _⟩ | exact ⟨rfl, _, Eq.trans (World.drewN_drewN _ _ _) (congrArg (World.drewN _) (Nat.add_assoc _ _ _))⟩))); try go_wp2_with (first | (go_at_call 15; (with_reducible refine (hyphenref1_Ints.calls k _ _ t550 _ _ t556 false _ ?side1 ?side2 ?side3 ?side4 A14.out).mono ?_); (case side1 => repeat (first | exact (Kd.R_reads' HO553.out).2.2 | (with_reducible refine Kd.C_alloc ?_ _) | (with_reducible refine Kd.C_drewN ?_ _) | (with_reducible refine Kd.C_drew ?_))); (case side2 => exact (Kd.R_reads' HO553.out).2.1); (case side3 => repeat (first | exact (Kd.R_reads' HO559.out).2.2 | (with_reducible refine Kd.C_alloc ?_ _) | (with_reducible refine Kd.C_drewN ?_ _) | (with_reducible refine Kd.C_drew ?_))); (case side4 => exact (Kd.R_reads' HO559.out).2.1); rintro e w' ⟨rfl, ⟨nd, rfl⟩⟩; (try first | exact ⟨rfl, _, World.drewN_drewN _ _ _⟩ | exact ⟨rfl, _, Eq.trans (World.drewN_drewN _ _ _) (congrArg (World.drewN _) (Nat.add_assoc _ _ _))⟩))))
    go_meet
    case rel => exact ⟨_, (true), (by first | rfl | (simp; done) | (simp [*]; done)), H', ⟨by first | omega | exact Nat.le_refl _⟩, ⟨by (with_reducible repeat (first | apply Kd.R_alloc | apply Kd.R_drewN | apply Kd.R_drew)); exact HO549.out⟩, ⟨by (with_reducible repeat (first | apply Kd.R_alloc | apply Kd.R_drewN | apply Kd.R_drew)); exact Kd.R_mono HO553.out (fun _ hk => ⟨hk.1.1, ⟨hk.1.2, hk.2⟩⟩)⟩, ⟨by (with_reducible repeat (first | apply Kd.R_alloc | apply Kd.R_drewN | apply Kd.R_drew)); exact Kd.R_mono HO555.out (fun _ hk => ⟨hk.1.1, ⟨hk.1.2, hk.2⟩⟩)⟩, ⟨by (with_reducible repeat (first | apply Kd.R_alloc | apply Kd.R_drewN | apply Kd.R_drew)); exact Kd.R_mono HO559.out (fun _ hk => ⟨hk.1.2, ⟨hk.2, hk.1.1⟩⟩)⟩, ⟨by (with_reducible repeat (first | apply Kd.R_alloc | apply Kd.R_drewN | apply Kd.R_drew)); exact Kd.R_mono HO561.out (fun _ hk => ⟨hk.1.2, ⟨hk.2, hk.1.1⟩⟩)⟩, ⟨by repeat (first | (with_reducible first | exact HB.out | apply below_alloc | apply pw_below_drewN | apply below_drew1) | exact HB.out)⟩⟩
  case rest =>
   clear HC8
   try clear c1
   try clear p2
   try clear c3
   try clear c4
   try clear c15
   try clear c17
   obtain ⟨kq, x45_7, rfl, HA, HJ7, HO_5, HO_6, HO_7, HO_8, HO_9, HB⟩ := hcut
   cases kq with
   | zero => exact absurd HA.out (by simp [hyphenlaw4_PartAll.j0])
   | succ kj7 =>
    have H := HA.out
    clear HA
    simp only [hyphenlaw4_PartAll.j0] at H
    by_cases c32 : x45_7 = true
    ·subst c32
     have H1 : (none) = some r := by rw [if_pos rfl] at H; exact H
     clear H
     have H := H1
     clear H1
     exact absurd H (by simp)
    ·replace c32 := Bool.eq_false_iff.mpr c32
     subst c32
     have H1 : ((part_In.f kj7 t547 t550 t551).bind fun t566 => ((hyphenref4_In.f kj7 t547 t556 t557).bind fun t569 => (if (t566.length : Int) = (t569.length : Int) then (hyphenlaw4_PartAll.l0 kj7 a1 t550 t551 t556 t557 t566 t569 0) else (none)))) = some r := by rw [if_neg (show ¬ (false = true) by decide)] at H; exact H
     clear H
     have H := H1
     clear H1
     replace H := Option.bind_eq_some_iff.mp H
     obtain ⟨t566, A330, H⟩ := H
     replace H : ((hyphenref4_In.f kj7 t547 t556 t557).bind fun t569 => (if (t566.length : Int) = (t569.length : Int) then (hyphenlaw4_PartAll.l0 kj7 a1 t550 t551 t556 t557 t566 t569 0) else (none))) = some r := H
     have A33 := Aside0.mk A330
     clear A330
     replace H := Option.bind_eq_some_iff.mp H
     obtain ⟨t569, A340, H⟩ := H
     replace H : (if (t566.length : Int) = (t569.length : Int) then (hyphenlaw4_PartAll.l0 kj7 a1 t550 t551 t556 t557 t566 t569 0) else (none)) = some r := H
     have A34 := Aside0.mk A340
     clear A340
     by_cases c35 : (t566.length : Int) = (t569.length : Int)
     ·rw [if_pos c35] at H
      have c35b0 : ((t566.length : Int) == (t569.length : Int)) = true := beq_iff_eq.mpr c35
      have c35b1 : ((t566.length : Int) != (t569.length : Int)) = false := bne_eq_false_iff_eq.mpr c35
      have c35b2 : (t566.length == t569.length) = true := by first | simpa using c35 | (simp at c35 ⊢; omega)
      clear c35
      have H' := Aside0.mk H
      clear H
      obtain ⟨Ao36, co36, eo36⟩ := Kd.R_slice HO_6.out
      subst eo36
      obtain ⟨Ao37, co37, eo37⟩ := Kd.R_slice HO_7.out
      subst eo37
      go_wp2_with (first | (go_at_call 18; (with_reducible refine (part_In.calls kj7 _ _ t547 _ _ t550 _ _ t551 t566 _ ?side1 ?side2 ?side3 ?side4 ?side5 ?side6 A33.out).mono ?_); (case side1 => repeat (first | exact (Kd.R_reads' HO_5.out).2.2 | (with_reducible refine Kd.C_alloc ?_ _) | (with_reducible refine Kd.C_drewN ?_ _) | (with_reducible refine Kd.C_drew ?_))); (case side2 => exact (Kd.R_reads' HO_5.out).2.1); (case side3 => repeat (first | exact (Kd.R_reads' HO_6.out).2.2 | (with_reducible refine Kd.C_alloc ?_ _) | (with_reducible refine Kd.C_drewN ?_ _) | (with_reducible refine Kd.C_drew ?_))); (case side4 => exact (Kd.R_reads' HO_6.out).2.1); (case side5 => repeat (first | exact (Kd.R_reads' HO_7.out).2.2 | (with_reducible refine Kd.C_alloc ?_ _) | (with_reducible refine Kd.C_drewN ?_ _) | (with_reducible refine Kd.C_drew ?_))); (case side6 => exact (Kd.R_reads' HO_7.out).2.1); rintro e w38 ⟨v567, rfl, ho0, hb⟩; have n0_ := Aside0.mk (Kd.R_below (by (with_reducible repeat (first | apply Kd.R_alloc | apply Kd.R_drewN | apply Kd.R_drew)); exact HO_5.out) hb); have n1_ := Aside0.mk (Kd.R_below (by (with_reducible repeat (first | apply Kd.R_alloc | apply Kd.R_drewN | apply Kd.R_drew)); exact HO_6.out) hb); have n2_ := Aside0.mk (Kd.R_below (by (with_reducible repeat (first | apply Kd.R_alloc | apply Kd.R_drewN | apply Kd.R_drew)); exact HO_7.out) hb); have n3_ := Aside0.mk (Kd.R_below (by (with_reducible repeat (first | apply Kd.R_alloc | apply Kd.R_drewN | apply Kd.R_drew)); exact HO_8.out) hb); have n4_ := Aside0.mk (Kd.R_below (by (with_reducible repeat (first | apply Kd.R_alloc | apply Kd.R_drewN | apply Kd.R_drew)); exact HO_9.out) hb); have n5_ := Aside0.mk (Kd.R_lower ho0 (below_size (by repeat (first | (with_reducible first | exact HB.out | apply below_alloc | apply pw_below_drewN | apply below_drew1) | exact HB.out)))); have n6_ := Aside0.mk (below_step (by repeat (first | (with_reducible first | exact HB.out | apply below_alloc | apply pw_below_drewN | apply below_drew1) | exact HB.out)) hb); clear HO_5; clear HO_6; clear HO_7; clear HO_8; clear HO_9; clear HB; have HO_5 := n0_; have HO_6 := n1_; have HO_7 := n2_; have HO_8 := n3_; have HO_9 := n4_; have HO568 := n5_; have HB := n6_; clear n0_ n1_ n2_ n3_ n4_ n5_ n6_; (try clear hb); (try clear hb2); (try clear hk); (try clear hi); (try clear ho0); obtain ⟨Ao39, co39, eo39⟩ := Kd.R_slice HO_8.out; subst eo39; obtain ⟨Ao40, co40, eo40⟩ := Kd.R_slice HO_9.out; subst eo40) | (go_at_call 19; (with_reducible refine (hyphenref4_In.calls kj7 _ _ t547 _ _ t556 _ _ t557 t569 _ ?side1 ?side2 ?side3 ?side4 ?side5 ?side6 A34.out).mono ?_); (case side1 => repeat (first | exact (Kd.R_reads' HO_5.out).2.2 | (with_reducible refine Kd.C_alloc ?_ _) | (with_reducible refine Kd.C_drewN ?_ _) | (with_reducible refine Kd.C_drew ?_))); (case side2 => exact (Kd.R_reads' HO_5.out).2.1); (case side3 => repeat (first | exact (Kd.R_reads' HO_8.out).2.2 | (with_reducible refine Kd.C_alloc ?_ _) | (with_reducible refine Kd.C_drewN ?_ _) | (with_reducible refine Kd.C_drew ?_))); (case side4 => exact (Kd.R_reads' HO_8.out).2.1); (case side5 => repeat (first | exact (Kd.R_reads' HO_9.out).2.2 | (with_reducible refine Kd.C_alloc ?_ _) | (with_reducible refine Kd.C_drewN ?_ _) | (with_reducible refine Kd.C_drew ?_))); (case side6 => exact (Kd.R_reads' HO_9.out).2.1); rintro e w41 ⟨v570, rfl, ho0, hb⟩; have n0_ := Aside0.mk (Kd.R_below (by (with_reducible repeat (first | apply Kd.R_alloc | apply Kd.R_drewN | apply Kd.R_drew)); exact HO_5.out) hb); have n1_ := Aside0.mk (Kd.R_below (by (with_reducible repeat (first | apply Kd.R_alloc | apply Kd.R_drewN | apply Kd.R_drew)); exact HO_6.out) hb); have n2_ := Aside0.mk (Kd.R_below (by (with_reducible repeat (first | apply Kd.R_alloc | apply Kd.R_drewN | apply Kd.R_drew)); exact HO_7.out) hb); have n3_ := Aside0.mk (Kd.R_below (by (with_reducible repeat (first | apply Kd.R_alloc | apply Kd.R_drewN | apply Kd.R_drew)); exact HO_8.out) hb); have n4_ := Aside0.mk (Kd.R_below (by (with_reducible repeat (first | apply Kd.R_alloc | apply Kd.R_drewN | apply Kd.R_drew)); exact HO_9.out) hb); have n5_ := Aside0.mk (Kd.R_elder' (by (with_reducible repeat (first | apply Kd.R_alloc | apply Kd.R_drewN | apply Kd.R_drew)); exact HO568.out) (Kd.R_base ho0) hb); have n6_ := Aside0.mk (Kd.R_lower (Kd.R_new' ho0 (Kd.R_lt (by (with_reducible repeat (first | apply Kd.R_alloc | apply Kd.R_drewN | apply Kd.R_drew)); exact HO568.out))) (below_size (by repeat (first | (with_reducible first | exact HB.out | apply below_alloc | apply pw_below_drewN | apply below_drew1) | exact HB.out)))); have n7_ := Aside0.mk (below_step (by repeat (first | (with_reducible first | exact HB.out | apply below_alloc | apply pw_below_drewN | apply below_drew1) | exact HB.out)) hb); clear HO_5; clear HO_6; clear HO_7; clear HO_8; clear HO_9; clear HO568; clear HB; have HO_5 := n0_; have HO_6 := n1_; have HO_7 := n2_; have HO_8 := n3_; have HO_9 := n4_; have HO568 := n5_; have HO571 := n6_; have HB := n7_; clear n0_ n1_ n2_ n3_ n4_ n5_ n6_ n7_; (try clear hb); (try clear hb2); (try clear hk); (try clear hi); (try clear ho0); obtain ⟨Ao42, co42, eo42⟩ := Kd.R_slice HO568.out; subst eo42; obtain ⟨Ao43, co43, eo43⟩ := Kd.R_slice HO571.out; subst eo43))
      repeat (go_quiet (first | (go_at_call 18; (with_reducible refine (part_In.calls kj7 _ _ t547 _ _ t550 _ _ t551 t566 _ ?side1 ?side2 ?side3 ?side4 ?side5 ?side6 A33.out).mono ?_); (case side1 => repeat (first | exact (Kd.R_reads' HO_5.out).2.2 | (with_reducible refine Kd.C_alloc ?_ _) | (with_reducible refine Kd.C_drewN ?_ _) | (with_reducible refine Kd.C_drew ?_))); (case side2 => exact (Kd.R_reads' HO_5.out).2.1); (case side3 => repeat (first | exact (Kd.R_reads' HO_6.out).2.2 | (with_reducible refine Kd.C_alloc ?_ _) | (with_reducible refine Kd.C_drewN ?_ _) | (with_reducible refine Kd.C_drew ?_))); (case side4 => exact (Kd.R_reads' HO_6.out).2.1); (case side5 => repeat (first | exact (Kd.R_reads' HO_7.out).2.2 | (with_reducible refine Kd.C_alloc ?_ _) | (with_reducible refine Kd.C_drewN ?_ _) | (with_reducible refine Kd.C_drew ?_))); (case side6 => exact (Kd.R_reads' HO_7.out).2.1); rintro e w38 ⟨v567, rfl, ho0, hb⟩; have n0_ := Aside0.mk (Kd.R_below (by (with_reducible repeat (first | apply Kd.R_alloc | apply Kd.R_drewN | apply Kd.R_drew)); exact HO_5.out) hb); have n1_ := Aside0.mk (Kd.R_below (by (with_reducible repeat (first | apply Kd.R_alloc | apply Kd.R_drewN | apply Kd.R_drew)); exact HO_6.out) hb); have n2_ := Aside0.mk (Kd.R_below (by (with_reducible repeat (first | apply Kd.R_alloc | apply Kd.R_drewN | apply Kd.R_drew)); exact HO_7.out) hb); have n3_ := Aside0.mk (Kd.R_below (by (with_reducible repeat (first | apply Kd.R_alloc | apply Kd.R_drewN | apply Kd.R_drew)); exact HO_8.out) hb); have n4_ := Aside0.mk (Kd.R_below (by (with_reducible repeat (first | apply Kd.R_alloc | apply Kd.R_drewN | apply Kd.R_drew)); exact HO_9.out) hb); have n5_ := Aside0.mk (Kd.R_lower ho0 (below_size (by repeat (first | (with_reducible first | exact HB.out | apply below_alloc | apply pw_below_drewN | apply below_drew1) | exact HB.out)))); have n6_ := Aside0.mk (below_step (by repeat (first | (with_reducible first | exact HB.out | apply below_alloc | apply pw_below_drewN | apply below_drew1) | exact HB.out)) hb); clear HO_5; clear HO_6; clear HO_7; clear HO_8; clear HO_9; clear HB; have HO_5 := n0_; have HO_6 := n1_; have HO_7 := n2_; have HO_8 := n3_; have HO_9 := n4_; have HO568 := n5_; have HB := n6_; clear n0_ n1_ n2_ n3_ n4_ n5_ n6_; (try clear hb); (try clear hb2); (try clear hk); (try clear hi); (try clear ho0); obtain ⟨Ao39, co39, eo39⟩ := Kd.R_slice HO_8.out; subst eo39; obtain ⟨Ao40, co40, eo40⟩ := Kd.R_slice HO_9.out; subst eo40) | (go_at_call 19; (with_reducible refine (hyphenref4_In.calls kj7 _ _ t547 _ _ t556 _ _ t557 t569 _ ?side1 ?side2 ?side3 ?side4 ?side5 ?side6 A34.out).mono ?_); (case side1 => repeat (first | exact (Kd.R_reads' HO_5.out).2.2 | (with_reducible refine Kd.C_alloc ?_ _) | (with_reducible refine Kd.C_drewN ?_ _) | (with_reducible refine Kd.C_drew ?_))); (case side2 => exact (Kd.R_reads' HO_5.out).2.1); (case side3 => repeat (first | exact (Kd.R_reads' HO_8.out).2.2 | (with_reducible refine Kd.C_alloc ?_ _) | (with_reducible refine Kd.C_drewN ?_ _) | (with_reducible refine Kd.C_drew ?_))); (case side4 => exact (Kd.R_reads' HO_8.out).2.1); (case side5 => repeat (first | exact (Kd.R_reads' HO_9.out).2.2 | (with_reducible refine Kd.C_alloc ?_ _) | (with_reducible refine Kd.C_drewN ?_ _) | (with_reducible refine Kd.C_drew ?_))); (case side6 => exact (Kd.R_reads' HO_9.out).2.1); rintro e w41 ⟨v570, rfl, ho0, hb⟩; have n0_ := Aside0.mk (Kd.R_below (by (with_reducible repeat (first | apply Kd.R_alloc | apply Kd.R_drewN | apply Kd.R_drew)); exact HO_5.out) hb); have n1_ := Aside0.mk (Kd.R_below (by (with_reducible repeat (first | apply Kd.R_alloc | apply Kd.R_drewN | apply Kd.R_drew)); exact HO_6.out) hb); have n2_ := Aside0.mk (Kd.R_below (by (with_reducible repeat (first | apply Kd.R_alloc | apply Kd.R_drewN | apply Kd.R_drew)); exact HO_7.out) hb); have n3_ := Aside0.mk (Kd.R_below (by (with_reducible repeat (first | apply Kd.R_alloc | apply Kd.R_drewN | apply Kd.R_drew)); exact HO_8.out) hb); have n4_ := Aside0.mk (Kd.R_below (by (with_reducible repeat (first | apply Kd.R_alloc | apply Kd.R_drewN | apply Kd.R_drew)); exact HO_9.out) hb); have n5_ := Aside0.mk (Kd.R_elder' (by (with_reducible repeat (first | apply Kd.R_alloc | apply Kd.R_drewN | apply Kd.R_drew)); exact HO568.out) (Kd.R_base ho0) hb); have n6_ := Aside0.mk (Kd.R_lower (Kd.R_new' ho0 (Kd.R_lt (by (with_reducible repeat (first | apply Kd.R_alloc | apply Kd.R_drewN | apply Kd.R_drew)); exact HO568.out))) (below_size (by repeat (first | (with_reducible first | exact HB.out | apply below_alloc | apply pw_below_drewN | apply below_drew1) | exact HB.out)))); have n7_ := Aside0.mk (below_step (by repeat (first | (with_reducible first | exact HB.out | apply below_alloc | apply pw_below_drewN | apply below_drew1) | exact HB.out)) hb); clear HO_5; clear HO_6; clear HO_7; clear HO_8; clear HO_9; clear HO568; clear HB; have HO_5 := n0_; have HO_6 := n1_; have HO_7 := n2_; have HO_8 := n3_; have HO_9 := n4_; have HO568 := n5_; have HO571 := n6_; have HB := n7_; clear n0_ n1_ n2_ n3_ n4_ n5_ n6_ n7_; (try clear hb); (try clear hb2); (try clear hk); (try clear hi); (try clear ho0); obtain ⟨Ao42, co42, eo42⟩ := Kd.R_slice HO568.out; subst eo42; obtain ⟨Ao43, co43, eo43⟩ := Kd.R_slice HO571.out; subst eo43)); try go_wp2_with (first | (go_at_call 18; (with_reducible refine (part_In.calls kj7 _ _ t547 _ _ t550 _ _ t551 t566 _ ?side1 ?side2 ?side3 ?side4 ?side5 ?side6 A33.out).mono ?_); (case side1 => repeat (first | exact (Kd.R_reads' HO_5.out).2.2 | (with_reducible refine Kd.C_alloc ?_ _) | (with_reducible refine Kd.C_drewN ?_ _) | (with_reducible refine Kd.C_drew ?_))); (case side2 => exact (Kd.R_reads' HO_5.out).2.1); (case side3 => repeat (first | exact (Kd.R_reads' HO_6.out).2.2 | (with_reducible refine Kd.C_alloc ?_ _) | (with_reducible refine Kd.C_drewN ?_ _) | (with_reducible refine Kd.C_drew ?_))); (case side4 => exact (Kd.R_reads' HO_6.out).2.1); (case side5 => repeat (first | exact (Kd.R_reads' HO_7.out).2.2 | (with_reducible refine Kd.C_alloc ?_ _) | (with_reducible refine Kd.C_drewN ?_ _) | (with_reducible refine Kd.C_drew ?_))); (case side6 => exact (Kd.R_reads' HO_7.out).2.1); rintro e w38 ⟨v567, rfl, ho0, hb⟩; have n0_ := Aside0.mk (Kd.R_below (by (with_reducible repeat (first | apply Kd.R_alloc | apply Kd.R_drewN | apply Kd.R_drew)); exact HO_5.out) hb); have n1_ := Aside0.mk (Kd.R_below (by (with_reducible repeat (first | apply Kd.R_alloc | apply Kd.R_drewN | apply Kd.R_drew)); exact HO_6.out) hb); have n2_ := Aside0.mk (Kd.R_below (by (with_reducible repeat (first | apply Kd.R_alloc | apply Kd.R_drewN | apply Kd.R_drew)); exact HO_7.out) hb); have n3_ := Aside0.mk (Kd.R_below (by (with_reducible repeat (first | apply Kd.R_alloc | apply Kd.R_drewN | apply Kd.R_drew)); exact HO_8.out) hb); have n4_ := Aside0.mk (Kd.R_below (by (with_reducible repeat (first | apply Kd.R_alloc | apply Kd.R_drewN | apply Kd.R_drew)); exact HO_9.out) hb); have n5_ := Aside0.mk (Kd.R_lower ho0 (below_size (by repeat (first | (with_reducible first | exact HB.out | apply below_alloc | apply pw_below_drewN | apply below_drew1) | exact HB.out)))); have n6_ := Aside0.mk (below_step (by repeat (first | (with_reducible first | exact HB.out | apply below_alloc | apply pw_below_drewN | apply below_drew1) | exact HB.out)) hb); clear HO_5; clear HO_6; clear HO_7; clear HO_8; clear HO_9; clear HB; have HO_5 := n0_; have HO_6 := n1_; have HO_7 := n2_; have HO_8 := n3_; have HO_9 := n4_; have HO568 := n5_; have HB := n6_; clear n0_ n1_ n2_ n3_ n4_ n5_ n6_; (try clear hb); (try clear hb2); (try clear hk); (try clear hi); (try clear ho0); obtain ⟨Ao39, co39, eo39⟩ := Kd.R_slice HO_8.out; subst eo39; obtain ⟨Ao40, co40, eo40⟩ := Kd.R_slice HO_9.out; subst eo40) | (go_at_call 19; (with_reducible refine (hyphenref4_In.calls kj7 _ _ t547 _ _ t556 _ _ t557 t569 _ ?side1 ?side2 ?side3 ?side4 ?side5 ?side6 A34.out).mono ?_); (case side1 => repeat (first | exact (Kd.R_reads' HO_5.out).2.2 | (with_reducible refine Kd.C_alloc ?_ _) | (with_reducible refine Kd.C_drewN ?_ _) | (with_reducible refine Kd.C_drew ?_))); (case side2 => exact (Kd.R_reads' HO_5.out).2.1); (case side3 => repeat (first | exact (Kd.R_reads' HO_8.out).2.2 | (with_reducible refine Kd.C_alloc ?_ _) | (with_reducible refine Kd.C_drewN ?_ _) | (with_reducible refine Kd.C_drew ?_))); (case side4 => exact (Kd.R_reads' HO_8.out).2.1); (case side5 => repeat (first | exact (Kd.R_reads' HO_9.out).2.2 | (with_reducible refine Kd.C_alloc ?_ _) | (with_reducible refine Kd.C_drewN ?_ _) | (with_reducible refine Kd.C_drew ?_))); (case side6 => exact (Kd.R_reads' HO_9.out).2.1); rintro e w41 ⟨v570, rfl, ho0, hb⟩; have n0_ := Aside0.mk (Kd.R_below (by (with_reducible repeat (first | apply Kd.R_alloc | apply Kd.R_drewN | apply Kd.R_drew)); exact HO_5.out) hb); have n1_ := Aside0.mk (Kd.R_below (by (with_reducible repeat (first | apply Kd.R_alloc | apply Kd.R_drewN | apply Kd.R_drew)); exact HO_6.out) hb); have n2_ := Aside0.mk (Kd.R_below (by (with_reducible repeat (first | apply Kd.R_alloc | apply Kd.R_drewN | apply Kd.R_drew)); exact HO_7.out) hb); have n3_ := Aside0.mk (Kd.R_below (by (with_reducible repeat (first | apply Kd.R_alloc | apply Kd.R_drewN | apply Kd.R_drew)); exact HO_8.out) hb); have n4_ := Aside0.mk (Kd.R_below (by (with_reducible repeat (first | apply Kd.R_alloc | apply Kd.R_drewN | apply Kd.R_drew)); exact HO_9.out) hb); have n5_ := Aside0.mk (Kd.R_elder' (by (with_reducible repeat (first | apply Kd.R_alloc | apply Kd.R_drewN | apply Kd.R_drew)); exact HO568.out) (Kd.R_base ho0) hb); have n6_ := Aside0.mk (Kd.R_lower (Kd.R_new' ho0 (Kd.R_lt (by (with_reducible repeat (first | apply Kd.R_alloc | apply Kd.R_drewN | apply Kd.R_drew)); exact HO568.out))) (below_size (by repeat (first | (with_reducible first | exact HB.out | apply below_alloc | apply pw_below_drewN | apply below_drew1) | exact HB.out)))); have n7_ := Aside0.mk (below_step (by repeat (first | (with_reducible first | exact HB.out | apply below_alloc | apply pw_below_drewN | apply below_drew1) | exact HB.out)) hb); clear HO_5; clear HO_6; clear HO_7; clear HO_8; clear HO_9; clear HO568; clear HB; have HO_5 := n0_; have HO_6 := n1_; have HO_7 := n2_; have HO_8 := n3_; have HO_9 := n4_; have HO568 := n5_; have HO571 := n6_; have HB := n7_; clear n0_ n1_ n2_ n3_ n4_ n5_ n6_ n7_; (try clear hb); (try clear hb2); (try clear hk); (try clear hi); (try clear ho0); obtain ⟨Ao42, co42, eo42⟩ := Kd.R_slice HO568.out; subst eo42; obtain ⟨Ao43, co43, eo43⟩ := Kd.R_slice HO571.out; subst eo43)))
      go_loopg [12] kj7 (fun kq v12 w' => ∃ (x12_2 : Int), v12 = .int .i64 x12_2 ∧ Aside0 (hyphenlaw4_PartAll.l0 kq a1 t550 t551 t556 t557 t566 t569 x12_2 = some r) ∧ Aside0 (kq ≤ kj7) ∧ Aside0 (Kd.R (Kd.int .i64) 3 w' w.heap.size (fun k_ => some k_ ≠ ((.slice Ao37 t551.length co37) : Value).ownBlock ∧ some k_ ≠ ((.slice Ao39 t556.length co39) : Value).ownBlock ∧ some k_ ≠ ((.slice Ao40 t557.length co40) : Value).ownBlock) (.slice Ao36 t550.length co36) t550) ∧ Aside0 (Kd.R (Kd.int .i64) 3 w' w.heap.size (fun k_ => some k_ ≠ ((.slice Ao36 t550.length co36) : Value).ownBlock ∧ some k_ ≠ ((.slice Ao39 t556.length co39) : Value).ownBlock ∧ some k_ ≠ ((.slice Ao40 t557.length co40) : Value).ownBlock) (.slice Ao37 t551.length co37) t551) ∧ Aside0 (Kd.R (Kd.int .i64) 3 w' w.heap.size (fun k_ => some k_ ≠ ((.slice Ao36 t550.length co36) : Value).ownBlock ∧ some k_ ≠ ((.slice Ao37 t551.length co37) : Value).ownBlock ∧ some k_ ≠ ((.slice Ao40 t557.length co40) : Value).ownBlock) (.slice Ao39 t556.length co39) t556) ∧ Aside0 (Kd.R (Kd.int .i64) 3 w' w.heap.size (fun k_ => some k_ ≠ ((.slice Ao36 t550.length co36) : Value).ownBlock ∧ some k_ ≠ ((.slice Ao37 t551.length co37) : Value).ownBlock ∧ some k_ ≠ ((.slice Ao39 t556.length co39) : Value).ownBlock) (.slice Ao40 t557.length co40) t557) ∧ Aside0 (Kd.R (Kd.slice 4 Kd.bool) 32 w' w.heap.size (fun k_ => some k_ ≠ ((.slice Ao43 t569.length co43) : Value).ownBlock) (.slice Ao42 t566.length co42) t566) ∧ Aside0 (Kd.R (Kd.slice 4 Kd.bool) 32 w' w.heap.size (fun k_ => some k_ ≠ ((.slice Ao42 t566.length co42) : Value).ownBlock) (.slice Ao43 t569.length co43) t569) ∧ Aside0 (Below w.heap.size w w'))
      case atStart => exact ⟨(0), (by first | rfl | (simp; done) | (simp [*]; done)), H', ⟨Nat.le_refl _⟩, ⟨by (with_reducible repeat (first | apply Kd.R_alloc | apply Kd.R_drewN | apply Kd.R_drew)); exact HO_6.out⟩, ⟨by (with_reducible repeat (first | apply Kd.R_alloc | apply Kd.R_drewN | apply Kd.R_drew)); exact HO_7.out⟩, ⟨by (with_reducible repeat (first | apply Kd.R_alloc | apply Kd.R_drewN | apply Kd.R_drew)); exact HO_8.out⟩, ⟨by (with_reducible repeat (first | apply Kd.R_alloc | apply Kd.R_drewN | apply Kd.R_drew)); exact HO_9.out⟩, ⟨by (with_reducible repeat (first | apply Kd.R_alloc | apply Kd.R_drewN | apply Kd.R_drew)); exact Kd.R_mono HO568.out (fun _ hk => hk.2)⟩, ⟨by (with_reducible repeat (first | apply Kd.R_alloc | apply Kd.R_drewN | apply Kd.R_drew)); exact Kd.R_mono HO571.out (fun _ hk => hk.2)⟩, ⟨by repeat (first | (with_reducible first | exact HB.out | apply below_alloc | apply pw_below_drewN | apply below_drew1) | exact HB.out)⟩⟩
      case round =>
       clear H'
       try clear c1
       try clear p2
       try clear c3
       try clear c4
       try clear c15
       try clear c17
       try clear c32
       try clear c35
       try clear c35b0
       try clear c35b1
       try clear c35b2
       try clear p2
       obtain ⟨x12_2, rfl, HA, HK2, HO_6, HO_7, HO_8, HO_9, HO_10, HO_11, HB⟩ := hrel
       cases gk with
       | zero => exact absurd HA.out (by simp [hyphenlaw4_PartAll.l0])
       | succ k2 =>
        have H := HA.out
        clear HA
        simp only [hyphenlaw4_PartAll.l0] at H
        by_cases c44 : x12_2 < (t566.length : Int)
        ·rw [if_pos c44] at H
         have c44b0 : decide (x12_2 < (t566.length : Int)) = true := decide_eq_true c44
         clear c44
         by_cases c45 : 0 ≤ x12_2
         ·rw [if_pos c45] at H
          have c45b0 : decide (0 ≤ x12_2) = true := decide_eq_true c45
          clear c45
          by_cases c46 : x12_2 < (t569.length : Int)
          ·rw [if_pos c46] at H
           have c46b0 : decide (x12_2 < (t569.length : Int)) = true := decide_eq_true c46
           clear c46
           by_cases c47 : ((rd_L7 t566 x12_2).length : Int) = ((rd_L7 t569 x12_2).length : Int)
           ·rw [if_pos c47] at H
            have c47b0 : (((rd_L7 t566 x12_2).length : Int) == ((rd_L7 t569 x12_2).length : Int)) = true := beq_iff_eq.mpr c47
            have c47b1 : (((rd_L7 t566 x12_2).length : Int) != ((rd_L7 t569 x12_2).length : Int)) = false := bne_eq_false_iff_eq.mpr c47
            have c47b2 : ((rd_L7 t566 x12_2).length == (rd_L7 t569 x12_2).length) = true := by first | simpa using c47 | (simp at c47 ⊢; omega)
            clear c47
            have H' := Aside0.mk H
            clear H
            have p575 : 0 ≤ (x12_2 : Int) := of_decide_eq_true (by first | (with_reducible assumption) | assumption)
            have q575 : x12_2 < (t566.length : Int) := of_decide_eq_true (by first | (with_reducible assumption) | assumption)
            obtain ⟨ad575, A575_0, c575_0, e575, hx575_0, hl575_0, hi575_0⟩ := at_L7 (Kd.R_reads' HO_10.out).2.2 x12_2 p575 q575
            cases e575
            obtain ⟨ce575, hce575, hMe575, hcc575⟩ := Kd.R_get HO_10.out [] x12_2 p575 (by first | exact q575 | exact of_decide_eq_true (by first | (with_reducible assumption) | assumption) | (have e_ := (Kd.R_reads' HO_10.out).1; omega))
            obtain ⟨ve575_0, rfl, ge575_0⟩ := hMe575
            have hv575_0 := hcc575 0 _ rfl
            rw [Nat.add_zero, show ((Kd.slice 4 Kd.bool)).sz = 1 from rfl, Nat.mul_one] at hv575_0
            replace hv575_0 := Option.some.inj (hv575_0.symm.trans hx575_0)
            rw [hv575_0] at ge575_0
            have HL575_0 := Aside0.mk (show Kd.R Kd.bool 4 _ _ _ _ (rd_L7 t566 x12_2) from ge575_0)
            clear hv575_0 ge575_0
            clear hcc575 hce575
            have HR575_0 := Aside0.mk hi575_0
            have HC575_0 := Aside0.mk hl575_0
            clear hi575_0 hl575_0
            replace p575 := eq_true p575
            replace q575 := eq_true q575
            have p576 : 0 ≤ (x12_2 : Int) := of_decide_eq_true (by first | (with_reducible assumption) | assumption)
            have q576 : x12_2 < (t569.length : Int) := of_decide_eq_true (by first | (with_reducible assumption) | assumption)
            obtain ⟨ad576, A576_0, c576_0, e576, hx576_0, hl576_0, hi576_0⟩ := at_L7 (Kd.R_reads' HO_11.out).2.2 x12_2 p576 q576
            cases e576
            obtain ⟨ce576, hce576, hMe576, hcc576⟩ := Kd.R_get HO_11.out [] x12_2 p576 (by first | exact q576 | exact of_decide_eq_true (by first | (with_reducible assumption) | assumption) | (have e_ := (Kd.R_reads' HO_11.out).1; omega))
            obtain ⟨ve576_0, rfl, ge576_0⟩ := hMe576
            have hv576_0 := hcc576 0 _ rfl
            rw [Nat.add_zero, show ((Kd.slice 4 Kd.bool)).sz = 1 from rfl, Nat.mul_one] at hv576_0
            replace hv576_0 := Option.some.inj (hv576_0.symm.trans hx576_0)
            rw [hv576_0] at ge576_0
            have HL576_0 := Aside0.mk (show Kd.R Kd.bool 4 _ _ _ _ (rd_L7 t569 x12_2) from ge576_0)
            clear hv576_0 ge576_0
            clear hcc576 hce576
            have HR576_0 := Aside0.mk hi576_0
            have HC576_0 := Aside0.mk hl576_0
            clear hi576_0 hl576_0
            replace p576 := eq_true p576
            replace q576 := eq_true q576
            go_wp2
            repeat (go_quiet (fail); try go_wp2)
            go_loopg [13] k2 (fun kq v13 w' => ∃ (x13_3 : Int), v13 = .int .i64 x13_3 ∧ Aside0 (hyphenlaw4_PartAll.l1 kq a1 t550 t551 t556 t557 t566 t569 x12_2 x13_3 = some r) ∧ Aside0 (kq ≤ k2) ∧ Aside0 (Kd.R (Kd.int .i64) 3 w' w.heap.size (fun k_ => some k_ ≠ ((.slice Ao37 t551.length co37) : Value).ownBlock ∧ some k_ ≠ ((.slice Ao39 t556.length co39) : Value).ownBlock ∧ some k_ ≠ ((.slice Ao40 t557.length co40) : Value).ownBlock) (.slice Ao36 t550.length co36) t550) ∧ Aside0 (Kd.R (Kd.int .i64) 3 w' w.heap.size (fun k_ => some k_ ≠ ((.slice Ao36 t550.length co36) : Value).ownBlock ∧ some k_ ≠ ((.slice Ao39 t556.length co39) : Value).ownBlock ∧ some k_ ≠ ((.slice Ao40 t557.length co40) : Value).ownBlock) (.slice Ao37 t551.length co37) t551) ∧ Aside0 (Kd.R (Kd.int .i64) 3 w' w.heap.size (fun k_ => some k_ ≠ ((.slice Ao36 t550.length co36) : Value).ownBlock ∧ some k_ ≠ ((.slice Ao37 t551.length co37) : Value).ownBlock ∧ some k_ ≠ ((.slice Ao40 t557.length co40) : Value).ownBlock) (.slice Ao39 t556.length co39) t556) ∧ Aside0 (Kd.R (Kd.int .i64) 3 w' w.heap.size (fun k_ => some k_ ≠ ((.slice Ao36 t550.length co36) : Value).ownBlock ∧ some k_ ≠ ((.slice Ao37 t551.length co37) : Value).ownBlock ∧ some k_ ≠ ((.slice Ao39 t556.length co39) : Value).ownBlock) (.slice Ao40 t557.length co40) t557) ∧ Aside0 (Kd.R (Kd.slice 4 Kd.bool) 32 w' w.heap.size (fun k_ => some k_ ≠ ((.slice (some ad576) t569.length co43) : Value).ownBlock) (.slice (some ad575) t566.length co42) t566) ∧ Aside0 (Kd.R (Kd.slice 4 Kd.bool) 32 w' w.heap.size (fun k_ => some k_ ≠ ((.slice (some ad575) t566.length co42) : Value).ownBlock) (.slice (some ad576) t569.length co43) t569) ∧ Aside0 (Kd.C Kd.bool w' A575_0 (rd_L7 t566 x12_2).length (rd_L7 t566 x12_2)) ∧ Aside0 (Kd.C Kd.bool w' A576_0 (rd_L7 t569 x12_2).length (rd_L7 t569 x12_2)) ∧ Aside0 (Below w.heap.size w w'))
            case atStart => exact ⟨(0), (by first | rfl | (simp; done) | (simp [*]; done)), H', ⟨Nat.le_refl _⟩, ⟨by (with_reducible repeat (first | apply Kd.R_alloc | apply Kd.R_drewN | apply Kd.R_drew)); exact HO_6.out⟩, ⟨by (with_reducible repeat (first | apply Kd.R_alloc | apply Kd.R_drewN | apply Kd.R_drew)); exact HO_7.out⟩, ⟨by (with_reducible repeat (first | apply Kd.R_alloc | apply Kd.R_drewN | apply Kd.R_drew)); exact HO_8.out⟩, ⟨by (with_reducible repeat (first | apply Kd.R_alloc | apply Kd.R_drewN | apply Kd.R_drew)); exact HO_9.out⟩, ⟨by (with_reducible repeat (first | apply Kd.R_alloc | apply Kd.R_drewN | apply Kd.R_drew)); exact HO_10.out⟩, ⟨by (with_reducible repeat (first | apply Kd.R_alloc | apply Kd.R_drewN | apply Kd.R_drew)); exact HO_11.out⟩, ⟨by repeat (first | (with_reducible exact HR575_0.out) | (with_reducible refine Kd.C_alloc ?_ _) | (with_reducible refine Kd.C_drewN ?_ _) | (with_reducible refine Kd.C_drew ?_) | exact HR575_0.out)⟩, ⟨by repeat (first | (with_reducible exact HR576_0.out) | (with_reducible refine Kd.C_alloc ?_ _) | (with_reducible refine Kd.C_drewN ?_ _) | (with_reducible refine Kd.C_drew ?_) | exact HR576_0.out)⟩, ⟨by repeat (first | (with_reducible first | exact HB.out | apply below_alloc | apply pw_below_drewN | apply below_drew1) | exact HB.out)⟩⟩
            case round =>
             clear H'
             try clear c1
             try clear p2
             try clear c3
             try clear c4
             try clear c5
             try clear p5
             try clear q5
             try clear hx5
             try clear c15
             try clear c17
             try clear c32
             try clear c35
             try clear c35b0
             try clear c35b1
             try clear c35b2
             try clear c44
             try clear c44b0
             try clear c45
             try clear c45b0
             try clear c46
             try clear c46b0
             try clear c47
             try clear c47b0
             try clear c47b1
             try clear c47b2
             try clear hx575_0
             try clear hx576_0
             try clear p2
             try clear p575
             try clear p576
             try clear q575
             try clear q576
             obtain ⟨x13_3, rfl, HA, HK3, HO_6, HO_7, HO_8, HO_9, HO_10, HO_11, HR575_0, HR576_0, HB⟩ := hrel
             cases gk with
             | zero => exact absurd HA.out (by simp [hyphenlaw4_PartAll.l1])
             | succ k3 =>
              have H := HA.out
              clear HA
              simp only [hyphenlaw4_PartAll.l1] at H
              by_cases c48 : 0 ≤ x12_2
              ·rw [if_pos c48] at H
               have c48b0 : decide (0 ≤ x12_2) = true := decide_eq_true c48
               clear c48
               by_cases c49 : x12_2 < (t566.length : Int)
               ·rw [if_pos c49] at H
                have c49b0 : decide (x12_2 < (t566.length : Int)) = true := decide_eq_true c49
                clear c49
                by_cases c50 : x13_3 < ((rd_L7 t566 x12_2).length : Int)
                ·rw [if_pos c50] at H
                 have c50b0 : decide (x13_3 < ((rd_L7 t566 x12_2).length : Int)) = true := decide_eq_true c50
                 clear c50
                 by_cases c51 : 0 ≤ x13_3
                 ·rw [if_pos c51] at H
                  have c51b0 : decide (0 ≤ x13_3) = true := decide_eq_true c51
                  clear c51
                  by_cases c52 : x12_2 < (t569.length : Int)
                  ·rw [if_pos c52] at H
                   have c52b0 : decide (x12_2 < (t569.length : Int)) = true := decide_eq_true c52
                   clear c52
                   by_cases c53 : x13_3 < ((rd_L7 t569 x12_2).length : Int)
                   ·rw [if_pos c53] at H
                    have c53b0 : decide (x13_3 < ((rd_L7 t569 x12_2).length : Int)) = true := decide_eq_true c53
                    clear c53
                    by_cases c54 : ((rdOf false (rd_L7 t566 x12_2) x13_3) != (rdOf false (rd_L7 t569 x12_2) x13_3)) = true
                    ·rw [if_pos c54] at H
                     exact absurd H (by simp)
                    ·rw [if_neg c54] at H
                     have c54b0 : ((rdOf false (rd_L7 t566 x12_2) x13_3) != (rdOf false (rd_L7 t569 x12_2) x13_3)) = false := by simpa using c54
                     (try (have c54b1 : decide ((rdOf false (rd_L7 t566 x12_2) x13_3) = (rdOf false (rd_L7 t569 x12_2) x13_3)) = true := by simpa using c54))
                     (try (have c54b2 : ((rdOf false (rd_L7 t566 x12_2) x13_3) == (rdOf false (rd_L7 t569 x12_2) x13_3)) = true := by simpa using c54))
                     clear c54
                     have H' := Aside0.mk H
                     clear H
                     have p577 : 0 ≤ (x12_2 : Int) := of_decide_eq_true (by first | (with_reducible assumption) | assumption)
                     have q577 : x12_2 < (t566.length : Int) := of_decide_eq_true (by first | (with_reducible assumption) | assumption)
                     obtain ⟨ad577, A577_0, c577_0, e577, hx577_0, hl577_0, hi577_0⟩ := at_L7 (Kd.R_reads' HO_10.out).2.2 x12_2 p577 q577
                     obtain rfl : ad575 = ad577 := (by injection e577)
                     obtain ⟨ce577, hce577, hMe577, hcc577⟩ := Kd.R_get HO_10.out [] x12_2 p577 (by first | exact q577 | exact of_decide_eq_true (by first | (with_reducible assumption) | assumption) | (have e_ := (Kd.R_reads' HO_10.out).1; omega))
                     obtain ⟨ve577_0, rfl, ge577_0⟩ := hMe577
                     have hv577_0 := hcc577 0 _ rfl
                     rw [Nat.add_zero, show ((Kd.slice 4 Kd.bool)).sz = 1 from rfl, Nat.mul_one] at hv577_0
                     replace hv577_0 := Option.some.inj (hv577_0.symm.trans hx577_0)
                     rw [hv577_0] at ge577_0
                     have HL577_0 := Aside0.mk (show Kd.R Kd.bool 4 _ _ _ _ (rd_L7 t566 x12_2) from ge577_0)
                     clear hv577_0 ge577_0
                     clear hcc577 hce577
                     have HR577_0 := Aside0.mk hi577_0
                     have HC577_0 := Aside0.mk hl577_0
                     clear hi577_0 hl577_0
                     replace p577 := eq_true p577
                     replace q577 := eq_true q577
                     have p578 : 0 ≤ (x12_2 : Int) := of_decide_eq_true (by first | (with_reducible assumption) | assumption)
                     have q578 : x12_2 < (t566.length : Int) := of_decide_eq_true (by first | (with_reducible assumption) | assumption)
                     obtain ⟨ad578, A578_0, c578_0, e578, hx578_0, hl578_0, hi578_0⟩ := at_L7 (Kd.R_reads' HO_10.out).2.2 x12_2 p578 q578
                     obtain rfl : ad575 = ad578 := (by injection e578)
                     obtain ⟨ce578, hce578, hMe578, hcc578⟩ := Kd.R_get HO_10.out [] x12_2 p578 (by first | exact q578 | exact of_decide_eq_true (by first | (with_reducible assumption) | assumption) | (have e_ := (Kd.R_reads' HO_10.out).1; omega))
                     obtain ⟨ve578_0, rfl, ge578_0⟩ := hMe578
                     have hv578_0 := hcc578 0 _ rfl
                     rw [Nat.add_zero, show ((Kd.slice 4 Kd.bool)).sz = 1 from rfl, Nat.mul_one] at hv578_0
                     replace hv578_0 := Option.some.inj (hv578_0.symm.trans hx578_0)
                     rw [hv578_0] at ge578_0
                     have HL578_0 := Aside0.mk (show Kd.R Kd.bool 4 _ _ _ _ (rd_L7 t566 x12_2) from ge578_0)
                     clear hv578_0 ge578_0
                     clear hcc578 hce578
                     have HR578_0 := Aside0.mk hi578_0
                     have HC578_0 := Aside0.mk hl578_0
                     clear hi578_0 hl578_0
                     replace p578 := eq_true p578
                     replace q578 := eq_true q578
                     have ea_ := Option.some.inj (hx577_0.symm.trans hx578_0)
                     injection ea_ with ea_ en_ ec_
                     subst ea_
                     subst ec_
                     clear en_
                     have p579 : 0 ≤ (x13_3 : Int) := of_decide_eq_true (by first | (with_reducible assumption) | assumption)
                     have q579 : x13_3 < ((rd_L7 t566 x12_2).length : Int) := of_decide_eq_true (by first | (with_reducible assumption) | assumption)
                     obtain ⟨ad579, e579, hx579_0⟩ := Kd.at_bool (by repeat (first | (with_reducible exact HR578_0.out) | (with_reducible refine Kd.C_alloc ?_ _) | (with_reducible refine Kd.C_drewN ?_ _) | (with_reducible refine Kd.C_drew ?_) | exact HR578_0.out)) x13_3 p579 q579
                     cases e579
                     replace p579 := eq_true p579
                     replace q579 := eq_true q579
                     have p580 : 0 ≤ (x12_2 : Int) := of_decide_eq_true (by first | (with_reducible assumption) | assumption)
                     have q580 : x12_2 < (t569.length : Int) := of_decide_eq_true (by first | (with_reducible assumption) | assumption)
                     obtain ⟨ad580, A580_0, c580_0, e580, hx580_0, hl580_0, hi580_0⟩ := at_L7 (Kd.R_reads' HO_11.out).2.2 x12_2 p580 q580
                     obtain rfl : ad576 = ad580 := (by injection e580)
                     obtain ⟨ce580, hce580, hMe580, hcc580⟩ := Kd.R_get HO_11.out [] x12_2 p580 (by first | exact q580 | exact of_decide_eq_true (by first | (with_reducible assumption) | assumption) | (have e_ := (Kd.R_reads' HO_11.out).1; omega))
                     obtain ⟨ve580_0, rfl, ge580_0⟩ := hMe580
                     have hv580_0 := hcc580 0 _ rfl
                     rw [Nat.add_zero, show ((Kd.slice 4 Kd.bool)).sz = 1 from rfl, Nat.mul_one] at hv580_0
                     replace hv580_0 := Option.some.inj (hv580_0.symm.trans hx580_0)
                     rw [hv580_0] at ge580_0
                     have HL580_0 := Aside0.mk (show Kd.R Kd.bool 4 _ _ _ _ (rd_L7 t569 x12_2) from ge580_0)
                     clear hv580_0 ge580_0
                     clear hcc580 hce580
                     have HR580_0 := Aside0.mk hi580_0
                     have HC580_0 := Aside0.mk hl580_0
                     clear hi580_0 hl580_0
                     replace p580 := eq_true p580
                     replace q580 := eq_true q580
                     have p581 : 0 ≤ (x13_3 : Int) := of_decide_eq_true (by first | (with_reducible assumption) | assumption)
                     have q581 : x13_3 < ((rd_L7 t569 x12_2).length : Int) := of_decide_eq_true (by first | (with_reducible assumption) | assumption)
                     obtain ⟨ad581, e581, hx581_0⟩ := Kd.at_bool (by repeat (first | (with_reducible exact HR580_0.out) | (with_reducible refine Kd.C_alloc ?_ _) | (with_reducible refine Kd.C_drewN ?_ _) | (with_reducible refine Kd.C_drew ?_) | exact HR580_0.out)) x13_3 p581 q581
                     cases e581
                     replace p581 := eq_true p581
                     replace q581 := eq_true q581
                     go_wp2
                     repeat (go_quiet (fail); try go_wp2)
                     go_roundg k3
                     case measure => have := HJ7.out; have := HK2.out; have := HK3.out; omega
                     case rel => exact ⟨(wrap64 (x13_3 + 1)), (by first | rfl | (simp; done) | (simp [*]; done)), H', ⟨by have := HJ7.out; have := HK2.out; have := HK3.out; omega⟩, ⟨by (with_reducible repeat (first | apply Kd.R_alloc | apply Kd.R_drewN | apply Kd.R_drew)); exact HO_6.out⟩, ⟨by (with_reducible repeat (first | apply Kd.R_alloc | apply Kd.R_drewN | apply Kd.R_drew)); exact HO_7.out⟩, ⟨by (with_reducible repeat (first | apply Kd.R_alloc | apply Kd.R_drewN | apply Kd.R_drew)); exact HO_8.out⟩, ⟨by (with_reducible repeat (first | apply Kd.R_alloc | apply Kd.R_drewN | apply Kd.R_drew)); exact HO_9.out⟩, ⟨by (with_reducible repeat (first | apply Kd.R_alloc | apply Kd.R_drewN | apply Kd.R_drew)); exact HO_10.out⟩, ⟨by (with_reducible repeat (first | apply Kd.R_alloc | apply Kd.R_drewN | apply Kd.R_drew)); exact HO_11.out⟩, ⟨by repeat (first | (with_reducible exact HR575_0.out) | (with_reducible refine Kd.C_alloc ?_ _) | (with_reducible refine Kd.C_drewN ?_ _) | (with_reducible refine Kd.C_drew ?_) | exact HR575_0.out)⟩, ⟨by repeat (first | (with_reducible exact HR576_0.out) | (with_reducible refine Kd.C_alloc ?_ _) | (with_reducible refine Kd.C_drewN ?_ _) | (with_reducible refine Kd.C_drew ?_) | exact HR576_0.out)⟩, ⟨by repeat (first | (with_reducible first | exact HB.out | apply below_alloc | apply pw_below_drewN | apply below_drew1) | exact HB.out)⟩⟩
                   ·rw [if_neg c53] at H
                    exact absurd H (by simp)
                  ·rw [if_neg c52] at H
                   exact absurd H (by simp)
                 ·rw [if_neg c51] at H
                  exact absurd H (by simp)
                ·rw [if_neg c50] at H
                 have c50b0 : decide (x13_3 < ((rd_L7 t566 x12_2).length : Int)) = false := decide_eq_false c50
                 clear c50
                 have H' := Aside0.mk H
                 clear H
                 have p577 : 0 ≤ (x12_2 : Int) := of_decide_eq_true (by first | (with_reducible assumption) | assumption)
                 have q577 : x12_2 < (t566.length : Int) := of_decide_eq_true (by first | (with_reducible assumption) | assumption)
                 obtain ⟨ad577, A577_0, c577_0, e577, hx577_0, hl577_0, hi577_0⟩ := at_L7 (Kd.R_reads' HO_10.out).2.2 x12_2 p577 q577
                 obtain rfl : ad575 = ad577 := (by injection e577)
                 obtain ⟨ce577, hce577, hMe577, hcc577⟩ := Kd.R_get HO_10.out [] x12_2 p577 (by first | exact q577 | exact of_decide_eq_true (by first | (with_reducible assumption) | assumption) | (have e_ := (Kd.R_reads' HO_10.out).1; omega))
                 obtain ⟨ve577_0, rfl, ge577_0⟩ := hMe577
                 have hv577_0 := hcc577 0 _ rfl
                 rw [Nat.add_zero, show ((Kd.slice 4 Kd.bool)).sz = 1 from rfl, Nat.mul_one] at hv577_0
                 replace hv577_0 := Option.some.inj (hv577_0.symm.trans hx577_0)
                 rw [hv577_0] at ge577_0
                 have HL577_0 := Aside0.mk (show Kd.R Kd.bool 4 _ _ _ _ (rd_L7 t566 x12_2) from ge577_0)
                 clear hv577_0 ge577_0
                 clear hcc577 hce577
                 have HR577_0 := Aside0.mk hi577_0
                 have HC577_0 := Aside0.mk hl577_0
                 clear hi577_0 hl577_0
                 replace p577 := eq_true p577
                 replace q577 := eq_true q577
                 go_wp2
                 repeat (go_quiet (fail); try go_wp2)
                 go_roundg k3
                 case measure => have := HJ7.out; have := HK2.out; have := HK3.out; omega
                 case rel => exact ⟨(wrap64 (x12_2 + 1)), (by first | rfl | (simp; done) | (simp [*]; done)), H', ⟨by have := HJ7.out; have := HK2.out; have := HK3.out; omega⟩, ⟨by (with_reducible repeat (first | apply Kd.R_alloc | apply Kd.R_drewN | apply Kd.R_drew)); exact HO_6.out⟩, ⟨by (with_reducible repeat (first | apply Kd.R_alloc | apply Kd.R_drewN | apply Kd.R_drew)); exact HO_7.out⟩, ⟨by (with_reducible repeat (first | apply Kd.R_alloc | apply Kd.R_drewN | apply Kd.R_drew)); exact HO_8.out⟩, ⟨by (with_reducible repeat (first | apply Kd.R_alloc | apply Kd.R_drewN | apply Kd.R_drew)); exact HO_9.out⟩, ⟨by (with_reducible repeat (first | apply Kd.R_alloc | apply Kd.R_drewN | apply Kd.R_drew)); exact HO_10.out⟩, ⟨by (with_reducible repeat (first | apply Kd.R_alloc | apply Kd.R_drewN | apply Kd.R_drew)); exact HO_11.out⟩, ⟨by repeat (first | (with_reducible first | exact HB.out | apply below_alloc | apply pw_below_drewN | apply below_drew1) | exact HB.out)⟩⟩
               ·rw [if_neg c49] at H
                exact absurd H (by simp)
              ·rw [if_neg c48] at H
               exact absurd H (by simp)
           ·rw [if_neg c47] at H
            exact absurd H (by simp)
          ·rw [if_neg c46] at H
           exact absurd H (by simp)
         ·rw [if_neg c45] at H
          exact absurd H (by simp)
        ·rw [if_neg c44] at H
         have c44b0 : decide (x12_2 < (t566.length : Int)) = false := decide_eq_false c44
         clear c44
         replace H := Option.bind_eq_some_iff.mp H
         obtain ⟨t572, A550, H⟩ := H
         replace H : ((part_Letter.f t550 t551 t572).bind fun t573 => ((hyphenref4_Letter.f k2 t556 t557 t572).bind fun t574 => (some (t573 == t574)))) = some r := H
         have A55 := Aside0.mk A550
         clear A550
         replace H := Option.bind_eq_some_iff.mp H
         obtain ⟨t573, A560, H⟩ := H
         replace H : ((hyphenref4_Letter.f k2 t556 t557 t572).bind fun t574 => (some (t573 == t574))) = some r := H
         have A56 := Aside0.mk A560
         clear A560
         replace H := Option.bind_eq_some_iff.mp H
         obtain ⟨t574, A570, H⟩ := H
         replace H : (some (t573 == t574)) = some r := H
         have A57 := Aside0.mk A570
         clear A570
         obtain rfl := Option.some.inj H
         go_wp2_with (first | (go_at_call 20; (with_reducible refine (hyphenlaw4_within.calls a1 1114112 t572 _ A55.out).mono ?_); rintro e w' ⟨rfl, ⟨nd, rfl⟩⟩; (try first | exact ⟨rfl, _, World.drewN_drewN _ _ _⟩ | exact ⟨rfl, _, Eq.trans (World.drewN_drewN _ _ _) (congrArg (World.drewN _) (Nat.add_assoc _ _ _))⟩)) | (go_at_call 21; (with_reducible refine (part_Letter.calls _ _ t550 _ _ t551 t572 t573 _ ?side1 ?side2 ?side3 ?side4 A56.out).mono ?_); (case side1 => repeat (first | exact (Kd.R_reads' HO_6.out).2.2 | (with_reducible refine Kd.C_alloc ?_ _) | (with_reducible refine Kd.C_drewN ?_ _) | (with_reducible refine Kd.C_drew ?_))); (case side2 => exact (Kd.R_reads' HO_6.out).2.1); (case side3 => repeat (first | exact (Kd.R_reads' HO_7.out).2.2 | (with_reducible refine Kd.C_alloc ?_ _) | (with_reducible refine Kd.C_drewN ?_ _) | (with_reducible refine Kd.C_drew ?_))); (case side4 => exact (Kd.R_reads' HO_7.out).2.1); rintro e w' ⟨rfl, ⟨nd, rfl⟩⟩; (try first | exact ⟨rfl, _, World.drewN_drewN _ _ _⟩ | exact ⟨rfl, _, Eq.trans (World.drewN_drewN _ _ _) (congrArg (World.drewN _) (Nat.add_assoc _ _ _))⟩)) | (go_at_call 22; (with_reducible refine (hyphenref4_Letter.calls k2 _ _ t556 _ _ t557 t572 t574 _ ?side1 ?side2 ?side3 ?side4 A57.out).mono ?_); (case side1 => repeat (first | exact (Kd.R_reads' HO_8.out).2.2 | (with_reducible refine Kd.C_alloc ?_ _) | (with_reducible refine Kd.C_drewN ?_ _) | (with_reducible refine Kd.C_drew ?_))); (case side2 => exact (Kd.R_reads' HO_8.out).2.1); (case side3 => repeat (first | exact (Kd.R_reads' HO_9.out).2.2 | (with_reducible refine Kd.C_alloc ?_ _) | (with_reducible refine Kd.C_drewN ?_ _) | (with_reducible refine Kd.C_drew ?_))); (case side4 => exact (Kd.R_reads' HO_9.out).2.1); rintro e w' ⟨rfl, ⟨nd, rfl⟩⟩; (try first | exact ⟨rfl, _, World.drewN_drewN _ _ _⟩ | exact ⟨rfl, _, Eq.trans (World.drewN_drewN _ _ _) (congrArg (World.drewN _) (Nat.add_assoc _ _ _))⟩)))
         repeat (go_quiet (first | (go_at_call 20; (with_reducible refine (hyphenlaw4_within.calls a1 1114112 t572 _ A55.out).mono ?_); rintro e w' ⟨rfl, ⟨nd, rfl⟩⟩; (try first | exact ⟨rfl, _, World.drewN_drewN _ _ _⟩ | exact ⟨rfl, _, Eq.trans (World.drewN_drewN _ _ _) (congrArg (World.drewN _) (Nat.add_assoc _ _ _))⟩)) | (go_at_call 21; (with_reducible refine (part_Letter.calls _ _ t550 _ _ t551 t572 t573 _ ?side1 ?side2 ?side3 ?side4 A56.out).mono ?_); (case side1 => repeat (first | exact (Kd.R_reads' HO_6.out).2.2 | (with_reducible refine Kd.C_alloc ?_ _) | (with_reducible refine Kd.C_drewN ?_ _) | (with_reducible refine Kd.C_drew ?_))); (case side2 => exact (Kd.R_reads' HO_6.out).2.1); (case side3 => repeat (first | exact (Kd.R_reads' HO_7.out).2.2 | (with_reducible refine Kd.C_alloc ?_ _) | (with_reducible refine Kd.C_drewN ?_ _) | (with_reducible refine Kd.C_drew ?_))); (case side4 => exact (Kd.R_reads' HO_7.out).2.1); rintro e w' ⟨rfl, ⟨nd, rfl⟩⟩; (try first | exact ⟨rfl, _, World.drewN_drewN _ _ _⟩ | exact ⟨rfl, _, Eq.trans (World.drewN_drewN _ _ _) (congrArg (World.drewN _) (Nat.add_assoc _ _ _))⟩)) | (go_at_call 22; (with_reducible refine (hyphenref4_Letter.calls k2 _ _ t556 _ _ t557 t572 t574 _ ?side1 ?side2 ?side3 ?side4 A57.out).mono ?_); (case side1 => repeat (first | exact (Kd.R_reads' HO_8.out).2.2 | (with_reducible refine Kd.C_alloc ?_ _) | (with_reducible refine Kd.C_drewN ?_ _) | (with_reducible refine Kd.C_drew ?_))); (case side2 => exact (Kd.R_reads' HO_8.out).2.1); (case side3 => repeat (first | exact (Kd.R_reads' HO_9.out).2.2 | (with_reducible refine Kd.C_alloc ?_ _) | (with_reducible refine Kd.C_drewN ?_ _) | (with_reducible refine Kd.C_drew ?_))); (case side4 => exact (Kd.R_reads' HO_9.out).2.1); rintro e w' ⟨rfl, ⟨nd, rfl⟩⟩; (try first | exact ⟨rfl, _, World.drewN_drewN _ _ _⟩ | exact ⟨rfl, _, Eq.trans (World.drewN_drewN _ _ _) (congrArg (World.drewN _) (Nat.add_assoc _ _ _))⟩))); try go_wp2_with (first | (go_at_call 20; (with_reducible refine (hyphenlaw4_within.calls a1 1114112 t572 _ A55.out).mono ?_); rintro e w' ⟨rfl, ⟨nd, rfl⟩⟩; (try first | exact ⟨rfl, _, World.drewN_drewN _ _ _⟩ | exact ⟨rfl, _, Eq.trans (World.drewN_drewN _ _ _) (congrArg (World.drewN _) (Nat.add_assoc _ _ _))⟩)) | (go_at_call 21; (with_reducible refine (part_Letter.calls _ _ t550 _ _ t551 t572 t573 _ ?side1 ?side2 ?side3 ?side4 A56.out).mono ?_); (case side1 => repeat (first | exact (Kd.R_reads' HO_6.out).2.2 | (with_reducible refine Kd.C_alloc ?_ _) | (with_reducible refine Kd.C_drewN ?_ _) | (with_reducible refine Kd.C_drew ?_))); (case side2 => exact (Kd.R_reads' HO_6.out).2.1); (case side3 => repeat (first | exact (Kd.R_reads' HO_7.out).2.2 | (with_reducible refine Kd.C_alloc ?_ _) | (with_reducible refine Kd.C_drewN ?_ _) | (with_reducible refine Kd.C_drew ?_))); (case side4 => exact (Kd.R_reads' HO_7.out).2.1); rintro e w' ⟨rfl, ⟨nd, rfl⟩⟩; (try first | exact ⟨rfl, _, World.drewN_drewN _ _ _⟩ | exact ⟨rfl, _, Eq.trans (World.drewN_drewN _ _ _) (congrArg (World.drewN _) (Nat.add_assoc _ _ _))⟩)) | (go_at_call 22; (with_reducible refine (hyphenref4_Letter.calls k2 _ _ t556 _ _ t557 t572 t574 _ ?side1 ?side2 ?side3 ?side4 A57.out).mono ?_); (case side1 => repeat (first | exact (Kd.R_reads' HO_8.out).2.2 | (with_reducible refine Kd.C_alloc ?_ _) | (with_reducible refine Kd.C_drewN ?_ _) | (with_reducible refine Kd.C_drew ?_))); (case side2 => exact (Kd.R_reads' HO_8.out).2.1); (case side3 => repeat (first | exact (Kd.R_reads' HO_9.out).2.2 | (with_reducible refine Kd.C_alloc ?_ _) | (with_reducible refine Kd.C_drewN ?_ _) | (with_reducible refine Kd.C_drew ?_))); (case side4 => exact (Kd.R_reads' HO_9.out).2.1); rintro e w' ⟨rfl, ⟨nd, rfl⟩⟩; (try first | exact ⟨rfl, _, World.drewN_drewN _ _ _⟩ | exact ⟨rfl, _, Eq.trans (World.drewN_drewN _ _ _) (congrArg (World.drewN _) (Nat.add_assoc _ _ _))⟩))))
         go_ret
         exact ⟨by first | rfl | (simp [errW_none, errW_some] <;> rfl) | (simp [*, errW_none, errW_some] <;> rfl), by repeat (first | (with_reducible first | exact HB.out | apply below_alloc | apply pw_below_drewN | apply below_drew1) | exact HB.out)⟩
     ·rw [if_neg c35] at H
      exact absurd H (by simp)
 ·replace c4 := Bool.eq_false_iff.mpr c4
  subst c4
  have H1 : (none) = some r := by rw [if_neg (show ¬ (false = true) by decide)] at H; exact H
  clear H
  have H := H1
  clear H1
  exact absurd H (by simp)

/-- THE ONE PURE STATEMENT of hyphenlaw4_PartAll: yours. -/
def hyphenlaw4_PartAll.Pure : Prop := ∀ (l0 : List Int) (a1 : Int), l0.length ≤ maxLen → l0.length * 8 ≤ 140737488351232 → (∀ x ∈ l0, (Lit.int .i64 x).wf = true) → (Lit.int .i64 a1).wf = true → ∃ k, hyphenlaw4_PartAll.f k l0 a1 = some true
theorem hyphenlaw4_PartAll.walk (P : hyphenlaw4_PartAll.Pure) (a0 : Option Addr) (len0 cap0 : Nat) (z0 : List Int) (a1 : Int) (w : World) (w0 : (a0 = none ∧ len0 = 0 ∧ cap0 = 0 ∧ z0 = []) ∨ ∃ x, a0 = some x ∧ len0 ≤ cap0 ∧ cap0 ≤ maxLen ∧ z0.length = cap0 ∧ (∀ i, i < z0.length → w.cell? (x.add i) = some (.int .i64 (z0.getD i 0))) ∧ ∀ n ∈ z0, (Lit.int .i64 n).wf = true) (y0 : len0 * 8 ≤ 140737488351232) (w1 : (Lit.int .i64 a1).wf = true) :
  Calls Try.prog 3 #[.slice a0 len0 cap0, .int .i64 a1] w fun e w' => e = .returned (.bool true) ∧ Below w.heap.size w w' := by
 obtain ⟨l0, rfl, hr0, hm0, hw0, hc0⟩ := ReadsInt.ofRowC w0
 obtain ⟨k, h⟩ := P l0 a1 hm0 y0 hw0 w1
 refine (hyphenlaw4_PartAll.calls k _ _ l0 a1 true w (Kd.C_of_reads (d := (0 : Int)) (h1 := fun _ => rfl) hr0) hc0 h).mono ?_
 rintro e w' ⟨rfl, hd⟩
 exact ⟨rfl, hd⟩

end Go.Proofs.Yteogcjckhoakbaa.P
