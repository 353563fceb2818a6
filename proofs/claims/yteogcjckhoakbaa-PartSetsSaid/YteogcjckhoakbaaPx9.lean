-- Written by wip/xprint.py (a program of this repo) out of the translation; Lean checks it.
import Derived.Test.YteogcjckhoakbaaPx0
import Derived.Test.YteogcjckhoakbaaPx2
import Derived.Test.YteogcjckhoakbaaPx3
import Derived.Test.YteogcjckhoakbaaPx6
import Derived.Test.YteogcjckhoakbaaPx8
namespace Go.Proofs.Yteogcjckhoakbaa.P
open Go.RowKit Go.Proofs.YteogcjckhoakbaaW.PrintWords Go.Proofs.YteogcjckhoakbaaW.PrintLast Go.Proofs.YteogcjckhoakbaaW.PrintMore
attribute [local go_sem] max2_int min2_int max_two min_two max_three min_three max_four min_four   -- for this text's walks alone
attribute [local go_sem ↓ high] Go.Proofs.YteogcjckhoakbaaX.isSome_setCell
set_option linter.unusedVariables false
set_option linter.unusedSimpArgs false

/-! ### hyphenlaw4_PartSets: function 5 -/
mutual
def hyphenlaw4_PartSets.l0 : Nat → Int → List (List (S44)) → List Int → List Int → List (List Bool) → Int → Option (Bool)
  | 0, _, _, _, _, _, _ => none
  | k + 1, x1, x5, x6, x7, x8, x9 => if x9 < 70 then (if x9 > 66 then ((hyphenlaw4_within.f (wrap64 (x1 + x9)) 1114112).bind fun t382 => (hyphenlaw4_PartSets.j1 k x1 x5 x6 x7 x8 x9 t382)) else (hyphenlaw4_PartSets.j1 k x1 x5 x6 x7 x8 x9 x9)) else (some true)
def hyphenlaw4_PartSets.j1 : Nat → Int → List (List (S44)) → List Int → List Int → List (List Bool) → Int → Int → Option (Bool)
  | 0, _, _, _, _, _, _, _ => none
  | k + 1, x1, x5, x6, x7, x8, x9, x10 => (part_Letter.f x6 x7 x10).bind fun t383 => (hyphenlaw4_PartSets.l1 k x1 x5 x6 x7 x8 x9 x10 t383 0)
def hyphenlaw4_PartSets.l1 : Nat → Int → List (List (S44)) → List Int → List Int → List (List Bool) → Int → Int → Int → Int → Option (Bool)
  | 0, _, _, _, _, _, _, _, _, _ => none
  | k + 1, x1, x5, x6, x7, x8, x9, x10, x11, x12 => if x12 < (x5.length : Int) then (if x11 < 0 then (none) else (if 0 ≤ x12 then (if x12 < (x8.length : Int) then (if x11 ≥ ((rd_L7 x8 x12).length : Int) then (none) else (if 0 ≤ x11 then (if x11 < ((rd_L7 x8 x12).length : Int) then ((hyphenref3_Has.f k (rd_L2 x5 x12) x10).bind fun t388 => (if ((rdOf false (rd_L7 x8 x12) x11) != t388) = true then (none) else (hyphenlaw4_PartSets.l1 k x1 x5 x6 x7 x8 x9 x10 x11 (wrap64 (x12 + 1))))) else (none)) else (none))) else (none)) else (none))) else (hyphenlaw4_PartSets.l0 k x1 x5 x6 x7 x8 (wrap64 (x9 + 1)))
end
def hyphenlaw4_PartSets.f (k : Nat) (l0 : List Int) (a1 : Int) : Option (Bool) := (hyphenlaw4_known.f k).bind fun t369 => (if t369 = true then ((hyphenlaw4_Sets.f k l0 12).bind fun t370 => ((part_Cuts.f k t370).bind fun bt373 => ((part_In.f k t370 bt373.1 bt373.2).bind fun t379 => (if (t379.length : Int) = (t370.length : Int) then (hyphenlaw4_PartSets.l0 k a1 t370 bt373.1 bt373.2 t379 0) else (none))))) else (none))
theorem hyphenlaw4_PartSets.mono_l : ∀ k, (∀ y0 y1 y2 y3 y4 y5, LeO (hyphenlaw4_PartSets.l0 k y0 y1 y2 y3 y4 y5) (hyphenlaw4_PartSets.l0 (k + 1) y0 y1 y2 y3 y4 y5)) ∧ (∀ y0 y1 y2 y3 y4 y5 y6, LeO (hyphenlaw4_PartSets.j1 k y0 y1 y2 y3 y4 y5 y6) (hyphenlaw4_PartSets.j1 (k + 1) y0 y1 y2 y3 y4 y5 y6)) ∧ (∀ y0 y1 y2 y3 y4 y5 y6 y7 y8, LeO (hyphenlaw4_PartSets.l1 k y0 y1 y2 y3 y4 y5 y6 y7 y8) (hyphenlaw4_PartSets.l1 (k + 1) y0 y1 y2 y3 y4 y5 y6 y7 y8))
  | 0 => ⟨fun _ _ _ _ _ _ r h => by simp [hyphenlaw4_PartSets.l0] at h, fun _ _ _ _ _ _ _ r h => by simp [hyphenlaw4_PartSets.j1] at h, fun _ _ _ _ _ _ _ _ _ r h => by simp [hyphenlaw4_PartSets.l1] at h⟩
  | k + 1 => by
    obtain ⟨ih0, ih1, ih2⟩ := hyphenlaw4_PartSets.mono_l k
    refine ⟨?_, ?_, ?_⟩
    · intro y0 y1 y2 y3 y4 y5
      unfold hyphenlaw4_PartSets.l0
      repeat' first
      | (with_reducible exact ih0 _ _ _ _ _ _)
      | (with_reducible exact ih1 _ _ _ _ _ _ _)
      | (with_reducible exact ih2 _ _ _ _ _ _ _ _ _)
      | (with_reducible exact hyphenlaw4_Sets.mono _ _ _)
      | (with_reducible exact hyphenlaw4_known.mono _)
      | (with_reducible exact hyphenref3_Has.mono _ _ _)
      | (with_reducible exact part_Cuts.mono _ _)
      | (with_reducible exact part_In.mono _ _ _ _)
      | (with_reducible exact LeO.refl _)
      | (with_reducible exact LeO.none _)
      | (with_reducible refine LeO.ite ?_ ?_)
      | (with_reducible refine LeO.bind ?_ (fun _ => ?_))
      | exact ih0 _ _ _ _ _ _
      | exact ih1 _ _ _ _ _ _ _
      | exact ih2 _ _ _ _ _ _ _ _ _
      | exact hyphenlaw4_Sets.mono _ _ _
      | exact hyphenlaw4_known.mono _
      | exact hyphenref3_Has.mono _ _ _
      | exact part_Cuts.mono _ _
      | exact part_In.mono _ _ _ _
      | exact LeO.none _
      | refine LeO.ite ?_ ?_
      | refine LeO.bind ?_ (fun _ => ?_)
    · intro y0 y1 y2 y3 y4 y5 y6
      unfold hyphenlaw4_PartSets.j1
      repeat' first
      | (with_reducible exact ih0 _ _ _ _ _ _)
      | (with_reducible exact ih1 _ _ _ _ _ _ _)
      | (with_reducible exact ih2 _ _ _ _ _ _ _ _ _)
      | (with_reducible exact hyphenlaw4_Sets.mono _ _ _)
      | (with_reducible exact hyphenlaw4_known.mono _)
      | (with_reducible exact hyphenref3_Has.mono _ _ _)
      | (with_reducible exact part_Cuts.mono _ _)
      | (with_reducible exact part_In.mono _ _ _ _)
      | (with_reducible exact LeO.refl _)
      | (with_reducible exact LeO.none _)
      | (with_reducible refine LeO.ite ?_ ?_)
      | (with_reducible refine LeO.bind ?_ (fun _ => ?_))
      | exact ih0 _ _ _ _ _ _
      | exact ih1 _ _ _ _ _ _ _
      | exact ih2 _ _ _ _ _ _ _ _ _
      | exact hyphenlaw4_Sets.mono _ _ _
      | exact hyphenlaw4_known.mono _
      | exact hyphenref3_Has.mono _ _ _
      | exact part_Cuts.mono _ _
      | exact part_In.mono _ _ _ _
      | exact LeO.none _
      | refine LeO.ite ?_ ?_
      | refine LeO.bind ?_ (fun _ => ?_)
    · intro y0 y1 y2 y3 y4 y5 y6 y7 y8
      unfold hyphenlaw4_PartSets.l1
      repeat' first
      | (with_reducible exact ih0 _ _ _ _ _ _)
      | (with_reducible exact ih1 _ _ _ _ _ _ _)
      | (with_reducible exact ih2 _ _ _ _ _ _ _ _ _)
      | (with_reducible exact hyphenlaw4_Sets.mono _ _ _)
      | (with_reducible exact hyphenlaw4_known.mono _)
      | (with_reducible exact hyphenref3_Has.mono _ _ _)
      | (with_reducible exact part_Cuts.mono _ _)
      | (with_reducible exact part_In.mono _ _ _ _)
      | (with_reducible exact LeO.refl _)
      | (with_reducible exact LeO.none _)
      | (with_reducible refine LeO.ite ?_ ?_)
      | (with_reducible refine LeO.bind ?_ (fun _ => ?_))
      | exact ih0 _ _ _ _ _ _
      | exact ih1 _ _ _ _ _ _ _
      | exact ih2 _ _ _ _ _ _ _ _ _
      | exact hyphenlaw4_Sets.mono _ _ _
      | exact hyphenlaw4_known.mono _
      | exact hyphenref3_Has.mono _ _ _
      | exact part_Cuts.mono _ _
      | exact part_In.mono _ _ _ _
      | exact LeO.none _
      | refine LeO.ite ?_ ?_
      | refine LeO.bind ?_ (fun _ => ?_)
theorem hyphenlaw4_PartSets.mono : ∀ a0 a1 k, LeO (hyphenlaw4_PartSets.f k a0 a1) (hyphenlaw4_PartSets.f (k + 1) a0 a1) := by
  intro a0 a1 k
  obtain ⟨ih0, ih1, ih2⟩ := hyphenlaw4_PartSets.mono_l k
  unfold hyphenlaw4_PartSets.f
  repeat' first
      | (with_reducible exact ih0 _ _ _ _ _ _)
      | (with_reducible exact ih1 _ _ _ _ _ _ _)
      | (with_reducible exact ih2 _ _ _ _ _ _ _ _ _)
      | (with_reducible exact hyphenlaw4_Sets.mono _ _ _)
      | (with_reducible exact hyphenlaw4_known.mono _)
      | (with_reducible exact hyphenref3_Has.mono _ _ _)
      | (with_reducible exact part_Cuts.mono _ _)
      | (with_reducible exact part_In.mono _ _ _ _)
      | (with_reducible exact LeO.refl _)
      | (with_reducible exact LeO.none _)
      | (with_reducible refine LeO.ite ?_ ?_)
      | (with_reducible refine LeO.bind ?_ (fun _ => ?_))
      | exact ih0 _ _ _ _ _ _
      | exact ih1 _ _ _ _ _ _ _
      | exact ih2 _ _ _ _ _ _ _ _ _
      | exact hyphenlaw4_Sets.mono _ _ _
      | exact hyphenlaw4_known.mono _
      | exact hyphenref3_Has.mono _ _ _
      | exact part_Cuts.mono _ _
      | exact part_In.mono _ _ _ _
      | exact LeO.none _
      | refine LeO.ite ?_ ?_
      | refine LeO.bind ?_ (fun _ => ?_)
set_option maxHeartbeats 8000000 in
set_option maxRecDepth 100000 in
theorem hyphenlaw4_PartSets.calls (k : Nat) (A0 : Option Addr) (c0 : Nat) (l0 : List Int) (a1 : Int) (r : Bool) (w : World) (hr0 : Kd.C (Kd.int .i64) w A0 l0.length l0) (hc0 : l0.length ≤ c0) (h : hyphenlaw4_PartSets.f k l0 a1 = some r) :
    Calls Try.prog 5 #[.slice A0 l0.length c0, .int .i64 a1] w fun e w' => e = .returned (.bool r) ∧ Below w.heap.size w w' := by
  have HR0 := Aside0.mk hr0
  have HC0 := Aside0.mk hc0
  clear hr0 hc0
  have HB := Aside0.mk (Below.refl w.heap.size w)
  have H : ((hyphenlaw4_known.f k).bind fun t369 => (if t369 = true then ((hyphenlaw4_Sets.f k l0 12).bind fun t370 => ((part_Cuts.f k t370).bind fun bt373 => ((part_In.f k t370 bt373.1 bt373.2).bind fun t379 => (if (t379.length : Int) = (t370.length : Int) then (hyphenlaw4_PartSets.l0 k a1 t370 bt373.1 bt373.2 t379 0) else (none))))) else (none))) = some r := h
  clear h
  replace H := Option.bind_eq_some_iff.mp H
  obtain ⟨t369, A30, H⟩ := H
  replace H : (if t369 = true then ((hyphenlaw4_Sets.f k l0 12).bind fun t370 => ((part_Cuts.f k t370).bind fun bt373 => ((part_In.f k t370 bt373.1 bt373.2).bind fun t379 => (if (t379.length : Int) = (t370.length : Int) then (hyphenlaw4_PartSets.l0 k a1 t370 bt373.1 bt373.2 t379 0) else (none))))) else (none)) = some r := H
  have A3 := Aside0.mk A30
  clear A30
  by_cases c4 : t369 = true
  · subst c4
    have H1 : ((hyphenlaw4_Sets.f k l0 12).bind fun t370 => ((part_Cuts.f k t370).bind fun bt373 => ((part_In.f k t370 bt373.1 bt373.2).bind fun t379 => (if (t379.length : Int) = (t370.length : Int) then (hyphenlaw4_PartSets.l0 k a1 t370 bt373.1 bt373.2 t379 0) else (none))))) = some r := by rw [if_pos rfl] at H; exact H
    clear H
    have H := H1
    clear H1
    replace H := Option.bind_eq_some_iff.mp H
    obtain ⟨t370, A50, H⟩ := H
    replace H : ((part_Cuts.f k t370).bind fun bt373 => ((part_In.f k t370 bt373.1 bt373.2).bind fun t379 => (if (t379.length : Int) = (t370.length : Int) then (hyphenlaw4_PartSets.l0 k a1 t370 bt373.1 bt373.2 t379 0) else (none)))) = some r := H
    have A5 := Aside0.mk A50
    clear A50
    replace H := Option.bind_eq_some_iff.mp H
    obtain ⟨⟨t373, t374⟩, A60, H⟩ := H
    replace H : ((part_In.f k t370 t373 t374).bind fun t379 => (if (t379.length : Int) = (t370.length : Int) then (hyphenlaw4_PartSets.l0 k a1 t370 t373 t374 t379 0) else (none))) = some r := H
    have A6 := Aside0.mk A60
    clear A60
    replace H := Option.bind_eq_some_iff.mp H
    obtain ⟨t379, A70, H⟩ := H
    replace H : (if (t379.length : Int) = (t370.length : Int) then (hyphenlaw4_PartSets.l0 k a1 t370 t373 t374 t379 0) else (none)) = some r := H
    have A7 := Aside0.mk A70
    clear A70
    by_cases c8 : (t379.length : Int) = (t370.length : Int)
    · rw [if_pos c8] at H
      have c8b0 : ((t379.length : Int) == (t370.length : Int)) = true := beq_iff_eq.mpr c8
      have c8b1 : ((t379.length : Int) != (t370.length : Int)) = false := bne_eq_false_iff_eq.mpr c8
      have c8b2 : (t379.length == t370.length) = true := by first | simpa using c8 | (simp at c8 ⊢; omega)
      clear c8
      have H' := Aside0.mk H
      clear H
      go_enter Try.func5, Try.ntmps5
      go_wp2_with (first | (go_at_call 11; (with_reducible refine (hyphenlaw4_known.calls k  true _ A3.out).mono ?_); rintro e w9 ⟨rfl, hb⟩; have n0_ := Aside0.mk (below_step (by repeat (first | (with_reducible first | exact HB.out | apply below_alloc | apply pw_below_drewN | apply below_drew1) | exact HB.out)) hb); clear HB; have HB := n0_; clear n0_; (try clear hb); (try clear hb2); (try clear hk); (try clear hi)) | (go_at_call 12; (with_reducible refine (hyphenlaw4_Sets.calls k _ _ l0 12 t370 _ ?side1 ?side2 A5.out).mono ?_); (case side1 => repeat (first | exact (Kd.C_below HR0.out HB.out) | (with_reducible refine Kd.C_alloc ?_ _) | (with_reducible refine Kd.C_drewN ?_ _) | (with_reducible refine Kd.C_drew ?_))); (case side2 => exact HC0.out); rintro e w10 ⟨v371, rfl, ho0, hb⟩; have n0_ := Aside0.mk (Kd.R_lower ho0 (below_size (by repeat (first | (with_reducible first | exact HB.out | apply below_alloc | apply pw_below_drewN | apply below_drew1) | exact HB.out)))); have n1_ := Aside0.mk (below_step (by repeat (first | (with_reducible first | exact HB.out | apply below_alloc | apply pw_below_drewN | apply below_drew1) | exact HB.out)) hb); clear HB; have HO372 := n0_; have HB := n1_; clear n0_ n1_; (try clear hb); (try clear hb2); (try clear hk); (try clear hi); (try clear ho0); obtain ⟨Ao11, co11, eo11⟩ := Kd.R_slice HO372.out; subst eo11) | (go_at_call 13; (with_reducible refine (part_Cuts.calls k _ _ t370 t373 t374 _ ?side1 ?side2 A6.out).mono ?_); (case side1 => repeat (first | exact (Kd.R_reads' HO372.out).2.2 | (with_reducible refine Kd.C_alloc ?_ _) | (with_reducible refine Kd.C_drewN ?_ _) | (with_reducible refine Kd.C_drew ?_))); (case side2 => exact (Kd.R_reads' HO372.out).2.1); rintro e w12 ⟨v375, v377, rfl, ho0, ho1, hb⟩; have n0_ := Aside0.mk (Kd.R_below (by (with_reducible repeat (first | apply Kd.R_alloc | apply Kd.R_drewN | apply Kd.R_drew)); exact HO372.out) hb); have n1_ := Aside0.mk (Kd.R_lower ho0 (below_size (by repeat (first | (with_reducible first | exact HB.out | apply below_alloc | apply pw_below_drewN | apply below_drew1) | exact HB.out)))); have n2_ := Aside0.mk (Kd.R_lower ho1 (below_size (by repeat (first | (with_reducible first | exact HB.out | apply below_alloc | apply pw_below_drewN | apply below_drew1) | exact HB.out)))); have n3_ := Aside0.mk (below_step (by repeat (first | (with_reducible first | exact HB.out | apply below_alloc | apply pw_below_drewN | apply below_drew1) | exact HB.out)) hb); clear HO372; clear HB; have HO372 := n0_; have HO376 := n1_; have HO378 := n2_; have HB := n3_; clear n0_ n1_ n2_ n3_; (try clear hb); (try clear hb2); (try clear hk); (try clear hi); (try clear ho0); (try clear ho1); obtain ⟨Ao13, co13, eo13⟩ := Kd.R_slice HO376.out; subst eo13; obtain ⟨Ao14, co14, eo14⟩ := Kd.R_slice HO378.out; subst eo14) | (go_at_call 18; (with_reducible refine (part_In.calls k _ _ t370 _ _ t373 _ _ t374 t379 _ ?side1 ?side2 ?side3 ?side4 ?side5 ?side6 A7.out).mono ?_); (case side1 => repeat (first | exact (Kd.R_reads' HO372.out).2.2 | (with_reducible refine Kd.C_alloc ?_ _) | (with_reducible refine Kd.C_drewN ?_ _) | (with_reducible refine Kd.C_drew ?_))); (case side2 => exact (Kd.R_reads' HO372.out).2.1); (case side3 => repeat (first | exact (Kd.R_reads' HO376.out).2.2 | (with_reducible refine Kd.C_alloc ?_ _) | (with_reducible refine Kd.C_drewN ?_ _) | (with_reducible refine Kd.C_drew ?_))); (case side4 => exact (Kd.R_reads' HO376.out).2.1); (case side5 => repeat (first | exact (Kd.R_reads' HO378.out).2.2 | (with_reducible refine Kd.C_alloc ?_ _) | (with_reducible refine Kd.C_drewN ?_ _) | (with_reducible refine Kd.C_drew ?_))); (case side6 => exact (Kd.R_reads' HO378.out).2.1); rintro e w15 ⟨v380, rfl, ho0, hb⟩; have n0_ := Aside0.mk (Kd.R_below (by (with_reducible repeat (first | apply Kd.R_alloc | apply Kd.R_drewN | apply Kd.R_drew)); exact HO372.out) hb); have n1_ := Aside0.mk (Kd.R_below (by (with_reducible repeat (first | apply Kd.R_alloc | apply Kd.R_drewN | apply Kd.R_drew)); exact HO376.out) hb); have n2_ := Aside0.mk (Kd.R_below (by (with_reducible repeat (first | apply Kd.R_alloc | apply Kd.R_drewN | apply Kd.R_drew)); exact HO378.out) hb); have n3_ := Aside0.mk (Kd.R_lower ho0 (below_size (by repeat (first | (with_reducible first | exact HB.out | apply below_alloc | apply pw_below_drewN | apply below_drew1) | exact HB.out)))); have n4_ := Aside0.mk (below_step (by repeat (first | (with_reducible first | exact HB.out | apply below_alloc | apply pw_below_drewN | apply below_drew1) | exact HB.out)) hb); clear HO372; clear HO376; clear HO378; clear HB; have HO372 := n0_; have HO376 := n1_; have HO378 := n2_; have HO381 := n3_; have HB := n4_; clear n0_ n1_ n2_ n3_ n4_; (try clear hb); (try clear hb2); (try clear hk); (try clear hi); (try clear ho0); obtain ⟨Ao16, co16, eo16⟩ := Kd.R_slice HO381.out; subst eo16))
      repeat (go_quiet (first | (go_at_call 11; (with_reducible refine (hyphenlaw4_known.calls k  true _ A3.out).mono ?_); rintro e w9 ⟨rfl, hb⟩; have n0_ := Aside0.mk (below_step (by repeat (first | (with_reducible first | exact HB.out | apply below_alloc | apply pw_below_drewN | apply below_drew1) | exact HB.out)) hb); clear HB; have HB := n0_; clear n0_; (try clear hb); (try clear hb2); (try clear hk); (try clear hi)) | (go_at_call 12; (with_reducible refine (hyphenlaw4_Sets.calls k _ _ l0 12 t370 _ ?side1 ?side2 A5.out).mono ?_); (case side1 => repeat (first | exact (Kd.C_below HR0.out HB.out) | (with_reducible refine Kd.C_alloc ?_ _) | (with_reducible refine Kd.C_drewN ?_ _) | (with_reducible refine Kd.C_drew ?_))); (case side2 => exact HC0.out); rintro e w10 ⟨v371, rfl, ho0, hb⟩; have n0_ := Aside0.mk (Kd.R_lower ho0 (below_size (by repeat (first | (with_reducible first | exact HB.out | apply below_alloc | apply pw_below_drewN | apply below_drew1) | exact HB.out)))); have n1_ := Aside0.mk (below_step (by repeat (first | (with_reducible first | exact HB.out | apply below_alloc | apply pw_below_drewN | apply below_drew1) | exact HB.out)) hb); clear HB; have HO372 := n0_; have HB := n1_; clear n0_ n1_; (try clear hb); (try clear hb2); (try clear hk); (try clear hi); (try clear ho0); obtain ⟨Ao11, co11, eo11⟩ := Kd.R_slice HO372.out; subst eo11) | (go_at_call 13; (with_reducible refine (part_Cuts.calls k _ _ t370 t373 t374 _ ?side1 ?side2 A6.out).mono ?_); (case side1 => repeat (first | exact (Kd.R_reads' HO372.out).2.2 | (with_reducible refine Kd.C_alloc ?_ _) | (with_reducible refine Kd.C_drewN ?_ _) | (with_reducible refine Kd.C_drew ?_))); (case side2 => exact (Kd.R_reads' HO372.out).2.1); rintro e w12 ⟨v375, v377, rfl, ho0, ho1, hb⟩; have n0_ := Aside0.mk (Kd.R_below (by (with_reducible repeat (first | apply Kd.R_alloc | apply Kd.R_drewN | apply Kd.R_drew)); exact HO372.out) hb); have n1_ := Aside0.mk (Kd.R_lower ho0 (below_size (by repeat (first | (with_reducible first | exact HB.out | apply below_alloc | apply pw_below_drewN | apply below_drew1) | exact HB.out)))); have n2_ := Aside0.mk (Kd.R_lower ho1 (below_size (by repeat (first | (with_reducible first | exact HB.out | apply below_alloc | apply pw_below_drewN | apply below_drew1) | exact HB.out)))); have n3_ := Aside0.mk (below_step (by repeat (first | (with_reducible first | exact HB.out | apply below_alloc | apply pw_below_drewN | apply below_drew1) | exact HB.out)) hb); clear HO372; clear HB; have HO372 := n0_; have HO376 := n1_; have HO378 := n2_; have HB := n3_; clear n0_ n1_ n2_ n3_; (try clear hb); (try clear hb2); (try clear hk); (try clear hi); (try clear ho0); (try clear ho1); obtain ⟨Ao13, co13, eo13⟩ := Kd.R_slice HO376.out; subst eo13; obtain ⟨Ao14, co14, eo14⟩ := Kd.R_slice HO378.out; subst eo14) | (go_at_call 18; (with_reducible refine (part_In.calls k _ _ t370 _ _ t373 _ _ t374 t379 _ ?side1 ?side2 ?side3 ?side4 ?side5 ?side6 A7.out).mono ?_); (case side1 => repeat (first | exact (Kd.R_reads' HO372.out).2.2 | (with_reducible refine Kd.C_alloc ?_ _) | (with_reducible refine Kd.C_drewN ?_ _) | (with_reducible refine Kd.C_drew ?_))); (case side2 => exact (Kd.R_reads' HO372.out).2.1); (case side3 => repeat (first | exact (Kd.R_reads' HO376.out).2.2 | (with_reducible refine Kd.C_alloc ?_ _) | (with_reducible refine Kd.C_drewN ?_ _) | (with_reducible refine Kd.C_drew ?_))); (case side4 => exact (Kd.R_reads' HO376.out).2.1); (case side5 => repeat (first | exact (Kd.R_reads' HO378.out).2.2 | (with_reducible refine Kd.C_alloc ?_ _) | (with_reducible refine Kd.C_drewN ?_ _) | (with_reducible refine Kd.C_drew ?_))); (case side6 => exact (Kd.R_reads' HO378.out).2.1); rintro e w15 ⟨v380, rfl, ho0, hb⟩; have n0_ := Aside0.mk (Kd.R_below (by (with_reducible repeat (first | apply Kd.R_alloc | apply Kd.R_drewN | apply Kd.R_drew)); exact HO372.out) hb); have n1_ := Aside0.mk (Kd.R_below (by (with_reducible repeat (first | apply Kd.R_alloc | apply Kd.R_drewN | apply Kd.R_drew)); exact HO376.out) hb); have n2_ := Aside0.mk (Kd.R_below (by (with_reducible repeat (first | apply Kd.R_alloc | apply Kd.R_drewN | apply Kd.R_drew)); exact HO378.out) hb); have n3_ := Aside0.mk (Kd.R_lower ho0 (below_size (by repeat (first | (with_reducible first | exact HB.out | apply below_alloc | apply pw_below_drewN | apply below_drew1) | exact HB.out)))); have n4_ := Aside0.mk (below_step (by repeat (first | (with_reducible first | exact HB.out | apply below_alloc | apply pw_below_drewN | apply below_drew1) | exact HB.out)) hb); clear HO372; clear HO376; clear HO378; clear HB; have HO372 := n0_; have HO376 := n1_; have HO378 := n2_; have HO381 := n3_; have HB := n4_; clear n0_ n1_ n2_ n3_ n4_; (try clear hb); (try clear hb2); (try clear hk); (try clear hi); (try clear ho0); obtain ⟨Ao16, co16, eo16⟩ := Kd.R_slice HO381.out; subst eo16)); try go_wp2_with (first | (go_at_call 11; (with_reducible refine (hyphenlaw4_known.calls k  true _ A3.out).mono ?_); rintro e w9 ⟨rfl, hb⟩; have n0_ := Aside0.mk (below_step (by repeat (first | (with_reducible first | exact HB.out | apply below_alloc | apply pw_below_drewN | apply below_drew1) | exact HB.out)) hb); clear HB; have HB := n0_; clear n0_; (try clear hb); (try clear hb2); (try clear hk); (try clear hi)) | (go_at_call 12; (with_reducible refine (hyphenlaw4_Sets.calls k _ _ l0 12 t370 _ ?side1 ?side2 A5.out).mono ?_); (case side1 => repeat (first | exact (Kd.C_below HR0.out HB.out) | (with_reducible refine Kd.C_alloc ?_ _) | (with_reducible refine Kd.C_drewN ?_ _) | (with_reducible refine Kd.C_drew ?_))); (case side2 => exact HC0.out); rintro e w10 ⟨v371, rfl, ho0, hb⟩; have n0_ := Aside0.mk (Kd.R_lower ho0 (below_size (by repeat (first | (with_reducible first | exact HB.out | apply below_alloc | apply pw_below_drewN | apply below_drew1) | exact HB.out)))); have n1_ := Aside0.mk (below_step (by repeat (first | (with_reducible first | exact HB.out | apply below_alloc | apply pw_below_drewN | apply below_drew1) | exact HB.out)) hb); clear HB; have HO372 := n0_; have HB := n1_; clear n0_ n1_; (try clear hb); (try clear hb2); (try clear hk); (try clear hi); (try clear ho0); obtain ⟨Ao11, co11, eo11⟩ := Kd.R_slice HO372.out; subst eo11) | (go_at_call 13; (with_reducible refine (part_Cuts.calls k _ _ t370 t373 t374 _ ?side1 ?side2 A6.out).mono ?_); (case side1 => repeat (first | exact (Kd.R_reads' HO372.out).2.2 | (with_reducible refine Kd.C_alloc ?_ _) | (with_reducible refine Kd.C_drewN ?_ _) | (with_reducible refine Kd.C_drew ?_))); (case side2 => exact (Kd.R_reads' HO372.out).2.1); rintro e w12 ⟨v375, v377, rfl, ho0, ho1, hb⟩; have n0_ := Aside0.mk (Kd.R_below (by (with_reducible repeat (first | apply Kd.R_alloc | apply Kd.R_drewN | apply Kd.R_drew)); exact HO372.out) hb); have n1_ := Aside0.mk (Kd.R_lower ho0 (below_size (by repeat (first | (with_reducible first | exact HB.out | apply below_alloc | apply pw_below_drewN | apply below_drew1) | exact HB.out)))); have n2_ := Aside0.mk (Kd.R_lower ho1 (below_size (by repeat (first | (with_reducible first | exact HB.out | apply below_alloc | apply pw_below_drewN | apply below_drew1) | exact HB.out)))); have n3_ := Aside0.mk (below_step (by repeat (first | (with_reducible first | exact HB.out | apply below_alloc | apply pw_below_drewN | apply below_drew1) | exact HB.out)) hb); clear HO372; clear HB; have HO372 := n0_; have HO376 := n1_; have HO378 := n2_; have HB := n3_; clear n0_ n1_ n2_ n3_; (try clear hb); (try clear hb2); (try clear hk); (try clear hi); (try clear ho0); (try clear ho1); obtain ⟨Ao13, co13, eo13⟩ := Kd.R_slice HO376.out; subst eo13; obtain ⟨Ao14, co14, eo14⟩ := Kd.R_slice HO378.out; subst eo14) | (go_at_call 18; (with_reducible refine (part_In.calls k _ _ t370 _ _ t373 _ _ t374 t379 _ ?side1 ?side2 ?side3 ?side4 ?side5 ?side6 A7.out).mono ?_); (case side1 => repeat (first | exact (Kd.R_reads' HO372.out).2.2 | (with_reducible refine Kd.C_alloc ?_ _) | (with_reducible refine Kd.C_drewN ?_ _) | (with_reducible refine Kd.C_drew ?_))); (case side2 => exact (Kd.R_reads' HO372.out).2.1); (case side3 => repeat (first | exact (Kd.R_reads' HO376.out).2.2 | (with_reducible refine Kd.C_alloc ?_ _) | (with_reducible refine Kd.C_drewN ?_ _) | (with_reducible refine Kd.C_drew ?_))); (case side4 => exact (Kd.R_reads' HO376.out).2.1); (case side5 => repeat (first | exact (Kd.R_reads' HO378.out).2.2 | (with_reducible refine Kd.C_alloc ?_ _) | (with_reducible refine Kd.C_drewN ?_ _) | (with_reducible refine Kd.C_drew ?_))); (case side6 => exact (Kd.R_reads' HO378.out).2.1); rintro e w15 ⟨v380, rfl, ho0, hb⟩; have n0_ := Aside0.mk (Kd.R_below (by (with_reducible repeat (first | apply Kd.R_alloc | apply Kd.R_drewN | apply Kd.R_drew)); exact HO372.out) hb); have n1_ := Aside0.mk (Kd.R_below (by (with_reducible repeat (first | apply Kd.R_alloc | apply Kd.R_drewN | apply Kd.R_drew)); exact HO376.out) hb); have n2_ := Aside0.mk (Kd.R_below (by (with_reducible repeat (first | apply Kd.R_alloc | apply Kd.R_drewN | apply Kd.R_drew)); exact HO378.out) hb); have n3_ := Aside0.mk (Kd.R_lower ho0 (below_size (by repeat (first | (with_reducible first | exact HB.out | apply below_alloc | apply pw_below_drewN | apply below_drew1) | exact HB.out)))); have n4_ := Aside0.mk (below_step (by repeat (first | (with_reducible first | exact HB.out | apply below_alloc | apply pw_below_drewN | apply below_drew1) | exact HB.out)) hb); clear HO372; clear HO376; clear HO378; clear HB; have HO372 := n0_; have HO376 := n1_; have HO378 := n2_; have HO381 := n3_; have HB := n4_; clear n0_ n1_ n2_ n3_ n4_; (try clear hb); (try clear hb2); (try clear hk); (try clear hi); (try clear ho0); obtain ⟨Ao16, co16, eo16⟩ := Kd.R_slice HO381.out; subst eo16)))
      go_loopg [9] k (fun kq v9 w' => ∃ (x9_1 : Int), v9 = .int .i64 x9_1 ∧ Aside0 (hyphenlaw4_PartSets.l0 kq a1 t370 t373 t374 t379 x9_1 = some r) ∧ Aside0 (kq ≤ k) ∧ Aside0 (Kd.R (Kd.slice 44 k44) 37 w' w.heap.size (fun _ => True) (.slice Ao11 t370.length co11) t370) ∧ Aside0 (Kd.R (Kd.int .i64) 3 w' w.heap.size (fun k_ => some k_ ≠ ((.slice Ao14 t374.length co14) : Value).ownBlock) (.slice Ao13 t373.length co13) t373) ∧ Aside0 (Kd.R (Kd.int .i64) 3 w' w.heap.size (fun k_ => some k_ ≠ ((.slice Ao13 t373.length co13) : Value).ownBlock) (.slice Ao14 t374.length co14) t374) ∧ Aside0 (Kd.R (Kd.slice 4 Kd.bool) 32 w' w.heap.size (fun _ => True) (.slice Ao16 t379.length co16) t379) ∧ Aside0 (Below w.heap.size w w'))
      case atStart => exact ⟨(0), (by first | rfl | (simp; done) | (simp [*]; done)), H', ⟨Nat.le_refl _⟩, ⟨by (with_reducible repeat (first | apply Kd.R_alloc | apply Kd.R_drewN | apply Kd.R_drew)); exact HO372.out⟩, ⟨by (with_reducible repeat (first | apply Kd.R_alloc | apply Kd.R_drewN | apply Kd.R_drew)); exact HO376.out⟩, ⟨by (with_reducible repeat (first | apply Kd.R_alloc | apply Kd.R_drewN | apply Kd.R_drew)); exact HO378.out⟩, ⟨by (with_reducible repeat (first | apply Kd.R_alloc | apply Kd.R_drewN | apply Kd.R_drew)); exact HO381.out⟩, ⟨by repeat (first | (with_reducible first | exact HB.out | apply below_alloc | apply pw_below_drewN | apply below_drew1) | exact HB.out)⟩⟩
      case round =>
        clear H'
        try clear p2
        try clear c4
        try clear c5
        try clear c8
        try clear c8b0
        try clear c8b1
        try clear c8b2
        obtain ⟨x9_1, rfl, HA, HK1, HO_5, HO_6, HO_7, HO_8, HB⟩ := hrel
        cases gk with
        | zero => exact absurd HA.out (by simp [hyphenlaw4_PartSets.l0])
        | succ k1 =>
          have H := HA.out
          clear HA
          simp only [hyphenlaw4_PartSets.l0] at H
          by_cases c17 : x9_1 < 70
          · rw [if_pos c17] at H
            have c17b0 : decide (x9_1 < 70) = true := decide_eq_true c17
            clear c17
            have HC18 := Aside0.mk H
            clear H
            go_upto_if 37 with (fail)
            repeat (go_quiet (fail); go_upto_if 37 with (fail))
            go_cut [10] (fun v10 wc => ∃ (kq : Nat) (x10_17 : Int), v10 = .int .i64 x10_17 ∧ Aside0 (hyphenlaw4_PartSets.j1 kq a1 t370 t373 t374 t379 x9_1 x10_17 = some r) ∧ Aside0 (kq ≤ k1) ∧ Aside0 (Kd.R (Kd.slice 44 k44) 37 wc w.heap.size (fun _ => True) (.slice Ao11 t370.length co11) t370) ∧ Aside0 (Kd.R (Kd.int .i64) 3 wc w.heap.size (fun k_ => some k_ ≠ ((.slice Ao14 t374.length co14) : Value).ownBlock) (.slice Ao13 t373.length co13) t373) ∧ Aside0 (Kd.R (Kd.int .i64) 3 wc w.heap.size (fun k_ => some k_ ≠ ((.slice Ao13 t373.length co13) : Value).ownBlock) (.slice Ao14 t374.length co14) t374) ∧ Aside0 (Kd.R (Kd.slice 4 Kd.bool) 32 wc w.heap.size (fun _ => True) (.slice Ao16 t379.length co16) t379) ∧ Aside0 (Below w.heap.size w wc))
            case first =>
              have H := HC18.out
              clear HC18
              by_cases c19 : x9_1 > 66
              · rw [if_pos c19] at H
                have c19b0 : decide (66 < x9_1) = true := decide_eq_true c19
                clear c19
                (first | rw [c19b0] | (simp only [i64_w, i32_w]; rw [c19b0]) | skip)
                replace H := Option.bind_eq_some_iff.mp H
                obtain ⟨t382, A200, H⟩ := H
                replace H : (hyphenlaw4_PartSets.j1 k1 a1 t370 t373 t374 t379 x9_1 t382) = some r := H
                have A20 := Aside0.mk A200
                clear A200
                have H' := Aside0.mk H
                clear H
                go_wp2_with (first | (go_at_call 20; (with_reducible refine (hyphenlaw4_within.calls (wrap64 (a1 + x9_1)) 1114112 t382 _ A20.out).mono ?_); rintro e w' ⟨rfl, ⟨nd, rfl⟩⟩; (try first | exact ⟨rfl, _, World.drewN_drewN _ _ _⟩ | exact ⟨rfl, _, Eq.trans (World.drewN_drewN _ _ _) (congrArg (World.drewN _) (Nat.add_assoc _ _ _))⟩)))
                repeat (go_quiet (first | (go_at_call 20; (with_reducible refine (hyphenlaw4_within.calls (wrap64 (a1 + x9_1)) 1114112 t382 _ A20.out).mono ?_); rintro e w' ⟨rfl, ⟨nd, rfl⟩⟩; (try first | exact ⟨rfl, _, World.drewN_drewN _ _ _⟩ | exact ⟨rfl, _, Eq.trans (World.drewN_drewN _ _ _) (congrArg (World.drewN _) (Nat.add_assoc _ _ _))⟩))); try go_wp2_with (first | (go_at_call 20; (with_reducible refine (hyphenlaw4_within.calls (wrap64 (a1 + x9_1)) 1114112 t382 _ A20.out).mono ?_); rintro e w' ⟨rfl, ⟨nd, rfl⟩⟩; (try first | exact ⟨rfl, _, World.drewN_drewN _ _ _⟩ | exact ⟨rfl, _, Eq.trans (World.drewN_drewN _ _ _) (congrArg (World.drewN _) (Nat.add_assoc _ _ _))⟩))))
                go_meet
                case rel => exact ⟨_, (t382), (by first | rfl | (simp; done) | (simp [*]; done)), H', ⟨by have := HK1.out; first | omega | exact Nat.le_refl _⟩, ⟨by (with_reducible repeat (first | apply Kd.R_alloc | apply Kd.R_drewN | apply Kd.R_drew)); exact HO_5.out⟩, ⟨by (with_reducible repeat (first | apply Kd.R_alloc | apply Kd.R_drewN | apply Kd.R_drew)); exact HO_6.out⟩, ⟨by (with_reducible repeat (first | apply Kd.R_alloc | apply Kd.R_drewN | apply Kd.R_drew)); exact HO_7.out⟩, ⟨by (with_reducible repeat (first | apply Kd.R_alloc | apply Kd.R_drewN | apply Kd.R_drew)); exact HO_8.out⟩, ⟨by repeat (first | (with_reducible first | exact HB.out | apply below_alloc | apply pw_below_drewN | apply below_drew1) | exact HB.out)⟩⟩
              · rw [if_neg c19] at H
                have c19b0 : decide (66 < x9_1) = false := decide_eq_false c19
                clear c19
                (first | rw [c19b0] | (simp only [i64_w, i32_w]; rw [c19b0]) | skip)
                have H' := Aside0.mk H
                clear H
                go_wp2
                repeat (go_quiet (fail); try go_wp2)
                go_meet
                case rel => exact ⟨_, (x9_1), (by first | rfl | (simp; done) | (simp [*]; done)), H', ⟨by have := HK1.out; first | omega | exact Nat.le_refl _⟩, ⟨by (with_reducible repeat (first | apply Kd.R_alloc | apply Kd.R_drewN | apply Kd.R_drew)); exact HO_5.out⟩, ⟨by (with_reducible repeat (first | apply Kd.R_alloc | apply Kd.R_drewN | apply Kd.R_drew)); exact HO_6.out⟩, ⟨by (with_reducible repeat (first | apply Kd.R_alloc | apply Kd.R_drewN | apply Kd.R_drew)); exact HO_7.out⟩, ⟨by (with_reducible repeat (first | apply Kd.R_alloc | apply Kd.R_drewN | apply Kd.R_drew)); exact HO_8.out⟩, ⟨by repeat (first | (with_reducible first | exact HB.out | apply below_alloc | apply pw_below_drewN | apply below_drew1) | exact HB.out)⟩⟩
            case rest =>
              clear HC18
              try clear c1
              try clear p2
              try clear c4
              try clear c5
              try clear p6
              try clear c8
              try clear c8b0
              try clear c8b1
              try clear c8b2
              try clear c17
              try clear c17b0
              try clear c19
              try clear c19b0
              try clear p2
              obtain ⟨kq, x10_17, rfl, HA, HJ17, HO_5, HO_6, HO_7, HO_8, HB⟩ := hcut
              cases kq with
              | zero => exact absurd HA.out (by simp [hyphenlaw4_PartSets.j1])
              | succ kj17 =>
                have H := HA.out
                clear HA
                simp only [hyphenlaw4_PartSets.j1] at H
                replace H := Option.bind_eq_some_iff.mp H
                obtain ⟨t383, A210, H⟩ := H
                replace H : (hyphenlaw4_PartSets.l1 kj17 a1 t370 t373 t374 t379 x9_1 x10_17 t383 0) = some r := H
                have A21 := Aside0.mk A210
                clear A210
                have H' := Aside0.mk H
                clear H
                go_wp2_with (first | (go_at_call 21; (with_reducible refine (part_Letter.calls _ _ t373 _ _ t374 x10_17 t383 _ ?side1 ?side2 ?side3 ?side4 A21.out).mono ?_); (case side1 => repeat (first | exact (Kd.R_reads' HO_6.out).2.2 | (with_reducible refine Kd.C_alloc ?_ _) | (with_reducible refine Kd.C_drewN ?_ _) | (with_reducible refine Kd.C_drew ?_))); (case side2 => exact (Kd.R_reads' HO_6.out).2.1); (case side3 => repeat (first | exact (Kd.R_reads' HO_7.out).2.2 | (with_reducible refine Kd.C_alloc ?_ _) | (with_reducible refine Kd.C_drewN ?_ _) | (with_reducible refine Kd.C_drew ?_))); (case side4 => exact (Kd.R_reads' HO_7.out).2.1); rintro e w' ⟨rfl, ⟨nd, rfl⟩⟩; (try first | exact ⟨rfl, _, World.drewN_drewN _ _ _⟩ | exact ⟨rfl, _, Eq.trans (World.drewN_drewN _ _ _) (congrArg (World.drewN _) (Nat.add_assoc _ _ _))⟩)))
                repeat (go_quiet (first | (go_at_call 21; (with_reducible refine (part_Letter.calls _ _ t373 _ _ t374 x10_17 t383 _ ?side1 ?side2 ?side3 ?side4 A21.out).mono ?_); (case side1 => repeat (first | exact (Kd.R_reads' HO_6.out).2.2 | (with_reducible refine Kd.C_alloc ?_ _) | (with_reducible refine Kd.C_drewN ?_ _) | (with_reducible refine Kd.C_drew ?_))); (case side2 => exact (Kd.R_reads' HO_6.out).2.1); (case side3 => repeat (first | exact (Kd.R_reads' HO_7.out).2.2 | (with_reducible refine Kd.C_alloc ?_ _) | (with_reducible refine Kd.C_drewN ?_ _) | (with_reducible refine Kd.C_drew ?_))); (case side4 => exact (Kd.R_reads' HO_7.out).2.1); rintro e w' ⟨rfl, ⟨nd, rfl⟩⟩; (try first | exact ⟨rfl, _, World.drewN_drewN _ _ _⟩ | exact ⟨rfl, _, Eq.trans (World.drewN_drewN _ _ _) (congrArg (World.drewN _) (Nat.add_assoc _ _ _))⟩))); try go_wp2_with (first | (go_at_call 21; (with_reducible refine (part_Letter.calls _ _ t373 _ _ t374 x10_17 t383 _ ?side1 ?side2 ?side3 ?side4 A21.out).mono ?_); (case side1 => repeat (first | exact (Kd.R_reads' HO_6.out).2.2 | (with_reducible refine Kd.C_alloc ?_ _) | (with_reducible refine Kd.C_drewN ?_ _) | (with_reducible refine Kd.C_drew ?_))); (case side2 => exact (Kd.R_reads' HO_6.out).2.1); (case side3 => repeat (first | exact (Kd.R_reads' HO_7.out).2.2 | (with_reducible refine Kd.C_alloc ?_ _) | (with_reducible refine Kd.C_drewN ?_ _) | (with_reducible refine Kd.C_drew ?_))); (case side4 => exact (Kd.R_reads' HO_7.out).2.1); rintro e w' ⟨rfl, ⟨nd, rfl⟩⟩; (try first | exact ⟨rfl, _, World.drewN_drewN _ _ _⟩ | exact ⟨rfl, _, Eq.trans (World.drewN_drewN _ _ _) (congrArg (World.drewN _) (Nat.add_assoc _ _ _))⟩))))
                go_loopg [12] kj17 (fun kq v12 w' => ∃ (x12_3 : Int), v12 = .int .i64 x12_3 ∧ Aside0 (hyphenlaw4_PartSets.l1 kq a1 t370 t373 t374 t379 x9_1 x10_17 t383 x12_3 = some r) ∧ Aside0 (kq ≤ kj17) ∧ Aside0 (Kd.R (Kd.slice 44 k44) 37 w' w.heap.size (fun _ => True) (.slice Ao11 t370.length co11) t370) ∧ Aside0 (Kd.R (Kd.int .i64) 3 w' w.heap.size (fun k_ => some k_ ≠ ((.slice Ao14 t374.length co14) : Value).ownBlock) (.slice Ao13 t373.length co13) t373) ∧ Aside0 (Kd.R (Kd.int .i64) 3 w' w.heap.size (fun k_ => some k_ ≠ ((.slice Ao13 t373.length co13) : Value).ownBlock) (.slice Ao14 t374.length co14) t374) ∧ Aside0 (Kd.R (Kd.slice 4 Kd.bool) 32 w' w.heap.size (fun _ => True) (.slice Ao16 t379.length co16) t379) ∧ Aside0 (Below w.heap.size w w'))
                case atStart => exact ⟨(0), (by first | rfl | (simp; done) | (simp [*]; done)), H', ⟨Nat.le_refl _⟩, ⟨by (with_reducible repeat (first | apply Kd.R_alloc | apply Kd.R_drewN | apply Kd.R_drew)); exact HO_5.out⟩, ⟨by (with_reducible repeat (first | apply Kd.R_alloc | apply Kd.R_drewN | apply Kd.R_drew)); exact HO_6.out⟩, ⟨by (with_reducible repeat (first | apply Kd.R_alloc | apply Kd.R_drewN | apply Kd.R_drew)); exact HO_7.out⟩, ⟨by (with_reducible repeat (first | apply Kd.R_alloc | apply Kd.R_drewN | apply Kd.R_drew)); exact HO_8.out⟩, ⟨by repeat (first | (with_reducible first | exact HB.out | apply below_alloc | apply pw_below_drewN | apply below_drew1) | exact HB.out)⟩⟩
                case round =>
                  clear H'
                  try clear c1
                  try clear p2
                  try clear c4
                  try clear c5
                  try clear p6
                  try clear c8
                  try clear c8b0
                  try clear c8b1
                  try clear c8b2
                  try clear c17
                  try clear c17b0
                  try clear c19
                  try clear c19b0
                  try clear p2
                  try clear p6
                  obtain ⟨x12_3, rfl, HA, HK3, HO_5, HO_6, HO_7, HO_8, HB⟩ := hrel
                  cases gk with
                  | zero => exact absurd HA.out (by simp [hyphenlaw4_PartSets.l1])
                  | succ k3 =>
                    have H := HA.out
                    clear HA
                    simp only [hyphenlaw4_PartSets.l1] at H
                    by_cases c22 : x12_3 < (t370.length : Int)
                    · rw [if_pos c22] at H
                      have c22b0 : decide (x12_3 < (t370.length : Int)) = true := decide_eq_true c22
                      clear c22
                      by_cases c23 : t383 < 0
                      · rw [if_pos c23] at H
                        exact absurd H (by simp)
                      · rw [if_neg c23] at H
                        have c23b0 : decide (t383 < 0) = false := decide_eq_false c23
                        clear c23
                        by_cases c24 : 0 ≤ x12_3
                        · rw [if_pos c24] at H
                          have c24b0 : decide (0 ≤ x12_3) = true := decide_eq_true c24
                          clear c24
                          by_cases c25 : x12_3 < (t379.length : Int)
                          · rw [if_pos c25] at H
                            have c25b0 : decide (x12_3 < (t379.length : Int)) = true := decide_eq_true c25
                            clear c25
                            by_cases c26 : t383 ≥ ((rd_L7 t379 x12_3).length : Int)
                            · rw [if_pos c26] at H
                              exact absurd H (by simp)
                            · rw [if_neg c26] at H
                              have c26b0 : decide (((rd_L7 t379 x12_3).length : Int) ≤ t383) = false := decide_eq_false c26
                              clear c26
                              by_cases c27 : 0 ≤ t383
                              · rw [if_pos c27] at H
                                have c27b0 : decide (0 ≤ t383) = true := decide_eq_true c27
                                clear c27
                                by_cases c28 : t383 < ((rd_L7 t379 x12_3).length : Int)
                                · rw [if_pos c28] at H
                                  have c28b0 : decide (t383 < ((rd_L7 t379 x12_3).length : Int)) = true := decide_eq_true c28
                                  clear c28
                                  replace H := Option.bind_eq_some_iff.mp H
                                  obtain ⟨t388, A290, H⟩ := H
                                  replace H : (if ((rdOf false (rd_L7 t379 x12_3) t383) != t388) = true then (none) else (hyphenlaw4_PartSets.l1 k3 a1 t370 t373 t374 t379 x9_1 x10_17 t383 (wrap64 (x12_3 + 1)))) = some r := H
                                  have A29 := Aside0.mk A290
                                  clear A290
                                  by_cases c30 : ((rdOf false (rd_L7 t379 x12_3) t383) != t388) = true
                                  · rw [if_pos c30] at H
                                    exact absurd H (by simp)
                                  · rw [if_neg c30] at H
                                    have c30b0 : ((rdOf false (rd_L7 t379 x12_3) t383) != t388) = false := by simpa using c30
                                    (try (have c30b1 : decide ((rdOf false (rd_L7 t379 x12_3) t383) = t388) = true := by simpa using c30))
                                    (try (have c30b2 : ((rdOf false (rd_L7 t379 x12_3) t383) == t388) = true := by simpa using c30))
                                    clear c30
                                    have H' := Aside0.mk H
                                    clear H
                                    have p384 : 0 ≤ (x12_3 : Int) := of_decide_eq_true (by first | (with_reducible assumption) | assumption)
                                    have q384 : x12_3 < (t379.length : Int) := of_decide_eq_true (by first | (with_reducible assumption) | assumption)
                                    obtain ⟨ad384, A384_0, c384_0, e384, hx384_0, hl384_0, hi384_0⟩ := at_L7 (Kd.R_reads' HO_8.out).2.2 x12_3 p384 q384
                                    cases e384
                                    obtain ⟨ce384, hce384, hMe384, hcc384⟩ := Kd.R_get HO_8.out [] x12_3 p384 (by first | exact q384 | exact of_decide_eq_true (by first | (with_reducible assumption) | assumption) | (have e_ := (Kd.R_reads' HO_8.out).1; omega))
                                    obtain ⟨ve384_0, rfl, ge384_0⟩ := hMe384
                                    have hv384_0 := hcc384 0 _ rfl
                                    rw [Nat.add_zero, show ((Kd.slice 4 Kd.bool)).sz = 1 from rfl, Nat.mul_one] at hv384_0
                                    replace hv384_0 := Option.some.inj (hv384_0.symm.trans hx384_0)
                                    rw [hv384_0] at ge384_0
                                    have HL384_0 := Aside0.mk (show Kd.R Kd.bool 4 _ _ _ _ (rd_L7 t379 x12_3) from ge384_0)
                                    clear hv384_0 ge384_0
                                    clear hcc384 hce384
                                    have HR384_0 := Aside0.mk hi384_0
                                    have HC384_0 := Aside0.mk hl384_0
                                    clear hi384_0 hl384_0
                                    replace p384 := eq_true p384
                                    replace q384 := eq_true q384
                                    have p385 : 0 ≤ (x12_3 : Int) := of_decide_eq_true (by first | (with_reducible assumption) | assumption)
                                    have q385 : x12_3 < (t379.length : Int) := of_decide_eq_true (by first | (with_reducible assumption) | assumption)
                                    obtain ⟨ad385, A385_0, c385_0, e385, hx385_0, hl385_0, hi385_0⟩ := at_L7 (Kd.R_reads' HO_8.out).2.2 x12_3 p385 q385
                                    obtain rfl : ad384 = ad385 := (by injection e385)
                                    obtain ⟨ce385, hce385, hMe385, hcc385⟩ := Kd.R_get HO_8.out [] x12_3 p385 (by first | exact q385 | exact of_decide_eq_true (by first | (with_reducible assumption) | assumption) | (have e_ := (Kd.R_reads' HO_8.out).1; omega))
                                    obtain ⟨ve385_0, rfl, ge385_0⟩ := hMe385
                                    have hv385_0 := hcc385 0 _ rfl
                                    rw [Nat.add_zero, show ((Kd.slice 4 Kd.bool)).sz = 1 from rfl, Nat.mul_one] at hv385_0
                                    replace hv385_0 := Option.some.inj (hv385_0.symm.trans hx385_0)
                                    rw [hv385_0] at ge385_0
                                    have HL385_0 := Aside0.mk (show Kd.R Kd.bool 4 _ _ _ _ (rd_L7 t379 x12_3) from ge385_0)
                                    clear hv385_0 ge385_0
                                    clear hcc385 hce385
                                    have HR385_0 := Aside0.mk hi385_0
                                    have HC385_0 := Aside0.mk hl385_0
                                    clear hi385_0 hl385_0
                                    replace p385 := eq_true p385
                                    replace q385 := eq_true q385
                                    have ea_ := Option.some.inj (hx384_0.symm.trans hx385_0)
                                    injection ea_ with ea_ en_ ec_
                                    subst ea_
                                    subst ec_
                                    clear en_
                                    have p386 : 0 ≤ (t383 : Int) := of_decide_eq_true (by first | (with_reducible assumption) | assumption)
                                    have q386 : t383 < ((rd_L7 t379 x12_3).length : Int) := of_decide_eq_true (by first | (with_reducible assumption) | assumption)
                                    obtain ⟨ad386, e386, hx386_0⟩ := Kd.at_bool (by repeat (first | (with_reducible exact HR385_0.out) | (with_reducible refine Kd.C_alloc ?_ _) | (with_reducible refine Kd.C_drewN ?_ _) | (with_reducible refine Kd.C_drew ?_) | exact HR385_0.out)) t383 p386 q386
                                    cases e386
                                    replace p386 := eq_true p386
                                    replace q386 := eq_true q386
                                    have p387 : 0 ≤ (x12_3 : Int) := of_decide_eq_true (by first | (with_reducible assumption) | assumption)
                                    have q387 : x12_3 < (t370.length : Int) := of_decide_eq_true (by first | (with_reducible assumption) | assumption)
                                    obtain ⟨ad387, A387_0, c387_0, e387, hx387_0, hl387_0, hi387_0⟩ := at_L2 (Kd.R_reads' HO_5.out).2.2 x12_3 p387 q387
                                    cases e387
                                    obtain ⟨ce387, hce387, hMe387, hcc387⟩ := Kd.R_get HO_5.out [] x12_3 p387 (by first | exact q387 | exact of_decide_eq_true (by first | (with_reducible assumption) | assumption) | (have e_ := (Kd.R_reads' HO_5.out).1; omega))
                                    obtain ⟨ve387_0, rfl, ge387_0⟩ := hMe387
                                    have hv387_0 := hcc387 0 _ rfl
                                    rw [Nat.add_zero, show ((Kd.slice 44 k44)).sz = 1 from rfl, Nat.mul_one] at hv387_0
                                    replace hv387_0 := Option.some.inj (hv387_0.symm.trans hx387_0)
                                    rw [hv387_0] at ge387_0
                                    have HL387_0 := Aside0.mk (show Kd.R k44 44 _ _ _ _ (rd_L2 t370 x12_3) from ge387_0)
                                    clear hv387_0 ge387_0
                                    clear hcc387 hce387
                                    have HR387_0 := Aside0.mk hi387_0
                                    have HC387_0 := Aside0.mk hl387_0
                                    clear hi387_0 hl387_0
                                    replace p387 := eq_true p387
                                    replace q387 := eq_true q387
                                    go_wp2_with (first | (go_at_call 23; (with_reducible refine (hyphenref3_Has.calls k3 _ _ (rd_L2 t370 x12_3) x10_17 t388 _ ?side1 ?side2 A29.out).mono ?_); (case side1 => repeat (first | exact (by repeat (first | (with_reducible exact HR387_0.out) | (with_reducible refine Kd.C_alloc ?_ _) | (with_reducible refine Kd.C_drewN ?_ _) | (with_reducible refine Kd.C_drew ?_) | exact HR387_0.out)) | (with_reducible refine Kd.C_alloc ?_ _) | (with_reducible refine Kd.C_drewN ?_ _) | (with_reducible refine Kd.C_drew ?_))); (case side2 => exact HC387_0.out); rintro e w' ⟨rfl, ⟨nd, rfl⟩⟩; (try first | exact ⟨rfl, _, World.drewN_drewN _ _ _⟩ | exact ⟨rfl, _, Eq.trans (World.drewN_drewN _ _ _) (congrArg (World.drewN _) (Nat.add_assoc _ _ _))⟩)))
                                    repeat (go_quiet (first | (go_at_call 23; (with_reducible refine (hyphenref3_Has.calls k3 _ _ (rd_L2 t370 x12_3) x10_17 t388 _ ?side1 ?side2 A29.out).mono ?_); (case side1 => repeat (first | exact (by repeat (first | (with_reducible exact HR387_0.out) | (with_reducible refine Kd.C_alloc ?_ _) | (with_reducible refine Kd.C_drewN ?_ _) | (with_reducible refine Kd.C_drew ?_) | exact HR387_0.out)) | (with_reducible refine Kd.C_alloc ?_ _) | (with_reducible refine Kd.C_drewN ?_ _) | (with_reducible refine Kd.C_drew ?_))); (case side2 => exact HC387_0.out); rintro e w' ⟨rfl, ⟨nd, rfl⟩⟩; (try first | exact ⟨rfl, _, World.drewN_drewN _ _ _⟩ | exact ⟨rfl, _, Eq.trans (World.drewN_drewN _ _ _) (congrArg (World.drewN _) (Nat.add_assoc _ _ _))⟩))); try go_wp2_with (first | (go_at_call 23; (with_reducible refine (hyphenref3_Has.calls k3 _ _ (rd_L2 t370 x12_3) x10_17 t388 _ ?side1 ?side2 A29.out).mono ?_); (case side1 => repeat (first | exact (by repeat (first | (with_reducible exact HR387_0.out) | (with_reducible refine Kd.C_alloc ?_ _) | (with_reducible refine Kd.C_drewN ?_ _) | (with_reducible refine Kd.C_drew ?_) | exact HR387_0.out)) | (with_reducible refine Kd.C_alloc ?_ _) | (with_reducible refine Kd.C_drewN ?_ _) | (with_reducible refine Kd.C_drew ?_))); (case side2 => exact HC387_0.out); rintro e w' ⟨rfl, ⟨nd, rfl⟩⟩; (try first | exact ⟨rfl, _, World.drewN_drewN _ _ _⟩ | exact ⟨rfl, _, Eq.trans (World.drewN_drewN _ _ _) (congrArg (World.drewN _) (Nat.add_assoc _ _ _))⟩))))
                                    go_roundg k3
                                    case measure => have := HK1.out; have := HJ17.out; have := HK3.out; omega
                                    case rel => exact ⟨(wrap64 (x12_3 + 1)), (by first | rfl | (simp; done) | (simp [*]; done)), H', ⟨by have := HK1.out; have := HJ17.out; have := HK3.out; omega⟩, ⟨by (with_reducible repeat (first | apply Kd.R_alloc | apply Kd.R_drewN | apply Kd.R_drew)); exact HO_5.out⟩, ⟨by (with_reducible repeat (first | apply Kd.R_alloc | apply Kd.R_drewN | apply Kd.R_drew)); exact HO_6.out⟩, ⟨by (with_reducible repeat (first | apply Kd.R_alloc | apply Kd.R_drewN | apply Kd.R_drew)); exact HO_7.out⟩, ⟨by (with_reducible repeat (first | apply Kd.R_alloc | apply Kd.R_drewN | apply Kd.R_drew)); exact HO_8.out⟩, ⟨by repeat (first | (with_reducible first | exact HB.out | apply below_alloc | apply pw_below_drewN | apply below_drew1) | exact HB.out)⟩⟩
                                · rw [if_neg c28] at H
                                  exact absurd H (by simp)
                              · rw [if_neg c27] at H
                                exact absurd H (by simp)
                          · rw [if_neg c25] at H
                            exact absurd H (by simp)
                        · rw [if_neg c24] at H
                          exact absurd H (by simp)
                    · rw [if_neg c22] at H
                      have c22b0 : decide (x12_3 < (t370.length : Int)) = false := decide_eq_false c22
                      clear c22
                      have H' := Aside0.mk H
                      clear H
                      go_wp2
                      repeat (go_quiet (fail); try go_wp2)
                      go_roundg k3
                      case measure => have := HK1.out; have := HJ17.out; have := HK3.out; omega
                      case rel => exact ⟨(wrap64 (x9_1 + 1)), (by first | rfl | (simp; done) | (simp [*]; done)), H', ⟨by have := HK1.out; have := HJ17.out; have := HK3.out; omega⟩, ⟨by (with_reducible repeat (first | apply Kd.R_alloc | apply Kd.R_drewN | apply Kd.R_drew)); exact HO_5.out⟩, ⟨by (with_reducible repeat (first | apply Kd.R_alloc | apply Kd.R_drewN | apply Kd.R_drew)); exact HO_6.out⟩, ⟨by (with_reducible repeat (first | apply Kd.R_alloc | apply Kd.R_drewN | apply Kd.R_drew)); exact HO_7.out⟩, ⟨by (with_reducible repeat (first | apply Kd.R_alloc | apply Kd.R_drewN | apply Kd.R_drew)); exact HO_8.out⟩, ⟨by repeat (first | (with_reducible first | exact HB.out | apply below_alloc | apply pw_below_drewN | apply below_drew1) | exact HB.out)⟩⟩
          · rw [if_neg c17] at H
            have c17b0 : decide (x9_1 < 70) = false := decide_eq_false c17
            clear c17
            obtain rfl := Option.some.inj H
            go_wp2
            repeat (go_quiet (fail); try go_wp2)
            go_ret
            exact ⟨by first | rfl | (simp [errW_none, errW_some] <;> rfl) | (simp [*, errW_none, errW_some] <;> rfl), by repeat (first | (with_reducible first | exact HB.out | apply below_alloc | apply pw_below_drewN | apply below_drew1) | exact HB.out)⟩
    · rw [if_neg c8] at H
      exact absurd H (by simp)
  · replace c4 := Bool.eq_false_iff.mpr c4
    subst c4
    have H1 : (none) = some r := by rw [if_neg (show ¬ (false = true) by decide)] at H; exact H
    clear H
    have H := H1
    clear H1
    exact absurd H (by simp)

/-- THE ONE PURE STATEMENT of hyphenlaw4_PartSets: yours. -/
def hyphenlaw4_PartSets.Pure : Prop := ∀ (l0 : List Int) (a1 : Int), l0.length ≤ maxLen → l0.length * 8 ≤ 140737488351232 → (∀ x ∈ l0, (Lit.int .i64 x).wf = true) → (Lit.int .i64 a1).wf = true → ∃ k, hyphenlaw4_PartSets.f k l0 a1 = some true
theorem hyphenlaw4_PartSets.walk (P : hyphenlaw4_PartSets.Pure) (a0 : Option Addr) (len0 cap0 : Nat) (z0 : List Int) (a1 : Int) (w : World) (w0 : (a0 = none ∧ len0 = 0 ∧ cap0 = 0 ∧ z0 = []) ∨ ∃ x, a0 = some x ∧ len0 ≤ cap0 ∧ cap0 ≤ maxLen ∧ z0.length = cap0 ∧ (∀ i, i < z0.length → w.cell? (x.add i) = some (.int .i64 (z0.getD i 0))) ∧ ∀ n ∈ z0, (Lit.int .i64 n).wf = true) (y0 : len0 * 8 ≤ 140737488351232) (w1 : (Lit.int .i64 a1).wf = true) :
    Calls Try.prog 5 #[.slice a0 len0 cap0, .int .i64 a1] w fun e w' => e = .returned (.bool true) ∧ Below w.heap.size w w' := by
  obtain ⟨l0, rfl, hr0, hm0, hw0, hc0⟩ := ReadsInt.ofRowC w0
  obtain ⟨k, h⟩ := P l0 a1 hm0 y0 hw0 w1
  refine (hyphenlaw4_PartSets.calls k _ _ l0 a1 true w (Kd.C_of_reads (d := (0 : Int)) (h1 := fun _ => rfl) hr0) hc0 h).mono ?_
  rintro e w' ⟨rfl, hd⟩
  exact ⟨rfl, hd⟩

end Go.Proofs.Yteogcjckhoakbaa.P
