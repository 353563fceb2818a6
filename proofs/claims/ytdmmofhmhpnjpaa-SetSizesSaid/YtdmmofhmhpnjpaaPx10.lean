-- Written by wip/xprint.py (a program of this repo) out of the translation; Lean checks it.
import Derived.Test.YtdmmofhmhpnjpaaPx0
import Derived.Test.YtdmmofhmhpnjpaaPx3
import Derived.Test.YtdmmofhmhpnjpaaPx4
import Derived.Test.YtdmmofhmhpnjpaaPx5
import Derived.Test.YtdmmofhmhpnjpaaPx8
namespace Go.Proofs.Ytdmmofhmhpnjpaa.P
open Go.RowKit Go.Proofs.YtdmmofhmhpnjpaaW.PrintWords Go.Proofs.YtdmmofhmhpnjpaaW.PrintLast Go.Proofs.YtdmmofhmhpnjpaaW.PrintMore
attribute [local go_sem] max2_int min2_int max_two min_two max_three min_three max_four min_four   -- for this text's walks alone
attribute [local go_sem ↓ high] Go.Proofs.YtdmmofhmhpnjpaaX.isSome_setCell
set_option linter.unusedVariables false
set_option linter.unusedSimpArgs false

/-! ### hyphenlaw3_SetSizes: function 10 -/
mutual
def hyphenlaw3_SetSizes.l0 : Nat → Int → List (List (S27)) → Int → Option (Bool)
  | 0, _, _, _ => none
  | k + 1, x4, x5, x6 => if x6 < 2 then (hyphenlaw3_SetSizes.l1 k x4 x5 x6 0) else (some (x4 == 1114112))
def hyphenlaw3_SetSizes.l1 : Nat → Int → List (List (S27)) → Int → Int → Option (Bool)
  | 0, _, _, _, _ => none
  | k + 1, x4, x5, x6, x7 => if 0 ≤ x6 then (if x6 < (x5.length : Int) then (if x7 < ((rd_L2 x5 x6).length : Int) then (if 0 ≤ x7 then (hyphenlaw3_SetSizes.l1 k (wrap64 ((wrap64 ((wrap64 (x4 + ((rd_T27 (rd_L2 x5 x6) x7).f1))) - ((rd_T27 (rd_L2 x5 x6) x7).f0))) + 1)) x5 x6 (wrap64 (x7 + 1))) else (none)) else (hyphenlaw3_SetSizes.l0 k x4 x5 (wrap64 (x6 + 1)))) else (none)) else (none)
end
def hyphenlaw3_SetSizes.f (k : Nat) (l0 : List Int) : Option (Bool) := (hyphenlaw3_known.f k).bind fun t353 => (if t353 = true then ((hyphenlaw3_Make.f k l0).bind fun t354 => ((set_Norm.f k t354).bind fun t357 => ((set_Not.f k t354).bind fun t360 => (hyphenlaw3_SetSizes.l0 k 0 (([t357, t360] : List (List (S27)))) 0)))) else (none))
theorem hyphenlaw3_SetSizes.mono_l : ∀ k, (∀ y0 y1 y2, LeO (hyphenlaw3_SetSizes.l0 k y0 y1 y2) (hyphenlaw3_SetSizes.l0 (k + 1) y0 y1 y2)) ∧ (∀ y0 y1 y2 y3, LeO (hyphenlaw3_SetSizes.l1 k y0 y1 y2 y3) (hyphenlaw3_SetSizes.l1 (k + 1) y0 y1 y2 y3))
  | 0 => ⟨fun _ _ _ r h => by simp [hyphenlaw3_SetSizes.l0] at h, fun _ _ _ _ r h => by simp [hyphenlaw3_SetSizes.l1] at h⟩
  | k + 1 => by
    obtain ⟨ih0, ih1⟩ := hyphenlaw3_SetSizes.mono_l k
    refine ⟨?_, ?_⟩
    · intro y0 y1 y2
      unfold hyphenlaw3_SetSizes.l0
      repeat' first
      | (with_reducible exact ih0 _ _ _)
      | (with_reducible exact ih1 _ _ _ _)
      | (with_reducible exact hyphenlaw3_Make.mono _ _)
      | (with_reducible exact hyphenlaw3_known.mono _)
      | (with_reducible exact set_Norm.mono _ _)
      | (with_reducible exact set_Not.mono _ _)
      | (with_reducible exact LeO.refl _)
      | (with_reducible exact LeO.none _)
      | (with_reducible refine LeO.ite ?_ ?_)
      | (with_reducible refine LeO.bind ?_ (fun _ => ?_))
      | exact ih0 _ _ _
      | exact ih1 _ _ _ _
      | exact hyphenlaw3_Make.mono _ _
      | exact hyphenlaw3_known.mono _
      | exact set_Norm.mono _ _
      | exact set_Not.mono _ _
      | exact LeO.none _
      | refine LeO.ite ?_ ?_
      | refine LeO.bind ?_ (fun _ => ?_)
    · intro y0 y1 y2 y3
      unfold hyphenlaw3_SetSizes.l1
      repeat' first
      | (with_reducible exact ih0 _ _ _)
      | (with_reducible exact ih1 _ _ _ _)
      | (with_reducible exact hyphenlaw3_Make.mono _ _)
      | (with_reducible exact hyphenlaw3_known.mono _)
      | (with_reducible exact set_Norm.mono _ _)
      | (with_reducible exact set_Not.mono _ _)
      | (with_reducible exact LeO.refl _)
      | (with_reducible exact LeO.none _)
      | (with_reducible refine LeO.ite ?_ ?_)
      | (with_reducible refine LeO.bind ?_ (fun _ => ?_))
      | exact ih0 _ _ _
      | exact ih1 _ _ _ _
      | exact hyphenlaw3_Make.mono _ _
      | exact hyphenlaw3_known.mono _
      | exact set_Norm.mono _ _
      | exact set_Not.mono _ _
      | exact LeO.none _
      | refine LeO.ite ?_ ?_
      | refine LeO.bind ?_ (fun _ => ?_)
theorem hyphenlaw3_SetSizes.mono : ∀ a0 k, LeO (hyphenlaw3_SetSizes.f k a0) (hyphenlaw3_SetSizes.f (k + 1) a0) := by
  intro a0 k
  obtain ⟨ih0, ih1⟩ := hyphenlaw3_SetSizes.mono_l k
  unfold hyphenlaw3_SetSizes.f
  repeat' first
      | (with_reducible exact ih0 _ _ _)
      | (with_reducible exact ih1 _ _ _ _)
      | (with_reducible exact hyphenlaw3_Make.mono _ _)
      | (with_reducible exact hyphenlaw3_known.mono _)
      | (with_reducible exact set_Norm.mono _ _)
      | (with_reducible exact set_Not.mono _ _)
      | (with_reducible exact LeO.refl _)
      | (with_reducible exact LeO.none _)
      | (with_reducible refine LeO.ite ?_ ?_)
      | (with_reducible refine LeO.bind ?_ (fun _ => ?_))
      | exact ih0 _ _ _
      | exact ih1 _ _ _ _
      | exact hyphenlaw3_Make.mono _ _
      | exact hyphenlaw3_known.mono _
      | exact set_Norm.mono _ _
      | exact set_Not.mono _ _
      | exact LeO.none _
      | refine LeO.ite ?_ ?_
      | refine LeO.bind ?_ (fun _ => ?_)
set_option maxHeartbeats 8000000 in
set_option maxRecDepth 100000 in
theorem hyphenlaw3_SetSizes.calls (k : Nat) (A0 : Option Addr) (c0 : Nat) (l0 : List Int) (r : Bool) (w : World) (hr0 : Kd.C (Kd.int .i64) w A0 l0.length l0) (hc0 : l0.length ≤ c0) (h : hyphenlaw3_SetSizes.f k l0 = some r) :
    Calls Try.prog 10 #[.slice A0 l0.length c0] w fun e w' => e = .returned (.bool r) ∧ Below w.heap.size w w' := by
  have HR0 := Aside0.mk hr0
  have HC0 := Aside0.mk hc0
  clear hr0 hc0
  have HB := Aside0.mk (Below.refl w.heap.size w)
  have H : ((hyphenlaw3_known.f k).bind fun t353 => (if t353 = true then ((hyphenlaw3_Make.f k l0).bind fun t354 => ((set_Norm.f k t354).bind fun t357 => ((set_Not.f k t354).bind fun t360 => (hyphenlaw3_SetSizes.l0 k 0 (([t357, t360] : List (List (S27)))) 0)))) else (none))) = some r := h
  clear h
  replace H := Option.bind_eq_some_iff.mp H
  obtain ⟨t353, A20, H⟩ := H
  replace H : (if t353 = true then ((hyphenlaw3_Make.f k l0).bind fun t354 => ((set_Norm.f k t354).bind fun t357 => ((set_Not.f k t354).bind fun t360 => (hyphenlaw3_SetSizes.l0 k 0 (([t357, t360] : List (List (S27)))) 0)))) else (none)) = some r := H
  have A2 := Aside0.mk A20
  clear A20
  by_cases c3 : t353 = true
  · subst c3
    have H1 : ((hyphenlaw3_Make.f k l0).bind fun t354 => ((set_Norm.f k t354).bind fun t357 => ((set_Not.f k t354).bind fun t360 => (hyphenlaw3_SetSizes.l0 k 0 (([t357, t360] : List (List (S27)))) 0)))) = some r := by rw [if_pos rfl] at H; exact H
    clear H
    have H := H1
    clear H1
    replace H := Option.bind_eq_some_iff.mp H
    obtain ⟨t354, A40, H⟩ := H
    replace H : ((set_Norm.f k t354).bind fun t357 => ((set_Not.f k t354).bind fun t360 => (hyphenlaw3_SetSizes.l0 k 0 (([t357, t360] : List (List (S27)))) 0))) = some r := H
    have A4 := Aside0.mk A40
    clear A40
    replace H := Option.bind_eq_some_iff.mp H
    obtain ⟨t357, A50, H⟩ := H
    replace H : ((set_Not.f k t354).bind fun t360 => (hyphenlaw3_SetSizes.l0 k 0 (([t357, t360] : List (List (S27)))) 0)) = some r := H
    have A5 := Aside0.mk A50
    clear A50
    replace H := Option.bind_eq_some_iff.mp H
    obtain ⟨t360, A60, H⟩ := H
    replace H : (hyphenlaw3_SetSizes.l0 k 0 (([t357, t360] : List (List (S27)))) 0) = some r := H
    have A6 := Aside0.mk A60
    clear A60
    obtain ⟨y363, hy363⟩ : ∃ y_ : List (List (S27)), y_ = (([t357, t360] : List (List (S27)))) := ⟨_, rfl⟩
    replace H : (hyphenlaw3_SetSizes.l0 k 0 y363 0) = some r := by first | (rw [hy363]; with_reducible exact H) | (have H2_ := (Option.bind_some _ _).symm.trans H; rw [hy363]; with_reducible exact H2_) | (have H2_ := (Option.bind_some _ _).symm.trans H; with_reducible exact H2_) | with_reducible exact H | (rw [hy363]; exact H) | exact H
    have Ny363 := Aside0.mk hy363
    clear hy363
    have H' := Aside0.mk H
    clear H
    go_enter Try.func10, Try.ntmps10
    go_wp2_with (first | (go_at_call 12; (with_reducible refine (hyphenlaw3_known.calls k  true _ A2.out).mono ?_); rintro e w7 ⟨rfl, hb⟩; have n0_ := Aside0.mk (below_step (by repeat (first | (with_reducible first | exact HB.out | apply below_alloc | apply pw_below_drewN | apply below_drew1) | exact HB.out)) hb); clear HB; have HB := n0_; clear n0_; (try clear hb); (try clear hb2); (try clear hk); (try clear hi)) | (go_at_call 20; (with_reducible refine (hyphenlaw3_Make.calls k _ _ l0 t354 _ ?side1 ?side2 A4.out).mono ?_); (case side1 => repeat (first | exact (Kd.C_below HR0.out HB.out) | (with_reducible refine Kd.C_alloc ?_ _) | (with_reducible refine Kd.C_drewN ?_ _) | (with_reducible refine Kd.C_drew ?_))); (case side2 => exact HC0.out); rintro e w8 ⟨v355, rfl, ho0, hb⟩; have n0_ := Aside0.mk (Kd.R_lower ho0 (below_size (by repeat (first | (with_reducible first | exact HB.out | apply below_alloc | apply pw_below_drewN | apply below_drew1) | exact HB.out)))); have n1_ := Aside0.mk (below_step (by repeat (first | (with_reducible first | exact HB.out | apply below_alloc | apply pw_below_drewN | apply below_drew1) | exact HB.out)) hb); clear HB; have HO356 := n0_; have HB := n1_; clear n0_ n1_; (try clear hb); (try clear hb2); (try clear hk); (try clear hi); (try clear ho0); obtain ⟨Ao9, co9, eo9⟩ := Kd.R_slice HO356.out; subst eo9) | (go_at_call 14; (with_reducible refine (set_Norm.calls k _ _ t354 t357 _ ?side1 ?side2 A5.out).mono ?_); (case side1 => repeat (first | exact (Kd.R_reads' HO356.out).2.2 | (with_reducible refine Kd.C_alloc ?_ _) | (with_reducible refine Kd.C_drewN ?_ _) | (with_reducible refine Kd.C_drew ?_))); (case side2 => exact (Kd.R_reads' HO356.out).2.1); rintro e w10 ⟨v358, rfl, ho0, hb⟩; have n0_ := Aside0.mk (Kd.R_elder' (by (with_reducible repeat (first | apply Kd.R_alloc | apply Kd.R_drewN | apply Kd.R_drew)); exact HO356.out) (Kd.R_base ho0) hb); have n1_ := Aside0.mk (Kd.R_lower (Kd.R_new' ho0 (Kd.R_lt (by (with_reducible repeat (first | apply Kd.R_alloc | apply Kd.R_drewN | apply Kd.R_drew)); exact HO356.out))) (below_size (by repeat (first | (with_reducible first | exact HB.out | apply below_alloc | apply pw_below_drewN | apply below_drew1) | exact HB.out)))); have n2_ := Aside0.mk (below_step (by repeat (first | (with_reducible first | exact HB.out | apply below_alloc | apply pw_below_drewN | apply below_drew1) | exact HB.out)) hb); clear HO356; clear HB; have HO356 := n0_; have HO359 := n1_; have HB := n2_; clear n0_ n1_ n2_; (try clear hb); (try clear hb2); (try clear hk); (try clear hi); (try clear ho0)) | (go_at_call 23; (with_reducible refine (set_Not.calls k _ _ t354 t360 _ ?side1 ?side2 A6.out).mono ?_); (case side1 => repeat (first | exact (Kd.R_reads' HO356.out).2.2 | (with_reducible refine Kd.C_alloc ?_ _) | (with_reducible refine Kd.C_drewN ?_ _) | (with_reducible refine Kd.C_drew ?_))); (case side2 => exact (Kd.R_reads' HO356.out).2.1); rintro e w11 ⟨v361, rfl, ho0, hb⟩; have n0_ := Aside0.mk (Kd.R_elder' (by (with_reducible repeat (first | apply Kd.R_alloc | apply Kd.R_drewN | apply Kd.R_drew)); exact HO356.out) (Kd.R_base ho0) hb); have n1_ := Aside0.mk (Kd.R_elder' (by (with_reducible repeat (first | apply Kd.R_alloc | apply Kd.R_drewN | apply Kd.R_drew)); exact HO359.out) (Kd.R_base ho0) hb); have n2_ := Aside0.mk (Kd.R_lower (Kd.R_new' (Kd.R_new' ho0 (Kd.R_lt (by (with_reducible repeat (first | apply Kd.R_alloc | apply Kd.R_drewN | apply Kd.R_drew)); exact HO356.out))) (Kd.R_lt (by (with_reducible repeat (first | apply Kd.R_alloc | apply Kd.R_drewN | apply Kd.R_drew)); exact HO359.out))) (below_size (by repeat (first | (with_reducible first | exact HB.out | apply below_alloc | apply pw_below_drewN | apply below_drew1) | exact HB.out)))); have n3_ := Aside0.mk (below_step (by repeat (first | (with_reducible first | exact HB.out | apply below_alloc | apply pw_below_drewN | apply below_drew1) | exact HB.out)) hb); clear HO356; clear HO359; clear HB; have HO356 := n0_; have HO359 := n1_; have HO362 := n2_; have HB := n3_; clear n0_ n1_ n2_ n3_; (try clear hb); (try clear hb2); (try clear hk); (try clear hi); (try clear ho0); obtain ⟨Ao12, co12, eo12⟩ := Kd.R_slice HO359.out; subst eo12; obtain ⟨Ao13, co13, eo13⟩ := Kd.R_slice HO362.out; subst eo13) | ((with_reducible refine gate_dst (N := 16) rfl ?_); refine Kd.N_lit (Kd.slice 27 k27) _ 24 ?hg (N' := 16) ?hd (xs := ([t357, t360] : List (List (S27)))) (inner := [.slice Ao12 t357.length co12, .slice Ao13 t360.length co13]) (ok := (fun k_ => some k_ ≠ (.slice Ao9 t354.length co9 : Value).ownBlock)) (okp := (fun k_ => some k_ ≠ (.slice Ao9 t354.length co9 : Value).ownBlock)) ?hr ?hp (fun _ hk => hk) ((show ∀ k_, w11.heap.size ≤ k_ → (fun k_ => some k_ ≠ (.slice Ao9 t354.length co9 : Value).ownBlock) k_ from fun k_ hk => Kd.fresh' (Kd.R_lt (by (with_reducible repeat (first | apply Kd.R_alloc | apply Kd.R_drewN | apply Kd.R_drew)); exact HO356.out)) k_ hk) _ (Nat.le_refl _)) (Below.refl _ _) (Nat.le_refl _) (by simp) ?_; (case hd => rfl); (case hg => rfl); (case hr => first | (go_simp; done) | (go_simp; rfl)); (case hp => exact (Reps.one (show Kd.FK (Kd.slice 27 k27) _ _ t357 [.slice Ao12 t357.length co12] from (Kd.FK_slice_mk (Kd.R_reads' (Kd.R_mono (ok' := (fun k_ => some k_ ≠ (.slice Ao9 t354.length co9 : Value).ownBlock)) (HO359.out) (fun k_ hk => hk.1.2))).2.1 (Kd.R_F (Kd.R_mono (ok' := (fun k_ => some k_ ≠ (.slice Ao9 t354.length co9 : Value).ownBlock)) (HO359.out) (fun k_ hk => hk.1.2))))) (Reps.one (show Kd.FK (Kd.slice 27 k27) _ _ t360 [.slice Ao13 t360.length co13] from (Kd.FK_slice_mk (Kd.R_reads' (Kd.R_mono (ok' := (fun k_ => some k_ ≠ (.slice Ao9 t354.length co9 : Value).ownBlock)) (HO362.out) (fun k_ hk => hk.1.2))).2.1 (Kd.R_F (Kd.R_mono (ok' := (fun k_ => some k_ ≠ (.slice Ao9 t354.length co9 : Value).ownBlock)) (HO362.out) (fun k_ hk => hk.1.2))))) (Reps.none _ _)))); intro v364 w14 ho15 hb hg_ hnew_; clear hg_ hnew_; (first | rw [← Ny363.out] at ho15 | (simp only [Int.reduceToNat] at ho15; rw [← Ny363.out] at ho15)); have n0_ := Aside0.mk (Kd.R_below (by (with_reducible repeat (first | apply Kd.R_alloc | apply Kd.R_drewN | apply Kd.R_drew)); exact HO356.out) hb); have n1_ := Aside0.mk (Kd.N_lower ho15 (below_size (by repeat (first | (with_reducible first | exact HB.out | apply below_alloc | apply pw_below_drewN | apply below_drew1) | exact HB.out)))); have n2_ := Aside0.mk (below_step (by repeat (first | (with_reducible first | exact HB.out | apply below_alloc | apply pw_below_drewN | apply below_drew1) | exact HB.out)) hb); clear HO356; clear HB; clear HO359; clear HO362; have HO356 := n0_; have HO365 := n1_; have HB := n2_; clear n0_ n1_ n2_; clear hb ho15))
    repeat (go_quiet (first | (go_at_call 12; (with_reducible refine (hyphenlaw3_known.calls k  true _ A2.out).mono ?_); rintro e w7 ⟨rfl, hb⟩; have n0_ := Aside0.mk (below_step (by repeat (first | (with_reducible first | exact HB.out | apply below_alloc | apply pw_below_drewN | apply below_drew1) | exact HB.out)) hb); clear HB; have HB := n0_; clear n0_; (try clear hb); (try clear hb2); (try clear hk); (try clear hi)) | (go_at_call 20; (with_reducible refine (hyphenlaw3_Make.calls k _ _ l0 t354 _ ?side1 ?side2 A4.out).mono ?_); (case side1 => repeat (first | exact (Kd.C_below HR0.out HB.out) | (with_reducible refine Kd.C_alloc ?_ _) | (with_reducible refine Kd.C_drewN ?_ _) | (with_reducible refine Kd.C_drew ?_))); (case side2 => exact HC0.out); rintro e w8 ⟨v355, rfl, ho0, hb⟩; have n0_ := Aside0.mk (Kd.R_lower ho0 (below_size (by repeat (first | (with_reducible first | exact HB.out | apply below_alloc | apply pw_below_drewN | apply below_drew1) | exact HB.out)))); have n1_ := Aside0.mk (below_step (by repeat (first | (with_reducible first | exact HB.out | apply below_alloc | apply pw_below_drewN | apply below_drew1) | exact HB.out)) hb); clear HB; have HO356 := n0_; have HB := n1_; clear n0_ n1_; (try clear hb); (try clear hb2); (try clear hk); (try clear hi); (try clear ho0); obtain ⟨Ao9, co9, eo9⟩ := Kd.R_slice HO356.out; subst eo9) | (go_at_call 14; (with_reducible refine (set_Norm.calls k _ _ t354 t357 _ ?side1 ?side2 A5.out).mono ?_); (case side1 => repeat (first | exact (Kd.R_reads' HO356.out).2.2 | (with_reducible refine Kd.C_alloc ?_ _) | (with_reducible refine Kd.C_drewN ?_ _) | (with_reducible refine Kd.C_drew ?_))); (case side2 => exact (Kd.R_reads' HO356.out).2.1); rintro e w10 ⟨v358, rfl, ho0, hb⟩; have n0_ := Aside0.mk (Kd.R_elder' (by (with_reducible repeat (first | apply Kd.R_alloc | apply Kd.R_drewN | apply Kd.R_drew)); exact HO356.out) (Kd.R_base ho0) hb); have n1_ := Aside0.mk (Kd.R_lower (Kd.R_new' ho0 (Kd.R_lt (by (with_reducible repeat (first | apply Kd.R_alloc | apply Kd.R_drewN | apply Kd.R_drew)); exact HO356.out))) (below_size (by repeat (first | (with_reducible first | exact HB.out | apply below_alloc | apply pw_below_drewN | apply below_drew1) | exact HB.out)))); have n2_ := Aside0.mk (below_step (by repeat (first | (with_reducible first | exact HB.out | apply below_alloc | apply pw_below_drewN | apply below_drew1) | exact HB.out)) hb); clear HO356; clear HB; have HO356 := n0_; have HO359 := n1_; have HB := n2_; clear n0_ n1_ n2_; (try clear hb); (try clear hb2); (try clear hk); (try clear hi); (try clear ho0)) | (go_at_call 23; (with_reducible refine (set_Not.calls k _ _ t354 t360 _ ?side1 ?side2 A6.out).mono ?_); (case side1 => repeat (first | exact (Kd.R_reads' HO356.out).2.2 | (with_reducible refine Kd.C_alloc ?_ _) | (with_reducible refine Kd.C_drewN ?_ _) | (with_reducible refine Kd.C_drew ?_))); (case side2 => exact (Kd.R_reads' HO356.out).2.1); rintro e w11 ⟨v361, rfl, ho0, hb⟩; have n0_ := Aside0.mk (Kd.R_elder' (by (with_reducible repeat (first | apply Kd.R_alloc | apply Kd.R_drewN | apply Kd.R_drew)); exact HO356.out) (Kd.R_base ho0) hb); have n1_ := Aside0.mk (Kd.R_elder' (by (with_reducible repeat (first | apply Kd.R_alloc | apply Kd.R_drewN | apply Kd.R_drew)); exact HO359.out) (Kd.R_base ho0) hb); have n2_ := Aside0.mk (Kd.R_lower (Kd.R_new' (Kd.R_new' ho0 (Kd.R_lt (by (with_reducible repeat (first | apply Kd.R_alloc | apply Kd.R_drewN | apply Kd.R_drew)); exact HO356.out))) (Kd.R_lt (by (with_reducible repeat (first | apply Kd.R_alloc | apply Kd.R_drewN | apply Kd.R_drew)); exact HO359.out))) (below_size (by repeat (first | (with_reducible first | exact HB.out | apply below_alloc | apply pw_below_drewN | apply below_drew1) | exact HB.out)))); have n3_ := Aside0.mk (below_step (by repeat (first | (with_reducible first | exact HB.out | apply below_alloc | apply pw_below_drewN | apply below_drew1) | exact HB.out)) hb); clear HO356; clear HO359; clear HB; have HO356 := n0_; have HO359 := n1_; have HO362 := n2_; have HB := n3_; clear n0_ n1_ n2_ n3_; (try clear hb); (try clear hb2); (try clear hk); (try clear hi); (try clear ho0); obtain ⟨Ao12, co12, eo12⟩ := Kd.R_slice HO359.out; subst eo12; obtain ⟨Ao13, co13, eo13⟩ := Kd.R_slice HO362.out; subst eo13) | ((with_reducible refine gate_dst (N := 16) rfl ?_); refine Kd.N_lit (Kd.slice 27 k27) _ 24 ?hg (N' := 16) ?hd (xs := ([t357, t360] : List (List (S27)))) (inner := [.slice Ao12 t357.length co12, .slice Ao13 t360.length co13]) (ok := (fun k_ => some k_ ≠ (.slice Ao9 t354.length co9 : Value).ownBlock)) (okp := (fun k_ => some k_ ≠ (.slice Ao9 t354.length co9 : Value).ownBlock)) ?hr ?hp (fun _ hk => hk) ((show ∀ k_, w11.heap.size ≤ k_ → (fun k_ => some k_ ≠ (.slice Ao9 t354.length co9 : Value).ownBlock) k_ from fun k_ hk => Kd.fresh' (Kd.R_lt (by (with_reducible repeat (first | apply Kd.R_alloc | apply Kd.R_drewN | apply Kd.R_drew)); exact HO356.out)) k_ hk) _ (Nat.le_refl _)) (Below.refl _ _) (Nat.le_refl _) (by simp) ?_; (case hd => rfl); (case hg => rfl); (case hr => first | (go_simp; done) | (go_simp; rfl)); (case hp => exact (Reps.one (show Kd.FK (Kd.slice 27 k27) _ _ t357 [.slice Ao12 t357.length co12] from (Kd.FK_slice_mk (Kd.R_reads' (Kd.R_mono (ok' := (fun k_ => some k_ ≠ (.slice Ao9 t354.length co9 : Value).ownBlock)) (HO359.out) (fun k_ hk => hk.1.2))).2.1 (Kd.R_F (Kd.R_mono (ok' := (fun k_ => some k_ ≠ (.slice Ao9 t354.length co9 : Value).ownBlock)) (HO359.out) (fun k_ hk => hk.1.2))))) (Reps.one (show Kd.FK (Kd.slice 27 k27) _ _ t360 [.slice Ao13 t360.length co13] from (Kd.FK_slice_mk (Kd.R_reads' (Kd.R_mono (ok' := (fun k_ => some k_ ≠ (.slice Ao9 t354.length co9 : Value).ownBlock)) (HO362.out) (fun k_ hk => hk.1.2))).2.1 (Kd.R_F (Kd.R_mono (ok' := (fun k_ => some k_ ≠ (.slice Ao9 t354.length co9 : Value).ownBlock)) (HO362.out) (fun k_ hk => hk.1.2))))) (Reps.none _ _)))); intro v364 w14 ho15 hb hg_ hnew_; clear hg_ hnew_; (first | rw [← Ny363.out] at ho15 | (simp only [Int.reduceToNat] at ho15; rw [← Ny363.out] at ho15)); have n0_ := Aside0.mk (Kd.R_below (by (with_reducible repeat (first | apply Kd.R_alloc | apply Kd.R_drewN | apply Kd.R_drew)); exact HO356.out) hb); have n1_ := Aside0.mk (Kd.N_lower ho15 (below_size (by repeat (first | (with_reducible first | exact HB.out | apply below_alloc | apply pw_below_drewN | apply below_drew1) | exact HB.out)))); have n2_ := Aside0.mk (below_step (by repeat (first | (with_reducible first | exact HB.out | apply below_alloc | apply pw_below_drewN | apply below_drew1) | exact HB.out)) hb); clear HO356; clear HB; clear HO359; clear HO362; have HO356 := n0_; have HO365 := n1_; have HB := n2_; clear n0_ n1_ n2_; clear hb ho15)); try go_wp2_with (first | (go_at_call 12; (with_reducible refine (hyphenlaw3_known.calls k  true _ A2.out).mono ?_); rintro e w7 ⟨rfl, hb⟩; have n0_ := Aside0.mk (below_step (by repeat (first | (with_reducible first | exact HB.out | apply below_alloc | apply pw_below_drewN | apply below_drew1) | exact HB.out)) hb); clear HB; have HB := n0_; clear n0_; (try clear hb); (try clear hb2); (try clear hk); (try clear hi)) | (go_at_call 20; (with_reducible refine (hyphenlaw3_Make.calls k _ _ l0 t354 _ ?side1 ?side2 A4.out).mono ?_); (case side1 => repeat (first | exact (Kd.C_below HR0.out HB.out) | (with_reducible refine Kd.C_alloc ?_ _) | (with_reducible refine Kd.C_drewN ?_ _) | (with_reducible refine Kd.C_drew ?_))); (case side2 => exact HC0.out); rintro e w8 ⟨v355, rfl, ho0, hb⟩; have n0_ := Aside0.mk (Kd.R_lower ho0 (below_size (by repeat (first | (with_reducible first | exact HB.out | apply below_alloc | apply pw_below_drewN | apply below_drew1) | exact HB.out)))); have n1_ := Aside0.mk (below_step (by repeat (first | (with_reducible first | exact HB.out | apply below_alloc | apply pw_below_drewN | apply below_drew1) | exact HB.out)) hb); clear HB; have HO356 := n0_; have HB := n1_; clear n0_ n1_; (try clear hb); (try clear hb2); (try clear hk); (try clear hi); (try clear ho0); obtain ⟨Ao9, co9, eo9⟩ := Kd.R_slice HO356.out; subst eo9) | (go_at_call 14; (with_reducible refine (set_Norm.calls k _ _ t354 t357 _ ?side1 ?side2 A5.out).mono ?_); (case side1 => repeat (first | exact (Kd.R_reads' HO356.out).2.2 | (with_reducible refine Kd.C_alloc ?_ _) | (with_reducible refine Kd.C_drewN ?_ _) | (with_reducible refine Kd.C_drew ?_))); (case side2 => exact (Kd.R_reads' HO356.out).2.1); rintro e w10 ⟨v358, rfl, ho0, hb⟩; have n0_ := Aside0.mk (Kd.R_elder' (by (with_reducible repeat (first | apply Kd.R_alloc | apply Kd.R_drewN | apply Kd.R_drew)); exact HO356.out) (Kd.R_base ho0) hb); have n1_ := Aside0.mk (Kd.R_lower (Kd.R_new' ho0 (Kd.R_lt (by (with_reducible repeat (first | apply Kd.R_alloc | apply Kd.R_drewN | apply Kd.R_drew)); exact HO356.out))) (below_size (by repeat (first | (with_reducible first | exact HB.out | apply below_alloc | apply pw_below_drewN | apply below_drew1) | exact HB.out)))); have n2_ := Aside0.mk (below_step (by repeat (first | (with_reducible first | exact HB.out | apply below_alloc | apply pw_below_drewN | apply below_drew1) | exact HB.out)) hb); clear HO356; clear HB; have HO356 := n0_; have HO359 := n1_; have HB := n2_; clear n0_ n1_ n2_; (try clear hb); (try clear hb2); (try clear hk); (try clear hi); (try clear ho0)) | (go_at_call 23; (with_reducible refine (set_Not.calls k _ _ t354 t360 _ ?side1 ?side2 A6.out).mono ?_); (case side1 => repeat (first | exact (Kd.R_reads' HO356.out).2.2 | (with_reducible refine Kd.C_alloc ?_ _) | (with_reducible refine Kd.C_drewN ?_ _) | (with_reducible refine Kd.C_drew ?_))); (case side2 => exact (Kd.R_reads' HO356.out).2.1); rintro e w11 ⟨v361, rfl, ho0, hb⟩; have n0_ := Aside0.mk (Kd.R_elder' (by (with_reducible repeat (first | apply Kd.R_alloc | apply Kd.R_drewN | apply Kd.R_drew)); exact HO356.out) (Kd.R_base ho0) hb); have n1_ := Aside0.mk (Kd.R_elder' (by (with_reducible repeat (first | apply Kd.R_alloc | apply Kd.R_drewN | apply Kd.R_drew)); exact HO359.out) (Kd.R_base ho0) hb); have n2_ := Aside0.mk (Kd.R_lower (Kd.R_new' (Kd.R_new' ho0 (Kd.R_lt (by (with_reducible repeat (first | apply Kd.R_alloc | apply Kd.R_drewN | apply Kd.R_drew)); exact HO356.out))) (Kd.R_lt (by (with_reducible repeat (first | apply Kd.R_alloc | apply Kd.R_drewN | apply Kd.R_drew)); exact HO359.out))) (below_size (by repeat (first | (with_reducible first | exact HB.out | apply below_alloc | apply pw_below_drewN | apply below_drew1) | exact HB.out)))); have n3_ := Aside0.mk (below_step (by repeat (first | (with_reducible first | exact HB.out | apply below_alloc | apply pw_below_drewN | apply below_drew1) | exact HB.out)) hb); clear HO356; clear HO359; clear HB; have HO356 := n0_; have HO359 := n1_; have HO362 := n2_; have HB := n3_; clear n0_ n1_ n2_ n3_; (try clear hb); (try clear hb2); (try clear hk); (try clear hi); (try clear ho0); obtain ⟨Ao12, co12, eo12⟩ := Kd.R_slice HO359.out; subst eo12; obtain ⟨Ao13, co13, eo13⟩ := Kd.R_slice HO362.out; subst eo13) | ((with_reducible refine gate_dst (N := 16) rfl ?_); refine Kd.N_lit (Kd.slice 27 k27) _ 24 ?hg (N' := 16) ?hd (xs := ([t357, t360] : List (List (S27)))) (inner := [.slice Ao12 t357.length co12, .slice Ao13 t360.length co13]) (ok := (fun k_ => some k_ ≠ (.slice Ao9 t354.length co9 : Value).ownBlock)) (okp := (fun k_ => some k_ ≠ (.slice Ao9 t354.length co9 : Value).ownBlock)) ?hr ?hp (fun _ hk => hk) ((show ∀ k_, w11.heap.size ≤ k_ → (fun k_ => some k_ ≠ (.slice Ao9 t354.length co9 : Value).ownBlock) k_ from fun k_ hk => Kd.fresh' (Kd.R_lt (by (with_reducible repeat (first | apply Kd.R_alloc | apply Kd.R_drewN | apply Kd.R_drew)); exact HO356.out)) k_ hk) _ (Nat.le_refl _)) (Below.refl _ _) (Nat.le_refl _) (by simp) ?_; (case hd => rfl); (case hg => rfl); (case hr => first | (go_simp; done) | (go_simp; rfl)); (case hp => exact (Reps.one (show Kd.FK (Kd.slice 27 k27) _ _ t357 [.slice Ao12 t357.length co12] from (Kd.FK_slice_mk (Kd.R_reads' (Kd.R_mono (ok' := (fun k_ => some k_ ≠ (.slice Ao9 t354.length co9 : Value).ownBlock)) (HO359.out) (fun k_ hk => hk.1.2))).2.1 (Kd.R_F (Kd.R_mono (ok' := (fun k_ => some k_ ≠ (.slice Ao9 t354.length co9 : Value).ownBlock)) (HO359.out) (fun k_ hk => hk.1.2))))) (Reps.one (show Kd.FK (Kd.slice 27 k27) _ _ t360 [.slice Ao13 t360.length co13] from (Kd.FK_slice_mk (Kd.R_reads' (Kd.R_mono (ok' := (fun k_ => some k_ ≠ (.slice Ao9 t354.length co9 : Value).ownBlock)) (HO362.out) (fun k_ hk => hk.1.2))).2.1 (Kd.R_F (Kd.R_mono (ok' := (fun k_ => some k_ ≠ (.slice Ao9 t354.length co9 : Value).ownBlock)) (HO362.out) (fun k_ hk => hk.1.2))))) (Reps.none _ _)))); intro v364 w14 ho15 hb hg_ hnew_; clear hg_ hnew_; (first | rw [← Ny363.out] at ho15 | (simp only [Int.reduceToNat] at ho15; rw [← Ny363.out] at ho15)); have n0_ := Aside0.mk (Kd.R_below (by (with_reducible repeat (first | apply Kd.R_alloc | apply Kd.R_drewN | apply Kd.R_drew)); exact HO356.out) hb); have n1_ := Aside0.mk (Kd.N_lower ho15 (below_size (by repeat (first | (with_reducible first | exact HB.out | apply below_alloc | apply pw_below_drewN | apply below_drew1) | exact HB.out)))); have n2_ := Aside0.mk (below_step (by repeat (first | (with_reducible first | exact HB.out | apply below_alloc | apply pw_below_drewN | apply below_drew1) | exact HB.out)) hb); clear HO356; clear HB; clear HO359; clear HO362; have HO356 := n0_; have HO365 := n1_; have HB := n2_; clear n0_ n1_ n2_; clear hb ho15)))
    go_loopg [4, 6] k (fun kq v4 v6 w' => ∃ (x4_1 : Int) (x6_1 : Int), v4 = .int .i64 x4_1 ∧ v6 = .int .i64 x6_1 ∧ Aside0 (hyphenlaw3_SetSizes.l0 kq x4_1 y363 x6_1 = some r) ∧ Aside0 (kq ≤ k) ∧ Aside0 (Kd.N (Kd.slice 27 k27) 24 w' w.heap.size (fun _ => True) v364 y363) ∧ Aside0 (Below w.heap.size w w'))
    case atStart => exact ⟨(0), (0), (by first | rfl | (simp; done) | (simp [*]; done)), (by first | rfl | (simp; done) | (simp [*]; done)), H', ⟨Nat.le_refl _⟩, ⟨by (with_reducible repeat (first | apply Kd.N_alloc | apply Kd.N_drewN | apply Kd.N_drew)); exact Kd.N_mono HO365.out (fun _ hk => trivial)⟩, ⟨by repeat (first | (with_reducible first | exact HB.out | apply below_alloc | apply pw_below_drewN | apply below_drew1) | exact HB.out)⟩⟩
    case round =>
      clear H'
      try clear c1
      try clear p2
      try clear c3
      try clear c10
      obtain ⟨x4_1, x6_1, rfl, rfl, HA, HK1, HO_5, HB⟩ := hrel
      cases gk with
      | zero => exact absurd HA.out (by simp [hyphenlaw3_SetSizes.l0])
      | succ k1 =>
        have H := HA.out
        clear HA
        simp only [hyphenlaw3_SetSizes.l0] at H
        by_cases c16 : x6_1 < 2
        · rw [if_pos c16] at H
          have c16b0 : decide (x6_1 < 2) = true := decide_eq_true c16
          clear c16
          have H' := Aside0.mk H
          clear H
          go_wp2
          repeat (go_quiet (fail); try go_wp2)
          go_loopg [4, 7] k1 (fun kq v4 v7 w' => ∃ (x4_2 : Int) (x7_2 : Int), v4 = .int .i64 x4_2 ∧ v7 = .int .i64 x7_2 ∧ Aside0 (hyphenlaw3_SetSizes.l1 kq x4_2 y363 x6_1 x7_2 = some r) ∧ Aside0 (kq ≤ k1) ∧ Aside0 (Kd.N (Kd.slice 27 k27) 24 w' w.heap.size (fun _ => True) v364 y363) ∧ Aside0 (Below w.heap.size w w'))
          case atStart => exact ⟨(x4_1), (0), (by first | rfl | (simp; done) | (simp [*]; done)), (by first | rfl | (simp; done) | (simp [*]; done)), H', ⟨Nat.le_refl _⟩, ⟨by (with_reducible repeat (first | apply Kd.N_alloc | apply Kd.N_drewN | apply Kd.N_drew)); exact HO_5.out⟩, ⟨by repeat (first | (with_reducible first | exact HB.out | apply below_alloc | apply pw_below_drewN | apply below_drew1) | exact HB.out)⟩⟩
          case round =>
            clear H'
            try clear c1
            try clear p2
            try clear c3
            try clear c10
            try clear c16
            try clear c16b0
            try clear p2
            obtain ⟨x4_2, x7_2, rfl, rfl, HA, HK2, HO_5, HB⟩ := hrel
            cases gk with
            | zero => exact absurd HA.out (by simp [hyphenlaw3_SetSizes.l1])
            | succ k2 =>
              have H := HA.out
              clear HA
              simp only [hyphenlaw3_SetSizes.l1] at H
              by_cases c17 : 0 ≤ x6_1
              · rw [if_pos c17] at H
                have c17b0 : decide (0 ≤ x6_1) = true := decide_eq_true c17
                clear c17
                by_cases c18 : x6_1 < (y363.length : Int)
                · rw [if_pos c18] at H
                  have c18b0 : decide (x6_1 < (y363.length : Int)) = true := decide_eq_true c18
                  clear c18
                  by_cases c19 : x7_2 < ((rd_L2 y363 x6_1).length : Int)
                  · rw [if_pos c19] at H
                    have c19b0 : decide (x7_2 < ((rd_L2 y363 x6_1).length : Int)) = true := decide_eq_true c19
                    clear c19
                    by_cases c20 : 0 ≤ x7_2
                    · rw [if_pos c20] at H
                      have c20b0 : decide (0 ≤ x7_2) = true := decide_eq_true c20
                      clear c20
                      have H' := Aside0.mk H
                      clear H
                      obtain ⟨Ao21, co21, eo21⟩ := Kd.N_slice HO_5.out
                      subst eo21
                      have p366 : 0 ≤ (x6_1 : Int) := of_decide_eq_true (by first | (with_reducible assumption) | assumption)
                      have q366 : x6_1 < (y363.length : Int) := of_decide_eq_true (by first | (with_reducible assumption) | assumption)
                      obtain ⟨ad366, A366_0, c366_0, e366, hx366_0, hl366_0, hi366_0⟩ := at_L2 (Kd.N_reads' HO_5.out).2.2 x6_1 p366 q366
                      cases e366
                      obtain ⟨ce366, hce366, hMe366, hcc366⟩ := Kd.N_get HO_5.out [] x6_1 p366 (by first | exact q366 | exact of_decide_eq_true (by first | (with_reducible assumption) | assumption) | (have e_ := (Kd.N_reads' HO_5.out).1; omega))
                      obtain ⟨ua366_0, uc366_0, rfl, ul366_0, ge366_0⟩ := Kd.FK_slice_open hMe366
                      have hv366_0 := hcc366 0 _ rfl
                      rw [Nat.add_zero, show ((Kd.slice 27 k27)).sz = 1 from rfl, Nat.mul_one] at hv366_0
                      replace hv366_0 := Option.some.inj (hv366_0.symm.trans hx366_0)
                      injection hv366_0 with hva_ hvn_ hvc_
                      rw [hva_] at ge366_0
                      rw [hvc_] at ul366_0
                      have HL366_0 := Aside0.mk (show Kd.V k27 27 _ w.heap.size _ _ (rd_L2 y363 x6_1) from Kd.V_mk ul366_0 ge366_0)
                      clear hva_ hvn_ hvc_ ge366_0 ul366_0
                      clear hcc366 hce366
                      have HR366_0 := Aside0.mk hi366_0
                      have HC366_0 := Aside0.mk hl366_0
                      clear hi366_0 hl366_0
                      replace p366 := eq_true p366
                      replace q366 := eq_true q366
                      have p367 : 0 ≤ (x6_1 : Int) := of_decide_eq_true (by first | (with_reducible assumption) | assumption)
                      have q367 : x6_1 < (y363.length : Int) := of_decide_eq_true (by first | (with_reducible assumption) | assumption)
                      obtain ⟨ad367, A367_0, c367_0, e367, hx367_0, hl367_0, hi367_0⟩ := at_L2 (Kd.N_reads' HO_5.out).2.2 x6_1 p367 q367
                      obtain rfl : ad366 = ad367 := (by injection e367)
                      obtain ⟨ce367, hce367, hMe367, hcc367⟩ := Kd.N_get HO_5.out [] x6_1 p367 (by first | exact q367 | exact of_decide_eq_true (by first | (with_reducible assumption) | assumption) | (have e_ := (Kd.N_reads' HO_5.out).1; omega))
                      obtain ⟨ua367_0, uc367_0, rfl, ul367_0, ge367_0⟩ := Kd.FK_slice_open hMe367
                      have hv367_0 := hcc367 0 _ rfl
                      rw [Nat.add_zero, show ((Kd.slice 27 k27)).sz = 1 from rfl, Nat.mul_one] at hv367_0
                      replace hv367_0 := Option.some.inj (hv367_0.symm.trans hx367_0)
                      injection hv367_0 with hva_ hvn_ hvc_
                      rw [hva_] at ge367_0
                      rw [hvc_] at ul367_0
                      have HL367_0 := Aside0.mk (show Kd.V k27 27 _ w.heap.size _ _ (rd_L2 y363 x6_1) from Kd.V_mk ul367_0 ge367_0)
                      clear hva_ hvn_ hvc_ ge367_0 ul367_0
                      clear hcc367 hce367
                      have HR367_0 := Aside0.mk hi367_0
                      have HC367_0 := Aside0.mk hl367_0
                      clear hi367_0 hl367_0
                      replace p367 := eq_true p367
                      replace q367 := eq_true q367
                      have ea_ := Option.some.inj (hx366_0.symm.trans hx367_0)
                      injection ea_ with ea_ en_ ec_
                      subst ea_
                      subst ec_
                      clear en_
                      have p368 : 0 ≤ (x7_2 : Int) := of_decide_eq_true (by first | (with_reducible assumption) | assumption)
                      have q368 : x7_2 < ((rd_L2 y363 x6_1).length : Int) := of_decide_eq_true (by first | (with_reducible assumption) | assumption)
                      obtain ⟨ad368, e368, hx368_0, hx368_1⟩ := at_T27 (by repeat (first | (with_reducible exact HR367_0.out) | (with_reducible refine Kd.C_alloc ?_ _) | (with_reducible refine Kd.C_drewN ?_ _) | (with_reducible refine Kd.C_drew ?_) | exact HR367_0.out)) x7_2 p368 q368
                      cases e368
                      replace p368 := eq_true p368
                      replace q368 := eq_true q368
                      have p369 : 0 ≤ (x6_1 : Int) := of_decide_eq_true (by first | (with_reducible assumption) | assumption)
                      have q369 : x6_1 < (y363.length : Int) := of_decide_eq_true (by first | (with_reducible assumption) | assumption)
                      obtain ⟨ad369, A369_0, c369_0, e369, hx369_0, hl369_0, hi369_0⟩ := at_L2 (Kd.N_reads' HO_5.out).2.2 x6_1 p369 q369
                      obtain rfl : ad366 = ad369 := (by injection e369)
                      obtain ⟨ce369, hce369, hMe369, hcc369⟩ := Kd.N_get HO_5.out [] x6_1 p369 (by first | exact q369 | exact of_decide_eq_true (by first | (with_reducible assumption) | assumption) | (have e_ := (Kd.N_reads' HO_5.out).1; omega))
                      obtain ⟨ua369_0, uc369_0, rfl, ul369_0, ge369_0⟩ := Kd.FK_slice_open hMe369
                      have hv369_0 := hcc369 0 _ rfl
                      rw [Nat.add_zero, show ((Kd.slice 27 k27)).sz = 1 from rfl, Nat.mul_one] at hv369_0
                      replace hv369_0 := Option.some.inj (hv369_0.symm.trans hx369_0)
                      injection hv369_0 with hva_ hvn_ hvc_
                      rw [hva_] at ge369_0
                      rw [hvc_] at ul369_0
                      have HL369_0 := Aside0.mk (show Kd.V k27 27 _ w.heap.size _ _ (rd_L2 y363 x6_1) from Kd.V_mk ul369_0 ge369_0)
                      clear hva_ hvn_ hvc_ ge369_0 ul369_0
                      clear hcc369 hce369
                      have HR369_0 := Aside0.mk hi369_0
                      have HC369_0 := Aside0.mk hl369_0
                      clear hi369_0 hl369_0
                      replace p369 := eq_true p369
                      replace q369 := eq_true q369
                      have ea_ := Option.some.inj (hx366_0.symm.trans hx369_0)
                      injection ea_ with ea_ en_ ec_
                      subst ea_
                      subst ec_
                      clear en_
                      have p370 : 0 ≤ (x7_2 : Int) := of_decide_eq_true (by first | (with_reducible assumption) | assumption)
                      have q370 : x7_2 < ((rd_L2 y363 x6_1).length : Int) := of_decide_eq_true (by first | (with_reducible assumption) | assumption)
                      obtain ⟨ad370, e370, hx370_0, hx370_1⟩ := at_T27 (by repeat (first | (with_reducible exact HR369_0.out) | (with_reducible refine Kd.C_alloc ?_ _) | (with_reducible refine Kd.C_drewN ?_ _) | (with_reducible refine Kd.C_drew ?_) | exact HR369_0.out)) x7_2 p370 q370
                      cases e370
                      replace p370 := eq_true p370
                      replace q370 := eq_true q370
                      go_wp2
                      repeat (go_quiet (fail); try go_wp2)
                      go_roundg k2
                      case measure => have := HK1.out; have := HK2.out; omega
                      case rel => exact ⟨(wrap64 ((wrap64 ((wrap64 (x4_2 + ((rd_T27 (rd_L2 y363 x6_1) x7_2).f1))) - ((rd_T27 (rd_L2 y363 x6_1) x7_2).f0))) + 1)), (wrap64 (x7_2 + 1)), (by first | rfl | (simp; done) | (simp [*]; done)), (by first | rfl | (simp; done) | (simp [*]; done)), H', ⟨by have := HK1.out; have := HK2.out; omega⟩, ⟨by (with_reducible repeat (first | apply Kd.N_alloc | apply Kd.N_drewN | apply Kd.N_drew)); exact HO_5.out⟩, ⟨by repeat (first | (with_reducible first | exact HB.out | apply below_alloc | apply pw_below_drewN | apply below_drew1) | exact HB.out)⟩⟩
                    · rw [if_neg c20] at H
                      exact absurd H (by simp)
                  · rw [if_neg c19] at H
                    have c19b0 : decide (x7_2 < ((rd_L2 y363 x6_1).length : Int)) = false := decide_eq_false c19
                    clear c19
                    have H' := Aside0.mk H
                    clear H
                    obtain ⟨Ao22, co22, eo22⟩ := Kd.N_slice HO_5.out
                    subst eo22
                    have p366 : 0 ≤ (x6_1 : Int) := of_decide_eq_true (by first | (with_reducible assumption) | assumption)
                    have q366 : x6_1 < (y363.length : Int) := of_decide_eq_true (by first | (with_reducible assumption) | assumption)
                    obtain ⟨ad366, A366_0, c366_0, e366, hx366_0, hl366_0, hi366_0⟩ := at_L2 (Kd.N_reads' HO_5.out).2.2 x6_1 p366 q366
                    cases e366
                    obtain ⟨ce366, hce366, hMe366, hcc366⟩ := Kd.N_get HO_5.out [] x6_1 p366 (by first | exact q366 | exact of_decide_eq_true (by first | (with_reducible assumption) | assumption) | (have e_ := (Kd.N_reads' HO_5.out).1; omega))
                    obtain ⟨ua366_0, uc366_0, rfl, ul366_0, ge366_0⟩ := Kd.FK_slice_open hMe366
                    have hv366_0 := hcc366 0 _ rfl
                    rw [Nat.add_zero, show ((Kd.slice 27 k27)).sz = 1 from rfl, Nat.mul_one] at hv366_0
                    replace hv366_0 := Option.some.inj (hv366_0.symm.trans hx366_0)
                    injection hv366_0 with hva_ hvn_ hvc_
                    rw [hva_] at ge366_0
                    rw [hvc_] at ul366_0
                    have HL366_0 := Aside0.mk (show Kd.V k27 27 _ w.heap.size _ _ (rd_L2 y363 x6_1) from Kd.V_mk ul366_0 ge366_0)
                    clear hva_ hvn_ hvc_ ge366_0 ul366_0
                    clear hcc366 hce366
                    have HR366_0 := Aside0.mk hi366_0
                    have HC366_0 := Aside0.mk hl366_0
                    clear hi366_0 hl366_0
                    replace p366 := eq_true p366
                    replace q366 := eq_true q366
                    go_wp2
                    repeat (go_quiet (fail); try go_wp2)
                    go_roundg k2
                    case measure => have := HK1.out; have := HK2.out; omega
                    case rel => exact ⟨(x4_2), (wrap64 (x6_1 + 1)), (by first | rfl | (simp; done) | (simp [*]; done)), (by first | rfl | (simp; done) | (simp [*]; done)), H', ⟨by have := HK1.out; have := HK2.out; omega⟩, ⟨by (with_reducible repeat (first | apply Kd.N_alloc | apply Kd.N_drewN | apply Kd.N_drew)); exact HO_5.out⟩, ⟨by repeat (first | (with_reducible first | exact HB.out | apply below_alloc | apply pw_below_drewN | apply below_drew1) | exact HB.out)⟩⟩
                · rw [if_neg c18] at H
                  exact absurd H (by simp)
              · rw [if_neg c17] at H
                exact absurd H (by simp)
        · rw [if_neg c16] at H
          have c16b0 : decide (x6_1 < 2) = false := decide_eq_false c16
          clear c16
          obtain rfl := Option.some.inj H
          go_wp2
          repeat (go_quiet (fail); try go_wp2)
          go_ret
          exact ⟨by first | rfl | (simp [errW_none, errW_some] <;> rfl) | (simp [*, errW_none, errW_some] <;> rfl), by repeat (first | (with_reducible first | exact HB.out | apply below_alloc | apply pw_below_drewN | apply below_drew1) | exact HB.out)⟩
  · replace c3 := Bool.eq_false_iff.mpr c3
    subst c3
    have H1 : (none) = some r := by rw [if_neg (show ¬ (false = true) by decide)] at H; exact H
    clear H
    have H := H1
    clear H1
    exact absurd H (by simp)

/-- THE ONE PURE STATEMENT of hyphenlaw3_SetSizes: yours. -/
def hyphenlaw3_SetSizes.Pure : Prop := ∀ (l0 : List Int), l0.length ≤ maxLen → l0.length * 8 ≤ 140737488351232 → (∀ x ∈ l0, (Lit.int .i64 x).wf = true) → ∃ k, hyphenlaw3_SetSizes.f k l0 = some true
theorem hyphenlaw3_SetSizes.walk (P : hyphenlaw3_SetSizes.Pure) (a0 : Option Addr) (len0 cap0 : Nat) (z0 : List Int) (w : World) (w0 : (a0 = none ∧ len0 = 0 ∧ cap0 = 0 ∧ z0 = []) ∨ ∃ x, a0 = some x ∧ len0 ≤ cap0 ∧ cap0 ≤ maxLen ∧ z0.length = cap0 ∧ (∀ i, i < z0.length → w.cell? (x.add i) = some (.int .i64 (z0.getD i 0))) ∧ ∀ n ∈ z0, (Lit.int .i64 n).wf = true) (y0 : len0 * 8 ≤ 140737488351232) :
    Calls Try.prog 10 #[.slice a0 len0 cap0] w fun e w' => e = .returned (.bool true) ∧ Below w.heap.size w w' := by
  obtain ⟨l0, rfl, hr0, hm0, hw0, hc0⟩ := ReadsInt.ofRowC w0
  obtain ⟨k, h⟩ := P l0 hm0 y0 hw0
  refine (hyphenlaw3_SetSizes.calls k _ _ l0 true w (Kd.C_of_reads (d := (0 : Int)) (h1 := fun _ => rfl) hr0) hc0 h).mono ?_
  rintro e w' ⟨rfl, hd⟩
  exact ⟨rfl, hd⟩

end Go.Proofs.Ytdmmofhmhpnjpaa.P
