-- Written by wip/xprint.py (a program of this repo) out of the translation; Lean checks it.
import Derived.Test.YteogcjckhoakbaaPx0
import Derived.Test.YteogcjckhoakbaaPx13
namespace Go.Proofs.Yteogcjckhoakbaa.P
open Go.RowKit Go.Proofs.YteogcjckhoakbaaW.PrintWords Go.Proofs.YteogcjckhoakbaaW.PrintLast Go.Proofs.YteogcjckhoakbaaW.PrintMore
attribute [local go_sem] max2_int min2_int max_two min_two max_three min_three max_four min_four   -- for this text's walks alone
attribute [local go_sem ↓ high] Go.Proofs.YteogcjckhoakbaaX.isSome_setCell
set_option linter.unusedVariables false
set_option linter.unusedSimpArgs false

/-! ### hyphenref4_Cuts: function 14 -/
mutual
def hyphenref4_Cuts.l0 : Nat → List (List (S44)) → List Int → List Int → List Int → List Int → Int → Int → Option (List Int × List Int)
 | 0, _, _, _, _, _, _, _ => none
 | k + 1, x0, x4, x5, x6, x7, x8, x9 => if x9 < (x7.length : Int) then (if 0 ≤ x9 then ((hyphenref4_key.f k x0 (rd x7 x9)).bind fun t497 => (if t497 = x8 then (hyphenref4_Cuts.l0 k x0 x4 x5 x6 x7 x8 (wrap64 (x9 + 1))) else (hyphenref4_Cuts.l1 k x0 x4 x5 x6 x7 t497 x9 t497 0))) else (none)) else (some (x4, x5))
def hyphenref4_Cuts.l1 : Nat → List (List (S44)) → List Int → List Int → List Int → List Int → Int → Int → Int → Int → Option (List Int × List Int)
 | 0, _, _, _, _, _, _, _, _, _ => none
 | k + 1, x0, x4, x5, x6, x7, x8, x9, x10, x11 => if x11 < (x6.length : Int) then (if 0 ≤ x11 then (if (rd x6 x11) = x10 then (if x11 = (x6.length : Int) then (if x6.length < 17592186044416 then (if 0 ≤ x9 then (if x9 < (x7.length : Int) then (if x4.length < 17592186044416 then (if x5.length < 17592186044416 then (hyphenref4_Cuts.l0 k x0 (x4 ++ [rd x7 x9]) (x5 ++ [x11]) (x6 ++ [x10]) x7 x8 (wrap64 (x9 + 1))) else (none)) else (none)) else (none)) else (none)) else (none)) else (if 0 ≤ x9 then (if x9 < (x7.length : Int) then (if x4.length < 17592186044416 then (if x5.length < 17592186044416 then (hyphenref4_Cuts.l0 k x0 (x4 ++ [rd x7 x9]) (x5 ++ [x11]) x6 x7 x8 (wrap64 (x9 + 1))) else (none)) else (none)) else (none)) else (none))) else (hyphenref4_Cuts.l1 k x0 x4 x5 x6 x7 x8 x9 x10 (wrap64 (x11 + 1)))) else (none)) else (if x11 = (x6.length : Int) then (if x6.length < 17592186044416 then (if 0 ≤ x9 then (if x9 < (x7.length : Int) then (if x4.length < 17592186044416 then (if x5.length < 17592186044416 then (hyphenref4_Cuts.l0 k x0 (x4 ++ [rd x7 x9]) (x5 ++ [x11]) (x6 ++ [x10]) x7 x8 (wrap64 (x9 + 1))) else (none)) else (none)) else (none)) else (none)) else (none)) else (if 0 ≤ x9 then (if x9 < (x7.length : Int) then (if x4.length < 17592186044416 then (if x5.length < 17592186044416 then (hyphenref4_Cuts.l0 k x0 (x4 ++ [rd x7 x9]) (x5 ++ [x11]) x6 x7 x8 (wrap64 (x9 + 1))) else (none)) else (none)) else (none)) else (none)))
end
def hyphenref4_Cuts.f (k : Nat) (l0 : List (List (S44))) : Option (List Int × List Int) := (hyphenref4_points.f l0).bind fun t493 => (hyphenref4_Cuts.l0 k l0 ([] : List Int) ([] : List Int) ([] : List Int) t493 (-1) 0)
theorem hyphenref4_Cuts.mono_l : ∀ k, (∀ y0 y1 y2 y3 y4 y5 y6, LeO (hyphenref4_Cuts.l0 k y0 y1 y2 y3 y4 y5 y6) (hyphenref4_Cuts.l0 (k + 1) y0 y1 y2 y3 y4 y5 y6)) ∧ (∀ y0 y1 y2 y3 y4 y5 y6 y7 y8, LeO (hyphenref4_Cuts.l1 k y0 y1 y2 y3 y4 y5 y6 y7 y8) (hyphenref4_Cuts.l1 (k + 1) y0 y1 y2 y3 y4 y5 y6 y7 y8))
 | 0 => ⟨fun _ _ _ _ _ _ _ r h => by simp [hyphenref4_Cuts.l0] at h, fun _ _ _ _ _ _ _ _ _ r h => by simp [hyphenref4_Cuts.l1] at h⟩
 | k + 1 => by
  obtain ⟨ih0, ih1⟩ := hyphenref4_Cuts.mono_l k
  refine ⟨?_, ?_⟩
  ·intro y0 y1 y2 y3 y4 y5 y6
   unfold hyphenref4_Cuts.l0
   repeat' first
   | (with_reducible exact ih0 _ _ _ _ _ _ _)
   | (with_reducible exact ih1 _ _ _ _ _ _ _ _ _)
   | (with_reducible exact hyphenref4_key.mono _ _ _)
   | (with_reducible exact LeO.refl _)
   | (with_reducible exact LeO.none _)
   | (with_reducible refine LeO.ite ?_ ?_)
   | (with_reducible refine LeO.bind ?_ (fun _ => ?_))
   | exact ih0 _ _ _ _ _ _ _
   | exact ih1 _ _ _ _ _ _ _ _ _
   | exact hyphenref4_key.mono _ _ _
   | exact LeO.none _
   | refine LeO.ite ?_ ?_
   | refine LeO.bind ?_ (fun _ => ?_)
  ·intro y0 y1 y2 y3 y4 y5 y6 y7 y8
   unfold hyphenref4_Cuts.l1
   repeat' first
   | (with_reducible exact ih0 _ _ _ _ _ _ _)
   | (with_reducible exact ih1 _ _ _ _ _ _ _ _ _)
   | (with_reducible exact hyphenref4_key.mono _ _ _)
   | (with_reducible exact LeO.refl _)
   | (with_reducible exact LeO.none _)
   | (with_reducible refine LeO.ite ?_ ?_)
   | (with_reducible refine LeO.bind ?_ (fun _ => ?_))
   | exact ih0 _ _ _ _ _ _ _
   | exact ih1 _ _ _ _ _ _ _ _ _
   | exact hyphenref4_key.mono _ _ _
   | exact LeO.none _
   | refine LeO.ite ?_ ?_
   | refine LeO.bind ?_ (fun _ => ?_)
theorem hyphenref4_Cuts.mono : ∀ a0 k, LeO (hyphenref4_Cuts.f k a0) (hyphenref4_Cuts.f (k + 1) a0) := by
 intro a0 k
 obtain ⟨ih0, ih1⟩ := hyphenref4_Cuts.mono_l k
 unfold hyphenref4_Cuts.f
 repeat' first
   | (with_reducible exact ih0 _ _ _ _ _ _ _)
   | (with_reducible exact ih1 _ _ _ _ _ _ _ _ _)
   | (with_reducible exact hyphenref4_key.mono _ _ _)
   | (with_reducible exact LeO.refl _)
   | (with_reducible exact LeO.none _)
   | (with_reducible refine LeO.ite ?_ ?_)
   | (with_reducible refine LeO.bind ?_ (fun _ => ?_))
   | exact ih0 _ _ _ _ _ _ _
   | exact ih1 _ _ _ _ _ _ _ _ _
   | exact hyphenref4_key.mono _ _ _
   | exact LeO.none _
   | refine LeO.ite ?_ ?_
   | refine LeO.bind ?_ (fun _ => ?_)
set_option maxHeartbeats 8000000 in
set_option maxRecDepth 100000 in
theorem hyphenref4_Cuts.calls (k : Nat) (A0 : Option Addr) (c0 : Nat) (l0 : List (List (S44))) (r1 : List Int) (r2 : List Int) (w : World) (hr0 : Kd.C (Kd.slice 44 k44) w A0 l0.length l0) (hc0 : l0.length ≤ c0) (h : hyphenref4_Cuts.f k l0 = some (r1, r2)) :
  Calls Try.prog 14 #[.slice A0 l0.length c0] w fun e w' => ∃ v0_ v1_ : Value, e = .returned (.tuple #[v0_, v1_]) ∧ Kd.R (Kd.int .i64) 3 w' w.heap.size (fun k_ => some k_ ≠ (v1_ : Value).ownBlock) v0_ r1 ∧ Kd.R (Kd.int .i64) 3 w' w.heap.size (fun k_ => some k_ ≠ (v0_ : Value).ownBlock) v1_ r2 ∧ Below w.heap.size w w' := by
 have HR0 := Aside0.mk hr0
 have HC0 := Aside0.mk hc0
 clear hr0 hc0
 have HB := Aside0.mk (Below.refl w.heap.size w)
 have H : ((hyphenref4_points.f l0).bind fun t493 => (hyphenref4_Cuts.l0 k l0 ([] : List Int) ([] : List Int) ([] : List Int) t493 (-1) 0)) = some (r1, r2) := h
 clear h
 replace H := Option.bind_eq_some_iff.mp H
 obtain ⟨t493, A20, H⟩ := H
 replace H : (hyphenref4_Cuts.l0 k l0 ([] : List Int) ([] : List Int) ([] : List Int) t493 (-1) 0) = some (r1, r2) := H
 have A2 := Aside0.mk A20
 clear A20
 have H' := Aside0.mk H
 clear H
 go_enter Try.func14, Try.ntmps14
 go_wp2_with (first | ((with_reducible refine gate_callee (f := 29) rfl ?_); refine goesL_ (some 13) rfl rfl Try.func29 (by kernel_rfl) rfl #[.slice A0 l0.length c0] rfl (by (try simp only [List.map_toArray, List.map_cons, List.map_nil]); first | done | rfl | (simp only [List.length_drop, List.length_take]; rfl)) ?_; (with_reducible refine (hyphenref4_points.calls _ _ l0 t493 _ ?side1 ?side2 A2.out).mono ?_); (case side1 => repeat (first | exact HR0.out | (with_reducible refine Kd.C_alloc ?_ _) | (with_reducible refine Kd.C_drewN ?_ _) | (with_reducible refine Kd.C_drew ?_))); (case side2 => exact HC0.out); rintro e w3 ⟨v494, rfl, ho0, hb⟩; refine ⟨_, rfl, ?_⟩; have n0_ := Aside0.mk (Kd.R_lower ho0 (below_size (by repeat (first | (with_reducible first | exact HB.out | apply below_alloc | apply pw_below_drewN | apply below_drew1) | exact HB.out)))); have n1_ := Aside0.mk (below_step (by repeat (first | (with_reducible first | exact HB.out | apply below_alloc | apply pw_below_drewN | apply below_drew1) | exact HB.out)) hb); clear HB; have HO495 := n0_; have HB := n1_; clear n0_ n1_; (try clear hb); (try clear hb2); (try clear hk); (try clear hi); (try clear ho0)))
 go_loopg [4, 5, 6, 8, 9] k (fun kq v4 v5 v6 v8 v9 w' => ∃ (x4_1 : List Int) (x5_1 : List Int) (x6_1 : List Int) (x8_1 : Int) (x9_1 : Int), v8 = .int .i64 x8_1 ∧ v9 = .int .i64 x9_1 ∧ Aside0 (hyphenref4_Cuts.l0 kq l0 x4_1 x5_1 x6_1 t493 x8_1 x9_1 = some (r1, r2)) ∧ Aside0 (kq ≤ k) ∧ Aside0 (Kd.R (Kd.int .i64) 3 w' w.heap.size (fun k_ => some k_ ≠ (v5 : Value).ownBlock ∧ some k_ ≠ (v6 : Value).ownBlock ∧ some k_ ≠ (v494 : Value).ownBlock) v4 x4_1) ∧ Aside0 (Kd.R (Kd.int .i64) 3 w' w.heap.size (fun k_ => some k_ ≠ (v4 : Value).ownBlock ∧ some k_ ≠ (v6 : Value).ownBlock ∧ some k_ ≠ (v494 : Value).ownBlock) v5 x5_1) ∧ Aside0 (Kd.R (Kd.int .i64) 3 w' w.heap.size (fun k_ => some k_ ≠ (v4 : Value).ownBlock ∧ some k_ ≠ (v5 : Value).ownBlock ∧ some k_ ≠ (v494 : Value).ownBlock) v6 x6_1) ∧ Aside0 (Kd.R (Kd.int .i64) 3 w' w.heap.size (fun k_ => some k_ ≠ (v4 : Value).ownBlock ∧ some k_ ≠ (v5 : Value).ownBlock ∧ some k_ ≠ (v6 : Value).ownBlock) v494 t493) ∧ Aside0 (Below w.heap.size w w'))
 case atStart => exact ⟨(([] : List Int)), (([] : List Int)), (([] : List Int)), ((-1)), (0), (by first | rfl | (simp; done) | (simp [*]; done)), (by first | rfl | (simp; done) | (simp [*]; done)), H', ⟨Nat.le_refl _⟩, ⟨by first | exact Kd.R_nil _ _ _ _ _ | exact Kd.N_nil _ _ _ _ _ | exact Kd.V_nil _ _ _ _ _ | exact Kd.Q_nil _ _ _ _ _ | exact Kd.S_nil _ _ _ _ _⟩, ⟨by first | exact Kd.R_nil _ _ _ _ _ | exact Kd.N_nil _ _ _ _ _ | exact Kd.V_nil _ _ _ _ _ | exact Kd.Q_nil _ _ _ _ _ | exact Kd.S_nil _ _ _ _ _⟩, ⟨by first | exact Kd.R_nil _ _ _ _ _ | exact Kd.N_nil _ _ _ _ _ | exact Kd.V_nil _ _ _ _ _ | exact Kd.Q_nil _ _ _ _ _ | exact Kd.S_nil _ _ _ _ _⟩, ⟨by (with_reducible repeat (first | apply Kd.R_alloc | apply Kd.R_drewN | apply Kd.R_drew)); exact Kd.R_mono HO495.out (fun _ hk => ⟨(by simp [Value.ownBlock]), ⟨(by simp [Value.ownBlock]), (by simp [Value.ownBlock])⟩⟩)⟩, ⟨by repeat (first | (with_reducible first | exact HB.out | apply below_alloc | apply pw_below_drewN | apply below_drew1) | exact HB.out)⟩⟩
 case round =>
  clear H'
  try clear c1
  try clear c2
  try clear p2
  obtain ⟨x4_1, x5_1, x6_1, x8_1, x9_1, rfl, rfl, HA, HK1, HO_4, HO_5, HO_6, HO_7, HB⟩ := hrel
  cases gk with
  | zero => exact absurd HA.out (by simp [hyphenref4_Cuts.l0])
  | succ k1 =>
   have H := HA.out
   clear HA
   simp only [hyphenref4_Cuts.l0] at H
   by_cases c4 : x9_1 < (t493.length : Int)
   ·rw [if_pos c4] at H
    have c4b0 : decide (x9_1 < (t493.length : Int)) = true := decide_eq_true c4
    clear c4
    by_cases c5 : 0 ≤ x9_1
    ·rw [if_pos c5] at H
     have c5b0 : decide (0 ≤ x9_1) = true := decide_eq_true c5
     clear c5
     replace H := Option.bind_eq_some_iff.mp H
     obtain ⟨t497, A60, H⟩ := H
     replace H : (if t497 = x8_1 then (hyphenref4_Cuts.l0 k1 l0 x4_1 x5_1 x6_1 t493 x8_1 (wrap64 (x9_1 + 1))) else (hyphenref4_Cuts.l1 k1 l0 x4_1 x5_1 x6_1 t493 t497 x9_1 t497 0)) = some (r1, r2) := H
     have A6 := Aside0.mk A60
     clear A60
     by_cases c7 : t497 = x8_1
     ·rw [if_pos c7] at H
      have c7b0 : (t497 == x8_1) = true := beq_iff_eq.mpr c7
      have c7b1 : (t497 != x8_1) = false := bne_eq_false_iff_eq.mpr c7
      clear c7
      have H' := Aside0.mk H
      clear H
      obtain ⟨Ao8, co8, eo8⟩ := Kd.R_slice HO_7.out
      subst eo8
      have p496 : 0 ≤ (x9_1 : Int) := of_decide_eq_true (by first | (with_reducible assumption) | assumption)
      have q496 : x9_1 < (t493.length : Int) := of_decide_eq_true (by first | (with_reducible assumption) | assumption)
      obtain ⟨ad496, e496, hx496_0⟩ := Kd.at_int (Kd.R_reads' HO_7.out).2.2 x9_1 p496 q496
      cases e496
      replace p496 := eq_true p496
      replace q496 := eq_true q496
      go_wp2_with (first | ((with_reducible refine gate_callee (f := 30) rfl ?_); refine goesL_ (some 25) rfl rfl Try.func30 (by kernel_rfl) rfl #[.slice A0 l0.length c0, .int .i64 (rd t493 x9_1)] rfl (by (try simp only [List.map_toArray, List.map_cons, List.map_nil]); first | done | rfl | (simp only [List.length_drop, List.length_take]; rfl)) ?_; (with_reducible refine (hyphenref4_key.calls k1 _ _ l0 (rd t493 x9_1) t497 _ ?side1 ?side2 A6.out).mono ?_); (case side1 => repeat (first | exact (Kd.C_below HR0.out HB.out) | (with_reducible refine Kd.C_alloc ?_ _) | (with_reducible refine Kd.C_drewN ?_ _) | (with_reducible refine Kd.C_drew ?_))); (case side2 => exact HC0.out); rintro e w' ⟨rfl, ⟨nd, rfl⟩⟩; refine ⟨_, rfl, ?_⟩))
      go_roundg k1
      case measure => have := HK1.out; omega
      case rel => exact ⟨(x4_1), (x5_1), (x6_1), (x8_1), (wrap64 (x9_1 + 1)), (by first | rfl | (simp; done) | (simp [*]; done)), (by first | rfl | (simp; done) | (simp [*]; done)), H', ⟨by have := HK1.out; omega⟩, ⟨by (with_reducible repeat (first | apply Kd.R_alloc | apply Kd.R_drewN | apply Kd.R_drew)); exact HO_4.out⟩, ⟨by (with_reducible repeat (first | apply Kd.R_alloc | apply Kd.R_drewN | apply Kd.R_drew)); exact HO_5.out⟩, ⟨by (with_reducible repeat (first | apply Kd.R_alloc | apply Kd.R_drewN | apply Kd.R_drew)); exact HO_6.out⟩, ⟨by (with_reducible repeat (first | apply Kd.R_alloc | apply Kd.R_drewN | apply Kd.R_drew)); exact HO_7.out⟩, ⟨by repeat (first | (with_reducible first | exact HB.out | apply below_alloc | apply pw_below_drewN | apply below_drew1) | exact HB.out)⟩⟩
     ·rw [if_neg c7] at H
      have c7b0 : (t497 == x8_1) = false := beq_eq_false_iff_ne.mpr c7
      have c7b1 : (t497 != x8_1) = true := bne_iff_ne.mpr c7
      have H' := Aside0.mk H
      clear H
      obtain ⟨Ao9, co9, eo9⟩ := Kd.R_slice HO_7.out
      subst eo9
      have p496 : 0 ≤ (x9_1 : Int) := of_decide_eq_true (by first | (with_reducible assumption) | assumption)
      have q496 : x9_1 < (t493.length : Int) := of_decide_eq_true (by first | (with_reducible assumption) | assumption)
      obtain ⟨ad496, e496, hx496_0⟩ := Kd.at_int (Kd.R_reads' HO_7.out).2.2 x9_1 p496 q496
      cases e496
      replace p496 := eq_true p496
      replace q496 := eq_true q496
      go_wp2_with (first | ((with_reducible refine gate_callee (f := 30) rfl ?_); refine goesL_ (some 25) rfl rfl Try.func30 (by kernel_rfl) rfl #[.slice A0 l0.length c0, .int .i64 (rd t493 x9_1)] rfl (by (try simp only [List.map_toArray, List.map_cons, List.map_nil]); first | done | rfl | (simp only [List.length_drop, List.length_take]; rfl)) ?_; (with_reducible refine (hyphenref4_key.calls k1 _ _ l0 (rd t493 x9_1) t497 _ ?side1 ?side2 A6.out).mono ?_); (case side1 => repeat (first | exact (Kd.C_below HR0.out HB.out) | (with_reducible refine Kd.C_alloc ?_ _) | (with_reducible refine Kd.C_drewN ?_ _) | (with_reducible refine Kd.C_drew ?_))); (case side2 => exact HC0.out); rintro e w' ⟨rfl, ⟨nd, rfl⟩⟩; refine ⟨_, rfl, ?_⟩))
      go_loopg [11] k1 (fun kq v11 w' => ∃ (x11_2 : Int), v11 = .int .i64 x11_2 ∧ Aside0 (hyphenref4_Cuts.l1 kq l0 x4_1 x5_1 x6_1 t493 t497 x9_1 t497 x11_2 = some (r1, r2)) ∧ Aside0 (kq ≤ k1) ∧ Aside0 (Kd.R (Kd.int .i64) 3 w' w.heap.size (fun k_ => some k_ ≠ (u5 : Value).ownBlock ∧ some k_ ≠ (u6 : Value).ownBlock ∧ some k_ ≠ ((.slice (some ad496) t493.length co9) : Value).ownBlock) u4 x4_1) ∧ Aside0 (Kd.R (Kd.int .i64) 3 w' w.heap.size (fun k_ => some k_ ≠ (u4 : Value).ownBlock ∧ some k_ ≠ (u6 : Value).ownBlock ∧ some k_ ≠ ((.slice (some ad496) t493.length co9) : Value).ownBlock) u5 x5_1) ∧ Aside0 (Kd.R (Kd.int .i64) 3 w' w.heap.size (fun k_ => some k_ ≠ (u4 : Value).ownBlock ∧ some k_ ≠ (u5 : Value).ownBlock ∧ some k_ ≠ ((.slice (some ad496) t493.length co9) : Value).ownBlock) u6 x6_1) ∧ Aside0 (Kd.R (Kd.int .i64) 3 w' w.heap.size (fun k_ => some k_ ≠ (u4 : Value).ownBlock ∧ some k_ ≠ (u5 : Value).ownBlock ∧ some k_ ≠ (u6 : Value).ownBlock) (.slice (some ad496) t493.length co9) t493) ∧ Aside0 (Below w.heap.size w w'))
      case atStart => exact ⟨(0), (by first | rfl | (simp; done) | (simp [*]; done)), H', ⟨Nat.le_refl _⟩, ⟨by (with_reducible repeat (first | apply Kd.R_alloc | apply Kd.R_drewN | apply Kd.R_drew)); exact HO_4.out⟩, ⟨by (with_reducible repeat (first | apply Kd.R_alloc | apply Kd.R_drewN | apply Kd.R_drew)); exact HO_5.out⟩, ⟨by (with_reducible repeat (first | apply Kd.R_alloc | apply Kd.R_drewN | apply Kd.R_drew)); exact HO_6.out⟩, ⟨by (with_reducible repeat (first | apply Kd.R_alloc | apply Kd.R_drewN | apply Kd.R_drew)); exact HO_7.out⟩, ⟨by repeat (first | (with_reducible first | exact HB.out | apply below_alloc | apply pw_below_drewN | apply below_drew1) | exact HB.out)⟩⟩
      case round =>
       clear H'
       try clear c1
       try clear c2
       try clear p2
       try clear c3
       try clear c4
       try clear c4b0
       try clear p4
       try clear q4
       try clear hx4
       try clear c5
       try clear c5b0
       try clear p6
       try clear c7
       try clear c7b0
       try clear c7b1
       try clear hx496_0
       try clear p2
       try clear p496
       try clear q496
       obtain ⟨x11_2, rfl, HA, HK2, HO_4, HO_5, HO_6, HO_7, HB⟩ := hrel
       cases gk with
       | zero => exact absurd HA.out (by simp [hyphenref4_Cuts.l1])
       | succ k2 =>
        have H := HA.out
        clear HA
        simp only [hyphenref4_Cuts.l1] at H
        by_cases c10 : x11_2 < (x6_1.length : Int)
        ·rw [if_pos c10] at H
         have c10b0 : decide (x11_2 < (x6_1.length : Int)) = true := decide_eq_true c10
         clear c10
         by_cases c11 : 0 ≤ x11_2
         ·rw [if_pos c11] at H
          have c11b0 : decide (0 ≤ x11_2) = true := decide_eq_true c11
          clear c11
          by_cases c12 : (rd x6_1 x11_2) = t497
          ·rw [if_pos c12] at H
           have c12b0 : ((rd x6_1 x11_2) == t497) = true := beq_iff_eq.mpr c12
           have c12b1 : ((rd x6_1 x11_2) != t497) = false := bne_eq_false_iff_eq.mpr c12
           clear c12
           by_cases c13 : x11_2 = (x6_1.length : Int)
           ·rw [if_pos c13] at H
            have c13b0 : (x11_2 == (x6_1.length : Int)) = true := beq_iff_eq.mpr c13
            have c13b1 : (x11_2 != (x6_1.length : Int)) = false := bne_eq_false_iff_eq.mpr c13
            clear c13
            by_cases c14 : x6_1.length < 17592186044416
            ·rw [if_pos c14] at H
             have LMc14 := Aside0.mk c14
             clear c14
             obtain ⟨y499, hy499⟩ : ∃ y_ : List Int, y_ = (x6_1 ++ [t497]) := ⟨_, rfl⟩
             replace H : (if 0 ≤ x9_1 then (if x9_1 < (t493.length : Int) then (if x4_1.length < 17592186044416 then (if x5_1.length < 17592186044416 then (hyphenref4_Cuts.l0 k2 l0 (x4_1 ++ [rd t493 x9_1]) (x5_1 ++ [x11_2]) y499 t493 t497 (wrap64 (x9_1 + 1))) else (none)) else (none)) else (none)) else (none)) = some (r1, r2) := by first | (rw [hy499]; with_reducible exact H) | (have H2_ := (Option.bind_some _ _).symm.trans H; rw [hy499]; with_reducible exact H2_) | (have H2_ := (Option.bind_some _ _).symm.trans H; with_reducible exact H2_) | with_reducible exact H | (rw [hy499]; exact H) | exact H
             have Ny499 := Aside0.mk hy499
             clear hy499
             by_cases c15 : 0 ≤ x9_1
             ·rw [if_pos c15] at H
              have c15b0 : decide (0 ≤ x9_1) = true := decide_eq_true c15
              clear c15
              by_cases c16 : x9_1 < (t493.length : Int)
              ·rw [if_pos c16] at H
               have c16b0 : decide (x9_1 < (t493.length : Int)) = true := decide_eq_true c16
               clear c16
               by_cases c17 : x4_1.length < 17592186044416
               ·rw [if_pos c17] at H
                have LMc17 := Aside0.mk c17
                clear c17
                obtain ⟨y503, hy503⟩ : ∃ y_ : List Int, y_ = (x4_1 ++ [rd t493 x9_1]) := ⟨_, rfl⟩
                replace H : (if x5_1.length < 17592186044416 then (hyphenref4_Cuts.l0 k2 l0 y503 (x5_1 ++ [x11_2]) y499 t493 t497 (wrap64 (x9_1 + 1))) else (none)) = some (r1, r2) := by first | (rw [hy503]; with_reducible exact H) | (have H2_ := (Option.bind_some _ _).symm.trans H; rw [hy503]; with_reducible exact H2_) | (have H2_ := (Option.bind_some _ _).symm.trans H; with_reducible exact H2_) | with_reducible exact H | (rw [hy503]; exact H) | exact H
                have Ny503 := Aside0.mk hy503
                clear hy503
                by_cases c18 : x5_1.length < 17592186044416
                ·rw [if_pos c18] at H
                 have LMc18 := Aside0.mk c18
                 clear c18
                 obtain ⟨y506, hy506⟩ : ∃ y_ : List Int, y_ = (x5_1 ++ [x11_2]) := ⟨_, rfl⟩
                 replace H : (hyphenref4_Cuts.l0 k2 l0 y503 y506 y499 t493 t497 (wrap64 (x9_1 + 1))) = some (r1, r2) := by first | (rw [hy506]; with_reducible exact H) | (have H2_ := (Option.bind_some _ _).symm.trans H; rw [hy506]; with_reducible exact H2_) | (have H2_ := (Option.bind_some _ _).symm.trans H; with_reducible exact H2_) | with_reducible exact H | (rw [hy506]; exact H) | exact H
                 have Ny506 := Aside0.mk hy506
                 clear hy506
                 have H' := Aside0.mk H
                 clear H
                 obtain ⟨Ao19, co19, eo19⟩ := Kd.R_slice HO_6.out
                 subst eo19
                 have p498 : 0 ≤ (x11_2 : Int) := of_decide_eq_true (by first | (with_reducible assumption) | assumption)
                 have q498 : x11_2 < (x6_1.length : Int) := of_decide_eq_true (by first | (with_reducible assumption) | assumption)
                 obtain ⟨ad498, e498, hx498_0⟩ := Kd.at_int (Kd.R_reads' HO_6.out).2.2 x11_2 p498 q498
                 cases e498
                 replace p498 := eq_true p498
                 replace q498 := eq_true q498
                 go_wp2_with (first | ((with_reducible refine gate_builtin (b := .append) (xs := #[.tmp 48, .tmp 50]) rfl ?_); at_builtin; refine Kd.R_append (Kd.int .i64) (w0 := w) w.heap.size rfl (.tmp 48) (.tmp 50) 22 3 (.int .i64 0) 8 rfl Try.underlying22 info3 rfl (by decide) (by omega) (.slice (some ad498) x6_1.length co19) x6_1 t497 [.int .i64 t497] (fun k_ => some k_ ≠ (u4 : Value).ownBlock ∧ some k_ ≠ (u5 : Value).ownBlock ∧ some k_ ≠ (.slice (some ad496) t493.length co9 : Value).ownBlock) (fun _ => False) rfl rfl ?aP (fun _ hk => hk.elim) ?aF ?aO ?aB ?aS ?aL ?_; (case aP => exact rfl); (case aB => exact (by repeat (first | (with_reducible first | exact HB.out | apply below_alloc | apply pw_below_drewN | apply below_drew1) | exact HB.out))); (case aF => exact (fun k_ hk => ⟨Kd.fresh' (Kd.R_lt (by (with_reducible repeat (first | apply Kd.R_alloc | apply Kd.R_drewN | apply Kd.R_drew)); exact HO_4.out)) k_ hk, Kd.fresh' (Kd.R_lt (by (with_reducible repeat (first | apply Kd.R_alloc | apply Kd.R_drewN | apply Kd.R_drew)); exact HO_5.out)) k_ hk, Kd.fresh' (Kd.R_lt (by (with_reducible repeat (first | apply Kd.R_alloc | apply Kd.R_drewN | apply Kd.R_drew)); exact HO_7.out)) k_ hk⟩)); (case aO => exact (by (with_reducible repeat (first | apply Kd.R_alloc | apply Kd.R_drewN | apply Kd.R_drew)); exact HO_6.out)); (case aS => exact (below_size (by repeat (first | (with_reducible first | exact HB.out | apply below_alloc | apply pw_below_drewN | apply below_drew1) | exact HB.out)))); (case aL => have := LMc14.out; omega); intro v500 w20 ho hb hg hat; rw [← Ny499.out] at ho; have n0_ := Aside0.mk (Kd.R_after (ok := (fun k_ => some k_ ≠ (u5 : Value).ownBlock ∧ some k_ ≠ (.slice (some ad496) t493.length co9 : Value).ownBlock)) (by (with_reducible repeat (first | apply Kd.R_alloc | apply Kd.R_drewN | apply Kd.R_drew)); exact Kd.R_mono HO_4.out (fun _ hk => ⟨⟨hk.1, hk.2.2⟩, hk.2.1⟩)) hg hat); have n1_ := Aside0.mk (Kd.R_after (ok := (fun k_ => some k_ ≠ (u4 : Value).ownBlock ∧ some k_ ≠ (.slice (some ad496) t493.length co9 : Value).ownBlock)) (by (with_reducible repeat (first | apply Kd.R_alloc | apply Kd.R_drewN | apply Kd.R_drew)); exact Kd.R_mono HO_5.out (fun _ hk => ⟨⟨hk.1, hk.2.2⟩, hk.2.1⟩)) hg hat); have n2_ := Aside0.mk (Kd.R_after (ok := (fun k_ => some k_ ≠ (u4 : Value).ownBlock ∧ some k_ ≠ (u5 : Value).ownBlock)) (by (with_reducible repeat (first | apply Kd.R_alloc | apply Kd.R_drewN | apply Kd.R_drew)); exact Kd.R_mono HO_7.out (fun _ hk => ⟨⟨hk.1, hk.2.1⟩, hk.2.2⟩)) hg hat); have n3_ := Aside0.mk (hb); have n4_ := Aside0.mk (ho); clear HO_4; clear HO_5; clear HO_7; clear HB; clear HO_6; have HO_4 := n0_; have HO_5 := n1_; have HO_7 := n2_; have HB := n3_; have HO501 := n4_; clear n0_ n1_ n2_ n3_ n4_; clear ho hb hg hat; have p502 : 0 ≤ (x9_1 : Int) := of_decide_eq_true (by first | (with_reducible assumption) | assumption); have q502 : x9_1 < (t493.length : Int) := of_decide_eq_true (by first | (with_reducible assumption) | assumption); obtain ⟨ad502, e502, hx502_0⟩ := Kd.at_int (Kd.R_reads' HO_7.out).2.2 x9_1 p502 q502; obtain rfl : ad496 = ad502 := (by injection e502); replace p502 := eq_true p502; replace q502 := eq_true q502) | ((with_reducible refine gate_builtin (b := .append) (xs := #[.tmp 52, .tmp 57]) rfl ?_); at_builtin; refine Kd.R_append (Kd.int .i64) (w0 := w) w.heap.size rfl (.tmp 52) (.tmp 57) 22 3 (.int .i64 0) 8 rfl Try.underlying22 info3 rfl (by decide) (by omega) u4 x4_1 (rd t493 x9_1) [.int .i64 (rd t493 x9_1)] (fun k_ => some k_ ≠ (u5 : Value).ownBlock ∧ some k_ ≠ (.slice (some ad496) t493.length co9 : Value).ownBlock ∧ some k_ ≠ (v500 : Value).ownBlock) (fun _ => False) rfl rfl ?aP (fun _ hk => hk.elim) ?aF ?aO ?aB ?aS ?aL ?_; (case aP => exact rfl); (case aB => exact (by repeat (first | (with_reducible first | exact HB.out | apply below_alloc | apply pw_below_drewN | apply below_drew1) | exact HB.out))); (case aF => exact (fun k_ hk => ⟨Kd.fresh' (Kd.R_lt (by (with_reducible repeat (first | apply Kd.R_alloc | apply Kd.R_drewN | apply Kd.R_drew)); exact HO_5.out)) k_ hk, Kd.fresh' (Kd.R_lt (by (with_reducible repeat (first | apply Kd.R_alloc | apply Kd.R_drewN | apply Kd.R_drew)); exact HO_7.out)) k_ hk, Kd.fresh' (Kd.R_lt (by (with_reducible repeat (first | apply Kd.R_alloc | apply Kd.R_drewN | apply Kd.R_drew)); exact HO501.out)) k_ hk⟩)); (case aO => exact (by (with_reducible repeat (first | apply Kd.R_alloc | apply Kd.R_drewN | apply Kd.R_drew)); exact Kd.R_mono HO_4.out (fun _ hk => ⟨hk.1.1, ⟨hk.1.2, hk.2⟩⟩))); (case aS => exact (below_size (by repeat (first | (with_reducible first | exact HB.out | apply below_alloc | apply pw_below_drewN | apply below_drew1) | exact HB.out)))); (case aL => have := LMc17.out; omega); intro v504 w21 ho hb hg hat; rw [← Ny503.out] at ho; have n0_ := Aside0.mk (Kd.R_after (ok := (fun k_ => some k_ ≠ (.slice (some ad496) t493.length co9 : Value).ownBlock ∧ some k_ ≠ (v500 : Value).ownBlock)) (by (with_reducible repeat (first | apply Kd.R_alloc | apply Kd.R_drewN | apply Kd.R_drew)); exact Kd.R_mono HO_5.out (fun _ hk => ⟨⟨hk.1.2, hk.2⟩, hk.1.1⟩)) hg hat); have n1_ := Aside0.mk (Kd.R_after (ok := (fun k_ => some k_ ≠ (u5 : Value).ownBlock ∧ some k_ ≠ (v500 : Value).ownBlock)) (by (with_reducible repeat (first | apply Kd.R_alloc | apply Kd.R_drewN | apply Kd.R_drew)); exact Kd.R_mono HO_7.out (fun _ hk => ⟨⟨hk.1.2, hk.2⟩, hk.1.1⟩)) hg hat); have n2_ := Aside0.mk (Kd.R_after (ok := (fun k_ => some k_ ≠ (u5 : Value).ownBlock ∧ some k_ ≠ (.slice (some ad496) t493.length co9 : Value).ownBlock)) (by (with_reducible repeat (first | apply Kd.R_alloc | apply Kd.R_drewN | apply Kd.R_drew)); exact Kd.R_mono HO501.out (fun _ hk => ⟨⟨hk.2.1, hk.2.2⟩, hk.1⟩)) hg hat); have n3_ := Aside0.mk (hb); have n4_ := Aside0.mk (ho); clear HO_5; clear HO_7; clear HO501; clear HB; clear HO_4; have HO_5 := n0_; have HO_7 := n1_; have HO501 := n2_; have HB := n3_; have HO505 := n4_; clear n0_ n1_ n2_ n3_ n4_; clear ho hb hg hat) | ((with_reducible refine gate_builtin (b := .append) (xs := #[.tmp 59, .tmp 61]) rfl ?_); at_builtin; refine Kd.R_append (Kd.int .i64) (w0 := w) w.heap.size rfl (.tmp 59) (.tmp 61) 22 3 (.int .i64 0) 8 rfl Try.underlying22 info3 rfl (by decide) (by omega) u5 x5_1 x11_2 [.int .i64 x11_2] (fun k_ => some k_ ≠ (.slice (some ad496) t493.length co9 : Value).ownBlock ∧ some k_ ≠ (v500 : Value).ownBlock ∧ some k_ ≠ (v504 : Value).ownBlock) (fun _ => False) rfl rfl ?aP (fun _ hk => hk.elim) ?aF ?aO ?aB ?aS ?aL ?_; (case aP => exact rfl); (case aB => exact (by repeat (first | (with_reducible first | exact HB.out | apply below_alloc | apply pw_below_drewN | apply below_drew1) | exact HB.out))); (case aF => exact (fun k_ hk => ⟨Kd.fresh' (Kd.R_lt (by (with_reducible repeat (first | apply Kd.R_alloc | apply Kd.R_drewN | apply Kd.R_drew)); exact HO_7.out)) k_ hk, Kd.fresh' (Kd.R_lt (by (with_reducible repeat (first | apply Kd.R_alloc | apply Kd.R_drewN | apply Kd.R_drew)); exact HO501.out)) k_ hk, Kd.fresh' (Kd.R_lt (by (with_reducible repeat (first | apply Kd.R_alloc | apply Kd.R_drewN | apply Kd.R_drew)); exact HO505.out)) k_ hk⟩)); (case aO => exact (by (with_reducible repeat (first | apply Kd.R_alloc | apply Kd.R_drewN | apply Kd.R_drew)); exact Kd.R_mono HO_5.out (fun _ hk => ⟨hk.1.1, ⟨hk.1.2, hk.2⟩⟩))); (case aS => exact (below_size (by repeat (first | (with_reducible first | exact HB.out | apply below_alloc | apply pw_below_drewN | apply below_drew1) | exact HB.out)))); (case aL => have := LMc18.out; omega); intro v507 w22 ho hb hg hat; rw [← Ny506.out] at ho; have n0_ := Aside0.mk (Kd.R_after (ok := (fun k_ => some k_ ≠ (v500 : Value).ownBlock ∧ some k_ ≠ (v504 : Value).ownBlock)) (by (with_reducible repeat (first | apply Kd.R_alloc | apply Kd.R_drewN | apply Kd.R_drew)); exact Kd.R_mono HO_7.out (fun _ hk => ⟨⟨hk.1.2, hk.2⟩, hk.1.1⟩)) hg hat); have n1_ := Aside0.mk (Kd.R_after (ok := (fun k_ => some k_ ≠ (.slice (some ad496) t493.length co9 : Value).ownBlock ∧ some k_ ≠ (v504 : Value).ownBlock)) (by (with_reducible repeat (first | apply Kd.R_alloc | apply Kd.R_drewN | apply Kd.R_drew)); exact Kd.R_mono HO501.out (fun _ hk => ⟨⟨hk.1.2, hk.2⟩, hk.1.1⟩)) hg hat); have n2_ := Aside0.mk (Kd.R_after (ok := (fun k_ => some k_ ≠ (.slice (some ad496) t493.length co9 : Value).ownBlock ∧ some k_ ≠ (v500 : Value).ownBlock)) (by (with_reducible repeat (first | apply Kd.R_alloc | apply Kd.R_drewN | apply Kd.R_drew)); exact Kd.R_mono HO505.out (fun _ hk => ⟨⟨hk.2.1, hk.2.2⟩, hk.1⟩)) hg hat); have n3_ := Aside0.mk (hb); have n4_ := Aside0.mk (ho); clear HO_7; clear HO501; clear HO505; clear HB; clear HO_5; have HO_7 := n0_; have HO501 := n1_; have HO505 := n2_; have HB := n3_; have HO508 := n4_; clear n0_ n1_ n2_ n3_ n4_; clear ho hb hg hat))
                 go_roundg k2
                 case measure => have := HK1.out; have := HK2.out; omega
                 case rel => exact ⟨(y503), (y506), (y499), (t497), (wrap64 (x9_1 + 1)), (by first | rfl | (simp; done) | (simp [*]; done)), (by first | rfl | (simp; done) | (simp [*]; done)), H', ⟨by have := HK1.out; have := HK2.out; omega⟩, ⟨by (with_reducible repeat (first | apply Kd.R_alloc | apply Kd.R_drewN | apply Kd.R_drew)); exact Kd.R_mono HO505.out (fun _ hk => ⟨hk.2, ⟨hk.1.2, hk.1.1⟩⟩)⟩, ⟨by (with_reducible repeat (first | apply Kd.R_alloc | apply Kd.R_drewN | apply Kd.R_drew)); exact Kd.R_mono HO508.out (fun _ hk => ⟨hk.2.2, ⟨hk.2.1, hk.1⟩⟩)⟩, ⟨by (with_reducible repeat (first | apply Kd.R_alloc | apply Kd.R_drewN | apply Kd.R_drew)); exact Kd.R_mono HO501.out (fun _ hk => ⟨hk.1.2, ⟨hk.2, hk.1.1⟩⟩)⟩, ⟨by (with_reducible repeat (first | apply Kd.R_alloc | apply Kd.R_drewN | apply Kd.R_drew)); exact Kd.R_mono HO_7.out (fun _ hk => ⟨hk.1.2, ⟨hk.2, hk.1.1⟩⟩)⟩, ⟨by repeat (first | (with_reducible first | exact HB.out | apply below_alloc | apply pw_below_drewN | apply below_drew1) | exact HB.out)⟩⟩
                ·rw [if_neg c18] at H
                 exact absurd H (by simp)
               ·rw [if_neg c17] at H
                exact absurd H (by simp)
              ·rw [if_neg c16] at H
               exact absurd H (by simp)
             ·rw [if_neg c15] at H
              exact absurd H (by simp)
            ·rw [if_neg c14] at H
             exact absurd H (by simp)
           ·rw [if_neg c13] at H
            have c13b0 : (x11_2 == (x6_1.length : Int)) = false := beq_eq_false_iff_ne.mpr c13
            have c13b1 : (x11_2 != (x6_1.length : Int)) = true := bne_iff_ne.mpr c13
            by_cases c23 : 0 ≤ x9_1
            ·rw [if_pos c23] at H
             have c23b0 : decide (0 ≤ x9_1) = true := decide_eq_true c23
             clear c23
             by_cases c24 : x9_1 < (t493.length : Int)
             ·rw [if_pos c24] at H
              have c24b0 : decide (x9_1 < (t493.length : Int)) = true := decide_eq_true c24
              clear c24
              by_cases c25 : x4_1.length < 17592186044416
              ·rw [if_pos c25] at H
               have LMc25 := Aside0.mk c25
               clear c25
               obtain ⟨y510, hy510⟩ : ∃ y_ : List Int, y_ = (x4_1 ++ [rd t493 x9_1]) := ⟨_, rfl⟩
               replace H : (if x5_1.length < 17592186044416 then (hyphenref4_Cuts.l0 k2 l0 y510 (x5_1 ++ [x11_2]) x6_1 t493 t497 (wrap64 (x9_1 + 1))) else (none)) = some (r1, r2) := by first | (rw [hy510]; with_reducible exact H) | (have H2_ := (Option.bind_some _ _).symm.trans H; rw [hy510]; with_reducible exact H2_) | (have H2_ := (Option.bind_some _ _).symm.trans H; with_reducible exact H2_) | with_reducible exact H | (rw [hy510]; exact H) | exact H
               have Ny510 := Aside0.mk hy510
               clear hy510
               by_cases c26 : x5_1.length < 17592186044416
               ·rw [if_pos c26] at H
                have LMc26 := Aside0.mk c26
                clear c26
                obtain ⟨y513, hy513⟩ : ∃ y_ : List Int, y_ = (x5_1 ++ [x11_2]) := ⟨_, rfl⟩
                replace H : (hyphenref4_Cuts.l0 k2 l0 y510 y513 x6_1 t493 t497 (wrap64 (x9_1 + 1))) = some (r1, r2) := by first | (rw [hy513]; with_reducible exact H) | (have H2_ := (Option.bind_some _ _).symm.trans H; rw [hy513]; with_reducible exact H2_) | (have H2_ := (Option.bind_some _ _).symm.trans H; with_reducible exact H2_) | with_reducible exact H | (rw [hy513]; exact H) | exact H
                have Ny513 := Aside0.mk hy513
                clear hy513
                have H' := Aside0.mk H
                clear H
                obtain ⟨Ao27, co27, eo27⟩ := Kd.R_slice HO_6.out
                subst eo27
                have p498 : 0 ≤ (x11_2 : Int) := of_decide_eq_true (by first | (with_reducible assumption) | assumption)
                have q498 : x11_2 < (x6_1.length : Int) := of_decide_eq_true (by first | (with_reducible assumption) | assumption)
                obtain ⟨ad498, e498, hx498_0⟩ := Kd.at_int (Kd.R_reads' HO_6.out).2.2 x11_2 p498 q498
                cases e498
                replace p498 := eq_true p498
                replace q498 := eq_true q498
                have p509 : 0 ≤ (x9_1 : Int) := of_decide_eq_true (by first | (with_reducible assumption) | assumption)
                have q509 : x9_1 < (t493.length : Int) := of_decide_eq_true (by first | (with_reducible assumption) | assumption)
                obtain ⟨ad509, e509, hx509_0⟩ := Kd.at_int (Kd.R_reads' HO_7.out).2.2 x9_1 p509 q509
                obtain rfl : ad496 = ad509 := (by injection e509)
                replace p509 := eq_true p509
                replace q509 := eq_true q509
                go_wp2_with (first | ((with_reducible refine gate_builtin (b := .append) (xs := #[.tmp 52, .tmp 57]) rfl ?_); at_builtin; refine Kd.R_append (Kd.int .i64) (w0 := w) w.heap.size rfl (.tmp 52) (.tmp 57) 22 3 (.int .i64 0) 8 rfl Try.underlying22 info3 rfl (by decide) (by omega) u4 x4_1 (rd t493 x9_1) [.int .i64 (rd t493 x9_1)] (fun k_ => some k_ ≠ (u5 : Value).ownBlock ∧ some k_ ≠ (.slice (some ad498) x6_1.length co27 : Value).ownBlock ∧ some k_ ≠ (.slice (some ad496) t493.length co9 : Value).ownBlock) (fun _ => False) rfl rfl ?aP (fun _ hk => hk.elim) ?aF ?aO ?aB ?aS ?aL ?_; (case aP => exact rfl); (case aB => exact (by repeat (first | (with_reducible first | exact HB.out | apply below_alloc | apply pw_below_drewN | apply below_drew1) | exact HB.out))); (case aF => exact (fun k_ hk => ⟨Kd.fresh' (Kd.R_lt (by (with_reducible repeat (first | apply Kd.R_alloc | apply Kd.R_drewN | apply Kd.R_drew)); exact HO_5.out)) k_ hk, Kd.fresh' (Kd.R_lt (by (with_reducible repeat (first | apply Kd.R_alloc | apply Kd.R_drewN | apply Kd.R_drew)); exact HO_6.out)) k_ hk, Kd.fresh' (Kd.R_lt (by (with_reducible repeat (first | apply Kd.R_alloc | apply Kd.R_drewN | apply Kd.R_drew)); exact HO_7.out)) k_ hk⟩)); (case aO => exact (by (with_reducible repeat (first | apply Kd.R_alloc | apply Kd.R_drewN | apply Kd.R_drew)); exact HO_4.out)); (case aS => exact (below_size (by repeat (first | (with_reducible first | exact HB.out | apply below_alloc | apply pw_below_drewN | apply below_drew1) | exact HB.out)))); (case aL => have := LMc25.out; omega); intro v511 w28 ho hb hg hat; rw [← Ny510.out] at ho; have n0_ := Aside0.mk (Kd.R_after (ok := (fun k_ => some k_ ≠ (.slice (some ad498) x6_1.length co27 : Value).ownBlock ∧ some k_ ≠ (.slice (some ad496) t493.length co9 : Value).ownBlock)) (by (with_reducible repeat (first | apply Kd.R_alloc | apply Kd.R_drewN | apply Kd.R_drew)); exact Kd.R_mono HO_5.out (fun _ hk => ⟨⟨hk.2.1, hk.2.2⟩, hk.1⟩)) hg hat); have n1_ := Aside0.mk (Kd.R_after (ok := (fun k_ => some k_ ≠ (u5 : Value).ownBlock ∧ some k_ ≠ (.slice (some ad496) t493.length co9 : Value).ownBlock)) (by (with_reducible repeat (first | apply Kd.R_alloc | apply Kd.R_drewN | apply Kd.R_drew)); exact Kd.R_mono HO_6.out (fun _ hk => ⟨⟨hk.2.1, hk.2.2⟩, hk.1⟩)) hg hat); have n2_ := Aside0.mk (Kd.R_after (ok := (fun k_ => some k_ ≠ (u5 : Value).ownBlock ∧ some k_ ≠ (.slice (some ad498) x6_1.length co27 : Value).ownBlock)) (by (with_reducible repeat (first | apply Kd.R_alloc | apply Kd.R_drewN | apply Kd.R_drew)); exact Kd.R_mono HO_7.out (fun _ hk => ⟨⟨hk.2.1, hk.2.2⟩, hk.1⟩)) hg hat); have n3_ := Aside0.mk (hb); have n4_ := Aside0.mk (ho); clear HO_5; clear HO_6; clear HO_7; clear HB; clear HO_4; have HO_5 := n0_; have HO_6 := n1_; have HO_7 := n2_; have HB := n3_; have HO512 := n4_; clear n0_ n1_ n2_ n3_ n4_; clear ho hb hg hat) | ((with_reducible refine gate_builtin (b := .append) (xs := #[.tmp 59, .tmp 61]) rfl ?_); at_builtin; refine Kd.R_append (Kd.int .i64) (w0 := w) w.heap.size rfl (.tmp 59) (.tmp 61) 22 3 (.int .i64 0) 8 rfl Try.underlying22 info3 rfl (by decide) (by omega) u5 x5_1 x11_2 [.int .i64 x11_2] (fun k_ => some k_ ≠ (.slice (some ad498) x6_1.length co27 : Value).ownBlock ∧ some k_ ≠ (.slice (some ad496) t493.length co9 : Value).ownBlock ∧ some k_ ≠ (v511 : Value).ownBlock) (fun _ => False) rfl rfl ?aP (fun _ hk => hk.elim) ?aF ?aO ?aB ?aS ?aL ?_; (case aP => exact rfl); (case aB => exact (by repeat (first | (with_reducible first | exact HB.out | apply below_alloc | apply pw_below_drewN | apply below_drew1) | exact HB.out))); (case aF => exact (fun k_ hk => ⟨Kd.fresh' (Kd.R_lt (by (with_reducible repeat (first | apply Kd.R_alloc | apply Kd.R_drewN | apply Kd.R_drew)); exact HO_6.out)) k_ hk, Kd.fresh' (Kd.R_lt (by (with_reducible repeat (first | apply Kd.R_alloc | apply Kd.R_drewN | apply Kd.R_drew)); exact HO_7.out)) k_ hk, Kd.fresh' (Kd.R_lt (by (with_reducible repeat (first | apply Kd.R_alloc | apply Kd.R_drewN | apply Kd.R_drew)); exact HO512.out)) k_ hk⟩)); (case aO => exact (by (with_reducible repeat (first | apply Kd.R_alloc | apply Kd.R_drewN | apply Kd.R_drew)); exact Kd.R_mono HO_5.out (fun _ hk => ⟨hk.1.1, ⟨hk.1.2, hk.2⟩⟩))); (case aS => exact (below_size (by repeat (first | (with_reducible first | exact HB.out | apply below_alloc | apply pw_below_drewN | apply below_drew1) | exact HB.out)))); (case aL => have := LMc26.out; omega); intro v514 w29 ho hb hg hat; rw [← Ny513.out] at ho; have n0_ := Aside0.mk (Kd.R_after (ok := (fun k_ => some k_ ≠ (.slice (some ad496) t493.length co9 : Value).ownBlock ∧ some k_ ≠ (v511 : Value).ownBlock)) (by (with_reducible repeat (first | apply Kd.R_alloc | apply Kd.R_drewN | apply Kd.R_drew)); exact Kd.R_mono HO_6.out (fun _ hk => ⟨⟨hk.1.2, hk.2⟩, hk.1.1⟩)) hg hat); have n1_ := Aside0.mk (Kd.R_after (ok := (fun k_ => some k_ ≠ (.slice (some ad498) x6_1.length co27 : Value).ownBlock ∧ some k_ ≠ (v511 : Value).ownBlock)) (by (with_reducible repeat (first | apply Kd.R_alloc | apply Kd.R_drewN | apply Kd.R_drew)); exact Kd.R_mono HO_7.out (fun _ hk => ⟨⟨hk.1.2, hk.2⟩, hk.1.1⟩)) hg hat); have n2_ := Aside0.mk (Kd.R_after (ok := (fun k_ => some k_ ≠ (.slice (some ad498) x6_1.length co27 : Value).ownBlock ∧ some k_ ≠ (.slice (some ad496) t493.length co9 : Value).ownBlock)) (by (with_reducible repeat (first | apply Kd.R_alloc | apply Kd.R_drewN | apply Kd.R_drew)); exact Kd.R_mono HO512.out (fun _ hk => ⟨⟨hk.2.1, hk.2.2⟩, hk.1⟩)) hg hat); have n3_ := Aside0.mk (hb); have n4_ := Aside0.mk (ho); clear HO_6; clear HO_7; clear HO512; clear HB; clear HO_5; have HO_6 := n0_; have HO_7 := n1_; have HO512 := n2_; have HB := n3_; have HO515 := n4_; clear n0_ n1_ n2_ n3_ n4_; clear ho hb hg hat))
                go_roundg k2
                case measure => have := HK1.out; have := HK2.out; omega
                case rel => exact ⟨(y510), (y513), (x6_1), (t497), (wrap64 (x9_1 + 1)), (by first | rfl | (simp; done) | (simp [*]; done)), (by first | rfl | (simp; done) | (simp [*]; done)), H', ⟨by have := HK1.out; have := HK2.out; omega⟩, ⟨by (with_reducible repeat (first | apply Kd.R_alloc | apply Kd.R_drewN | apply Kd.R_drew)); exact Kd.R_mono HO512.out (fun _ hk => ⟨hk.2, ⟨hk.1.1, hk.1.2⟩⟩)⟩, ⟨by (with_reducible repeat (first | apply Kd.R_alloc | apply Kd.R_drewN | apply Kd.R_drew)); exact Kd.R_mono HO515.out (fun _ hk => ⟨hk.2.2, ⟨hk.1, hk.2.1⟩⟩)⟩, ⟨by (with_reducible repeat (first | apply Kd.R_alloc | apply Kd.R_drewN | apply Kd.R_drew)); exact Kd.R_mono HO_6.out (fun _ hk => ⟨hk.1.2, ⟨hk.2, hk.1.1⟩⟩)⟩, ⟨by (with_reducible repeat (first | apply Kd.R_alloc | apply Kd.R_drewN | apply Kd.R_drew)); exact Kd.R_mono HO_7.out (fun _ hk => ⟨hk.1.2, ⟨hk.2, hk.1.1⟩⟩)⟩, ⟨by repeat (first | (with_reducible first | exact HB.out | apply below_alloc | apply pw_below_drewN | apply below_drew1) | exact HB.out)⟩⟩
               ·rw [if_neg c26] at H
                exact absurd H (by simp)
              ·rw [if_neg c25] at H
               exact absurd H (by simp)
             ·rw [if_neg c24] at H
              exact absurd H (by simp)
            ·rw [if_neg c23] at H
             exact absurd H (by simp)
          ·rw [if_neg c12] at H
           have c12b0 : ((rd x6_1 x11_2) == t497) = false := beq_eq_false_iff_ne.mpr c12
           have c12b1 : ((rd x6_1 x11_2) != t497) = true := bne_iff_ne.mpr c12
           have H' := Aside0.mk H
           clear H
           obtain ⟨Ao30, co30, eo30⟩ := Kd.R_slice HO_6.out
           subst eo30
           have p498 : 0 ≤ (x11_2 : Int) := of_decide_eq_true (by first | (with_reducible assumption) | assumption)
           have q498 : x11_2 < (x6_1.length : Int) := of_decide_eq_true (by first | (with_reducible assumption) | assumption)
           obtain ⟨ad498, e498, hx498_0⟩ := Kd.at_int (Kd.R_reads' HO_6.out).2.2 x11_2 p498 q498
           cases e498
           replace p498 := eq_true p498
           replace q498 := eq_true q498
           go_wp2
           go_roundg k2
           case measure => have := HK1.out; have := HK2.out; omega
           case rel => exact ⟨(wrap64 (x11_2 + 1)), (by first | rfl | (simp; done) | (simp [*]; done)), H', ⟨by have := HK1.out; have := HK2.out; omega⟩, ⟨by (with_reducible repeat (first | apply Kd.R_alloc | apply Kd.R_drewN | apply Kd.R_drew)); exact HO_4.out⟩, ⟨by (with_reducible repeat (first | apply Kd.R_alloc | apply Kd.R_drewN | apply Kd.R_drew)); exact HO_5.out⟩, ⟨by (with_reducible repeat (first | apply Kd.R_alloc | apply Kd.R_drewN | apply Kd.R_drew)); exact HO_6.out⟩, ⟨by (with_reducible repeat (first | apply Kd.R_alloc | apply Kd.R_drewN | apply Kd.R_drew)); exact HO_7.out⟩, ⟨by repeat (first | (with_reducible first | exact HB.out | apply below_alloc | apply pw_below_drewN | apply below_drew1) | exact HB.out)⟩⟩
         ·rw [if_neg c11] at H
          exact absurd H (by simp)
        ·rw [if_neg c10] at H
         have c10b0 : decide (x11_2 < (x6_1.length : Int)) = false := decide_eq_false c10
         clear c10
         by_cases c31 : x11_2 = (x6_1.length : Int)
         ·rw [if_pos c31] at H
          have c31b0 : (x11_2 == (x6_1.length : Int)) = true := beq_iff_eq.mpr c31
          have c31b1 : (x11_2 != (x6_1.length : Int)) = false := bne_eq_false_iff_eq.mpr c31
          clear c31
          by_cases c32 : x6_1.length < 17592186044416
          ·rw [if_pos c32] at H
           have LMc32 := Aside0.mk c32
           clear c32
           obtain ⟨y516, hy516⟩ : ∃ y_ : List Int, y_ = (x6_1 ++ [t497]) := ⟨_, rfl⟩
           replace H : (if 0 ≤ x9_1 then (if x9_1 < (t493.length : Int) then (if x4_1.length < 17592186044416 then (if x5_1.length < 17592186044416 then (hyphenref4_Cuts.l0 k2 l0 (x4_1 ++ [rd t493 x9_1]) (x5_1 ++ [x11_2]) y516 t493 t497 (wrap64 (x9_1 + 1))) else (none)) else (none)) else (none)) else (none)) = some (r1, r2) := by first | (rw [hy516]; with_reducible exact H) | (have H2_ := (Option.bind_some _ _).symm.trans H; rw [hy516]; with_reducible exact H2_) | (have H2_ := (Option.bind_some _ _).symm.trans H; with_reducible exact H2_) | with_reducible exact H | (rw [hy516]; exact H) | exact H
           have Ny516 := Aside0.mk hy516
           clear hy516
           by_cases c33 : 0 ≤ x9_1
           ·rw [if_pos c33] at H
            have c33b0 : decide (0 ≤ x9_1) = true := decide_eq_true c33
            clear c33
            by_cases c34 : x9_1 < (t493.length : Int)
            ·rw [if_pos c34] at H
             have c34b0 : decide (x9_1 < (t493.length : Int)) = true := decide_eq_true c34
             clear c34
             by_cases c35 : x4_1.length < 17592186044416
             ·rw [if_pos c35] at H
              have LMc35 := Aside0.mk c35
              clear c35
              obtain ⟨y520, hy520⟩ : ∃ y_ : List Int, y_ = (x4_1 ++ [rd t493 x9_1]) := ⟨_, rfl⟩
              replace H : (if x5_1.length < 17592186044416 then (hyphenref4_Cuts.l0 k2 l0 y520 (x5_1 ++ [x11_2]) y516 t493 t497 (wrap64 (x9_1 + 1))) else (none)) = some (r1, r2) := by first | (rw [hy520]; with_reducible exact H) | (have H2_ := (Option.bind_some _ _).symm.trans H; rw [hy520]; with_reducible exact H2_) | (have H2_ := (Option.bind_some _ _).symm.trans H; with_reducible exact H2_) | with_reducible exact H | (rw [hy520]; exact H) | exact H
              have Ny520 := Aside0.mk hy520
              clear hy520
              by_cases c36 : x5_1.length < 17592186044416
              ·rw [if_pos c36] at H
               have LMc36 := Aside0.mk c36
               clear c36
               obtain ⟨y523, hy523⟩ : ∃ y_ : List Int, y_ = (x5_1 ++ [x11_2]) := ⟨_, rfl⟩
               replace H : (hyphenref4_Cuts.l0 k2 l0 y520 y523 y516 t493 t497 (wrap64 (x9_1 + 1))) = some (r1, r2) := by first | (rw [hy523]; with_reducible exact H) | (have H2_ := (Option.bind_some _ _).symm.trans H; rw [hy523]; with_reducible exact H2_) | (have H2_ := (Option.bind_some _ _).symm.trans H; with_reducible exact H2_) | with_reducible exact H | (rw [hy523]; exact H) | exact H
               have Ny523 := Aside0.mk hy523
               clear hy523
               have H' := Aside0.mk H
               clear H
               obtain ⟨Ao37, co37, eo37⟩ := Kd.R_slice HO_6.out
               subst eo37
               go_wp2_with (first | ((with_reducible refine gate_builtin (b := .append) (xs := #[.tmp 48, .tmp 50]) rfl ?_); at_builtin; refine Kd.R_append (Kd.int .i64) (w0 := w) w.heap.size rfl (.tmp 48) (.tmp 50) 22 3 (.int .i64 0) 8 rfl Try.underlying22 info3 rfl (by decide) (by omega) (.slice Ao37 x6_1.length co37) x6_1 t497 [.int .i64 t497] (fun k_ => some k_ ≠ (u4 : Value).ownBlock ∧ some k_ ≠ (u5 : Value).ownBlock ∧ some k_ ≠ (.slice (some ad496) t493.length co9 : Value).ownBlock) (fun _ => False) rfl rfl ?aP (fun _ hk => hk.elim) ?aF ?aO ?aB ?aS ?aL ?_; (case aP => exact rfl); (case aB => exact (by repeat (first | (with_reducible first | exact HB.out | apply below_alloc | apply pw_below_drewN | apply below_drew1) | exact HB.out))); (case aF => exact (fun k_ hk => ⟨Kd.fresh' (Kd.R_lt (by (with_reducible repeat (first | apply Kd.R_alloc | apply Kd.R_drewN | apply Kd.R_drew)); exact HO_4.out)) k_ hk, Kd.fresh' (Kd.R_lt (by (with_reducible repeat (first | apply Kd.R_alloc | apply Kd.R_drewN | apply Kd.R_drew)); exact HO_5.out)) k_ hk, Kd.fresh' (Kd.R_lt (by (with_reducible repeat (first | apply Kd.R_alloc | apply Kd.R_drewN | apply Kd.R_drew)); exact HO_7.out)) k_ hk⟩)); (case aO => exact (by (with_reducible repeat (first | apply Kd.R_alloc | apply Kd.R_drewN | apply Kd.R_drew)); exact HO_6.out)); (case aS => exact (below_size (by repeat (first | (with_reducible first | exact HB.out | apply below_alloc | apply pw_below_drewN | apply below_drew1) | exact HB.out)))); (case aL => have := LMc32.out; omega); intro v517 w38 ho hb hg hat; rw [← Ny516.out] at ho; have n0_ := Aside0.mk (Kd.R_after (ok := (fun k_ => some k_ ≠ (u5 : Value).ownBlock ∧ some k_ ≠ (.slice (some ad496) t493.length co9 : Value).ownBlock)) (by (with_reducible repeat (first | apply Kd.R_alloc | apply Kd.R_drewN | apply Kd.R_drew)); exact Kd.R_mono HO_4.out (fun _ hk => ⟨⟨hk.1, hk.2.2⟩, hk.2.1⟩)) hg hat); have n1_ := Aside0.mk (Kd.R_after (ok := (fun k_ => some k_ ≠ (u4 : Value).ownBlock ∧ some k_ ≠ (.slice (some ad496) t493.length co9 : Value).ownBlock)) (by (with_reducible repeat (first | apply Kd.R_alloc | apply Kd.R_drewN | apply Kd.R_drew)); exact Kd.R_mono HO_5.out (fun _ hk => ⟨⟨hk.1, hk.2.2⟩, hk.2.1⟩)) hg hat); have n2_ := Aside0.mk (Kd.R_after (ok := (fun k_ => some k_ ≠ (u4 : Value).ownBlock ∧ some k_ ≠ (u5 : Value).ownBlock)) (by (with_reducible repeat (first | apply Kd.R_alloc | apply Kd.R_drewN | apply Kd.R_drew)); exact Kd.R_mono HO_7.out (fun _ hk => ⟨⟨hk.1, hk.2.1⟩, hk.2.2⟩)) hg hat); have n3_ := Aside0.mk (hb); have n4_ := Aside0.mk (ho); clear HO_4; clear HO_5; clear HO_7; clear HB; clear HO_6; have HO_4 := n0_; have HO_5 := n1_; have HO_7 := n2_; have HB := n3_; have HO518 := n4_; clear n0_ n1_ n2_ n3_ n4_; clear ho hb hg hat; have p519 : 0 ≤ (x9_1 : Int) := of_decide_eq_true (by first | (with_reducible assumption) | assumption); have q519 : x9_1 < (t493.length : Int) := of_decide_eq_true (by first | (with_reducible assumption) | assumption); obtain ⟨ad519, e519, hx519_0⟩ := Kd.at_int (Kd.R_reads' HO_7.out).2.2 x9_1 p519 q519; obtain rfl : ad496 = ad519 := (by injection e519); replace p519 := eq_true p519; replace q519 := eq_true q519) | ((with_reducible refine gate_builtin (b := .append) (xs := #[.tmp 52, .tmp 57]) rfl ?_); at_builtin; refine Kd.R_append (Kd.int .i64) (w0 := w) w.heap.size rfl (.tmp 52) (.tmp 57) 22 3 (.int .i64 0) 8 rfl Try.underlying22 info3 rfl (by decide) (by omega) u4 x4_1 (rd t493 x9_1) [.int .i64 (rd t493 x9_1)] (fun k_ => some k_ ≠ (u5 : Value).ownBlock ∧ some k_ ≠ (.slice (some ad496) t493.length co9 : Value).ownBlock ∧ some k_ ≠ (v517 : Value).ownBlock) (fun _ => False) rfl rfl ?aP (fun _ hk => hk.elim) ?aF ?aO ?aB ?aS ?aL ?_; (case aP => exact rfl); (case aB => exact (by repeat (first | (with_reducible first | exact HB.out | apply below_alloc | apply pw_below_drewN | apply below_drew1) | exact HB.out))); (case aF => exact (fun k_ hk => ⟨Kd.fresh' (Kd.R_lt (by (with_reducible repeat (first | apply Kd.R_alloc | apply Kd.R_drewN | apply Kd.R_drew)); exact HO_5.out)) k_ hk, Kd.fresh' (Kd.R_lt (by (with_reducible repeat (first | apply Kd.R_alloc | apply Kd.R_drewN | apply Kd.R_drew)); exact HO_7.out)) k_ hk, Kd.fresh' (Kd.R_lt (by (with_reducible repeat (first | apply Kd.R_alloc | apply Kd.R_drewN | apply Kd.R_drew)); exact HO518.out)) k_ hk⟩)); (case aO => exact (by (with_reducible repeat (first | apply Kd.R_alloc | apply Kd.R_drewN | apply Kd.R_drew)); exact Kd.R_mono HO_4.out (fun _ hk => ⟨hk.1.1, ⟨hk.1.2, hk.2⟩⟩))); (case aS => exact (below_size (by repeat (first | (with_reducible first | exact HB.out | apply below_alloc | apply pw_below_drewN | apply below_drew1) | exact HB.out)))); (case aL => have := LMc35.out; omega); intro v521 w39 ho hb hg hat; rw [← Ny520.out] at ho; have n0_ := Aside0.mk (Kd.R_after (ok := (fun k_ => some k_ ≠ (.slice (some ad496) t493.length co9 : Value).ownBlock ∧ some k_ ≠ (v517 : Value).ownBlock)) (by (with_reducible repeat (first | apply Kd.R_alloc | apply Kd.R_drewN | apply Kd.R_drew)); exact Kd.R_mono HO_5.out (fun _ hk => ⟨⟨hk.1.2, hk.2⟩, hk.1.1⟩)) hg hat); have n1_ := Aside0.mk (Kd.R_after (ok := (fun k_ => some k_ ≠ (u5 : Value).ownBlock ∧ some k_ ≠ (v517 : Value).ownBlock)) (by (with_reducible repeat (first | apply Kd.R_alloc | apply Kd.R_drewN | apply Kd.R_drew)); exact Kd.R_mono HO_7.out (fun _ hk => ⟨⟨hk.1.2, hk.2⟩, hk.1.1⟩)) hg hat); have n2_ := Aside0.mk (Kd.R_after (ok := (fun k_ => some k_ ≠ (u5 : Value).ownBlock ∧ some k_ ≠ (.slice (some ad496) t493.length co9 : Value).ownBlock)) (by (with_reducible repeat (first | apply Kd.R_alloc | apply Kd.R_drewN | apply Kd.R_drew)); exact Kd.R_mono HO518.out (fun _ hk => ⟨⟨hk.2.1, hk.2.2⟩, hk.1⟩)) hg hat); have n3_ := Aside0.mk (hb); have n4_ := Aside0.mk (ho); clear HO_5; clear HO_7; clear HO518; clear HB; clear HO_4; have HO_5 := n0_; have HO_7 := n1_; have HO518 := n2_; have HB := n3_; have HO522 := n4_; clear n0_ n1_ n2_ n3_ n4_; clear ho hb hg hat) | ((with_reducible refine gate_builtin (b := .append) (xs := #[.tmp 59, .tmp 61]) rfl ?_); at_builtin; refine Kd.R_append (Kd.int .i64) (w0 := w) w.heap.size rfl (.tmp 59) (.tmp 61) 22 3 (.int .i64 0) 8 rfl Try.underlying22 info3 rfl (by decide) (by omega) u5 x5_1 x11_2 [.int .i64 x11_2] (fun k_ => some k_ ≠ (.slice (some ad496) t493.length co9 : Value).ownBlock ∧ some k_ ≠ (v517 : Value).ownBlock ∧ some k_ ≠ (v521 : Value).ownBlock) (fun _ => False) rfl rfl ?aP (fun _ hk => hk.elim) ?aF ?aO ?aB ?aS ?aL ?_; (case aP => exact rfl); (case aB => exact (by repeat (first | (with_reducible first | exact HB.out | apply below_alloc | apply pw_below_drewN | apply below_drew1) | exact HB.out))); (case aF => exact (fun k_ hk => ⟨Kd.fresh' (Kd.R_lt (by (with_reducible repeat (first | apply Kd.R_alloc | apply Kd.R_drewN | apply Kd.R_drew)); exact HO_7.out)) k_ hk, Kd.fresh' (Kd.R_lt (by (with_reducible repeat (first | apply Kd.R_alloc | apply Kd.R_drewN | apply Kd.R_drew)); exact HO518.out)) k_ hk, Kd.fresh' (Kd.R_lt (by (with_reducible repeat (first | apply Kd.R_alloc | apply Kd.R_drewN | apply Kd.R_drew)); exact HO522.out)) k_ hk⟩)); (case aO => exact (by (with_reducible repeat (first | apply Kd.R_alloc | apply Kd.R_drewN | apply Kd.R_drew)); exact Kd.R_mono HO_5.out (fun _ hk => ⟨hk.1.1, ⟨hk.1.2, hk.2⟩⟩))); (case aS => exact (below_size (by repeat (first | (with_reducible first | exact HB.out | apply below_alloc | apply pw_below_drewN | apply below_drew1) | exact HB.out)))); (case aL => have := LMc36.out; omega); intro v524 w40 ho hb hg hat; rw [← Ny523.out] at ho; have n0_ := Aside0.mk (Kd.R_after (ok := (fun k_ => some k_ ≠ (v517 : Value).ownBlock ∧ some k_ ≠ (v521 : Value).ownBlock)) (by (with_reducible repeat (first | apply Kd.R_alloc | apply Kd.R_drewN | apply Kd.R_drew)); exact Kd.R_mono HO_7.out (fun _ hk => ⟨⟨hk.1.2, hk.2⟩, hk.1.1⟩)) hg hat); have n1_ := Aside0.mk (Kd.R_after (ok := (fun k_ => some k_ ≠ (.slice (some ad496) t493.length co9 : Value).ownBlock ∧ some k_ ≠ (v521 : Value).ownBlock)) (by (with_reducible repeat (first | apply Kd.R_alloc | apply Kd.R_drewN | apply Kd.R_drew)); exact Kd.R_mono HO518.out (fun _ hk => ⟨⟨hk.1.2, hk.2⟩, hk.1.1⟩)) hg hat); have n2_ := Aside0.mk (Kd.R_after (ok := (fun k_ => some k_ ≠ (.slice (some ad496) t493.length co9 : Value).ownBlock ∧ some k_ ≠ (v517 : Value).ownBlock)) (by (with_reducible repeat (first | apply Kd.R_alloc | apply Kd.R_drewN | apply Kd.R_drew)); exact Kd.R_mono HO522.out (fun _ hk => ⟨⟨hk.2.1, hk.2.2⟩, hk.1⟩)) hg hat); have n3_ := Aside0.mk (hb); have n4_ := Aside0.mk (ho); clear HO_7; clear HO518; clear HO522; clear HB; clear HO_5; have HO_7 := n0_; have HO518 := n1_; have HO522 := n2_; have HB := n3_; have HO525 := n4_; clear n0_ n1_ n2_ n3_ n4_; clear ho hb hg hat))
               go_roundg k2
               case measure => have := HK1.out; have := HK2.out; omega
               case rel => exact ⟨(y520), (y523), (y516), (t497), (wrap64 (x9_1 + 1)), (by first | rfl | (simp; done) | (simp [*]; done)), (by first | rfl | (simp; done) | (simp [*]; done)), H', ⟨by have := HK1.out; have := HK2.out; omega⟩, ⟨by (with_reducible repeat (first | apply Kd.R_alloc | apply Kd.R_drewN | apply Kd.R_drew)); exact Kd.R_mono HO522.out (fun _ hk => ⟨hk.2, ⟨hk.1.2, hk.1.1⟩⟩)⟩, ⟨by (with_reducible repeat (first | apply Kd.R_alloc | apply Kd.R_drewN | apply Kd.R_drew)); exact Kd.R_mono HO525.out (fun _ hk => ⟨hk.2.2, ⟨hk.2.1, hk.1⟩⟩)⟩, ⟨by (with_reducible repeat (first | apply Kd.R_alloc | apply Kd.R_drewN | apply Kd.R_drew)); exact Kd.R_mono HO518.out (fun _ hk => ⟨hk.1.2, ⟨hk.2, hk.1.1⟩⟩)⟩, ⟨by (with_reducible repeat (first | apply Kd.R_alloc | apply Kd.R_drewN | apply Kd.R_drew)); exact Kd.R_mono HO_7.out (fun _ hk => ⟨hk.1.2, ⟨hk.2, hk.1.1⟩⟩)⟩, ⟨by repeat (first | (with_reducible first | exact HB.out | apply below_alloc | apply pw_below_drewN | apply below_drew1) | exact HB.out)⟩⟩
              ·rw [if_neg c36] at H
               exact absurd H (by simp)
             ·rw [if_neg c35] at H
              exact absurd H (by simp)
            ·rw [if_neg c34] at H
             exact absurd H (by simp)
           ·rw [if_neg c33] at H
            exact absurd H (by simp)
          ·rw [if_neg c32] at H
           exact absurd H (by simp)
         ·rw [if_neg c31] at H
          have c31b0 : (x11_2 == (x6_1.length : Int)) = false := beq_eq_false_iff_ne.mpr c31
          have c31b1 : (x11_2 != (x6_1.length : Int)) = true := bne_iff_ne.mpr c31
          by_cases c41 : 0 ≤ x9_1
          ·rw [if_pos c41] at H
           have c41b0 : decide (0 ≤ x9_1) = true := decide_eq_true c41
           clear c41
           by_cases c42 : x9_1 < (t493.length : Int)
           ·rw [if_pos c42] at H
            have c42b0 : decide (x9_1 < (t493.length : Int)) = true := decide_eq_true c42
            clear c42
            by_cases c43 : x4_1.length < 17592186044416
            ·rw [if_pos c43] at H
             have LMc43 := Aside0.mk c43
             clear c43
             obtain ⟨y527, hy527⟩ : ∃ y_ : List Int, y_ = (x4_1 ++ [rd t493 x9_1]) := ⟨_, rfl⟩
             replace H : (if x5_1.length < 17592186044416 then (hyphenref4_Cuts.l0 k2 l0 y527 (x5_1 ++ [x11_2]) x6_1 t493 t497 (wrap64 (x9_1 + 1))) else (none)) = some (r1, r2) := by first | (rw [hy527]; with_reducible exact H) | (have H2_ := (Option.bind_some _ _).symm.trans H; rw [hy527]; with_reducible exact H2_) | (have H2_ := (Option.bind_some _ _).symm.trans H; with_reducible exact H2_) | with_reducible exact H | (rw [hy527]; exact H) | exact H
             have Ny527 := Aside0.mk hy527
             clear hy527
             by_cases c44 : x5_1.length < 17592186044416
             ·rw [if_pos c44] at H
              have LMc44 := Aside0.mk c44
              clear c44
              obtain ⟨y530, hy530⟩ : ∃ y_ : List Int, y_ = (x5_1 ++ [x11_2]) := ⟨_, rfl⟩
              replace H : (hyphenref4_Cuts.l0 k2 l0 y527 y530 x6_1 t493 t497 (wrap64 (x9_1 + 1))) = some (r1, r2) := by first | (rw [hy530]; with_reducible exact H) | (have H2_ := (Option.bind_some _ _).symm.trans H; rw [hy530]; with_reducible exact H2_) | (have H2_ := (Option.bind_some _ _).symm.trans H; with_reducible exact H2_) | with_reducible exact H | (rw [hy530]; exact H) | exact H
              have Ny530 := Aside0.mk hy530
              clear hy530
              have H' := Aside0.mk H
              clear H
              obtain ⟨Ao45, co45, eo45⟩ := Kd.R_slice HO_6.out
              subst eo45
              have p526 : 0 ≤ (x9_1 : Int) := of_decide_eq_true (by first | (with_reducible assumption) | assumption)
              have q526 : x9_1 < (t493.length : Int) := of_decide_eq_true (by first | (with_reducible assumption) | assumption)
              obtain ⟨ad526, e526, hx526_0⟩ := Kd.at_int (Kd.R_reads' HO_7.out).2.2 x9_1 p526 q526
              obtain rfl : ad496 = ad526 := (by injection e526)
              replace p526 := eq_true p526
              replace q526 := eq_true q526
              go_wp2_with (first | ((with_reducible refine gate_builtin (b := .append) (xs := #[.tmp 52, .tmp 57]) rfl ?_); at_builtin; refine Kd.R_append (Kd.int .i64) (w0 := w) w.heap.size rfl (.tmp 52) (.tmp 57) 22 3 (.int .i64 0) 8 rfl Try.underlying22 info3 rfl (by decide) (by omega) u4 x4_1 (rd t493 x9_1) [.int .i64 (rd t493 x9_1)] (fun k_ => some k_ ≠ (u5 : Value).ownBlock ∧ some k_ ≠ (.slice Ao45 x6_1.length co45 : Value).ownBlock ∧ some k_ ≠ (.slice (some ad496) t493.length co9 : Value).ownBlock) (fun _ => False) rfl rfl ?aP (fun _ hk => hk.elim) ?aF ?aO ?aB ?aS ?aL ?_; (case aP => exact rfl); (case aB => exact (by repeat (first | (with_reducible first | exact HB.out | apply below_alloc | apply pw_below_drewN | apply below_drew1) | exact HB.out))); (case aF => exact (fun k_ hk => ⟨Kd.fresh' (Kd.R_lt (by (with_reducible repeat (first | apply Kd.R_alloc | apply Kd.R_drewN | apply Kd.R_drew)); exact HO_5.out)) k_ hk, Kd.fresh' (Kd.R_lt (by (with_reducible repeat (first | apply Kd.R_alloc | apply Kd.R_drewN | apply Kd.R_drew)); exact HO_6.out)) k_ hk, Kd.fresh' (Kd.R_lt (by (with_reducible repeat (first | apply Kd.R_alloc | apply Kd.R_drewN | apply Kd.R_drew)); exact HO_7.out)) k_ hk⟩)); (case aO => exact (by (with_reducible repeat (first | apply Kd.R_alloc | apply Kd.R_drewN | apply Kd.R_drew)); exact HO_4.out)); (case aS => exact (below_size (by repeat (first | (with_reducible first | exact HB.out | apply below_alloc | apply pw_below_drewN | apply below_drew1) | exact HB.out)))); (case aL => have := LMc43.out; omega); intro v528 w46 ho hb hg hat; rw [← Ny527.out] at ho; have n0_ := Aside0.mk (Kd.R_after (ok := (fun k_ => some k_ ≠ (.slice Ao45 x6_1.length co45 : Value).ownBlock ∧ some k_ ≠ (.slice (some ad496) t493.length co9 : Value).ownBlock)) (by (with_reducible repeat (first | apply Kd.R_alloc | apply Kd.R_drewN | apply Kd.R_drew)); exact Kd.R_mono HO_5.out (fun _ hk => ⟨⟨hk.2.1, hk.2.2⟩, hk.1⟩)) hg hat); have n1_ := Aside0.mk (Kd.R_after (ok := (fun k_ => some k_ ≠ (u5 : Value).ownBlock ∧ some k_ ≠ (.slice (some ad496) t493.length co9 : Value).ownBlock)) (by (with_reducible repeat (first | apply Kd.R_alloc | apply Kd.R_drewN | apply Kd.R_drew)); exact Kd.R_mono HO_6.out (fun _ hk => ⟨⟨hk.2.1, hk.2.2⟩, hk.1⟩)) hg hat); have n2_ := Aside0.mk (Kd.R_after (ok := (fun k_ => some k_ ≠ (u5 : Value).ownBlock ∧ some k_ ≠ (.slice Ao45 x6_1.length co45 : Value).ownBlock)) (by (with_reducible repeat (first | apply Kd.R_alloc | apply Kd.R_drewN | apply Kd.R_drew)); exact Kd.R_mono HO_7.out (fun _ hk => ⟨⟨hk.2.1, hk.2.2⟩, hk.1⟩)) hg hat); have n3_ := Aside0.mk (hb); have n4_ := Aside0.mk (ho); clear HO_5; clear HO_6; clear HO_7; clear HB; clear HO_4; have HO_5 := n0_; have HO_6 := n1_; have HO_7 := n2_; have HB := n3_; have HO529 := n4_; clear n0_ n1_ n2_ n3_ n4_; clear ho hb hg hat) | ((with_reducible refine gate_builtin (b := .append) (xs := #[.tmp 59, .tmp 61]) rfl ?_); at_builtin; refine Kd.R_append (Kd.int .i64) (w0 := w) w.heap.size rfl (.tmp 59) (.tmp 61) 22 3 (.int .i64 0) 8 rfl Try.underlying22 info3 rfl (by decide) (by omega) u5 x5_1 x11_2 [.int .i64 x11_2] (fun k_ => some k_ ≠ (.slice Ao45 x6_1.length co45 : Value).ownBlock ∧ some k_ ≠ (.slice (some ad496) t493.length co9 : Value).ownBlock ∧ some k_ ≠ (v528 : Value).ownBlock) (fun _ => False) rfl rfl ?aP (fun _ hk => hk.elim) ?aF ?aO ?aB ?aS ?aL ?_; (case aP => exact rfl); (case aB => exact (by repeat (first | (with_reducible first | exact HB.out | apply below_alloc | apply pw_below_drewN | apply below_drew1) | exact HB.out))); (case aF => exact (fun k_ hk => ⟨Kd.fresh' (Kd.R_lt (by (with_reducible repeat (first | apply Kd.R_alloc | apply Kd.R_drewN | apply Kd.R_drew)); exact HO_6.out)) k_ hk, Kd.fresh' (Kd.R_lt (by (with_reducible repeat (first | apply Kd.R_alloc | apply Kd.R_drewN | apply Kd.R_drew)); exact HO_7.out)) k_ hk, Kd.fresh' (Kd.R_lt (by (with_reducible repeat (first | apply Kd.R_alloc | apply Kd.R_drewN | apply Kd.R_drew)); exact HO529.out)) k_ hk⟩)); (case aO => exact (by (with_reducible repeat (first | apply Kd.R_alloc | apply Kd.R_drewN | apply Kd.R_drew)); exact Kd.R_mono HO_5.out (fun _ hk => ⟨hk.1.1, ⟨hk.1.2, hk.2⟩⟩))); (case aS => exact (below_size (by repeat (first | (with_reducible first | exact HB.out | apply below_alloc | apply pw_below_drewN | apply below_drew1) | exact HB.out)))); (case aL => have := LMc44.out; omega); intro v531 w47 ho hb hg hat; rw [← Ny530.out] at ho; have n0_ := Aside0.mk (Kd.R_after (ok := (fun k_ => some k_ ≠ (.slice (some ad496) t493.length co9 : Value).ownBlock ∧ some k_ ≠ (v528 : Value).ownBlock)) (by (with_reducible repeat (first | apply Kd.R_alloc | apply Kd.R_drewN | apply Kd.R_drew)); exact Kd.R_mono HO_6.out (fun _ hk => ⟨⟨hk.1.2, hk.2⟩, hk.1.1⟩)) hg hat); have n1_ := Aside0.mk (Kd.R_after (ok := (fun k_ => some k_ ≠ (.slice Ao45 x6_1.length co45 : Value).ownBlock ∧ some k_ ≠ (v528 : Value).ownBlock)) (by (with_reducible repeat (first | apply Kd.R_alloc | apply Kd.R_drewN | apply Kd.R_drew)); exact Kd.R_mono HO_7.out (fun _ hk => ⟨⟨hk.1.2, hk.2⟩, hk.1.1⟩)) hg hat); have n2_ := Aside0.mk (Kd.R_after (ok := (fun k_ => some k_ ≠ (.slice Ao45 x6_1.length co45 : Value).ownBlock ∧ some k_ ≠ (.slice (some ad496) t493.length co9 : Value).ownBlock)) (by (with_reducible repeat (first | apply Kd.R_alloc | apply Kd.R_drewN | apply Kd.R_drew)); exact Kd.R_mono HO529.out (fun _ hk => ⟨⟨hk.2.1, hk.2.2⟩, hk.1⟩)) hg hat); have n3_ := Aside0.mk (hb); have n4_ := Aside0.mk (ho); clear HO_6; clear HO_7; clear HO529; clear HB; clear HO_5; have HO_6 := n0_; have HO_7 := n1_; have HO529 := n2_; have HB := n3_; have HO532 := n4_; clear n0_ n1_ n2_ n3_ n4_; clear ho hb hg hat))
              go_roundg k2
              case measure => have := HK1.out; have := HK2.out; omega
              case rel => exact ⟨(y527), (y530), (x6_1), (t497), (wrap64 (x9_1 + 1)), (by first | rfl | (simp; done) | (simp [*]; done)), (by first | rfl | (simp; done) | (simp [*]; done)), H', ⟨by have := HK1.out; have := HK2.out; omega⟩, ⟨by (with_reducible repeat (first | apply Kd.R_alloc | apply Kd.R_drewN | apply Kd.R_drew)); exact Kd.R_mono HO529.out (fun _ hk => ⟨hk.2, ⟨hk.1.1, hk.1.2⟩⟩)⟩, ⟨by (with_reducible repeat (first | apply Kd.R_alloc | apply Kd.R_drewN | apply Kd.R_drew)); exact Kd.R_mono HO532.out (fun _ hk => ⟨hk.2.2, ⟨hk.1, hk.2.1⟩⟩)⟩, ⟨by (with_reducible repeat (first | apply Kd.R_alloc | apply Kd.R_drewN | apply Kd.R_drew)); exact Kd.R_mono HO_6.out (fun _ hk => ⟨hk.1.2, ⟨hk.2, hk.1.1⟩⟩)⟩, ⟨by (with_reducible repeat (first | apply Kd.R_alloc | apply Kd.R_drewN | apply Kd.R_drew)); exact Kd.R_mono HO_7.out (fun _ hk => ⟨hk.1.2, ⟨hk.2, hk.1.1⟩⟩)⟩, ⟨by repeat (first | (with_reducible first | exact HB.out | apply below_alloc | apply pw_below_drewN | apply below_drew1) | exact HB.out)⟩⟩
             ·rw [if_neg c44] at H
              exact absurd H (by simp)
            ·rw [if_neg c43] at H
             exact absurd H (by simp)
           ·rw [if_neg c42] at H
            exact absurd H (by simp)
          ·rw [if_neg c41] at H
           exact absurd H (by simp)
    ·rw [if_neg c5] at H
     exact absurd H (by simp)
   ·rw [if_neg c4] at H
    have c4b0 : decide (x9_1 < (t493.length : Int)) = false := decide_eq_false c4
    clear c4
    simp only [Option.some.injEq, Prod.mk.injEq] at H
    obtain ⟨rfl, rfl⟩ := H
    obtain ⟨Ao48, co48, eo48⟩ := Kd.R_slice HO_7.out
    subst eo48
    go_wp2
    go_ret2
    exact ⟨_, _, by first | rfl | (simp [errW_none, errW_some] <;> rfl) | (simp [*, errW_none, errW_some] <;> rfl), by (with_reducible repeat (first | apply Kd.R_alloc | apply Kd.R_drewN | apply Kd.R_drew)); exact Kd.R_mono HO_4.out (fun _ hk => hk.1), by (with_reducible repeat (first | apply Kd.R_alloc | apply Kd.R_drewN | apply Kd.R_drew)); exact Kd.R_mono HO_5.out (fun _ hk => hk.1), by repeat (first | (with_reducible first | exact HB.out | apply below_alloc | apply pw_below_drewN | apply below_drew1) | exact HB.out)⟩

/-! ### hyphenref4_Count: function 17 -/
def hyphenref4_Count.l0 : Nat → List Int → Int → Int → Option (Int)
 | 0, _, _, _ => none
 | k + 1, x0, x3, x4 => if x4 < (x0.length : Int) then (if 0 ≤ x4 then (hyphenref4_Count.l0 k x0 (mx x3 (wrap64 ((rd x0 x4) + 1))) (wrap64 (x4 + 1))) else (none)) else (some x3)
def hyphenref4_Count.f (k : Nat) (l0 : List Int) : Option (Int) := hyphenref4_Count.l0 k l0 0 0
theorem hyphenref4_Count.mono_l : ∀ k, (∀ y0 y1 y2, LeO (hyphenref4_Count.l0 k y0 y1 y2) (hyphenref4_Count.l0 (k + 1) y0 y1 y2))
 | 0 => fun _ _ _ r h => by simp [hyphenref4_Count.l0] at h
 | k + 1 => by
  have ih0 := hyphenref4_Count.mono_l k
  ·intro y0 y1 y2
   unfold hyphenref4_Count.l0
   repeat' first
   | (with_reducible exact ih0 _ _ _)
   | (with_reducible exact LeO.refl _)
   | (with_reducible exact LeO.none _)
   | (with_reducible refine LeO.ite ?_ ?_)
   | (with_reducible refine LeO.bind ?_ (fun _ => ?_))
   | exact ih0 _ _ _
   | exact LeO.none _
   | refine LeO.ite ?_ ?_
   | refine LeO.bind ?_ (fun _ => ?_)
theorem hyphenref4_Count.mono : ∀ a0 k, LeO (hyphenref4_Count.f k a0) (hyphenref4_Count.f (k + 1) a0) := by
 intro a0 k
 have ih0 := hyphenref4_Count.mono_l k
 unfold hyphenref4_Count.f
 repeat' first
   | (with_reducible exact ih0 _ _ _)
   | (with_reducible exact LeO.refl _)
   | (with_reducible exact LeO.none _)
   | (with_reducible refine LeO.ite ?_ ?_)
   | (with_reducible refine LeO.bind ?_ (fun _ => ?_))
   | exact ih0 _ _ _
   | exact LeO.none _
   | refine LeO.ite ?_ ?_
   | refine LeO.bind ?_ (fun _ => ?_)
set_option maxHeartbeats 8000000 in
set_option maxRecDepth 100000 in
theorem hyphenref4_Count.calls (k : Nat) (A0 : Option Addr) (c0 : Nat) (l0 : List Int) (r : Int) (w : World) (hr0 : Kd.C (Kd.int .i64) w A0 l0.length l0) (hc0 : l0.length ≤ c0) (h : hyphenref4_Count.f k l0 = some r) :
  Calls Try.prog 17 #[.slice A0 l0.length c0] w fun e w' => e = .returned (.int .i64 r) ∧ Below w.heap.size w w' := by
 have HR0 := Aside0.mk hr0
 have HC0 := Aside0.mk hc0
 clear hr0 hc0
 have HB := Aside0.mk (Below.refl w.heap.size w)
 have H : (hyphenref4_Count.l0 k l0 0 0) = some r := h
 clear h
 have H' := Aside0.mk H
 clear H
 go_enter Try.func17, Try.ntmps17
 go_wp2
 go_loopg [3, 4] k (fun kq v3 v4 w' => ∃ (x3_1 : Int) (x4_1 : Int), v3 = .int .i64 x3_1 ∧ v4 = .int .i64 x4_1 ∧ Aside0 (hyphenref4_Count.l0 kq l0 x3_1 x4_1 = some r) ∧ Aside0 (kq ≤ k) ∧ Aside0 (Below w.heap.size w w'))
 case atStart => exact ⟨(0), (0), (by first | rfl | (simp; done) | (simp [*]; done)), (by first | rfl | (simp; done) | (simp [*]; done)), H', ⟨Nat.le_refl _⟩, ⟨by repeat (first | (with_reducible first | exact HB.out | apply below_alloc | apply pw_below_drewN | apply below_drew1) | exact HB.out)⟩⟩
 case round =>
  clear H'
  try clear c1
  obtain ⟨x3_1, x4_1, rfl, rfl, HA, HK1, HB⟩ := hrel
  cases gk with
  | zero => exact absurd HA.out (by simp [hyphenref4_Count.l0])
  | succ k1 =>
   have H := HA.out
   clear HA
   simp only [hyphenref4_Count.l0] at H
   by_cases c2 : x4_1 < (l0.length : Int)
   ·rw [if_pos c2] at H
    have c2b0 : decide (x4_1 < (l0.length : Int)) = true := decide_eq_true c2
    clear c2
    by_cases c3 : 0 ≤ x4_1
    ·rw [if_pos c3] at H
     have c3b0 : decide (0 ≤ x4_1) = true := decide_eq_true c3
     clear c3
     obtain ⟨ji4, hji4⟩ : ∃ j_ : Int, (mx x3_1 (wrap64 ((rd l0 x4_1) + 1))) = j_ := ⟨_, rfl⟩
     replace H : (hyphenref4_Count.l0 k1 l0 ji4 (wrap64 (x4_1 + 1))) = some r := by first | (rw [hji4] at H; exact H) | (simp only [hji4] at H ⊢; exact H)
     have hji4_ : (if x3_1 < (wrap64 ((rd l0 x4_1) + 1)) then (wrap64 ((rd l0 x4_1) + 1)) else x3_1) = ji4 := hji4
     have H' := Aside0.mk H
     clear H
     have p533 : 0 ≤ (x4_1 : Int) := of_decide_eq_true (by first | (with_reducible assumption) | assumption)
     have q533 : x4_1 < (l0.length : Int) := of_decide_eq_true (by first | (with_reducible assumption) | assumption)
     obtain ⟨ad533, e533, hx533_0⟩ := Kd.at_int HR0.out x4_1 p533 q533
     cases e533
     replace hx533_0 := (HB.out.cell (World.block_lt_of_cell? w _ hx533_0)).trans hx533_0
     replace p533 := eq_true p533
     replace q533 := eq_true q533
     go_wp2
     go_roundg k1
     case measure => have := HK1.out; omega
     case rel => exact ⟨(ji4), (wrap64 (x4_1 + 1)), (by first | rfl | (simp; done) | (simp only [← hji4] <;> (first | rfl | simp)) | (simp [*]; done)), (by first | rfl | (simp; done) | (simp [*]; done)), H', ⟨by have := HK1.out; omega⟩, ⟨by repeat (first | (with_reducible first | exact HB.out | apply below_alloc | apply pw_below_drewN | apply below_drew1) | exact HB.out)⟩⟩
    ·rw [if_neg c3] at H
     exact absurd H (by simp)
   ·rw [if_neg c2] at H
    have c2b0 : decide (x4_1 < (l0.length : Int)) = false := decide_eq_false c2
    clear c2
    obtain rfl := Option.some.inj H
    go_wp2
    go_ret
    exact ⟨by first | rfl | (simp [errW_none, errW_some] <;> rfl) | (simp [*, errW_none, errW_some] <;> rfl), by repeat (first | (with_reducible first | exact HB.out | apply below_alloc | apply pw_below_drewN | apply below_drew1) | exact HB.out)⟩

end Go.Proofs.Yteogcjckhoakbaa.P
