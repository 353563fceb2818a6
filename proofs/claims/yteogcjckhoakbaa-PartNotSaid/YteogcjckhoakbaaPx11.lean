-- Written by wip/xprint.py (a program of this repo) out of the translation; Lean checks it.
import Derived.Test.YteogcjckhoakbaaPx0
import Derived.Test.YteogcjckhoakbaaPx2
import Derived.Test.YteogcjckhoakbaaPx3
import Derived.Test.YteogcjckhoakbaaPx5
import Derived.Test.YteogcjckhoakbaaPx6
import Derived.Test.YteogcjckhoakbaaPx8
namespace Go.Proofs.Yteogcjckhoakbaa.P
open Go.RowKit Go.Proofs.YteogcjckhoakbaaW.PrintWords Go.Proofs.YteogcjckhoakbaaW.PrintLast Go.Proofs.YteogcjckhoakbaaW.PrintMore
attribute [local go_sem] max2_int min2_int max_two min_two max_three min_three max_four min_four   -- for this text's walks alone
attribute [local go_sem ↓ high] Go.Proofs.YteogcjckhoakbaaX.isSome_setCell
set_option linter.unusedVariables false
set_option linter.unusedSimpArgs false

/-! ### hyphenref1_Ints: function 15 -/
def hyphenref1_Ints.l0 : Nat → List Int → List Int → Int → Option (Bool)
  | 0, _, _, _ => none
  | k + 1, x0, x1, x5 => if x5 < (x0.length : Int) then (if 0 ≤ x5 then (if x5 < (x1.length : Int) then (if (rd x0 x5) = (rd x1 x5) then (hyphenref1_Ints.l0 k x0 x1 (wrap64 (x5 + 1))) else (some false)) else (none)) else (none)) else (some true)
def hyphenref1_Ints.f (k : Nat) (l0 : List Int) (l1 : List Int) : Option (Bool) := if (l0.length : Int) = (l1.length : Int) then (hyphenref1_Ints.l0 k l0 l1 0) else (some false)
theorem hyphenref1_Ints.mono_l : ∀ k, (∀ y0 y1 y2, LeO (hyphenref1_Ints.l0 k y0 y1 y2) (hyphenref1_Ints.l0 (k + 1) y0 y1 y2))
  | 0 => fun _ _ _ r h => by simp [hyphenref1_Ints.l0] at h
  | k + 1 => by
    have ih0 := hyphenref1_Ints.mono_l k
    · intro y0 y1 y2
      unfold hyphenref1_Ints.l0
      repeat' first
      | (with_reducible exact ih0 _ _ _)
      | (with_reducible exact LeO.refl _)
      | (with_reducible exact LeO.none _)
      | (with_reducible refine LeO.ite ?_ ?_)
      | (with_reducible refine LeO.bind ?_ (fun _ => ?_))
      | exact ih0 _ _ _
      | exact LeO.none _
      | refine LeO.ite ?_ ?_
      | refine LeO.bind ?_ (fun _ => ?_)
theorem hyphenref1_Ints.mono : ∀ a0 a1 k, LeO (hyphenref1_Ints.f k a0 a1) (hyphenref1_Ints.f (k + 1) a0 a1) := by
  intro a0 a1 k
  have ih0 := hyphenref1_Ints.mono_l k
  unfold hyphenref1_Ints.f
  repeat' first
      | (with_reducible exact ih0 _ _ _)
      | (with_reducible exact LeO.refl _)
      | (with_reducible exact LeO.none _)
      | (with_reducible refine LeO.ite ?_ ?_)
      | (with_reducible refine LeO.bind ?_ (fun _ => ?_))
      | exact ih0 _ _ _
      | exact LeO.none _
      | refine LeO.ite ?_ ?_
      | refine LeO.bind ?_ (fun _ => ?_)
set_option maxHeartbeats 8000000 in
set_option maxRecDepth 100000 in
theorem hyphenref1_Ints.calls (k : Nat) (A0 : Option Addr) (c0 : Nat) (l0 : List Int) (A1 : Option Addr) (c1 : Nat) (l1 : List Int) (r : Bool) (w : World) (hr0 : Kd.C (Kd.int .i64) w A0 l0.length l0) (hc0 : l0.length ≤ c0) (hr1 : Kd.C (Kd.int .i64) w A1 l1.length l1) (hc1 : l1.length ≤ c1) (h : hyphenref1_Ints.f k l0 l1 = some r) :
    Calls Try.prog 15 #[.slice A0 l0.length c0, .slice A1 l1.length c1] w fun e w' => e = .returned (.bool r) ∧ Drawn0 w w' := by
  have HR0 := Aside0.mk hr0
  have HC0 := Aside0.mk hc0
  clear hr0 hc0
  have HR1 := Aside0.mk hr1
  have HC1 := Aside0.mk hc1
  clear hr1 hc1
  have H : (if (l0.length : Int) = (l1.length : Int) then (hyphenref1_Ints.l0 k l0 l1 0) else (some false)) = some r := h
  clear h
  by_cases c3 : (l0.length : Int) = (l1.length : Int)
  · rw [if_pos c3] at H
    have c3b0 : ((l0.length : Int) == (l1.length : Int)) = true := beq_iff_eq.mpr c3
    have c3b1 : ((l0.length : Int) != (l1.length : Int)) = false := bne_eq_false_iff_eq.mpr c3
    have c3b2 : (l0.length == l1.length) = true := by first | simpa using c3 | (simp at c3 ⊢; omega)
    clear c3
    have H' := Aside0.mk H
    clear H
    go_enter Try.func15, Try.ntmps15
    go_wp2
    repeat (go_quiet (fail); try go_wp2)
    go_loopg [5] k (fun kq v5 w' => ∃ (x5_1 : Int), v5 = .int .i64 x5_1 ∧ Aside0 (hyphenref1_Ints.l0 kq l0 l1 x5_1 = some r) ∧ Aside0 (kq ≤ k) ∧ Drawn0 w w')
    case atStart => exact ⟨(0), (by first | rfl | (simp; done) | (simp [*]; done)), H', ⟨Nat.le_refl _⟩, by repeat (first | exact Drawn0.refl _ | apply Drawn0.step)⟩
    case round =>
      clear H'
      try clear c1
      try clear p2
      try clear c3
      try clear c3b0
      try clear c3b1
      try clear c3b2
      obtain ⟨x5_1, rfl, HA, HK1, ⟨m1, rfl⟩⟩ := hrel
      cases gk with
      | zero => exact absurd HA.out (by simp [hyphenref1_Ints.l0])
      | succ k1 =>
        have H := HA.out
        clear HA
        simp only [hyphenref1_Ints.l0] at H
        by_cases c4 : x5_1 < (l0.length : Int)
        · rw [if_pos c4] at H
          have c4b0 : decide (x5_1 < (l0.length : Int)) = true := decide_eq_true c4
          clear c4
          by_cases c5 : 0 ≤ x5_1
          · rw [if_pos c5] at H
            have c5b0 : decide (0 ≤ x5_1) = true := decide_eq_true c5
            clear c5
            by_cases c6 : x5_1 < (l1.length : Int)
            · rw [if_pos c6] at H
              have c6b0 : decide (x5_1 < (l1.length : Int)) = true := decide_eq_true c6
              clear c6
              by_cases c7 : (rd l0 x5_1) = (rd l1 x5_1)
              · rw [if_pos c7] at H
                have c7b0 : ((rd l0 x5_1) == (rd l1 x5_1)) = true := beq_iff_eq.mpr c7
                have c7b1 : ((rd l0 x5_1) != (rd l1 x5_1)) = false := bne_eq_false_iff_eq.mpr c7
                clear c7
                have H' := Aside0.mk H
                clear H
                have p415 : 0 ≤ (x5_1 : Int) := of_decide_eq_true (by first | (with_reducible assumption) | assumption)
                have q415 : x5_1 < (l0.length : Int) := of_decide_eq_true (by first | (with_reducible assumption) | assumption)
                obtain ⟨ad415, e415, hx415_0⟩ := Kd.at_int HR0.out x5_1 p415 q415
                cases e415
                replace p415 := eq_true p415
                replace q415 := eq_true q415
                have p416 : 0 ≤ (x5_1 : Int) := of_decide_eq_true (by first | (with_reducible assumption) | assumption)
                have q416 : x5_1 < (l1.length : Int) := of_decide_eq_true (by first | (with_reducible assumption) | assumption)
                obtain ⟨ad416, e416, hx416_0⟩ := Kd.at_int HR1.out x5_1 p416 q416
                cases e416
                replace p416 := eq_true p416
                replace q416 := eq_true q416
                go_wp2
                repeat (go_quiet (fail); try go_wp2)
                go_roundg k1
                case measure => have := HK1.out; omega
                case rel => exact ⟨(wrap64 (x5_1 + 1)), (by first | rfl | (simp; done) | (simp [*]; done)), H', ⟨by have := HK1.out; omega⟩, by repeat (first | exact Drawn0.refl _ | apply Drawn0.step)⟩
              · rw [if_neg c7] at H
                have c7b0 : ((rd l0 x5_1) == (rd l1 x5_1)) = false := beq_eq_false_iff_ne.mpr c7
                have c7b1 : ((rd l0 x5_1) != (rd l1 x5_1)) = true := bne_iff_ne.mpr c7
                obtain rfl := Option.some.inj H
                have p415 : 0 ≤ (x5_1 : Int) := of_decide_eq_true (by first | (with_reducible assumption) | assumption)
                have q415 : x5_1 < (l0.length : Int) := of_decide_eq_true (by first | (with_reducible assumption) | assumption)
                obtain ⟨ad415, e415, hx415_0⟩ := Kd.at_int HR0.out x5_1 p415 q415
                cases e415
                replace p415 := eq_true p415
                replace q415 := eq_true q415
                have p416 : 0 ≤ (x5_1 : Int) := of_decide_eq_true (by first | (with_reducible assumption) | assumption)
                have q416 : x5_1 < (l1.length : Int) := of_decide_eq_true (by first | (with_reducible assumption) | assumption)
                obtain ⟨ad416, e416, hx416_0⟩ := Kd.at_int HR1.out x5_1 p416 q416
                cases e416
                replace p416 := eq_true p416
                replace q416 := eq_true q416
                go_wp2
                repeat (go_quiet (fail); try go_wp2)
                go_ret
                exact ⟨by first | rfl | (simp; done) | (simp [*]; done), by repeat (first | exact Drawn0.refl _ | apply Drawn0.step)⟩
            · rw [if_neg c6] at H
              exact absurd H (by simp)
          · rw [if_neg c5] at H
            exact absurd H (by simp)
        · rw [if_neg c4] at H
          have c4b0 : decide (x5_1 < (l0.length : Int)) = false := decide_eq_false c4
          clear c4
          obtain rfl := Option.some.inj H
          go_wp2
          repeat (go_quiet (fail); try go_wp2)
          go_ret
          exact ⟨by first | rfl | (simp; done) | (simp [*]; done), by repeat (first | exact Drawn0.refl _ | apply Drawn0.step)⟩
  · rw [if_neg c3] at H
    have c3b0 : ((l0.length : Int) == (l1.length : Int)) = false := beq_eq_false_iff_ne.mpr c3
    have c3b1 : ((l0.length : Int) != (l1.length : Int)) = true := bne_iff_ne.mpr c3
    have c3b2 : (l0.length == l1.length) = false := by first | simpa using c3 | (simp at c3 ⊢; omega)
    obtain rfl := Option.some.inj H
    go_enter Try.func15, Try.ntmps15
    go_wp2
    repeat (go_quiet (fail); try go_wp2)
    go_ret
    exact ⟨by first | rfl | (simp; done) | (simp [*]; done), by repeat (first | exact Drawn0.refl _ | apply Drawn0.step)⟩

/-! ### hyphenref3_Not: function 24 -/
def hyphenref3_Not.l0 : Nat → List (S44) → List (S44) → Int → Int → Option ((List (S44)))
  | 0, _, _, _, _ => none
  | k + 1, x0, x3, x4, x5 => if x5 < (x0.length : Int) then (if 0 ≤ x5 then (if x3.length < 8796093022208 then (hyphenref3_Not.l0 k x0 (x3 ++ [(⟨x4, wrap64 (((rd_T44 x0 x5).f0) - 1)⟩ : S44)]) (wrap64 (((rd_T44 x0 x5).f1) + 1)) (wrap64 (x5 + 1))) else (none)) else (none)) else (if x3.length < 8796093022208 then ((hyphenref3_Norm.f k (x3 ++ [(⟨x4, 1114111⟩ : S44)])).bind fun t425 => (some t425)) else (none))
def hyphenref3_Not.f (k : Nat) (l0 : List (S44)) : Option ((List (S44))) := hyphenref3_Not.l0 k l0 ([] : List (S44)) 0 0
theorem hyphenref3_Not.mono_l : ∀ k, (∀ y0 y1 y2 y3, LeO (hyphenref3_Not.l0 k y0 y1 y2 y3) (hyphenref3_Not.l0 (k + 1) y0 y1 y2 y3))
  | 0 => fun _ _ _ _ r h => by simp [hyphenref3_Not.l0] at h
  | k + 1 => by
    have ih0 := hyphenref3_Not.mono_l k
    · intro y0 y1 y2 y3
      unfold hyphenref3_Not.l0
      repeat' first
      | (with_reducible exact ih0 _ _ _ _)
      | (with_reducible exact hyphenref3_Norm.mono _ _)
      | (with_reducible exact LeO.refl _)
      | (with_reducible exact LeO.none _)
      | (with_reducible refine LeO.ite ?_ ?_)
      | (with_reducible refine LeO.bind ?_ (fun _ => ?_))
      | exact ih0 _ _ _ _
      | exact hyphenref3_Norm.mono _ _
      | exact LeO.none _
      | refine LeO.ite ?_ ?_
      | refine LeO.bind ?_ (fun _ => ?_)
theorem hyphenref3_Not.mono : ∀ a0 k, LeO (hyphenref3_Not.f k a0) (hyphenref3_Not.f (k + 1) a0) := by
  intro a0 k
  have ih0 := hyphenref3_Not.mono_l k
  unfold hyphenref3_Not.f
  repeat' first
      | (with_reducible exact ih0 _ _ _ _)
      | (with_reducible exact hyphenref3_Norm.mono _ _)
      | (with_reducible exact LeO.refl _)
      | (with_reducible exact LeO.none _)
      | (with_reducible refine LeO.ite ?_ ?_)
      | (with_reducible refine LeO.bind ?_ (fun _ => ?_))
      | exact ih0 _ _ _ _
      | exact hyphenref3_Norm.mono _ _
      | exact LeO.none _
      | refine LeO.ite ?_ ?_
      | refine LeO.bind ?_ (fun _ => ?_)
set_option maxHeartbeats 8000000 in
set_option maxRecDepth 100000 in
theorem hyphenref3_Not.calls (k : Nat) (A0 : Option Addr) (c0 : Nat) (l0 : List (S44)) (r : List (S44)) (w : World) (hr0 : Kd.C k44 w A0 l0.length l0) (hc0 : l0.length ≤ c0) (h : hyphenref3_Not.f k l0 = some r) :
    Calls Try.prog 24 #[.slice A0 l0.length c0] w fun e w' => ∃ v0_ : Value, e = .returned (v0_) ∧ Kd.R k44 44 w' w.heap.size (fun _ => True) v0_ r ∧ Below w.heap.size w w' := by
  have hu44 := Try.underlying44
  have HR0 := Aside0.mk hr0
  have HC0 := Aside0.mk hc0
  clear hr0 hc0
  have HB := Aside0.mk (Below.refl w.heap.size w)
  have H : (hyphenref3_Not.l0 k l0 ([] : List (S44)) 0 0) = some r := h
  clear h
  have H' := Aside0.mk H
  clear H
  go_enter Try.func24, Try.ntmps24
  go_wp2
  go_loopg [3, 4, 5] k (fun kq v3 v4 v5 w' => ∃ (x3_1 : List (S44)) (x4_1 : Int) (x5_1 : Int), v4 = .int .i64 x4_1 ∧ v5 = .int .i64 x5_1 ∧ Aside0 (hyphenref3_Not.l0 kq l0 x3_1 x4_1 x5_1 = some r) ∧ Aside0 (kq ≤ k) ∧ Aside0 (Kd.R k44 44 w' w.heap.size (fun _ => True) v3 x3_1) ∧ Aside0 (Below w.heap.size w w'))
  case atStart => exact ⟨(([] : List (S44))), (0), (0), (by first | rfl | (simp; done) | (simp [*]; done)), (by first | rfl | (simp; done) | (simp [*]; done)), H', ⟨Nat.le_refl _⟩, ⟨by first | exact Kd.R_nil _ _ _ _ _ | exact Kd.N_nil _ _ _ _ _ | exact Kd.V_nil _ _ _ _ _ | exact Kd.Q_nil _ _ _ _ _ | exact Kd.S_nil _ _ _ _ _⟩, ⟨by repeat (first | (with_reducible first | exact HB.out | apply below_alloc | apply pw_below_drewN | apply below_drew1) | exact HB.out)⟩⟩
  case round =>
    clear H'
    obtain ⟨x3_1, x4_1, x5_1, rfl, rfl, HA, HK1, HO_3, HB⟩ := hrel
    cases gk with
    | zero => exact absurd HA.out (by simp [hyphenref3_Not.l0])
    | succ k1 =>
      have H := HA.out
      clear HA
      simp only [hyphenref3_Not.l0] at H
      by_cases c2 : x5_1 < (l0.length : Int)
      · rw [if_pos c2] at H
        have c2b0 : decide (x5_1 < (l0.length : Int)) = true := decide_eq_true c2
        clear c2
        by_cases c3 : 0 ≤ x5_1
        · rw [if_pos c3] at H
          have c3b0 : decide (0 ≤ x5_1) = true := decide_eq_true c3
          clear c3
          by_cases c4 : x3_1.length < 8796093022208
          · rw [if_pos c4] at H
            have LMc4 := Aside0.mk c4
            clear c4
            obtain ⟨y418, hy418⟩ : ∃ y_ : List (S44), y_ = (x3_1 ++ [(⟨x4_1, wrap64 (((rd_T44 l0 x5_1).f0) - 1)⟩ : S44)]) := ⟨_, rfl⟩
            replace H : (hyphenref3_Not.l0 k1 l0 y418 (wrap64 (((rd_T44 l0 x5_1).f1) + 1)) (wrap64 (x5_1 + 1))) = some r := by first | (rw [hy418]; with_reducible exact H) | (have H2_ := (Option.bind_some _ _).symm.trans H; rw [hy418]; with_reducible exact H2_) | (have H2_ := (Option.bind_some _ _).symm.trans H; with_reducible exact H2_) | with_reducible exact H | (rw [hy418]; exact H) | exact H
            have Ny418 := Aside0.mk hy418
            clear hy418
            have H' := Aside0.mk H
            clear H
            have p417 : 0 ≤ (x5_1 : Int) := of_decide_eq_true (by first | (with_reducible assumption) | assumption)
            have q417 : x5_1 < (l0.length : Int) := of_decide_eq_true (by first | (with_reducible assumption) | assumption)
            obtain ⟨ad417, e417, hx417_0, hx417_1⟩ := at_T44 HR0.out x5_1 p417 q417
            cases e417
            replace hx417_0 := (HB.out.cell (World.block_lt_of_cell? w _ hx417_0)).trans hx417_0
            replace hx417_1 := (HB.out.cell (World.block_lt_of_cell? w _ hx417_1)).trans hx417_1
            replace p417 := eq_true p417
            replace q417 := eq_true q417
            go_wp2_with (first | ((with_reducible refine gate_builtin (b := .append) (xs := #[.tmp 12, .tmp 21]) rfl ?_); at_builtin; refine Kd.R_append k44 (w0 := w) w.heap.size rfl (.tmp 12) (.tmp 21) 37 44 (.agg #[(.int .i64 0), (.int .i64 0)]) 16 rfl Try.underlying37 info44 rfl (by decide) (by omega) u3 x3_1 (⟨x4_1, wrap64 (((rd_T44 l0 x5_1).f0) - 1)⟩ : S44) [.int .i64 x4_1, .int .i64 (wrap64 (((rd_T44 l0 x5_1).f0) - 1))] (fun _ => True) (fun _ => False) rfl rfl ?aP (fun _ hk => hk.elim) ?aF ?aO ?aB ?aS ?aL ?_; (case aP => exact k44_mkM _ _ _ (⟨x4_1, wrap64 (((rd_T44 l0 x5_1).f0) - 1)⟩ : S44)); (case aB => exact (by repeat (first | (with_reducible first | exact HB.out | apply below_alloc | apply pw_below_drewN | apply below_drew1) | exact HB.out))); (case aF => exact (fun _ _ => trivial)); (case aO => exact (by (with_reducible repeat (first | apply Kd.R_alloc | apply Kd.R_drewN | apply Kd.R_drew)); exact HO_3.out)); (case aS => exact (below_size (by repeat (first | (with_reducible first | exact HB.out | apply below_alloc | apply pw_below_drewN | apply below_drew1) | exact HB.out)))); (case aL => have := LMc4.out; omega); intro v419 w5 ho hb hg hat; rw [← Ny418.out] at ho; have n0_ := Aside0.mk (hb); have n1_ := Aside0.mk (ho); clear HB; clear HO_3; have HB := n0_; have HO420 := n1_; clear n0_ n1_; clear ho hb hg hat; have p421 : 0 ≤ (x5_1 : Int) := of_decide_eq_true (by first | (with_reducible assumption) | assumption); have q421 : x5_1 < (l0.length : Int) := of_decide_eq_true (by first | (with_reducible assumption) | assumption); obtain ⟨ad421, e421, hx421_0, hx421_1⟩ := at_T44 HR0.out x5_1 p421 q421; obtain rfl : ad417 = ad421 := (by injection e421); replace hx421_0 := (HB.out.cell (World.block_lt_of_cell? w _ hx421_0)).trans hx421_0; replace hx421_1 := (HB.out.cell (World.block_lt_of_cell? w _ hx421_1)).trans hx421_1; replace p421 := eq_true p421; replace q421 := eq_true q421))
            go_roundg k1
            case measure => have := HK1.out; omega
            case rel => exact ⟨(y418), (wrap64 (((rd_T44 l0 x5_1).f1) + 1)), (wrap64 (x5_1 + 1)), (by first | rfl | (simp; done) | (simp [*]; done)), (by first | rfl | (simp; done) | (simp [*]; done)), H', ⟨by have := HK1.out; omega⟩, ⟨by (with_reducible repeat (first | apply Kd.R_alloc | apply Kd.R_drewN | apply Kd.R_drew)); exact HO420.out⟩, ⟨by repeat (first | (with_reducible first | exact HB.out | apply below_alloc | apply pw_below_drewN | apply below_drew1) | exact HB.out)⟩⟩
          · rw [if_neg c4] at H
            exact absurd H (by simp)
        · rw [if_neg c3] at H
          exact absurd H (by simp)
      · rw [if_neg c2] at H
        have c2b0 : decide (x5_1 < (l0.length : Int)) = false := decide_eq_false c2
        clear c2
        by_cases c6 : x3_1.length < 8796093022208
        · rw [if_pos c6] at H
          have LMc6 := Aside0.mk c6
          clear c6
          obtain ⟨y422, hy422⟩ : ∃ y_ : List (S44), y_ = (x3_1 ++ [(⟨x4_1, 1114111⟩ : S44)]) := ⟨_, rfl⟩
          replace H : ((hyphenref3_Norm.f k1 y422).bind fun t425 => (some t425)) = some r := by first | (rw [hy422]; with_reducible exact H) | (have H2_ := (Option.bind_some _ _).symm.trans H; rw [hy422]; with_reducible exact H2_) | (have H2_ := (Option.bind_some _ _).symm.trans H; with_reducible exact H2_) | with_reducible exact H | (rw [hy422]; exact H) | exact H
          have Ny422 := Aside0.mk hy422
          clear hy422
          replace H := Option.bind_eq_some_iff.mp H
          obtain ⟨t425, A70, H⟩ := H
          replace H : (some t425) = some r := H
          have A7 := Aside0.mk A70
          clear A70
          obtain rfl := Option.some.inj H
          go_wp2_with (first | ((with_reducible refine gate_builtin (b := .append) (xs := #[.tmp 29, .tmp 32]) rfl ?_); at_builtin; refine Kd.R_append k44 (w0 := w) w.heap.size rfl (.tmp 29) (.tmp 32) 37 44 (.agg #[(.int .i64 0), (.int .i64 0)]) 16 rfl Try.underlying37 info44 rfl (by decide) (by omega) u3 x3_1 (⟨x4_1, 1114111⟩ : S44) [.int .i64 x4_1, .int .i64 1114111] (fun _ => True) (fun _ => False) rfl rfl ?aP (fun _ hk => hk.elim) ?aF ?aO ?aB ?aS ?aL ?_; (case aP => exact k44_mkM _ _ _ (⟨x4_1, 1114111⟩ : S44)); (case aB => exact (by repeat (first | (with_reducible first | exact HB.out | apply below_alloc | apply pw_below_drewN | apply below_drew1) | exact HB.out))); (case aF => exact (fun _ _ => trivial)); (case aO => exact (by (with_reducible repeat (first | apply Kd.R_alloc | apply Kd.R_drewN | apply Kd.R_drew)); exact HO_3.out)); (case aS => exact (below_size (by repeat (first | (with_reducible first | exact HB.out | apply below_alloc | apply pw_below_drewN | apply below_drew1) | exact HB.out)))); (case aL => have := LMc6.out; omega); intro v423 w8 ho hb hg hat; rw [← Ny422.out] at ho; have n0_ := Aside0.mk (hb); have n1_ := Aside0.mk (ho); clear HB; clear HO_3; have HB := n0_; have HO424 := n1_; clear n0_ n1_; clear ho hb hg hat; obtain ⟨Ao9, co9, eo9⟩ := Kd.R_slice HO424.out; subst eo9) | ((with_reducible refine gate_callee (f := 34) rfl ?_); refine goesL_ (some 34) rfl rfl Try.func34 (by kernel_rfl) rfl #[.slice Ao9 y422.length co9] rfl (by (try simp only [List.map_toArray, List.map_cons, List.map_nil]); first | done | rfl | (simp only [List.length_drop, List.length_take]; rfl)) ?_; (with_reducible refine (hyphenref3_Norm.calls k1 _ _ y422 t425 _ ?side1 ?side2 A7.out).mono ?_); (case side1 => repeat (first | exact (Kd.R_reads' HO424.out).2.2 | (with_reducible refine Kd.C_alloc ?_ _) | (with_reducible refine Kd.C_drewN ?_ _) | (with_reducible refine Kd.C_drew ?_))); (case side2 => exact (Kd.R_reads' HO424.out).2.1); rintro e w10 ⟨v426, rfl, ho0, hb⟩; refine ⟨_, rfl, ?_⟩; have n0_ := Aside0.mk (Kd.R_elder' (by (with_reducible repeat (first | apply Kd.R_alloc | apply Kd.R_drewN | apply Kd.R_drew)); exact HO424.out) (Kd.R_base ho0) hb); have n1_ := Aside0.mk (Kd.R_lower (Kd.R_new' ho0 (Kd.R_lt (by (with_reducible repeat (first | apply Kd.R_alloc | apply Kd.R_drewN | apply Kd.R_drew)); exact HO424.out))) (below_size (by repeat (first | (with_reducible first | exact HB.out | apply below_alloc | apply pw_below_drewN | apply below_drew1) | exact HB.out)))); have n2_ := Aside0.mk (below_step (by repeat (first | (with_reducible first | exact HB.out | apply below_alloc | apply pw_below_drewN | apply below_drew1) | exact HB.out)) hb); clear HO424; clear HB; have HO424 := n0_; have HO427 := n1_; have HB := n2_; clear n0_ n1_ n2_; (try clear hb); (try clear hb2); (try clear hk); (try clear hi); (try clear ho0)))
          go_ret
          exact ⟨_, by first | rfl | (simp [errW_none, errW_some] <;> rfl) | (simp [*, errW_none, errW_some] <;> rfl), by (with_reducible repeat (first | apply Kd.R_alloc | apply Kd.R_drewN | apply Kd.R_drew)); exact Kd.R_mono HO427.out (fun _ hk => trivial), by repeat (first | (with_reducible first | exact HB.out | apply below_alloc | apply pw_below_drewN | apply below_drew1) | exact HB.out)⟩
        · rw [if_neg c6] at H
          exact absurd H (by simp)

/-! ### hyphenlaw4_PartNot: function 8 -/
def hyphenlaw4_PartNot.f (k : Nat) (l0 : List Int) (a1 : Int) : Option (Bool) := (hyphenlaw4_known.f k).bind fun t428 => (if t428 = true then ((hyphenlaw4_Sets.f k l0 8).bind fun t429 => (if (t429.length : Int) = 0 then (some true) else ((some (([] : List (List (S44))) : List (List (S44)))).bind fun y432 => (if y432.length + t429.length < 5864062014805 then ((some (y432 ++ t429 : List (List (S44)))).bind fun y435 => ((hyphenlaw4_within.f a1 (t429.length : Int)).bind fun t438 => (if 0 ≤ t438 then (if t438 < (t429.length : Int) then ((hyphenref3_Not.f k (rd_L2 t429 t438)).bind fun t440 => (if t438 < (y435.length : Int) then ((part_Cuts.f k t429).bind fun bt444 => ((part_Cuts.f k (y435.set (t438 : Int).toNat t440)).bind fun bt450 => ((hyphenref1_Ints.f k bt444.1 bt450.1).bind fun t456 => (if t456 = true then ((hyphenref1_Ints.f k bt444.2 bt450.2).bind fun t457 => (some t457)) else (none))))) else (none))) else (none)) else (none)))) else (none))))) else (none))
theorem hyphenlaw4_PartNot.mono : ∀ a0 a1 k, LeO (hyphenlaw4_PartNot.f k a0 a1) (hyphenlaw4_PartNot.f (k + 1) a0 a1) := by
  intro a0 a1 k
  unfold hyphenlaw4_PartNot.f
  repeat' first
      | (with_reducible exact hyphenlaw4_Sets.mono _ _ _)
      | (with_reducible exact hyphenlaw4_known.mono _)
      | (with_reducible exact hyphenref1_Ints.mono _ _ _)
      | (with_reducible exact hyphenref3_Not.mono _ _)
      | (with_reducible exact part_Cuts.mono _ _)
      | (with_reducible exact LeO.refl _)
      | (with_reducible exact LeO.none _)
      | (with_reducible refine LeO.ite ?_ ?_)
      | (with_reducible refine LeO.bind ?_ (fun _ => ?_))
      | exact hyphenlaw4_Sets.mono _ _ _
      | exact hyphenlaw4_known.mono _
      | exact hyphenref1_Ints.mono _ _ _
      | exact hyphenref3_Not.mono _ _
      | exact part_Cuts.mono _ _
      | exact LeO.none _
      | refine LeO.ite ?_ ?_
      | refine LeO.bind ?_ (fun _ => ?_)
set_option maxHeartbeats 8000000 in
set_option maxRecDepth 100000 in
theorem hyphenlaw4_PartNot.calls (k : Nat) (A0 : Option Addr) (c0 : Nat) (l0 : List Int) (a1 : Int) (r : Bool) (w : World) (hr0 : Kd.C (Kd.int .i64) w A0 l0.length l0) (hc0 : l0.length ≤ c0) (h : hyphenlaw4_PartNot.f k l0 a1 = some r) :
    Calls Try.prog 8 #[.slice A0 l0.length c0, .int .i64 a1] w fun e w' => e = .returned (.bool r) ∧ Below w.heap.size w w' := by
  have HR0 := Aside0.mk hr0
  have HC0 := Aside0.mk hc0
  clear hr0 hc0
  have HB := Aside0.mk (Below.refl w.heap.size w)
  have H : ((hyphenlaw4_known.f k).bind fun t428 => (if t428 = true then ((hyphenlaw4_Sets.f k l0 8).bind fun t429 => (if (t429.length : Int) = 0 then (some true) else ((some (([] : List (List (S44))) : List (List (S44)))).bind fun y432 => (if y432.length + t429.length < 5864062014805 then ((some (y432 ++ t429 : List (List (S44)))).bind fun y435 => ((hyphenlaw4_within.f a1 (t429.length : Int)).bind fun t438 => (if 0 ≤ t438 then (if t438 < (t429.length : Int) then ((hyphenref3_Not.f k (rd_L2 t429 t438)).bind fun t440 => (if t438 < (y435.length : Int) then ((part_Cuts.f k t429).bind fun bt444 => ((part_Cuts.f k (y435.set (t438 : Int).toNat t440)).bind fun bt450 => ((hyphenref1_Ints.f k bt444.1 bt450.1).bind fun t456 => (if t456 = true then ((hyphenref1_Ints.f k bt444.2 bt450.2).bind fun t457 => (some t457)) else (none))))) else (none))) else (none)) else (none)))) else (none))))) else (none))) = some r := h
  clear h
  replace H := Option.bind_eq_some_iff.mp H
  obtain ⟨t428, A30, H⟩ := H
  replace H : (if t428 = true then ((hyphenlaw4_Sets.f k l0 8).bind fun t429 => (if (t429.length : Int) = 0 then (some true) else ((some (([] : List (List (S44))) : List (List (S44)))).bind fun y432 => (if y432.length + t429.length < 5864062014805 then ((some (y432 ++ t429 : List (List (S44)))).bind fun y435 => ((hyphenlaw4_within.f a1 (t429.length : Int)).bind fun t438 => (if 0 ≤ t438 then (if t438 < (t429.length : Int) then ((hyphenref3_Not.f k (rd_L2 t429 t438)).bind fun t440 => (if t438 < (y435.length : Int) then ((part_Cuts.f k t429).bind fun bt444 => ((part_Cuts.f k (y435.set (t438 : Int).toNat t440)).bind fun bt450 => ((hyphenref1_Ints.f k bt444.1 bt450.1).bind fun t456 => (if t456 = true then ((hyphenref1_Ints.f k bt444.2 bt450.2).bind fun t457 => (some t457)) else (none))))) else (none))) else (none)) else (none)))) else (none))))) else (none)) = some r := H
  have A3 := Aside0.mk A30
  clear A30
  by_cases c4 : t428 = true
  · subst c4
    have H1 : ((hyphenlaw4_Sets.f k l0 8).bind fun t429 => (if (t429.length : Int) = 0 then (some true) else ((some (([] : List (List (S44))) : List (List (S44)))).bind fun y432 => (if y432.length + t429.length < 5864062014805 then ((some (y432 ++ t429 : List (List (S44)))).bind fun y435 => ((hyphenlaw4_within.f a1 (t429.length : Int)).bind fun t438 => (if 0 ≤ t438 then (if t438 < (t429.length : Int) then ((hyphenref3_Not.f k (rd_L2 t429 t438)).bind fun t440 => (if t438 < (y435.length : Int) then ((part_Cuts.f k t429).bind fun bt444 => ((part_Cuts.f k (y435.set (t438 : Int).toNat t440)).bind fun bt450 => ((hyphenref1_Ints.f k bt444.1 bt450.1).bind fun t456 => (if t456 = true then ((hyphenref1_Ints.f k bt444.2 bt450.2).bind fun t457 => (some t457)) else (none))))) else (none))) else (none)) else (none)))) else (none))))) = some r := by rw [if_pos rfl] at H; exact H
    clear H
    have H := H1
    clear H1
    replace H := Option.bind_eq_some_iff.mp H
    obtain ⟨t429, A50, H⟩ := H
    replace H : (if (t429.length : Int) = 0 then (some true) else ((some (([] : List (List (S44))) : List (List (S44)))).bind fun y432 => (if y432.length + t429.length < 5864062014805 then ((some (y432 ++ t429 : List (List (S44)))).bind fun y435 => ((hyphenlaw4_within.f a1 (t429.length : Int)).bind fun t438 => (if 0 ≤ t438 then (if t438 < (t429.length : Int) then ((hyphenref3_Not.f k (rd_L2 t429 t438)).bind fun t440 => (if t438 < (y435.length : Int) then ((part_Cuts.f k t429).bind fun bt444 => ((part_Cuts.f k (y435.set (t438 : Int).toNat t440)).bind fun bt450 => ((hyphenref1_Ints.f k bt444.1 bt450.1).bind fun t456 => (if t456 = true then ((hyphenref1_Ints.f k bt444.2 bt450.2).bind fun t457 => (some t457)) else (none))))) else (none))) else (none)) else (none)))) else (none)))) = some r := H
    have A5 := Aside0.mk A50
    clear A50
    by_cases c6 : (t429.length : Int) = 0
    · rw [if_pos c6] at H
      have c6b0 : ((t429.length : Int) == 0) = true := beq_iff_eq.mpr c6
      have c6b1 : ((t429.length : Int) != 0) = false := bne_eq_false_iff_eq.mpr c6
      clear c6
      obtain rfl := Option.some.inj H
      go_enter Try.func8, Try.ntmps8
      go_wp2_with (first | ((with_reducible refine gate_callee (f := 11) rfl ?_); refine goesL_ (some 12) rfl rfl Try.func11 (by kernel_rfl) rfl #[] rfl (by (try simp only [List.map_toArray, List.map_cons, List.map_nil]); first | done | rfl | (simp only [List.length_drop, List.length_take]; rfl)) ?_; (with_reducible refine (hyphenlaw4_known.calls k  true _ A3.out).mono ?_); rintro e w7 ⟨rfl, hb⟩; refine ⟨_, rfl, ?_⟩; have n0_ := Aside0.mk (below_step (by repeat (first | (with_reducible first | exact HB.out | apply below_alloc | apply pw_below_drewN | apply below_drew1) | exact HB.out)) hb); clear HB; have HB := n0_; clear n0_; (try clear hb); (try clear hb2); (try clear hk); (try clear hi)) | ((with_reducible refine gate_callee (f := 12) rfl ?_); refine goesL_ (some 15) rfl rfl Try.func12 (by kernel_rfl) rfl #[.slice A0 l0.length c0, .int .i64 8] rfl (by (try simp only [List.map_toArray, List.map_cons, List.map_nil]); first | done | rfl | (simp only [List.length_drop, List.length_take]; rfl)) ?_; (with_reducible refine (hyphenlaw4_Sets.calls k _ _ l0 8 t429 _ ?side1 ?side2 A5.out).mono ?_); (case side1 => repeat (first | exact (Kd.C_below HR0.out HB.out) | (with_reducible refine Kd.C_alloc ?_ _) | (with_reducible refine Kd.C_drewN ?_ _) | (with_reducible refine Kd.C_drew ?_))); (case side2 => exact HC0.out); rintro e w8 ⟨v430, rfl, ho0, hb⟩; refine ⟨_, rfl, ?_⟩; have n0_ := Aside0.mk (Kd.N_lower (Kd.N_mono (ok' := fun k_ => True) (Kd.R_N (Kd.R_bound ho0)) (fun k_ hk_ => trivial)) (below_size (by repeat (first | (with_reducible first | exact HB.out | apply below_alloc | apply pw_below_drewN | apply below_drew1) | exact HB.out)))); have n1_ := Aside0.mk (below_step (by repeat (first | (with_reducible first | exact HB.out | apply below_alloc | apply pw_below_drewN | apply below_drew1) | exact HB.out)) hb); clear HB; have HO431 := n0_; have HB := n1_; clear n0_ n1_; (try clear hb); (try clear hb2); (try clear hk); (try clear hi); (try clear ho0); obtain ⟨Ao9, co9, eo9⟩ := Kd.N_slice HO431.out; subst eo9))
      go_ret
      exact ⟨by first | rfl | (simp [errW_none, errW_some] <;> rfl) | (simp [*, errW_none, errW_some] <;> rfl), by repeat (first | (with_reducible first | exact HB.out | apply below_alloc | apply pw_below_drewN | apply below_drew1) | exact HB.out)⟩
    · rw [if_neg c6] at H
      have c6b0 : ((t429.length : Int) == 0) = false := beq_eq_false_iff_ne.mpr c6
      have c6b1 : ((t429.length : Int) != 0) = true := bne_iff_ne.mpr c6
      have c6b2 : ¬ (t429 = []) := fun h_ => c6 (by rw [h_]; rfl)
      obtain ⟨y432, hy432⟩ : ∃ y_ : List (List (S44)), y_ = (([] : List (List (S44)))) := ⟨_, rfl⟩
      replace H : (if y432.length + t429.length < 5864062014805 then ((some (y432 ++ t429 : List (List (S44)))).bind fun y435 => ((hyphenlaw4_within.f a1 (t429.length : Int)).bind fun t438 => (if 0 ≤ t438 then (if t438 < (t429.length : Int) then ((hyphenref3_Not.f k (rd_L2 t429 t438)).bind fun t440 => (if t438 < (y435.length : Int) then ((part_Cuts.f k t429).bind fun bt444 => ((part_Cuts.f k (y435.set (t438 : Int).toNat t440)).bind fun bt450 => ((hyphenref1_Ints.f k bt444.1 bt450.1).bind fun t456 => (if t456 = true then ((hyphenref1_Ints.f k bt444.2 bt450.2).bind fun t457 => (some t457)) else (none))))) else (none))) else (none)) else (none)))) else (none)) = some r := by first | (rw [hy432]; with_reducible exact H) | (have H2_ := (Option.bind_some _ _).symm.trans H; rw [hy432]; with_reducible exact H2_) | (have H2_ := (Option.bind_some _ _).symm.trans H; with_reducible exact H2_) | with_reducible exact H | (rw [hy432]; exact H) | exact H
      have Ny432 := Aside0.mk hy432
      clear hy432
      by_cases c10 : y432.length + t429.length < 5864062014805
      · rw [if_pos c10] at H
        have LMc10 := Aside0.mk c10
        clear c10
        obtain ⟨y435, hy435⟩ : ∃ y_ : List (List (S44)), y_ = (y432 ++ t429) := ⟨_, rfl⟩
        replace H : ((hyphenlaw4_within.f a1 (t429.length : Int)).bind fun t438 => (if 0 ≤ t438 then (if t438 < (t429.length : Int) then ((hyphenref3_Not.f k (rd_L2 t429 t438)).bind fun t440 => (if t438 < (y435.length : Int) then ((part_Cuts.f k t429).bind fun bt444 => ((part_Cuts.f k (y435.set (t438 : Int).toNat t440)).bind fun bt450 => ((hyphenref1_Ints.f k bt444.1 bt450.1).bind fun t456 => (if t456 = true then ((hyphenref1_Ints.f k bt444.2 bt450.2).bind fun t457 => (some t457)) else (none))))) else (none))) else (none)) else (none))) = some r := by first | (rw [hy435]; with_reducible exact H) | (have H2_ := (Option.bind_some _ _).symm.trans H; rw [hy435]; with_reducible exact H2_) | (have H2_ := (Option.bind_some _ _).symm.trans H; with_reducible exact H2_) | with_reducible exact H | (rw [hy435]; exact H) | exact H
        have Ny435 := Aside0.mk hy435
        clear hy435
        replace H := Option.bind_eq_some_iff.mp H
        obtain ⟨t438, A110, H⟩ := H
        replace H : (if 0 ≤ t438 then (if t438 < (t429.length : Int) then ((hyphenref3_Not.f k (rd_L2 t429 t438)).bind fun t440 => (if t438 < (y435.length : Int) then ((part_Cuts.f k t429).bind fun bt444 => ((part_Cuts.f k (y435.set (t438 : Int).toNat t440)).bind fun bt450 => ((hyphenref1_Ints.f k bt444.1 bt450.1).bind fun t456 => (if t456 = true then ((hyphenref1_Ints.f k bt444.2 bt450.2).bind fun t457 => (some t457)) else (none))))) else (none))) else (none)) else (none)) = some r := H
        have A11 := Aside0.mk A110
        clear A110
        by_cases c12 : 0 ≤ t438
        · rw [if_pos c12] at H
          have c12b0 : decide (0 ≤ t438) = true := decide_eq_true c12
          clear c12
          by_cases c13 : t438 < (t429.length : Int)
          · rw [if_pos c13] at H
            have c13b0 : decide (t438 < (t429.length : Int)) = true := decide_eq_true c13
            clear c13
            replace H := Option.bind_eq_some_iff.mp H
            obtain ⟨t440, A140, H⟩ := H
            replace H : (if t438 < (y435.length : Int) then ((part_Cuts.f k t429).bind fun bt444 => ((part_Cuts.f k (y435.set (t438 : Int).toNat t440)).bind fun bt450 => ((hyphenref1_Ints.f k bt444.1 bt450.1).bind fun t456 => (if t456 = true then ((hyphenref1_Ints.f k bt444.2 bt450.2).bind fun t457 => (some t457)) else (none))))) else (none)) = some r := H
            have A14 := Aside0.mk A140
            clear A140
            by_cases c15 : t438 < (y435.length : Int)
            · rw [if_pos c15] at H
              have c15b0 : decide (t438 < (y435.length : Int)) = true := decide_eq_true c15
              clear c15
              obtain ⟨y443, hy443⟩ : ∃ y_ : List (List (S44)), y_ = (y435.set (t438 : Int).toNat t440) := ⟨_, rfl⟩
              replace H : ((part_Cuts.f k t429).bind fun bt444 => ((part_Cuts.f k y443).bind fun bt450 => ((hyphenref1_Ints.f k bt444.1 bt450.1).bind fun t456 => (if t456 = true then ((hyphenref1_Ints.f k bt444.2 bt450.2).bind fun t457 => (some t457)) else (none))))) = some r := by first | (rw [hy443]; with_reducible exact H) | (have H2_ := (Option.bind_some _ _).symm.trans H; rw [hy443]; with_reducible exact H2_) | (have H2_ := (Option.bind_some _ _).symm.trans H; with_reducible exact H2_) | with_reducible exact H | (rw [hy443]; exact H) | exact H
              have Ny443 := Aside0.mk hy443
              clear hy443
              replace H := Option.bind_eq_some_iff.mp H
              obtain ⟨⟨t444, t445⟩, A170, H⟩ := H
              replace H : ((part_Cuts.f k y443).bind fun bt450 => ((hyphenref1_Ints.f k t444 bt450.1).bind fun t456 => (if t456 = true then ((hyphenref1_Ints.f k t445 bt450.2).bind fun t457 => (some t457)) else (none)))) = some r := H
              have A17 := Aside0.mk A170
              clear A170
              replace H := Option.bind_eq_some_iff.mp H
              obtain ⟨⟨t450, t451⟩, A180, H⟩ := H
              replace H : ((hyphenref1_Ints.f k t444 t450).bind fun t456 => (if t456 = true then ((hyphenref1_Ints.f k t445 t451).bind fun t457 => (some t457)) else (none))) = some r := H
              have A18 := Aside0.mk A180
              clear A180
              replace H := Option.bind_eq_some_iff.mp H
              obtain ⟨t456, A190, H⟩ := H
              replace H : (if t456 = true then ((hyphenref1_Ints.f k t445 t451).bind fun t457 => (some t457)) else (none)) = some r := H
              have A19 := Aside0.mk A190
              clear A190
              by_cases c20 : t456 = true
              · subst c20
                have H1 : ((hyphenref1_Ints.f k t445 t451).bind fun t457 => (some t457)) = some r := by rw [if_pos rfl] at H; exact H
                clear H
                have H := H1
                clear H1
                replace H := Option.bind_eq_some_iff.mp H
                obtain ⟨t457, A210, H⟩ := H
                replace H : (some t457) = some r := H
                have A21 := Aside0.mk A210
                clear A210
                obtain rfl := Option.some.inj H
                go_enter Try.func8, Try.ntmps8
                go_wp2_with (first | ((with_reducible refine gate_callee (f := 11) rfl ?_); refine goesL_ (some 12) rfl rfl Try.func11 (by kernel_rfl) rfl #[] rfl (by (try simp only [List.map_toArray, List.map_cons, List.map_nil]); first | done | rfl | (simp only [List.length_drop, List.length_take]; rfl)) ?_; (with_reducible refine (hyphenlaw4_known.calls k  true _ A3.out).mono ?_); rintro e w22 ⟨rfl, hb⟩; refine ⟨_, rfl, ?_⟩; have n0_ := Aside0.mk (below_step (by repeat (first | (with_reducible first | exact HB.out | apply below_alloc | apply pw_below_drewN | apply below_drew1) | exact HB.out)) hb); clear HB; have HB := n0_; clear n0_; (try clear hb); (try clear hb2); (try clear hk); (try clear hi)) | ((with_reducible refine gate_callee (f := 12) rfl ?_); refine goesL_ (some 15) rfl rfl Try.func12 (by kernel_rfl) rfl #[.slice A0 l0.length c0, .int .i64 8] rfl (by (try simp only [List.map_toArray, List.map_cons, List.map_nil]); first | done | rfl | (simp only [List.length_drop, List.length_take]; rfl)) ?_; (with_reducible refine (hyphenlaw4_Sets.calls k _ _ l0 8 t429 _ ?side1 ?side2 A5.out).mono ?_); (case side1 => repeat (first | exact (Kd.C_below HR0.out HB.out) | (with_reducible refine Kd.C_alloc ?_ _) | (with_reducible refine Kd.C_drewN ?_ _) | (with_reducible refine Kd.C_drew ?_))); (case side2 => exact HC0.out); rintro e w23 ⟨v430, rfl, ho0, hb⟩; refine ⟨_, rfl, ?_⟩; have n0_ := Aside0.mk (Kd.N_lower (Kd.N_mono (ok' := fun k_ => True) (Kd.R_N (Kd.R_bound ho0)) (fun k_ hk_ => trivial)) (below_size (by repeat (first | (with_reducible first | exact HB.out | apply below_alloc | apply pw_below_drewN | apply below_drew1) | exact HB.out)))); have n1_ := Aside0.mk (below_step (by repeat (first | (with_reducible first | exact HB.out | apply below_alloc | apply pw_below_drewN | apply below_drew1) | exact HB.out)) hb); clear HB; have HO431 := n0_; have HB := n1_; clear n0_ n1_; (try clear hb); (try clear hb2); (try clear hk); (try clear hi); (try clear ho0); obtain ⟨Ao24, co24, eo24⟩ := Kd.N_slice HO431.out; subst eo24) | ((with_reducible refine gate_dst (N := 19) rfl ?_); refine Kd.N_lit (Kd.slice 44 k44) _ 37 ?hg (N' := 19) ?hd (xs := ([] : List (List (S44)))) (inner := []) (ok := (fun k_ => some k_ ≠ (.slice Ao24 t429.length co24 : Value).ownBlock)) (okp := (fun k_ => some k_ ≠ (.slice Ao24 t429.length co24 : Value).ownBlock)) ?hr ?hp (fun _ hk => hk) ((show ∀ k_, w23.heap.size ≤ k_ → (fun k_ => some k_ ≠ (.slice Ao24 t429.length co24 : Value).ownBlock) k_ from fun k_ hk => Kd.fresh' (Kd.N_lt (by (with_reducible repeat (first | apply Kd.N_alloc | apply Kd.N_drewN | apply Kd.N_drew)); exact HO431.out)) k_ hk) _ (Nat.le_refl _)) (Below.refl _ _) (Nat.le_refl _) (by simp) ?_; (case hd => rfl); (case hg => rfl); (case hr => first | (go_simp; done) | (go_simp; rfl)); (case hp => exact (Reps.none _ _)); intro v433 w25 ho26 hb hg_ hnew_; clear hg_ hnew_; (first | rw [← Ny432.out] at ho26 | (simp only [Int.reduceToNat] at ho26; rw [← Ny432.out] at ho26)); have n0_ := Aside0.mk (Kd.N_elder' (by (with_reducible repeat (first | apply Kd.N_alloc | apply Kd.N_drewN | apply Kd.N_drew)); exact HO431.out) (by first | exact Kd.N_base ho26 | exact Kd.R_base ho26) hb); have n1_ := Aside0.mk (Kd.N_lower ho26 (below_size (by repeat (first | (with_reducible first | exact HB.out | apply below_alloc | apply pw_below_drewN | apply below_drew1) | exact HB.out)))); have n2_ := Aside0.mk (below_step (by repeat (first | (with_reducible first | exact HB.out | apply below_alloc | apply pw_below_drewN | apply below_drew1) | exact HB.out)) hb); clear HO431; clear HB; have HO431 := n0_; have HO434 := n1_; have HB := n2_; clear n0_ n1_ n2_; clear hb ho26) | ((with_reducible refine gate_builtin (b := .append) (xs := #[.tmp 19, .tmp 20]) rfl ?_); at_builtin; refine Kd.N_append_rows (Kd.slice 44 k44) (w0 := w) w.heap.size rfl (.tmp 19) (.tmp 20) 24 37 (.slice none 0 0) 24 rfl Try.underlying24 info37 rfl (by decide) (by omega) v433 y432 t429 _ _ _ (fun _ => True) (fun k_ => ((fun _ => True)) k_ ∧ some k_ ≠ (v433 : Value).ownBlock) rfl rfl ?aO ?aR (fun _ hk => hk) ?aF ?aB ?aS ?aL ?_; (case aR => exact (by skip; exact Kd.N_F (Kd.N_mono (ok' := (fun k_ => ((fun _ => True)) k_ ∧ some k_ ≠ (v433 : Value).ownBlock)) (HO431.out) (fun k_ hk => ⟨trivial, hk.2⟩)))); (case aB => exact (by repeat (first | (with_reducible first | exact HB.out | apply below_alloc | apply pw_below_drewN | apply below_drew1) | exact HB.out))); (case aF => exact (fun _ _ => trivial)); (case aO => exact (by (with_reducible repeat (first | apply Kd.N_alloc | apply Kd.N_drewN | apply Kd.N_drew)); exact Kd.N_mono HO434.out (fun _ hk => trivial))); (case aS => exact (below_size (by repeat (first | (with_reducible first | exact HB.out | apply below_alloc | apply pw_below_drewN | apply below_drew1) | exact HB.out)))); (case aL => have := LMc10.out; omega); intro v436 w27 ho hb hg hat; rw [← Ny435.out] at ho; have n0_ := Aside0.mk (Kd.N_afterv (ok := (fun _ => True)) (by (with_reducible repeat (first | apply Kd.N_alloc | apply Kd.N_drewN | apply Kd.N_drew)); exact HO431.out) hg hat); have n1_ := Aside0.mk (hb); have n2_ := Aside0.mk (ho); clear HO431; clear HB; clear HO434; have HO431 := n0_; have HB := n1_; have HO437 := n2_; clear n0_ n1_ n2_; clear ho hb hg hat) | ((with_reducible refine gate_callee (f := 20) rfl ?_); refine goesL_ (some 25) rfl rfl Try.func20 (by kernel_rfl) rfl #[.int .i64 a1, .int .i64 (t429.length : Int)] rfl (by (try simp only [List.map_toArray, List.map_cons, List.map_nil]); first | done | rfl | (simp only [List.length_drop, List.length_take]; rfl)) ?_; (with_reducible refine (hyphenlaw4_within.calls a1 (t429.length : Int) t438 _ A11.out).mono ?_); rintro e w' ⟨rfl, ⟨nd, rfl⟩⟩; refine ⟨_, rfl, ?_⟩; (try (rw [drewN_self w27]; generalize hq_ : World.drewN w27 _ = w27; have n0_ : Aside0 (Kd.N (Kd.slice 44 k44) 37 w27 w.heap.size (fun k_ => some k_ ≠ (v436 : Value).ownBlock) (.slice Ao24 t429.length co24) t429) := ⟨by rw [← hq_]; exact (by (with_reducible repeat (first | apply Kd.N_alloc | apply Kd.N_drewN | apply Kd.N_drew)); exact Kd.N_mono HO431.out (fun _ hk => hk.2))⟩; have n1_ : Aside0 (Kd.N (Kd.slice 44 k44) 37 w27 w.heap.size (fun _ => True) v436 y435) := ⟨by rw [← hq_]; exact (by (with_reducible repeat (first | apply Kd.N_alloc | apply Kd.N_drewN | apply Kd.N_drew)); exact HO437.out)⟩; have n2_ : Aside0 (Below w.heap.size w w27) := ⟨by rw [← hq_]; exact (by repeat (first | (with_reducible first | exact HB.out | apply below_alloc | apply pw_below_drewN | apply below_drew1) | exact HB.out))⟩; clear HO431 HO437 HB hq_; have HO431 := n0_; have HO437 := n1_; have HB := n2_; clear n0_ n1_ n2_)); have p439 : 0 ≤ (t438 : Int) := of_decide_eq_true (by first | (with_reducible assumption) | assumption); have q439 : t438 < (t429.length : Int) := of_decide_eq_true (by first | (with_reducible assumption) | assumption); obtain ⟨ad439, A439_0, c439_0, e439, hx439_0, hl439_0, hi439_0⟩ := at_L2 (Kd.N_reads' HO431.out).2.2 t438 p439 q439; cases e439; obtain ⟨ce439, hce439, hMe439, hcc439⟩ := Kd.N_get HO431.out [] t438 p439 (by first | exact q439 | exact of_decide_eq_true (by first | (with_reducible assumption) | assumption) | (have e_ := (Kd.N_reads' HO431.out).1; omega)); obtain ⟨ua439_0, uc439_0, rfl, ul439_0, ge439_0⟩ := Kd.FK_slice_open hMe439; have hv439_0 := hcc439 0 _ rfl; rw [Nat.add_zero, show ((Kd.slice 44 k44)).sz = 1 from rfl, Nat.mul_one] at hv439_0; replace hv439_0 := Option.some.inj (hv439_0.symm.trans hx439_0); injection hv439_0 with hva_ hvn_ hvc_; rw [hva_] at ge439_0; rw [hvc_] at ul439_0; have HL439_0 := Aside0.mk (show Kd.V k44 44 _ w.heap.size _ _ (rd_L2 t429 t438) from Kd.V_mk ul439_0 ge439_0); clear hva_ hvn_ hvc_ ge439_0 ul439_0; clear hcc439 hce439; have HR439_0 := Aside0.mk hi439_0; have HC439_0 := Aside0.mk hl439_0; clear hi439_0 hl439_0; replace p439 := eq_true p439; replace q439 := eq_true q439) | ((with_reducible refine gate_callee (f := 24) rfl ?_); refine goesL_ (some 32) rfl rfl Try.func24 (by kernel_rfl) rfl #[.slice A439_0 (rd_L2 t429 t438).length c439_0] rfl (by (try simp only [List.map_toArray, List.map_cons, List.map_nil]); first | done | rfl | (simp only [List.length_drop, List.length_take]; rfl)) ?_; (with_reducible refine (hyphenref3_Not.calls k _ _ (rd_L2 t429 t438) t440 _ ?side1 ?side2 A14.out).mono ?_); (case side1 => repeat (first | exact (by repeat (first | (with_reducible exact HR439_0.out) | (with_reducible refine Kd.C_alloc ?_ _) | (with_reducible refine Kd.C_drewN ?_ _) | (with_reducible refine Kd.C_drew ?_) | exact HR439_0.out)) | (with_reducible refine Kd.C_alloc ?_ _) | (with_reducible refine Kd.C_drewN ?_ _) | (with_reducible refine Kd.C_drew ?_))); (case side2 => exact HC439_0.out); rintro e w28 ⟨v441, rfl, ho0, hb⟩; obtain ⟨Av441, cv441, ev441⟩ := Kd.R_slice ho0; subst ev441; refine ⟨_, rfl, ?_⟩; have n0_ := Aside0.mk (Kd.N_elder' (by (with_reducible repeat (first | apply Kd.N_alloc | apply Kd.N_drewN | apply Kd.N_drew)); exact HO431.out) (Kd.R_base ho0) hb); have n1_ := Aside0.mk (Kd.N_elder' (by (with_reducible repeat (first | apply Kd.N_alloc | apply Kd.N_drewN | apply Kd.N_drew)); exact HO437.out) (Kd.R_base ho0) hb); have n2_ := Aside0.mk (Kd.V_elder' (by (with_reducible repeat (first | apply Kd.V_alloc | apply Kd.V_drewN | apply Kd.V_drew)); exact HL439_0.out) (Kd.R_base ho0) hb); have n3_ := Aside0.mk (Kd.R_lower ho0 (below_size (by repeat (first | (with_reducible first | exact HB.out | apply below_alloc | apply pw_below_drewN | apply below_drew1) | exact HB.out)))); have n4_ := Aside0.mk (Kd.C_below (by repeat (first | (with_reducible exact HR439_0.out) | (with_reducible refine Kd.C_alloc ?_ _) | (with_reducible refine Kd.C_drewN ?_ _) | (with_reducible refine Kd.C_drew ?_) | exact HR439_0.out)) hb); have n5_ := Aside0.mk (below_step (by repeat (first | (with_reducible first | exact HB.out | apply below_alloc | apply pw_below_drewN | apply below_drew1) | exact HB.out)) hb); clear HO431; clear HO437; clear HL439_0; clear HR439_0; clear HB; have HO431 := n0_; have HO437 := n1_; have HL439_0 := n2_; have HO442 := n3_; have HR439_0 := n4_; have HB := n5_; clear n0_ n1_ n2_ n3_ n4_ n5_; (try clear hb); (try clear hb2); (try clear hk); (try clear hi); (try clear ho0); have p16 : 0 ≤ (t438 : Int) := of_decide_eq_true (by first | (with_reducible assumption) | assumption); have q16 : (t438 : Int) < ((y435.length : Int) : Int) := of_decide_eq_true (by first | (with_reducible assumption) | assumption); obtain ⟨go16, co16, eo16, gb16, gl16, cl16, HG16⟩ := Kd.N_form HO437.out (by omega); (first | cases eo16 | (injection eo16 with ea_ en_ ec_; (first | subst ea_ | (injection ea_ with ea_; subst ea_)); subst ec_; clear en_)); have GB16 := Aside0.mk gb16; have GG16 := Aside0.mk HG16; clear gb16 gl16 HG16; obtain ⟨ce16, hcl16, hM16, hcc16, hfr16⟩ := Kd.N_elem HO437.out [] (t438 : Int) p16 q16; obtain ⟨ua16_0, uc16_0, rfl, ul16_0, ge16_0⟩ := Kd.FK_slice_open hM16; have hx16_0 := hcc16 0 _ rfl; have hf16_0 := hfr16 0; (try simp only [show ((Kd.slice 44 k44)).sz = 1 from rfl, Nat.mul_one, Nat.add_zero] at hx16_0); (try simp only [show ((Kd.slice 44 k44)).sz = 1 from rfl, Nat.mul_one, Nat.add_zero] at hf16_0); clear hcl16 hcc16 hfr16 hM16; replace p16 := eq_true p16; replace q16 := eq_true q16; have n_ := Aside0.mk (Kd.N_mono (ok' := (fun k_ => some k_ ≠ ((.slice Av441 t440.length cv441) : Value).ownBlock)) HO437.out (fun k_ hk => hk.2)); clear HO437; have HO437 := n_; clear n_; have HX29 := Aside0.mk (show Kd.N (Kd.slice 44 k44) 37 w28 w.heap.size (fun _ => True) (.slice (some ⟨go16, 0, none⟩) y435.length co16) y435 from (by (with_reducible repeat (first | apply Kd.N_alloc | apply Kd.N_drewN | apply Kd.N_drew)); exact Kd.N_mono HO437.out (fun _ hk => trivial))); obtain ⟨ce29, hcl29, hM29, hcc29, hfr29⟩ := Kd.N_elem HX29.out [] (t438 : Int) (of_decide_eq_true (by first | (with_reducible assumption) | assumption)) (by have h_ : (t438 : Int) < ((y435.length : Int) : Int) := of_decide_eq_true (by first | (with_reducible assumption) | assumption); first | exact h_ | (have e_ := (Kd.N_reads' HO437.out).1; omega) | simpa using h_); obtain ⟨ua29_0, uc29_0, rfl, ul29_0, ge29_0⟩ := Kd.FK_slice_open hM29; have HP29 := Kd.N_seg HX29.out (t438 : Int) (of_decide_eq_true (by first | (with_reducible assumption) | assumption)) (by have h_ : (t438 : Int) < ((y435.length : Int) : Int) := of_decide_eq_true (by first | (with_reducible assumption) | assumption); first | exact h_ | (have e_ := (Kd.N_reads' HO437.out).1; omega) | simpa using h_) (seg := [(.slice Av441 t440.length cv441)]) (j := 0) hcl29 hcc29 (show 1 ≤ 1 from by decide) (x' := t440) (FK_row_ (Kd.R_mono (ok' := (fun k_ => ((fun _ => True)) k_ ∧ k_ ≠ go16)) (Kd.R_apart' (HO442.out) (Kd.N_typed HO437.out) (by decide)) (fun k_ hk => ⟨trivial, fun e_ => (hk.2) (by rw [e_]; rfl)⟩))) (fun _ hk => hk); have hx29_0 := hcc29 0 _ rfl; (try simp only [show ((Kd.slice 44 k44)).sz = 1 from rfl, Nat.mul_one, Nat.add_zero] at hx29_0); have hf29_0 := hfr29 0; (try simp only [show ((Kd.slice 44 k44)).sz = 1 from rfl, Nat.mul_one, Nat.add_zero] at hf29_0); clear hcl29 hcc29 hfr29 hM29; (try simp only [show ((Kd.slice 44 k44)).sz = 1 from rfl, Nat.mul_one, Nat.add_zero] at HP29); (try simp only [show ((Kd.slice 44 k44)).sz = 1 from rfl, Nat.mul_one, Nat.add_zero] at HP29)) | ((with_reducible refine gate_store (t := 37) (p := 33) rfl ?_); refine store_event (t := 37) (p := 33) (v := ?vo_w30) (w1 := (w28.setCell ⟨go16, (t438 : Int).toNat, none⟩ ((.slice Av441 t440.length cv441)))) ?hg ?ho ?hn ?hr ?_; (case ho => rfl); (case hg => rfl); (case hn => rfl); (case hr => first | (go_simp; done) | (go_simp; rfl)); intro w30 hw; have hg : w28.grownBy w30 (some go16) := (by rw [hw]; exact HP29.2); have hp_ : Kd.N (Kd.slice 44 k44) 37 w30 w.heap.size (fun _ => True) (.slice (some ⟨go16, 0, none⟩) y435.length co16) y443 := (by rw [hw, Ny443.out]; exact HP29.1); clear HP29; have n0_ := Aside0.mk (Kd.N_afterv (v := (.slice (some ⟨go16, 0, none⟩) y435.length co16)) (v1 := (.slice (some ⟨go16, 0, none⟩) y435.length co16)) (ok := (fun k_ => some k_ ≠ ((.slice Av441 t440.length cv441) : Value).ownBlock)) (by (with_reducible repeat (first | apply Kd.N_alloc | apply Kd.N_drewN | apply Kd.N_drew)); exact Kd.N_mono HO431.out (fun _ hk => (by first | exact ⟨hk.2, hk.1.2⟩ | grind))) hg (.inl rfl)); have n1_ := Aside0.mk (hp_); have n2_ := Aside0.mk (Kd.V_afterv (v := (.slice (some ⟨go16, 0, none⟩) y435.length co16)) (v1 := (.slice (some ⟨go16, 0, none⟩) y435.length co16)) (ok := (fun k_ => some k_ ≠ (.slice (some ad439) t429.length co24 : Value).ownBlock ∧ some k_ ≠ ((.slice Av441 t440.length cv441) : Value).ownBlock)) (by (with_reducible repeat (first | apply Kd.V_alloc | apply Kd.V_drewN | apply Kd.V_drew)); exact Kd.V_mono HL439_0.out (fun _ hk => (by first | exact ⟨⟨hk.1.2, hk.2⟩, hk.1.1.2⟩ | grind))) hg (.inl rfl)); have n3_ := Aside0.mk ((by rw [hw]; exact below_set (HB.out) GB16.out : Below w.heap.size w w30)); clear HO431; clear HO437; clear HL439_0; clear HB; clear HO442; have HO431 := n0_; have HO437 := n1_; have HL439_0 := n2_; have HB := n3_; clear n0_ n1_ n2_ n3_; clear hg hw hp_) | ((with_reducible refine gate_callee (f := 13) rfl ?_); refine goesL_ (some 36) rfl rfl Try.func13 (by kernel_rfl) rfl #[.slice (some ad439) t429.length co24] rfl (by (try simp only [List.map_toArray, List.map_cons, List.map_nil]); first | done | rfl | (simp only [List.length_drop, List.length_take]; rfl)) ?_; (with_reducible refine (part_Cuts.calls k _ _ t429 t444 t445 _ ?side1 ?side2 A17.out).mono ?_); (case side1 => repeat (first | exact (Kd.N_reads' HO431.out).2.2 | (with_reducible refine Kd.C_alloc ?_ _) | (with_reducible refine Kd.C_drewN ?_ _) | (with_reducible refine Kd.C_drew ?_))); (case side2 => exact (Kd.N_reads' HO431.out).2.1); rintro e w31 ⟨v446, v448, rfl, ho0, ho1, hb⟩; refine ⟨_, rfl, ?_⟩; have n0_ := Aside0.mk (Kd.N_mono (Kd.N_told (Kd.N_told (Kd.N_old (by (with_reducible repeat (first | apply Kd.N_alloc | apply Kd.N_drewN | apply Kd.N_drew)); exact HO431.out) hb) (Kd.R_base ho0)) (Kd.R_base ho1)) (fun _ h_ => h_.1)); have n1_ := Aside0.mk (Kd.N_mono (Kd.N_told (Kd.N_told (Kd.N_old (by (with_reducible repeat (first | apply Kd.N_alloc | apply Kd.N_drewN | apply Kd.N_drew)); exact HO437.out) hb) (Kd.R_base ho0)) (Kd.R_base ho1)) (fun _ h_ => h_.1)); have n2_ := Aside0.mk (Kd.V_mono (Kd.V_told (Kd.V_told (Kd.V_old (by (with_reducible repeat (first | apply Kd.V_alloc | apply Kd.V_drewN | apply Kd.V_drew)); exact HL439_0.out) hb) (Kd.R_base ho0)) (Kd.R_base ho1)) (fun _ h_ => h_.1)); have n3_ := Aside0.mk (Kd.R_lower ho0 (below_size (by repeat (first | (with_reducible first | exact HB.out | apply below_alloc | apply pw_below_drewN | apply below_drew1) | exact HB.out)))); have n4_ := Aside0.mk (Kd.R_lower ho1 (below_size (by repeat (first | (with_reducible first | exact HB.out | apply below_alloc | apply pw_below_drewN | apply below_drew1) | exact HB.out)))); have n5_ := Aside0.mk (below_step (by repeat (first | (with_reducible first | exact HB.out | apply below_alloc | apply pw_below_drewN | apply below_drew1) | exact HB.out)) hb); clear HO431; clear HO437; clear HL439_0; clear HB; have HO431 := n0_; have HO437 := n1_; have HL439_0 := n2_; have HO447 := n3_; have HO449 := n4_; have HB := n5_; clear n0_ n1_ n2_ n3_ n4_ n5_; (try clear hb); (try clear hb2); (try clear hk); (try clear hi); (try clear ho0); (try clear ho1)) | ((with_reducible refine gate_callee (f := 13) rfl ?_); refine goesL_ (some 41) rfl rfl Try.func13 (by kernel_rfl) rfl #[.slice (some ⟨go16, 0, none⟩) y443.length co16] rfl (by (try simp only [List.map_toArray, List.map_cons, List.map_nil]); first | done | (rw [show y443.length = y435.length from (Kd.N_reads' HO437.out).1.symm] <;> rfl) | rfl | (simp only [List.length_drop, List.length_take]; rfl)) ?_; (with_reducible refine (part_Cuts.calls k _ _ y443 t450 t451 _ ?side1 ?side2 A18.out).mono ?_); (case side1 => repeat (first | exact (Kd.N_reads' HO437.out).2.2 | (with_reducible refine Kd.C_alloc ?_ _) | (with_reducible refine Kd.C_drewN ?_ _) | (with_reducible refine Kd.C_drew ?_))); (case side2 => rw [show y443.length = y435.length from (Kd.N_reads' HO437.out).1.symm]; exact (Kd.N_reads' HO437.out).2.1); rintro e w32 ⟨v452, v454, rfl, ho0, ho1, hb⟩; refine ⟨_, rfl, ?_⟩; have n0_ := Aside0.mk (Kd.N_mono (Kd.N_told (Kd.N_told (Kd.N_old (by (with_reducible repeat (first | apply Kd.N_alloc | apply Kd.N_drewN | apply Kd.N_drew)); exact HO431.out) hb) (Kd.R_base ho0)) (Kd.R_base ho1)) (fun _ h_ => h_.1)); have n1_ := Aside0.mk (Kd.N_mono (Kd.N_told (Kd.N_told (Kd.N_old (by (with_reducible repeat (first | apply Kd.N_alloc | apply Kd.N_drewN | apply Kd.N_drew)); exact HO437.out) hb) (Kd.R_base ho0)) (Kd.R_base ho1)) (fun _ h_ => h_.1)); have n2_ := Aside0.mk (Kd.V_mono (Kd.V_told (Kd.V_told (Kd.V_old (by (with_reducible repeat (first | apply Kd.V_alloc | apply Kd.V_drewN | apply Kd.V_drew)); exact HL439_0.out) hb) (Kd.R_base ho0)) (Kd.R_base ho1)) (fun _ h_ => h_.1)); have n3_ := Aside0.mk (Kd.R_mono (Kd.R_told (Kd.R_told (Kd.R_old (by (with_reducible repeat (first | apply Kd.R_alloc | apply Kd.R_drewN | apply Kd.R_drew)); exact HO447.out) hb) (Kd.R_base ho0)) (Kd.R_base ho1)) (fun _ h_ => h_.1)); have n4_ := Aside0.mk (Kd.R_mono (Kd.R_told (Kd.R_told (Kd.R_old (by (with_reducible repeat (first | apply Kd.R_alloc | apply Kd.R_drewN | apply Kd.R_drew)); exact HO449.out) hb) (Kd.R_base ho0)) (Kd.R_base ho1)) (fun _ h_ => h_.1)); have n5_ := Aside0.mk (Kd.R_lower (Kd.R_new' (Kd.R_new' ho0 (Kd.R_lt (by (with_reducible repeat (first | apply Kd.R_alloc | apply Kd.R_drewN | apply Kd.R_drew)); exact HO447.out))) (Kd.R_lt (by (with_reducible repeat (first | apply Kd.R_alloc | apply Kd.R_drewN | apply Kd.R_drew)); exact HO449.out))) (below_size (by repeat (first | (with_reducible first | exact HB.out | apply below_alloc | apply pw_below_drewN | apply below_drew1) | exact HB.out)))); have n6_ := Aside0.mk (Kd.R_lower (Kd.R_new' (Kd.R_new' ho1 (Kd.R_lt (by (with_reducible repeat (first | apply Kd.R_alloc | apply Kd.R_drewN | apply Kd.R_drew)); exact HO447.out))) (Kd.R_lt (by (with_reducible repeat (first | apply Kd.R_alloc | apply Kd.R_drewN | apply Kd.R_drew)); exact HO449.out))) (below_size (by repeat (first | (with_reducible first | exact HB.out | apply below_alloc | apply pw_below_drewN | apply below_drew1) | exact HB.out)))); have n7_ := Aside0.mk (below_step (by repeat (first | (with_reducible first | exact HB.out | apply below_alloc | apply pw_below_drewN | apply below_drew1) | exact HB.out)) hb); clear HO431; clear HO437; clear HL439_0; clear HO447; clear HO449; clear HB; have HO431 := n0_; have HO437 := n1_; have HL439_0 := n2_; have HO447 := n3_; have HO449 := n4_; have HO453 := n5_; have HO455 := n6_; have HB := n7_; clear n0_ n1_ n2_ n3_ n4_ n5_ n6_ n7_; (try clear hb); (try clear hb2); (try clear hk); (try clear hi); (try clear ho0); (try clear ho1); obtain ⟨Ao33, co33, eo33⟩ := Kd.R_slice HO447.out; subst eo33; obtain ⟨Ao34, co34, eo34⟩ := Kd.R_slice HO453.out; subst eo34) | ((with_reducible refine gate_callee (f := 15) rfl ?_); refine goesL_ (some 46) rfl rfl Try.func15 (by kernel_rfl) rfl #[.slice Ao33 t444.length co33, .slice Ao34 t450.length co34] rfl (by (try simp only [List.map_toArray, List.map_cons, List.map_nil]); first | done | rfl | (simp only [List.length_drop, List.length_take]; rfl)) ?_; (with_reducible refine (hyphenref1_Ints.calls k _ _ t444 _ _ t450 true _ ?side1 ?side2 ?side3 ?side4 A19.out).mono ?_); (case side1 => repeat (first | exact (Kd.R_reads' HO447.out).2.2 | (with_reducible refine Kd.C_alloc ?_ _) | (with_reducible refine Kd.C_drewN ?_ _) | (with_reducible refine Kd.C_drew ?_))); (case side2 => exact (Kd.R_reads' HO447.out).2.1); (case side3 => repeat (first | exact (Kd.R_reads' HO453.out).2.2 | (with_reducible refine Kd.C_alloc ?_ _) | (with_reducible refine Kd.C_drewN ?_ _) | (with_reducible refine Kd.C_drew ?_))); (case side4 => exact (Kd.R_reads' HO453.out).2.1); rintro e w' ⟨rfl, ⟨nd, rfl⟩⟩; refine ⟨_, rfl, ?_⟩; obtain ⟨Ao35, co35, eo35⟩ := Kd.R_slice HO449.out; subst eo35; obtain ⟨Ao36, co36, eo36⟩ := Kd.R_slice HO455.out; subst eo36) | (go_at_call 15; (with_reducible refine (hyphenref1_Ints.calls k _ _ t445 _ _ t451 t457 _ ?side1 ?side2 ?side3 ?side4 A21.out).mono ?_); (case side1 => repeat (first | exact (Kd.R_reads' HO449.out).2.2 | (with_reducible refine Kd.C_alloc ?_ _) | (with_reducible refine Kd.C_drewN ?_ _) | (with_reducible refine Kd.C_drew ?_))); (case side2 => exact (Kd.R_reads' HO449.out).2.1); (case side3 => repeat (first | exact (Kd.R_reads' HO455.out).2.2 | (with_reducible refine Kd.C_alloc ?_ _) | (with_reducible refine Kd.C_drewN ?_ _) | (with_reducible refine Kd.C_drew ?_))); (case side4 => exact (Kd.R_reads' HO455.out).2.1); rintro e w' ⟨rfl, ⟨nd, rfl⟩⟩))
                go_ret
                exact ⟨by first | rfl | (simp [errW_none, errW_some] <;> rfl) | (simp [*, errW_none, errW_some] <;> rfl), by repeat (first | (with_reducible first | exact HB.out | apply below_alloc | apply pw_below_drewN | apply below_drew1) | exact HB.out)⟩
              · replace c20 := Bool.eq_false_iff.mpr c20
                subst c20
                have H1 : (none) = some r := by rw [if_neg (show ¬ (false = true) by decide)] at H; exact H
                clear H
                have H := H1
                clear H1
                exact absurd H (by simp)
            · rw [if_neg c15] at H
              exact absurd H (by simp)
          · rw [if_neg c13] at H
            exact absurd H (by simp)
        · rw [if_neg c12] at H
          exact absurd H (by simp)
      · rw [if_neg c10] at H
        exact absurd H (by simp)
  · replace c4 := Bool.eq_false_iff.mpr c4
    subst c4
    have H1 : (none) = some r := by rw [if_neg (show ¬ (false = true) by decide)] at H; exact H
    clear H
    have H := H1
    clear H1
    exact absurd H (by simp)

/-- THE ONE PURE STATEMENT of hyphenlaw4_PartNot: yours. -/
def hyphenlaw4_PartNot.Pure : Prop := ∀ (l0 : List Int) (a1 : Int), l0.length ≤ maxLen → l0.length * 8 ≤ 140737488351232 → (∀ x ∈ l0, (Lit.int .i64 x).wf = true) → (Lit.int .i64 a1).wf = true → ∃ k, hyphenlaw4_PartNot.f k l0 a1 = some true
theorem hyphenlaw4_PartNot.walk (P : hyphenlaw4_PartNot.Pure) (a0 : Option Addr) (len0 cap0 : Nat) (z0 : List Int) (a1 : Int) (w : World) (w0 : (a0 = none ∧ len0 = 0 ∧ cap0 = 0 ∧ z0 = []) ∨ ∃ x, a0 = some x ∧ len0 ≤ cap0 ∧ cap0 ≤ maxLen ∧ z0.length = cap0 ∧ (∀ i, i < z0.length → w.cell? (x.add i) = some (.int .i64 (z0.getD i 0))) ∧ ∀ n ∈ z0, (Lit.int .i64 n).wf = true) (y0 : len0 * 8 ≤ 140737488351232) (w1 : (Lit.int .i64 a1).wf = true) :
    Calls Try.prog 8 #[.slice a0 len0 cap0, .int .i64 a1] w fun e w' => e = .returned (.bool true) ∧ Below w.heap.size w w' := by
  obtain ⟨l0, rfl, hr0, hm0, hw0, hc0⟩ := ReadsInt.ofRowC w0
  obtain ⟨k, h⟩ := P l0 a1 hm0 y0 hw0 w1
  refine (hyphenlaw4_PartNot.calls k _ _ l0 a1 true w (Kd.C_of_reads (d := (0 : Int)) (h1 := fun _ => rfl) hr0) hc0 h).mono ?_
  rintro e w' ⟨rfl, hd⟩
  exact ⟨rfl, hd⟩

-- NOT PRINTED: function 7 (hyphenlaw4_PartOrder)

-- NOT PRINTED: function 29 (hyphenref4_points)

/-! ### hyphenref4_key: function 30 -/
def hyphenref4_key.l0 : Nat → List (List (S44)) → Int → Int → Int → Option (Int)
  | 0, _, _, _, _ => none
  | k + 1, x0, x1, x5, x6 => if x6 < (x0.length : Int) then (if 0 ≤ x6 then ((hyphenref3_Has.f k (rd_L2 x0 x6) x1).bind fun t607 => (if t607 = true then (hyphenref4_key.l0 k x0 x1 (wrap64 ((wrap64 (2 * x5)) + 1)) (wrap64 (x6 + 1))) else (hyphenref4_key.l0 k x0 x1 (wrap64 (2 * x5)) (wrap64 (x6 + 1))))) else (none)) else (some x5)
def hyphenref4_key.f (k : Nat) (l0 : List (List (S44))) (a1 : Int) : Option (Int) := hyphenref4_key.l0 k l0 a1 0 0
theorem hyphenref4_key.mono_l : ∀ k, (∀ y0 y1 y2 y3, LeO (hyphenref4_key.l0 k y0 y1 y2 y3) (hyphenref4_key.l0 (k + 1) y0 y1 y2 y3))
  | 0 => fun _ _ _ _ r h => by simp [hyphenref4_key.l0] at h
  | k + 1 => by
    have ih0 := hyphenref4_key.mono_l k
    · intro y0 y1 y2 y3
      unfold hyphenref4_key.l0
      repeat' first
      | (with_reducible exact ih0 _ _ _ _)
      | (with_reducible exact hyphenref3_Has.mono _ _ _)
      | (with_reducible exact LeO.refl _)
      | (with_reducible exact LeO.none _)
      | (with_reducible refine LeO.ite ?_ ?_)
      | (with_reducible refine LeO.bind ?_ (fun _ => ?_))
      | exact ih0 _ _ _ _
      | exact hyphenref3_Has.mono _ _ _
      | exact LeO.none _
      | refine LeO.ite ?_ ?_
      | refine LeO.bind ?_ (fun _ => ?_)
theorem hyphenref4_key.mono : ∀ a0 a1 k, LeO (hyphenref4_key.f k a0 a1) (hyphenref4_key.f (k + 1) a0 a1) := by
  intro a0 a1 k
  have ih0 := hyphenref4_key.mono_l k
  unfold hyphenref4_key.f
  repeat' first
      | (with_reducible exact ih0 _ _ _ _)
      | (with_reducible exact hyphenref3_Has.mono _ _ _)
      | (with_reducible exact LeO.refl _)
      | (with_reducible exact LeO.none _)
      | (with_reducible refine LeO.ite ?_ ?_)
      | (with_reducible refine LeO.bind ?_ (fun _ => ?_))
      | exact ih0 _ _ _ _
      | exact hyphenref3_Has.mono _ _ _
      | exact LeO.none _
      | refine LeO.ite ?_ ?_
      | refine LeO.bind ?_ (fun _ => ?_)
set_option maxHeartbeats 8000000 in
set_option maxRecDepth 100000 in
theorem hyphenref4_key.calls (k : Nat) (A0 : Option Addr) (c0 : Nat) (l0 : List (List (S44))) (a1 : Int) (r : Int) (w : World) (hr0 : Kd.C (Kd.slice 44 k44) w A0 l0.length l0) (hc0 : l0.length ≤ c0) (h : hyphenref4_key.f k l0 a1 = some r) :
    Calls Try.prog 30 #[.slice A0 l0.length c0, .int .i64 a1] w fun e w' => e = .returned (.int .i64 r) ∧ Drawn0 w w' := by
  have HR0 := Aside0.mk hr0
  have HC0 := Aside0.mk hc0
  clear hr0 hc0
  have H : (hyphenref4_key.l0 k l0 a1 0 0) = some r := h
  clear h
  have H' := Aside0.mk H
  clear H
  go_enter Try.func30, Try.ntmps30
  go_wp2
  go_loopg [5, 6] k (fun kq v5 v6 w' => ∃ (x5_1 : Int) (x6_1 : Int), v5 = .int .i64 x5_1 ∧ v6 = .int .i64 x6_1 ∧ Aside0 (hyphenref4_key.l0 kq l0 a1 x5_1 x6_1 = some r) ∧ Aside0 (kq ≤ k) ∧ Drawn0 w w')
  case atStart => exact ⟨(0), (0), (by first | rfl | (simp; done) | (simp [*]; done)), (by first | rfl | (simp; done) | (simp [*]; done)), H', ⟨Nat.le_refl _⟩, by repeat (first | exact Drawn0.refl _ | apply Drawn0.step)⟩
  case round =>
    clear H'
    try clear p2
    obtain ⟨x5_1, x6_1, rfl, rfl, HA, HK1, ⟨m1, rfl⟩⟩ := hrel
    cases gk with
    | zero => exact absurd HA.out (by simp [hyphenref4_key.l0])
    | succ k1 =>
      have H := HA.out
      clear HA
      simp only [hyphenref4_key.l0] at H
      by_cases c3 : x6_1 < (l0.length : Int)
      · rw [if_pos c3] at H
        have c3b0 : decide (x6_1 < (l0.length : Int)) = true := decide_eq_true c3
        clear c3
        by_cases c4 : 0 ≤ x6_1
        · rw [if_pos c4] at H
          have c4b0 : decide (0 ≤ x6_1) = true := decide_eq_true c4
          clear c4
          replace H := Option.bind_eq_some_iff.mp H
          obtain ⟨t607, A50, H⟩ := H
          replace H : (if t607 = true then (hyphenref4_key.l0 k1 l0 a1 (wrap64 ((wrap64 (2 * x5_1)) + 1)) (wrap64 (x6_1 + 1))) else (hyphenref4_key.l0 k1 l0 a1 (wrap64 (2 * x5_1)) (wrap64 (x6_1 + 1)))) = some r := H
          have A5 := Aside0.mk A50
          clear A50
          by_cases c6 : t607 = true
          · subst c6
            have H1 : (hyphenref4_key.l0 k1 l0 a1 (wrap64 ((wrap64 (2 * x5_1)) + 1)) (wrap64 (x6_1 + 1))) = some r := by rw [if_pos rfl] at H; exact H
            clear H
            have H := H1
            clear H1
            have H' := Aside0.mk H
            clear H
            have p606 : 0 ≤ (x6_1 : Int) := of_decide_eq_true (by first | (with_reducible assumption) | assumption)
            have q606 : x6_1 < (l0.length : Int) := of_decide_eq_true (by first | (with_reducible assumption) | assumption)
            obtain ⟨ad606, A606_0, c606_0, e606, hx606_0, hl606_0, hi606_0⟩ := at_L2 HR0.out x6_1 p606 q606
            cases e606
            have HR606_0 := Aside0.mk hi606_0
            have HC606_0 := Aside0.mk hl606_0
            clear hi606_0 hl606_0
            replace p606 := eq_true p606
            replace q606 := eq_true q606
            go_wp2_with (first | ((with_reducible refine gate_callee (f := 23) rfl ?_); refine goesL_ (some 20) rfl rfl Try.func23 (by kernel_rfl) rfl #[.slice A606_0 (rd_L2 l0 x6_1).length c606_0, .int .i64 a1] rfl (by (try simp only [List.map_toArray, List.map_cons, List.map_nil]); first | done | rfl | (simp only [List.length_drop, List.length_take]; rfl)) ?_; (with_reducible refine (hyphenref3_Has.calls k1 _ _ (rd_L2 l0 x6_1) a1 true _ ?side1 ?side2 A5.out).mono ?_); (case side1 => repeat (first | exact HR606_0.out | (with_reducible refine Kd.C_alloc ?_ _) | (with_reducible refine Kd.C_drewN ?_ _) | (with_reducible refine Kd.C_drew ?_))); (case side2 => exact HC606_0.out); rintro e w' ⟨rfl, ⟨nd, rfl⟩⟩; refine ⟨_, rfl, ?_⟩))
            go_roundg k1
            case measure => have := HK1.out; omega
            case rel => exact ⟨(wrap64 ((wrap64 (2 * x5_1)) + 1)), (wrap64 (x6_1 + 1)), (by first | rfl | (simp; done) | (simp [*]; done)), (by first | rfl | (simp; done) | (simp [*]; done)), H', ⟨by have := HK1.out; omega⟩, by repeat (first | exact Drawn0.refl _ | apply Drawn0.step)⟩
          · replace c6 := Bool.eq_false_iff.mpr c6
            subst c6
            have H1 : (hyphenref4_key.l0 k1 l0 a1 (wrap64 (2 * x5_1)) (wrap64 (x6_1 + 1))) = some r := by rw [if_neg (show ¬ (false = true) by decide)] at H; exact H
            clear H
            have H := H1
            clear H1
            have H' := Aside0.mk H
            clear H
            have p606 : 0 ≤ (x6_1 : Int) := of_decide_eq_true (by first | (with_reducible assumption) | assumption)
            have q606 : x6_1 < (l0.length : Int) := of_decide_eq_true (by first | (with_reducible assumption) | assumption)
            obtain ⟨ad606, A606_0, c606_0, e606, hx606_0, hl606_0, hi606_0⟩ := at_L2 HR0.out x6_1 p606 q606
            cases e606
            have HR606_0 := Aside0.mk hi606_0
            have HC606_0 := Aside0.mk hl606_0
            clear hi606_0 hl606_0
            replace p606 := eq_true p606
            replace q606 := eq_true q606
            go_wp2_with (first | ((with_reducible refine gate_callee (f := 23) rfl ?_); refine goesL_ (some 20) rfl rfl Try.func23 (by kernel_rfl) rfl #[.slice A606_0 (rd_L2 l0 x6_1).length c606_0, .int .i64 a1] rfl (by (try simp only [List.map_toArray, List.map_cons, List.map_nil]); first | done | rfl | (simp only [List.length_drop, List.length_take]; rfl)) ?_; (with_reducible refine (hyphenref3_Has.calls k1 _ _ (rd_L2 l0 x6_1) a1 false _ ?side1 ?side2 A5.out).mono ?_); (case side1 => repeat (first | exact HR606_0.out | (with_reducible refine Kd.C_alloc ?_ _) | (with_reducible refine Kd.C_drewN ?_ _) | (with_reducible refine Kd.C_drew ?_))); (case side2 => exact HC606_0.out); rintro e w' ⟨rfl, ⟨nd, rfl⟩⟩; refine ⟨_, rfl, ?_⟩))
            go_roundg k1
            case measure => have := HK1.out; omega
            case rel => exact ⟨(wrap64 (2 * x5_1)), (wrap64 (x6_1 + 1)), (by first | rfl | (simp; done) | (simp [*]; done)), (by first | rfl | (simp; done) | (simp [*]; done)), H', ⟨by have := HK1.out; omega⟩, by repeat (first | exact Drawn0.refl _ | apply Drawn0.step)⟩
        · rw [if_neg c4] at H
          exact absurd H (by simp)
      · rw [if_neg c3] at H
        have c3b0 : decide (x6_1 < (l0.length : Int)) = false := decide_eq_false c3
        clear c3
        obtain rfl := Option.some.inj H
        go_wp2
        go_ret
        exact ⟨by first | rfl | (simp; done) | (simp [*]; done), by repeat (first | exact Drawn0.refl _ | apply Drawn0.step)⟩

-- NOT PRINTED: function 14 (hyphenref4_Cuts)

/-! ### hyphenref4_Count: function 17 -/
def hyphenref4_Count.l0 : Nat → List Int → Int → Int → Option (Int)
  | 0, _, _, _ => none
  | k + 1, x0, x3, x4 => if x4 < (x0.length : Int) then (if 0 ≤ x4 then (hyphenref4_Count.l0 k x0 (mx x3 (wrap64 ((rd x0 x4) + 1))) (wrap64 (x4 + 1))) else (none)) else (some x3)
def hyphenref4_Count.f (k : Nat) (l0 : List Int) : Option (Int) := hyphenref4_Count.l0 k l0 0 0
theorem hyphenref4_Count.mono_l : ∀ k, (∀ y0 y1 y2, LeO (hyphenref4_Count.l0 k y0 y1 y2) (hyphenref4_Count.l0 (k + 1) y0 y1 y2))
  | 0 => fun _ _ _ r h => by simp [hyphenref4_Count.l0] at h
  | k + 1 => by
    have ih0 := hyphenref4_Count.mono_l k
    · intro y0 y1 y2
      unfold hyphenref4_Count.l0
      repeat' first
      | (with_reducible exact ih0 _ _ _)
      | (with_reducible exact LeO.refl _)
      | (with_reducible exact LeO.none _)
      | (with_reducible refine LeO.ite ?_ ?_)
      | (with_reducible refine LeO.bind ?_ (fun _ => ?_))
      | exact ih0 _ _ _
      | exact LeO.none _
      | refine LeO.ite ?_ ?_
      | refine LeO.bind ?_ (fun _ => ?_)
theorem hyphenref4_Count.mono : ∀ a0 k, LeO (hyphenref4_Count.f k a0) (hyphenref4_Count.f (k + 1) a0) := by
  intro a0 k
  have ih0 := hyphenref4_Count.mono_l k
  unfold hyphenref4_Count.f
  repeat' first
      | (with_reducible exact ih0 _ _ _)
      | (with_reducible exact LeO.refl _)
      | (with_reducible exact LeO.none _)
      | (with_reducible refine LeO.ite ?_ ?_)
      | (with_reducible refine LeO.bind ?_ (fun _ => ?_))
      | exact ih0 _ _ _
      | exact LeO.none _
      | refine LeO.ite ?_ ?_
      | refine LeO.bind ?_ (fun _ => ?_)
set_option maxHeartbeats 8000000 in
set_option maxRecDepth 100000 in
theorem hyphenref4_Count.calls (k : Nat) (A0 : Option Addr) (c0 : Nat) (l0 : List Int) (r : Int) (w : World) (hr0 : Kd.C (Kd.int .i64) w A0 l0.length l0) (hc0 : l0.length ≤ c0) (h : hyphenref4_Count.f k l0 = some r) :
    Calls Try.prog 17 #[.slice A0 l0.length c0] w fun e w' => e = .returned (.int .i64 r) ∧ Below w.heap.size w w' := by
  have HR0 := Aside0.mk hr0
  have HC0 := Aside0.mk hc0
  clear hr0 hc0
  have HB := Aside0.mk (Below.refl w.heap.size w)
  have H : (hyphenref4_Count.l0 k l0 0 0) = some r := h
  clear h
  have H' := Aside0.mk H
  clear H
  go_enter Try.func17, Try.ntmps17
  go_wp2
  go_loopg [3, 4] k (fun kq v3 v4 w' => ∃ (x3_1 : Int) (x4_1 : Int), v3 = .int .i64 x3_1 ∧ v4 = .int .i64 x4_1 ∧ Aside0 (hyphenref4_Count.l0 kq l0 x3_1 x4_1 = some r) ∧ Aside0 (kq ≤ k) ∧ Aside0 (Below w.heap.size w w'))
  case atStart => exact ⟨(0), (0), (by first | rfl | (simp; done) | (simp [*]; done)), (by first | rfl | (simp; done) | (simp [*]; done)), H', ⟨Nat.le_refl _⟩, ⟨by repeat (first | (with_reducible first | exact HB.out | apply below_alloc | apply pw_below_drewN | apply below_drew1) | exact HB.out)⟩⟩
  case round =>
    clear H'
    try clear c1
    obtain ⟨x3_1, x4_1, rfl, rfl, HA, HK1, HB⟩ := hrel
    cases gk with
    | zero => exact absurd HA.out (by simp [hyphenref4_Count.l0])
    | succ k1 =>
      have H := HA.out
      clear HA
      simp only [hyphenref4_Count.l0] at H
      by_cases c2 : x4_1 < (l0.length : Int)
      · rw [if_pos c2] at H
        have c2b0 : decide (x4_1 < (l0.length : Int)) = true := decide_eq_true c2
        clear c2
        by_cases c3 : 0 ≤ x4_1
        · rw [if_pos c3] at H
          have c3b0 : decide (0 ≤ x4_1) = true := decide_eq_true c3
          clear c3
          obtain ⟨ji4, hji4⟩ : ∃ j_ : Int, (mx x3_1 (wrap64 ((rd l0 x4_1) + 1))) = j_ := ⟨_, rfl⟩
          replace H : (hyphenref4_Count.l0 k1 l0 ji4 (wrap64 (x4_1 + 1))) = some r := by first | (rw [hji4] at H; exact H) | (simp only [hji4] at H ⊢; exact H)
          have hji4_ : (if x3_1 < (wrap64 ((rd l0 x4_1) + 1)) then (wrap64 ((rd l0 x4_1) + 1)) else x3_1) = ji4 := hji4
          have H' := Aside0.mk H
          clear H
          have p608 : 0 ≤ (x4_1 : Int) := of_decide_eq_true (by first | (with_reducible assumption) | assumption)
          have q608 : x4_1 < (l0.length : Int) := of_decide_eq_true (by first | (with_reducible assumption) | assumption)
          obtain ⟨ad608, e608, hx608_0⟩ := Kd.at_int HR0.out x4_1 p608 q608
          cases e608
          replace hx608_0 := (HB.out.cell (World.block_lt_of_cell? w _ hx608_0)).trans hx608_0
          replace p608 := eq_true p608
          replace q608 := eq_true q608
          go_wp2
          go_roundg k1
          case measure => have := HK1.out; omega
          case rel => exact ⟨(ji4), (wrap64 (x4_1 + 1)), (by first | rfl | (simp; done) | (simp only [← hji4] <;> (first | rfl | simp)) | (simp [*]; done)), (by first | rfl | (simp; done) | (simp [*]; done)), H', ⟨by have := HK1.out; omega⟩, ⟨by repeat (first | (with_reducible first | exact HB.out | apply below_alloc | apply pw_below_drewN | apply below_drew1) | exact HB.out)⟩⟩
        · rw [if_neg c3] at H
          exact absurd H (by simp)
      · rw [if_neg c2] at H
        have c2b0 : decide (x4_1 < (l0.length : Int)) = false := decide_eq_false c2
        clear c2
        obtain rfl := Option.some.inj H
        go_wp2
        go_ret
        exact ⟨by first | rfl | (simp [errW_none, errW_some] <;> rfl) | (simp [*, errW_none, errW_some] <;> rfl), by repeat (first | (with_reducible first | exact HB.out | apply below_alloc | apply pw_below_drewN | apply below_drew1) | exact HB.out)⟩

end Go.Proofs.Yteogcjckhoakbaa.P
