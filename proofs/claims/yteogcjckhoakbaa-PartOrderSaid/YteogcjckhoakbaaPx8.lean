-- Written by wip/xprint.py (a program of this repo) out of the translation; Lean checks it.
import Derived.Test.YteogcjckhoakbaaPx0
import Derived.Test.YteogcjckhoakbaaPx2
import Derived.Test.YteogcjckhoakbaaPx3
import Derived.Test.YteogcjckhoakbaaPx6
namespace Go.Proofs.Yteogcjckhoakbaa.P
open Go.RowKit Go.Proofs.YteogcjckhoakbaaW.PrintWords Go.Proofs.YteogcjckhoakbaaW.PrintLast Go.Proofs.YteogcjckhoakbaaW.PrintMore
attribute [local go_sem] max2_int min2_int max_two min_two max_three min_three max_four min_four   -- for this text's walks alone
attribute [local go_sem ↓ high] Go.Proofs.YteogcjckhoakbaaX.isSome_setCell
set_option linter.unusedVariables false
set_option linter.unusedSimpArgs false

/-! ### hyphenref3_Has: function 23 -/
def hyphenref3_Has.l0 : Nat → List (S44) → Int → Int → Option (Bool)
  | 0, _, _, _ => none
  | k + 1, x0, x1, x5 => if x5 < (x0.length : Int) then (if 0 ≤ x5 then (if x1 ≥ ((rd_T44 x0 x5).f0) then (if x1 ≤ ((rd_T44 x0 x5).f1) then (some true) else (hyphenref3_Has.l0 k x0 x1 (wrap64 (x5 + 1)))) else (hyphenref3_Has.l0 k x0 x1 (wrap64 (x5 + 1)))) else (none)) else (some false)
def hyphenref3_Has.f (k : Nat) (l0 : List (S44)) (a1 : Int) : Option (Bool) := hyphenref3_Has.l0 k l0 a1 0
theorem hyphenref3_Has.mono_l : ∀ k, (∀ y0 y1 y2, LeO (hyphenref3_Has.l0 k y0 y1 y2) (hyphenref3_Has.l0 (k + 1) y0 y1 y2))
  | 0 => fun _ _ _ r h => by simp [hyphenref3_Has.l0] at h
  | k + 1 => by
    have ih0 := hyphenref3_Has.mono_l k
    · intro y0 y1 y2
      unfold hyphenref3_Has.l0
      repeat' first
      | (with_reducible exact ih0 _ _ _)
      | (with_reducible exact LeO.refl _)
      | (with_reducible exact LeO.none _)
      | (with_reducible refine LeO.ite ?_ ?_)
      | (with_reducible refine LeO.bind ?_ (fun _ => ?_))
      | exact ih0 _ _ _
      | exact LeO.none _
      | refine LeO.ite ?_ ?_
      | refine LeO.bind ?_ (fun _ => ?_)
theorem hyphenref3_Has.mono : ∀ a0 a1 k, LeO (hyphenref3_Has.f k a0 a1) (hyphenref3_Has.f (k + 1) a0 a1) := by
  intro a0 a1 k
  have ih0 := hyphenref3_Has.mono_l k
  unfold hyphenref3_Has.f
  repeat' first
      | (with_reducible exact ih0 _ _ _)
      | (with_reducible exact LeO.refl _)
      | (with_reducible exact LeO.none _)
      | (with_reducible refine LeO.ite ?_ ?_)
      | (with_reducible refine LeO.bind ?_ (fun _ => ?_))
      | exact ih0 _ _ _
      | exact LeO.none _
      | refine LeO.ite ?_ ?_
      | refine LeO.bind ?_ (fun _ => ?_)
set_option maxHeartbeats 8000000 in
set_option maxRecDepth 100000 in
theorem hyphenref3_Has.calls (k : Nat) (A0 : Option Addr) (c0 : Nat) (l0 : List (S44)) (a1 : Int) (r : Bool) (w : World) (hr0 : Kd.C k44 w A0 l0.length l0) (hc0 : l0.length ≤ c0) (h : hyphenref3_Has.f k l0 a1 = some r) :
    Calls Try.prog 23 #[.slice A0 l0.length c0, .int .i64 a1] w fun e w' => e = .returned (.bool r) ∧ Drawn0 w w' := by
  have HR0 := Aside0.mk hr0
  have HC0 := Aside0.mk hc0
  clear hr0 hc0
  have H : (hyphenref3_Has.l0 k l0 a1 0) = some r := h
  clear h
  have H' := Aside0.mk H
  clear H
  go_enter Try.func23, Try.ntmps23
  go_wp2
  go_loopg [5] k (fun kq v5 w' => ∃ (x5_1 : Int), v5 = .int .i64 x5_1 ∧ Aside0 (hyphenref3_Has.l0 kq l0 a1 x5_1 = some r) ∧ Aside0 (kq ≤ k) ∧ Drawn0 w w')
  case atStart => exact ⟨(0), (by first | rfl | (simp; done) | (simp [*]; done)), H', ⟨Nat.le_refl _⟩, by repeat (first | exact Drawn0.refl _ | apply Drawn0.step)⟩
  case round =>
    clear H'
    try clear c2
    try clear p2
    obtain ⟨x5_1, rfl, HA, HK1, ⟨m1, rfl⟩⟩ := hrel
    cases gk with
    | zero => exact absurd HA.out (by simp [hyphenref3_Has.l0])
    | succ k1 =>
      have H := HA.out
      clear HA
      simp only [hyphenref3_Has.l0] at H
      by_cases c3 : x5_1 < (l0.length : Int)
      · rw [if_pos c3] at H
        have c3b0 : decide (x5_1 < (l0.length : Int)) = true := decide_eq_true c3
        clear c3
        by_cases c4 : 0 ≤ x5_1
        · rw [if_pos c4] at H
          have c4b0 : decide (0 ≤ x5_1) = true := decide_eq_true c4
          clear c4
          by_cases c5 : a1 ≥ ((rd_T44 l0 x5_1).f0)
          · rw [if_pos c5] at H
            have c5b0 : decide (((rd_T44 l0 x5_1).f0) ≤ a1) = true := decide_eq_true c5
            clear c5
            by_cases c6 : a1 ≤ ((rd_T44 l0 x5_1).f1)
            · rw [if_pos c6] at H
              have c6b0 : decide (a1 ≤ ((rd_T44 l0 x5_1).f1)) = true := decide_eq_true c6
              clear c6
              obtain rfl := Option.some.inj H
              have p307 : 0 ≤ (x5_1 : Int) := of_decide_eq_true (by first | (with_reducible assumption) | assumption)
              have q307 : x5_1 < (l0.length : Int) := of_decide_eq_true (by first | (with_reducible assumption) | assumption)
              obtain ⟨ad307, e307, hx307_0, hx307_1⟩ := at_T44 HR0.out x5_1 p307 q307
              cases e307
              replace p307 := eq_true p307
              replace q307 := eq_true q307
              have p308 : 0 ≤ (x5_1 : Int) := of_decide_eq_true (by first | (with_reducible assumption) | assumption)
              have q308 : x5_1 < (l0.length : Int) := of_decide_eq_true (by first | (with_reducible assumption) | assumption)
              obtain ⟨ad308, e308, hx308_0, hx308_1⟩ := at_T44 HR0.out x5_1 p308 q308
              obtain rfl : ad307 = ad308 := (by injection e308)
              replace p308 := eq_true p308
              replace q308 := eq_true q308
              go_wp2
              go_ret
              exact ⟨by first | rfl | (simp; done) | (simp [*]; done), by repeat (first | exact Drawn0.refl _ | apply Drawn0.step)⟩
            · rw [if_neg c6] at H
              have c6b0 : decide (a1 ≤ ((rd_T44 l0 x5_1).f1)) = false := decide_eq_false c6
              clear c6
              have H' := Aside0.mk H
              clear H
              have p307 : 0 ≤ (x5_1 : Int) := of_decide_eq_true (by first | (with_reducible assumption) | assumption)
              have q307 : x5_1 < (l0.length : Int) := of_decide_eq_true (by first | (with_reducible assumption) | assumption)
              obtain ⟨ad307, e307, hx307_0, hx307_1⟩ := at_T44 HR0.out x5_1 p307 q307
              cases e307
              replace p307 := eq_true p307
              replace q307 := eq_true q307
              have p308 : 0 ≤ (x5_1 : Int) := of_decide_eq_true (by first | (with_reducible assumption) | assumption)
              have q308 : x5_1 < (l0.length : Int) := of_decide_eq_true (by first | (with_reducible assumption) | assumption)
              obtain ⟨ad308, e308, hx308_0, hx308_1⟩ := at_T44 HR0.out x5_1 p308 q308
              obtain rfl : ad307 = ad308 := (by injection e308)
              replace p308 := eq_true p308
              replace q308 := eq_true q308
              go_wp2
              go_roundg k1
              case measure => have := HK1.out; omega
              case rel => exact ⟨(wrap64 (x5_1 + 1)), (by first | rfl | (simp; done) | (simp [*]; done)), H', ⟨by have := HK1.out; omega⟩, by repeat (first | exact Drawn0.refl _ | apply Drawn0.step)⟩
          · rw [if_neg c5] at H
            have c5b0 : decide (((rd_T44 l0 x5_1).f0) ≤ a1) = false := decide_eq_false c5
            clear c5
            have H' := Aside0.mk H
            clear H
            have p307 : 0 ≤ (x5_1 : Int) := of_decide_eq_true (by first | (with_reducible assumption) | assumption)
            have q307 : x5_1 < (l0.length : Int) := of_decide_eq_true (by first | (with_reducible assumption) | assumption)
            obtain ⟨ad307, e307, hx307_0, hx307_1⟩ := at_T44 HR0.out x5_1 p307 q307
            cases e307
            replace p307 := eq_true p307
            replace q307 := eq_true q307
            go_wp2
            go_roundg k1
            case measure => have := HK1.out; omega
            case rel => exact ⟨(wrap64 (x5_1 + 1)), (by first | rfl | (simp; done) | (simp [*]; done)), H', ⟨by have := HK1.out; omega⟩, by repeat (first | exact Drawn0.refl _ | apply Drawn0.step)⟩
        · rw [if_neg c4] at H
          exact absurd H (by simp)
      · rw [if_neg c3] at H
        have c3b0 : decide (x5_1 < (l0.length : Int)) = false := decide_eq_false c3
        clear c3
        obtain rfl := Option.some.inj H
        go_wp2
        go_ret
        exact ⟨by first | rfl | (simp; done) | (simp [*]; done), by repeat (first | exact Drawn0.refl _ | apply Drawn0.step)⟩

/-! ### hyphenlaw4_PartAlike: function 4 -/
mutual
def hyphenlaw4_PartAlike.j0 : Nat → List (List (S44)) → List Int → List Int → Int → Int → Option (Bool)
  | 0, _, _, _, _, _ => none
  | k + 1, x7, x8, x9, x10, x11 => hyphenlaw4_PartAlike.l0 k x7 x8 x9 x10 x11 true 0
def hyphenlaw4_PartAlike.l0 : Nat → List (List (S44)) → List Int → List Int → Int → Int → Bool → Int → Option (Bool)
  | 0, _, _, _, _, _, _, _ => none
  | k + 1, x7, x8, x9, x10, x11, x12, x13 => if x13 < (x7.length : Int) then (if x12 = true then (if 0 ≤ x13 then ((hyphenref3_Has.f k (rd_L2 x7 x13) x10).bind fun t324 => ((hyphenref3_Has.f k (rd_L2 x7 x13) x11).bind fun t326 => (hyphenlaw4_PartAlike.l0 k x7 x8 x9 x10 x11 (t324 == t326) (wrap64 (x13 + 1))))) else (none)) else (hyphenlaw4_PartAlike.l0 k x7 x8 x9 x10 x11 false (wrap64 (x13 + 1)))) else ((part_Letter.f x8 x9 x10).bind fun t327 => ((part_Letter.f x8 x9 x11).bind fun t328 => (some ((t327 == t328) == x12))))
end
def hyphenlaw4_PartAlike.f (k : Nat) (l0 : List Int) (a1 : Int) (a2 : Int) : Option (Bool) := (hyphenlaw4_known.f k).bind fun t309 => (if t309 = true then ((hyphenlaw4_Sets.f k l0 12).bind fun t310 => ((part_Cuts.f k t310).bind fun bt313 => ((hyphenlaw4_within.f a1 75).bind fun t319 => ((hyphenlaw4_within.f a2 75).bind fun t320 => ((hyphenlaw4_within.f a1 5).bind fun t321 => (if t321 = 0 then ((hyphenlaw4_within.f a1 1114112).bind fun t322 => (hyphenlaw4_PartAlike.j0 k t310 bt313.1 bt313.2 t322 t320)) else (hyphenlaw4_PartAlike.j0 k t310 bt313.1 bt313.2 t319 t320))))))) else (none))
theorem hyphenlaw4_PartAlike.mono_l : ∀ k, (∀ y0 y1 y2 y3 y4, LeO (hyphenlaw4_PartAlike.j0 k y0 y1 y2 y3 y4) (hyphenlaw4_PartAlike.j0 (k + 1) y0 y1 y2 y3 y4)) ∧ (∀ y0 y1 y2 y3 y4 y5 y6, LeO (hyphenlaw4_PartAlike.l0 k y0 y1 y2 y3 y4 y5 y6) (hyphenlaw4_PartAlike.l0 (k + 1) y0 y1 y2 y3 y4 y5 y6))
  | 0 => ⟨fun _ _ _ _ _ r h => by simp [hyphenlaw4_PartAlike.j0] at h, fun _ _ _ _ _ _ _ r h => by simp [hyphenlaw4_PartAlike.l0] at h⟩
  | k + 1 => by
    obtain ⟨ih0, ih1⟩ := hyphenlaw4_PartAlike.mono_l k
    refine ⟨?_, ?_⟩
    · intro y0 y1 y2 y3 y4
      unfold hyphenlaw4_PartAlike.j0
      repeat' first
      | (with_reducible exact ih0 _ _ _ _ _)
      | (with_reducible exact ih1 _ _ _ _ _ _ _)
      | (with_reducible exact hyphenlaw4_Sets.mono _ _ _)
      | (with_reducible exact hyphenlaw4_known.mono _)
      | (with_reducible exact hyphenref3_Has.mono _ _ _)
      | (with_reducible exact part_Cuts.mono _ _)
      | (with_reducible exact LeO.refl _)
      | (with_reducible exact LeO.none _)
      | (with_reducible refine LeO.ite ?_ ?_)
      | (with_reducible refine LeO.bind ?_ (fun _ => ?_))
      | exact ih0 _ _ _ _ _
      | exact ih1 _ _ _ _ _ _ _
      | exact hyphenlaw4_Sets.mono _ _ _
      | exact hyphenlaw4_known.mono _
      | exact hyphenref3_Has.mono _ _ _
      | exact part_Cuts.mono _ _
      | exact LeO.none _
      | refine LeO.ite ?_ ?_
      | refine LeO.bind ?_ (fun _ => ?_)
    · intro y0 y1 y2 y3 y4 y5 y6
      unfold hyphenlaw4_PartAlike.l0
      repeat' first
      | (with_reducible exact ih0 _ _ _ _ _)
      | (with_reducible exact ih1 _ _ _ _ _ _ _)
      | (with_reducible exact hyphenlaw4_Sets.mono _ _ _)
      | (with_reducible exact hyphenlaw4_known.mono _)
      | (with_reducible exact hyphenref3_Has.mono _ _ _)
      | (with_reducible exact part_Cuts.mono _ _)
      | (with_reducible exact LeO.refl _)
      | (with_reducible exact LeO.none _)
      | (with_reducible refine LeO.ite ?_ ?_)
      | (with_reducible refine LeO.bind ?_ (fun _ => ?_))
      | exact ih0 _ _ _ _ _
      | exact ih1 _ _ _ _ _ _ _
      | exact hyphenlaw4_Sets.mono _ _ _
      | exact hyphenlaw4_known.mono _
      | exact hyphenref3_Has.mono _ _ _
      | exact part_Cuts.mono _ _
      | exact LeO.none _
      | refine LeO.ite ?_ ?_
      | refine LeO.bind ?_ (fun _ => ?_)
theorem hyphenlaw4_PartAlike.mono : ∀ a0 a1 a2 k, LeO (hyphenlaw4_PartAlike.f k a0 a1 a2) (hyphenlaw4_PartAlike.f (k + 1) a0 a1 a2) := by
  intro a0 a1 a2 k
  obtain ⟨ih0, ih1⟩ := hyphenlaw4_PartAlike.mono_l k
  unfold hyphenlaw4_PartAlike.f
  repeat' first
      | (with_reducible exact ih0 _ _ _ _ _)
      | (with_reducible exact ih1 _ _ _ _ _ _ _)
      | (with_reducible exact hyphenlaw4_Sets.mono _ _ _)
      | (with_reducible exact hyphenlaw4_known.mono _)
      | (with_reducible exact hyphenref3_Has.mono _ _ _)
      | (with_reducible exact part_Cuts.mono _ _)
      | (with_reducible exact LeO.refl _)
      | (with_reducible exact LeO.none _)
      | (with_reducible refine LeO.ite ?_ ?_)
      | (with_reducible refine LeO.bind ?_ (fun _ => ?_))
      | exact ih0 _ _ _ _ _
      | exact ih1 _ _ _ _ _ _ _
      | exact hyphenlaw4_Sets.mono _ _ _
      | exact hyphenlaw4_known.mono _
      | exact hyphenref3_Has.mono _ _ _
      | exact part_Cuts.mono _ _
      | exact LeO.none _
      | refine LeO.ite ?_ ?_
      | refine LeO.bind ?_ (fun _ => ?_)
set_option maxHeartbeats 8000000 in
set_option maxRecDepth 100000 in
theorem hyphenlaw4_PartAlike.calls (k : Nat) (A0 : Option Addr) (c0 : Nat) (l0 : List Int) (a1 : Int) (a2 : Int) (r : Bool) (w : World) (hr0 : Kd.C (Kd.int .i64) w A0 l0.length l0) (hc0 : l0.length ≤ c0) (h : hyphenlaw4_PartAlike.f k l0 a1 a2 = some r) :
    Calls Try.prog 4 #[.slice A0 l0.length c0, .int .i64 a1, .int .i64 a2] w fun e w' => e = .returned (.bool r) ∧ Below w.heap.size w w' := by
  have HR0 := Aside0.mk hr0
  have HC0 := Aside0.mk hc0
  clear hr0 hc0
  have HB := Aside0.mk (Below.refl w.heap.size w)
  have H : ((hyphenlaw4_known.f k).bind fun t309 => (if t309 = true then ((hyphenlaw4_Sets.f k l0 12).bind fun t310 => ((part_Cuts.f k t310).bind fun bt313 => ((hyphenlaw4_within.f a1 75).bind fun t319 => ((hyphenlaw4_within.f a2 75).bind fun t320 => ((hyphenlaw4_within.f a1 5).bind fun t321 => (if t321 = 0 then ((hyphenlaw4_within.f a1 1114112).bind fun t322 => (hyphenlaw4_PartAlike.j0 k t310 bt313.1 bt313.2 t322 t320)) else (hyphenlaw4_PartAlike.j0 k t310 bt313.1 bt313.2 t319 t320))))))) else (none))) = some r := h
  clear h
  replace H := Option.bind_eq_some_iff.mp H
  obtain ⟨t309, A40, H⟩ := H
  replace H : (if t309 = true then ((hyphenlaw4_Sets.f k l0 12).bind fun t310 => ((part_Cuts.f k t310).bind fun bt313 => ((hyphenlaw4_within.f a1 75).bind fun t319 => ((hyphenlaw4_within.f a2 75).bind fun t320 => ((hyphenlaw4_within.f a1 5).bind fun t321 => (if t321 = 0 then ((hyphenlaw4_within.f a1 1114112).bind fun t322 => (hyphenlaw4_PartAlike.j0 k t310 bt313.1 bt313.2 t322 t320)) else (hyphenlaw4_PartAlike.j0 k t310 bt313.1 bt313.2 t319 t320))))))) else (none)) = some r := H
  have A4 := Aside0.mk A40
  clear A40
  by_cases c5 : t309 = true
  · subst c5
    have H1 : ((hyphenlaw4_Sets.f k l0 12).bind fun t310 => ((part_Cuts.f k t310).bind fun bt313 => ((hyphenlaw4_within.f a1 75).bind fun t319 => ((hyphenlaw4_within.f a2 75).bind fun t320 => ((hyphenlaw4_within.f a1 5).bind fun t321 => (if t321 = 0 then ((hyphenlaw4_within.f a1 1114112).bind fun t322 => (hyphenlaw4_PartAlike.j0 k t310 bt313.1 bt313.2 t322 t320)) else (hyphenlaw4_PartAlike.j0 k t310 bt313.1 bt313.2 t319 t320))))))) = some r := by rw [if_pos rfl] at H; exact H
    clear H
    have H := H1
    clear H1
    replace H := Option.bind_eq_some_iff.mp H
    obtain ⟨t310, A60, H⟩ := H
    replace H : ((part_Cuts.f k t310).bind fun bt313 => ((hyphenlaw4_within.f a1 75).bind fun t319 => ((hyphenlaw4_within.f a2 75).bind fun t320 => ((hyphenlaw4_within.f a1 5).bind fun t321 => (if t321 = 0 then ((hyphenlaw4_within.f a1 1114112).bind fun t322 => (hyphenlaw4_PartAlike.j0 k t310 bt313.1 bt313.2 t322 t320)) else (hyphenlaw4_PartAlike.j0 k t310 bt313.1 bt313.2 t319 t320)))))) = some r := H
    have A6 := Aside0.mk A60
    clear A60
    replace H := Option.bind_eq_some_iff.mp H
    obtain ⟨⟨t313, t314⟩, A70, H⟩ := H
    replace H : ((hyphenlaw4_within.f a1 75).bind fun t319 => ((hyphenlaw4_within.f a2 75).bind fun t320 => ((hyphenlaw4_within.f a1 5).bind fun t321 => (if t321 = 0 then ((hyphenlaw4_within.f a1 1114112).bind fun t322 => (hyphenlaw4_PartAlike.j0 k t310 t313 t314 t322 t320)) else (hyphenlaw4_PartAlike.j0 k t310 t313 t314 t319 t320))))) = some r := H
    have A7 := Aside0.mk A70
    clear A70
    replace H := Option.bind_eq_some_iff.mp H
    obtain ⟨t319, A80, H⟩ := H
    replace H : ((hyphenlaw4_within.f a2 75).bind fun t320 => ((hyphenlaw4_within.f a1 5).bind fun t321 => (if t321 = 0 then ((hyphenlaw4_within.f a1 1114112).bind fun t322 => (hyphenlaw4_PartAlike.j0 k t310 t313 t314 t322 t320)) else (hyphenlaw4_PartAlike.j0 k t310 t313 t314 t319 t320)))) = some r := H
    have A8 := Aside0.mk A80
    clear A80
    replace H := Option.bind_eq_some_iff.mp H
    obtain ⟨t320, A90, H⟩ := H
    replace H : ((hyphenlaw4_within.f a1 5).bind fun t321 => (if t321 = 0 then ((hyphenlaw4_within.f a1 1114112).bind fun t322 => (hyphenlaw4_PartAlike.j0 k t310 t313 t314 t322 t320)) else (hyphenlaw4_PartAlike.j0 k t310 t313 t314 t319 t320))) = some r := H
    have A9 := Aside0.mk A90
    clear A90
    replace H := Option.bind_eq_some_iff.mp H
    obtain ⟨t321, A100, H⟩ := H
    replace H : (if t321 = 0 then ((hyphenlaw4_within.f a1 1114112).bind fun t322 => (hyphenlaw4_PartAlike.j0 k t310 t313 t314 t322 t320)) else (hyphenlaw4_PartAlike.j0 k t310 t313 t314 t319 t320)) = some r := H
    have A10 := Aside0.mk A100
    clear A100
    have HC11 := Aside0.mk H
    clear H
    go_enter Try.func4, Try.ntmps4
    go_upto_if 29 with (first | (go_at_call 11; (with_reducible refine (hyphenlaw4_known.calls k  true _ A4.out).mono ?_); rintro e w12 ⟨rfl, hb⟩; have n0_ := Aside0.mk (below_step (by repeat (first | (with_reducible first | exact HB.out | apply below_alloc | apply pw_below_drewN | apply below_drew1) | exact HB.out)) hb); clear HB; have HB := n0_; clear n0_; (try clear hb); (try clear hb2); (try clear hk); (try clear hi)) | (go_at_call 12; (with_reducible refine (hyphenlaw4_Sets.calls k _ _ l0 12 t310 _ ?side1 ?side2 A6.out).mono ?_); (case side1 => repeat (first | exact (Kd.C_below HR0.out HB.out) | (with_reducible refine Kd.C_alloc ?_ _) | (with_reducible refine Kd.C_drewN ?_ _) | (with_reducible refine Kd.C_drew ?_))); (case side2 => exact HC0.out); rintro e w13 ⟨v311, rfl, ho0, hb⟩; have n0_ := Aside0.mk (Kd.R_lower ho0 (below_size (by repeat (first | (with_reducible first | exact HB.out | apply below_alloc | apply pw_below_drewN | apply below_drew1) | exact HB.out)))); have n1_ := Aside0.mk (below_step (by repeat (first | (with_reducible first | exact HB.out | apply below_alloc | apply pw_below_drewN | apply below_drew1) | exact HB.out)) hb); clear HB; have HO312 := n0_; have HB := n1_; clear n0_ n1_; (try clear hb); (try clear hb2); (try clear hk); (try clear hi); (try clear ho0); obtain ⟨Ao14, co14, eo14⟩ := Kd.R_slice HO312.out; subst eo14) | (go_at_call 13; (with_reducible refine (part_Cuts.calls k _ _ t310 t313 t314 _ ?side1 ?side2 A7.out).mono ?_); (case side1 => repeat (first | exact (Kd.R_reads' HO312.out).2.2 | (with_reducible refine Kd.C_alloc ?_ _) | (with_reducible refine Kd.C_drewN ?_ _) | (with_reducible refine Kd.C_drew ?_))); (case side2 => exact (Kd.R_reads' HO312.out).2.1); rintro e w15 ⟨v315, v317, rfl, ho0, ho1, hb⟩; have n0_ := Aside0.mk (Kd.R_below (by (with_reducible repeat (first | apply Kd.R_alloc | apply Kd.R_drewN | apply Kd.R_drew)); exact HO312.out) hb); have n1_ := Aside0.mk (Kd.R_lower ho0 (below_size (by repeat (first | (with_reducible first | exact HB.out | apply below_alloc | apply pw_below_drewN | apply below_drew1) | exact HB.out)))); have n2_ := Aside0.mk (Kd.R_lower ho1 (below_size (by repeat (first | (with_reducible first | exact HB.out | apply below_alloc | apply pw_below_drewN | apply below_drew1) | exact HB.out)))); have n3_ := Aside0.mk (below_step (by repeat (first | (with_reducible first | exact HB.out | apply below_alloc | apply pw_below_drewN | apply below_drew1) | exact HB.out)) hb); clear HO312; clear HB; have HO312 := n0_; have HO316 := n1_; have HO318 := n2_; have HB := n3_; clear n0_ n1_ n2_ n3_; (try clear hb); (try clear hb2); (try clear hk); (try clear hi); (try clear ho0); (try clear ho1)) | (go_at_call 20; (with_reducible refine (hyphenlaw4_within.calls a1 75 t319 _ A8.out).mono ?_); rintro e w' ⟨rfl, ⟨nd, rfl⟩⟩; (try first | exact ⟨rfl, _, World.drewN_drewN _ _ _⟩ | exact ⟨rfl, _, Eq.trans (World.drewN_drewN _ _ _) (congrArg (World.drewN _) (Nat.add_assoc _ _ _))⟩)) | (go_at_call 20; (with_reducible refine (hyphenlaw4_within.calls a2 75 t320 _ A9.out).mono ?_); rintro e w' ⟨rfl, ⟨nd, rfl⟩⟩; (try first | exact ⟨rfl, _, World.drewN_drewN _ _ _⟩ | exact ⟨rfl, _, Eq.trans (World.drewN_drewN _ _ _) (congrArg (World.drewN _) (Nat.add_assoc _ _ _))⟩)) | (go_at_call 20; (with_reducible refine (hyphenlaw4_within.calls a1 5 t321 _ A10.out).mono ?_); rintro e w' ⟨rfl, ⟨nd, rfl⟩⟩; (try first | exact ⟨rfl, _, World.drewN_drewN _ _ _⟩ | exact ⟨rfl, _, Eq.trans (World.drewN_drewN _ _ _) (congrArg (World.drewN _) (Nat.add_assoc _ _ _))⟩)))
    repeat (go_quiet (first | (go_at_call 11; (with_reducible refine (hyphenlaw4_known.calls k  true _ A4.out).mono ?_); rintro e w12 ⟨rfl, hb⟩; have n0_ := Aside0.mk (below_step (by repeat (first | (with_reducible first | exact HB.out | apply below_alloc | apply pw_below_drewN | apply below_drew1) | exact HB.out)) hb); clear HB; have HB := n0_; clear n0_; (try clear hb); (try clear hb2); (try clear hk); (try clear hi)) | (go_at_call 12; (with_reducible refine (hyphenlaw4_Sets.calls k _ _ l0 12 t310 _ ?side1 ?side2 A6.out).mono ?_); (case side1 => repeat (first | exact (Kd.C_below HR0.out HB.out) | (with_reducible refine Kd.C_alloc ?_ _) | (with_reducible refine Kd.C_drewN ?_ _) | (with_reducible refine Kd.C_drew ?_))); (case side2 => exact HC0.out); rintro e w13 ⟨v311, rfl, ho0, hb⟩; have n0_ := Aside0.mk (Kd.R_lower ho0 (below_size (by repeat (first | (with_reducible first | exact HB.out | apply below_alloc | apply pw_below_drewN | apply below_drew1) | exact HB.out)))); have n1_ := Aside0.mk (below_step (by repeat (first | (with_reducible first | exact HB.out | apply below_alloc | apply pw_below_drewN | apply below_drew1) | exact HB.out)) hb); clear HB; have HO312 := n0_; have HB := n1_; clear n0_ n1_; (try clear hb); (try clear hb2); (try clear hk); (try clear hi); (try clear ho0); obtain ⟨Ao14, co14, eo14⟩ := Kd.R_slice HO312.out; subst eo14) | (go_at_call 13; (with_reducible refine (part_Cuts.calls k _ _ t310 t313 t314 _ ?side1 ?side2 A7.out).mono ?_); (case side1 => repeat (first | exact (Kd.R_reads' HO312.out).2.2 | (with_reducible refine Kd.C_alloc ?_ _) | (with_reducible refine Kd.C_drewN ?_ _) | (with_reducible refine Kd.C_drew ?_))); (case side2 => exact (Kd.R_reads' HO312.out).2.1); rintro e w15 ⟨v315, v317, rfl, ho0, ho1, hb⟩; have n0_ := Aside0.mk (Kd.R_below (by (with_reducible repeat (first | apply Kd.R_alloc | apply Kd.R_drewN | apply Kd.R_drew)); exact HO312.out) hb); have n1_ := Aside0.mk (Kd.R_lower ho0 (below_size (by repeat (first | (with_reducible first | exact HB.out | apply below_alloc | apply pw_below_drewN | apply below_drew1) | exact HB.out)))); have n2_ := Aside0.mk (Kd.R_lower ho1 (below_size (by repeat (first | (with_reducible first | exact HB.out | apply below_alloc | apply pw_below_drewN | apply below_drew1) | exact HB.out)))); have n3_ := Aside0.mk (below_step (by repeat (first | (with_reducible first | exact HB.out | apply below_alloc | apply pw_below_drewN | apply below_drew1) | exact HB.out)) hb); clear HO312; clear HB; have HO312 := n0_; have HO316 := n1_; have HO318 := n2_; have HB := n3_; clear n0_ n1_ n2_ n3_; (try clear hb); (try clear hb2); (try clear hk); (try clear hi); (try clear ho0); (try clear ho1)) | (go_at_call 20; (with_reducible refine (hyphenlaw4_within.calls a1 75 t319 _ A8.out).mono ?_); rintro e w' ⟨rfl, ⟨nd, rfl⟩⟩; (try first | exact ⟨rfl, _, World.drewN_drewN _ _ _⟩ | exact ⟨rfl, _, Eq.trans (World.drewN_drewN _ _ _) (congrArg (World.drewN _) (Nat.add_assoc _ _ _))⟩)) | (go_at_call 20; (with_reducible refine (hyphenlaw4_within.calls a2 75 t320 _ A9.out).mono ?_); rintro e w' ⟨rfl, ⟨nd, rfl⟩⟩; (try first | exact ⟨rfl, _, World.drewN_drewN _ _ _⟩ | exact ⟨rfl, _, Eq.trans (World.drewN_drewN _ _ _) (congrArg (World.drewN _) (Nat.add_assoc _ _ _))⟩)) | (go_at_call 20; (with_reducible refine (hyphenlaw4_within.calls a1 5 t321 _ A10.out).mono ?_); rintro e w' ⟨rfl, ⟨nd, rfl⟩⟩; (try first | exact ⟨rfl, _, World.drewN_drewN _ _ _⟩ | exact ⟨rfl, _, Eq.trans (World.drewN_drewN _ _ _) (congrArg (World.drewN _) (Nat.add_assoc _ _ _))⟩))); go_upto_if 29 with (first | (go_at_call 11; (with_reducible refine (hyphenlaw4_known.calls k  true _ A4.out).mono ?_); rintro e w12 ⟨rfl, hb⟩; have n0_ := Aside0.mk (below_step (by repeat (first | (with_reducible first | exact HB.out | apply below_alloc | apply pw_below_drewN | apply below_drew1) | exact HB.out)) hb); clear HB; have HB := n0_; clear n0_; (try clear hb); (try clear hb2); (try clear hk); (try clear hi)) | (go_at_call 12; (with_reducible refine (hyphenlaw4_Sets.calls k _ _ l0 12 t310 _ ?side1 ?side2 A6.out).mono ?_); (case side1 => repeat (first | exact (Kd.C_below HR0.out HB.out) | (with_reducible refine Kd.C_alloc ?_ _) | (with_reducible refine Kd.C_drewN ?_ _) | (with_reducible refine Kd.C_drew ?_))); (case side2 => exact HC0.out); rintro e w13 ⟨v311, rfl, ho0, hb⟩; have n0_ := Aside0.mk (Kd.R_lower ho0 (below_size (by repeat (first | (with_reducible first | exact HB.out | apply below_alloc | apply pw_below_drewN | apply below_drew1) | exact HB.out)))); have n1_ := Aside0.mk (below_step (by repeat (first | (with_reducible first | exact HB.out | apply below_alloc | apply pw_below_drewN | apply below_drew1) | exact HB.out)) hb); clear HB; have HO312 := n0_; have HB := n1_; clear n0_ n1_; (try clear hb); (try clear hb2); (try clear hk); (try clear hi); (try clear ho0); obtain ⟨Ao14, co14, eo14⟩ := Kd.R_slice HO312.out; subst eo14) | (go_at_call 13; (with_reducible refine (part_Cuts.calls k _ _ t310 t313 t314 _ ?side1 ?side2 A7.out).mono ?_); (case side1 => repeat (first | exact (Kd.R_reads' HO312.out).2.2 | (with_reducible refine Kd.C_alloc ?_ _) | (with_reducible refine Kd.C_drewN ?_ _) | (with_reducible refine Kd.C_drew ?_))); (case side2 => exact (Kd.R_reads' HO312.out).2.1); rintro e w15 ⟨v315, v317, rfl, ho0, ho1, hb⟩; have n0_ := Aside0.mk (Kd.R_below (by (with_reducible repeat (first | apply Kd.R_alloc | apply Kd.R_drewN | apply Kd.R_drew)); exact HO312.out) hb); have n1_ := Aside0.mk (Kd.R_lower ho0 (below_size (by repeat (first | (with_reducible first | exact HB.out | apply below_alloc | apply pw_below_drewN | apply below_drew1) | exact HB.out)))); have n2_ := Aside0.mk (Kd.R_lower ho1 (below_size (by repeat (first | (with_reducible first | exact HB.out | apply below_alloc | apply pw_below_drewN | apply below_drew1) | exact HB.out)))); have n3_ := Aside0.mk (below_step (by repeat (first | (with_reducible first | exact HB.out | apply below_alloc | apply pw_below_drewN | apply below_drew1) | exact HB.out)) hb); clear HO312; clear HB; have HO312 := n0_; have HO316 := n1_; have HO318 := n2_; have HB := n3_; clear n0_ n1_ n2_ n3_; (try clear hb); (try clear hb2); (try clear hk); (try clear hi); (try clear ho0); (try clear ho1)) | (go_at_call 20; (with_reducible refine (hyphenlaw4_within.calls a1 75 t319 _ A8.out).mono ?_); rintro e w' ⟨rfl, ⟨nd, rfl⟩⟩; (try first | exact ⟨rfl, _, World.drewN_drewN _ _ _⟩ | exact ⟨rfl, _, Eq.trans (World.drewN_drewN _ _ _) (congrArg (World.drewN _) (Nat.add_assoc _ _ _))⟩)) | (go_at_call 20; (with_reducible refine (hyphenlaw4_within.calls a2 75 t320 _ A9.out).mono ?_); rintro e w' ⟨rfl, ⟨nd, rfl⟩⟩; (try first | exact ⟨rfl, _, World.drewN_drewN _ _ _⟩ | exact ⟨rfl, _, Eq.trans (World.drewN_drewN _ _ _) (congrArg (World.drewN _) (Nat.add_assoc _ _ _))⟩)) | (go_at_call 20; (with_reducible refine (hyphenlaw4_within.calls a1 5 t321 _ A10.out).mono ?_); rintro e w' ⟨rfl, ⟨nd, rfl⟩⟩; (try first | exact ⟨rfl, _, World.drewN_drewN _ _ _⟩ | exact ⟨rfl, _, Eq.trans (World.drewN_drewN _ _ _) (congrArg (World.drewN _) (Nat.add_assoc _ _ _))⟩))))
    (try simp only [Act.put, List.setIfInBounds_toArray, List.set_cons_zero, List.set_cons_succ])
    go_cut [10] (fun v10 wc => ∃ (kq : Nat) (x10_10 : Int), v10 = .int .i64 x10_10 ∧ Aside0 (hyphenlaw4_PartAlike.j0 kq t310 t313 t314 x10_10 t320 = some r) ∧ Aside0 (kq ≤ k) ∧ Aside0 (Kd.R (Kd.slice 44 k44) 37 wc w.heap.size (fun _ => True) (.slice Ao14 t310.length co14) t310) ∧ Aside0 (Kd.R (Kd.int .i64) 3 wc w.heap.size (fun k_ => some k_ ≠ (v317 : Value).ownBlock) v315 t313) ∧ Aside0 (Kd.R (Kd.int .i64) 3 wc w.heap.size (fun k_ => some k_ ≠ (v315 : Value).ownBlock) v317 t314) ∧ Aside0 (Below w.heap.size w wc))
    case first =>
      have H := HC11.out
      clear HC11
      by_cases c16 : t321 = 0
      · rw [if_pos c16] at H
        have c16b0 : (t321 == 0) = true := beq_iff_eq.mpr c16
        have c16b1 : (t321 != 0) = false := bne_eq_false_iff_eq.mpr c16
        clear c16
        (first | rw [c16b0] | (simp only [i64_w, i32_w]; rw [c16b0]) | skip)
        replace H := Option.bind_eq_some_iff.mp H
        obtain ⟨t322, A170, H⟩ := H
        replace H : (hyphenlaw4_PartAlike.j0 k t310 t313 t314 t322 t320) = some r := H
        have A17 := Aside0.mk A170
        clear A170
        have H' := Aside0.mk H
        clear H
        go_wp2_with (first | (go_at_call 20; (with_reducible refine (hyphenlaw4_within.calls a1 1114112 t322 _ A17.out).mono ?_); rintro e w' ⟨rfl, ⟨nd, rfl⟩⟩; (try first | exact ⟨rfl, _, World.drewN_drewN _ _ _⟩ | exact ⟨rfl, _, Eq.trans (World.drewN_drewN _ _ _) (congrArg (World.drewN _) (Nat.add_assoc _ _ _))⟩)))
        repeat (go_quiet (first | (go_at_call 20; (with_reducible refine (hyphenlaw4_within.calls a1 1114112 t322 _ A17.out).mono ?_); rintro e w' ⟨rfl, ⟨nd, rfl⟩⟩; (try first | exact ⟨rfl, _, World.drewN_drewN _ _ _⟩ | exact ⟨rfl, _, Eq.trans (World.drewN_drewN _ _ _) (congrArg (World.drewN _) (Nat.add_assoc _ _ _))⟩))); try go_wp2_with (first | (go_at_call 20; (with_reducible refine (hyphenlaw4_within.calls a1 1114112 t322 _ A17.out).mono ?_); rintro e w' ⟨rfl, ⟨nd, rfl⟩⟩; (try first | exact ⟨rfl, _, World.drewN_drewN _ _ _⟩ | exact ⟨rfl, _, Eq.trans (World.drewN_drewN _ _ _) (congrArg (World.drewN _) (Nat.add_assoc _ _ _))⟩))))
        go_meet
        case rel => exact ⟨_, (t322), (by first | rfl | (simp; done) | (simp [*]; done)), H', ⟨by first | omega | exact Nat.le_refl _⟩, ⟨by (with_reducible repeat (first | apply Kd.R_alloc | apply Kd.R_drewN | apply Kd.R_drew)); exact HO312.out⟩, ⟨by (with_reducible repeat (first | apply Kd.R_alloc | apply Kd.R_drewN | apply Kd.R_drew)); exact HO316.out⟩, ⟨by (with_reducible repeat (first | apply Kd.R_alloc | apply Kd.R_drewN | apply Kd.R_drew)); exact HO318.out⟩, ⟨by repeat (first | (with_reducible first | exact HB.out | apply below_alloc | apply pw_below_drewN | apply below_drew1) | exact HB.out)⟩⟩
      · rw [if_neg c16] at H
        have c16b0 : (t321 == 0) = false := beq_eq_false_iff_ne.mpr c16
        have c16b1 : (t321 != 0) = true := bne_iff_ne.mpr c16
        (first | rw [c16b0] | (simp only [i64_w, i32_w]; rw [c16b0]) | skip)
        have H' := Aside0.mk H
        clear H
        go_wp2
        repeat (go_quiet (fail); try go_wp2)
        go_meet
        case rel => exact ⟨_, (t319), (by first | rfl | (simp; done) | (simp [*]; done)), H', ⟨by first | omega | exact Nat.le_refl _⟩, ⟨by (with_reducible repeat (first | apply Kd.R_alloc | apply Kd.R_drewN | apply Kd.R_drew)); exact HO312.out⟩, ⟨by (with_reducible repeat (first | apply Kd.R_alloc | apply Kd.R_drewN | apply Kd.R_drew)); exact HO316.out⟩, ⟨by (with_reducible repeat (first | apply Kd.R_alloc | apply Kd.R_drewN | apply Kd.R_drew)); exact HO318.out⟩, ⟨by repeat (first | (with_reducible first | exact HB.out | apply below_alloc | apply pw_below_drewN | apply below_drew1) | exact HB.out)⟩⟩
    case rest =>
      clear HC11
      try clear c1
      try clear p2
      try clear c4
      try clear c5
      try clear c16
      try clear c16b0
      try clear c16b1
      obtain ⟨kq, x10_10, rfl, HA, HJ10, HO_7, HO_8, HO_9, HB⟩ := hcut
      cases kq with
      | zero => exact absurd HA.out (by simp [hyphenlaw4_PartAlike.j0])
      | succ kj10 =>
        have H := HA.out
        clear HA
        simp only [hyphenlaw4_PartAlike.j0] at H
        have H' := Aside0.mk H
        clear H
        go_wp2
        repeat (go_quiet (fail); try go_wp2)
        go_loopg [12, 13] kj10 (fun kq v12 v13 w' => ∃ (x12_2 : Bool) (x13_2 : Int), v12 = .bool x12_2 ∧ v13 = .int .i64 x13_2 ∧ Aside0 (hyphenlaw4_PartAlike.l0 kq t310 t313 t314 x10_10 t320 x12_2 x13_2 = some r) ∧ Aside0 (kq ≤ kj10) ∧ Aside0 (Kd.R (Kd.slice 44 k44) 37 w' w.heap.size (fun _ => True) (.slice Ao14 t310.length co14) t310) ∧ Aside0 (Kd.R (Kd.int .i64) 3 w' w.heap.size (fun k_ => some k_ ≠ (v317 : Value).ownBlock) v315 t313) ∧ Aside0 (Kd.R (Kd.int .i64) 3 w' w.heap.size (fun k_ => some k_ ≠ (v315 : Value).ownBlock) v317 t314) ∧ Aside0 (Below w.heap.size w w'))
        case atStart => exact ⟨(true), (0), (by first | rfl | (simp; done) | (simp [*]; done)), (by first | rfl | (simp; done) | (simp [*]; done)), H', ⟨Nat.le_refl _⟩, ⟨by (with_reducible repeat (first | apply Kd.R_alloc | apply Kd.R_drewN | apply Kd.R_drew)); exact HO_7.out⟩, ⟨by (with_reducible repeat (first | apply Kd.R_alloc | apply Kd.R_drewN | apply Kd.R_drew)); exact HO_8.out⟩, ⟨by (with_reducible repeat (first | apply Kd.R_alloc | apply Kd.R_drewN | apply Kd.R_drew)); exact HO_9.out⟩, ⟨by repeat (first | (with_reducible first | exact HB.out | apply below_alloc | apply pw_below_drewN | apply below_drew1) | exact HB.out)⟩⟩
        case round =>
          clear H'
          try clear c1
          try clear p2
          try clear c4
          try clear c5
          try clear c16
          try clear c16b0
          try clear c16b1
          try clear p2
          obtain ⟨x12_2, x13_2, rfl, rfl, HA, HK2, HO_7, HO_8, HO_9, HB⟩ := hrel
          cases gk with
          | zero => exact absurd HA.out (by simp [hyphenlaw4_PartAlike.l0])
          | succ k2 =>
            have H := HA.out
            clear HA
            simp only [hyphenlaw4_PartAlike.l0] at H
            by_cases c18 : x13_2 < (t310.length : Int)
            · rw [if_pos c18] at H
              have c18b0 : decide (x13_2 < (t310.length : Int)) = true := decide_eq_true c18
              clear c18
              by_cases c19 : x12_2 = true
              · subst c19
                have H1 : (if 0 ≤ x13_2 then ((hyphenref3_Has.f k2 (rd_L2 t310 x13_2) x10_10).bind fun t324 => ((hyphenref3_Has.f k2 (rd_L2 t310 x13_2) t320).bind fun t326 => (hyphenlaw4_PartAlike.l0 k2 t310 t313 t314 x10_10 t320 (t324 == t326) (wrap64 (x13_2 + 1))))) else (none)) = some r := by rw [if_pos rfl] at H; exact H
                clear H
                have H := H1
                clear H1
                by_cases c20 : 0 ≤ x13_2
                · rw [if_pos c20] at H
                  have c20b0 : decide (0 ≤ x13_2) = true := decide_eq_true c20
                  clear c20
                  replace H := Option.bind_eq_some_iff.mp H
                  obtain ⟨t324, A210, H⟩ := H
                  replace H : ((hyphenref3_Has.f k2 (rd_L2 t310 x13_2) t320).bind fun t326 => (hyphenlaw4_PartAlike.l0 k2 t310 t313 t314 x10_10 t320 (t324 == t326) (wrap64 (x13_2 + 1)))) = some r := H
                  have A21 := Aside0.mk A210
                  clear A210
                  replace H := Option.bind_eq_some_iff.mp H
                  obtain ⟨t326, A220, H⟩ := H
                  replace H : (hyphenlaw4_PartAlike.l0 k2 t310 t313 t314 x10_10 t320 (t324 == t326) (wrap64 (x13_2 + 1))) = some r := H
                  have A22 := Aside0.mk A220
                  clear A220
                  have H' := Aside0.mk H
                  clear H
                  have p323 : 0 ≤ (x13_2 : Int) := of_decide_eq_true (by first | (with_reducible assumption) | assumption)
                  have q323 : x13_2 < (t310.length : Int) := of_decide_eq_true (by first | (with_reducible assumption) | assumption)
                  obtain ⟨ad323, A323_0, c323_0, e323, hx323_0, hl323_0, hi323_0⟩ := at_L2 (Kd.R_reads' HO_7.out).2.2 x13_2 p323 q323
                  cases e323
                  obtain ⟨ce323, hce323, hMe323, hcc323⟩ := Kd.R_get HO_7.out [] x13_2 p323 (by first | exact q323 | exact of_decide_eq_true (by first | (with_reducible assumption) | assumption) | (have e_ := (Kd.R_reads' HO_7.out).1; omega))
                  obtain ⟨ve323_0, rfl, ge323_0⟩ := hMe323
                  have hv323_0 := hcc323 0 _ rfl
                  rw [Nat.add_zero, show ((Kd.slice 44 k44)).sz = 1 from rfl, Nat.mul_one] at hv323_0
                  replace hv323_0 := Option.some.inj (hv323_0.symm.trans hx323_0)
                  rw [hv323_0] at ge323_0
                  have HL323_0 := Aside0.mk (show Kd.R k44 44 _ _ _ _ (rd_L2 t310 x13_2) from ge323_0)
                  clear hv323_0 ge323_0
                  clear hcc323 hce323
                  have HR323_0 := Aside0.mk hi323_0
                  have HC323_0 := Aside0.mk hl323_0
                  clear hi323_0 hl323_0
                  replace p323 := eq_true p323
                  replace q323 := eq_true q323
                  go_wp2_with (first | (go_at_call 23; (with_reducible refine (hyphenref3_Has.calls k2 _ _ (rd_L2 t310 x13_2) x10_10 t324 _ ?side1 ?side2 A21.out).mono ?_); (case side1 => repeat (first | exact (by repeat (first | (with_reducible exact HR323_0.out) | (with_reducible refine Kd.C_alloc ?_ _) | (with_reducible refine Kd.C_drewN ?_ _) | (with_reducible refine Kd.C_drew ?_) | exact HR323_0.out)) | (with_reducible refine Kd.C_alloc ?_ _) | (with_reducible refine Kd.C_drewN ?_ _) | (with_reducible refine Kd.C_drew ?_))); (case side2 => exact HC323_0.out); rintro e w' ⟨rfl, ⟨nd, rfl⟩⟩; (try first | exact ⟨rfl, _, World.drewN_drewN _ _ _⟩ | exact ⟨rfl, _, Eq.trans (World.drewN_drewN _ _ _) (congrArg (World.drewN _) (Nat.add_assoc _ _ _))⟩); have p325 : 0 ≤ (x13_2 : Int) := of_decide_eq_true (by first | (with_reducible assumption) | assumption); have q325 : x13_2 < (t310.length : Int) := of_decide_eq_true (by first | (with_reducible assumption) | assumption); obtain ⟨ad325, A325_0, c325_0, e325, hx325_0, hl325_0, hi325_0⟩ := at_L2 (Kd.R_reads' HO_7.out).2.2 x13_2 p325 q325; obtain rfl : ad323 = ad325 := (by injection e325); obtain ⟨ce325, hce325, hMe325, hcc325⟩ := Kd.R_get HO_7.out [] x13_2 p325 (by first | exact q325 | exact of_decide_eq_true (by first | (with_reducible assumption) | assumption) | (have e_ := (Kd.R_reads' HO_7.out).1; omega)); obtain ⟨ve325_0, rfl, ge325_0⟩ := hMe325; have hv325_0 := hcc325 0 _ rfl; rw [Nat.add_zero, show ((Kd.slice 44 k44)).sz = 1 from rfl, Nat.mul_one] at hv325_0; replace hv325_0 := Option.some.inj (hv325_0.symm.trans hx325_0); rw [hv325_0] at ge325_0; have HL325_0 := Aside0.mk (show Kd.R k44 44 _ _ _ _ (rd_L2 t310 x13_2) from ge325_0); clear hv325_0 ge325_0; clear hcc325 hce325; have HR325_0 := Aside0.mk hi325_0; have HC325_0 := Aside0.mk hl325_0; clear hi325_0 hl325_0; replace p325 := eq_true p325; replace q325 := eq_true q325; have ea_ := Option.some.inj (hx323_0.symm.trans hx325_0); injection ea_ with ea_ en_ ec_; subst ea_; subst ec_; clear en_) | (go_at_call 23; (with_reducible refine (hyphenref3_Has.calls k2 _ _ (rd_L2 t310 x13_2) t320 t326 _ ?side1 ?side2 A22.out).mono ?_); (case side1 => repeat (first | exact (by repeat (first | (with_reducible exact HR325_0.out) | (with_reducible refine Kd.C_alloc ?_ _) | (with_reducible refine Kd.C_drewN ?_ _) | (with_reducible refine Kd.C_drew ?_) | exact HR325_0.out)) | (with_reducible refine Kd.C_alloc ?_ _) | (with_reducible refine Kd.C_drewN ?_ _) | (with_reducible refine Kd.C_drew ?_))); (case side2 => exact HC325_0.out); rintro e w' ⟨rfl, ⟨nd, rfl⟩⟩; (try first | exact ⟨rfl, _, World.drewN_drewN _ _ _⟩ | exact ⟨rfl, _, Eq.trans (World.drewN_drewN _ _ _) (congrArg (World.drewN _) (Nat.add_assoc _ _ _))⟩)))
                  repeat (go_quiet (first | (go_at_call 23; (with_reducible refine (hyphenref3_Has.calls k2 _ _ (rd_L2 t310 x13_2) x10_10 t324 _ ?side1 ?side2 A21.out).mono ?_); (case side1 => repeat (first | exact (by repeat (first | (with_reducible exact HR323_0.out) | (with_reducible refine Kd.C_alloc ?_ _) | (with_reducible refine Kd.C_drewN ?_ _) | (with_reducible refine Kd.C_drew ?_) | exact HR323_0.out)) | (with_reducible refine Kd.C_alloc ?_ _) | (with_reducible refine Kd.C_drewN ?_ _) | (with_reducible refine Kd.C_drew ?_))); (case side2 => exact HC323_0.out); rintro e w' ⟨rfl, ⟨nd, rfl⟩⟩; (try first | exact ⟨rfl, _, World.drewN_drewN _ _ _⟩ | exact ⟨rfl, _, Eq.trans (World.drewN_drewN _ _ _) (congrArg (World.drewN _) (Nat.add_assoc _ _ _))⟩); have p325 : 0 ≤ (x13_2 : Int) := of_decide_eq_true (by first | (with_reducible assumption) | assumption); have q325 : x13_2 < (t310.length : Int) := of_decide_eq_true (by first | (with_reducible assumption) | assumption); obtain ⟨ad325, A325_0, c325_0, e325, hx325_0, hl325_0, hi325_0⟩ := at_L2 (Kd.R_reads' HO_7.out).2.2 x13_2 p325 q325; obtain rfl : ad323 = ad325 := (by injection e325); obtain ⟨ce325, hce325, hMe325, hcc325⟩ := Kd.R_get HO_7.out [] x13_2 p325 (by first | exact q325 | exact of_decide_eq_true (by first | (with_reducible assumption) | assumption) | (have e_ := (Kd.R_reads' HO_7.out).1; omega)); obtain ⟨ve325_0, rfl, ge325_0⟩ := hMe325; have hv325_0 := hcc325 0 _ rfl; rw [Nat.add_zero, show ((Kd.slice 44 k44)).sz = 1 from rfl, Nat.mul_one] at hv325_0; replace hv325_0 := Option.some.inj (hv325_0.symm.trans hx325_0); rw [hv325_0] at ge325_0; have HL325_0 := Aside0.mk (show Kd.R k44 44 _ _ _ _ (rd_L2 t310 x13_2) from ge325_0); clear hv325_0 ge325_0; clear hcc325 hce325; have HR325_0 := Aside0.mk hi325_0; have HC325_0 := Aside0.mk hl325_0; clear hi325_0 hl325_0; replace p325 := eq_true p325; replace q325 := eq_true q325; have ea_ := Option.some.inj (hx323_0.symm.trans hx325_0); injection ea_ with ea_ en_ ec_; subst ea_; subst ec_; clear en_) | (go_at_call 23; (with_reducible refine (hyphenref3_Has.calls k2 _ _ (rd_L2 t310 x13_2) t320 t326 _ ?side1 ?side2 A22.out).mono ?_); (case side1 => repeat (first | exact (by repeat (first | (with_reducible exact HR325_0.out) | (with_reducible refine Kd.C_alloc ?_ _) | (with_reducible refine Kd.C_drewN ?_ _) | (with_reducible refine Kd.C_drew ?_) | exact HR325_0.out)) | (with_reducible refine Kd.C_alloc ?_ _) | (with_reducible refine Kd.C_drewN ?_ _) | (with_reducible refine Kd.C_drew ?_))); (case side2 => exact HC325_0.out); rintro e w' ⟨rfl, ⟨nd, rfl⟩⟩; (try first | exact ⟨rfl, _, World.drewN_drewN _ _ _⟩ | exact ⟨rfl, _, Eq.trans (World.drewN_drewN _ _ _) (congrArg (World.drewN _) (Nat.add_assoc _ _ _))⟩))); try go_wp2_with (first | (go_at_call 23; (with_reducible refine (hyphenref3_Has.calls k2 _ _ (rd_L2 t310 x13_2) x10_10 t324 _ ?side1 ?side2 A21.out).mono ?_); (case side1 => repeat (first | exact (by repeat (first | (with_reducible exact HR323_0.out) | (with_reducible refine Kd.C_alloc ?_ _) | (with_reducible refine Kd.C_drewN ?_ _) | (with_reducible refine Kd.C_drew ?_) | exact HR323_0.out)) | (with_reducible refine Kd.C_alloc ?_ _) | (with_reducible refine Kd.C_drewN ?_ _) | (with_reducible refine Kd.C_drew ?_))); (case side2 => exact HC323_0.out); rintro e w' ⟨rfl, ⟨nd, rfl⟩⟩; (try first | exact ⟨rfl, _, World.drewN_drewN _ _ _⟩ | exact ⟨rfl, _, Eq.trans (World.drewN_drewN _ _ _) (congrArg (World.drewN _) (Nat.add_assoc _ _ _))⟩); have p325 : 0 ≤ (x13_2 : Int) := of_decide_eq_true (by first | (with_reducible assumption) | assumption); have q325 : x13_2 < (t310.length : Int) := of_decide_eq_true (by first | (with_reducible assumption) | assumption); obtain ⟨ad325, A325_0, c325_0, e325, hx325_0, hl325_0, hi325_0⟩ := at_L2 (Kd.R_reads' HO_7.out).2.2 x13_2 p325 q325; obtain rfl : ad323 = ad325 := (by injection e325); obtain ⟨ce325, hce325, hMe325, hcc325⟩ := Kd.R_get HO_7.out [] x13_2 p325 (by first | exact q325 | exact of_decide_eq_true (by first | (with_reducible assumption) | assumption) | (have e_ := (Kd.R_reads' HO_7.out).1; omega)); obtain ⟨ve325_0, rfl, ge325_0⟩ := hMe325; have hv325_0 := hcc325 0 _ rfl; rw [Nat.add_zero, show ((Kd.slice 44 k44)).sz = 1 from rfl, Nat.mul_one] at hv325_0; replace hv325_0 := Option.some.inj (hv325_0.symm.trans hx325_0); rw [hv325_0] at ge325_0; have HL325_0 := Aside0.mk (show Kd.R k44 44 _ _ _ _ (rd_L2 t310 x13_2) from ge325_0); clear hv325_0 ge325_0; clear hcc325 hce325; have HR325_0 := Aside0.mk hi325_0; have HC325_0 := Aside0.mk hl325_0; clear hi325_0 hl325_0; replace p325 := eq_true p325; replace q325 := eq_true q325; have ea_ := Option.some.inj (hx323_0.symm.trans hx325_0); injection ea_ with ea_ en_ ec_; subst ea_; subst ec_; clear en_) | (go_at_call 23; (with_reducible refine (hyphenref3_Has.calls k2 _ _ (rd_L2 t310 x13_2) t320 t326 _ ?side1 ?side2 A22.out).mono ?_); (case side1 => repeat (first | exact (by repeat (first | (with_reducible exact HR325_0.out) | (with_reducible refine Kd.C_alloc ?_ _) | (with_reducible refine Kd.C_drewN ?_ _) | (with_reducible refine Kd.C_drew ?_) | exact HR325_0.out)) | (with_reducible refine Kd.C_alloc ?_ _) | (with_reducible refine Kd.C_drewN ?_ _) | (with_reducible refine Kd.C_drew ?_))); (case side2 => exact HC325_0.out); rintro e w' ⟨rfl, ⟨nd, rfl⟩⟩; (try first | exact ⟨rfl, _, World.drewN_drewN _ _ _⟩ | exact ⟨rfl, _, Eq.trans (World.drewN_drewN _ _ _) (congrArg (World.drewN _) (Nat.add_assoc _ _ _))⟩))))
                  go_roundg k2
                  case measure => have := HJ10.out; have := HK2.out; omega
                  case rel => exact ⟨((t324 == t326)), (wrap64 (x13_2 + 1)), (by first | rfl | (simp; done) | (simp [*]; done)), (by first | rfl | (simp; done) | (simp [*]; done)), H', ⟨by have := HJ10.out; have := HK2.out; omega⟩, ⟨by (with_reducible repeat (first | apply Kd.R_alloc | apply Kd.R_drewN | apply Kd.R_drew)); exact HO_7.out⟩, ⟨by (with_reducible repeat (first | apply Kd.R_alloc | apply Kd.R_drewN | apply Kd.R_drew)); exact HO_8.out⟩, ⟨by (with_reducible repeat (first | apply Kd.R_alloc | apply Kd.R_drewN | apply Kd.R_drew)); exact HO_9.out⟩, ⟨by repeat (first | (with_reducible first | exact HB.out | apply below_alloc | apply pw_below_drewN | apply below_drew1) | exact HB.out)⟩⟩
                · rw [if_neg c20] at H
                  exact absurd H (by simp)
              · replace c19 := Bool.eq_false_iff.mpr c19
                subst c19
                have H1 : (hyphenlaw4_PartAlike.l0 k2 t310 t313 t314 x10_10 t320 false (wrap64 (x13_2 + 1))) = some r := by rw [if_neg (show ¬ (false = true) by decide)] at H; exact H
                clear H
                have H := H1
                clear H1
                have H' := Aside0.mk H
                clear H
                go_wp2
                repeat (go_quiet (fail); try go_wp2)
                go_roundg k2
                case measure => have := HJ10.out; have := HK2.out; omega
                case rel => exact ⟨(false), (wrap64 (x13_2 + 1)), (by first | rfl | (simp; done) | (simp [*]; done)), (by first | rfl | (simp; done) | (simp [*]; done)), H', ⟨by have := HJ10.out; have := HK2.out; omega⟩, ⟨by (with_reducible repeat (first | apply Kd.R_alloc | apply Kd.R_drewN | apply Kd.R_drew)); exact HO_7.out⟩, ⟨by (with_reducible repeat (first | apply Kd.R_alloc | apply Kd.R_drewN | apply Kd.R_drew)); exact HO_8.out⟩, ⟨by (with_reducible repeat (first | apply Kd.R_alloc | apply Kd.R_drewN | apply Kd.R_drew)); exact HO_9.out⟩, ⟨by repeat (first | (with_reducible first | exact HB.out | apply below_alloc | apply pw_below_drewN | apply below_drew1) | exact HB.out)⟩⟩
            · rw [if_neg c18] at H
              have c18b0 : decide (x13_2 < (t310.length : Int)) = false := decide_eq_false c18
              clear c18
              replace H := Option.bind_eq_some_iff.mp H
              obtain ⟨t327, A230, H⟩ := H
              replace H : ((part_Letter.f t313 t314 t320).bind fun t328 => (some ((t327 == t328) == x12_2))) = some r := H
              have A23 := Aside0.mk A230
              clear A230
              replace H := Option.bind_eq_some_iff.mp H
              obtain ⟨t328, A240, H⟩ := H
              replace H : (some ((t327 == t328) == x12_2)) = some r := H
              have A24 := Aside0.mk A240
              clear A240
              obtain rfl := Option.some.inj H
              obtain ⟨Ao25, co25, eo25⟩ := Kd.R_slice HO_8.out
              subst eo25
              obtain ⟨Ao26, co26, eo26⟩ := Kd.R_slice HO_9.out
              subst eo26
              go_wp2_with (first | (go_at_call 21; (with_reducible refine (part_Letter.calls _ _ t313 _ _ t314 x10_10 t327 _ ?side1 ?side2 ?side3 ?side4 A23.out).mono ?_); (case side1 => repeat (first | exact (Kd.R_reads' HO_8.out).2.2 | (with_reducible refine Kd.C_alloc ?_ _) | (with_reducible refine Kd.C_drewN ?_ _) | (with_reducible refine Kd.C_drew ?_))); (case side2 => exact (Kd.R_reads' HO_8.out).2.1); (case side3 => repeat (first | exact (Kd.R_reads' HO_9.out).2.2 | (with_reducible refine Kd.C_alloc ?_ _) | (with_reducible refine Kd.C_drewN ?_ _) | (with_reducible refine Kd.C_drew ?_))); (case side4 => exact (Kd.R_reads' HO_9.out).2.1); rintro e w' ⟨rfl, ⟨nd, rfl⟩⟩; (try first | exact ⟨rfl, _, World.drewN_drewN _ _ _⟩ | exact ⟨rfl, _, Eq.trans (World.drewN_drewN _ _ _) (congrArg (World.drewN _) (Nat.add_assoc _ _ _))⟩)) | (go_at_call 21; (with_reducible refine (part_Letter.calls _ _ t313 _ _ t314 t320 t328 _ ?side1 ?side2 ?side3 ?side4 A24.out).mono ?_); (case side1 => repeat (first | exact (Kd.R_reads' HO_8.out).2.2 | (with_reducible refine Kd.C_alloc ?_ _) | (with_reducible refine Kd.C_drewN ?_ _) | (with_reducible refine Kd.C_drew ?_))); (case side2 => exact (Kd.R_reads' HO_8.out).2.1); (case side3 => repeat (first | exact (Kd.R_reads' HO_9.out).2.2 | (with_reducible refine Kd.C_alloc ?_ _) | (with_reducible refine Kd.C_drewN ?_ _) | (with_reducible refine Kd.C_drew ?_))); (case side4 => exact (Kd.R_reads' HO_9.out).2.1); rintro e w' ⟨rfl, ⟨nd, rfl⟩⟩; (try first | exact ⟨rfl, _, World.drewN_drewN _ _ _⟩ | exact ⟨rfl, _, Eq.trans (World.drewN_drewN _ _ _) (congrArg (World.drewN _) (Nat.add_assoc _ _ _))⟩)))
              repeat (go_quiet (first | (go_at_call 21; (with_reducible refine (part_Letter.calls _ _ t313 _ _ t314 x10_10 t327 _ ?side1 ?side2 ?side3 ?side4 A23.out).mono ?_); (case side1 => repeat (first | exact (Kd.R_reads' HO_8.out).2.2 | (with_reducible refine Kd.C_alloc ?_ _) | (with_reducible refine Kd.C_drewN ?_ _) | (with_reducible refine Kd.C_drew ?_))); (case side2 => exact (Kd.R_reads' HO_8.out).2.1); (case side3 => repeat (first | exact (Kd.R_reads' HO_9.out).2.2 | (with_reducible refine Kd.C_alloc ?_ _) | (with_reducible refine Kd.C_drewN ?_ _) | (with_reducible refine Kd.C_drew ?_))); (case side4 => exact (Kd.R_reads' HO_9.out).2.1); rintro e w' ⟨rfl, ⟨nd, rfl⟩⟩; (try first | exact ⟨rfl, _, World.drewN_drewN _ _ _⟩ | exact ⟨rfl, _, Eq.trans (World.drewN_drewN _ _ _) (congrArg (World.drewN _) (Nat.add_assoc _ _ _))⟩)) | (go_at_call 21; (with_reducible refine (part_Letter.calls _ _ t313 _ _ t314 t320 t328 _ ?side1 ?side2 ?side3 ?side4 A24.out).mono ?_); (case side1 => repeat (first | exact (Kd.R_reads' HO_8.out).2.2 | (with_reducible refine Kd.C_alloc ?_ _) | (with_reducible refine Kd.C_drewN ?_ _) | (with_reducible refine Kd.C_drew ?_))); (case side2 => exact (Kd.R_reads' HO_8.out).2.1); (case side3 => repeat (first | exact (Kd.R_reads' HO_9.out).2.2 | (with_reducible refine Kd.C_alloc ?_ _) | (with_reducible refine Kd.C_drewN ?_ _) | (with_reducible refine Kd.C_drew ?_))); (case side4 => exact (Kd.R_reads' HO_9.out).2.1); rintro e w' ⟨rfl, ⟨nd, rfl⟩⟩; (try first | exact ⟨rfl, _, World.drewN_drewN _ _ _⟩ | exact ⟨rfl, _, Eq.trans (World.drewN_drewN _ _ _) (congrArg (World.drewN _) (Nat.add_assoc _ _ _))⟩))); try go_wp2_with (first | (go_at_call 21; (with_reducible refine (part_Letter.calls _ _ t313 _ _ t314 x10_10 t327 _ ?side1 ?side2 ?side3 ?side4 A23.out).mono ?_); (case side1 => repeat (first | exact (Kd.R_reads' HO_8.out).2.2 | (with_reducible refine Kd.C_alloc ?_ _) | (with_reducible refine Kd.C_drewN ?_ _) | (with_reducible refine Kd.C_drew ?_))); (case side2 => exact (Kd.R_reads' HO_8.out).2.1); (case side3 => repeat (first | exact (Kd.R_reads' HO_9.out).2.2 | (with_reducible refine Kd.C_alloc ?_ _) | (with_reducible refine Kd.C_drewN ?_ _) | (with_reducible refine Kd.C_drew ?_))); (case side4 => exact (Kd.R_reads' HO_9.out).2.1); rintro e w' ⟨rfl, ⟨nd, rfl⟩⟩; (try first | exact ⟨rfl, _, World.drewN_drewN _ _ _⟩ | exact ⟨rfl, _, Eq.trans (World.drewN_drewN _ _ _) (congrArg (World.drewN _) (Nat.add_assoc _ _ _))⟩)) | (go_at_call 21; (with_reducible refine (part_Letter.calls _ _ t313 _ _ t314 t320 t328 _ ?side1 ?side2 ?side3 ?side4 A24.out).mono ?_); (case side1 => repeat (first | exact (Kd.R_reads' HO_8.out).2.2 | (with_reducible refine Kd.C_alloc ?_ _) | (with_reducible refine Kd.C_drewN ?_ _) | (with_reducible refine Kd.C_drew ?_))); (case side2 => exact (Kd.R_reads' HO_8.out).2.1); (case side3 => repeat (first | exact (Kd.R_reads' HO_9.out).2.2 | (with_reducible refine Kd.C_alloc ?_ _) | (with_reducible refine Kd.C_drewN ?_ _) | (with_reducible refine Kd.C_drew ?_))); (case side4 => exact (Kd.R_reads' HO_9.out).2.1); rintro e w' ⟨rfl, ⟨nd, rfl⟩⟩; (try first | exact ⟨rfl, _, World.drewN_drewN _ _ _⟩ | exact ⟨rfl, _, Eq.trans (World.drewN_drewN _ _ _) (congrArg (World.drewN _) (Nat.add_assoc _ _ _))⟩))))
              go_ret
              exact ⟨by first | rfl | (simp [errW_none, errW_some] <;> rfl) | (simp [*, errW_none, errW_some] <;> rfl), by repeat (first | (with_reducible first | exact HB.out | apply below_alloc | apply pw_below_drewN | apply below_drew1) | exact HB.out)⟩
  · replace c5 := Bool.eq_false_iff.mpr c5
    subst c5
    have H1 : (none) = some r := by rw [if_neg (show ¬ (false = true) by decide)] at H; exact H
    clear H
    have H := H1
    clear H1
    exact absurd H (by simp)

/-- THE ONE PURE STATEMENT of hyphenlaw4_PartAlike: yours. -/
def hyphenlaw4_PartAlike.Pure : Prop := ∀ (l0 : List Int) (a1 : Int) (a2 : Int), l0.length ≤ maxLen → l0.length * 8 ≤ 140737488351232 → (∀ x ∈ l0, (Lit.int .i64 x).wf = true) → (Lit.int .i64 a1).wf = true → (Lit.int .i64 a2).wf = true → ∃ k, hyphenlaw4_PartAlike.f k l0 a1 a2 = some true
theorem hyphenlaw4_PartAlike.walk (P : hyphenlaw4_PartAlike.Pure) (a0 : Option Addr) (len0 cap0 : Nat) (z0 : List Int) (a1 : Int) (a2 : Int) (w : World) (w0 : (a0 = none ∧ len0 = 0 ∧ cap0 = 0 ∧ z0 = []) ∨ ∃ x, a0 = some x ∧ len0 ≤ cap0 ∧ cap0 ≤ maxLen ∧ z0.length = cap0 ∧ (∀ i, i < z0.length → w.cell? (x.add i) = some (.int .i64 (z0.getD i 0))) ∧ ∀ n ∈ z0, (Lit.int .i64 n).wf = true) (y0 : len0 * 8 ≤ 140737488351232) (w1 : (Lit.int .i64 a1).wf = true) (w2 : (Lit.int .i64 a2).wf = true) :
    Calls Try.prog 4 #[.slice a0 len0 cap0, .int .i64 a1, .int .i64 a2] w fun e w' => e = .returned (.bool true) ∧ Below w.heap.size w w' := by
  obtain ⟨l0, rfl, hr0, hm0, hw0, hc0⟩ := ReadsInt.ofRowC w0
  obtain ⟨k, h⟩ := P l0 a1 a2 hm0 y0 hw0 w1 w2
  refine (hyphenlaw4_PartAlike.calls k _ _ l0 a1 a2 true w (Kd.C_of_reads (d := (0 : Int)) (h1 := fun _ => rfl) hr0) hc0 h).mono ?_
  rintro e w' ⟨rfl, hd⟩
  exact ⟨rfl, hd⟩

/-! ### hyphenlaw4_PartMore: function 9 -/
def hyphenlaw4_PartMore.j0 : Nat → List Int → List Int → List Int → List Int → Int → Int → Option (Bool)
  | 0, _, _, _, _, _, _ => none
  | k + 1, x11, x12, x13, x14, x15, x16 => (part_Letter.f x11 x12 x15).bind fun t361 => ((part_Letter.f x11 x12 x16).bind fun t362 => (if t361 = t362 then ((part_Count.f k x14).bind fun t363 => ((part_Count.f k x12).bind fun t364 => (if t363 ≥ t364 then (some (decide ((x13.length : Int) ≥ (x11.length : Int)))) else (none)))) else ((part_Letter.f x13 x14 x15).bind fun t365 => ((part_Letter.f x13 x14 x16).bind fun t366 => (if t365 = t366 then (none) else ((part_Count.f k x14).bind fun t367 => ((part_Count.f k x12).bind fun t368 => (if t367 ≥ t368 then (some (decide ((x13.length : Int) ≥ (x11.length : Int)))) else (none)))))))))
def hyphenlaw4_PartMore.f (k : Nat) (l0 : List Int) (l1 : List Int) (a2 : Int) (a3 : Int) : Option (Bool) := (hyphenlaw4_known.f k).bind fun t329 => (if t329 = true then ((hyphenlaw4_Sets.f k l0 8).bind fun t330 => ((some (([] : List (List (S44))) : List (List (S44)))).bind fun y333 => (if y333.length + t330.length < 5864062014805 then ((some (y333 ++ t330 : List (List (S44)))).bind fun y336 => ((hyphenlaw3_Make.f k l1).bind fun t339 => (if y336.length < 5864062014805 then ((part_Cuts.f k t330).bind fun bt345 => ((part_Cuts.f k (y336 ++ [t339])).bind fun bt351 => ((hyphenlaw4_within.f a2 70).bind fun t357 => ((hyphenlaw4_within.f a3 1114112).bind fun t358 => ((hyphenlaw4_within.f a3 3).bind fun t359 => (if t359 > 0 then ((hyphenlaw4_within.f a3 70).bind fun t360 => (hyphenlaw4_PartMore.j0 k bt345.1 bt345.2 bt351.1 bt351.2 t357 t360)) else (hyphenlaw4_PartMore.j0 k bt345.1 bt345.2 bt351.1 bt351.2 t357 t358))))))) else (none)))) else (none)))) else (none))
theorem hyphenlaw4_PartMore.mono_l : ∀ k, (∀ y0 y1 y2 y3 y4 y5, LeO (hyphenlaw4_PartMore.j0 k y0 y1 y2 y3 y4 y5) (hyphenlaw4_PartMore.j0 (k + 1) y0 y1 y2 y3 y4 y5))
  | 0 => fun _ _ _ _ _ _ r h => by simp [hyphenlaw4_PartMore.j0] at h
  | k + 1 => by
    have ih0 := hyphenlaw4_PartMore.mono_l k
    · intro y0 y1 y2 y3 y4 y5
      unfold hyphenlaw4_PartMore.j0
      repeat' first
      | (with_reducible exact ih0 _ _ _ _ _ _)
      | (with_reducible exact hyphenlaw3_Make.mono _ _)
      | (with_reducible exact hyphenlaw4_Sets.mono _ _ _)
      | (with_reducible exact hyphenlaw4_known.mono _)
      | (with_reducible exact part_Count.mono _ _)
      | (with_reducible exact part_Cuts.mono _ _)
      | (with_reducible exact LeO.refl _)
      | (with_reducible exact LeO.none _)
      | (with_reducible refine LeO.ite ?_ ?_)
      | (with_reducible refine LeO.bind ?_ (fun _ => ?_))
      | exact ih0 _ _ _ _ _ _
      | exact hyphenlaw3_Make.mono _ _
      | exact hyphenlaw4_Sets.mono _ _ _
      | exact hyphenlaw4_known.mono _
      | exact part_Count.mono _ _
      | exact part_Cuts.mono _ _
      | exact LeO.none _
      | refine LeO.ite ?_ ?_
      | refine LeO.bind ?_ (fun _ => ?_)
theorem hyphenlaw4_PartMore.mono : ∀ a0 a1 a2 a3 k, LeO (hyphenlaw4_PartMore.f k a0 a1 a2 a3) (hyphenlaw4_PartMore.f (k + 1) a0 a1 a2 a3) := by
  intro a0 a1 a2 a3 k
  have ih0 := hyphenlaw4_PartMore.mono_l k
  unfold hyphenlaw4_PartMore.f
  repeat' first
      | (with_reducible exact ih0 _ _ _ _ _ _)
      | (with_reducible exact hyphenlaw3_Make.mono _ _)
      | (with_reducible exact hyphenlaw4_Sets.mono _ _ _)
      | (with_reducible exact hyphenlaw4_known.mono _)
      | (with_reducible exact part_Count.mono _ _)
      | (with_reducible exact part_Cuts.mono _ _)
      | (with_reducible exact LeO.refl _)
      | (with_reducible exact LeO.none _)
      | (with_reducible refine LeO.ite ?_ ?_)
      | (with_reducible refine LeO.bind ?_ (fun _ => ?_))
      | exact ih0 _ _ _ _ _ _
      | exact hyphenlaw3_Make.mono _ _
      | exact hyphenlaw4_Sets.mono _ _ _
      | exact hyphenlaw4_known.mono _
      | exact part_Count.mono _ _
      | exact part_Cuts.mono _ _
      | exact LeO.none _
      | refine LeO.ite ?_ ?_
      | refine LeO.bind ?_ (fun _ => ?_)
set_option maxHeartbeats 8000000 in
set_option maxRecDepth 100000 in
theorem hyphenlaw4_PartMore.calls (k : Nat) (A0 : Option Addr) (c0 : Nat) (l0 : List Int) (A1 : Option Addr) (c1 : Nat) (l1 : List Int) (a2 : Int) (a3 : Int) (r : Bool) (w : World) (hr0 : Kd.C (Kd.int .i64) w A0 l0.length l0) (hc0 : l0.length ≤ c0) (hr1 : Kd.C (Kd.int .i64) w A1 l1.length l1) (hc1 : l1.length ≤ c1) (h : hyphenlaw4_PartMore.f k l0 l1 a2 a3 = some r) :
    Calls Try.prog 9 #[.slice A0 l0.length c0, .slice A1 l1.length c1, .int .i64 a2, .int .i64 a3] w fun e w' => e = .returned (.bool r) ∧ Below w.heap.size w w' := by
  have HR0 := Aside0.mk hr0
  have HC0 := Aside0.mk hc0
  clear hr0 hc0
  have HR1 := Aside0.mk hr1
  have HC1 := Aside0.mk hc1
  clear hr1 hc1
  have HB := Aside0.mk (Below.refl w.heap.size w)
  have H : ((hyphenlaw4_known.f k).bind fun t329 => (if t329 = true then ((hyphenlaw4_Sets.f k l0 8).bind fun t330 => ((some (([] : List (List (S44))) : List (List (S44)))).bind fun y333 => (if y333.length + t330.length < 5864062014805 then ((some (y333 ++ t330 : List (List (S44)))).bind fun y336 => ((hyphenlaw3_Make.f k l1).bind fun t339 => (if y336.length < 5864062014805 then ((part_Cuts.f k t330).bind fun bt345 => ((part_Cuts.f k (y336 ++ [t339])).bind fun bt351 => ((hyphenlaw4_within.f a2 70).bind fun t357 => ((hyphenlaw4_within.f a3 1114112).bind fun t358 => ((hyphenlaw4_within.f a3 3).bind fun t359 => (if t359 > 0 then ((hyphenlaw4_within.f a3 70).bind fun t360 => (hyphenlaw4_PartMore.j0 k bt345.1 bt345.2 bt351.1 bt351.2 t357 t360)) else (hyphenlaw4_PartMore.j0 k bt345.1 bt345.2 bt351.1 bt351.2 t357 t358))))))) else (none)))) else (none)))) else (none))) = some r := h
  clear h
  replace H := Option.bind_eq_some_iff.mp H
  obtain ⟨t329, A50, H⟩ := H
  replace H : (if t329 = true then ((hyphenlaw4_Sets.f k l0 8).bind fun t330 => ((some (([] : List (List (S44))) : List (List (S44)))).bind fun y333 => (if y333.length + t330.length < 5864062014805 then ((some (y333 ++ t330 : List (List (S44)))).bind fun y336 => ((hyphenlaw3_Make.f k l1).bind fun t339 => (if y336.length < 5864062014805 then ((part_Cuts.f k t330).bind fun bt345 => ((part_Cuts.f k (y336 ++ [t339])).bind fun bt351 => ((hyphenlaw4_within.f a2 70).bind fun t357 => ((hyphenlaw4_within.f a3 1114112).bind fun t358 => ((hyphenlaw4_within.f a3 3).bind fun t359 => (if t359 > 0 then ((hyphenlaw4_within.f a3 70).bind fun t360 => (hyphenlaw4_PartMore.j0 k bt345.1 bt345.2 bt351.1 bt351.2 t357 t360)) else (hyphenlaw4_PartMore.j0 k bt345.1 bt345.2 bt351.1 bt351.2 t357 t358))))))) else (none)))) else (none)))) else (none)) = some r := H
  have A5 := Aside0.mk A50
  clear A50
  by_cases c6 : t329 = true
  · subst c6
    have H1 : ((hyphenlaw4_Sets.f k l0 8).bind fun t330 => ((some (([] : List (List (S44))) : List (List (S44)))).bind fun y333 => (if y333.length + t330.length < 5864062014805 then ((some (y333 ++ t330 : List (List (S44)))).bind fun y336 => ((hyphenlaw3_Make.f k l1).bind fun t339 => (if y336.length < 5864062014805 then ((part_Cuts.f k t330).bind fun bt345 => ((part_Cuts.f k (y336 ++ [t339])).bind fun bt351 => ((hyphenlaw4_within.f a2 70).bind fun t357 => ((hyphenlaw4_within.f a3 1114112).bind fun t358 => ((hyphenlaw4_within.f a3 3).bind fun t359 => (if t359 > 0 then ((hyphenlaw4_within.f a3 70).bind fun t360 => (hyphenlaw4_PartMore.j0 k bt345.1 bt345.2 bt351.1 bt351.2 t357 t360)) else (hyphenlaw4_PartMore.j0 k bt345.1 bt345.2 bt351.1 bt351.2 t357 t358))))))) else (none)))) else (none)))) = some r := by rw [if_pos rfl] at H; exact H
    clear H
    have H := H1
    clear H1
    replace H := Option.bind_eq_some_iff.mp H
    obtain ⟨t330, A70, H⟩ := H
    replace H : ((some (([] : List (List (S44))) : List (List (S44)))).bind fun y333 => (if y333.length + t330.length < 5864062014805 then ((some (y333 ++ t330 : List (List (S44)))).bind fun y336 => ((hyphenlaw3_Make.f k l1).bind fun t339 => (if y336.length < 5864062014805 then ((part_Cuts.f k t330).bind fun bt345 => ((part_Cuts.f k (y336 ++ [t339])).bind fun bt351 => ((hyphenlaw4_within.f a2 70).bind fun t357 => ((hyphenlaw4_within.f a3 1114112).bind fun t358 => ((hyphenlaw4_within.f a3 3).bind fun t359 => (if t359 > 0 then ((hyphenlaw4_within.f a3 70).bind fun t360 => (hyphenlaw4_PartMore.j0 k bt345.1 bt345.2 bt351.1 bt351.2 t357 t360)) else (hyphenlaw4_PartMore.j0 k bt345.1 bt345.2 bt351.1 bt351.2 t357 t358))))))) else (none)))) else (none))) = some r := H
    have A7 := Aside0.mk A70
    clear A70
    obtain ⟨y333, hy333⟩ : ∃ y_ : List (List (S44)), y_ = (([] : List (List (S44)))) := ⟨_, rfl⟩
    replace H : (if y333.length + t330.length < 5864062014805 then ((some (y333 ++ t330 : List (List (S44)))).bind fun y336 => ((hyphenlaw3_Make.f k l1).bind fun t339 => (if y336.length < 5864062014805 then ((part_Cuts.f k t330).bind fun bt345 => ((part_Cuts.f k (y336 ++ [t339])).bind fun bt351 => ((hyphenlaw4_within.f a2 70).bind fun t357 => ((hyphenlaw4_within.f a3 1114112).bind fun t358 => ((hyphenlaw4_within.f a3 3).bind fun t359 => (if t359 > 0 then ((hyphenlaw4_within.f a3 70).bind fun t360 => (hyphenlaw4_PartMore.j0 k bt345.1 bt345.2 bt351.1 bt351.2 t357 t360)) else (hyphenlaw4_PartMore.j0 k bt345.1 bt345.2 bt351.1 bt351.2 t357 t358))))))) else (none)))) else (none)) = some r := by first | (rw [hy333]; with_reducible exact H) | (have H2_ := (Option.bind_some _ _).symm.trans H; rw [hy333]; with_reducible exact H2_) | (have H2_ := (Option.bind_some _ _).symm.trans H; with_reducible exact H2_) | with_reducible exact H | (rw [hy333]; exact H) | exact H
    have Ny333 := Aside0.mk hy333
    clear hy333
    by_cases c8 : y333.length + t330.length < 5864062014805
    · rw [if_pos c8] at H
      have LMc8 := Aside0.mk c8
      clear c8
      obtain ⟨y336, hy336⟩ : ∃ y_ : List (List (S44)), y_ = (y333 ++ t330) := ⟨_, rfl⟩
      replace H : ((hyphenlaw3_Make.f k l1).bind fun t339 => (if y336.length < 5864062014805 then ((part_Cuts.f k t330).bind fun bt345 => ((part_Cuts.f k (y336 ++ [t339])).bind fun bt351 => ((hyphenlaw4_within.f a2 70).bind fun t357 => ((hyphenlaw4_within.f a3 1114112).bind fun t358 => ((hyphenlaw4_within.f a3 3).bind fun t359 => (if t359 > 0 then ((hyphenlaw4_within.f a3 70).bind fun t360 => (hyphenlaw4_PartMore.j0 k bt345.1 bt345.2 bt351.1 bt351.2 t357 t360)) else (hyphenlaw4_PartMore.j0 k bt345.1 bt345.2 bt351.1 bt351.2 t357 t358))))))) else (none))) = some r := by first | (rw [hy336]; with_reducible exact H) | (have H2_ := (Option.bind_some _ _).symm.trans H; rw [hy336]; with_reducible exact H2_) | (have H2_ := (Option.bind_some _ _).symm.trans H; with_reducible exact H2_) | with_reducible exact H | (rw [hy336]; exact H) | exact H
      have Ny336 := Aside0.mk hy336
      clear hy336
      replace H := Option.bind_eq_some_iff.mp H
      obtain ⟨t339, A90, H⟩ := H
      replace H : (if y336.length < 5864062014805 then ((part_Cuts.f k t330).bind fun bt345 => ((part_Cuts.f k (y336 ++ [t339])).bind fun bt351 => ((hyphenlaw4_within.f a2 70).bind fun t357 => ((hyphenlaw4_within.f a3 1114112).bind fun t358 => ((hyphenlaw4_within.f a3 3).bind fun t359 => (if t359 > 0 then ((hyphenlaw4_within.f a3 70).bind fun t360 => (hyphenlaw4_PartMore.j0 k bt345.1 bt345.2 bt351.1 bt351.2 t357 t360)) else (hyphenlaw4_PartMore.j0 k bt345.1 bt345.2 bt351.1 bt351.2 t357 t358))))))) else (none)) = some r := H
      have A9 := Aside0.mk A90
      clear A90
      by_cases c10 : y336.length < 5864062014805
      · rw [if_pos c10] at H
        have LMc10 := Aside0.mk c10
        clear c10
        obtain ⟨y342, hy342⟩ : ∃ y_ : List (List (S44)), y_ = (y336 ++ [t339]) := ⟨_, rfl⟩
        replace H : ((part_Cuts.f k t330).bind fun bt345 => ((part_Cuts.f k y342).bind fun bt351 => ((hyphenlaw4_within.f a2 70).bind fun t357 => ((hyphenlaw4_within.f a3 1114112).bind fun t358 => ((hyphenlaw4_within.f a3 3).bind fun t359 => (if t359 > 0 then ((hyphenlaw4_within.f a3 70).bind fun t360 => (hyphenlaw4_PartMore.j0 k bt345.1 bt345.2 bt351.1 bt351.2 t357 t360)) else (hyphenlaw4_PartMore.j0 k bt345.1 bt345.2 bt351.1 bt351.2 t357 t358))))))) = some r := by first | (rw [hy342]; with_reducible exact H) | (have H2_ := (Option.bind_some _ _).symm.trans H; rw [hy342]; with_reducible exact H2_) | (have H2_ := (Option.bind_some _ _).symm.trans H; with_reducible exact H2_) | with_reducible exact H | (rw [hy342]; exact H) | exact H
        have Ny342 := Aside0.mk hy342
        clear hy342
        replace H := Option.bind_eq_some_iff.mp H
        obtain ⟨⟨t345, t346⟩, A110, H⟩ := H
        replace H : ((part_Cuts.f k y342).bind fun bt351 => ((hyphenlaw4_within.f a2 70).bind fun t357 => ((hyphenlaw4_within.f a3 1114112).bind fun t358 => ((hyphenlaw4_within.f a3 3).bind fun t359 => (if t359 > 0 then ((hyphenlaw4_within.f a3 70).bind fun t360 => (hyphenlaw4_PartMore.j0 k t345 t346 bt351.1 bt351.2 t357 t360)) else (hyphenlaw4_PartMore.j0 k t345 t346 bt351.1 bt351.2 t357 t358)))))) = some r := H
        have A11 := Aside0.mk A110
        clear A110
        replace H := Option.bind_eq_some_iff.mp H
        obtain ⟨⟨t351, t352⟩, A120, H⟩ := H
        replace H : ((hyphenlaw4_within.f a2 70).bind fun t357 => ((hyphenlaw4_within.f a3 1114112).bind fun t358 => ((hyphenlaw4_within.f a3 3).bind fun t359 => (if t359 > 0 then ((hyphenlaw4_within.f a3 70).bind fun t360 => (hyphenlaw4_PartMore.j0 k t345 t346 t351 t352 t357 t360)) else (hyphenlaw4_PartMore.j0 k t345 t346 t351 t352 t357 t358))))) = some r := H
        have A12 := Aside0.mk A120
        clear A120
        replace H := Option.bind_eq_some_iff.mp H
        obtain ⟨t357, A130, H⟩ := H
        replace H : ((hyphenlaw4_within.f a3 1114112).bind fun t358 => ((hyphenlaw4_within.f a3 3).bind fun t359 => (if t359 > 0 then ((hyphenlaw4_within.f a3 70).bind fun t360 => (hyphenlaw4_PartMore.j0 k t345 t346 t351 t352 t357 t360)) else (hyphenlaw4_PartMore.j0 k t345 t346 t351 t352 t357 t358)))) = some r := H
        have A13 := Aside0.mk A130
        clear A130
        replace H := Option.bind_eq_some_iff.mp H
        obtain ⟨t358, A140, H⟩ := H
        replace H : ((hyphenlaw4_within.f a3 3).bind fun t359 => (if t359 > 0 then ((hyphenlaw4_within.f a3 70).bind fun t360 => (hyphenlaw4_PartMore.j0 k t345 t346 t351 t352 t357 t360)) else (hyphenlaw4_PartMore.j0 k t345 t346 t351 t352 t357 t358))) = some r := H
        have A14 := Aside0.mk A140
        clear A140
        replace H := Option.bind_eq_some_iff.mp H
        obtain ⟨t359, A150, H⟩ := H
        replace H : (if t359 > 0 then ((hyphenlaw4_within.f a3 70).bind fun t360 => (hyphenlaw4_PartMore.j0 k t345 t346 t351 t352 t357 t360)) else (hyphenlaw4_PartMore.j0 k t345 t346 t351 t352 t357 t358)) = some r := H
        have A15 := Aside0.mk A150
        clear A150
        have HC16 := Aside0.mk H
        clear H
        go_enter Try.func9, Try.ntmps9
        go_upto_if 44 with (first | ((with_reducible refine gate_callee (f := 11) rfl ?_); refine goesL_ (some 17) rfl rfl Try.func11 (by kernel_rfl) rfl #[] rfl (by (try simp only [List.map_toArray, List.map_cons, List.map_nil]); first | done | rfl | (simp only [List.length_drop, List.length_take]; rfl)) ?_; (with_reducible refine (hyphenlaw4_known.calls k  true _ A5.out).mono ?_); rintro e w17 ⟨rfl, hb⟩; refine ⟨_, rfl, ?_⟩; have n0_ := Aside0.mk (below_step (by repeat (first | (with_reducible first | exact HB.out | apply below_alloc | apply pw_below_drewN | apply below_drew1) | exact HB.out)) hb); clear HB; have HB := n0_; clear n0_; (try clear hb); (try clear hb2); (try clear hk); (try clear hi)) | ((with_reducible refine gate_callee (f := 12) rfl ?_); refine goesL_ (some 20) rfl rfl Try.func12 (by kernel_rfl) rfl #[.slice A0 l0.length c0, .int .i64 8] rfl (by (try simp only [List.map_toArray, List.map_cons, List.map_nil]); first | done | rfl | (simp only [List.length_drop, List.length_take]; rfl)) ?_; (with_reducible refine (hyphenlaw4_Sets.calls k _ _ l0 8 t330 _ ?side1 ?side2 A7.out).mono ?_); (case side1 => repeat (first | exact (Kd.C_below HR0.out HB.out) | (with_reducible refine Kd.C_alloc ?_ _) | (with_reducible refine Kd.C_drewN ?_ _) | (with_reducible refine Kd.C_drew ?_))); (case side2 => exact HC0.out); rintro e w18 ⟨v331, rfl, ho0, hb⟩; refine ⟨_, rfl, ?_⟩; have n0_ := Aside0.mk (Kd.N_lower (Kd.N_mono (ok' := fun k_ => True) (Kd.R_N (Kd.R_bound ho0)) (fun k_ hk_ => trivial)) (below_size (by repeat (first | (with_reducible first | exact HB.out | apply below_alloc | apply pw_below_drewN | apply below_drew1) | exact HB.out)))); have n1_ := Aside0.mk (below_step (by repeat (first | (with_reducible first | exact HB.out | apply below_alloc | apply pw_below_drewN | apply below_drew1) | exact HB.out)) hb); clear HB; have HO332 := n0_; have HB := n1_; clear n0_ n1_; (try clear hb); (try clear hb2); (try clear hk); (try clear hi); (try clear ho0)) | ((with_reducible refine gate_dst (N := 21) rfl ?_); (try (refine gate_guard (by rfl) ?_; dsimp only)); refine Kd.N_lit (Kd.slice 44 k44) _ 37 ?hg (N' := 21) ?hd (xs := ([] : List (List (S44)))) (inner := []) (ok := (fun k_ => some k_ ≠ (v331 : Value).ownBlock)) (okp := (fun k_ => some k_ ≠ (v331 : Value).ownBlock)) ?hr ?hp (fun _ hk => hk) ((show ∀ k_, w18.heap.size ≤ k_ → (fun k_ => some k_ ≠ (v331 : Value).ownBlock) k_ from fun k_ hk => Kd.fresh' (Kd.N_lt (by (with_reducible repeat (first | apply Kd.N_alloc | apply Kd.N_drewN | apply Kd.N_drew)); exact HO332.out)) k_ hk) _ (Nat.le_refl _)) (Below.refl _ _) (Nat.le_refl _) (by simp) ?_; (case hd => rfl); (case hg => rfl); (case hr => first | (go_simp; done) | (go_simp; rfl)); (case hp => exact (Reps.none _ _)); intro v334 w19 ho20 hb hg_ hnew_; clear hg_ hnew_; (first | rw [← Ny333.out] at ho20 | (simp only [Int.reduceToNat] at ho20; rw [← Ny333.out] at ho20)); have n0_ := Aside0.mk (Kd.N_elder' (by (with_reducible repeat (first | apply Kd.N_alloc | apply Kd.N_drewN | apply Kd.N_drew)); exact HO332.out) (by first | exact Kd.N_base ho20 | exact Kd.R_base ho20) hb); have n1_ := Aside0.mk (Kd.N_lower ho20 (below_size (by repeat (first | (with_reducible first | exact HB.out | apply below_alloc | apply pw_below_drewN | apply below_drew1) | exact HB.out)))); have n2_ := Aside0.mk (below_step (by repeat (first | (with_reducible first | exact HB.out | apply below_alloc | apply pw_below_drewN | apply below_drew1) | exact HB.out)) hb); clear HO332; clear HB; have HO332 := n0_; have HO335 := n1_; have HB := n2_; clear n0_ n1_ n2_; clear hb ho20; obtain ⟨Ao22, co22, eo22⟩ := Kd.N_slice HO332.out; subst eo22) | ((with_reducible refine gate_builtin (b := .append) (xs := #[.tmp 21, .tmp 22]) rfl ?_); (try (refine gate_guard (by rfl) ?_; dsimp only)); at_builtin; refine Kd.N_append_rows (Kd.slice 44 k44) (w0 := w) w.heap.size rfl (.tmp 21) (.tmp 22) 24 37 (.slice none 0 0) 24 rfl Try.underlying24 info37 rfl (by decide) (by omega) v334 y333 t330 _ _ _ (fun _ => True) (fun k_ => ((fun _ => True)) k_ ∧ some k_ ≠ (v334 : Value).ownBlock) rfl rfl ?aO ?aR (fun _ hk => hk) ?aF ?aB ?aS ?aL ?_; (case aR => exact (by skip; exact Kd.N_F (Kd.N_mono (ok' := (fun k_ => ((fun _ => True)) k_ ∧ some k_ ≠ (v334 : Value).ownBlock)) (HO332.out) (fun k_ hk => ⟨trivial, hk.2⟩)))); (case aB => exact (by repeat (first | (with_reducible first | exact HB.out | apply below_alloc | apply pw_below_drewN | apply below_drew1) | exact HB.out))); (case aF => exact (fun _ _ => trivial)); (case aO => exact (by (with_reducible repeat (first | apply Kd.N_alloc | apply Kd.N_drewN | apply Kd.N_drew)); exact Kd.N_mono HO335.out (fun _ hk => trivial))); (case aS => exact (below_size (by repeat (first | (with_reducible first | exact HB.out | apply below_alloc | apply pw_below_drewN | apply below_drew1) | exact HB.out)))); (case aL => have := LMc8.out; omega); intro v337 w21 ho hb hg hat; rw [← Ny336.out] at ho; have n0_ := Aside0.mk (Kd.N_afterv (ok := (fun _ => True)) (by (with_reducible repeat (first | apply Kd.N_alloc | apply Kd.N_drewN | apply Kd.N_drew)); exact HO332.out) hg hat); have n1_ := Aside0.mk (hb); have n2_ := Aside0.mk (ho); clear HO332; clear HB; clear HO335; have HO332 := n0_; have HB := n1_; have HO338 := n2_; clear n0_ n1_ n2_; clear ho hb hg hat) | ((with_reducible refine gate_callee (f := 25) rfl ?_); refine goesL_ (some 25) rfl rfl Try.func25 (by kernel_rfl) rfl #[.slice A1 l1.length c1] rfl (by (try simp only [List.map_toArray, List.map_cons, List.map_nil]); first | done | rfl | (simp only [List.length_drop, List.length_take]; rfl)) ?_; (with_reducible refine (hyphenlaw3_Make.calls k _ _ l1 t339 _ ?side1 ?side2 A9.out).mono ?_); (case side1 => repeat (first | exact (Kd.C_below HR1.out HB.out) | (with_reducible refine Kd.C_alloc ?_ _) | (with_reducible refine Kd.C_drewN ?_ _) | (with_reducible refine Kd.C_drew ?_))); (case side2 => exact HC1.out); rintro e w23 ⟨v340, rfl, ho0, hb⟩; refine ⟨_, rfl, ?_⟩; have n0_ := Aside0.mk (Kd.N_elder' (by (with_reducible repeat (first | apply Kd.N_alloc | apply Kd.N_drewN | apply Kd.N_drew)); exact HO332.out) (Kd.R_base ho0) hb); have n1_ := Aside0.mk (Kd.N_elder' (by (with_reducible repeat (first | apply Kd.N_alloc | apply Kd.N_drewN | apply Kd.N_drew)); exact HO338.out) (Kd.R_base ho0) hb); have n2_ := Aside0.mk (Kd.R_lower ho0 (below_size (by repeat (first | (with_reducible first | exact HB.out | apply below_alloc | apply pw_below_drewN | apply below_drew1) | exact HB.out)))); have n3_ := Aside0.mk (below_step (by repeat (first | (with_reducible first | exact HB.out | apply below_alloc | apply pw_below_drewN | apply below_drew1) | exact HB.out)) hb); clear HO332; clear HO338; clear HB; have HO332 := n0_; have HO338 := n1_; have HO341 := n2_; have HB := n3_; clear n0_ n1_ n2_ n3_; (try clear hb); (try clear hb2); (try clear hk); (try clear hi); (try clear ho0); obtain ⟨Ao25, co25, eo25⟩ := Kd.R_slice HO341.out; subst eo25) | ((with_reducible refine gate_builtin (b := .append) (xs := #[.tmp 23, .tmp 26]) rfl ?_); (try (refine gate_guard (by rfl) ?_; dsimp only)); at_builtin; refine Kd.N_append (Kd.slice 44 k44) (w0 := w) w.heap.size rfl (.tmp 23) (.tmp 26) 24 37 (.slice none 0 0) 24 rfl Try.underlying24 info37 rfl (by decide) (by omega) v337 y336 t339 [.slice Ao25 t339.length co25] (fun _ => True) (fun k_ => ((fun _ => True)) k_ ∧ some k_ ≠ (v337 : Value).ownBlock) rfl rfl ?aP (fun _ hk => hk) ?aF ?aO ?aB ?aS ?aL ?_; (case aP => exact (FK_row_ (Kd.R_mono (ok' := (fun k_ => ((fun _ => True)) k_ ∧ some k_ ≠ (v337 : Value).ownBlock)) (Kd.R_apart' (HO341.out) (Kd.N_typed HO338.out) (by decide)) (fun k_ hk => ⟨trivial, hk.2⟩)))); (case aB => exact (by repeat (first | (with_reducible first | exact HB.out | apply below_alloc | apply pw_below_drewN | apply below_drew1) | exact HB.out))); (case aF => exact (fun _ _ => trivial)); (case aO => exact (by (with_reducible repeat (first | apply Kd.N_alloc | apply Kd.N_drewN | apply Kd.N_drew)); exact Kd.N_mono HO338.out (fun _ hk => trivial))); (case aS => exact (below_size (by repeat (first | (with_reducible first | exact HB.out | apply below_alloc | apply pw_below_drewN | apply below_drew1) | exact HB.out)))); (case aL => have := LMc10.out; omega); intro v343 w24 ho hb hg hat; rw [← Ny342.out] at ho; have n0_ := Aside0.mk (Kd.N_afterv (ok := (fun k_ => some k_ ≠ (.slice Ao25 t339.length co25 : Value).ownBlock)) (by (with_reducible repeat (first | apply Kd.N_alloc | apply Kd.N_drewN | apply Kd.N_drew)); exact Kd.N_mono HO332.out (fun _ hk => (by first | exact ⟨hk.2, hk.1.2⟩ | grind))) hg hat); have n1_ := Aside0.mk (hb); have n2_ := Aside0.mk (ho); clear HO332; clear HB; clear HO338; clear HO341; have HO332 := n0_; have HB := n1_; have HO344 := n2_; clear n0_ n1_ n2_; clear ho hb hg hat) | ((with_reducible refine gate_callee (f := 13) rfl ?_); refine goesL_ (some 30) rfl rfl Try.func13 (by kernel_rfl) rfl #[.slice Ao22 t330.length co22] rfl (by (try simp only [List.map_toArray, List.map_cons, List.map_nil]); first | done | rfl | (simp only [List.length_drop, List.length_take]; rfl)) ?_; (with_reducible refine (part_Cuts.calls k _ _ t330 t345 t346 _ ?side1 ?side2 A11.out).mono ?_); (case side1 => repeat (first | exact (Kd.N_reads' HO332.out).2.2 | (with_reducible refine Kd.C_alloc ?_ _) | (with_reducible refine Kd.C_drewN ?_ _) | (with_reducible refine Kd.C_drew ?_))); (case side2 => exact (Kd.N_reads' HO332.out).2.1); rintro e w26 ⟨v347, v349, rfl, ho0, ho1, hb⟩; refine ⟨_, rfl, ?_⟩; have n0_ := Aside0.mk (Kd.N_mono (Kd.N_told (Kd.N_told (Kd.N_old (by (with_reducible repeat (first | apply Kd.N_alloc | apply Kd.N_drewN | apply Kd.N_drew)); exact HO332.out) hb) (Kd.R_base ho0)) (Kd.R_base ho1)) (fun _ h_ => h_.1)); have n1_ := Aside0.mk (Kd.N_mono (Kd.N_told (Kd.N_told (Kd.N_old (by (with_reducible repeat (first | apply Kd.N_alloc | apply Kd.N_drewN | apply Kd.N_drew)); exact HO344.out) hb) (Kd.R_base ho0)) (Kd.R_base ho1)) (fun _ h_ => h_.1)); have n2_ := Aside0.mk (Kd.R_lower ho0 (below_size (by repeat (first | (with_reducible first | exact HB.out | apply below_alloc | apply pw_below_drewN | apply below_drew1) | exact HB.out)))); have n3_ := Aside0.mk (Kd.R_lower ho1 (below_size (by repeat (first | (with_reducible first | exact HB.out | apply below_alloc | apply pw_below_drewN | apply below_drew1) | exact HB.out)))); have n4_ := Aside0.mk (below_step (by repeat (first | (with_reducible first | exact HB.out | apply below_alloc | apply pw_below_drewN | apply below_drew1) | exact HB.out)) hb); clear HO332; clear HO344; clear HB; have HO332 := n0_; have HO344 := n1_; have HO348 := n2_; have HO350 := n3_; have HB := n4_; clear n0_ n1_ n2_ n3_ n4_; (try clear hb); (try clear hb2); (try clear hk); (try clear hi); (try clear ho0); (try clear ho1); obtain ⟨Ao27, co27, eo27⟩ := Kd.N_slice HO344.out; subst eo27) | ((with_reducible refine gate_callee (f := 13) rfl ?_); refine goesL_ (some 35) rfl rfl Try.func13 (by kernel_rfl) rfl #[.slice Ao27 y342.length co27] rfl (by (try simp only [List.map_toArray, List.map_cons, List.map_nil]); first | done | rfl | (simp only [List.length_drop, List.length_take]; rfl)) ?_; (with_reducible refine (part_Cuts.calls k _ _ y342 t351 t352 _ ?side1 ?side2 A12.out).mono ?_); (case side1 => repeat (first | exact (Kd.N_reads' HO344.out).2.2 | (with_reducible refine Kd.C_alloc ?_ _) | (with_reducible refine Kd.C_drewN ?_ _) | (with_reducible refine Kd.C_drew ?_))); (case side2 => exact (Kd.N_reads' HO344.out).2.1); rintro e w28 ⟨v353, v355, rfl, ho0, ho1, hb⟩; refine ⟨_, rfl, ?_⟩; have n0_ := Aside0.mk (Kd.N_mono (Kd.N_told (Kd.N_told (Kd.N_old (by (with_reducible repeat (first | apply Kd.N_alloc | apply Kd.N_drewN | apply Kd.N_drew)); exact HO332.out) hb) (Kd.R_base ho0)) (Kd.R_base ho1)) (fun _ h_ => h_.1)); have n1_ := Aside0.mk (Kd.N_mono (Kd.N_told (Kd.N_told (Kd.N_old (by (with_reducible repeat (first | apply Kd.N_alloc | apply Kd.N_drewN | apply Kd.N_drew)); exact HO344.out) hb) (Kd.R_base ho0)) (Kd.R_base ho1)) (fun _ h_ => h_.1)); have n2_ := Aside0.mk (Kd.R_mono (Kd.R_told (Kd.R_told (Kd.R_old (by (with_reducible repeat (first | apply Kd.R_alloc | apply Kd.R_drewN | apply Kd.R_drew)); exact HO348.out) hb) (Kd.R_base ho0)) (Kd.R_base ho1)) (fun _ h_ => h_.1)); have n3_ := Aside0.mk (Kd.R_mono (Kd.R_told (Kd.R_told (Kd.R_old (by (with_reducible repeat (first | apply Kd.R_alloc | apply Kd.R_drewN | apply Kd.R_drew)); exact HO350.out) hb) (Kd.R_base ho0)) (Kd.R_base ho1)) (fun _ h_ => h_.1)); have n4_ := Aside0.mk (Kd.R_lower (Kd.R_new' (Kd.R_new' ho0 (Kd.R_lt (by (with_reducible repeat (first | apply Kd.R_alloc | apply Kd.R_drewN | apply Kd.R_drew)); exact HO348.out))) (Kd.R_lt (by (with_reducible repeat (first | apply Kd.R_alloc | apply Kd.R_drewN | apply Kd.R_drew)); exact HO350.out))) (below_size (by repeat (first | (with_reducible first | exact HB.out | apply below_alloc | apply pw_below_drewN | apply below_drew1) | exact HB.out)))); have n5_ := Aside0.mk (Kd.R_lower (Kd.R_new' (Kd.R_new' ho1 (Kd.R_lt (by (with_reducible repeat (first | apply Kd.R_alloc | apply Kd.R_drewN | apply Kd.R_drew)); exact HO348.out))) (Kd.R_lt (by (with_reducible repeat (first | apply Kd.R_alloc | apply Kd.R_drewN | apply Kd.R_drew)); exact HO350.out))) (below_size (by repeat (first | (with_reducible first | exact HB.out | apply below_alloc | apply pw_below_drewN | apply below_drew1) | exact HB.out)))); have n6_ := Aside0.mk (below_step (by repeat (first | (with_reducible first | exact HB.out | apply below_alloc | apply pw_below_drewN | apply below_drew1) | exact HB.out)) hb); clear HO332; clear HO344; clear HO348; clear HO350; clear HB; have HO332 := n0_; have HO344 := n1_; have HO348 := n2_; have HO350 := n3_; have HO354 := n4_; have HO356 := n5_; have HB := n6_; clear n0_ n1_ n2_ n3_ n4_ n5_ n6_; (try clear hb); (try clear hb2); (try clear hk); (try clear hi); (try clear ho0); (try clear ho1)) | ((with_reducible refine gate_callee (f := 20) rfl ?_); refine goesL_ (some 39) rfl rfl Try.func20 (by kernel_rfl) rfl #[.int .i64 a2, .int .i64 70] rfl (by (try simp only [List.map_toArray, List.map_cons, List.map_nil]); first | done | rfl | (simp only [List.length_drop, List.length_take]; rfl)) ?_; (with_reducible refine (hyphenlaw4_within.calls a2 70 t357 _ A13.out).mono ?_); rintro e w' ⟨rfl, ⟨nd, rfl⟩⟩; refine ⟨_, rfl, ?_⟩) | ((with_reducible refine gate_callee (f := 20) rfl ?_); refine goesL_ (some 41) rfl rfl Try.func20 (by kernel_rfl) rfl #[.int .i64 a3, .int .i64 1114112] rfl (by (try simp only [List.map_toArray, List.map_cons, List.map_nil]); first | done | rfl | (simp only [List.length_drop, List.length_take]; rfl)) ?_; (with_reducible refine (hyphenlaw4_within.calls a3 1114112 t358 _ A14.out).mono ?_); rintro e w' ⟨rfl, ⟨nd, rfl⟩⟩; refine ⟨_, rfl, ?_⟩) | ((with_reducible refine gate_callee (f := 20) rfl ?_); refine goesL_ (some 43) rfl rfl Try.func20 (by kernel_rfl) rfl #[.int .i64 a3, .int .i64 3] rfl (by (try simp only [List.map_toArray, List.map_cons, List.map_nil]); first | done | rfl | (simp only [List.length_drop, List.length_take]; rfl)) ?_; (with_reducible refine (hyphenlaw4_within.calls a3 3 t359 _ A15.out).mono ?_); rintro e w' ⟨rfl, ⟨nd, rfl⟩⟩; refine ⟨_, rfl, ?_⟩))
        (try simp only [Act.put, List.setIfInBounds_toArray, List.set_cons_zero, List.set_cons_succ])
        go_cut [16] (fun v16 wc => ∃ (kq : Nat) (x16_15 : Int), v16 = .int .i64 x16_15 ∧ Aside0 (hyphenlaw4_PartMore.j0 kq t345 t346 t351 t352 t357 x16_15 = some r) ∧ Aside0 (kq ≤ k) ∧ Aside0 (Kd.R (Kd.int .i64) 3 wc w.heap.size (fun k_ => some k_ ≠ (v349 : Value).ownBlock ∧ some k_ ≠ (v353 : Value).ownBlock ∧ some k_ ≠ (v355 : Value).ownBlock) v347 t345) ∧ Aside0 (Kd.R (Kd.int .i64) 3 wc w.heap.size (fun k_ => some k_ ≠ (v347 : Value).ownBlock ∧ some k_ ≠ (v353 : Value).ownBlock ∧ some k_ ≠ (v355 : Value).ownBlock) v349 t346) ∧ Aside0 (Kd.R (Kd.int .i64) 3 wc w.heap.size (fun k_ => some k_ ≠ (v347 : Value).ownBlock ∧ some k_ ≠ (v349 : Value).ownBlock ∧ some k_ ≠ (v355 : Value).ownBlock) v353 t351) ∧ Aside0 (Kd.R (Kd.int .i64) 3 wc w.heap.size (fun k_ => some k_ ≠ (v347 : Value).ownBlock ∧ some k_ ≠ (v349 : Value).ownBlock ∧ some k_ ≠ (v353 : Value).ownBlock) v355 t352) ∧ Aside0 (Below w.heap.size w wc))
        case first =>
          have H := HC16.out
          clear HC16
          by_cases c29 : t359 > 0
          · rw [if_pos c29] at H
            have c29b0 : decide (0 < t359) = true := decide_eq_true c29
            clear c29
            (first | rw [c29b0] | (simp only [i64_w, i32_w]; rw [c29b0]) | skip)
            replace H := Option.bind_eq_some_iff.mp H
            obtain ⟨t360, A300, H⟩ := H
            replace H : (hyphenlaw4_PartMore.j0 k t345 t346 t351 t352 t357 t360) = some r := H
            have A30 := Aside0.mk A300
            clear A300
            have H' := Aside0.mk H
            clear H
            go_wp2_with (first | ((with_reducible refine gate_callee (f := 20) rfl ?_); refine goesL_ (some 46) rfl rfl Try.func20 (by kernel_rfl) rfl #[.int .i64 a3, .int .i64 70] rfl (by (try simp only [List.map_toArray, List.map_cons, List.map_nil]); first | done | rfl | (simp only [List.length_drop, List.length_take]; rfl)) ?_; (with_reducible refine (hyphenlaw4_within.calls a3 70 t360 _ A30.out).mono ?_); rintro e w' ⟨rfl, ⟨nd, rfl⟩⟩; refine ⟨_, rfl, ?_⟩))
            go_meet
            case rel => exact ⟨_, (t360), (by first | rfl | (simp; done) | (simp [*]; done)), H', ⟨by first | omega | exact Nat.le_refl _⟩, ⟨by (with_reducible repeat (first | apply Kd.R_alloc | apply Kd.R_drewN | apply Kd.R_drew)); exact Kd.R_mono HO348.out (fun _ hk => ⟨hk.1.1, ⟨hk.1.2, hk.2⟩⟩)⟩, ⟨by (with_reducible repeat (first | apply Kd.R_alloc | apply Kd.R_drewN | apply Kd.R_drew)); exact Kd.R_mono HO350.out (fun _ hk => ⟨hk.1.1, ⟨hk.1.2, hk.2⟩⟩)⟩, ⟨by (with_reducible repeat (first | apply Kd.R_alloc | apply Kd.R_drewN | apply Kd.R_drew)); exact Kd.R_mono HO354.out (fun _ hk => ⟨hk.1.2, ⟨hk.2, hk.1.1⟩⟩)⟩, ⟨by (with_reducible repeat (first | apply Kd.R_alloc | apply Kd.R_drewN | apply Kd.R_drew)); exact Kd.R_mono HO356.out (fun _ hk => ⟨hk.1.2, ⟨hk.2, hk.1.1⟩⟩)⟩, ⟨by repeat (first | (with_reducible first | exact HB.out | apply below_alloc | apply pw_below_drewN | apply below_drew1) | exact HB.out)⟩⟩
          · rw [if_neg c29] at H
            have c29b0 : decide (0 < t359) = false := decide_eq_false c29
            clear c29
            (first | rw [c29b0] | (simp only [i64_w, i32_w]; rw [c29b0]) | skip)
            have H' := Aside0.mk H
            clear H
            go_wp2
            go_meet
            case rel => exact ⟨_, (t358), (by first | rfl | (simp; done) | (simp [*]; done)), H', ⟨by first | omega | exact Nat.le_refl _⟩, ⟨by (with_reducible repeat (first | apply Kd.R_alloc | apply Kd.R_drewN | apply Kd.R_drew)); exact Kd.R_mono HO348.out (fun _ hk => ⟨hk.1.1, ⟨hk.1.2, hk.2⟩⟩)⟩, ⟨by (with_reducible repeat (first | apply Kd.R_alloc | apply Kd.R_drewN | apply Kd.R_drew)); exact Kd.R_mono HO350.out (fun _ hk => ⟨hk.1.1, ⟨hk.1.2, hk.2⟩⟩)⟩, ⟨by (with_reducible repeat (first | apply Kd.R_alloc | apply Kd.R_drewN | apply Kd.R_drew)); exact Kd.R_mono HO354.out (fun _ hk => ⟨hk.1.2, ⟨hk.2, hk.1.1⟩⟩)⟩, ⟨by (with_reducible repeat (first | apply Kd.R_alloc | apply Kd.R_drewN | apply Kd.R_drew)); exact Kd.R_mono HO356.out (fun _ hk => ⟨hk.1.2, ⟨hk.2, hk.1.1⟩⟩)⟩, ⟨by repeat (first | (with_reducible first | exact HB.out | apply below_alloc | apply pw_below_drewN | apply below_drew1) | exact HB.out)⟩⟩
        case rest =>
          clear HC16
          try clear c1
          try clear c2
          try clear p2
          try clear c6
          try clear c8
          try clear c9
          try clear c10
          try clear c11
          try clear c12
          try clear c13
          try clear c20
          try clear c25
          try clear c29
          try clear c29b0
          obtain ⟨kq, x16_15, rfl, HA, HJ15, HO_11, HO_12, HO_13, HO_14, HB⟩ := hcut
          cases kq with
          | zero => exact absurd HA.out (by simp [hyphenlaw4_PartMore.j0])
          | succ kj15 =>
            have H := HA.out
            clear HA
            simp only [hyphenlaw4_PartMore.j0] at H
            replace H := Option.bind_eq_some_iff.mp H
            obtain ⟨t361, A310, H⟩ := H
            replace H : ((part_Letter.f t345 t346 x16_15).bind fun t362 => (if t361 = t362 then ((part_Count.f kj15 t352).bind fun t363 => ((part_Count.f kj15 t346).bind fun t364 => (if t363 ≥ t364 then (some (decide ((t351.length : Int) ≥ (t345.length : Int)))) else (none)))) else ((part_Letter.f t351 t352 t357).bind fun t365 => ((part_Letter.f t351 t352 x16_15).bind fun t366 => (if t365 = t366 then (none) else ((part_Count.f kj15 t352).bind fun t367 => ((part_Count.f kj15 t346).bind fun t368 => (if t367 ≥ t368 then (some (decide ((t351.length : Int) ≥ (t345.length : Int)))) else (none))))))))) = some r := H
            have A31 := Aside0.mk A310
            clear A310
            replace H := Option.bind_eq_some_iff.mp H
            obtain ⟨t362, A320, H⟩ := H
            replace H : (if t361 = t362 then ((part_Count.f kj15 t352).bind fun t363 => ((part_Count.f kj15 t346).bind fun t364 => (if t363 ≥ t364 then (some (decide ((t351.length : Int) ≥ (t345.length : Int)))) else (none)))) else ((part_Letter.f t351 t352 t357).bind fun t365 => ((part_Letter.f t351 t352 x16_15).bind fun t366 => (if t365 = t366 then (none) else ((part_Count.f kj15 t352).bind fun t367 => ((part_Count.f kj15 t346).bind fun t368 => (if t367 ≥ t368 then (some (decide ((t351.length : Int) ≥ (t345.length : Int)))) else (none)))))))) = some r := H
            have A32 := Aside0.mk A320
            clear A320
            by_cases c33 : t361 = t362
            · rw [if_pos c33] at H
              have c33b0 : (t361 == t362) = true := beq_iff_eq.mpr c33
              have c33b1 : (t361 != t362) = false := bne_eq_false_iff_eq.mpr c33
              clear c33
              replace H := Option.bind_eq_some_iff.mp H
              obtain ⟨t363, A340, H⟩ := H
              replace H : ((part_Count.f kj15 t346).bind fun t364 => (if t363 ≥ t364 then (some (decide ((t351.length : Int) ≥ (t345.length : Int)))) else (none))) = some r := H
              have A34 := Aside0.mk A340
              clear A340
              replace H := Option.bind_eq_some_iff.mp H
              obtain ⟨t364, A350, H⟩ := H
              replace H : (if t363 ≥ t364 then (some (decide ((t351.length : Int) ≥ (t345.length : Int)))) else (none)) = some r := H
              have A35 := Aside0.mk A350
              clear A350
              by_cases c36 : t363 ≥ t364
              · rw [if_pos c36] at H
                have c36b0 : decide (t364 ≤ t363) = true := decide_eq_true c36
                clear c36
                obtain rfl := Option.some.inj H
                obtain ⟨Ao37, co37, eo37⟩ := Kd.R_slice HO_11.out
                subst eo37
                obtain ⟨Ao38, co38, eo38⟩ := Kd.R_slice HO_12.out
                subst eo38
                go_wp2_with (first | ((with_reducible refine gate_callee (f := 21) rfl ?_); refine goesL_ (some 50) rfl rfl Try.func21 (by kernel_rfl) rfl #[.slice Ao37 t345.length co37, .slice Ao38 t346.length co38, .int .i64 t357] rfl (by (try simp only [List.map_toArray, List.map_cons, List.map_nil]); first | done | rfl | (simp only [List.length_drop, List.length_take]; rfl)) ?_; (with_reducible refine (part_Letter.calls _ _ t345 _ _ t346 t357 t361 _ ?side1 ?side2 ?side3 ?side4 A31.out).mono ?_); (case side1 => repeat (first | exact (Kd.R_reads' HO_11.out).2.2 | (with_reducible refine Kd.C_alloc ?_ _) | (with_reducible refine Kd.C_drewN ?_ _) | (with_reducible refine Kd.C_drew ?_))); (case side2 => exact (Kd.R_reads' HO_11.out).2.1); (case side3 => repeat (first | exact (Kd.R_reads' HO_12.out).2.2 | (with_reducible refine Kd.C_alloc ?_ _) | (with_reducible refine Kd.C_drewN ?_ _) | (with_reducible refine Kd.C_drew ?_))); (case side4 => exact (Kd.R_reads' HO_12.out).2.1); rintro e w' ⟨rfl, ⟨nd, rfl⟩⟩; refine ⟨_, rfl, ?_⟩) | ((with_reducible refine gate_callee (f := 21) rfl ?_); refine goesL_ (some 54) rfl rfl Try.func21 (by kernel_rfl) rfl #[.slice Ao37 t345.length co37, .slice Ao38 t346.length co38, .int .i64 x16_15] rfl (by (try simp only [List.map_toArray, List.map_cons, List.map_nil]); first | done | rfl | (simp only [List.length_drop, List.length_take]; rfl)) ?_; (with_reducible refine (part_Letter.calls _ _ t345 _ _ t346 x16_15 t362 _ ?side1 ?side2 ?side3 ?side4 A32.out).mono ?_); (case side1 => repeat (first | exact (Kd.R_reads' HO_11.out).2.2 | (with_reducible refine Kd.C_alloc ?_ _) | (with_reducible refine Kd.C_drewN ?_ _) | (with_reducible refine Kd.C_drew ?_))); (case side2 => exact (Kd.R_reads' HO_11.out).2.1); (case side3 => repeat (first | exact (Kd.R_reads' HO_12.out).2.2 | (with_reducible refine Kd.C_alloc ?_ _) | (with_reducible refine Kd.C_drewN ?_ _) | (with_reducible refine Kd.C_drew ?_))); (case side4 => exact (Kd.R_reads' HO_12.out).2.1); rintro e w' ⟨rfl, ⟨nd, rfl⟩⟩; refine ⟨_, rfl, ?_⟩; obtain ⟨Ao39, co39, eo39⟩ := Kd.R_slice HO_14.out; subst eo39) | (go_at_call 16; (with_reducible refine (part_Count.calls kj15 _ _ t352 t363 _ ?side1 ?side2 A34.out).mono ?_); (case side1 => repeat (first | exact (Kd.R_reads' HO_14.out).2.2 | (with_reducible refine Kd.C_alloc ?_ _) | (with_reducible refine Kd.C_drewN ?_ _) | (with_reducible refine Kd.C_drew ?_))); (case side2 => exact (Kd.R_reads' HO_14.out).2.1); rintro e w40 ⟨rfl, hb⟩; have n0_ := Aside0.mk (Kd.R_below (by (with_reducible repeat (first | apply Kd.R_alloc | apply Kd.R_drewN | apply Kd.R_drew)); exact HO_11.out) hb); have n1_ := Aside0.mk (Kd.R_below (by (with_reducible repeat (first | apply Kd.R_alloc | apply Kd.R_drewN | apply Kd.R_drew)); exact HO_12.out) hb); have n2_ := Aside0.mk (Kd.R_below (by (with_reducible repeat (first | apply Kd.R_alloc | apply Kd.R_drewN | apply Kd.R_drew)); exact HO_13.out) hb); have n3_ := Aside0.mk (Kd.R_below (by (with_reducible repeat (first | apply Kd.R_alloc | apply Kd.R_drewN | apply Kd.R_drew)); exact HO_14.out) hb); have n4_ := Aside0.mk (below_step (by repeat (first | (with_reducible first | exact HB.out | apply below_alloc | apply pw_below_drewN | apply below_drew1) | exact HB.out)) hb); clear HO_11; clear HO_12; clear HO_13; clear HO_14; clear HB; have HO_11 := n0_; have HO_12 := n1_; have HO_13 := n2_; have HO_14 := n3_; have HB := n4_; clear n0_ n1_ n2_ n3_ n4_; (try clear hb); (try clear hb2); (try clear hk); (try clear hi)) | (go_at_call 16; (with_reducible refine (part_Count.calls kj15 _ _ t346 t364 _ ?side1 ?side2 A35.out).mono ?_); (case side1 => repeat (first | exact (Kd.R_reads' HO_12.out).2.2 | (with_reducible refine Kd.C_alloc ?_ _) | (with_reducible refine Kd.C_drewN ?_ _) | (with_reducible refine Kd.C_drew ?_))); (case side2 => exact (Kd.R_reads' HO_12.out).2.1); rintro e w41 ⟨rfl, hb⟩; have n0_ := Aside0.mk (Kd.R_below (by (with_reducible repeat (first | apply Kd.R_alloc | apply Kd.R_drewN | apply Kd.R_drew)); exact HO_11.out) hb); have n1_ := Aside0.mk (Kd.R_below (by (with_reducible repeat (first | apply Kd.R_alloc | apply Kd.R_drewN | apply Kd.R_drew)); exact HO_12.out) hb); have n2_ := Aside0.mk (Kd.R_below (by (with_reducible repeat (first | apply Kd.R_alloc | apply Kd.R_drewN | apply Kd.R_drew)); exact HO_13.out) hb); have n3_ := Aside0.mk (Kd.R_below (by (with_reducible repeat (first | apply Kd.R_alloc | apply Kd.R_drewN | apply Kd.R_drew)); exact HO_14.out) hb); have n4_ := Aside0.mk (below_step (by repeat (first | (with_reducible first | exact HB.out | apply below_alloc | apply pw_below_drewN | apply below_drew1) | exact HB.out)) hb); clear HO_11; clear HO_12; clear HO_13; clear HO_14; clear HB; have HO_11 := n0_; have HO_12 := n1_; have HO_13 := n2_; have HO_14 := n3_; have HB := n4_; clear n0_ n1_ n2_ n3_ n4_; (try clear hb); (try clear hb2); (try clear hk); (try clear hi); obtain ⟨Ao42, co42, eo42⟩ := Kd.R_slice HO_13.out; subst eo42))
                go_ret
                exact ⟨by first | rfl | (simp [errW_none, errW_some] <;> rfl) | (simp [*, errW_none, errW_some] <;> rfl), by repeat (first | (with_reducible first | exact HB.out | apply below_alloc | apply pw_below_drewN | apply below_drew1) | exact HB.out)⟩
              · rw [if_neg c36] at H
                exact absurd H (by simp)
            · rw [if_neg c33] at H
              have c33b0 : (t361 == t362) = false := beq_eq_false_iff_ne.mpr c33
              have c33b1 : (t361 != t362) = true := bne_iff_ne.mpr c33
              replace H := Option.bind_eq_some_iff.mp H
              obtain ⟨t365, A430, H⟩ := H
              replace H : ((part_Letter.f t351 t352 x16_15).bind fun t366 => (if t365 = t366 then (none) else ((part_Count.f kj15 t352).bind fun t367 => ((part_Count.f kj15 t346).bind fun t368 => (if t367 ≥ t368 then (some (decide ((t351.length : Int) ≥ (t345.length : Int)))) else (none)))))) = some r := H
              have A43 := Aside0.mk A430
              clear A430
              replace H := Option.bind_eq_some_iff.mp H
              obtain ⟨t366, A440, H⟩ := H
              replace H : (if t365 = t366 then (none) else ((part_Count.f kj15 t352).bind fun t367 => ((part_Count.f kj15 t346).bind fun t368 => (if t367 ≥ t368 then (some (decide ((t351.length : Int) ≥ (t345.length : Int)))) else (none))))) = some r := H
              have A44 := Aside0.mk A440
              clear A440
              by_cases c45 : t365 = t366
              · rw [if_pos c45] at H
                exact absurd H (by simp)
              · rw [if_neg c45] at H
                have c45b0 : (t365 == t366) = false := beq_eq_false_iff_ne.mpr c45
                have c45b1 : (t365 != t366) = true := bne_iff_ne.mpr c45
                replace H := Option.bind_eq_some_iff.mp H
                obtain ⟨t367, A460, H⟩ := H
                replace H : ((part_Count.f kj15 t346).bind fun t368 => (if t367 ≥ t368 then (some (decide ((t351.length : Int) ≥ (t345.length : Int)))) else (none))) = some r := H
                have A46 := Aside0.mk A460
                clear A460
                replace H := Option.bind_eq_some_iff.mp H
                obtain ⟨t368, A470, H⟩ := H
                replace H : (if t367 ≥ t368 then (some (decide ((t351.length : Int) ≥ (t345.length : Int)))) else (none)) = some r := H
                have A47 := Aside0.mk A470
                clear A470
                by_cases c48 : t367 ≥ t368
                · rw [if_pos c48] at H
                  have c48b0 : decide (t368 ≤ t367) = true := decide_eq_true c48
                  clear c48
                  obtain rfl := Option.some.inj H
                  obtain ⟨Ao49, co49, eo49⟩ := Kd.R_slice HO_11.out
                  subst eo49
                  obtain ⟨Ao50, co50, eo50⟩ := Kd.R_slice HO_12.out
                  subst eo50
                  go_wp2_with (first | ((with_reducible refine gate_callee (f := 21) rfl ?_); refine goesL_ (some 50) rfl rfl Try.func21 (by kernel_rfl) rfl #[.slice Ao49 t345.length co49, .slice Ao50 t346.length co50, .int .i64 t357] rfl (by (try simp only [List.map_toArray, List.map_cons, List.map_nil]); first | done | rfl | (simp only [List.length_drop, List.length_take]; rfl)) ?_; (with_reducible refine (part_Letter.calls _ _ t345 _ _ t346 t357 t361 _ ?side1 ?side2 ?side3 ?side4 A31.out).mono ?_); (case side1 => repeat (first | exact (Kd.R_reads' HO_11.out).2.2 | (with_reducible refine Kd.C_alloc ?_ _) | (with_reducible refine Kd.C_drewN ?_ _) | (with_reducible refine Kd.C_drew ?_))); (case side2 => exact (Kd.R_reads' HO_11.out).2.1); (case side3 => repeat (first | exact (Kd.R_reads' HO_12.out).2.2 | (with_reducible refine Kd.C_alloc ?_ _) | (with_reducible refine Kd.C_drewN ?_ _) | (with_reducible refine Kd.C_drew ?_))); (case side4 => exact (Kd.R_reads' HO_12.out).2.1); rintro e w' ⟨rfl, ⟨nd, rfl⟩⟩; refine ⟨_, rfl, ?_⟩) | ((with_reducible refine gate_callee (f := 21) rfl ?_); refine goesL_ (some 54) rfl rfl Try.func21 (by kernel_rfl) rfl #[.slice Ao49 t345.length co49, .slice Ao50 t346.length co50, .int .i64 x16_15] rfl (by (try simp only [List.map_toArray, List.map_cons, List.map_nil]); first | done | rfl | (simp only [List.length_drop, List.length_take]; rfl)) ?_; (with_reducible refine (part_Letter.calls _ _ t345 _ _ t346 x16_15 t362 _ ?side1 ?side2 ?side3 ?side4 A32.out).mono ?_); (case side1 => repeat (first | exact (Kd.R_reads' HO_11.out).2.2 | (with_reducible refine Kd.C_alloc ?_ _) | (with_reducible refine Kd.C_drewN ?_ _) | (with_reducible refine Kd.C_drew ?_))); (case side2 => exact (Kd.R_reads' HO_11.out).2.1); (case side3 => repeat (first | exact (Kd.R_reads' HO_12.out).2.2 | (with_reducible refine Kd.C_alloc ?_ _) | (with_reducible refine Kd.C_drewN ?_ _) | (with_reducible refine Kd.C_drew ?_))); (case side4 => exact (Kd.R_reads' HO_12.out).2.1); rintro e w' ⟨rfl, ⟨nd, rfl⟩⟩; refine ⟨_, rfl, ?_⟩; obtain ⟨Ao51, co51, eo51⟩ := Kd.R_slice HO_13.out; subst eo51; obtain ⟨Ao52, co52, eo52⟩ := Kd.R_slice HO_14.out; subst eo52) | (go_at_call 21; (with_reducible refine (part_Letter.calls _ _ t351 _ _ t352 t357 t365 _ ?side1 ?side2 ?side3 ?side4 A43.out).mono ?_); (case side1 => repeat (first | exact (Kd.R_reads' HO_13.out).2.2 | (with_reducible refine Kd.C_alloc ?_ _) | (with_reducible refine Kd.C_drewN ?_ _) | (with_reducible refine Kd.C_drew ?_))); (case side2 => exact (Kd.R_reads' HO_13.out).2.1); (case side3 => repeat (first | exact (Kd.R_reads' HO_14.out).2.2 | (with_reducible refine Kd.C_alloc ?_ _) | (with_reducible refine Kd.C_drewN ?_ _) | (with_reducible refine Kd.C_drew ?_))); (case side4 => exact (Kd.R_reads' HO_14.out).2.1); rintro e w' ⟨rfl, ⟨nd, rfl⟩⟩) | (go_at_call 21; (with_reducible refine (part_Letter.calls _ _ t351 _ _ t352 x16_15 t366 _ ?side1 ?side2 ?side3 ?side4 A44.out).mono ?_); (case side1 => repeat (first | exact (Kd.R_reads' HO_13.out).2.2 | (with_reducible refine Kd.C_alloc ?_ _) | (with_reducible refine Kd.C_drewN ?_ _) | (with_reducible refine Kd.C_drew ?_))); (case side2 => exact (Kd.R_reads' HO_13.out).2.1); (case side3 => repeat (first | exact (Kd.R_reads' HO_14.out).2.2 | (with_reducible refine Kd.C_alloc ?_ _) | (with_reducible refine Kd.C_drewN ?_ _) | (with_reducible refine Kd.C_drew ?_))); (case side4 => exact (Kd.R_reads' HO_14.out).2.1); rintro e w' ⟨rfl, ⟨nd, rfl⟩⟩) | (go_at_call 16; (with_reducible refine (part_Count.calls kj15 _ _ t352 t367 _ ?side1 ?side2 A46.out).mono ?_); (case side1 => repeat (first | exact (Kd.R_reads' HO_14.out).2.2 | (with_reducible refine Kd.C_alloc ?_ _) | (with_reducible refine Kd.C_drewN ?_ _) | (with_reducible refine Kd.C_drew ?_))); (case side2 => exact (Kd.R_reads' HO_14.out).2.1); rintro e w53 ⟨rfl, hb⟩; have n0_ := Aside0.mk (Kd.R_below (by (with_reducible repeat (first | apply Kd.R_alloc | apply Kd.R_drewN | apply Kd.R_drew)); exact HO_11.out) hb); have n1_ := Aside0.mk (Kd.R_below (by (with_reducible repeat (first | apply Kd.R_alloc | apply Kd.R_drewN | apply Kd.R_drew)); exact HO_12.out) hb); have n2_ := Aside0.mk (Kd.R_below (by (with_reducible repeat (first | apply Kd.R_alloc | apply Kd.R_drewN | apply Kd.R_drew)); exact HO_13.out) hb); have n3_ := Aside0.mk (Kd.R_below (by (with_reducible repeat (first | apply Kd.R_alloc | apply Kd.R_drewN | apply Kd.R_drew)); exact HO_14.out) hb); have n4_ := Aside0.mk (below_step (by repeat (first | (with_reducible first | exact HB.out | apply below_alloc | apply pw_below_drewN | apply below_drew1) | exact HB.out)) hb); clear HO_11; clear HO_12; clear HO_13; clear HO_14; clear HB; have HO_11 := n0_; have HO_12 := n1_; have HO_13 := n2_; have HO_14 := n3_; have HB := n4_; clear n0_ n1_ n2_ n3_ n4_; (try clear hb); (try clear hb2); (try clear hk); (try clear hi)) | (go_at_call 16; (with_reducible refine (part_Count.calls kj15 _ _ t346 t368 _ ?side1 ?side2 A47.out).mono ?_); (case side1 => repeat (first | exact (Kd.R_reads' HO_12.out).2.2 | (with_reducible refine Kd.C_alloc ?_ _) | (with_reducible refine Kd.C_drewN ?_ _) | (with_reducible refine Kd.C_drew ?_))); (case side2 => exact (Kd.R_reads' HO_12.out).2.1); rintro e w54 ⟨rfl, hb⟩; have n0_ := Aside0.mk (Kd.R_below (by (with_reducible repeat (first | apply Kd.R_alloc | apply Kd.R_drewN | apply Kd.R_drew)); exact HO_11.out) hb); have n1_ := Aside0.mk (Kd.R_below (by (with_reducible repeat (first | apply Kd.R_alloc | apply Kd.R_drewN | apply Kd.R_drew)); exact HO_12.out) hb); have n2_ := Aside0.mk (Kd.R_below (by (with_reducible repeat (first | apply Kd.R_alloc | apply Kd.R_drewN | apply Kd.R_drew)); exact HO_13.out) hb); have n3_ := Aside0.mk (Kd.R_below (by (with_reducible repeat (first | apply Kd.R_alloc | apply Kd.R_drewN | apply Kd.R_drew)); exact HO_14.out) hb); have n4_ := Aside0.mk (below_step (by repeat (first | (with_reducible first | exact HB.out | apply below_alloc | apply pw_below_drewN | apply below_drew1) | exact HB.out)) hb); clear HO_11; clear HO_12; clear HO_13; clear HO_14; clear HB; have HO_11 := n0_; have HO_12 := n1_; have HO_13 := n2_; have HO_14 := n3_; have HB := n4_; clear n0_ n1_ n2_ n3_ n4_; (try clear hb); (try clear hb2); (try clear hk); (try clear hi)))
                  go_ret
                  exact ⟨by first | rfl | (simp [errW_none, errW_some] <;> rfl) | (simp [*, errW_none, errW_some] <;> rfl), by repeat (first | (with_reducible first | exact HB.out | apply below_alloc | apply pw_below_drewN | apply below_drew1) | exact HB.out)⟩
                · rw [if_neg c48] at H
                  exact absurd H (by simp)
      · rw [if_neg c10] at H
        exact absurd H (by simp)
    · rw [if_neg c8] at H
      exact absurd H (by simp)
  · replace c6 := Bool.eq_false_iff.mpr c6
    subst c6
    have H1 : (none) = some r := by rw [if_neg (show ¬ (false = true) by decide)] at H; exact H
    clear H
    have H := H1
    clear H1
    exact absurd H (by simp)

/-- THE ONE PURE STATEMENT of hyphenlaw4_PartMore: yours. -/
def hyphenlaw4_PartMore.Pure : Prop := ∀ (l0 : List Int) (l1 : List Int) (a2 : Int) (a3 : Int), l0.length ≤ maxLen → l0.length * 8 ≤ 140737488351232 → (∀ x ∈ l0, (Lit.int .i64 x).wf = true) → l1.length ≤ maxLen → l1.length * 8 ≤ 140737488351232 → (∀ x ∈ l1, (Lit.int .i64 x).wf = true) → (Lit.int .i64 a2).wf = true → (Lit.int .i64 a3).wf = true → ∃ k, hyphenlaw4_PartMore.f k l0 l1 a2 a3 = some true
theorem hyphenlaw4_PartMore.walk (P : hyphenlaw4_PartMore.Pure) (a0 : Option Addr) (len0 cap0 : Nat) (z0 : List Int) (a1 : Option Addr) (len1 cap1 : Nat) (z1 : List Int) (a2 : Int) (a3 : Int) (w : World) (w0 : (a0 = none ∧ len0 = 0 ∧ cap0 = 0 ∧ z0 = []) ∨ ∃ x, a0 = some x ∧ len0 ≤ cap0 ∧ cap0 ≤ maxLen ∧ z0.length = cap0 ∧ (∀ i, i < z0.length → w.cell? (x.add i) = some (.int .i64 (z0.getD i 0))) ∧ ∀ n ∈ z0, (Lit.int .i64 n).wf = true) (y0 : len0 * 8 ≤ 140737488351232) (w1 : (a1 = none ∧ len1 = 0 ∧ cap1 = 0 ∧ z1 = []) ∨ ∃ x, a1 = some x ∧ len1 ≤ cap1 ∧ cap1 ≤ maxLen ∧ z1.length = cap1 ∧ (∀ i, i < z1.length → w.cell? (x.add i) = some (.int .i64 (z1.getD i 0))) ∧ ∀ n ∈ z1, (Lit.int .i64 n).wf = true) (y1 : len1 * 8 ≤ 140737488351232) (w2 : (Lit.int .i64 a2).wf = true) (w3 : (Lit.int .i64 a3).wf = true) :
    Calls Try.prog 9 #[.slice a0 len0 cap0, .slice a1 len1 cap1, .int .i64 a2, .int .i64 a3] w fun e w' => e = .returned (.bool true) ∧ Below w.heap.size w w' := by
  obtain ⟨l0, rfl, hr0, hm0, hw0, hc0⟩ := ReadsInt.ofRowC w0
  obtain ⟨l1, rfl, hr1, hm1, hw1, hc1⟩ := ReadsInt.ofRowC w1
  obtain ⟨k, h⟩ := P l0 l1 a2 a3 hm0 y0 hw0 hm1 y1 hw1 w2 w3
  refine (hyphenlaw4_PartMore.calls k _ _ l0 _ _ l1 a2 a3 true w (Kd.C_of_reads (d := (0 : Int)) (h1 := fun _ => rfl) hr0) hc0 (Kd.C_of_reads (d := (0 : Int)) (h1 := fun _ => rfl) hr1) hc1 h).mono ?_
  rintro e w' ⟨rfl, hd⟩
  exact ⟨rfl, hd⟩

end Go.Proofs.Yteogcjckhoakbaa.P
