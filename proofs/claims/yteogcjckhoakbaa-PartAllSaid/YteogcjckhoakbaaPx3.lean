-- Written by wip/xprint.py (a program of this repo) out of the translation; Lean checks it.
import Derived.Test.YteogcjckhoakbaaPx0
import Derived.Test.YteogcjckhoakbaaPx2
namespace Go.Proofs.Yteogcjckhoakbaa.P
open Go.RowKit Go.Proofs.YteogcjckhoakbaaW.PrintWords Go.Proofs.YteogcjckhoakbaaW.PrintLast Go.Proofs.YteogcjckhoakbaaW.PrintMore
attribute [local go_sem] max2_int min2_int max_two min_two max_three min_three max_four min_four   -- for this text's walks alone
attribute [local go_sem ↓ high] Go.Proofs.YteogcjckhoakbaaX.isSome_setCell
set_option linter.unusedVariables false
set_option linter.unusedSimpArgs false

/-! ### Search_int: function 33 -/
section
open Go.Shelf
def Search_int.f (l0 : List Int) (a1 : Int) : Option (Int × Bool) := if l0.length < 4611686018427387904 ∧ l0.Pairwise (· ≤ ·) then some (((l0.countP (· < a1) : Nat) : Int), l0.contains a1) else none
set_option maxHeartbeats 800000 in
theorem Search_int.calls (A0 : Option Addr) (c0 : Nat) (l0 : List Int) (a1 : Int) (r1 : Int) (r2 : Bool) (w : World) (hr0 : Kd.C (Kd.int .i64) w A0 l0.length l0) (hc0 : l0.length ≤ c0) (h : Search_int.f l0 a1 = some (r1, r2)) :
  Calls Try.prog 33 #[.slice A0 l0.length c0, .int .i64 a1] w fun e w' => e = .returned (.tuple #[.int .i64 r1, .bool r2]) ∧ Drawn0 w w' := by
 unfold Search_int.f at h
 by_cases hl : l0.length < 4611686018427387904 ∧ l0.Pairwise (· ≤ ·)
 ·rw [if_pos hl] at h
  have h2 := Option.some.inj h
  simp only [Prod.mk.injEq] at h2
  obtain ⟨rfl, rfl⟩ := h2
  clear h
  rcases l0 with _ | ⟨x, l⟩
  ·have nan : ∀ (W : World), True := fun _ => trivial
   go_enter Try.func33, Try.ntmps33
   go_wp2
   refine wp_loop_rounds 1 ?_
   rw [rounds_succ]
   go_wp2
   go_ret2
   exact ⟨rfl, Drawn0.refl _⟩
  ·obtain ⟨ad, rfl, hc⟩ := hr0.2.2 (by simp)
   have hcell : ∀ j, j < (x :: l).length → w.cell? (ad.add j) = some (.int .i64 ((x :: l).getD j 0)) := by
    intro j hj
    obtain ⟨c, hc1, hc2, hc3⟩ := hc j _ (List.getElem?_eq_getElem hj)
    have hc2 : c = [Value.int .i64 (x :: l)[j]] := hc2
    subst hc2
    have := hc3 0 _ rfl
    rw [show (Kd.int IntKind.i64).sz = 1 from rfl, Nat.mul_one, Nat.add_zero] at this
    rw [this, List.getD_eq_getElem?_getD, List.getElem?_eq_getElem hj]; rfl
   obtain ⟨b, off, spot⟩ := ad
   have hs : spot = none := by
    have := hcell 0 (by simp)
    cases spot with
    | none => rfl
    | some s =>
     rw [show (⟨b, off, some s⟩ : Addr).add 0 = ⟨b, off, some s⟩ from by simp [Addr.add]] at this
     unfold World.cell? at this
     cases hh : w.heap[b]? with
     | none => simp [hh] at this
     | some o => cases o <;> simp [hh] at this
   subst hs
   refine (AnyG.slices_BinarySearch_int Try.laysFindI b off (x :: l).length c0 (x :: l) a1 w (Nat.le_refl _) hl.1 (fun j hj => ?_) (by rw [List.take_length]; exact hl.2)).mono ?_
   ·have := hcell j hj
    rwa [show (⟨b, off, none⟩ : Addr).add j = ⟨b, off + j, none⟩ from by unfold Addr.add; split <;> simp_all] at this
   ·rintro e w' ⟨rfl, nd, rfl⟩
    rw [List.take_length]
    exact ⟨rfl, ⟨⟨nd, rfl⟩⟩⟩
 ·rw [if_neg hl] at h; cases h
end

/-! ### part_Letter: function 21 -/
def part_Letter.f (l0 : List Int) (l1 : List Int) (a2 : Int) : Option (Int) := (Search_int.f l0 a2).bind fun bt141 => (if bt141.2 = true then (if bt141.1 < 0 then (some 0) else (if bt141.1 ≥ (l1.length : Int) then (some 0) else (if 0 ≤ bt141.1 then (if bt141.1 < (l1.length : Int) then (some (rd l1 bt141.1)) else (none)) else (none)))) else (if (wrap64 (bt141.1 - 1)) < 0 then (some 0) else (if (wrap64 (bt141.1 - 1)) ≥ (l1.length : Int) then (some 0) else (if 0 ≤ (wrap64 (bt141.1 - 1)) then (if (wrap64 (bt141.1 - 1)) < (l1.length : Int) then (some (rd l1 (wrap64 (bt141.1 - 1)))) else (none)) else (none)))))
set_option maxHeartbeats 8000000 in
set_option maxRecDepth 100000 in
theorem part_Letter.calls (A0 : Option Addr) (c0 : Nat) (l0 : List Int) (A1 : Option Addr) (c1 : Nat) (l1 : List Int) (a2 : Int) (r : Int) (w : World) (hr0 : Kd.C (Kd.int .i64) w A0 l0.length l0) (hc0 : l0.length ≤ c0) (hr1 : Kd.C (Kd.int .i64) w A1 l1.length l1) (hc1 : l1.length ≤ c1) (h : part_Letter.f l0 l1 a2 = some r) :
  Calls Try.prog 21 #[.slice A0 l0.length c0, .slice A1 l1.length c1, .int .i64 a2] w fun e w' => e = .returned (.int .i64 r) ∧ Drawn0 w w' := by
 have HR0 := Aside0.mk hr0
 have HC0 := Aside0.mk hc0
 clear hr0 hc0
 have HR1 := Aside0.mk hr1
 have HC1 := Aside0.mk hc1
 clear hr1 hc1
 have H : ((Search_int.f l0 a2).bind fun bt141 => (if bt141.2 = true then (if bt141.1 < 0 then (some 0) else (if bt141.1 ≥ (l1.length : Int) then (some 0) else (if 0 ≤ bt141.1 then (if bt141.1 < (l1.length : Int) then (some (rd l1 bt141.1)) else (none)) else (none)))) else (if (wrap64 (bt141.1 - 1)) < 0 then (some 0) else (if (wrap64 (bt141.1 - 1)) ≥ (l1.length : Int) then (some 0) else (if 0 ≤ (wrap64 (bt141.1 - 1)) then (if (wrap64 (bt141.1 - 1)) < (l1.length : Int) then (some (rd l1 (wrap64 (bt141.1 - 1)))) else (none)) else (none)))))) = some r := h
 clear h
 replace H := Option.bind_eq_some_iff.mp H
 obtain ⟨⟨t141, t142⟩, A40, H⟩ := H
 replace H : (if t142 = true then (if t141 < 0 then (some 0) else (if t141 ≥ (l1.length : Int) then (some 0) else (if 0 ≤ t141 then (if t141 < (l1.length : Int) then (some (rd l1 t141)) else (none)) else (none)))) else (if (wrap64 (t141 - 1)) < 0 then (some 0) else (if (wrap64 (t141 - 1)) ≥ (l1.length : Int) then (some 0) else (if 0 ≤ (wrap64 (t141 - 1)) then (if (wrap64 (t141 - 1)) < (l1.length : Int) then (some (rd l1 (wrap64 (t141 - 1)))) else (none)) else (none))))) = some r := H
 have A4 := Aside0.mk A40
 clear A40
 by_cases c5 : t142 = true
 ·subst c5
  have H1 : (if t141 < 0 then (some 0) else (if t141 ≥ (l1.length : Int) then (some 0) else (if 0 ≤ t141 then (if t141 < (l1.length : Int) then (some (rd l1 t141)) else (none)) else (none)))) = some r := by rw [if_pos rfl] at H; exact H
  clear H
  have H := H1
  clear H1
  by_cases c6 : t141 < 0
  ·rw [if_pos c6] at H
   have c6b0 : decide (t141 < 0) = true := decide_eq_true c6
   clear c6
   obtain rfl := Option.some.inj H
   go_enter Try.func21, Try.ntmps21
   go_wp2_with (first | ((with_reducible refine gate_callee (f := 33) rfl ?_); refine goesL_ (some 12) rfl rfl Try.func33 (by kernel_rfl) rfl #[.slice A0 l0.length c0, .int .i64 a2] rfl (by (try simp only [List.map_toArray, List.map_cons, List.map_nil]); first | done | rfl | (simp only [List.length_drop, List.length_take]; rfl)) ?_; (with_reducible refine (Search_int.calls _ _ l0 a2 t141 true _ ?side1 ?side2 A4.out).mono ?_); (case side1 => repeat (first | exact HR0.out | (with_reducible refine Kd.C_alloc ?_ _) | (with_reducible refine Kd.C_drewN ?_ _) | (with_reducible refine Kd.C_drew ?_))); (case side2 => exact HC0.out); rintro e w' ⟨rfl, ⟨nd, rfl⟩⟩; refine ⟨_, rfl, ?_⟩))
   go_ret
   exact ⟨by first | rfl | (simp; done) | (simp [*]; done), by repeat (first | exact Drawn0.refl _ | apply Drawn0.step)⟩
  ·rw [if_neg c6] at H
   have c6b0 : decide (t141 < 0) = false := decide_eq_false c6
   clear c6
   by_cases c7 : t141 ≥ (l1.length : Int)
   ·rw [if_pos c7] at H
    have c7b0 : decide ((l1.length : Int) ≤ t141) = true := decide_eq_true c7
    clear c7
    obtain rfl := Option.some.inj H
    go_enter Try.func21, Try.ntmps21
    go_wp2_with (first | ((with_reducible refine gate_callee (f := 33) rfl ?_); refine goesL_ (some 12) rfl rfl Try.func33 (by kernel_rfl) rfl #[.slice A0 l0.length c0, .int .i64 a2] rfl (by (try simp only [List.map_toArray, List.map_cons, List.map_nil]); first | done | rfl | (simp only [List.length_drop, List.length_take]; rfl)) ?_; (with_reducible refine (Search_int.calls _ _ l0 a2 t141 true _ ?side1 ?side2 A4.out).mono ?_); (case side1 => repeat (first | exact HR0.out | (with_reducible refine Kd.C_alloc ?_ _) | (with_reducible refine Kd.C_drewN ?_ _) | (with_reducible refine Kd.C_drew ?_))); (case side2 => exact HC0.out); rintro e w' ⟨rfl, ⟨nd, rfl⟩⟩; refine ⟨_, rfl, ?_⟩))
    go_ret
    exact ⟨by first | rfl | (simp; done) | (simp [*]; done), by repeat (first | exact Drawn0.refl _ | apply Drawn0.step)⟩
   ·rw [if_neg c7] at H
    have c7b0 : decide ((l1.length : Int) ≤ t141) = false := decide_eq_false c7
    clear c7
    by_cases c8 : 0 ≤ t141
    ·rw [if_pos c8] at H
     have c8b0 : decide (0 ≤ t141) = true := decide_eq_true c8
     clear c8
     by_cases c9 : t141 < (l1.length : Int)
     ·rw [if_pos c9] at H
      have c9b0 : decide (t141 < (l1.length : Int)) = true := decide_eq_true c9
      clear c9
      obtain rfl := Option.some.inj H
      go_enter Try.func21, Try.ntmps21
      go_wp2_with (first | ((with_reducible refine gate_callee (f := 33) rfl ?_); refine goesL_ (some 12) rfl rfl Try.func33 (by kernel_rfl) rfl #[.slice A0 l0.length c0, .int .i64 a2] rfl (by (try simp only [List.map_toArray, List.map_cons, List.map_nil]); first | done | rfl | (simp only [List.length_drop, List.length_take]; rfl)) ?_; (with_reducible refine (Search_int.calls _ _ l0 a2 t141 true _ ?side1 ?side2 A4.out).mono ?_); (case side1 => repeat (first | exact HR0.out | (with_reducible refine Kd.C_alloc ?_ _) | (with_reducible refine Kd.C_drewN ?_ _) | (with_reducible refine Kd.C_drew ?_))); (case side2 => exact HC0.out); rintro e w' ⟨rfl, ⟨nd, rfl⟩⟩; refine ⟨_, rfl, ?_⟩; have p143 : 0 ≤ (t141 : Int) := of_decide_eq_true (by first | (with_reducible assumption) | assumption); have q143 : t141 < (l1.length : Int) := of_decide_eq_true (by first | (with_reducible assumption) | assumption); obtain ⟨ad143, e143, hx143_0⟩ := Kd.at_int HR1.out t141 p143 q143; cases e143; replace p143 := eq_true p143; replace q143 := eq_true q143))
      go_ret
      exact ⟨by first | rfl | (simp; done) | (simp [*]; done), by repeat (first | exact Drawn0.refl _ | apply Drawn0.step)⟩
     ·rw [if_neg c9] at H
      exact absurd H (by simp)
    ·rw [if_neg c8] at H
     exact absurd H (by simp)
 ·replace c5 := Bool.eq_false_iff.mpr c5
  subst c5
  have H1 : (if (wrap64 (t141 - 1)) < 0 then (some 0) else (if (wrap64 (t141 - 1)) ≥ (l1.length : Int) then (some 0) else (if 0 ≤ (wrap64 (t141 - 1)) then (if (wrap64 (t141 - 1)) < (l1.length : Int) then (some (rd l1 (wrap64 (t141 - 1)))) else (none)) else (none)))) = some r := by rw [if_neg (show ¬ (false = true) by decide)] at H; exact H
  clear H
  have H := H1
  clear H1
  by_cases c10 : (wrap64 (t141 - 1)) < 0
  ·rw [if_pos c10] at H
   have c10b0 : decide ((wrap64 (t141 - 1)) < 0) = true := decide_eq_true c10
   clear c10
   obtain rfl := Option.some.inj H
   go_enter Try.func21, Try.ntmps21
   go_wp2_with (first | ((with_reducible refine gate_callee (f := 33) rfl ?_); refine goesL_ (some 12) rfl rfl Try.func33 (by kernel_rfl) rfl #[.slice A0 l0.length c0, .int .i64 a2] rfl (by (try simp only [List.map_toArray, List.map_cons, List.map_nil]); first | done | rfl | (simp only [List.length_drop, List.length_take]; rfl)) ?_; (with_reducible refine (Search_int.calls _ _ l0 a2 t141 false _ ?side1 ?side2 A4.out).mono ?_); (case side1 => repeat (first | exact HR0.out | (with_reducible refine Kd.C_alloc ?_ _) | (with_reducible refine Kd.C_drewN ?_ _) | (with_reducible refine Kd.C_drew ?_))); (case side2 => exact HC0.out); rintro e w' ⟨rfl, ⟨nd, rfl⟩⟩; refine ⟨_, rfl, ?_⟩))
   go_ret
   exact ⟨by first | rfl | (simp; done) | (simp [*]; done), by repeat (first | exact Drawn0.refl _ | apply Drawn0.step)⟩
  ·rw [if_neg c10] at H
   have c10b0 : decide ((wrap64 (t141 - 1)) < 0) = false := decide_eq_false c10
   clear c10
   by_cases c11 : (wrap64 (t141 - 1)) ≥ (l1.length : Int)
   ·rw [if_pos c11] at H
    have c11b0 : decide ((l1.length : Int) ≤ (wrap64 (t141 - 1))) = true := decide_eq_true c11
    clear c11
    obtain rfl := Option.some.inj H
    go_enter Try.func21, Try.ntmps21
    go_wp2_with (first | ((with_reducible refine gate_callee (f := 33) rfl ?_); refine goesL_ (some 12) rfl rfl Try.func33 (by kernel_rfl) rfl #[.slice A0 l0.length c0, .int .i64 a2] rfl (by (try simp only [List.map_toArray, List.map_cons, List.map_nil]); first | done | rfl | (simp only [List.length_drop, List.length_take]; rfl)) ?_; (with_reducible refine (Search_int.calls _ _ l0 a2 t141 false _ ?side1 ?side2 A4.out).mono ?_); (case side1 => repeat (first | exact HR0.out | (with_reducible refine Kd.C_alloc ?_ _) | (with_reducible refine Kd.C_drewN ?_ _) | (with_reducible refine Kd.C_drew ?_))); (case side2 => exact HC0.out); rintro e w' ⟨rfl, ⟨nd, rfl⟩⟩; refine ⟨_, rfl, ?_⟩))
    go_ret
    exact ⟨by first | rfl | (simp; done) | (simp [*]; done), by repeat (first | exact Drawn0.refl _ | apply Drawn0.step)⟩
   ·rw [if_neg c11] at H
    have c11b0 : decide ((l1.length : Int) ≤ (wrap64 (t141 - 1))) = false := decide_eq_false c11
    clear c11
    obtain ⟨ji12, hji12⟩ : ∃ j_ : Int, (wrap64 (t141 - 1)) = j_ := ⟨_, rfl⟩
    replace H : (if 0 ≤ (ji12) then (if (ji12) < (l1.length : Int) then (some (rd l1 (ji12))) else (none)) else (none)) = some r := by first | (rw [hji12] at H; exact H) | (simp only [hji12] at H ⊢; exact H)
    (try rw [hji12] at c10b0)
    (try rw [hji12] at c11b0)
    (try rw [hji12] at A4)
    have hji12w : (IntKind.i64.wrap (t141 - 1)) = ji12 := (i64_w _).trans hji12
    by_cases c13 : 0 ≤ (ji12)
    ·rw [if_pos c13] at H
     have c13b0 : decide (0 ≤ (ji12)) = true := decide_eq_true c13
     clear c13
     by_cases c14 : (ji12) < (l1.length : Int)
     ·rw [if_pos c14] at H
      have c14b0 : decide ((ji12) < (l1.length : Int)) = true := decide_eq_true c14
      clear c14
      obtain rfl := Option.some.inj H
      go_enter Try.func21, Try.ntmps21
      go_wp2_with (first | ((with_reducible refine gate_callee (f := 33) rfl ?_); refine goesL_ (some 12) rfl rfl Try.func33 (by kernel_rfl) rfl #[.slice A0 l0.length c0, .int .i64 a2] rfl (by (try simp only [List.map_toArray, List.map_cons, List.map_nil]); first | done | rfl | (simp only [List.length_drop, List.length_take]; rfl)) ?_; (with_reducible refine (Search_int.calls _ _ l0 a2 t141 false _ ?side1 ?side2 A4.out).mono ?_); (case side1 => repeat (first | exact HR0.out | (with_reducible refine Kd.C_alloc ?_ _) | (with_reducible refine Kd.C_drewN ?_ _) | (with_reducible refine Kd.C_drew ?_))); (case side2 => exact HC0.out); rintro e w' ⟨rfl, ⟨nd, rfl⟩⟩; refine ⟨_, rfl, ?_⟩; have p144 : 0 ≤ ((ji12) : Int) := of_decide_eq_true (by first | (with_reducible assumption) | assumption); have q144 : (ji12) < (l1.length : Int) := of_decide_eq_true (by first | (with_reducible assumption) | assumption); obtain ⟨ad144, e144, hx144_0⟩ := Kd.at_int HR1.out (ji12) p144 q144; cases e144; replace p144 := eq_true p144; replace q144 := eq_true q144))
      go_ret
      exact ⟨by first | rfl | (simp; done) | (simp only [← hji12] <;> (first | rfl | simp)) | (simp [*]; done), by repeat (first | exact Drawn0.refl _ | apply Drawn0.step)⟩
     ·rw [if_neg c14] at H
      exact absurd H (by simp)
    ·rw [if_neg c13] at H
     exact absurd H (by simp)

/-! ### hyphenlaw4_known: function 11 -/
def hyphenlaw4_known.f (k : Nat)  : Option (Bool) := (part_Cuts.f k ([] : List (List (S44)))).bind fun bt145 => ((part_Cuts.f k (([(([(⟨5, 9⟩ : S44)] : List (S44)))] : List (List (S44))))).bind fun bt157 => ((part_In.f k (([(([(⟨5, 9⟩ : S44)] : List (S44)))] : List (List (S44)))) bt157.1 bt157.2).bind fun t169 => (if (bt145.1.length : Int) = 1 then (if 0 < (bt145.1.length : Int) then (if (rd bt145.1 0) = 0 then (if (bt145.2.length : Int) = 1 then (if 0 < (bt145.2.length : Int) then (if (rd bt145.2 0) = 0 then (if (bt157.1.length : Int) = 3 then (if (bt157.2.length : Int) = 3 then (if 1 < (bt157.1.length : Int) then (if (rd bt157.1 1) = 5 then (if 2 < (bt157.1.length : Int) then (if (rd bt157.1 2) = 10 then (if 0 < (bt157.2.length : Int) then (if (rd bt157.2 0) = 0 then (if 1 < (bt157.2.length : Int) then (if (rd bt157.2 1) = 1 then (if 2 < (bt157.2.length : Int) then (if (rd bt157.2 2) = 0 then ((part_Letter.f bt157.1 bt157.2 7).bind fun t179 => (if t179 = 1 then ((part_Count.f k bt157.2).bind fun t180 => (if t180 = 2 then (if (t169.length : Int) = 1 then (if 0 < (t169.length : Int) then (if ((rd_L7 t169 0).length : Int) = 2 then (if 1 < ((rd_L7 t169 0).length : Int) then (if rdOf false (rd_L7 t169 0) 1 = true then (if 0 < ((rd_L7 t169 0).length : Int) then (some (!(rdOf false (rd_L7 t169 0) 0))) else (none)) else (none)) else (none)) else (none)) else (none)) else (none)) else (none))) else (none))) else (none)) else (none)) else (none)) else (none)) else (none)) else (none)) else (none)) else (none)) else (none)) else (none)) else (none)) else (none)) else (none)) else (none)) else (none)) else (none)) else (none)) else (none))))
theorem hyphenlaw4_known.mono : ∀ k, LeO (hyphenlaw4_known.f k ) (hyphenlaw4_known.f (k + 1) ) := by
 intro  k
 unfold hyphenlaw4_known.f
 repeat' first
   | (with_reducible exact part_Count.mono _ _)
   | (with_reducible exact part_Cuts.mono _ _)
   | (with_reducible exact part_In.mono _ _ _ _)
   | (with_reducible exact LeO.refl _)
   | (with_reducible exact LeO.none _)
   | (with_reducible refine LeO.ite ?_ ?_)
   | (with_reducible refine LeO.bind ?_ (fun _ => ?_))
   | exact part_Count.mono _ _
   | exact part_Cuts.mono _ _
   | exact part_In.mono _ _ _ _
   | exact LeO.none _
   | refine LeO.ite ?_ ?_
   | refine LeO.bind ?_ (fun _ => ?_)
set_option maxHeartbeats 8000000 in
set_option maxRecDepth 100000 in
theorem hyphenlaw4_known.calls (k : Nat)  (r : Bool) (w : World) (h : hyphenlaw4_known.f k  = some r) :
  Calls Try.prog 11 #[] w fun e w' => e = .returned (.bool r) ∧ Below w.heap.size w w' := by
 have hu44 := Try.underlying44
 have HB := Aside0.mk (Below.refl w.heap.size w)
 have H : ((part_Cuts.f k ([] : List (List (S44)))).bind fun bt145 => ((part_Cuts.f k (([(([(⟨5, 9⟩ : S44)] : List (S44)))] : List (List (S44))))).bind fun bt157 => ((part_In.f k (([(([(⟨5, 9⟩ : S44)] : List (S44)))] : List (List (S44)))) bt157.1 bt157.2).bind fun t169 => (if (bt145.1.length : Int) = 1 then (if 0 < (bt145.1.length : Int) then (if (rd bt145.1 0) = 0 then (if (bt145.2.length : Int) = 1 then (if 0 < (bt145.2.length : Int) then (if (rd bt145.2 0) = 0 then (if (bt157.1.length : Int) = 3 then (if (bt157.2.length : Int) = 3 then (if 1 < (bt157.1.length : Int) then (if (rd bt157.1 1) = 5 then (if 2 < (bt157.1.length : Int) then (if (rd bt157.1 2) = 10 then (if 0 < (bt157.2.length : Int) then (if (rd bt157.2 0) = 0 then (if 1 < (bt157.2.length : Int) then (if (rd bt157.2 1) = 1 then (if 2 < (bt157.2.length : Int) then (if (rd bt157.2 2) = 0 then ((part_Letter.f bt157.1 bt157.2 7).bind fun t179 => (if t179 = 1 then ((part_Count.f k bt157.2).bind fun t180 => (if t180 = 2 then (if (t169.length : Int) = 1 then (if 0 < (t169.length : Int) then (if ((rd_L7 t169 0).length : Int) = 2 then (if 1 < ((rd_L7 t169 0).length : Int) then (if rdOf false (rd_L7 t169 0) 1 = true then (if 0 < ((rd_L7 t169 0).length : Int) then (some (!(rdOf false (rd_L7 t169 0) 0))) else (none)) else (none)) else (none)) else (none)) else (none)) else (none)) else (none))) else (none))) else (none)) else (none)) else (none)) else (none)) else (none)) else (none)) else (none)) else (none)) else (none)) else (none)) else (none)) else (none)) else (none)) else (none)) else (none)) else (none)) else (none)) else (none))))) = some r := h
 clear h
 replace H := Option.bind_eq_some_iff.mp H
 obtain ⟨⟨t145, t146⟩, A10, H⟩ := H
 replace H : ((part_Cuts.f k (([(([(⟨5, 9⟩ : S44)] : List (S44)))] : List (List (S44))))).bind fun bt157 => ((part_In.f k (([(([(⟨5, 9⟩ : S44)] : List (S44)))] : List (List (S44)))) bt157.1 bt157.2).bind fun t169 => (if (t145.length : Int) = 1 then (if 0 < (t145.length : Int) then (if (rd t145 0) = 0 then (if (t146.length : Int) = 1 then (if 0 < (t146.length : Int) then (if (rd t146 0) = 0 then (if (bt157.1.length : Int) = 3 then (if (bt157.2.length : Int) = 3 then (if 1 < (bt157.1.length : Int) then (if (rd bt157.1 1) = 5 then (if 2 < (bt157.1.length : Int) then (if (rd bt157.1 2) = 10 then (if 0 < (bt157.2.length : Int) then (if (rd bt157.2 0) = 0 then (if 1 < (bt157.2.length : Int) then (if (rd bt157.2 1) = 1 then (if 2 < (bt157.2.length : Int) then (if (rd bt157.2 2) = 0 then ((part_Letter.f bt157.1 bt157.2 7).bind fun t179 => (if t179 = 1 then ((part_Count.f k bt157.2).bind fun t180 => (if t180 = 2 then (if (t169.length : Int) = 1 then (if 0 < (t169.length : Int) then (if ((rd_L7 t169 0).length : Int) = 2 then (if 1 < ((rd_L7 t169 0).length : Int) then (if rdOf false (rd_L7 t169 0) 1 = true then (if 0 < ((rd_L7 t169 0).length : Int) then (some (!(rdOf false (rd_L7 t169 0) 0))) else (none)) else (none)) else (none)) else (none)) else (none)) else (none)) else (none))) else (none))) else (none)) else (none)) else (none)) else (none)) else (none)) else (none)) else (none)) else (none)) else (none)) else (none)) else (none)) else (none)) else (none)) else (none)) else (none)) else (none)) else (none)) else (none)))) = some r := H
 have A1 := Aside0.mk A10
 clear A10
 obtain ⟨y151, hy151⟩ : ∃ y_ : List (S44), y_ = (([(⟨5, 9⟩ : S44)] : List (S44))) := ⟨_, rfl⟩
 replace H : ((part_Cuts.f k (([y151] : List (List (S44))))).bind fun bt157 => ((part_In.f k (([(([(⟨5, 9⟩ : S44)] : List (S44)))] : List (List (S44)))) bt157.1 bt157.2).bind fun t169 => (if (t145.length : Int) = 1 then (if 0 < (t145.length : Int) then (if (rd t145 0) = 0 then (if (t146.length : Int) = 1 then (if 0 < (t146.length : Int) then (if (rd t146 0) = 0 then (if (bt157.1.length : Int) = 3 then (if (bt157.2.length : Int) = 3 then (if 1 < (bt157.1.length : Int) then (if (rd bt157.1 1) = 5 then (if 2 < (bt157.1.length : Int) then (if (rd bt157.1 2) = 10 then (if 0 < (bt157.2.length : Int) then (if (rd bt157.2 0) = 0 then (if 1 < (bt157.2.length : Int) then (if (rd bt157.2 1) = 1 then (if 2 < (bt157.2.length : Int) then (if (rd bt157.2 2) = 0 then ((part_Letter.f bt157.1 bt157.2 7).bind fun t179 => (if t179 = 1 then ((part_Count.f k bt157.2).bind fun t180 => (if t180 = 2 then (if (t169.length : Int) = 1 then (if 0 < (t169.length : Int) then (if ((rd_L7 t169 0).length : Int) = 2 then (if 1 < ((rd_L7 t169 0).length : Int) then (if rdOf false (rd_L7 t169 0) 1 = true then (if 0 < ((rd_L7 t169 0).length : Int) then (some (!(rdOf false (rd_L7 t169 0) 0))) else (none)) else (none)) else (none)) else (none)) else (none)) else (none)) else (none))) else (none))) else (none)) else (none)) else (none)) else (none)) else (none)) else (none)) else (none)) else (none)) else (none)) else (none)) else (none)) else (none)) else (none)) else (none)) else (none)) else (none)) else (none)) else (none)))) = some r := by first | (rw [hy151]; with_reducible exact H) | (have H2_ := (Option.bind_some _ _).symm.trans H; rw [hy151]; with_reducible exact H2_) | (have H2_ := (Option.bind_some _ _).symm.trans H; with_reducible exact H2_) | with_reducible exact H | (rw [hy151]; exact H) | exact H
 have Ny151 := Aside0.mk hy151
 clear hy151
 obtain ⟨y154, hy154⟩ : ∃ y_ : List (List (S44)), y_ = (([y151] : List (List (S44)))) := ⟨_, rfl⟩
 replace H : ((part_Cuts.f k y154).bind fun bt157 => ((part_In.f k (([(([(⟨5, 9⟩ : S44)] : List (S44)))] : List (List (S44)))) bt157.1 bt157.2).bind fun t169 => (if (t145.length : Int) = 1 then (if 0 < (t145.length : Int) then (if (rd t145 0) = 0 then (if (t146.length : Int) = 1 then (if 0 < (t146.length : Int) then (if (rd t146 0) = 0 then (if (bt157.1.length : Int) = 3 then (if (bt157.2.length : Int) = 3 then (if 1 < (bt157.1.length : Int) then (if (rd bt157.1 1) = 5 then (if 2 < (bt157.1.length : Int) then (if (rd bt157.1 2) = 10 then (if 0 < (bt157.2.length : Int) then (if (rd bt157.2 0) = 0 then (if 1 < (bt157.2.length : Int) then (if (rd bt157.2 1) = 1 then (if 2 < (bt157.2.length : Int) then (if (rd bt157.2 2) = 0 then ((part_Letter.f bt157.1 bt157.2 7).bind fun t179 => (if t179 = 1 then ((part_Count.f k bt157.2).bind fun t180 => (if t180 = 2 then (if (t169.length : Int) = 1 then (if 0 < (t169.length : Int) then (if ((rd_L7 t169 0).length : Int) = 2 then (if 1 < ((rd_L7 t169 0).length : Int) then (if rdOf false (rd_L7 t169 0) 1 = true then (if 0 < ((rd_L7 t169 0).length : Int) then (some (!(rdOf false (rd_L7 t169 0) 0))) else (none)) else (none)) else (none)) else (none)) else (none)) else (none)) else (none))) else (none))) else (none)) else (none)) else (none)) else (none)) else (none)) else (none)) else (none)) else (none)) else (none)) else (none)) else (none)) else (none)) else (none)) else (none)) else (none)) else (none)) else (none)) else (none)))) = some r := by first | (rw [hy154]; with_reducible exact H) | (have H2_ := (Option.bind_some _ _).symm.trans H; rw [hy154]; with_reducible exact H2_) | (have H2_ := (Option.bind_some _ _).symm.trans H; with_reducible exact H2_) | with_reducible exact H | (rw [hy154]; exact H) | exact H
 have Ny154 := Aside0.mk hy154
 clear hy154
 replace H := Option.bind_eq_some_iff.mp H
 obtain ⟨⟨t157, t158⟩, A20, H⟩ := H
 replace H : ((part_In.f k (([(([(⟨5, 9⟩ : S44)] : List (S44)))] : List (List (S44)))) t157 t158).bind fun t169 => (if (t145.length : Int) = 1 then (if 0 < (t145.length : Int) then (if (rd t145 0) = 0 then (if (t146.length : Int) = 1 then (if 0 < (t146.length : Int) then (if (rd t146 0) = 0 then (if (t157.length : Int) = 3 then (if (t158.length : Int) = 3 then (if 1 < (t157.length : Int) then (if (rd t157 1) = 5 then (if 2 < (t157.length : Int) then (if (rd t157 2) = 10 then (if 0 < (t158.length : Int) then (if (rd t158 0) = 0 then (if 1 < (t158.length : Int) then (if (rd t158 1) = 1 then (if 2 < (t158.length : Int) then (if (rd t158 2) = 0 then ((part_Letter.f t157 t158 7).bind fun t179 => (if t179 = 1 then ((part_Count.f k t158).bind fun t180 => (if t180 = 2 then (if (t169.length : Int) = 1 then (if 0 < (t169.length : Int) then (if ((rd_L7 t169 0).length : Int) = 2 then (if 1 < ((rd_L7 t169 0).length : Int) then (if rdOf false (rd_L7 t169 0) 1 = true then (if 0 < ((rd_L7 t169 0).length : Int) then (some (!(rdOf false (rd_L7 t169 0) 0))) else (none)) else (none)) else (none)) else (none)) else (none)) else (none)) else (none))) else (none))) else (none)) else (none)) else (none)) else (none)) else (none)) else (none)) else (none)) else (none)) else (none)) else (none)) else (none)) else (none)) else (none)) else (none)) else (none)) else (none)) else (none)) else (none))) = some r := H
 have A2 := Aside0.mk A20
 clear A20
 obtain ⟨y163, hy163⟩ : ∃ y_ : List (S44), y_ = (([(⟨5, 9⟩ : S44)] : List (S44))) := ⟨_, rfl⟩
 replace H : ((part_In.f k (([y163] : List (List (S44)))) t157 t158).bind fun t169 => (if (t145.length : Int) = 1 then (if 0 < (t145.length : Int) then (if (rd t145 0) = 0 then (if (t146.length : Int) = 1 then (if 0 < (t146.length : Int) then (if (rd t146 0) = 0 then (if (t157.length : Int) = 3 then (if (t158.length : Int) = 3 then (if 1 < (t157.length : Int) then (if (rd t157 1) = 5 then (if 2 < (t157.length : Int) then (if (rd t157 2) = 10 then (if 0 < (t158.length : Int) then (if (rd t158 0) = 0 then (if 1 < (t158.length : Int) then (if (rd t158 1) = 1 then (if 2 < (t158.length : Int) then (if (rd t158 2) = 0 then ((part_Letter.f t157 t158 7).bind fun t179 => (if t179 = 1 then ((part_Count.f k t158).bind fun t180 => (if t180 = 2 then (if (t169.length : Int) = 1 then (if 0 < (t169.length : Int) then (if ((rd_L7 t169 0).length : Int) = 2 then (if 1 < ((rd_L7 t169 0).length : Int) then (if rdOf false (rd_L7 t169 0) 1 = true then (if 0 < ((rd_L7 t169 0).length : Int) then (some (!(rdOf false (rd_L7 t169 0) 0))) else (none)) else (none)) else (none)) else (none)) else (none)) else (none)) else (none))) else (none))) else (none)) else (none)) else (none)) else (none)) else (none)) else (none)) else (none)) else (none)) else (none)) else (none)) else (none)) else (none)) else (none)) else (none)) else (none)) else (none)) else (none)) else (none))) = some r := by first | (rw [hy163]; with_reducible exact H) | (have H2_ := (Option.bind_some _ _).symm.trans H; rw [hy163]; with_reducible exact H2_) | (have H2_ := (Option.bind_some _ _).symm.trans H; with_reducible exact H2_) | with_reducible exact H | (rw [hy163]; exact H) | exact H
 have Ny163 := Aside0.mk hy163
 clear hy163
 obtain ⟨y166, hy166⟩ : ∃ y_ : List (List (S44)), y_ = (([y163] : List (List (S44)))) := ⟨_, rfl⟩
 replace H : ((part_In.f k y166 t157 t158).bind fun t169 => (if (t145.length : Int) = 1 then (if 0 < (t145.length : Int) then (if (rd t145 0) = 0 then (if (t146.length : Int) = 1 then (if 0 < (t146.length : Int) then (if (rd t146 0) = 0 then (if (t157.length : Int) = 3 then (if (t158.length : Int) = 3 then (if 1 < (t157.length : Int) then (if (rd t157 1) = 5 then (if 2 < (t157.length : Int) then (if (rd t157 2) = 10 then (if 0 < (t158.length : Int) then (if (rd t158 0) = 0 then (if 1 < (t158.length : Int) then (if (rd t158 1) = 1 then (if 2 < (t158.length : Int) then (if (rd t158 2) = 0 then ((part_Letter.f t157 t158 7).bind fun t179 => (if t179 = 1 then ((part_Count.f k t158).bind fun t180 => (if t180 = 2 then (if (t169.length : Int) = 1 then (if 0 < (t169.length : Int) then (if ((rd_L7 t169 0).length : Int) = 2 then (if 1 < ((rd_L7 t169 0).length : Int) then (if rdOf false (rd_L7 t169 0) 1 = true then (if 0 < ((rd_L7 t169 0).length : Int) then (some (!(rdOf false (rd_L7 t169 0) 0))) else (none)) else (none)) else (none)) else (none)) else (none)) else (none)) else (none))) else (none))) else (none)) else (none)) else (none)) else (none)) else (none)) else (none)) else (none)) else (none)) else (none)) else (none)) else (none)) else (none)) else (none)) else (none)) else (none)) else (none)) else (none)) else (none))) = some r := by first | (rw [hy166]; with_reducible exact H) | (have H2_ := (Option.bind_some _ _).symm.trans H; rw [hy166]; with_reducible exact H2_) | (have H2_ := (Option.bind_some _ _).symm.trans H; with_reducible exact H2_) | with_reducible exact H | (rw [hy166]; exact H) | exact H
 have Ny166 := Aside0.mk hy166
 clear hy166
 replace H := Option.bind_eq_some_iff.mp H
 obtain ⟨t169, A30, H⟩ := H
 replace H : (if (t145.length : Int) = 1 then (if 0 < (t145.length : Int) then (if (rd t145 0) = 0 then (if (t146.length : Int) = 1 then (if 0 < (t146.length : Int) then (if (rd t146 0) = 0 then (if (t157.length : Int) = 3 then (if (t158.length : Int) = 3 then (if 1 < (t157.length : Int) then (if (rd t157 1) = 5 then (if 2 < (t157.length : Int) then (if (rd t157 2) = 10 then (if 0 < (t158.length : Int) then (if (rd t158 0) = 0 then (if 1 < (t158.length : Int) then (if (rd t158 1) = 1 then (if 2 < (t158.length : Int) then (if (rd t158 2) = 0 then ((part_Letter.f t157 t158 7).bind fun t179 => (if t179 = 1 then ((part_Count.f k t158).bind fun t180 => (if t180 = 2 then (if (t169.length : Int) = 1 then (if 0 < (t169.length : Int) then (if ((rd_L7 t169 0).length : Int) = 2 then (if 1 < ((rd_L7 t169 0).length : Int) then (if rdOf false (rd_L7 t169 0) 1 = true then (if 0 < ((rd_L7 t169 0).length : Int) then (some (!(rdOf false (rd_L7 t169 0) 0))) else (none)) else (none)) else (none)) else (none)) else (none)) else (none)) else (none))) else (none))) else (none)) else (none)) else (none)) else (none)) else (none)) else (none)) else (none)) else (none)) else (none)) else (none)) else (none)) else (none)) else (none)) else (none)) else (none)) else (none)) else (none)) else (none)) = some r := H
 have A3 := Aside0.mk A30
 clear A30
 by_cases c4 : (t145.length : Int) = 1
 ·rw [if_pos c4] at H
  have c4b0 : ((t145.length : Int) == 1) = true := beq_iff_eq.mpr c4
  have c4b1 : ((t145.length : Int) != 1) = false := bne_eq_false_iff_eq.mpr c4
  clear c4
  by_cases c5 : 0 < (t145.length : Int)
  ·rw [if_pos c5] at H
   have c5b0 : decide (0 < (t145.length : Int)) = true := decide_eq_true c5
   have c5b1 : decide (0 < t145.length) = true := decide_eq_true (by omega)
   clear c5
   by_cases c6 : (rd t145 0) = 0
   ·rw [if_pos c6] at H
    have c6b0 : ((rd t145 0) == 0) = true := beq_iff_eq.mpr c6
    have c6b1 : ((rd t145 0) != 0) = false := bne_eq_false_iff_eq.mpr c6
    clear c6
    by_cases c7 : (t146.length : Int) = 1
    ·rw [if_pos c7] at H
     have c7b0 : ((t146.length : Int) == 1) = true := beq_iff_eq.mpr c7
     have c7b1 : ((t146.length : Int) != 1) = false := bne_eq_false_iff_eq.mpr c7
     clear c7
     by_cases c8 : 0 < (t146.length : Int)
     ·rw [if_pos c8] at H
      have c8b0 : decide (0 < (t146.length : Int)) = true := decide_eq_true c8
      have c8b1 : decide (0 < t146.length) = true := decide_eq_true (by omega)
      clear c8
      by_cases c9 : (rd t146 0) = 0
      ·rw [if_pos c9] at H
       have c9b0 : ((rd t146 0) == 0) = true := beq_iff_eq.mpr c9
       have c9b1 : ((rd t146 0) != 0) = false := bne_eq_false_iff_eq.mpr c9
       clear c9
       by_cases c10 : (t157.length : Int) = 3
       ·rw [if_pos c10] at H
        have c10b0 : ((t157.length : Int) == 3) = true := beq_iff_eq.mpr c10
        have c10b1 : ((t157.length : Int) != 3) = false := bne_eq_false_iff_eq.mpr c10
        clear c10
        by_cases c11 : (t158.length : Int) = 3
        ·rw [if_pos c11] at H
         have c11b0 : ((t158.length : Int) == 3) = true := beq_iff_eq.mpr c11
         have c11b1 : ((t158.length : Int) != 3) = false := bne_eq_false_iff_eq.mpr c11
         clear c11
         by_cases c12 : 1 < (t157.length : Int)
         ·rw [if_pos c12] at H
          have c12b0 : decide (1 < (t157.length : Int)) = true := decide_eq_true c12
          have c12b1 : decide (1 < t157.length) = true := decide_eq_true (by omega)
          clear c12
          by_cases c13 : (rd t157 1) = 5
          ·rw [if_pos c13] at H
           have c13b0 : ((rd t157 1) == 5) = true := beq_iff_eq.mpr c13
           have c13b1 : ((rd t157 1) != 5) = false := bne_eq_false_iff_eq.mpr c13
           clear c13
           by_cases c14 : 2 < (t157.length : Int)
           ·rw [if_pos c14] at H
            have c14b0 : decide (2 < (t157.length : Int)) = true := decide_eq_true c14
            have c14b1 : decide (2 < t157.length) = true := decide_eq_true (by omega)
            clear c14
            by_cases c15 : (rd t157 2) = 10
            ·rw [if_pos c15] at H
             have c15b0 : ((rd t157 2) == 10) = true := beq_iff_eq.mpr c15
             have c15b1 : ((rd t157 2) != 10) = false := bne_eq_false_iff_eq.mpr c15
             clear c15
             by_cases c16 : 0 < (t158.length : Int)
             ·rw [if_pos c16] at H
              have c16b0 : decide (0 < (t158.length : Int)) = true := decide_eq_true c16
              have c16b1 : decide (0 < t158.length) = true := decide_eq_true (by omega)
              clear c16
              by_cases c17 : (rd t158 0) = 0
              ·rw [if_pos c17] at H
               have c17b0 : ((rd t158 0) == 0) = true := beq_iff_eq.mpr c17
               have c17b1 : ((rd t158 0) != 0) = false := bne_eq_false_iff_eq.mpr c17
               clear c17
               by_cases c18 : 1 < (t158.length : Int)
               ·rw [if_pos c18] at H
                have c18b0 : decide (1 < (t158.length : Int)) = true := decide_eq_true c18
                have c18b1 : decide (1 < t158.length) = true := decide_eq_true (by omega)
                clear c18
                by_cases c19 : (rd t158 1) = 1
                ·rw [if_pos c19] at H
                 have c19b0 : ((rd t158 1) == 1) = true := beq_iff_eq.mpr c19
                 have c19b1 : ((rd t158 1) != 1) = false := bne_eq_false_iff_eq.mpr c19
                 clear c19
                 by_cases c20 : 2 < (t158.length : Int)
                 ·rw [if_pos c20] at H
                  have c20b0 : decide (2 < (t158.length : Int)) = true := decide_eq_true c20
                  have c20b1 : decide (2 < t158.length) = true := decide_eq_true (by omega)
                  clear c20
                  by_cases c21 : (rd t158 2) = 0
                  ·rw [if_pos c21] at H
                   have c21b0 : ((rd t158 2) == 0) = true := beq_iff_eq.mpr c21
                   have c21b1 : ((rd t158 2) != 0) = false := bne_eq_false_iff_eq.mpr c21
                   clear c21
                   replace H := Option.bind_eq_some_iff.mp H
                   obtain ⟨t179, A220, H⟩ := H
                   replace H : (if t179 = 1 then ((part_Count.f k t158).bind fun t180 => (if t180 = 2 then (if (t169.length : Int) = 1 then (if 0 < (t169.length : Int) then (if ((rd_L7 t169 0).length : Int) = 2 then (if 1 < ((rd_L7 t169 0).length : Int) then (if rdOf false (rd_L7 t169 0) 1 = true then (if 0 < ((rd_L7 t169 0).length : Int) then (some (!(rdOf false (rd_L7 t169 0) 0))) else (none)) else (none)) else (none)) else (none)) else (none)) else (none)) else (none))) else (none)) = some r := H
                   have A22 := Aside0.mk A220
                   clear A220
                   by_cases c23 : t179 = 1
                   ·rw [if_pos c23] at H
                    have c23b0 : (t179 == 1) = true := beq_iff_eq.mpr c23
                    have c23b1 : (t179 != 1) = false := bne_eq_false_iff_eq.mpr c23
                    clear c23
                    replace H := Option.bind_eq_some_iff.mp H
                    obtain ⟨t180, A240, H⟩ := H
                    replace H : (if t180 = 2 then (if (t169.length : Int) = 1 then (if 0 < (t169.length : Int) then (if ((rd_L7 t169 0).length : Int) = 2 then (if 1 < ((rd_L7 t169 0).length : Int) then (if rdOf false (rd_L7 t169 0) 1 = true then (if 0 < ((rd_L7 t169 0).length : Int) then (some (!(rdOf false (rd_L7 t169 0) 0))) else (none)) else (none)) else (none)) else (none)) else (none)) else (none)) else (none)) = some r := H
                    have A24 := Aside0.mk A240
                    clear A240
                    by_cases c25 : t180 = 2
                    ·rw [if_pos c25] at H
                     have c25b0 : (t180 == 2) = true := beq_iff_eq.mpr c25
                     have c25b1 : (t180 != 2) = false := bne_eq_false_iff_eq.mpr c25
                     clear c25
                     by_cases c26 : (t169.length : Int) = 1
                     ·rw [if_pos c26] at H
                      have c26b0 : ((t169.length : Int) == 1) = true := beq_iff_eq.mpr c26
                      have c26b1 : ((t169.length : Int) != 1) = false := bne_eq_false_iff_eq.mpr c26
                      clear c26
                      by_cases c27 : 0 < (t169.length : Int)
                      ·rw [if_pos c27] at H
                       have c27b0 : decide (0 < (t169.length : Int)) = true := decide_eq_true c27
                       have c27b1 : decide (0 < t169.length) = true := decide_eq_true (by omega)
                       clear c27
                       by_cases c28 : ((rd_L7 t169 0).length : Int) = 2
                       ·rw [if_pos c28] at H
                        have c28b0 : (((rd_L7 t169 0).length : Int) == 2) = true := beq_iff_eq.mpr c28
                        have c28b1 : (((rd_L7 t169 0).length : Int) != 2) = false := bne_eq_false_iff_eq.mpr c28
                        clear c28
                        by_cases c29 : 1 < ((rd_L7 t169 0).length : Int)
                        ·rw [if_pos c29] at H
                         have c29b0 : decide (1 < ((rd_L7 t169 0).length : Int)) = true := decide_eq_true c29
                         have c29b1 : decide (1 < (rd_L7 t169 0).length) = true := decide_eq_true (by omega)
                         clear c29
                         obtain ⟨bq30, hbq30⟩ : ∃ b_ : Bool, b_ = (rdOf false (rd_L7 t169 0) 1) := ⟨_, rfl⟩
                         replace H : (if bq30 = true then (if 0 < ((rd_L7 t169 0).length : Int) then (some (!(rdOf false (rd_L7 t169 0) 0))) else (none)) else (none)) = some r := by rw [← hbq30] at H; exact H
                         have Nbq30 := Aside0.mk hbq30
                         clear hbq30
                         by_cases c31 : bq30 = true
                         ·subst c31
                          have H1 : (if 0 < ((rd_L7 t169 0).length : Int) then (some (!(rdOf false (rd_L7 t169 0) 0))) else (none)) = some r := by rw [if_pos rfl] at H; exact H
                          clear H
                          have H := H1
                          clear H1
                          by_cases c32 : 0 < ((rd_L7 t169 0).length : Int)
                          ·rw [if_pos c32] at H
                           have c32b0 : decide (0 < ((rd_L7 t169 0).length : Int)) = true := decide_eq_true c32
                           have c32b1 : decide (0 < (rd_L7 t169 0).length) = true := decide_eq_true (by omega)
                           clear c32
                           obtain rfl := Option.some.inj H
                           go_enter Try.func11, Try.ntmps11
                           go_wp2_with (first | ((with_reducible refine gate_callee (f := 13) rfl ?_); refine goesL_ (some 7) rfl rfl Try.func13 (by kernel_rfl) rfl #[.slice none 0 0] rfl (by (try simp only [List.map_toArray, List.map_cons, List.map_nil]); first | done | rfl | (simp only [List.length_drop, List.length_take]; rfl)) ?_; (refine (part_Cuts.calls k _ _ ([] : List (List (S44))) t145 t146 _ ?side1 ?side2 A1.out).mono ?_); (case side1 => exact Kd.C_nil _ _); (case side2 => exact Nat.le_refl _); rintro e w33 ⟨v147, v149, rfl, ho0, ho1, hb⟩; refine ⟨_, rfl, ?_⟩; have n0_ := Aside0.mk (Kd.R_lower ho0 (below_size (by repeat (first | (with_reducible first | exact HB.out | apply below_alloc | apply pw_below_drewN | apply below_drew1) | exact HB.out)))); have n1_ := Aside0.mk (Kd.R_lower ho1 (below_size (by repeat (first | (with_reducible first | exact HB.out | apply below_alloc | apply pw_below_drewN | apply below_drew1) | exact HB.out)))); have n2_ := Aside0.mk (below_step (by repeat (first | (with_reducible first | exact HB.out | apply below_alloc | apply pw_below_drewN | apply below_drew1) | exact HB.out)) hb); clear HB; have HO148 := n0_; have HO150 := n1_; have HB := n2_; clear n0_ n1_ n2_; (try clear hb); (try clear hb2); (try clear hk); (try clear hi); (try clear ho0); (try clear ho1)) | ((with_reducible refine gate_dst (N := 12) rfl ?_); (try (refine gate_guard (by rfl) ?_; dsimp only)); refine Kd.R_lit k44 _ 44 ?hg (N := 12) ?hd (xs := ([(⟨5, 9⟩ : S44)] : List (S44))) (inner := [.int .i64 5, .int .i64 9]) (ok := fun _ => True) (okp := fun _ => True) ?hr ?hp (fun _ hk => hk) trivial (Below.refl _ _) (Nat.le_refl _) (by simp) ?_; (case hd => rfl); (case hg => rfl); (case hr => first | (go_simp; done) | (go_simp; rfl)); (case hp => exact (Reps.c2 (show Kd.M k44 _ _ _ (⟨5, 9⟩ : S44) [.int .i64 5, .int .i64 9] from (k44_mkM _ _ _ (⟨5, 9⟩ : S44) )) (Reps.none _ _))); intro v152 w34 ho35 hb hg_ hnew_; clear hg_ hnew_; (first | rw [← Ny151.out] at ho35 | (simp only [Int.reduceToNat] at ho35; rw [← Ny151.out] at ho35)); have n0_ := Aside0.mk (Kd.R_below (by (with_reducible repeat (first | apply Kd.R_alloc | apply Kd.R_drewN | apply Kd.R_drew)); exact HO148.out) hb); have n1_ := Aside0.mk (Kd.R_below (by (with_reducible repeat (first | apply Kd.R_alloc | apply Kd.R_drewN | apply Kd.R_drew)); exact HO150.out) hb); have n2_ := Aside0.mk (Kd.R_lower ho35 (below_size (by repeat (first | (with_reducible first | exact HB.out | apply below_alloc | apply pw_below_drewN | apply below_drew1) | exact HB.out)))); have n3_ := Aside0.mk (below_step (by repeat (first | (with_reducible first | exact HB.out | apply below_alloc | apply pw_below_drewN | apply below_drew1) | exact HB.out)) hb); clear HO148; clear HO150; clear HB; have HO148 := n0_; have HO150 := n1_; have HO153 := n2_; have HB := n3_; clear n0_ n1_ n2_ n3_; clear hb ho35; obtain ⟨Ao36, co36, eo36⟩ := Kd.R_slice HO153.out; subst eo36) | ((with_reducible refine gate_dst (N := 13) rfl ?_); (try (refine gate_guard (by rfl) ?_; dsimp only)); refine Kd.N_lit (Kd.slice 44 k44) _ 37 ?hg (N' := 13) ?hd (xs := ([y151] : List (List (S44)))) (inner := [.slice Ao36 y151.length co36]) (ok := (fun k_ => some k_ ≠ (v147 : Value).ownBlock ∧ some k_ ≠ (v149 : Value).ownBlock)) (okp := (fun k_ => some k_ ≠ (v147 : Value).ownBlock ∧ some k_ ≠ (v149 : Value).ownBlock)) ?hr ?hp (fun _ hk => hk) ((show ∀ k_, w34.heap.size ≤ k_ → (fun k_ => some k_ ≠ (v147 : Value).ownBlock ∧ some k_ ≠ (v149 : Value).ownBlock) k_ from fun k_ hk => ⟨Kd.fresh' (Kd.R_lt (by (with_reducible repeat (first | apply Kd.R_alloc | apply Kd.R_drewN | apply Kd.R_drew)); exact HO148.out)) k_ hk, Kd.fresh' (Kd.R_lt (by (with_reducible repeat (first | apply Kd.R_alloc | apply Kd.R_drewN | apply Kd.R_drew)); exact HO150.out)) k_ hk⟩) _ (Nat.le_refl _)) (Below.refl _ _) (Nat.le_refl _) (by simp) ?_; (case hd => rfl); (case hg => rfl); (case hr => first | (go_simp; done) | (go_simp; rfl)); (case hp => exact (Reps.one (show Kd.FK (Kd.slice 44 k44) _ _ y151 [.slice Ao36 y151.length co36] from (FK_row_ (Kd.R_mono (ok' := (fun k_ => some k_ ≠ (v147 : Value).ownBlock ∧ some k_ ≠ (v149 : Value).ownBlock)) (Kd.R_apart' (Kd.R_apart' (HO153.out) (Kd.R_typed HO148.out) (by decide)) (Kd.R_typed HO150.out) (by decide)) (fun k_ hk => ⟨hk.1.2, hk.2⟩)))) (Reps.none _ _))); intro v155 w37 ho38 hb hg_ hnew_; clear hg_ hnew_; (first | rw [← Ny154.out] at ho38 | (simp only [Int.reduceToNat] at ho38; rw [← Ny154.out] at ho38)); have n0_ := Aside0.mk (Kd.R_below (by (with_reducible repeat (first | apply Kd.R_alloc | apply Kd.R_drewN | apply Kd.R_drew)); exact HO148.out) hb); have n1_ := Aside0.mk (Kd.R_below (by (with_reducible repeat (first | apply Kd.R_alloc | apply Kd.R_drewN | apply Kd.R_drew)); exact HO150.out) hb); have n2_ := Aside0.mk (Kd.R_below (by (with_reducible repeat (first | apply Kd.R_alloc | apply Kd.R_drewN | apply Kd.R_drew)); exact HO153.out) hb); have n3_ := Aside0.mk (Kd.N_lower ho38 (below_size (by repeat (first | (with_reducible first | exact HB.out | apply below_alloc | apply pw_below_drewN | apply below_drew1) | exact HB.out)))); have n4_ := Aside0.mk (below_step (by repeat (first | (with_reducible first | exact HB.out | apply below_alloc | apply pw_below_drewN | apply below_drew1) | exact HB.out)) hb); clear HO148; clear HO150; clear HO153; clear HB; have HO148 := n0_; have HO150 := n1_; have HO153 := n2_; have HO156 := n3_; have HB := n4_; clear n0_ n1_ n2_ n3_ n4_; clear hb ho38; obtain ⟨Ao39, co39, eo39⟩ := Kd.N_slice HO156.out; subst eo39) | ((with_reducible refine gate_callee (f := 13) rfl ?_); refine goesL_ (some 14) rfl rfl Try.func13 (by kernel_rfl) rfl #[.slice Ao39 y154.length co39] rfl (by (try simp only [List.map_toArray, List.map_cons, List.map_nil]); first | done | rfl | (simp only [List.length_drop, List.length_take]; rfl)) ?_; (with_reducible refine (part_Cuts.calls k _ _ y154 t157 t158 _ ?side1 ?side2 A2.out).mono ?_); (case side1 => repeat (first | exact (Kd.N_reads' HO156.out).2.2 | (with_reducible refine Kd.C_alloc ?_ _) | (with_reducible refine Kd.C_drewN ?_ _) | (with_reducible refine Kd.C_drew ?_))); (case side2 => exact (Kd.N_reads' HO156.out).2.1); rintro e w40 ⟨v159, v161, rfl, ho0, ho1, hb⟩; refine ⟨_, rfl, ?_⟩; have n0_ := Aside0.mk (Kd.R_mono (Kd.R_told (Kd.R_told (Kd.R_old (by (with_reducible repeat (first | apply Kd.R_alloc | apply Kd.R_drewN | apply Kd.R_drew)); exact HO148.out) hb) (Kd.R_base ho0)) (Kd.R_base ho1)) (fun _ h_ => h_.1)); have n1_ := Aside0.mk (Kd.R_mono (Kd.R_told (Kd.R_told (Kd.R_old (by (with_reducible repeat (first | apply Kd.R_alloc | apply Kd.R_drewN | apply Kd.R_drew)); exact HO150.out) hb) (Kd.R_base ho0)) (Kd.R_base ho1)) (fun _ h_ => h_.1)); have n2_ := Aside0.mk (Kd.R_below (by (with_reducible repeat (first | apply Kd.R_alloc | apply Kd.R_drewN | apply Kd.R_drew)); exact HO153.out) hb); have n3_ := Aside0.mk (Kd.N_mono (Kd.N_told (Kd.N_told (Kd.N_old (by (with_reducible repeat (first | apply Kd.N_alloc | apply Kd.N_drewN | apply Kd.N_drew)); exact HO156.out) hb) (Kd.R_base ho0)) (Kd.R_base ho1)) (fun _ h_ => h_.1)); have n4_ := Aside0.mk (Kd.R_lower (Kd.R_new' (Kd.R_new' ho0 (Kd.R_lt (by (with_reducible repeat (first | apply Kd.R_alloc | apply Kd.R_drewN | apply Kd.R_drew)); exact HO148.out))) (Kd.R_lt (by (with_reducible repeat (first | apply Kd.R_alloc | apply Kd.R_drewN | apply Kd.R_drew)); exact HO150.out))) (below_size (by repeat (first | (with_reducible first | exact HB.out | apply below_alloc | apply pw_below_drewN | apply below_drew1) | exact HB.out)))); have n5_ := Aside0.mk (Kd.R_lower (Kd.R_new' (Kd.R_new' ho1 (Kd.R_lt (by (with_reducible repeat (first | apply Kd.R_alloc | apply Kd.R_drewN | apply Kd.R_drew)); exact HO148.out))) (Kd.R_lt (by (with_reducible repeat (first | apply Kd.R_alloc | apply Kd.R_drewN | apply Kd.R_drew)); exact HO150.out))) (below_size (by repeat (first | (with_reducible first | exact HB.out | apply below_alloc | apply pw_below_drewN | apply below_drew1) | exact HB.out)))); have n6_ := Aside0.mk (below_step (by repeat (first | (with_reducible first | exact HB.out | apply below_alloc | apply pw_below_drewN | apply below_drew1) | exact HB.out)) hb); clear HO148; clear HO150; clear HO153; clear HO156; clear HB; have HO148 := n0_; have HO150 := n1_; have HO153 := n2_; have HO156 := n3_; have HO160 := n4_; have HO162 := n5_; have HB := n6_; clear n0_ n1_ n2_ n3_ n4_ n5_ n6_; (try clear hb); (try clear hb2); (try clear hk); (try clear hi); (try clear ho0); (try clear ho1)) | ((with_reducible refine gate_dst (N := 18) rfl ?_); (try (refine gate_guard (by rfl) ?_; dsimp only)); refine Kd.R_lit k44 _ 44 ?hg (N := 18) ?hd (xs := ([(⟨5, 9⟩ : S44)] : List (S44))) (inner := [.int .i64 5, .int .i64 9]) (ok := fun _ => True) (okp := fun _ => True) ?hr ?hp (fun _ hk => hk) trivial (Below.refl _ _) (Nat.le_refl _) (by simp) ?_; (case hd => rfl); (case hg => rfl); (case hr => first | (go_simp; done) | (go_simp; rfl)); (case hp => exact (Reps.c2 (show Kd.M k44 _ _ _ (⟨5, 9⟩ : S44) [.int .i64 5, .int .i64 9] from (k44_mkM _ _ _ (⟨5, 9⟩ : S44) )) (Reps.none _ _))); intro v164 w41 ho42 hb hg_ hnew_; clear hg_ hnew_; (first | rw [← Ny163.out] at ho42 | (simp only [Int.reduceToNat] at ho42; rw [← Ny163.out] at ho42)); have n0_ := Aside0.mk (Kd.R_below (by (with_reducible repeat (first | apply Kd.R_alloc | apply Kd.R_drewN | apply Kd.R_drew)); exact HO148.out) hb); have n1_ := Aside0.mk (Kd.R_below (by (with_reducible repeat (first | apply Kd.R_alloc | apply Kd.R_drewN | apply Kd.R_drew)); exact HO150.out) hb); have n2_ := Aside0.mk (Kd.R_elder' (by (with_reducible repeat (first | apply Kd.R_alloc | apply Kd.R_drewN | apply Kd.R_drew)); exact HO153.out) (Kd.R_base ho42) hb); have n3_ := Aside0.mk (Kd.N_elder' (by (with_reducible repeat (first | apply Kd.N_alloc | apply Kd.N_drewN | apply Kd.N_drew)); exact HO156.out) (Kd.R_base ho42) hb); have n4_ := Aside0.mk (Kd.R_below (by (with_reducible repeat (first | apply Kd.R_alloc | apply Kd.R_drewN | apply Kd.R_drew)); exact HO160.out) hb); have n5_ := Aside0.mk (Kd.R_below (by (with_reducible repeat (first | apply Kd.R_alloc | apply Kd.R_drewN | apply Kd.R_drew)); exact HO162.out) hb); have n6_ := Aside0.mk (Kd.R_lower (Kd.R_new' ho42 (Kd.R_lt (by (with_reducible repeat (first | apply Kd.R_alloc | apply Kd.R_drewN | apply Kd.R_drew)); exact HO153.out))) (below_size (by repeat (first | (with_reducible first | exact HB.out | apply below_alloc | apply pw_below_drewN | apply below_drew1) | exact HB.out)))); have n7_ := Aside0.mk (below_step (by repeat (first | (with_reducible first | exact HB.out | apply below_alloc | apply pw_below_drewN | apply below_drew1) | exact HB.out)) hb); clear HO148; clear HO150; clear HO153; clear HO156; clear HO160; clear HO162; clear HB; have HO148 := n0_; have HO150 := n1_; have HO153 := n2_; have HO156 := n3_; have HO160 := n4_; have HO162 := n5_; have HO165 := n6_; have HB := n7_; clear n0_ n1_ n2_ n3_ n4_ n5_ n6_ n7_; clear hb ho42; obtain ⟨Ao43, co43, eo43⟩ := Kd.R_slice HO165.out; subst eo43) | ((with_reducible refine gate_dst (N := 19) rfl ?_); (try (refine gate_guard (by rfl) ?_; dsimp only)); refine Kd.N_lit (Kd.slice 44 k44) _ 37 ?hg (N' := 19) ?hd (xs := ([y163] : List (List (S44)))) (inner := [.slice Ao43 y163.length co43]) (ok := (fun k_ => some k_ ≠ (v147 : Value).ownBlock ∧ some k_ ≠ (v149 : Value).ownBlock ∧ some k_ ≠ (.slice Ao36 y151.length co36 : Value).ownBlock ∧ some k_ ≠ (.slice Ao39 y154.length co39 : Value).ownBlock ∧ some k_ ≠ (v159 : Value).ownBlock ∧ some k_ ≠ (v161 : Value).ownBlock)) (okp := (fun k_ => some k_ ≠ (v147 : Value).ownBlock ∧ some k_ ≠ (v149 : Value).ownBlock ∧ some k_ ≠ (.slice Ao36 y151.length co36 : Value).ownBlock ∧ some k_ ≠ (.slice Ao39 y154.length co39 : Value).ownBlock ∧ some k_ ≠ (v159 : Value).ownBlock ∧ some k_ ≠ (v161 : Value).ownBlock)) ?hr ?hp (fun _ hk => hk) ((show ∀ k_, w41.heap.size ≤ k_ → (fun k_ => some k_ ≠ (v147 : Value).ownBlock ∧ some k_ ≠ (v149 : Value).ownBlock ∧ some k_ ≠ (.slice Ao36 y151.length co36 : Value).ownBlock ∧ some k_ ≠ (.slice Ao39 y154.length co39 : Value).ownBlock ∧ some k_ ≠ (v159 : Value).ownBlock ∧ some k_ ≠ (v161 : Value).ownBlock) k_ from fun k_ hk => ⟨Kd.fresh' (Kd.R_lt (by (with_reducible repeat (first | apply Kd.R_alloc | apply Kd.R_drewN | apply Kd.R_drew)); exact HO148.out)) k_ hk, Kd.fresh' (Kd.R_lt (by (with_reducible repeat (first | apply Kd.R_alloc | apply Kd.R_drewN | apply Kd.R_drew)); exact HO150.out)) k_ hk, Kd.fresh' (Kd.R_lt (by (with_reducible repeat (first | apply Kd.R_alloc | apply Kd.R_drewN | apply Kd.R_drew)); exact HO153.out)) k_ hk, Kd.fresh' (Kd.N_lt (by (with_reducible repeat (first | apply Kd.N_alloc | apply Kd.N_drewN | apply Kd.N_drew)); exact HO156.out)) k_ hk, Kd.fresh' (Kd.R_lt (by (with_reducible repeat (first | apply Kd.R_alloc | apply Kd.R_drewN | apply Kd.R_drew)); exact HO160.out)) k_ hk, Kd.fresh' (Kd.R_lt (by (with_reducible repeat (first | apply Kd.R_alloc | apply Kd.R_drewN | apply Kd.R_drew)); exact HO162.out)) k_ hk⟩) _ (Nat.le_refl _)) (Below.refl _ _) (Nat.le_refl _) (by simp) ?_; (case hd => rfl); (case hg => rfl); (case hr => first | (go_simp; done) | (go_simp; rfl)); (case hp => exact (Reps.one (show Kd.FK (Kd.slice 44 k44) _ _ y163 [.slice Ao43 y163.length co43] from (FK_row_ (Kd.R_mono (ok' := (fun k_ => some k_ ≠ (v147 : Value).ownBlock ∧ some k_ ≠ (v149 : Value).ownBlock ∧ some k_ ≠ (.slice Ao36 y151.length co36 : Value).ownBlock ∧ some k_ ≠ (.slice Ao39 y154.length co39 : Value).ownBlock ∧ some k_ ≠ (v159 : Value).ownBlock ∧ some k_ ≠ (v161 : Value).ownBlock)) (Kd.R_apart' (Kd.R_apart' (Kd.R_apart' (Kd.R_apart' (Kd.R_apart' (HO165.out) (Kd.R_typed HO148.out) (by decide)) (Kd.R_typed HO150.out) (by decide)) (Kd.N_typed HO156.out) (by decide)) (Kd.R_typed HO160.out) (by decide)) (Kd.R_typed HO162.out) (by decide)) (fun k_ hk => ⟨hk.1.1.1.1.2, ⟨hk.1.1.1.2, ⟨hk.1.1.1.1.1.2, ⟨hk.1.1.2, ⟨hk.1.2, hk.2⟩⟩⟩⟩⟩)))) (Reps.none _ _))); intro v167 w44 ho45 hb hg_ hnew_; clear hg_ hnew_; (first | rw [← Ny166.out] at ho45 | (simp only [Int.reduceToNat] at ho45; rw [← Ny166.out] at ho45)); have n0_ := Aside0.mk (Kd.R_below (by (with_reducible repeat (first | apply Kd.R_alloc | apply Kd.R_drewN | apply Kd.R_drew)); exact HO148.out) hb); have n1_ := Aside0.mk (Kd.R_below (by (with_reducible repeat (first | apply Kd.R_alloc | apply Kd.R_drewN | apply Kd.R_drew)); exact HO150.out) hb); have n2_ := Aside0.mk (Kd.R_below (by (with_reducible repeat (first | apply Kd.R_alloc | apply Kd.R_drewN | apply Kd.R_drew)); exact HO153.out) hb); have n3_ := Aside0.mk (Kd.N_elder' (by (with_reducible repeat (first | apply Kd.N_alloc | apply Kd.N_drewN | apply Kd.N_drew)); exact HO156.out) (by first | exact Kd.N_base ho45 | exact Kd.R_base ho45) hb); have n4_ := Aside0.mk (Kd.R_below (by (with_reducible repeat (first | apply Kd.R_alloc | apply Kd.R_drewN | apply Kd.R_drew)); exact HO160.out) hb); have n5_ := Aside0.mk (Kd.R_below (by (with_reducible repeat (first | apply Kd.R_alloc | apply Kd.R_drewN | apply Kd.R_drew)); exact HO162.out) hb); have n6_ := Aside0.mk (Kd.R_below (by (with_reducible repeat (first | apply Kd.R_alloc | apply Kd.R_drewN | apply Kd.R_drew)); exact HO165.out) hb); have n7_ := Aside0.mk (Kd.N_lower ho45 (below_size (by repeat (first | (with_reducible first | exact HB.out | apply below_alloc | apply pw_below_drewN | apply below_drew1) | exact HB.out)))); have n8_ := Aside0.mk (below_step (by repeat (first | (with_reducible first | exact HB.out | apply below_alloc | apply pw_below_drewN | apply below_drew1) | exact HB.out)) hb); clear HO148; clear HO150; clear HO153; clear HO156; clear HO160; clear HO162; clear HO165; clear HB; have HO148 := n0_; have HO150 := n1_; have HO153 := n2_; have HO156 := n3_; have HO160 := n4_; have HO162 := n5_; have HO165 := n6_; have HO168 := n7_; have HB := n8_; clear n0_ n1_ n2_ n3_ n4_ n5_ n6_ n7_ n8_; clear hb ho45; obtain ⟨Ao46, co46, eo46⟩ := Kd.N_slice HO168.out; subst eo46; obtain ⟨Ao47, co47, eo47⟩ := Kd.R_slice HO160.out; subst eo47; obtain ⟨Ao48, co48, eo48⟩ := Kd.R_slice HO162.out; subst eo48) | ((with_reducible refine gate_callee (f := 18) rfl ?_); refine goesL_ (some 22) rfl rfl Try.func18 (by kernel_rfl) rfl #[.slice Ao46 y166.length co46, .slice Ao47 t157.length co47, .slice Ao48 t158.length co48] rfl (by (try simp only [List.map_toArray, List.map_cons, List.map_nil]); first | done | rfl | (simp only [List.length_drop, List.length_take]; rfl)) ?_; (with_reducible refine (part_In.calls k _ _ y166 _ _ t157 _ _ t158 t169 _ ?side1 ?side2 ?side3 ?side4 ?side5 ?side6 A3.out).mono ?_); (case side1 => repeat (first | exact (Kd.N_reads' HO168.out).2.2 | (with_reducible refine Kd.C_alloc ?_ _) | (with_reducible refine Kd.C_drewN ?_ _) | (with_reducible refine Kd.C_drew ?_))); (case side2 => exact (Kd.N_reads' HO168.out).2.1); (case side3 => repeat (first | exact (Kd.R_reads' HO160.out).2.2 | (with_reducible refine Kd.C_alloc ?_ _) | (with_reducible refine Kd.C_drewN ?_ _) | (with_reducible refine Kd.C_drew ?_))); (case side4 => exact (Kd.R_reads' HO160.out).2.1); (case side5 => repeat (first | exact (Kd.R_reads' HO162.out).2.2 | (with_reducible refine Kd.C_alloc ?_ _) | (with_reducible refine Kd.C_drewN ?_ _) | (with_reducible refine Kd.C_drew ?_))); (case side6 => exact (Kd.R_reads' HO162.out).2.1); rintro e w49 ⟨v170, rfl, ho0, hb⟩; refine ⟨_, rfl, ?_⟩; have n0_ := Aside0.mk (Kd.R_below (by (with_reducible repeat (first | apply Kd.R_alloc | apply Kd.R_drewN | apply Kd.R_drew)); exact HO148.out) hb); have n1_ := Aside0.mk (Kd.R_below (by (with_reducible repeat (first | apply Kd.R_alloc | apply Kd.R_drewN | apply Kd.R_drew)); exact HO150.out) hb); have n2_ := Aside0.mk (Kd.R_below (by (with_reducible repeat (first | apply Kd.R_alloc | apply Kd.R_drewN | apply Kd.R_drew)); exact HO153.out) hb); have n3_ := Aside0.mk (Kd.N_elder' (by (with_reducible repeat (first | apply Kd.N_alloc | apply Kd.N_drewN | apply Kd.N_drew)); exact HO156.out) (by first | exact Kd.N_base ho0 | exact Kd.R_base ho0) hb); have n4_ := Aside0.mk (Kd.R_below (by (with_reducible repeat (first | apply Kd.R_alloc | apply Kd.R_drewN | apply Kd.R_drew)); exact HO160.out) hb); have n5_ := Aside0.mk (Kd.R_below (by (with_reducible repeat (first | apply Kd.R_alloc | apply Kd.R_drewN | apply Kd.R_drew)); exact HO162.out) hb); have n6_ := Aside0.mk (Kd.R_below (by (with_reducible repeat (first | apply Kd.R_alloc | apply Kd.R_drewN | apply Kd.R_drew)); exact HO165.out) hb); have n7_ := Aside0.mk (Kd.N_elder' (by (with_reducible repeat (first | apply Kd.N_alloc | apply Kd.N_drewN | apply Kd.N_drew)); exact HO168.out) (by first | exact Kd.N_base ho0 | exact Kd.R_base ho0) hb); have n8_ := Aside0.mk (Kd.N_lower (Kd.N_mono (ok' := fun k_ => some k_ ≠ (v147 : Value).ownBlock ∧ some k_ ≠ (v149 : Value).ownBlock ∧ some k_ ≠ (.slice Ao36 y151.length co36 : Value).ownBlock ∧ some k_ ≠ (.slice Ao39 y154.length co39 : Value).ownBlock ∧ some k_ ≠ (.slice Ao47 t157.length co47 : Value).ownBlock ∧ some k_ ≠ (.slice Ao48 t158.length co48 : Value).ownBlock ∧ some k_ ≠ (.slice Ao43 y163.length co43 : Value).ownBlock ∧ some k_ ≠ (.slice Ao46 y166.length co46 : Value).ownBlock) (Kd.R_N (Kd.R_bound ho0)) (fun k_ hk_ => ⟨(Kd.fresh' (Kd.R_lt (by (with_reducible repeat (first | apply Kd.R_alloc | apply Kd.R_drewN | apply Kd.R_drew)); exact HO148.out)) k_ hk_.2.1), (Kd.fresh' (Kd.R_lt (by (with_reducible repeat (first | apply Kd.R_alloc | apply Kd.R_drewN | apply Kd.R_drew)); exact HO150.out)) k_ hk_.2.1), (Kd.fresh' (Kd.R_lt (by (with_reducible repeat (first | apply Kd.R_alloc | apply Kd.R_drewN | apply Kd.R_drew)); exact HO153.out)) k_ hk_.2.1), (Kd.fresh' (Kd.N_lt (by (with_reducible repeat (first | apply Kd.N_alloc | apply Kd.N_drewN | apply Kd.N_drew)); exact HO156.out)) k_ hk_.2.1), (Kd.fresh' (Kd.R_lt (by (with_reducible repeat (first | apply Kd.R_alloc | apply Kd.R_drewN | apply Kd.R_drew)); exact HO160.out)) k_ hk_.2.1), (Kd.fresh' (Kd.R_lt (by (with_reducible repeat (first | apply Kd.R_alloc | apply Kd.R_drewN | apply Kd.R_drew)); exact HO162.out)) k_ hk_.2.1), (Kd.fresh' (Kd.R_lt (by (with_reducible repeat (first | apply Kd.R_alloc | apply Kd.R_drewN | apply Kd.R_drew)); exact HO165.out)) k_ hk_.2.1), (Kd.fresh' (Kd.N_lt (by (with_reducible repeat (first | apply Kd.N_alloc | apply Kd.N_drewN | apply Kd.N_drew)); exact HO168.out)) k_ hk_.2.1)⟩)) (below_size (by repeat (first | (with_reducible first | exact HB.out | apply below_alloc | apply pw_below_drewN | apply below_drew1) | exact HB.out)))); have n9_ := Aside0.mk (below_step (by repeat (first | (with_reducible first | exact HB.out | apply below_alloc | apply pw_below_drewN | apply below_drew1) | exact HB.out)) hb); clear HO148; clear HO150; clear HO153; clear HO156; clear HO160; clear HO162; clear HO165; clear HO168; clear HB; have HO148 := n0_; have HO150 := n1_; have HO153 := n2_; have HO156 := n3_; have HO160 := n4_; have HO162 := n5_; have HO165 := n6_; have HO168 := n7_; have HO171 := n8_; have HB := n9_; clear n0_ n1_ n2_ n3_ n4_ n5_ n6_ n7_ n8_ n9_; (try clear hb); (try clear hb2); (try clear hk); (try clear hi); (try clear ho0); obtain ⟨Ao50, co50, eo50⟩ := Kd.R_slice HO148.out; subst eo50; have p172 : 0 ≤ (0 : Int) := (by omega); have q172 : 0 < (t145.length : Int) := of_decide_eq_true (by first | (with_reducible assumption) | assumption); obtain ⟨ad172, e172, hx172_0⟩ := Kd.at_int (Kd.R_reads' HO148.out).2.2 0 p172 q172; cases e172; have qi172 : (0 < t145.length) = True := eq_true (by omega); (try rw [show ((0 : Int)).toNat = 0 from rfl] at hx172_0); (try rw [Addr.add_zero'] at hx172_0); replace p172 := eq_true p172; replace q172 := eq_true q172; obtain ⟨Ao51, co51, eo51⟩ := Kd.R_slice HO150.out; subst eo51; have p173 : 0 ≤ (0 : Int) := (by omega); have q173 : 0 < (t146.length : Int) := of_decide_eq_true (by first | (with_reducible assumption) | assumption); obtain ⟨ad173, e173, hx173_0⟩ := Kd.at_int (Kd.R_reads' HO150.out).2.2 0 p173 q173; cases e173; have qi173 : (0 < t146.length) = True := eq_true (by omega); (try rw [show ((0 : Int)).toNat = 0 from rfl] at hx173_0); (try rw [Addr.add_zero'] at hx173_0); replace p173 := eq_true p173; replace q173 := eq_true q173; have p174 : 0 ≤ (1 : Int) := (by omega); have q174 : 1 < (t157.length : Int) := of_decide_eq_true (by first | (with_reducible assumption) | assumption); obtain ⟨ad174, e174, hx174_0⟩ := Kd.at_int (Kd.R_reads' HO160.out).2.2 1 p174 q174; cases e174; (try simp only [show (1 : Int).toNat = 1 from rfl, Nat.reduceMul, Nat.reduceEqDiff, Go.Addr.add, ↓reduceIte] at hx174_0); have qi174 : (1 < t157.length) = True := eq_true (by omega); (try rw [show ((1 : Int)).toNat = 1 from rfl] at hx174_0); replace p174 := eq_true p174; replace q174 := eq_true q174; have p175 : 0 ≤ (2 : Int) := (by omega); have q175 : 2 < (t157.length : Int) := of_decide_eq_true (by first | (with_reducible assumption) | assumption); obtain ⟨ad175, e175, hx175_0⟩ := Kd.at_int (Kd.R_reads' HO160.out).2.2 2 p175 q175; obtain rfl : ad174 = ad175 := (by injection e175); (try simp only [show (2 : Int).toNat = 2 from rfl, Nat.reduceMul, Nat.reduceEqDiff, Go.Addr.add, ↓reduceIte] at hx175_0); have qi175 : (2 < t157.length) = True := eq_true (by omega); (try rw [show ((2 : Int)).toNat = 2 from rfl] at hx175_0); replace p175 := eq_true p175; replace q175 := eq_true q175; have p176 : 0 ≤ (0 : Int) := (by omega); have q176 : 0 < (t158.length : Int) := of_decide_eq_true (by first | (with_reducible assumption) | assumption); obtain ⟨ad176, e176, hx176_0⟩ := Kd.at_int (Kd.R_reads' HO162.out).2.2 0 p176 q176; cases e176; have qi176 : (0 < t158.length) = True := eq_true (by omega); (try rw [show ((0 : Int)).toNat = 0 from rfl] at hx176_0); (try rw [Addr.add_zero'] at hx176_0); replace p176 := eq_true p176; replace q176 := eq_true q176; have p177 : 0 ≤ (1 : Int) := (by omega); have q177 : 1 < (t158.length : Int) := of_decide_eq_true (by first | (with_reducible assumption) | assumption); obtain ⟨ad177, e177, hx177_0⟩ := Kd.at_int (Kd.R_reads' HO162.out).2.2 1 p177 q177; obtain rfl : ad176 = ad177 := (by injection e177); (try simp only [show (1 : Int).toNat = 1 from rfl, Nat.reduceMul, Nat.reduceEqDiff, Go.Addr.add, ↓reduceIte] at hx177_0); have qi177 : (1 < t158.length) = True := eq_true (by omega); (try rw [show ((1 : Int)).toNat = 1 from rfl] at hx177_0); replace p177 := eq_true p177; replace q177 := eq_true q177; have p178 : 0 ≤ (2 : Int) := (by omega); have q178 : 2 < (t158.length : Int) := of_decide_eq_true (by first | (with_reducible assumption) | assumption); obtain ⟨ad178, e178, hx178_0⟩ := Kd.at_int (Kd.R_reads' HO162.out).2.2 2 p178 q178; obtain rfl : ad176 = ad178 := (by injection e178); (try simp only [show (2 : Int).toNat = 2 from rfl, Nat.reduceMul, Nat.reduceEqDiff, Go.Addr.add, ↓reduceIte] at hx178_0); have qi178 : (2 < t158.length) = True := eq_true (by omega); (try rw [show ((2 : Int)).toNat = 2 from rfl] at hx178_0); replace p178 := eq_true p178; replace q178 := eq_true q178) | (go_at_call 21; (with_reducible refine (part_Letter.calls _ _ t157 _ _ t158 7 t179 _ ?side1 ?side2 ?side3 ?side4 A22.out).mono ?_); (case side1 => repeat (first | exact (Kd.R_reads' HO160.out).2.2 | (with_reducible refine Kd.C_alloc ?_ _) | (with_reducible refine Kd.C_drewN ?_ _) | (with_reducible refine Kd.C_drew ?_))); (case side2 => exact (Kd.R_reads' HO160.out).2.1); (case side3 => repeat (first | exact (Kd.R_reads' HO162.out).2.2 | (with_reducible refine Kd.C_alloc ?_ _) | (with_reducible refine Kd.C_drewN ?_ _) | (with_reducible refine Kd.C_drew ?_))); (case side4 => exact (Kd.R_reads' HO162.out).2.1); rintro e w' ⟨rfl, ⟨nd, rfl⟩⟩) | (go_at_call 16; (with_reducible refine (part_Count.calls k _ _ t158 t180 _ ?side1 ?side2 A24.out).mono ?_); (case side1 => repeat (first | exact (Kd.R_reads' HO162.out).2.2 | (with_reducible refine Kd.C_alloc ?_ _) | (with_reducible refine Kd.C_drewN ?_ _) | (with_reducible refine Kd.C_drew ?_))); (case side2 => exact (Kd.R_reads' HO162.out).2.1); rintro e w52 ⟨rfl, hb⟩; have n0_ := Aside0.mk (Kd.R_below (by (with_reducible repeat (first | apply Kd.R_alloc | apply Kd.R_drewN | apply Kd.R_drew)); exact HO148.out) hb); have n1_ := Aside0.mk (Kd.R_below (by (with_reducible repeat (first | apply Kd.R_alloc | apply Kd.R_drewN | apply Kd.R_drew)); exact HO150.out) hb); have n2_ := Aside0.mk (Kd.R_below (by (with_reducible repeat (first | apply Kd.R_alloc | apply Kd.R_drewN | apply Kd.R_drew)); exact HO153.out) hb); have n3_ := Aside0.mk (Kd.N_below (by (with_reducible repeat (first | apply Kd.N_alloc | apply Kd.N_drewN | apply Kd.N_drew)); exact HO156.out) hb); have n4_ := Aside0.mk (Kd.R_below (by (with_reducible repeat (first | apply Kd.R_alloc | apply Kd.R_drewN | apply Kd.R_drew)); exact HO160.out) hb); have n5_ := Aside0.mk (Kd.R_below (by (with_reducible repeat (first | apply Kd.R_alloc | apply Kd.R_drewN | apply Kd.R_drew)); exact HO162.out) hb); have n6_ := Aside0.mk (Kd.R_below (by (with_reducible repeat (first | apply Kd.R_alloc | apply Kd.R_drewN | apply Kd.R_drew)); exact HO165.out) hb); have n7_ := Aside0.mk (Kd.N_below (by (with_reducible repeat (first | apply Kd.N_alloc | apply Kd.N_drewN | apply Kd.N_drew)); exact HO168.out) hb); have n8_ := Aside0.mk (Kd.N_below (by (with_reducible repeat (first | apply Kd.N_alloc | apply Kd.N_drewN | apply Kd.N_drew)); exact HO171.out) hb); have n9_ := Aside0.mk (below_step (by repeat (first | (with_reducible first | exact HB.out | apply below_alloc | apply pw_below_drewN | apply below_drew1) | exact HB.out)) hb); clear HO148; clear HO150; clear HO153; clear HO156; clear HO160; clear HO162; clear HO165; clear HO168; clear HO171; clear HB; have HO148 := n0_; have HO150 := n1_; have HO153 := n2_; have HO156 := n3_; have HO160 := n4_; have HO162 := n5_; have HO165 := n6_; have HO168 := n7_; have HO171 := n8_; have HB := n9_; clear n0_ n1_ n2_ n3_ n4_ n5_ n6_ n7_ n8_ n9_; (try clear hb); (try clear hb2); (try clear hk); (try clear hi); obtain ⟨Ao53, co53, eo53⟩ := Kd.N_slice HO171.out; subst eo53; have p181 : 0 ≤ (0 : Int) := (by omega); have q181 : 0 < (t169.length : Int) := of_decide_eq_true (by first | (with_reducible assumption) | assumption); obtain ⟨ad181, A181_0, c181_0, e181, hx181_0, hl181_0, hi181_0⟩ := at_L7 (Kd.N_reads' HO171.out).2.2 0 p181 q181; cases e181; obtain ⟨ce181, hce181, hMe181, hcc181⟩ := Kd.N_get HO171.out [] 0 p181 (by first | exact q181 | exact of_decide_eq_true (by first | (with_reducible assumption) | assumption) | (have e_ := (Kd.N_reads' HO171.out).1; omega)); obtain ⟨ua181_0, uc181_0, rfl, ul181_0, ge181_0⟩ := Kd.FK_slice_open hMe181; have hv181_0 := hcc181 0 _ rfl; rw [Nat.add_zero, show ((Kd.slice 4 Kd.bool)).sz = 1 from rfl, Nat.mul_one] at hv181_0; replace hv181_0 := Option.some.inj (hv181_0.symm.trans hx181_0); injection hv181_0 with hva_ hvn_ hvc_; rw [hva_] at ge181_0; rw [hvc_] at ul181_0; have HL181_0 := Aside0.mk (show Kd.V Kd.bool 4 _ w.heap.size _ _ (rd_L7 t169 0) from Kd.V_mk ul181_0 ge181_0); clear hva_ hvn_ hvc_ ge181_0 ul181_0; clear hcc181 hce181; have qi181 : (0 < t169.length) = True := eq_true (by omega); (try rw [show ((0 : Int)).toNat = 0 from rfl] at hx181_0); (try rw [Addr.add_zero'] at hx181_0); have HR181_0 := Aside0.mk hi181_0; have HC181_0 := Aside0.mk hl181_0; clear hi181_0 hl181_0; replace p181 := eq_true p181; replace q181 := eq_true q181; have p182 : 0 ≤ (0 : Int) := (by omega); have q182 : 0 < (t169.length : Int) := of_decide_eq_true (by first | (with_reducible assumption) | assumption); obtain ⟨ad182, A182_0, c182_0, e182, hx182_0, hl182_0, hi182_0⟩ := at_L7 (Kd.N_reads' HO171.out).2.2 0 p182 q182; obtain rfl : ad181 = ad182 := (by injection e182); obtain ⟨ce182, hce182, hMe182, hcc182⟩ := Kd.N_get HO171.out [] 0 p182 (by first | exact q182 | exact of_decide_eq_true (by first | (with_reducible assumption) | assumption) | (have e_ := (Kd.N_reads' HO171.out).1; omega)); obtain ⟨ua182_0, uc182_0, rfl, ul182_0, ge182_0⟩ := Kd.FK_slice_open hMe182; have hv182_0 := hcc182 0 _ rfl; rw [Nat.add_zero, show ((Kd.slice 4 Kd.bool)).sz = 1 from rfl, Nat.mul_one] at hv182_0; replace hv182_0 := Option.some.inj (hv182_0.symm.trans hx182_0); injection hv182_0 with hva_ hvn_ hvc_; rw [hva_] at ge182_0; rw [hvc_] at ul182_0; have HL182_0 := Aside0.mk (show Kd.V Kd.bool 4 _ w.heap.size _ _ (rd_L7 t169 0) from Kd.V_mk ul182_0 ge182_0); clear hva_ hvn_ hvc_ ge182_0 ul182_0; clear hcc182 hce182; have qi182 : (0 < t169.length) = True := eq_true (by omega); (try rw [show ((0 : Int)).toNat = 0 from rfl] at hx182_0); (try rw [Addr.add_zero'] at hx182_0); have HR182_0 := Aside0.mk hi182_0; have HC182_0 := Aside0.mk hl182_0; clear hi182_0 hl182_0; replace p182 := eq_true p182; replace q182 := eq_true q182; have ea_ := Option.some.inj (hx181_0.symm.trans hx182_0); injection ea_ with ea_ en_ ec_; subst ea_; subst ec_; clear en_; have p183 : 0 ≤ (1 : Int) := (by omega); have q183 : 1 < ((rd_L7 t169 0).length : Int) := of_decide_eq_true (by first | (with_reducible assumption) | assumption); obtain ⟨ad183, e183, hx183_0⟩ := Kd.at_bool (by repeat (first | (with_reducible exact HR182_0.out) | (with_reducible refine Kd.C_alloc ?_ _) | (with_reducible refine Kd.C_drewN ?_ _) | (with_reducible refine Kd.C_drew ?_) | exact HR182_0.out)) 1 p183 q183; (try rw [← Nbq30.out] at hx183_0); cases e183; (try simp only [show (1 : Int).toNat = 1 from rfl, Nat.reduceMul, Nat.reduceEqDiff, Go.Addr.add, ↓reduceIte] at hx183_0); have qi183 : (1 < (rd_L7 t169 0).length) = True := eq_true (by omega); (try rw [show ((1 : Int)).toNat = 1 from rfl] at hx183_0); replace p183 := eq_true p183; replace q183 := eq_true q183; have p184 : 0 ≤ (0 : Int) := (by omega); have q184 : 0 < (t169.length : Int) := of_decide_eq_true (by first | (with_reducible assumption) | assumption); obtain ⟨ad184, A184_0, c184_0, e184, hx184_0, hl184_0, hi184_0⟩ := at_L7 (Kd.N_reads' HO171.out).2.2 0 p184 q184; obtain rfl : ad181 = ad184 := (by injection e184); obtain ⟨ce184, hce184, hMe184, hcc184⟩ := Kd.N_get HO171.out [] 0 p184 (by first | exact q184 | exact of_decide_eq_true (by first | (with_reducible assumption) | assumption) | (have e_ := (Kd.N_reads' HO171.out).1; omega)); obtain ⟨ua184_0, uc184_0, rfl, ul184_0, ge184_0⟩ := Kd.FK_slice_open hMe184; have hv184_0 := hcc184 0 _ rfl; rw [Nat.add_zero, show ((Kd.slice 4 Kd.bool)).sz = 1 from rfl, Nat.mul_one] at hv184_0; replace hv184_0 := Option.some.inj (hv184_0.symm.trans hx184_0); injection hv184_0 with hva_ hvn_ hvc_; rw [hva_] at ge184_0; rw [hvc_] at ul184_0; have HL184_0 := Aside0.mk (show Kd.V Kd.bool 4 _ w.heap.size _ _ (rd_L7 t169 0) from Kd.V_mk ul184_0 ge184_0); clear hva_ hvn_ hvc_ ge184_0 ul184_0; clear hcc184 hce184; have qi184 : (0 < t169.length) = True := eq_true (by omega); (try rw [show ((0 : Int)).toNat = 0 from rfl] at hx184_0); (try rw [Addr.add_zero'] at hx184_0); have HR184_0 := Aside0.mk hi184_0; have HC184_0 := Aside0.mk hl184_0; clear hi184_0 hl184_0; replace p184 := eq_true p184; replace q184 := eq_true q184; have ea_ := Option.some.inj (hx181_0.symm.trans hx184_0); injection ea_ with ea_ en_ ec_; subst ea_; subst ec_; clear en_; have p185 : 0 ≤ (0 : Int) := (by omega); have q185 : 0 < ((rd_L7 t169 0).length : Int) := of_decide_eq_true (by first | (with_reducible assumption) | assumption); obtain ⟨ad185, e185, hx185_0⟩ := Kd.at_bool (by repeat (first | (with_reducible exact HR184_0.out) | (with_reducible refine Kd.C_alloc ?_ _) | (with_reducible refine Kd.C_drewN ?_ _) | (with_reducible refine Kd.C_drew ?_) | exact HR184_0.out)) 0 p185 q185; (try rw [← Nbq30.out] at hx185_0); cases e185; have qi185 : (0 < (rd_L7 t169 0).length) = True := eq_true (by omega); (try rw [show ((0 : Int)).toNat = 0 from rfl] at hx185_0); (try rw [Addr.add_zero'] at hx185_0); replace p185 := eq_true p185; replace q185 := eq_true q185))
                           go_ret
                           exact ⟨by first | rfl | (simp [errW_none, errW_some] <;> rfl) | (simp [*, errW_none, errW_some] <;> rfl), by repeat (first | (with_reducible first | exact HB.out | apply below_alloc | apply pw_below_drewN | apply below_drew1) | exact HB.out)⟩
                          ·rw [if_neg c32] at H
                           exact absurd H (by simp)
                         ·replace c31 := Bool.eq_false_iff.mpr c31
                          subst c31
                          have H1 : (none) = some r := by rw [if_neg (show ¬ (false = true) by decide)] at H; exact H
                          clear H
                          have H := H1
                          clear H1
                          exact absurd H (by simp)
                        ·rw [if_neg c29] at H
                         exact absurd H (by simp)
                       ·rw [if_neg c28] at H
                        exact absurd H (by simp)
                      ·rw [if_neg c27] at H
                       exact absurd H (by simp)
                     ·rw [if_neg c26] at H
                      exact absurd H (by simp)
                    ·rw [if_neg c25] at H
                     exact absurd H (by simp)
                   ·rw [if_neg c23] at H
                    exact absurd H (by simp)
                  ·rw [if_neg c21] at H
                   exact absurd H (by simp)
                 ·rw [if_neg c20] at H
                  exact absurd H (by simp)
                ·rw [if_neg c19] at H
                 exact absurd H (by simp)
               ·rw [if_neg c18] at H
                exact absurd H (by simp)
              ·rw [if_neg c17] at H
               exact absurd H (by simp)
             ·rw [if_neg c16] at H
              exact absurd H (by simp)
            ·rw [if_neg c15] at H
             exact absurd H (by simp)
           ·rw [if_neg c14] at H
            exact absurd H (by simp)
          ·rw [if_neg c13] at H
           exact absurd H (by simp)
         ·rw [if_neg c12] at H
          exact absurd H (by simp)
        ·rw [if_neg c11] at H
         exact absurd H (by simp)
       ·rw [if_neg c10] at H
        exact absurd H (by simp)
      ·rw [if_neg c9] at H
       exact absurd H (by simp)
     ·rw [if_neg c8] at H
      exact absurd H (by simp)
    ·rw [if_neg c7] at H
     exact absurd H (by simp)
   ·rw [if_neg c6] at H
    exact absurd H (by simp)
  ·rw [if_neg c5] at H
   exact absurd H (by simp)
 ·rw [if_neg c4] at H
  exact absurd H (by simp)

/-! ### hyphenlaw4_within: function 20 -/
def hyphenlaw4_within.f (a0 : Int) (a1 : Int) : Option (Int) := if a1 = 0 then (none) else (if (Int.tmod a0 a1) < 0 then (some (wrap64 ((Int.tmod a0 a1) + a1))) else (some (Int.tmod a0 a1)))
set_option maxHeartbeats 8000000 in
set_option maxRecDepth 100000 in
theorem hyphenlaw4_within.calls (a0 : Int) (a1 : Int) (r : Int) (w : World) (h : hyphenlaw4_within.f a0 a1 = some r) :
  Calls Try.prog 20 #[.int .i64 a0, .int .i64 a1] w fun e w' => e = .returned (.int .i64 r) ∧ Drawn0 w w' := by
 have H : (if a1 = 0 then (none) else (if (Int.tmod a0 a1) < 0 then (some (wrap64 ((Int.tmod a0 a1) + a1))) else (some (Int.tmod a0 a1)))) = some r := h
 clear h
 by_cases c3 : a1 = 0
 ·rw [if_pos c3] at H
  exact absurd H (by simp)
 ·rw [if_neg c3] at H
  have c3b0 : (a1 == 0) = false := beq_eq_false_iff_ne.mpr c3
  have c3b1 : (a1 != 0) = true := bne_iff_ne.mpr c3
  by_cases c4 : (Int.tmod a0 a1) < 0
  ·rw [if_pos c4] at H
   have c4b0 : decide ((Int.tmod a0 a1) < 0) = true := decide_eq_true c4
   clear c4
   obtain rfl := Option.some.inj H
   go_enter Try.func20, Try.ntmps20
   go_wp2
   go_ret
   exact ⟨by first | rfl | (simp; done) | (simp [*]; done), by repeat (first | exact Drawn0.refl _ | apply Drawn0.step)⟩
  ·rw [if_neg c4] at H
   have c4b0 : decide ((Int.tmod a0 a1) < 0) = false := decide_eq_false c4
   clear c4
   obtain rfl := Option.some.inj H
   go_enter Try.func20, Try.ntmps20
   go_wp2
   go_ret
   exact ⟨by first | rfl | (simp; done) | (simp [*]; done), by repeat (first | exact Drawn0.refl _ | apply Drawn0.step)⟩

end Go.Proofs.Yteogcjckhoakbaa.P
