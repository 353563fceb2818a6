-- Written by wip/xprint.py (a program of this repo) out of the translation; Lean checks it.
import Derived.Test.YtdmmofhmhpnjpaaPx0
import Derived.Test.YtdmmofhmhpnjpaaPx4
import Derived.Test.YtdmmofhmhpnjpaaPx5
import Derived.Test.YtdmmofhmhpnjpaaPx8
namespace Go.Proofs.Ytdmmofhmhpnjpaa.P
open Go.RowKit Go.Proofs.YtdmmofhmhpnjpaaW.PrintWords Go.Proofs.YtdmmofhmhpnjpaaW.PrintLast Go.Proofs.YtdmmofhmhpnjpaaW.PrintMore
attribute [local go_sem] max2_int min2_int max_two min_two max_three min_three max_four min_four   -- for this text's walks alone
attribute [local go_sem ↓ high] Go.Proofs.YtdmmofhmhpnjpaaX.isSome_setCell
set_option linter.unusedVariables false
set_option linter.unusedSimpArgs false

/-! ### hyphenlaw3_SetRight: function 6 -/
def hyphenlaw3_SetRight.j0 : Nat → Int → Int → List (S27) → Option (Bool)
  | 0, _, _, _ => none
  | k + 1, x4, x5, x13 => (set_Right.f k x13).bind fun t343 => ((hyphenref3_Right.f k x13).bind fun t344 => (if (t343 == t344) = true then ((set_Right.f k (([(⟨x4, x5⟩ : S27)] : List (S27)))).bind fun t348 => ((hyphenref3_Right.f k (([(⟨x4, x5⟩ : S27)] : List (S27)))).bind fun t352 => (some (t348 == t352)))) else (none)))
def hyphenlaw3_SetRight.f (k : Nat) (l0 : List Int) (a1 : Int) (a2 : Int) (a3 : Int) (a4 : Int) (a5 : Int) : Option (Bool) := (hyphenlaw3_known.f k).bind fun t311 => (if t311 = true then ((hyphenlaw3_Make.f k l0).bind fun t312 => ((set_Right.f k t312).bind fun t315 => (if t315 = true then (if (t312.length : Int) > 0 then ((hyphenlaw3_within.f a1 (t312.length : Int)).bind fun t316 => ((hyphenlaw3_within.f a2 4).bind fun t317 => (if t317 = 0 then (if 0 ≤ t316 then (if t316 < (t312.length : Int) then ((some (([wrap64 (((rd_T27 t312 t316).f0) - 1), (rd_T27 t312 t316).f1, wrap64 (((rd_T27 t312 t316).f1) + 1), (-1), a3] : List Int) : List Int)).bind fun y321 => ((hyphenlaw3_within.f a3 5).bind fun t324 => (if 0 ≤ t324 then (if t324 < (y321.length : Int) then (hyphenlaw3_SetRight.j0 k a4 a5 (t312.set (t316 : Int).toNat (⟨rd y321 t324, (rd_T27 t312 t316).f1⟩ : S27))) else (none)) else (none)))) else (none)) else (none)) else (if t317 = 1 then (if 0 ≤ t316 then (if t316 < (t312.length : Int) then ((some (([wrap64 (((rd_T27 t312 t316).f1) + 1), (rd_T27 t312 t316).f0, wrap64 (((rd_T27 t312 t316).f0) - 1), 1114112, a3] : List Int) : List Int)).bind fun y330 => ((hyphenlaw3_within.f a3 5).bind fun t333 => (if 0 ≤ t333 then (if t333 < (y330.length : Int) then (hyphenlaw3_SetRight.j0 k a4 a5 (t312.set (t316 : Int).toNat (⟨(rd_T27 t312 t316).f0, rd y330 t333⟩ : S27))) else (none)) else (none)))) else (none)) else (none)) else (if t317 = 2 then (if 0 < (t312.length : Int) then (if 0 ≤ t316 then (if t316 < (t312.length : Int) then (hyphenlaw3_SetRight.j0 k a4 a5 ((t312.set (t316 : Int).toNat (⟨(rd_T27 t312 0).f0, (rd_T27 t312 0).f1⟩ : S27)).set (0 : Int).toNat (⟨(rd_T27 t312 t316).f0, (rd_T27 t312 t316).f1⟩ : S27))) else (none)) else (none)) else (none)) else (if t317 = 3 then (if t312.length < 8796093022208 then (hyphenlaw3_SetRight.j0 k a4 a5 (t312 ++ [(⟨a4, a5⟩ : S27)])) else (none)) else (hyphenlaw3_SetRight.j0 k a4 a5 t312))))))) else (hyphenlaw3_SetRight.j0 k a4 a5 t312)) else (none)))) else (none))
theorem hyphenlaw3_SetRight.mono_l : ∀ k, (∀ y0 y1 y2, LeO (hyphenlaw3_SetRight.j0 k y0 y1 y2) (hyphenlaw3_SetRight.j0 (k + 1) y0 y1 y2))
  | 0 => fun _ _ _ r h => by simp [hyphenlaw3_SetRight.j0] at h
  | k + 1 => by
    have ih0 := hyphenlaw3_SetRight.mono_l k
    · intro y0 y1 y2
      unfold hyphenlaw3_SetRight.j0
      repeat' first
      | (with_reducible exact ih0 _ _ _)
      | (with_reducible exact hyphenlaw3_Make.mono _ _)
      | (with_reducible exact hyphenlaw3_known.mono _)
      | (with_reducible exact hyphenref3_Right.mono _ _)
      | (with_reducible exact set_Right.mono _ _)
      | (with_reducible exact LeO.refl _)
      | (with_reducible exact LeO.none _)
      | (with_reducible refine LeO.ite ?_ ?_)
      | (with_reducible refine LeO.bind ?_ (fun _ => ?_))
      | exact ih0 _ _ _
      | exact hyphenlaw3_Make.mono _ _
      | exact hyphenlaw3_known.mono _
      | exact hyphenref3_Right.mono _ _
      | exact set_Right.mono _ _
      | exact LeO.none _
      | refine LeO.ite ?_ ?_
      | refine LeO.bind ?_ (fun _ => ?_)
theorem hyphenlaw3_SetRight.mono : ∀ a0 a1 a2 a3 a4 a5 k, LeO (hyphenlaw3_SetRight.f k a0 a1 a2 a3 a4 a5) (hyphenlaw3_SetRight.f (k + 1) a0 a1 a2 a3 a4 a5) := by
  intro a0 a1 a2 a3 a4 a5 k
  have ih0 := hyphenlaw3_SetRight.mono_l k
  unfold hyphenlaw3_SetRight.f
  repeat' first
      | (with_reducible exact ih0 _ _ _)
      | (with_reducible exact hyphenlaw3_Make.mono _ _)
      | (with_reducible exact hyphenlaw3_known.mono _)
      | (with_reducible exact hyphenref3_Right.mono _ _)
      | (with_reducible exact set_Right.mono _ _)
      | (with_reducible exact LeO.refl _)
      | (with_reducible exact LeO.none _)
      | (with_reducible refine LeO.ite ?_ ?_)
      | (with_reducible refine LeO.bind ?_ (fun _ => ?_))
      | exact ih0 _ _ _
      | exact hyphenlaw3_Make.mono _ _
      | exact hyphenlaw3_known.mono _
      | exact hyphenref3_Right.mono _ _
      | exact set_Right.mono _ _
      | exact LeO.none _
      | refine LeO.ite ?_ ?_
      | refine LeO.bind ?_ (fun _ => ?_)
def hyphenlaw3_SetRight.T10 : Bool × List (List Nat × List Nat) := (true, [([], []), ([], []), ([], []), ([], []), ([2, 3], [2, 3]), ([4], [4]), ([5], [5]), ([6], [6]), ([], []), ([], []), ([8, 9], [8, 9]), ([10], [10]), ([11], [11]), ([], []), ([], []), ([13, 14], [13, 14]), ([15], [15]), ([16], [16]), ([17], [17]), ([], []), ([7, 12, 18, 19], [7, 12, 18, 19]), ([], []), ([21], [21]), ([20, 22], [20, 22]), ([23], [23]), ([0, 1, 0, 1, 2, 3, 4, 5, 6, 7, 8, 9, 10, 11, 12, 13, 14, 15, 16, 17, 18, 19, 20, 21, 22, 23, 24], [0, 1]), ([25, 0, 1, 2, 3, 4, 5, 6, 7, 8, 9, 10, 11, 12, 13, 14, 15, 16, 17, 18, 19, 20, 21, 22, 23, 24], [25]), ([26, 24, 22, 0, 1, 2, 3, 4, 5, 6, 7, 8, 9, 10, 11, 12, 13, 14, 15, 16, 17, 18, 19, 20, 21, 22, 23, 24], [24, 26])])
def hyphenlaw3_SetRight.B10 : List Nat := [0, 0, 0, 0, 12, 28, 60, 124, 0, 0, 768, 1792, 3840, 0, 0, 24576, 57344, 122880, 253952, 0, 1048572, 0, 2097152, 8388604, 16777212, 33554431, 67108863, 134217727]
theorem hyphenlaw3_SetRight.tab10 : rtab .any (opsOf Try.f6 10) = hyphenlaw3_SetRight.T10 := by kernel_rfl
theorem hyphenlaw3_SetRight.bits10 : waitsOk hyphenlaw3_SetRight.T10.2 hyphenlaw3_SetRight.B10 = true := by kernel_rfl
def hyphenlaw3_SetRight.T12 : Bool × List (List Nat × List Nat) := (true, [([], []), ([], []), ([], []), ([], []), ([2, 3], [2, 3]), ([4], [4]), ([5], [5]), ([6], [6]), ([], []), ([], []), ([8, 9], [8, 9]), ([10], [10]), ([11], [11]), ([], []), ([], []), ([13, 14], [13, 14]), ([15], [15]), ([16], [16]), ([17], [17]), ([], []), ([7, 12, 18, 19], [7, 12, 18, 19]), ([], []), ([21], [21]), ([20, 22], [20, 22]), ([23], [23]), ([0, 1, 0, 1, 2, 3, 4, 5, 6, 7, 8, 9, 10, 11, 12, 13, 14, 15, 16, 17, 18, 19, 20, 21, 22, 23, 24], [0, 1]), ([25, 0, 1, 2, 3, 4, 5, 6, 7, 8, 9, 10, 11, 12, 13, 14, 15, 16, 17, 18, 19, 20, 21, 22, 23, 24], [25]), ([26, 24, 22, 0, 1, 2, 3, 4, 5, 6, 7, 8, 9, 10, 11, 12, 13, 14, 15, 16, 17, 18, 19, 20, 21, 22, 23, 24], [24, 26])])
def hyphenlaw3_SetRight.B12 : List Nat := [0, 0, 0, 0, 12, 28, 60, 124, 0, 0, 768, 1792, 3840, 0, 0, 24576, 57344, 122880, 253952, 0, 1048572, 0, 2097152, 8388604, 16777212, 33554431, 67108863, 134217727]
theorem hyphenlaw3_SetRight.tab12 : rtab .any (opsOf Try.f6 12) = hyphenlaw3_SetRight.T12 := by kernel_rfl
theorem hyphenlaw3_SetRight.bits12 : waitsOk hyphenlaw3_SetRight.T12.2 hyphenlaw3_SetRight.B12 = true := by kernel_rfl
def hyphenlaw3_SetRight.T14 : Bool × List (List Nat × List Nat) := (true, [([], []), ([], []), ([], []), ([], []), ([3], [3]), ([4], [4]), ([], []), ([], []), ([6, 7], [6, 7]), ([8], [8]), ([0, 1, 0, 1, 3, 4, 5, 9], [0, 1]), ([10, 5, 0, 1, 3, 4, 5, 9], [5, 10]), ([2, 0, 1, 2, 3, 4, 5, 6, 7, 8, 9, 10, 11], [2]), ([12, 9, 11, 0, 1, 2, 3, 4, 5, 6, 7, 8, 9, 10, 11], [9, 12])])
def hyphenlaw3_SetRight.B14 : List Nat := [0, 0, 0, 0, 8, 24, 0, 0, 192, 448, 1019, 2043, 4095, 8191]
theorem hyphenlaw3_SetRight.tab14 : rtab .any (opsOf Try.f6 14) = hyphenlaw3_SetRight.T14 := by kernel_rfl
theorem hyphenlaw3_SetRight.bits14 : waitsOk hyphenlaw3_SetRight.T14.2 hyphenlaw3_SetRight.B14 = true := by kernel_rfl
set_option maxHeartbeats 8000000 in
set_option maxRecDepth 100000 in
theorem hyphenlaw3_SetRight.calls (k : Nat) (A0 : Option Addr) (c0 : Nat) (l0 : List Int) (a1 : Int) (a2 : Int) (a3 : Int) (a4 : Int) (a5 : Int) (r : Bool) (w : World) (hr0 : Kd.C (Kd.int .i64) w A0 l0.length l0) (hc0 : l0.length ≤ c0) (h : hyphenlaw3_SetRight.f k l0 a1 a2 a3 a4 a5 = some r) :
    Calls Try.prog 6 #[.slice A0 l0.length c0, .int .i64 a1, .int .i64 a2, .int .i64 a3, .int .i64 a4, .int .i64 a5] w fun e w' => e = .returned (.bool r) ∧ Below w.heap.size w w' := by
  have hu27 := Try.underlying27
  have HR0 := Aside0.mk hr0
  have HC0 := Aside0.mk hc0
  clear hr0 hc0
  have HB := Aside0.mk (Below.refl w.heap.size w)
  have H : ((hyphenlaw3_known.f k).bind fun t311 => (if t311 = true then ((hyphenlaw3_Make.f k l0).bind fun t312 => ((set_Right.f k t312).bind fun t315 => (if t315 = true then (if (t312.length : Int) > 0 then ((hyphenlaw3_within.f a1 (t312.length : Int)).bind fun t316 => ((hyphenlaw3_within.f a2 4).bind fun t317 => (if t317 = 0 then (if 0 ≤ t316 then (if t316 < (t312.length : Int) then ((some (([wrap64 (((rd_T27 t312 t316).f0) - 1), (rd_T27 t312 t316).f1, wrap64 (((rd_T27 t312 t316).f1) + 1), (-1), a3] : List Int) : List Int)).bind fun y321 => ((hyphenlaw3_within.f a3 5).bind fun t324 => (if 0 ≤ t324 then (if t324 < (y321.length : Int) then (hyphenlaw3_SetRight.j0 k a4 a5 (t312.set (t316 : Int).toNat (⟨rd y321 t324, (rd_T27 t312 t316).f1⟩ : S27))) else (none)) else (none)))) else (none)) else (none)) else (if t317 = 1 then (if 0 ≤ t316 then (if t316 < (t312.length : Int) then ((some (([wrap64 (((rd_T27 t312 t316).f1) + 1), (rd_T27 t312 t316).f0, wrap64 (((rd_T27 t312 t316).f0) - 1), 1114112, a3] : List Int) : List Int)).bind fun y330 => ((hyphenlaw3_within.f a3 5).bind fun t333 => (if 0 ≤ t333 then (if t333 < (y330.length : Int) then (hyphenlaw3_SetRight.j0 k a4 a5 (t312.set (t316 : Int).toNat (⟨(rd_T27 t312 t316).f0, rd y330 t333⟩ : S27))) else (none)) else (none)))) else (none)) else (none)) else (if t317 = 2 then (if 0 < (t312.length : Int) then (if 0 ≤ t316 then (if t316 < (t312.length : Int) then (hyphenlaw3_SetRight.j0 k a4 a5 ((t312.set (t316 : Int).toNat (⟨(rd_T27 t312 0).f0, (rd_T27 t312 0).f1⟩ : S27)).set (0 : Int).toNat (⟨(rd_T27 t312 t316).f0, (rd_T27 t312 t316).f1⟩ : S27))) else (none)) else (none)) else (none)) else (if t317 = 3 then (if t312.length < 8796093022208 then (hyphenlaw3_SetRight.j0 k a4 a5 (t312 ++ [(⟨a4, a5⟩ : S27)])) else (none)) else (hyphenlaw3_SetRight.j0 k a4 a5 t312))))))) else (hyphenlaw3_SetRight.j0 k a4 a5 t312)) else (none)))) else (none))) = some r := h
  clear h
  replace H := Option.bind_eq_some_iff.mp H
  obtain ⟨t311, A70, H⟩ := H
  replace H : (if t311 = true then ((hyphenlaw3_Make.f k l0).bind fun t312 => ((set_Right.f k t312).bind fun t315 => (if t315 = true then (if (t312.length : Int) > 0 then ((hyphenlaw3_within.f a1 (t312.length : Int)).bind fun t316 => ((hyphenlaw3_within.f a2 4).bind fun t317 => (if t317 = 0 then (if 0 ≤ t316 then (if t316 < (t312.length : Int) then ((some (([wrap64 (((rd_T27 t312 t316).f0) - 1), (rd_T27 t312 t316).f1, wrap64 (((rd_T27 t312 t316).f1) + 1), (-1), a3] : List Int) : List Int)).bind fun y321 => ((hyphenlaw3_within.f a3 5).bind fun t324 => (if 0 ≤ t324 then (if t324 < (y321.length : Int) then (hyphenlaw3_SetRight.j0 k a4 a5 (t312.set (t316 : Int).toNat (⟨rd y321 t324, (rd_T27 t312 t316).f1⟩ : S27))) else (none)) else (none)))) else (none)) else (none)) else (if t317 = 1 then (if 0 ≤ t316 then (if t316 < (t312.length : Int) then ((some (([wrap64 (((rd_T27 t312 t316).f1) + 1), (rd_T27 t312 t316).f0, wrap64 (((rd_T27 t312 t316).f0) - 1), 1114112, a3] : List Int) : List Int)).bind fun y330 => ((hyphenlaw3_within.f a3 5).bind fun t333 => (if 0 ≤ t333 then (if t333 < (y330.length : Int) then (hyphenlaw3_SetRight.j0 k a4 a5 (t312.set (t316 : Int).toNat (⟨(rd_T27 t312 t316).f0, rd y330 t333⟩ : S27))) else (none)) else (none)))) else (none)) else (none)) else (if t317 = 2 then (if 0 < (t312.length : Int) then (if 0 ≤ t316 then (if t316 < (t312.length : Int) then (hyphenlaw3_SetRight.j0 k a4 a5 ((t312.set (t316 : Int).toNat (⟨(rd_T27 t312 0).f0, (rd_T27 t312 0).f1⟩ : S27)).set (0 : Int).toNat (⟨(rd_T27 t312 t316).f0, (rd_T27 t312 t316).f1⟩ : S27))) else (none)) else (none)) else (none)) else (if t317 = 3 then (if t312.length < 8796093022208 then (hyphenlaw3_SetRight.j0 k a4 a5 (t312 ++ [(⟨a4, a5⟩ : S27)])) else (none)) else (hyphenlaw3_SetRight.j0 k a4 a5 t312))))))) else (hyphenlaw3_SetRight.j0 k a4 a5 t312)) else (none)))) else (none)) = some r := H
  have A7 := Aside0.mk A70
  clear A70
  by_cases c8 : t311 = true
  · subst c8
    have H1 : ((hyphenlaw3_Make.f k l0).bind fun t312 => ((set_Right.f k t312).bind fun t315 => (if t315 = true then (if (t312.length : Int) > 0 then ((hyphenlaw3_within.f a1 (t312.length : Int)).bind fun t316 => ((hyphenlaw3_within.f a2 4).bind fun t317 => (if t317 = 0 then (if 0 ≤ t316 then (if t316 < (t312.length : Int) then ((some (([wrap64 (((rd_T27 t312 t316).f0) - 1), (rd_T27 t312 t316).f1, wrap64 (((rd_T27 t312 t316).f1) + 1), (-1), a3] : List Int) : List Int)).bind fun y321 => ((hyphenlaw3_within.f a3 5).bind fun t324 => (if 0 ≤ t324 then (if t324 < (y321.length : Int) then (hyphenlaw3_SetRight.j0 k a4 a5 (t312.set (t316 : Int).toNat (⟨rd y321 t324, (rd_T27 t312 t316).f1⟩ : S27))) else (none)) else (none)))) else (none)) else (none)) else (if t317 = 1 then (if 0 ≤ t316 then (if t316 < (t312.length : Int) then ((some (([wrap64 (((rd_T27 t312 t316).f1) + 1), (rd_T27 t312 t316).f0, wrap64 (((rd_T27 t312 t316).f0) - 1), 1114112, a3] : List Int) : List Int)).bind fun y330 => ((hyphenlaw3_within.f a3 5).bind fun t333 => (if 0 ≤ t333 then (if t333 < (y330.length : Int) then (hyphenlaw3_SetRight.j0 k a4 a5 (t312.set (t316 : Int).toNat (⟨(rd_T27 t312 t316).f0, rd y330 t333⟩ : S27))) else (none)) else (none)))) else (none)) else (none)) else (if t317 = 2 then (if 0 < (t312.length : Int) then (if 0 ≤ t316 then (if t316 < (t312.length : Int) then (hyphenlaw3_SetRight.j0 k a4 a5 ((t312.set (t316 : Int).toNat (⟨(rd_T27 t312 0).f0, (rd_T27 t312 0).f1⟩ : S27)).set (0 : Int).toNat (⟨(rd_T27 t312 t316).f0, (rd_T27 t312 t316).f1⟩ : S27))) else (none)) else (none)) else (none)) else (if t317 = 3 then (if t312.length < 8796093022208 then (hyphenlaw3_SetRight.j0 k a4 a5 (t312 ++ [(⟨a4, a5⟩ : S27)])) else (none)) else (hyphenlaw3_SetRight.j0 k a4 a5 t312))))))) else (hyphenlaw3_SetRight.j0 k a4 a5 t312)) else (none)))) = some r := by rw [if_pos rfl] at H; exact H
    clear H
    have H := H1
    clear H1
    replace H := Option.bind_eq_some_iff.mp H
    obtain ⟨t312, A90, H⟩ := H
    replace H : ((set_Right.f k t312).bind fun t315 => (if t315 = true then (if (t312.length : Int) > 0 then ((hyphenlaw3_within.f a1 (t312.length : Int)).bind fun t316 => ((hyphenlaw3_within.f a2 4).bind fun t317 => (if t317 = 0 then (if 0 ≤ t316 then (if t316 < (t312.length : Int) then ((some (([wrap64 (((rd_T27 t312 t316).f0) - 1), (rd_T27 t312 t316).f1, wrap64 (((rd_T27 t312 t316).f1) + 1), (-1), a3] : List Int) : List Int)).bind fun y321 => ((hyphenlaw3_within.f a3 5).bind fun t324 => (if 0 ≤ t324 then (if t324 < (y321.length : Int) then (hyphenlaw3_SetRight.j0 k a4 a5 (t312.set (t316 : Int).toNat (⟨rd y321 t324, (rd_T27 t312 t316).f1⟩ : S27))) else (none)) else (none)))) else (none)) else (none)) else (if t317 = 1 then (if 0 ≤ t316 then (if t316 < (t312.length : Int) then ((some (([wrap64 (((rd_T27 t312 t316).f1) + 1), (rd_T27 t312 t316).f0, wrap64 (((rd_T27 t312 t316).f0) - 1), 1114112, a3] : List Int) : List Int)).bind fun y330 => ((hyphenlaw3_within.f a3 5).bind fun t333 => (if 0 ≤ t333 then (if t333 < (y330.length : Int) then (hyphenlaw3_SetRight.j0 k a4 a5 (t312.set (t316 : Int).toNat (⟨(rd_T27 t312 t316).f0, rd y330 t333⟩ : S27))) else (none)) else (none)))) else (none)) else (none)) else (if t317 = 2 then (if 0 < (t312.length : Int) then (if 0 ≤ t316 then (if t316 < (t312.length : Int) then (hyphenlaw3_SetRight.j0 k a4 a5 ((t312.set (t316 : Int).toNat (⟨(rd_T27 t312 0).f0, (rd_T27 t312 0).f1⟩ : S27)).set (0 : Int).toNat (⟨(rd_T27 t312 t316).f0, (rd_T27 t312 t316).f1⟩ : S27))) else (none)) else (none)) else (none)) else (if t317 = 3 then (if t312.length < 8796093022208 then (hyphenlaw3_SetRight.j0 k a4 a5 (t312 ++ [(⟨a4, a5⟩ : S27)])) else (none)) else (hyphenlaw3_SetRight.j0 k a4 a5 t312))))))) else (hyphenlaw3_SetRight.j0 k a4 a5 t312)) else (none))) = some r := H
    have A9 := Aside0.mk A90
    clear A90
    replace H := Option.bind_eq_some_iff.mp H
    obtain ⟨t315, A100, H⟩ := H
    replace H : (if t315 = true then (if (t312.length : Int) > 0 then ((hyphenlaw3_within.f a1 (t312.length : Int)).bind fun t316 => ((hyphenlaw3_within.f a2 4).bind fun t317 => (if t317 = 0 then (if 0 ≤ t316 then (if t316 < (t312.length : Int) then ((some (([wrap64 (((rd_T27 t312 t316).f0) - 1), (rd_T27 t312 t316).f1, wrap64 (((rd_T27 t312 t316).f1) + 1), (-1), a3] : List Int) : List Int)).bind fun y321 => ((hyphenlaw3_within.f a3 5).bind fun t324 => (if 0 ≤ t324 then (if t324 < (y321.length : Int) then (hyphenlaw3_SetRight.j0 k a4 a5 (t312.set (t316 : Int).toNat (⟨rd y321 t324, (rd_T27 t312 t316).f1⟩ : S27))) else (none)) else (none)))) else (none)) else (none)) else (if t317 = 1 then (if 0 ≤ t316 then (if t316 < (t312.length : Int) then ((some (([wrap64 (((rd_T27 t312 t316).f1) + 1), (rd_T27 t312 t316).f0, wrap64 (((rd_T27 t312 t316).f0) - 1), 1114112, a3] : List Int) : List Int)).bind fun y330 => ((hyphenlaw3_within.f a3 5).bind fun t333 => (if 0 ≤ t333 then (if t333 < (y330.length : Int) then (hyphenlaw3_SetRight.j0 k a4 a5 (t312.set (t316 : Int).toNat (⟨(rd_T27 t312 t316).f0, rd y330 t333⟩ : S27))) else (none)) else (none)))) else (none)) else (none)) else (if t317 = 2 then (if 0 < (t312.length : Int) then (if 0 ≤ t316 then (if t316 < (t312.length : Int) then (hyphenlaw3_SetRight.j0 k a4 a5 ((t312.set (t316 : Int).toNat (⟨(rd_T27 t312 0).f0, (rd_T27 t312 0).f1⟩ : S27)).set (0 : Int).toNat (⟨(rd_T27 t312 t316).f0, (rd_T27 t312 t316).f1⟩ : S27))) else (none)) else (none)) else (none)) else (if t317 = 3 then (if t312.length < 8796093022208 then (hyphenlaw3_SetRight.j0 k a4 a5 (t312 ++ [(⟨a4, a5⟩ : S27)])) else (none)) else (hyphenlaw3_SetRight.j0 k a4 a5 t312))))))) else (hyphenlaw3_SetRight.j0 k a4 a5 t312)) else (none)) = some r := H
    have A10 := Aside0.mk A100
    clear A100
    by_cases c11 : t315 = true
    · subst c11
      have H1 : (if (t312.length : Int) > 0 then ((hyphenlaw3_within.f a1 (t312.length : Int)).bind fun t316 => ((hyphenlaw3_within.f a2 4).bind fun t317 => (if t317 = 0 then (if 0 ≤ t316 then (if t316 < (t312.length : Int) then ((some (([wrap64 (((rd_T27 t312 t316).f0) - 1), (rd_T27 t312 t316).f1, wrap64 (((rd_T27 t312 t316).f1) + 1), (-1), a3] : List Int) : List Int)).bind fun y321 => ((hyphenlaw3_within.f a3 5).bind fun t324 => (if 0 ≤ t324 then (if t324 < (y321.length : Int) then (hyphenlaw3_SetRight.j0 k a4 a5 (t312.set (t316 : Int).toNat (⟨rd y321 t324, (rd_T27 t312 t316).f1⟩ : S27))) else (none)) else (none)))) else (none)) else (none)) else (if t317 = 1 then (if 0 ≤ t316 then (if t316 < (t312.length : Int) then ((some (([wrap64 (((rd_T27 t312 t316).f1) + 1), (rd_T27 t312 t316).f0, wrap64 (((rd_T27 t312 t316).f0) - 1), 1114112, a3] : List Int) : List Int)).bind fun y330 => ((hyphenlaw3_within.f a3 5).bind fun t333 => (if 0 ≤ t333 then (if t333 < (y330.length : Int) then (hyphenlaw3_SetRight.j0 k a4 a5 (t312.set (t316 : Int).toNat (⟨(rd_T27 t312 t316).f0, rd y330 t333⟩ : S27))) else (none)) else (none)))) else (none)) else (none)) else (if t317 = 2 then (if 0 < (t312.length : Int) then (if 0 ≤ t316 then (if t316 < (t312.length : Int) then (hyphenlaw3_SetRight.j0 k a4 a5 ((t312.set (t316 : Int).toNat (⟨(rd_T27 t312 0).f0, (rd_T27 t312 0).f1⟩ : S27)).set (0 : Int).toNat (⟨(rd_T27 t312 t316).f0, (rd_T27 t312 t316).f1⟩ : S27))) else (none)) else (none)) else (none)) else (if t317 = 3 then (if t312.length < 8796093022208 then (hyphenlaw3_SetRight.j0 k a4 a5 (t312 ++ [(⟨a4, a5⟩ : S27)])) else (none)) else (hyphenlaw3_SetRight.j0 k a4 a5 t312))))))) else (hyphenlaw3_SetRight.j0 k a4 a5 t312)) = some r := by rw [if_pos rfl] at H; exact H
      clear H
      have H := H1
      clear H1
      have HC12 := Aside0.mk H
      clear H
      go_enter Try.func6, Try.ntmps6
      go_upto_if 24 with (first | ((with_reducible refine gate_callee (f := 12) rfl ?_); refine goesL_ (some 15) rfl rfl Try.func12 (by kernel_rfl) rfl #[] rfl (by (try simp only [List.map_toArray, List.map_cons, List.map_nil]); first | done | rfl | (simp only [List.length_drop, List.length_take]; rfl)) ?_; (with_reducible refine (hyphenlaw3_known.calls k  true _ A7.out).mono ?_); rintro e w13 ⟨rfl, hb⟩; refine ⟨_, rfl, ?_⟩; have n0_ := Aside0.mk (below_step (by repeat (first | (with_reducible first | exact HB.out | apply below_alloc | apply pw_below_drewN | apply below_drew1) | exact HB.out)) hb); clear HB; have HB := n0_; clear n0_; (try clear hb); (try clear hb2); (try clear hk); (try clear hi)) | ((with_reducible refine gate_callee (f := 20) rfl ?_); refine goesL_ (some 18) rfl rfl Try.func20 (by kernel_rfl) rfl #[.slice A0 l0.length c0] rfl (by (try simp only [List.map_toArray, List.map_cons, List.map_nil]); first | done | rfl | (simp only [List.length_drop, List.length_take]; rfl)) ?_; (with_reducible refine (hyphenlaw3_Make.calls k _ _ l0 t312 _ ?side1 ?side2 A9.out).mono ?_); (case side1 => repeat (first | exact (Kd.C_below HR0.out HB.out) | (with_reducible refine Kd.C_alloc ?_ _) | (with_reducible refine Kd.C_drewN ?_ _) | (with_reducible refine Kd.C_drew ?_))); (case side2 => exact HC0.out); rintro e w14 ⟨v313, rfl, ho0, hb⟩; refine ⟨_, rfl, ?_⟩; have n0_ := Aside0.mk (Kd.R_lower ho0 (below_size (by repeat (first | (with_reducible first | exact HB.out | apply below_alloc | apply pw_below_drewN | apply below_drew1) | exact HB.out)))); have n1_ := Aside0.mk (below_step (by repeat (first | (with_reducible first | exact HB.out | apply below_alloc | apply pw_below_drewN | apply below_drew1) | exact HB.out)) hb); clear HB; have HO314 := n0_; have HB := n1_; clear n0_ n1_; (try clear hb); (try clear hb2); (try clear hk); (try clear hi); (try clear ho0); obtain ⟨Ao15, co15, eo15⟩ := Kd.R_slice HO314.out; subst eo15) | ((with_reducible refine gate_callee (f := 17) rfl ?_); refine goesL_ (some 20) rfl rfl Try.func17 (by kernel_rfl) rfl #[.slice Ao15 t312.length co15] rfl (by (try simp only [List.map_toArray, List.map_cons, List.map_nil]); first | done | rfl | (simp only [List.length_drop, List.length_take]; rfl)) ?_; (with_reducible refine (set_Right.calls k _ _ t312 true _ ?side1 ?side2 A10.out).mono ?_); (case side1 => repeat (first | exact (Kd.R_reads' HO314.out).2.2 | (with_reducible refine Kd.C_alloc ?_ _) | (with_reducible refine Kd.C_drewN ?_ _) | (with_reducible refine Kd.C_drew ?_))); (case side2 => exact (Kd.R_reads' HO314.out).2.1); rintro e w16 ⟨rfl, hb⟩; refine ⟨_, rfl, ?_⟩; have n0_ := Aside0.mk (Kd.R_below (by (with_reducible repeat (first | apply Kd.R_alloc | apply Kd.R_drewN | apply Kd.R_drew)); exact HO314.out) hb); have n1_ := Aside0.mk (below_step (by repeat (first | (with_reducible first | exact HB.out | apply below_alloc | apply pw_below_drewN | apply below_drew1) | exact HB.out)) hb); clear HO314; clear HB; have HO314 := n0_; have HB := n1_; clear n0_ n1_; (try clear hb); (try clear hb2); (try clear hk); (try clear hi)))
      (try simp only [Act.put, List.setIfInBounds_toArray, List.set_cons_zero, List.set_cons_succ])
      go_cut [13] (fun v13 wc => ∃ (kq : Nat) (x13_11 : List (S27)), Aside0 (hyphenlaw3_SetRight.j0 kq a4 a5 x13_11 = some r) ∧ Aside0 (kq ≤ k) ∧ Aside0 (Kd.R k27 27 wc w.heap.size (fun _ => True) v13 x13_11) ∧ Aside0 (Below w.heap.size w wc))
      case first =>
        have H := HC12.out
        clear HC12
        by_cases c17 : (t312.length : Int) > 0
        · rw [if_pos c17] at H
          have c17b0 : decide (0 < (t312.length : Int)) = true := decide_eq_true c17
          have c17b1 : decide (0 < t312.length) = true := decide_eq_true (by omega)
          have c17b2 : 0 < t312.length := of_decide_eq_true c17b1
          clear c17
          (first | rw [c17b0] | (simp only [i64_w, i32_w]; rw [c17b0]) | skip)
          replace H := Option.bind_eq_some_iff.mp H
          obtain ⟨t316, A180, H⟩ := H
          replace H : ((hyphenlaw3_within.f a2 4).bind fun t317 => (if t317 = 0 then (if 0 ≤ t316 then (if t316 < (t312.length : Int) then ((some (([wrap64 (((rd_T27 t312 t316).f0) - 1), (rd_T27 t312 t316).f1, wrap64 (((rd_T27 t312 t316).f1) + 1), (-1), a3] : List Int) : List Int)).bind fun y321 => ((hyphenlaw3_within.f a3 5).bind fun t324 => (if 0 ≤ t324 then (if t324 < (y321.length : Int) then (hyphenlaw3_SetRight.j0 k a4 a5 (t312.set (t316 : Int).toNat (⟨rd y321 t324, (rd_T27 t312 t316).f1⟩ : S27))) else (none)) else (none)))) else (none)) else (none)) else (if t317 = 1 then (if 0 ≤ t316 then (if t316 < (t312.length : Int) then ((some (([wrap64 (((rd_T27 t312 t316).f1) + 1), (rd_T27 t312 t316).f0, wrap64 (((rd_T27 t312 t316).f0) - 1), 1114112, a3] : List Int) : List Int)).bind fun y330 => ((hyphenlaw3_within.f a3 5).bind fun t333 => (if 0 ≤ t333 then (if t333 < (y330.length : Int) then (hyphenlaw3_SetRight.j0 k a4 a5 (t312.set (t316 : Int).toNat (⟨(rd_T27 t312 t316).f0, rd y330 t333⟩ : S27))) else (none)) else (none)))) else (none)) else (none)) else (if t317 = 2 then (if 0 < (t312.length : Int) then (if 0 ≤ t316 then (if t316 < (t312.length : Int) then (hyphenlaw3_SetRight.j0 k a4 a5 ((t312.set (t316 : Int).toNat (⟨(rd_T27 t312 0).f0, (rd_T27 t312 0).f1⟩ : S27)).set (0 : Int).toNat (⟨(rd_T27 t312 t316).f0, (rd_T27 t312 t316).f1⟩ : S27))) else (none)) else (none)) else (none)) else (if t317 = 3 then (if t312.length < 8796093022208 then (hyphenlaw3_SetRight.j0 k a4 a5 (t312 ++ [(⟨a4, a5⟩ : S27)])) else (none)) else (hyphenlaw3_SetRight.j0 k a4 a5 t312)))))) = some r := H
          have A18 := Aside0.mk A180
          clear A180
          replace H := Option.bind_eq_some_iff.mp H
          obtain ⟨t317, A190, H⟩ := H
          replace H : (if t317 = 0 then (if 0 ≤ t316 then (if t316 < (t312.length : Int) then ((some (([wrap64 (((rd_T27 t312 t316).f0) - 1), (rd_T27 t312 t316).f1, wrap64 (((rd_T27 t312 t316).f1) + 1), (-1), a3] : List Int) : List Int)).bind fun y321 => ((hyphenlaw3_within.f a3 5).bind fun t324 => (if 0 ≤ t324 then (if t324 < (y321.length : Int) then (hyphenlaw3_SetRight.j0 k a4 a5 (t312.set (t316 : Int).toNat (⟨rd y321 t324, (rd_T27 t312 t316).f1⟩ : S27))) else (none)) else (none)))) else (none)) else (none)) else (if t317 = 1 then (if 0 ≤ t316 then (if t316 < (t312.length : Int) then ((some (([wrap64 (((rd_T27 t312 t316).f1) + 1), (rd_T27 t312 t316).f0, wrap64 (((rd_T27 t312 t316).f0) - 1), 1114112, a3] : List Int) : List Int)).bind fun y330 => ((hyphenlaw3_within.f a3 5).bind fun t333 => (if 0 ≤ t333 then (if t333 < (y330.length : Int) then (hyphenlaw3_SetRight.j0 k a4 a5 (t312.set (t316 : Int).toNat (⟨(rd_T27 t312 t316).f0, rd y330 t333⟩ : S27))) else (none)) else (none)))) else (none)) else (none)) else (if t317 = 2 then (if 0 < (t312.length : Int) then (if 0 ≤ t316 then (if t316 < (t312.length : Int) then (hyphenlaw3_SetRight.j0 k a4 a5 ((t312.set (t316 : Int).toNat (⟨(rd_T27 t312 0).f0, (rd_T27 t312 0).f1⟩ : S27)).set (0 : Int).toNat (⟨(rd_T27 t312 t316).f0, (rd_T27 t312 t316).f1⟩ : S27))) else (none)) else (none)) else (none)) else (if t317 = 3 then (if t312.length < 8796093022208 then (hyphenlaw3_SetRight.j0 k a4 a5 (t312 ++ [(⟨a4, a5⟩ : S27)])) else (none)) else (hyphenlaw3_SetRight.j0 k a4 a5 t312))))) = some r := H
          have A19 := Aside0.mk A190
          clear A190
          by_cases c20 : t317 = 0
          · rw [if_pos c20] at H
            have c20b0 : (t317 == 0) = true := beq_iff_eq.mpr c20
            have c20b1 : (t317 != 0) = false := bne_eq_false_iff_eq.mpr c20
            clear c20
            by_cases c21 : 0 ≤ t316
            · rw [if_pos c21] at H
              have c21b0 : decide (0 ≤ t316) = true := decide_eq_true c21
              clear c21
              by_cases c22 : t316 < (t312.length : Int)
              · rw [if_pos c22] at H
                have c22b0 : decide (t316 < (t312.length : Int)) = true := decide_eq_true c22
                clear c22
                obtain ⟨y321, hy321⟩ : ∃ y_ : List Int, y_ = (([wrap64 (((rd_T27 t312 t316).f0) - 1), (rd_T27 t312 t316).f1, wrap64 (((rd_T27 t312 t316).f1) + 1), (-1), a3] : List Int)) := ⟨_, rfl⟩
                replace H : ((hyphenlaw3_within.f a3 5).bind fun t324 => (if 0 ≤ t324 then (if t324 < (y321.length : Int) then (hyphenlaw3_SetRight.j0 k a4 a5 (t312.set (t316 : Int).toNat (⟨rd y321 t324, (rd_T27 t312 t316).f1⟩ : S27))) else (none)) else (none))) = some r := by first | (rw [hy321]; with_reducible exact H) | (have H2_ := (Option.bind_some _ _).symm.trans H; rw [hy321]; with_reducible exact H2_) | (have H2_ := (Option.bind_some _ _).symm.trans H; with_reducible exact H2_) | with_reducible exact H | (rw [hy321]; exact H) | exact H
                have Ny321 := Aside0.mk hy321
                clear hy321
                replace H := Option.bind_eq_some_iff.mp H
                obtain ⟨t324, A230, H⟩ := H
                replace H : (if 0 ≤ t324 then (if t324 < (y321.length : Int) then (hyphenlaw3_SetRight.j0 k a4 a5 (t312.set (t316 : Int).toNat (⟨rd y321 t324, (rd_T27 t312 t316).f1⟩ : S27))) else (none)) else (none)) = some r := H
                have A23 := Aside0.mk A230
                clear A230
                by_cases c24 : 0 ≤ t324
                · rw [if_pos c24] at H
                  have c24b0 : decide (0 ≤ t324) = true := decide_eq_true c24
                  clear c24
                  by_cases c25 : t324 < (y321.length : Int)
                  · rw [if_pos c25] at H
                    have c25b0 : decide (t324 < (y321.length : Int)) = true := decide_eq_true c25
                    clear c25
                    obtain ⟨y326, hy326⟩ : ∃ y_ : List (S27), y_ = (t312.set (t316 : Int).toNat (⟨rd y321 t324, (rd_T27 t312 t316).f1⟩ : S27)) := ⟨_, rfl⟩
                    replace H : (hyphenlaw3_SetRight.j0 k a4 a5 y326) = some r := by first | (rw [hy326]; with_reducible exact H) | (have H2_ := (Option.bind_some _ _).symm.trans H; rw [hy326]; with_reducible exact H2_) | (have H2_ := (Option.bind_some _ _).symm.trans H; with_reducible exact H2_) | with_reducible exact H | (rw [hy326]; exact H) | exact H
                    have Ny326 := Aside0.mk hy326
                    clear hy326
                    have H' := Aside0.mk H
                    clear H
                    try go_wp2_with (first | ((with_reducible refine gate_callee (f := 18) rfl ?_); refine goesL_ (some 28) rfl rfl Try.func18 (by kernel_rfl) rfl #[.int .i64 a1, .int .i64 (t312.length : Int)] rfl (by (try simp only [List.map_toArray, List.map_cons, List.map_nil]); first | done | rfl | (simp only [List.length_drop, List.length_take]; rfl)) ?_; (with_reducible refine (hyphenlaw3_within.calls a1 (t312.length : Int) t316 _ A18.out).mono ?_); rintro e w' ⟨rfl, ⟨nd, rfl⟩⟩; refine ⟨_, rfl, ?_⟩; (try (rw [drewN_self w16]; generalize hq_ : World.drewN w16 _ = w16; have n0_ : Aside0 (Kd.R k27 27 w16 w.heap.size (fun _ => True) (.slice Ao15 t312.length co15) t312) := ⟨by rw [← hq_]; exact (by (with_reducible repeat (first | apply Kd.R_alloc | apply Kd.R_drewN | apply Kd.R_drew)); exact HO314.out)⟩; have n1_ : Aside0 (Below w.heap.size w w16) := ⟨by rw [← hq_]; exact (by repeat (first | (with_reducible first | exact HB.out | apply below_alloc | apply pw_below_drewN | apply below_drew1) | exact HB.out))⟩; clear HO314 HB hq_; have HO314 := n0_; have HB := n1_; clear n0_ n1_))) | ((with_reducible refine gate_callee (f := 18) rfl ?_); refine goesL_ (some 30) rfl rfl Try.func18 (by kernel_rfl) rfl #[.int .i64 a2, .int .i64 4] rfl (by (try simp only [List.map_toArray, List.map_cons, List.map_nil]); first | done | rfl | (simp only [List.length_drop, List.length_take]; rfl)) ?_; (with_reducible refine (hyphenlaw3_within.calls a2 4 t317 _ A19.out).mono ?_); rintro e w' ⟨rfl, ⟨nd, rfl⟩⟩; refine ⟨_, rfl, ?_⟩; (try (rw [drewN_self w16]; generalize hq_ : World.drewN w16 _ = w16; have n0_ : Aside0 (Kd.R k27 27 w16 w.heap.size (fun _ => True) (.slice Ao15 t312.length co15) t312) := ⟨by rw [← hq_]; exact (by (with_reducible repeat (first | apply Kd.R_alloc | apply Kd.R_drewN | apply Kd.R_drew)); exact HO314.out)⟩; have n1_ : Aside0 (Below w.heap.size w w16) := ⟨by rw [← hq_]; exact (by repeat (first | (with_reducible first | exact HB.out | apply below_alloc | apply pw_below_drewN | apply below_drew1) | exact HB.out))⟩; clear HO314 HB hq_; have HO314 := n0_; have HB := n1_; clear n0_ n1_))))
                    have pi325 : (0 ≤ (t324 : Int)) = True := eq_true (of_decide_eq_true (by first | (with_reducible assumption) | assumption))
                    have qi325 : (t324 < (y321.length : Int)) = True := eq_true (of_decide_eq_true (by first | (with_reducible assumption) | assumption))
                    have n0_ := Aside0.mk (Kd.R_drew HO314.out)
                    have n1_ := Aside0.mk (below_drew1 HB.out)
                    clear HO314
                    clear HB
                    have HO314 := n0_
                    have HB := n1_
                    clear n0_ n1_
                    have p318 : 0 ≤ (t316 : Int) := of_decide_eq_true (by first | (with_reducible assumption) | assumption)
                    have q318 : t316 < (t312.length : Int) := of_decide_eq_true (by first | (with_reducible assumption) | assumption)
                    obtain ⟨ad318, e318, hx318_0, hx318_1⟩ := at_T27 (Kd.R_reads' HO314.out).2.2 t316 p318 q318
                    cases e318
                    replace p318 := eq_true p318
                    replace q318 := eq_true q318
                    have p319 : 0 ≤ (t316 : Int) := of_decide_eq_true (by first | (with_reducible assumption) | assumption)
                    have q319 : t316 < (t312.length : Int) := of_decide_eq_true (by first | (with_reducible assumption) | assumption)
                    obtain ⟨ad319, e319, hx319_0, hx319_1⟩ := at_T27 (Kd.R_reads' HO314.out).2.2 t316 p319 q319
                    obtain rfl : ad318 = ad319 := (by injection e319)
                    replace p319 := eq_true p319
                    replace q319 := eq_true q319
                    have p320 : 0 ≤ (t316 : Int) := of_decide_eq_true (by first | (with_reducible assumption) | assumption)
                    have q320 : t316 < (t312.length : Int) := of_decide_eq_true (by first | (with_reducible assumption) | assumption)
                    obtain ⟨ad320, e320, hx320_0, hx320_1⟩ := at_T27 (Kd.R_reads' HO314.out).2.2 t316 p320 q320
                    obtain rfl : ad318 = ad320 := (by injection e320)
                    replace p320 := eq_true p320
                    replace q320 := eq_true q320
                    refine start_ (n := 28) (S := fun w' => w'.cell? (ad318.add ((t316).toNat * 2)) = some (.int .i64 ((rd_T27 t312 t316).f0)) ∧ w'.cell? ⟨(ad318.add ((t316).toNat * 2)).block, (ad318.add ((t316).toNat * 2)).off + 1, none⟩ = some (.int .i64 ((rd_T27 t312 t316).f1)) ∧ w'.cell? (ad318.add ((t316).toNat * 2)) = some (.int .i64 ((rd_T27 t312 t316).f0)) ∧ w'.cell? ⟨(ad318.add ((t316).toNat * 2)).block, (ad318.add ((t316).toNat * 2)).off + 1, none⟩ = some (.int .i64 ((rd_T27 t312 t316).f1)) ∧ w'.cell? (ad318.add ((t316).toNat * 2)) = some (.int .i64 ((rd_T27 t312 t316).f0)) ∧ w'.cell? ⟨(ad318.add ((t316).toNat * 2)).block, (ad318.add ((t316).toNat * 2)).off + 1, none⟩ = some (.int .i64 ((rd_T27 t312 t316).f1))) (ds := [27]) #[false, false, false, false, false, false, false, false, false, false, false, false, false, false, false, false, false, false, false, false, false, false, false, false, false, false, false, false] (by kernel_rfl) rfl rfl ⟨hx318_0, hx318_1, hx319_0, hx319_1, hx320_0, hx320_1⟩ (fun hHeld => ?_); refine with_tabW hyphenlaw3_SetRight.tab10 hyphenlaw3_SetRight.bits10 (fun HT_ HW_ => ?_)
                    generalize w16.drew = w27 at HO314 HB hx318_0 hx318_1 hx319_0 hx319_1 hx320_0 hx320_1 hHeld ⊢
                    refine pure_ (i := 0) (N := some 33) (v := ?_) (a' := ?_) #[true, false, false, false, false, false, false, false, false, false, false, false, false, false, false, false, false, false, false, false, false, false, false, false, false, false, false, false] rfl rfl (any_of HT_.out (by kernel_rfl)) (fun _ _ _ h => h) (Or.inl ⟨by rfl, ?_⟩) ?_ ?_
                    rotate_left
                    · intro w'
                      go_simp
                      with_reducible rfl
                    rotate_left
                    · simp only [Act.put, List.setIfInBounds_toArray, List.set_cons_zero, List.set_cons_succ, i64_w, i32_w]
                      rfl
                    refine pure_ (i := 1) (N := some 34) (v := ?_) (a' := ?_) #[true, true, false, false, false, false, false, false, false, false, false, false, false, false, false, false, false, false, false, false, false, false, false, false, false, false, false, false] rfl rfl (any_of HT_.out (by kernel_rfl)) (fun _ _ _ h => h) (Or.inl ⟨by rfl, ?_⟩) ?_ ?_
                    rotate_left
                    · intro w'
                      go_simp
                      with_reducible rfl
                    rotate_left
                    · simp only [Act.put, List.setIfInBounds_toArray, List.set_cons_zero, List.set_cons_succ, i64_w, i32_w]
                      rfl
                    refine pure_ (i := 2) (N := some 35) (v := ?_) (a' := ?_) #[true, true, true, false, false, false, false, false, false, false, false, false, false, false, false, false, false, false, false, false, false, false, false, false, false, false, false, false] rfl rfl (any_of HT_.out (by kernel_rfl)) (fun _ _ _ h => h) (Or.inl ⟨by rfl, ?_⟩) ?_ ?_
                    rotate_left
                    · intro w'
                      go_simp
                      with_reducible rfl
                    rotate_left
                    · simp only [Act.put, List.setIfInBounds_toArray, List.set_cons_zero, List.set_cons_succ, i64_w, i32_w]
                      rfl
                    refine pure_ (i := 3) (N := some 36) (v := ?_) (a' := ?_) #[true, true, true, true, false, false, false, false, false, false, false, false, false, false, false, false, false, false, false, false, false, false, false, false, false, false, false, false] rfl rfl (any_of HT_.out (by kernel_rfl)) (fun _ _ _ h => h) (Or.inl ⟨by rfl, ?_⟩) ?_ ?_
                    rotate_left
                    · intro w'
                      go_simp
                      with_reducible rfl
                    rotate_left
                    · simp only [Act.put, List.setIfInBounds_toArray, List.set_cons_zero, List.set_cons_succ, i64_w, i32_w]
                      rfl
                    refine pure_ (i := 4) (N := some 37) (v := ?_) (a' := ?_) #[true, true, true, true, true, false, false, false, false, false, false, false, false, false, false, false, false, false, false, false, false, false, false, false, false, false, false, false] rfl rfl (any_of HT_.out (by kernel_rfl)) (fun _ _ _ h => h) (Or.inl ⟨by rfl, ?_⟩) ?_ ?_
                    rotate_left
                    · intro w'
                      go_simp
                      with_reducible rfl
                    rotate_left
                    · simp only [Act.put, List.setIfInBounds_toArray, List.set_cons_zero, List.set_cons_succ, i64_w, i32_w]
                      rfl
                    refine pure_ (i := 5) (N := some 38) (v := ?_) (a' := ?_) #[true, true, true, true, true, true, false, false, false, false, false, false, false, false, false, false, false, false, false, false, false, false, false, false, false, false, false, false] rfl rfl (any_of HT_.out (by kernel_rfl)) (fun _ _ _ h => h) (Or.inl ⟨by rfl, ?_⟩) ?_ ?_
                    rotate_left
                    · intro w'
                      go_simp
                      with_reducible rfl
                    rotate_left
                    · simp only [Act.put, List.setIfInBounds_toArray, List.set_cons_zero, List.set_cons_succ, i64_w, i32_w]
                      rfl
                    refine pure_ (i := 8) (N := some 41) (v := ?_) (a' := ?_) #[true, true, true, true, true, true, false, false, true, false, false, false, false, false, false, false, false, false, false, false, false, false, false, false, false, false, false, false] rfl rfl (any_of HT_.out (by kernel_rfl)) (fun _ _ _ h => h) (Or.inl ⟨by rfl, ?_⟩) ?_ ?_
                    rotate_left
                    · intro w'
                      go_simp
                      with_reducible rfl
                    rotate_left
                    · simp only [Act.put, List.setIfInBounds_toArray, List.set_cons_zero, List.set_cons_succ, i64_w, i32_w]
                      rfl
                    refine pure_ (i := 9) (N := some 42) (v := ?_) (a' := ?_) #[true, true, true, true, true, true, false, false, true, true, false, false, false, false, false, false, false, false, false, false, false, false, false, false, false, false, false, false] rfl rfl (any_of HT_.out (by kernel_rfl)) (fun _ _ _ h => h) (Or.inl ⟨by rfl, ?_⟩) ?_ ?_
                    rotate_left
                    · intro w'
                      go_simp
                      with_reducible rfl
                    rotate_left
                    · simp only [Act.put, List.setIfInBounds_toArray, List.set_cons_zero, List.set_cons_succ, i64_w, i32_w]
                      rfl
                    refine pure_ (i := 10) (N := some 43) (v := ?_) (a' := ?_) #[true, true, true, true, true, true, false, false, true, true, true, false, false, false, false, false, false, false, false, false, false, false, false, false, false, false, false, false] rfl rfl (any_of HT_.out (by kernel_rfl)) (fun _ _ _ h => h) (Or.inl ⟨by rfl, ?_⟩) ?_ ?_
                    rotate_left
                    · intro w'
                      go_simp
                      with_reducible rfl
                    rotate_left
                    · simp only [Act.put, List.setIfInBounds_toArray, List.set_cons_zero, List.set_cons_succ, i64_w, i32_w]
                      rfl
                    refine pure_ (i := 11) (N := some 44) (v := ?_) (a' := ?_) #[true, true, true, true, true, true, false, false, true, true, true, true, false, false, false, false, false, false, false, false, false, false, false, false, false, false, false, false] rfl rfl (any_of HT_.out (by kernel_rfl)) (fun _ _ _ h => h) (Or.inl ⟨by rfl, ?_⟩) ?_ ?_
                    rotate_left
                    · intro w'
                      go_simp
                      with_reducible rfl
                    rotate_left
                    · simp only [Act.put, List.setIfInBounds_toArray, List.set_cons_zero, List.set_cons_succ, i64_w, i32_w]
                      rfl
                    refine pure_ (i := 13) (N := some 46) (v := ?_) (a' := ?_) #[true, true, true, true, true, true, false, false, true, true, true, true, false, true, false, false, false, false, false, false, false, false, false, false, false, false, false, false] rfl rfl (any_of HT_.out (by kernel_rfl)) (fun _ _ _ h => h) (Or.inl ⟨by rfl, ?_⟩) ?_ ?_
                    rotate_left
                    · intro w'
                      go_simp
                      with_reducible rfl
                    rotate_left
                    · simp only [Act.put, List.setIfInBounds_toArray, List.set_cons_zero, List.set_cons_succ, i64_w, i32_w]
                      rfl
                    refine pure_ (i := 14) (N := some 47) (v := ?_) (a' := ?_) #[true, true, true, true, true, true, false, false, true, true, true, true, false, true, true, false, false, false, false, false, false, false, false, false, false, false, false, false] rfl rfl (any_of HT_.out (by kernel_rfl)) (fun _ _ _ h => h) (Or.inl ⟨by rfl, ?_⟩) ?_ ?_
                    rotate_left
                    · intro w'
                      go_simp
                      with_reducible rfl
                    rotate_left
                    · simp only [Act.put, List.setIfInBounds_toArray, List.set_cons_zero, List.set_cons_succ, i64_w, i32_w]
                      rfl
                    refine pure_ (i := 15) (N := some 48) (v := ?_) (a' := ?_) #[true, true, true, true, true, true, false, false, true, true, true, true, false, true, true, true, false, false, false, false, false, false, false, false, false, false, false, false] rfl rfl (any_of HT_.out (by kernel_rfl)) (fun _ _ _ h => h) (Or.inl ⟨by rfl, ?_⟩) ?_ ?_
                    rotate_left
                    · intro w'
                      go_simp
                      with_reducible rfl
                    rotate_left
                    · simp only [Act.put, List.setIfInBounds_toArray, List.set_cons_zero, List.set_cons_succ, i64_w, i32_w]
                      rfl
                    refine pure_ (i := 16) (N := some 49) (v := ?_) (a' := ?_) #[true, true, true, true, true, true, false, false, true, true, true, true, false, true, true, true, true, false, false, false, false, false, false, false, false, false, false, false] rfl rfl (any_of HT_.out (by kernel_rfl)) (fun _ _ _ h => h) (Or.inl ⟨by rfl, ?_⟩) ?_ ?_
                    rotate_left
                    · intro w'
                      go_simp
                      with_reducible rfl
                    rotate_left
                    · simp only [Act.put, List.setIfInBounds_toArray, List.set_cons_zero, List.set_cons_succ, i64_w, i32_w]
                      rfl
                    refine pure_ (i := 19) (N := some 52) (v := ?_) (a' := ?_) #[true, true, true, true, true, true, false, false, true, true, true, true, false, true, true, true, true, false, false, true, false, false, false, false, false, false, false, false] rfl rfl (any_of HT_.out (by kernel_rfl)) (fun _ _ _ h => h) (Or.inl ⟨by rfl, ?_⟩) ?_ ?_
                    rotate_left
                    · intro w'
                      go_simp
                      with_reducible rfl
                    rotate_left
                    · simp only [Act.put, List.setIfInBounds_toArray, List.set_cons_zero, List.set_cons_succ, i64_w, i32_w]
                      rfl
                    refine pure_ (i := 21) (N := some 54) (v := ?_) (a' := ?_) #[true, true, true, true, true, true, false, false, true, true, true, true, false, true, true, true, true, false, false, true, false, true, false, false, false, false, false, false] rfl rfl (any_of HT_.out (by kernel_rfl)) (fun _ _ _ h => h) (Or.inl ⟨by rfl, ?_⟩) ?_ ?_
                    rotate_left
                    · intro w'
                      go_simp
                      with_reducible rfl
                    rotate_left
                    · simp only [Act.put, List.setIfInBounds_toArray, List.set_cons_zero, List.set_cons_succ, i64_w, i32_w]
                      rfl
                    refine take_ (i := 6) (N := some 39) (v := ?_) (a' := ?_) #[true, true, true, true, true, true, true, false, true, true, true, true, false, true, true, true, true, false, false, true, false, true, false, false, false, false, false, false] rfl rfl (take_ofW HT_.out HW_.out (by kernel_rfl)) (fun _ _ _ h => h) (Or.inl ⟨by rfl, ?_⟩) hHeld ?_ ?_
                    rotate_left
                    · rintro w' ⟨s0, s1, s2, s3, s4, s5⟩
                      go_simp
                      with_reducible rfl
                    rotate_left
                    · simp only [Act.put, List.setIfInBounds_toArray, List.set_cons_zero, List.set_cons_succ, i64_w, i32_w]
                      rfl
                    refine pure_ (i := 7) (N := some 40) (v := ?_) (a' := ?_) #[true, true, true, true, true, true, true, true, true, true, true, true, false, true, true, true, true, false, false, true, false, true, false, false, false, false, false, false] rfl rfl (any_of HT_.out (by kernel_rfl)) (fun _ _ _ h => h) (Or.inl ⟨by rfl, ?_⟩) ?_ ?_
                    rotate_left
                    · intro w'
                      go_simp
                      with_reducible rfl
                    rotate_left
                    · simp only [Act.put, List.setIfInBounds_toArray, List.set_cons_zero, List.set_cons_succ, i64_w, i32_w]
                      rfl
                    refine take_ (i := 12) (N := some 45) (v := ?_) (a' := ?_) #[true, true, true, true, true, true, true, true, true, true, true, true, true, true, true, true, true, false, false, true, false, true, false, false, false, false, false, false] rfl rfl (take_ofW HT_.out HW_.out (by kernel_rfl)) (fun _ _ _ h => h) (Or.inl ⟨by rfl, ?_⟩) hHeld ?_ ?_
                    rotate_left
                    · rintro w' ⟨s0, s1, s2, s3, s4, s5⟩
                      go_simp
                      with_reducible rfl
                    rotate_left
                    · simp only [Act.put, List.setIfInBounds_toArray, List.set_cons_zero, List.set_cons_succ, i64_w, i32_w]
                      rfl
                    refine take_ (i := 17) (N := some 50) (v := ?_) (a' := ?_) #[true, true, true, true, true, true, true, true, true, true, true, true, true, true, true, true, true, true, false, true, false, true, false, false, false, false, false, false] rfl rfl (take_ofW HT_.out HW_.out (by kernel_rfl)) (fun _ _ _ h => h) (Or.inl ⟨by rfl, ?_⟩) hHeld ?_ ?_
                    rotate_left
                    · rintro w' ⟨s0, s1, s2, s3, s4, s5⟩
                      go_simp
                      with_reducible rfl
                    rotate_left
                    · simp only [Act.put, List.setIfInBounds_toArray, List.set_cons_zero, List.set_cons_succ, i64_w, i32_w]
                      rfl
                    refine pure_ (i := 18) (N := some 51) (v := ?_) (a' := ?_) #[true, true, true, true, true, true, true, true, true, true, true, true, true, true, true, true, true, true, true, true, false, true, false, false, false, false, false, false] rfl rfl (any_of HT_.out (by kernel_rfl)) (fun _ _ _ h => h) (Or.inl ⟨by rfl, ?_⟩) ?_ ?_
                    rotate_left
                    · intro w'
                      go_simp
                      with_reducible rfl
                    rotate_left
                    · simp only [Act.put, List.setIfInBounds_toArray, List.set_cons_zero, List.set_cons_succ, i64_w, i32_w]
                      rfl
                    refine join_ (σ := Value × Addr) 5 #[true, true, true, true, true, true, true, true, true, true, true, true, true, true, true, true, true, true, true, true, true, true, true, false, false, false, false, false] (fun s_ => [(53, s_.1), (55, .int .i64 t324)]) (fun s_ w' => (w'.cell? (ad318.add ((t316).toNat * 2)) = some (.int .i64 ((rd_T27 t312 t316).f0)) ∧ w'.cell? ⟨(ad318.add ((t316).toNat * 2)).block, (ad318.add ((t316).toNat * 2)).off + 1, none⟩ = some (.int .i64 ((rd_T27 t312 t316).f1)) ∧ w'.cell? (ad318.add ((t316).toNat * 2)) = some (.int .i64 ((rd_T27 t312 t316).f0)) ∧ w'.cell? ⟨(ad318.add ((t316).toNat * 2)).block, (ad318.add ((t316).toNat * 2)).off + 1, none⟩ = some (.int .i64 ((rd_T27 t312 t316).f1)) ∧ w'.cell? (ad318.add ((t316).toNat * 2)) = some (.int .i64 ((rd_T27 t312 t316).f0)) ∧ w'.cell? ⟨(ad318.add ((t316).toNat * 2)).block, (ad318.add ((t316).toNat * 2)).off + 1, none⟩ = some (.int .i64 ((rd_T27 t312 t316).f1))) ∧ (Kd.R k27 27 w' w.heap.size (fun _ => True) (.slice (some ad318) t312.length co15) t312) ∧ (Kd.R (Kd.int .i64) 3 w' w.heap.size (fun _ => True) s_.1 y321) ∧ (∃ c_, (s_.1 : Value) = .slice (some s_.2) y321.length c_) ∧ (Below w.heap.size w w')) ?_ ?_
                    rotate_left
                    · intro hCont
                      refine two_ (i := 20) (j := 22) (Ni := some 53) (Nj := some 55) #[true, true, true, true, true, true, true, true, true, true, true, true, true, true, true, true, true, true, true, true, true, true, false, false, false, false, false, false] #[true, true, true, true, true, true, true, true, true, true, true, true, true, true, true, true, true, true, true, true, false, true, true, false, false, false, false, false] rfl rfl rfl rfl (two_of HT_.out (by kernel_rfl)) (by decide) (by decide) (fun K hK => ?_) (fun K hK => ?_)
                      · skip
                        refine Kd.R_lit_step (Kd.int .i64) _ 3 ?hg (N := 53) ?hd (xs := ([wrap64 (((rd_T27 t312 t316).f0) - 1), (rd_T27 t312 t316).f1, wrap64 (((rd_T27 t312 t316).f1) + 1), (-1), a3] : List Int)) (inner := [.int .i64 (wrap64 (((rd_T27 t312 t316).f0) - 1)), .int .i64 ((rd_T27 t312 t316).f1), .int .i64 (wrap64 (((rd_T27 t312 t316).f1) + 1)), .int .i64 (-1), .int .i64 a3]) (ok := fun _ => True) (okp := fun _ => True) ?hr ?hp (fun _ hk => hk) trivial (Below.refl _ _) (Nat.le_refl _) (by simp) ?_; (case hd => rfl); (case hg => rfl); (case hr => first | (go_simp; done) | (go_simp; rfl)); (case hp => exact (Reps.one (show Kd.M (Kd.int .i64) _ _ _ (wrap64 (((rd_T27 t312 t316).f0) - 1)) [.int .i64 (wrap64 (((rd_T27 t312 t316).f0) - 1))] from rfl) (Reps.one (show Kd.M (Kd.int .i64) _ _ _ ((rd_T27 t312 t316).f1) [.int .i64 ((rd_T27 t312 t316).f1)] from rfl) (Reps.one (show Kd.M (Kd.int .i64) _ _ _ (wrap64 (((rd_T27 t312 t316).f1) + 1)) [.int .i64 (wrap64 (((rd_T27 t312 t316).f1) + 1))] from rfl) (Reps.one (show Kd.M (Kd.int .i64) _ _ _ (-1) [.int .i64 (-1)] from rfl) (Reps.one (show Kd.M (Kd.int .i64) _ _ _ a3 [.int .i64 a3] from rfl) (Reps.none _ _)))))))
                        intro v322 w28 ho29 hb hg_ hnew_
                        have HS0_ := (hb.cell (World.block_lt_of_cell? _ _ (hHeld.1))).trans (hHeld.1)
                        have HS1_ := (hb.cell (World.block_lt_of_cell? _ _ (hHeld.2.1))).trans (hHeld.2.1)
                        have HS2_ := (hb.cell (World.block_lt_of_cell? _ _ (hHeld.2.2.1))).trans (hHeld.2.2.1)
                        have HS3_ := (hb.cell (World.block_lt_of_cell? _ _ (hHeld.2.2.2.1))).trans (hHeld.2.2.2.1)
                        have HS4_ := (hb.cell (World.block_lt_of_cell? _ _ (hHeld.2.2.2.2.1))).trans (hHeld.2.2.2.2.1)
                        have HS5_ := (hb.cell (World.block_lt_of_cell? _ _ (hHeld.2.2.2.2.2))).trans (hHeld.2.2.2.2.2)
                        clear hg_ hnew_
                        (first | rw [← Ny321.out] at ho29 | (simp only [Int.reduceToNat] at ho29; rw [← Ny321.out] at ho29))
                        have n0_ := Aside0.mk (Kd.R_below (by (with_reducible repeat (first | apply Kd.R_alloc | apply Kd.R_drewN | apply Kd.R_drew)); exact HO314.out) hb)
                        have n1_ := Aside0.mk (Kd.R_lower ho29 (below_size (by repeat (first | (with_reducible first | exact HB.out | apply below_alloc | apply pw_below_drewN | apply below_drew1) | exact HB.out))))
                        have n2_ := Aside0.mk (below_step (by repeat (first | (with_reducible first | exact HB.out | apply below_alloc | apply pw_below_drewN | apply below_drew1) | exact HB.out)) hb)
                        clear HO314
                        clear HB
                        have HO314 := n0_
                        have HO323 := n1_
                        have HB := n2_
                        clear n0_ n1_ n2_
                        clear hb ho29
                        obtain ⟨Ao30, co30, eo30⟩ := Kd.R_slice HO323.out
                        subst eo30
                        obtain ⟨ado30, fo30, _⟩ := Kd.at_int (Kd.R_reads' HO323.out).2.2 0 (by decide) (by rw [Ny321.out]; simp)
                        cases fo30
                        refine hK.out _ _ ⟨HS0_, HS1_, HS2_, HS3_, HS4_, HS5_⟩ (fun hHeld => ?_)
                        clear hK K
                        refine norm_ (a' := ?_) ?_ ?_
                        rotate_left
                        · show Act.put _ (some 53) _ = _
                          simp only [Act.put, List.setIfInBounds_toArray, List.set_cons_zero, List.set_cons_succ, i64_w, i32_w]
                          rfl
                        refine one_ (i := 22) (N := some 55) #[true, true, true, true, true, true, true, true, true, true, true, true, true, true, true, true, true, true, true, true, true, true, true, false, false, false, false, false] rfl rfl (one_of HT_.out (by kernel_rfl)) (by decide) (fun K hK => ?_)
                        refine goes_ Try.func18 (by kernel_rfl) rfl #[.int .i64 a3, .int .i64 5] (by rfl) rfl rfl (by (try simp only [List.map_toArray, List.map_cons, List.map_nil]); first | done | rfl | (simp only [List.length_drop, List.length_take]; rfl)) ?_
                        with_reducible refine (hyphenlaw3_within.calls a3 5 t324 _ A23.out).mono ?_
                        rintro e w' ⟨rfl, ⟨nd, rfl⟩⟩
                        refine ⟨_, rfl, ?_⟩
                        refine hK.out _ _ ⟨hHeld.1, hHeld.2.1, hHeld.2.2.1, hHeld.2.2.2.1, hHeld.2.2.2.2.1, hHeld.2.2.2.2.2⟩ (fun hHeld => ?_)
                        clear hK K
                        refine norm_ (a' := ?_) ?_ ?_
                        rotate_left
                        · show Act.put _ (some 55) _ = _
                          simp only [Act.put, List.setIfInBounds_toArray, List.set_cons_zero, List.set_cons_succ, i64_w, i32_w]
                          rfl
                        exact norm_ (by simp only [putAll, Act.put, List.setIfInBounds_toArray, List.set_cons_zero, List.set_cons_succ]) (hCont (.slice (some ado30) y321.length co30, ado30) _ ⟨hHeld, (by (with_reducible repeat (first | apply Kd.R_alloc | apply Kd.R_drewN | apply Kd.R_drew)); exact HO314.out), (by (with_reducible repeat (first | apply Kd.R_alloc | apply Kd.R_drewN | apply Kd.R_drew)); exact HO323.out), ⟨_, rfl⟩, (by repeat (first | (with_reducible first | exact HB.out | apply below_alloc | apply pw_below_drewN | apply below_drew1) | exact HB.out))⟩)
                      · skip
                        refine goes_ Try.func18 (by kernel_rfl) rfl #[.int .i64 a3, .int .i64 5] (by rfl) rfl rfl (by (try simp only [List.map_toArray, List.map_cons, List.map_nil]); first | done | rfl | (simp only [List.length_drop, List.length_take]; rfl)) ?_
                        with_reducible refine (hyphenlaw3_within.calls a3 5 t324 _ A23.out).mono ?_
                        rintro e w' ⟨rfl, ⟨nd, rfl⟩⟩
                        refine ⟨_, rfl, ?_⟩
                        refine hK.out _ _ ⟨hHeld.1, hHeld.2.1, hHeld.2.2.1, hHeld.2.2.2.1, hHeld.2.2.2.2.1, hHeld.2.2.2.2.2⟩ (fun hHeld => ?_)
                        clear hK K
                        refine norm_ (a' := ?_) ?_ ?_
                        rotate_left
                        · show Act.put _ (some 55) _ = _
                          simp only [Act.put, List.setIfInBounds_toArray, List.set_cons_zero, List.set_cons_succ, i64_w, i32_w]
                          rfl
                        refine one_ (i := 20) (N := some 53) #[true, true, true, true, true, true, true, true, true, true, true, true, true, true, true, true, true, true, true, true, true, true, true, false, false, false, false, false] rfl rfl (one_of HT_.out (by kernel_rfl)) (by decide) (fun K hK => ?_)
                        refine Kd.R_lit_step (Kd.int .i64) _ 3 ?hg (N := 53) ?hd (xs := ([wrap64 (((rd_T27 t312 t316).f0) - 1), (rd_T27 t312 t316).f1, wrap64 (((rd_T27 t312 t316).f1) + 1), (-1), a3] : List Int)) (inner := [.int .i64 (wrap64 (((rd_T27 t312 t316).f0) - 1)), .int .i64 ((rd_T27 t312 t316).f1), .int .i64 (wrap64 (((rd_T27 t312 t316).f1) + 1)), .int .i64 (-1), .int .i64 a3]) (ok := fun _ => True) (okp := fun _ => True) ?hr ?hp (fun _ hk => hk) trivial (Below.refl _ _) (Nat.le_refl _) (by simp) ?_; (case hd => rfl); (case hg => rfl); (case hr => first | (go_simp; done) | (go_simp; rfl)); (case hp => exact (Reps.one (show Kd.M (Kd.int .i64) _ _ _ (wrap64 (((rd_T27 t312 t316).f0) - 1)) [.int .i64 (wrap64 (((rd_T27 t312 t316).f0) - 1))] from rfl) (Reps.one (show Kd.M (Kd.int .i64) _ _ _ ((rd_T27 t312 t316).f1) [.int .i64 ((rd_T27 t312 t316).f1)] from rfl) (Reps.one (show Kd.M (Kd.int .i64) _ _ _ (wrap64 (((rd_T27 t312 t316).f1) + 1)) [.int .i64 (wrap64 (((rd_T27 t312 t316).f1) + 1))] from rfl) (Reps.one (show Kd.M (Kd.int .i64) _ _ _ (-1) [.int .i64 (-1)] from rfl) (Reps.one (show Kd.M (Kd.int .i64) _ _ _ a3 [.int .i64 a3] from rfl) (Reps.none _ _)))))))
                        intro v322 w28 ho29 hb hg_ hnew_
                        have HS0_ := (hb.cell (World.block_lt_of_cell? _ _ (hHeld.1))).trans (hHeld.1)
                        have HS1_ := (hb.cell (World.block_lt_of_cell? _ _ (hHeld.2.1))).trans (hHeld.2.1)
                        have HS2_ := (hb.cell (World.block_lt_of_cell? _ _ (hHeld.2.2.1))).trans (hHeld.2.2.1)
                        have HS3_ := (hb.cell (World.block_lt_of_cell? _ _ (hHeld.2.2.2.1))).trans (hHeld.2.2.2.1)
                        have HS4_ := (hb.cell (World.block_lt_of_cell? _ _ (hHeld.2.2.2.2.1))).trans (hHeld.2.2.2.2.1)
                        have HS5_ := (hb.cell (World.block_lt_of_cell? _ _ (hHeld.2.2.2.2.2))).trans (hHeld.2.2.2.2.2)
                        clear hg_ hnew_
                        (first | rw [← Ny321.out] at ho29 | (simp only [Int.reduceToNat] at ho29; rw [← Ny321.out] at ho29))
                        have n0_ := Aside0.mk (Kd.R_below (by (with_reducible repeat (first | apply Kd.R_alloc | apply Kd.R_drewN | apply Kd.R_drew)); exact HO314.out) hb)
                        have n1_ := Aside0.mk (Kd.R_lower ho29 (below_size (by repeat (first | (with_reducible first | exact HB.out | apply below_alloc | apply pw_below_drewN | apply below_drew1) | exact HB.out))))
                        have n2_ := Aside0.mk (below_step (by repeat (first | (with_reducible first | exact HB.out | apply below_alloc | apply pw_below_drewN | apply below_drew1) | exact HB.out)) hb)
                        clear HO314
                        clear HB
                        have HO314 := n0_
                        have HO323 := n1_
                        have HB := n2_
                        clear n0_ n1_ n2_
                        clear hb ho29
                        obtain ⟨Ao30, co30, eo30⟩ := Kd.R_slice HO323.out
                        subst eo30
                        obtain ⟨ado30, fo30, _⟩ := Kd.at_int (Kd.R_reads' HO323.out).2.2 0 (by decide) (by rw [Ny321.out]; simp)
                        cases fo30
                        refine hK.out _ _ ⟨HS0_, HS1_, HS2_, HS3_, HS4_, HS5_⟩ (fun hHeld => ?_)
                        clear hK K
                        refine norm_ (a' := ?_) ?_ ?_
                        rotate_left
                        · show Act.put _ (some 53) _ = _
                          simp only [Act.put, List.setIfInBounds_toArray, List.set_cons_zero, List.set_cons_succ, i64_w, i32_w]
                          rfl
                        exact norm_ (by simp only [putAll, Act.put, List.setIfInBounds_toArray, List.set_cons_zero, List.set_cons_succ]) (hCont (.slice (some ado30) y321.length co30, ado30) _ ⟨hHeld, (by (with_reducible repeat (first | apply Kd.R_alloc | apply Kd.R_drewN | apply Kd.R_drew)); exact HO314.out), (by (with_reducible repeat (first | apply Kd.R_alloc | apply Kd.R_drewN | apply Kd.R_drew)); exact HO323.out), ⟨_, rfl⟩, (by repeat (first | (with_reducible first | exact HB.out | apply below_alloc | apply pw_below_drewN | apply below_drew1) | exact HB.out))⟩)
                    rintro ⟨v322, adz_v322⟩ w31 ⟨hS_, h0_, h1_, h2_, h3_⟩
                    have n0_ : Aside0 (Kd.R k27 27 w31 w.heap.size (fun _ => True) (.slice (some ad318) t312.length co15) t312) := ⟨h0_⟩
                    have n1_ : Aside0 (Kd.R (Kd.int .i64) 3 w31 w.heap.size (fun _ => True) v322 y321) := ⟨h1_⟩
                    have n2_ : Aside0 (∃ c_, (v322 : Value) = .slice (some adz_v322) y321.length c_) := ⟨h2_⟩
                    have n3_ : Aside0 (Below w.heap.size w w31) := ⟨h3_⟩
                    clear HO314
                    clear HB
                    clear h0_ h1_ h2_ h3_
                    have HO314 := n0_
                    have HO323 := n1_
                    have HA_HO323 := n2_
                    have HB := n3_
                    clear n0_ n1_ n2_ n3_
                    have hHeld : w31.cell? (ad318.add ((t316).toNat * 2)) = some (.int .i64 ((rd_T27 t312 t316).f0)) ∧ w31.cell? ⟨(ad318.add ((t316).toNat * 2)).block, (ad318.add ((t316).toNat * 2)).off + 1, none⟩ = some (.int .i64 ((rd_T27 t312 t316).f1)) ∧ w31.cell? (ad318.add ((t316).toNat * 2)) = some (.int .i64 ((rd_T27 t312 t316).f0)) ∧ w31.cell? ⟨(ad318.add ((t316).toNat * 2)).block, (ad318.add ((t316).toNat * 2)).off + 1, none⟩ = some (.int .i64 ((rd_T27 t312 t316).f1)) ∧ w31.cell? (ad318.add ((t316).toNat * 2)) = some (.int .i64 ((rd_T27 t312 t316).f0)) ∧ w31.cell? ⟨(ad318.add ((t316).toNat * 2)).block, (ad318.add ((t316).toNat * 2)).off + 1, none⟩ = some (.int .i64 ((rd_T27 t312 t316).f1)) := hS_
                    obtain ⟨co32, eo32⟩ := HA_HO323.out
                    clear HA_HO323
                    subst eo32
                    have p26 : 0 ≤ (t316 : Int) := of_decide_eq_true (by first | (with_reducible assumption) | assumption)
                    have q26 : (t316 : Int) < ((t312.length : Int) : Int) := of_decide_eq_true (by first | (with_reducible assumption) | assumption)
                    obtain ⟨go26, co26, eo26, gb26, gl26, cl26, HG26⟩ := Kd.R_form HO314.out (by omega)
                    (first | cases eo26 | (injection eo26 with ea_ en_ ec_; (first | subst ea_ | (injection ea_ with ea_; subst ea_)); subst ec_; clear en_))
                    have GB26 := Aside0.mk gb26
                    have GG26 := Aside0.mk HG26
                    clear gb26 gl26 HG26
                    (first | simp only [add_plain] at hx318_0 | skip)
                    (first | simp only [add_plain] at hx318_1 | skip)
                    (first | simp only [add_plain] at hx319_0 | skip)
                    (first | simp only [add_plain] at hx319_1 | skip)
                    (first | simp only [add_plain] at hx320_0 | skip)
                    (first | simp only [add_plain] at hx320_1 | skip)
                    obtain ⟨ce26, hcl26, hM26, hcc26, hfr26⟩ := Kd.R_elem HO314.out z27 (t316 : Int) p26 q26
                    obtain rfl := k27_openM hM26
                    have hx26_0 : World.cell? _ ⟨go26, (t316 : Int).toNat * 2, none⟩ = some (.int .i64 ((rd_T27 t312 t316).f0)) := hcc26 0 _ rfl
                    have hx26_1 : World.cell? _ ⟨go26, (t316 : Int).toNat * 2 + 1, none⟩ = some (.int .i64 ((rd_T27 t312 t316).f1)) := hcc26 1 _ rfl
                    have hf26_0 : World.frozen? _ ⟨go26, (t316 : Int).toNat * 2, none⟩ = false := hfr26 0
                    have hf26_1 : World.frozen? _ ⟨go26, (t316 : Int).toNat * 2 + 1, none⟩ = false := hfr26 1
                    clear hcl26 hcc26 hfr26 hM26
                    replace p26 := eq_true p26
                    replace q26 := eq_true q26
                    obtain ⟨ce33, hcl33, hM33, hcc33, hfr33⟩ := Kd.R_elem HO314.out z27 (t316 : Int) (of_decide_eq_true (by first | (with_reducible assumption) | assumption)) (by have h_ : (t316 : Int) < ((t312.length : Int) : Int) := of_decide_eq_true (by first | (with_reducible assumption) | assumption); first | exact h_ | (have e_ := (Kd.R_reads' HO314.out).1; omega) | simpa using h_)
                    obtain rfl := k27_openM hM33
                    have HP33 := (Kd.R_seg HO314.out (t316 : Int) (of_decide_eq_true (by first | (with_reducible assumption) | assumption)) (by have h_ : (t316 : Int) < ((t312.length : Int) : Int) := of_decide_eq_true (by first | (with_reducible assumption) | assumption); first | exact h_ | (have e_ := (Kd.R_reads' HO314.out).1; omega) | simpa using h_) (seg := [.int .i64 (rd y321 t324)]) (j := 0) hcl33 hcc33 (show 1 ≤ 2 from by decide) (x' := (⟨rd y321 t324, (rd_T27 t312 t316).f1⟩ : S27)) (k27_mkM _ _ _ (⟨rd y321 t324, (rd_T27 t312 t316).f1⟩ : S27) ) (fun _ hk => hk)).1
                    rw [← Ny326.out] at HP33
                    have HQ33 := Aside0.mk HP33
                    clear hcl33 hcc33 hfr33 hM33 HP33
                    refine norm_ (a' := ?_) ?_ ?_
                    rotate_left
                    · simp only [putAll, Act.put, List.setIfInBounds_toArray, List.set_cons_zero, List.set_cons_succ]
                      rfl
                    refine pure_ (i := 23) (N := some 56) (v := ?_) (a' := ?_) #[true, true, true, true, true, true, true, true, true, true, true, true, true, true, true, true, true, true, true, true, true, true, true, true, false, false, false, false] rfl rfl (any_of HT_.out (by kernel_rfl)) (fun _ _ _ h => h) (Or.inl ⟨by rfl, ?_⟩) ?_ ?_
                    rotate_left
                    · intro w'
                      go_simp
                      with_reducible rfl
                    rotate_left
                    · simp only [Act.put, List.setIfInBounds_toArray, List.set_cons_zero, List.set_cons_succ, i64_w, i32_w]
                      rfl
                    refine one_ (i := 24) (N := some 57) #[true, true, true, true, true, true, true, true, true, true, true, true, true, true, true, true, true, true, true, true, true, true, true, true, true, false, false, false] rfl rfl (one_of HT_.out (by kernel_rfl)) (by decide) (fun K hK => ?_)
                    (have p325 : 0 ≤ (t324 : Int) := of_decide_eq_true (by first | (with_reducible assumption) | assumption); have q325 : t324 < (y321.length : Int) := of_decide_eq_true (by first | (with_reducible assumption) | assumption); obtain ⟨ad325, e325, hx325_0⟩ := Kd.at_int (Kd.R_reads' HO323.out).2.2 t324 p325 q325; obtain rfl : adz_v322 = ad325 := (by injection e325))
                    refine value_ (w1 := ?_) (v := ?_) (by rfl) rfl ?_ ?_
                    rotate_left 2
                    · go_simp
                      constructor
                      · rfl
                      · rfl
                    clear hx325_0
                    refine hK.out _ _ ⟨hHeld.1, hHeld.2.1, hHeld.2.2.1, hHeld.2.2.2.1, hHeld.2.2.2.2.1, hHeld.2.2.2.2.2⟩ (fun hHeld => ?_)
                    clear hK K
                    refine norm_ (a' := ?_) ?_ ?_
                    rotate_left
                    · show Act.put _ (some 57) _ = _
                      simp only [Act.put, List.setIfInBounds_toArray, List.set_cons_zero, List.set_cons_succ, i64_w, i32_w]
                      rfl
                    refine pure_ (i := 25) (N := some 58) (v := ?_) (a' := ?_) #[true, true, true, true, true, true, true, true, true, true, true, true, true, true, true, true, true, true, true, true, true, true, true, true, true, true, false, false] rfl rfl (any_of HT_.out (by kernel_rfl)) (fun _ _ _ h => h) (Or.inl ⟨by rfl, ?_⟩) ?_ ?_
                    rotate_left
                    · intro w'
                      go_simp
                      with_reducible rfl
                    rotate_left
                    · simp only [Act.put, List.setIfInBounds_toArray, List.set_cons_zero, List.set_cons_succ, i64_w, i32_w]
                      rfl
                    refine pure_ (i := 26) (N := some 59) (v := ?_) (a' := ?_) #[true, true, true, true, true, true, true, true, true, true, true, true, true, true, true, true, true, true, true, true, true, true, true, true, true, true, true, false] rfl rfl (any_of HT_.out (by kernel_rfl)) (fun _ _ _ h => h) (Or.inl ⟨by rfl, ?_⟩) ?_ ?_
                    rotate_left
                    · intro w'
                      go_simp
                      with_reducible rfl
                    rotate_left
                    · simp only [Act.put, List.setIfInBounds_toArray, List.set_cons_zero, List.set_cons_succ, i64_w, i32_w]
                      rfl
                    refine last_ (i := 27) (N := none) #[true, true, true, true, true, true, true, true, true, true, true, true, true, true, true, true, true, true, true, true, true, true, true, true, true, true, true, true] rfl rfl (one_of HT_.out (by kernel_rfl)) (by decide) (fun K hK => ?_)
                    refine skip_ (w1 := ?_) (by rfl) rfl ?_ ?_
                    rotate_left
                    · go_simp
                      rfl
                    refine hK.out _ _ ?_
                    clear hK K
                    refine done_ (done_of HT_.out (by kernel_rfl)) ?_
                    try go_wp2
                    go_meet
                    case rel => exact ⟨_, (y326), H', ⟨by first | omega | exact Nat.le_refl _⟩, ⟨by (with_reducible repeat (first | apply Kd.R_alloc | apply Kd.R_drewN | apply Kd.R_drew)); exact HQ33.out⟩, ⟨by repeat (first | (with_reducible first | exact HB.out | apply below_alloc | apply pw_below_drewN | apply below_drew1 | refine below_set ?_ GB26.out) | exact HB.out)⟩⟩
                  · rw [if_neg c25] at H
                    exact absurd H (by simp)
                · rw [if_neg c24] at H
                  exact absurd H (by simp)
              · rw [if_neg c22] at H
                exact absurd H (by simp)
            · rw [if_neg c21] at H
              exact absurd H (by simp)
          · rw [if_neg c20] at H
            have c20b0 : (t317 == 0) = false := beq_eq_false_iff_ne.mpr c20
            have c20b1 : (t317 != 0) = true := bne_iff_ne.mpr c20
            by_cases c34 : t317 = 1
            · rw [if_pos c34] at H
              have c34b0 : (t317 == 1) = true := beq_iff_eq.mpr c34
              have c34b1 : (t317 != 1) = false := bne_eq_false_iff_eq.mpr c34
              clear c34
              by_cases c35 : 0 ≤ t316
              · rw [if_pos c35] at H
                have c35b0 : decide (0 ≤ t316) = true := decide_eq_true c35
                clear c35
                by_cases c36 : t316 < (t312.length : Int)
                · rw [if_pos c36] at H
                  have c36b0 : decide (t316 < (t312.length : Int)) = true := decide_eq_true c36
                  clear c36
                  obtain ⟨y330, hy330⟩ : ∃ y_ : List Int, y_ = (([wrap64 (((rd_T27 t312 t316).f1) + 1), (rd_T27 t312 t316).f0, wrap64 (((rd_T27 t312 t316).f0) - 1), 1114112, a3] : List Int)) := ⟨_, rfl⟩
                  replace H : ((hyphenlaw3_within.f a3 5).bind fun t333 => (if 0 ≤ t333 then (if t333 < (y330.length : Int) then (hyphenlaw3_SetRight.j0 k a4 a5 (t312.set (t316 : Int).toNat (⟨(rd_T27 t312 t316).f0, rd y330 t333⟩ : S27))) else (none)) else (none))) = some r := by first | (rw [hy330]; with_reducible exact H) | (have H2_ := (Option.bind_some _ _).symm.trans H; rw [hy330]; with_reducible exact H2_) | (have H2_ := (Option.bind_some _ _).symm.trans H; with_reducible exact H2_) | with_reducible exact H | (rw [hy330]; exact H) | exact H
                  have Ny330 := Aside0.mk hy330
                  clear hy330
                  replace H := Option.bind_eq_some_iff.mp H
                  obtain ⟨t333, A370, H⟩ := H
                  replace H : (if 0 ≤ t333 then (if t333 < (y330.length : Int) then (hyphenlaw3_SetRight.j0 k a4 a5 (t312.set (t316 : Int).toNat (⟨(rd_T27 t312 t316).f0, rd y330 t333⟩ : S27))) else (none)) else (none)) = some r := H
                  have A37 := Aside0.mk A370
                  clear A370
                  by_cases c38 : 0 ≤ t333
                  · rw [if_pos c38] at H
                    have c38b0 : decide (0 ≤ t333) = true := decide_eq_true c38
                    clear c38
                    by_cases c39 : t333 < (y330.length : Int)
                    · rw [if_pos c39] at H
                      have c39b0 : decide (t333 < (y330.length : Int)) = true := decide_eq_true c39
                      clear c39
                      obtain ⟨y335, hy335⟩ : ∃ y_ : List (S27), y_ = (t312.set (t316 : Int).toNat (⟨(rd_T27 t312 t316).f0, rd y330 t333⟩ : S27)) := ⟨_, rfl⟩
                      replace H : (hyphenlaw3_SetRight.j0 k a4 a5 y335) = some r := by first | (rw [hy335]; with_reducible exact H) | (have H2_ := (Option.bind_some _ _).symm.trans H; rw [hy335]; with_reducible exact H2_) | (have H2_ := (Option.bind_some _ _).symm.trans H; with_reducible exact H2_) | with_reducible exact H | (rw [hy335]; exact H) | exact H
                      have Ny335 := Aside0.mk hy335
                      clear hy335
                      have H' := Aside0.mk H
                      clear H
                      try go_wp2_with (first | ((with_reducible refine gate_callee (f := 18) rfl ?_); refine goesL_ (some 28) rfl rfl Try.func18 (by kernel_rfl) rfl #[.int .i64 a1, .int .i64 (t312.length : Int)] rfl (by (try simp only [List.map_toArray, List.map_cons, List.map_nil]); first | done | rfl | (simp only [List.length_drop, List.length_take]; rfl)) ?_; (with_reducible refine (hyphenlaw3_within.calls a1 (t312.length : Int) t316 _ A18.out).mono ?_); rintro e w' ⟨rfl, ⟨nd, rfl⟩⟩; refine ⟨_, rfl, ?_⟩; (try (rw [drewN_self w16]; generalize hq_ : World.drewN w16 _ = w16; have n0_ : Aside0 (Kd.R k27 27 w16 w.heap.size (fun _ => True) (.slice Ao15 t312.length co15) t312) := ⟨by rw [← hq_]; exact (by (with_reducible repeat (first | apply Kd.R_alloc | apply Kd.R_drewN | apply Kd.R_drew)); exact HO314.out)⟩; have n1_ : Aside0 (Below w.heap.size w w16) := ⟨by rw [← hq_]; exact (by repeat (first | (with_reducible first | exact HB.out | apply below_alloc | apply pw_below_drewN | apply below_drew1) | exact HB.out))⟩; clear HO314 HB hq_; have HO314 := n0_; have HB := n1_; clear n0_ n1_))) | ((with_reducible refine gate_callee (f := 18) rfl ?_); refine goesL_ (some 30) rfl rfl Try.func18 (by kernel_rfl) rfl #[.int .i64 a2, .int .i64 4] rfl (by (try simp only [List.map_toArray, List.map_cons, List.map_nil]); first | done | rfl | (simp only [List.length_drop, List.length_take]; rfl)) ?_; (with_reducible refine (hyphenlaw3_within.calls a2 4 t317 _ A19.out).mono ?_); rintro e w' ⟨rfl, ⟨nd, rfl⟩⟩; refine ⟨_, rfl, ?_⟩; (try (rw [drewN_self w16]; generalize hq_ : World.drewN w16 _ = w16; have n0_ : Aside0 (Kd.R k27 27 w16 w.heap.size (fun _ => True) (.slice Ao15 t312.length co15) t312) := ⟨by rw [← hq_]; exact (by (with_reducible repeat (first | apply Kd.R_alloc | apply Kd.R_drewN | apply Kd.R_drew)); exact HO314.out)⟩; have n1_ : Aside0 (Below w.heap.size w w16) := ⟨by rw [← hq_]; exact (by repeat (first | (with_reducible first | exact HB.out | apply below_alloc | apply pw_below_drewN | apply below_drew1) | exact HB.out))⟩; clear HO314 HB hq_; have HO314 := n0_; have HB := n1_; clear n0_ n1_))))
                      have pi334 : (0 ≤ (t333 : Int)) = True := eq_true (of_decide_eq_true (by first | (with_reducible assumption) | assumption))
                      have qi334 : (t333 < (y330.length : Int)) = True := eq_true (of_decide_eq_true (by first | (with_reducible assumption) | assumption))
                      have n0_ := Aside0.mk (Kd.R_drew HO314.out)
                      have n1_ := Aside0.mk (below_drew1 HB.out)
                      clear HO314
                      clear HB
                      have HO314 := n0_
                      have HB := n1_
                      clear n0_ n1_
                      have p327 : 0 ≤ (t316 : Int) := of_decide_eq_true (by first | (with_reducible assumption) | assumption)
                      have q327 : t316 < (t312.length : Int) := of_decide_eq_true (by first | (with_reducible assumption) | assumption)
                      obtain ⟨ad327, e327, hx327_0, hx327_1⟩ := at_T27 (Kd.R_reads' HO314.out).2.2 t316 p327 q327
                      cases e327
                      replace p327 := eq_true p327
                      replace q327 := eq_true q327
                      have p328 : 0 ≤ (t316 : Int) := of_decide_eq_true (by first | (with_reducible assumption) | assumption)
                      have q328 : t316 < (t312.length : Int) := of_decide_eq_true (by first | (with_reducible assumption) | assumption)
                      obtain ⟨ad328, e328, hx328_0, hx328_1⟩ := at_T27 (Kd.R_reads' HO314.out).2.2 t316 p328 q328
                      obtain rfl : ad327 = ad328 := (by injection e328)
                      replace p328 := eq_true p328
                      replace q328 := eq_true q328
                      have p329 : 0 ≤ (t316 : Int) := of_decide_eq_true (by first | (with_reducible assumption) | assumption)
                      have q329 : t316 < (t312.length : Int) := of_decide_eq_true (by first | (with_reducible assumption) | assumption)
                      obtain ⟨ad329, e329, hx329_0, hx329_1⟩ := at_T27 (Kd.R_reads' HO314.out).2.2 t316 p329 q329
                      obtain rfl : ad327 = ad329 := (by injection e329)
                      replace p329 := eq_true p329
                      replace q329 := eq_true q329
                      refine start_ (n := 28) (S := fun w' => w'.cell? (ad327.add ((t316).toNat * 2)) = some (.int .i64 ((rd_T27 t312 t316).f0)) ∧ w'.cell? ⟨(ad327.add ((t316).toNat * 2)).block, (ad327.add ((t316).toNat * 2)).off + 1, none⟩ = some (.int .i64 ((rd_T27 t312 t316).f1)) ∧ w'.cell? (ad327.add ((t316).toNat * 2)) = some (.int .i64 ((rd_T27 t312 t316).f0)) ∧ w'.cell? ⟨(ad327.add ((t316).toNat * 2)).block, (ad327.add ((t316).toNat * 2)).off + 1, none⟩ = some (.int .i64 ((rd_T27 t312 t316).f1)) ∧ w'.cell? (ad327.add ((t316).toNat * 2)) = some (.int .i64 ((rd_T27 t312 t316).f0)) ∧ w'.cell? ⟨(ad327.add ((t316).toNat * 2)).block, (ad327.add ((t316).toNat * 2)).off + 1, none⟩ = some (.int .i64 ((rd_T27 t312 t316).f1))) (ds := [27]) #[false, false, false, false, false, false, false, false, false, false, false, false, false, false, false, false, false, false, false, false, false, false, false, false, false, false, false, false] (by kernel_rfl) rfl rfl ⟨hx327_0, hx327_1, hx328_0, hx328_1, hx329_0, hx329_1⟩ (fun hHeld => ?_); refine with_tabW hyphenlaw3_SetRight.tab12 hyphenlaw3_SetRight.bits12 (fun HT_ HW_ => ?_)
                      generalize w16.drew = w41 at HO314 HB hx327_0 hx327_1 hx328_0 hx328_1 hx329_0 hx329_1 hHeld ⊢
                      refine pure_ (i := 0) (N := some 62) (v := ?_) (a' := ?_) #[true, false, false, false, false, false, false, false, false, false, false, false, false, false, false, false, false, false, false, false, false, false, false, false, false, false, false, false] rfl rfl (any_of HT_.out (by kernel_rfl)) (fun _ _ _ h => h) (Or.inl ⟨by rfl, ?_⟩) ?_ ?_
                      rotate_left
                      · intro w'
                        go_simp
                        with_reducible rfl
                      rotate_left
                      · simp only [Act.put, List.setIfInBounds_toArray, List.set_cons_zero, List.set_cons_succ, i64_w, i32_w]
                        rfl
                      refine pure_ (i := 1) (N := some 63) (v := ?_) (a' := ?_) #[true, true, false, false, false, false, false, false, false, false, false, false, false, false, false, false, false, false, false, false, false, false, false, false, false, false, false, false] rfl rfl (any_of HT_.out (by kernel_rfl)) (fun _ _ _ h => h) (Or.inl ⟨by rfl, ?_⟩) ?_ ?_
                      rotate_left
                      · intro w'
                        go_simp
                        with_reducible rfl
                      rotate_left
                      · simp only [Act.put, List.setIfInBounds_toArray, List.set_cons_zero, List.set_cons_succ, i64_w, i32_w]
                        rfl
                      refine pure_ (i := 2) (N := some 64) (v := ?_) (a' := ?_) #[true, true, true, false, false, false, false, false, false, false, false, false, false, false, false, false, false, false, false, false, false, false, false, false, false, false, false, false] rfl rfl (any_of HT_.out (by kernel_rfl)) (fun _ _ _ h => h) (Or.inl ⟨by rfl, ?_⟩) ?_ ?_
                      rotate_left
                      · intro w'
                        go_simp
                        with_reducible rfl
                      rotate_left
                      · simp only [Act.put, List.setIfInBounds_toArray, List.set_cons_zero, List.set_cons_succ, i64_w, i32_w]
                        rfl
                      refine pure_ (i := 3) (N := some 65) (v := ?_) (a' := ?_) #[true, true, true, true, false, false, false, false, false, false, false, false, false, false, false, false, false, false, false, false, false, false, false, false, false, false, false, false] rfl rfl (any_of HT_.out (by kernel_rfl)) (fun _ _ _ h => h) (Or.inl ⟨by rfl, ?_⟩) ?_ ?_
                      rotate_left
                      · intro w'
                        go_simp
                        with_reducible rfl
                      rotate_left
                      · simp only [Act.put, List.setIfInBounds_toArray, List.set_cons_zero, List.set_cons_succ, i64_w, i32_w]
                        rfl
                      refine pure_ (i := 4) (N := some 66) (v := ?_) (a' := ?_) #[true, true, true, true, true, false, false, false, false, false, false, false, false, false, false, false, false, false, false, false, false, false, false, false, false, false, false, false] rfl rfl (any_of HT_.out (by kernel_rfl)) (fun _ _ _ h => h) (Or.inl ⟨by rfl, ?_⟩) ?_ ?_
                      rotate_left
                      · intro w'
                        go_simp
                        with_reducible rfl
                      rotate_left
                      · simp only [Act.put, List.setIfInBounds_toArray, List.set_cons_zero, List.set_cons_succ, i64_w, i32_w]
                        rfl
                      refine pure_ (i := 5) (N := some 67) (v := ?_) (a' := ?_) #[true, true, true, true, true, true, false, false, false, false, false, false, false, false, false, false, false, false, false, false, false, false, false, false, false, false, false, false] rfl rfl (any_of HT_.out (by kernel_rfl)) (fun _ _ _ h => h) (Or.inl ⟨by rfl, ?_⟩) ?_ ?_
                      rotate_left
                      · intro w'
                        go_simp
                        with_reducible rfl
                      rotate_left
                      · simp only [Act.put, List.setIfInBounds_toArray, List.set_cons_zero, List.set_cons_succ, i64_w, i32_w]
                        rfl
                      refine pure_ (i := 8) (N := some 70) (v := ?_) (a' := ?_) #[true, true, true, true, true, true, false, false, true, false, false, false, false, false, false, false, false, false, false, false, false, false, false, false, false, false, false, false] rfl rfl (any_of HT_.out (by kernel_rfl)) (fun _ _ _ h => h) (Or.inl ⟨by rfl, ?_⟩) ?_ ?_
                      rotate_left
                      · intro w'
                        go_simp
                        with_reducible rfl
                      rotate_left
                      · simp only [Act.put, List.setIfInBounds_toArray, List.set_cons_zero, List.set_cons_succ, i64_w, i32_w]
                        rfl
                      refine pure_ (i := 9) (N := some 71) (v := ?_) (a' := ?_) #[true, true, true, true, true, true, false, false, true, true, false, false, false, false, false, false, false, false, false, false, false, false, false, false, false, false, false, false] rfl rfl (any_of HT_.out (by kernel_rfl)) (fun _ _ _ h => h) (Or.inl ⟨by rfl, ?_⟩) ?_ ?_
                      rotate_left
                      · intro w'
                        go_simp
                        with_reducible rfl
                      rotate_left
                      · simp only [Act.put, List.setIfInBounds_toArray, List.set_cons_zero, List.set_cons_succ, i64_w, i32_w]
                        rfl
                      refine pure_ (i := 10) (N := some 72) (v := ?_) (a' := ?_) #[true, true, true, true, true, true, false, false, true, true, true, false, false, false, false, false, false, false, false, false, false, false, false, false, false, false, false, false] rfl rfl (any_of HT_.out (by kernel_rfl)) (fun _ _ _ h => h) (Or.inl ⟨by rfl, ?_⟩) ?_ ?_
                      rotate_left
                      · intro w'
                        go_simp
                        with_reducible rfl
                      rotate_left
                      · simp only [Act.put, List.setIfInBounds_toArray, List.set_cons_zero, List.set_cons_succ, i64_w, i32_w]
                        rfl
                      refine pure_ (i := 11) (N := some 73) (v := ?_) (a' := ?_) #[true, true, true, true, true, true, false, false, true, true, true, true, false, false, false, false, false, false, false, false, false, false, false, false, false, false, false, false] rfl rfl (any_of HT_.out (by kernel_rfl)) (fun _ _ _ h => h) (Or.inl ⟨by rfl, ?_⟩) ?_ ?_
                      rotate_left
                      · intro w'
                        go_simp
                        with_reducible rfl
                      rotate_left
                      · simp only [Act.put, List.setIfInBounds_toArray, List.set_cons_zero, List.set_cons_succ, i64_w, i32_w]
                        rfl
                      refine pure_ (i := 13) (N := some 75) (v := ?_) (a' := ?_) #[true, true, true, true, true, true, false, false, true, true, true, true, false, true, false, false, false, false, false, false, false, false, false, false, false, false, false, false] rfl rfl (any_of HT_.out (by kernel_rfl)) (fun _ _ _ h => h) (Or.inl ⟨by rfl, ?_⟩) ?_ ?_
                      rotate_left
                      · intro w'
                        go_simp
                        with_reducible rfl
                      rotate_left
                      · simp only [Act.put, List.setIfInBounds_toArray, List.set_cons_zero, List.set_cons_succ, i64_w, i32_w]
                        rfl
                      refine pure_ (i := 14) (N := some 76) (v := ?_) (a' := ?_) #[true, true, true, true, true, true, false, false, true, true, true, true, false, true, true, false, false, false, false, false, false, false, false, false, false, false, false, false] rfl rfl (any_of HT_.out (by kernel_rfl)) (fun _ _ _ h => h) (Or.inl ⟨by rfl, ?_⟩) ?_ ?_
                      rotate_left
                      · intro w'
                        go_simp
                        with_reducible rfl
                      rotate_left
                      · simp only [Act.put, List.setIfInBounds_toArray, List.set_cons_zero, List.set_cons_succ, i64_w, i32_w]
                        rfl
                      refine pure_ (i := 15) (N := some 77) (v := ?_) (a' := ?_) #[true, true, true, true, true, true, false, false, true, true, true, true, false, true, true, true, false, false, false, false, false, false, false, false, false, false, false, false] rfl rfl (any_of HT_.out (by kernel_rfl)) (fun _ _ _ h => h) (Or.inl ⟨by rfl, ?_⟩) ?_ ?_
                      rotate_left
                      · intro w'
                        go_simp
                        with_reducible rfl
                      rotate_left
                      · simp only [Act.put, List.setIfInBounds_toArray, List.set_cons_zero, List.set_cons_succ, i64_w, i32_w]
                        rfl
                      refine pure_ (i := 16) (N := some 78) (v := ?_) (a' := ?_) #[true, true, true, true, true, true, false, false, true, true, true, true, false, true, true, true, true, false, false, false, false, false, false, false, false, false, false, false] rfl rfl (any_of HT_.out (by kernel_rfl)) (fun _ _ _ h => h) (Or.inl ⟨by rfl, ?_⟩) ?_ ?_
                      rotate_left
                      · intro w'
                        go_simp
                        with_reducible rfl
                      rotate_left
                      · simp only [Act.put, List.setIfInBounds_toArray, List.set_cons_zero, List.set_cons_succ, i64_w, i32_w]
                        rfl
                      refine pure_ (i := 19) (N := some 81) (v := ?_) (a' := ?_) #[true, true, true, true, true, true, false, false, true, true, true, true, false, true, true, true, true, false, false, true, false, false, false, false, false, false, false, false] rfl rfl (any_of HT_.out (by kernel_rfl)) (fun _ _ _ h => h) (Or.inl ⟨by rfl, ?_⟩) ?_ ?_
                      rotate_left
                      · intro w'
                        go_simp
                        with_reducible rfl
                      rotate_left
                      · simp only [Act.put, List.setIfInBounds_toArray, List.set_cons_zero, List.set_cons_succ, i64_w, i32_w]
                        rfl
                      refine pure_ (i := 21) (N := some 83) (v := ?_) (a' := ?_) #[true, true, true, true, true, true, false, false, true, true, true, true, false, true, true, true, true, false, false, true, false, true, false, false, false, false, false, false] rfl rfl (any_of HT_.out (by kernel_rfl)) (fun _ _ _ h => h) (Or.inl ⟨by rfl, ?_⟩) ?_ ?_
                      rotate_left
                      · intro w'
                        go_simp
                        with_reducible rfl
                      rotate_left
                      · simp only [Act.put, List.setIfInBounds_toArray, List.set_cons_zero, List.set_cons_succ, i64_w, i32_w]
                        rfl
                      refine take_ (i := 6) (N := some 68) (v := ?_) (a' := ?_) #[true, true, true, true, true, true, true, false, true, true, true, true, false, true, true, true, true, false, false, true, false, true, false, false, false, false, false, false] rfl rfl (take_ofW HT_.out HW_.out (by kernel_rfl)) (fun _ _ _ h => h) (Or.inl ⟨by rfl, ?_⟩) hHeld ?_ ?_
                      rotate_left
                      · rintro w' ⟨s0, s1, s2, s3, s4, s5⟩
                        go_simp
                        with_reducible rfl
                      rotate_left
                      · simp only [Act.put, List.setIfInBounds_toArray, List.set_cons_zero, List.set_cons_succ, i64_w, i32_w]
                        rfl
                      refine pure_ (i := 7) (N := some 69) (v := ?_) (a' := ?_) #[true, true, true, true, true, true, true, true, true, true, true, true, false, true, true, true, true, false, false, true, false, true, false, false, false, false, false, false] rfl rfl (any_of HT_.out (by kernel_rfl)) (fun _ _ _ h => h) (Or.inl ⟨by rfl, ?_⟩) ?_ ?_
                      rotate_left
                      · intro w'
                        go_simp
                        with_reducible rfl
                      rotate_left
                      · simp only [Act.put, List.setIfInBounds_toArray, List.set_cons_zero, List.set_cons_succ, i64_w, i32_w]
                        rfl
                      refine take_ (i := 12) (N := some 74) (v := ?_) (a' := ?_) #[true, true, true, true, true, true, true, true, true, true, true, true, true, true, true, true, true, false, false, true, false, true, false, false, false, false, false, false] rfl rfl (take_ofW HT_.out HW_.out (by kernel_rfl)) (fun _ _ _ h => h) (Or.inl ⟨by rfl, ?_⟩) hHeld ?_ ?_
                      rotate_left
                      · rintro w' ⟨s0, s1, s2, s3, s4, s5⟩
                        go_simp
                        with_reducible rfl
                      rotate_left
                      · simp only [Act.put, List.setIfInBounds_toArray, List.set_cons_zero, List.set_cons_succ, i64_w, i32_w]
                        rfl
                      refine take_ (i := 17) (N := some 79) (v := ?_) (a' := ?_) #[true, true, true, true, true, true, true, true, true, true, true, true, true, true, true, true, true, true, false, true, false, true, false, false, false, false, false, false] rfl rfl (take_ofW HT_.out HW_.out (by kernel_rfl)) (fun _ _ _ h => h) (Or.inl ⟨by rfl, ?_⟩) hHeld ?_ ?_
                      rotate_left
                      · rintro w' ⟨s0, s1, s2, s3, s4, s5⟩
                        go_simp
                        with_reducible rfl
                      rotate_left
                      · simp only [Act.put, List.setIfInBounds_toArray, List.set_cons_zero, List.set_cons_succ, i64_w, i32_w]
                        rfl
                      refine pure_ (i := 18) (N := some 80) (v := ?_) (a' := ?_) #[true, true, true, true, true, true, true, true, true, true, true, true, true, true, true, true, true, true, true, true, false, true, false, false, false, false, false, false] rfl rfl (any_of HT_.out (by kernel_rfl)) (fun _ _ _ h => h) (Or.inl ⟨by rfl, ?_⟩) ?_ ?_
                      rotate_left
                      · intro w'
                        go_simp
                        with_reducible rfl
                      rotate_left
                      · simp only [Act.put, List.setIfInBounds_toArray, List.set_cons_zero, List.set_cons_succ, i64_w, i32_w]
                        rfl
                      refine join_ (σ := Value × Addr) 5 #[true, true, true, true, true, true, true, true, true, true, true, true, true, true, true, true, true, true, true, true, true, true, true, false, false, false, false, false] (fun s_ => [(82, s_.1), (84, .int .i64 t333)]) (fun s_ w' => (w'.cell? (ad327.add ((t316).toNat * 2)) = some (.int .i64 ((rd_T27 t312 t316).f0)) ∧ w'.cell? ⟨(ad327.add ((t316).toNat * 2)).block, (ad327.add ((t316).toNat * 2)).off + 1, none⟩ = some (.int .i64 ((rd_T27 t312 t316).f1)) ∧ w'.cell? (ad327.add ((t316).toNat * 2)) = some (.int .i64 ((rd_T27 t312 t316).f0)) ∧ w'.cell? ⟨(ad327.add ((t316).toNat * 2)).block, (ad327.add ((t316).toNat * 2)).off + 1, none⟩ = some (.int .i64 ((rd_T27 t312 t316).f1)) ∧ w'.cell? (ad327.add ((t316).toNat * 2)) = some (.int .i64 ((rd_T27 t312 t316).f0)) ∧ w'.cell? ⟨(ad327.add ((t316).toNat * 2)).block, (ad327.add ((t316).toNat * 2)).off + 1, none⟩ = some (.int .i64 ((rd_T27 t312 t316).f1))) ∧ (Kd.R k27 27 w' w.heap.size (fun _ => True) (.slice (some ad327) t312.length co15) t312) ∧ (Kd.R (Kd.int .i64) 3 w' w.heap.size (fun _ => True) s_.1 y330) ∧ (∃ c_, (s_.1 : Value) = .slice (some s_.2) y330.length c_) ∧ (Below w.heap.size w w')) ?_ ?_
                      rotate_left
                      · intro hCont
                        refine two_ (i := 20) (j := 22) (Ni := some 82) (Nj := some 84) #[true, true, true, true, true, true, true, true, true, true, true, true, true, true, true, true, true, true, true, true, true, true, false, false, false, false, false, false] #[true, true, true, true, true, true, true, true, true, true, true, true, true, true, true, true, true, true, true, true, false, true, true, false, false, false, false, false] rfl rfl rfl rfl (two_of HT_.out (by kernel_rfl)) (by decide) (by decide) (fun K hK => ?_) (fun K hK => ?_)
                        · skip
                          refine Kd.R_lit_step (Kd.int .i64) _ 3 ?hg (N := 82) ?hd (xs := ([wrap64 (((rd_T27 t312 t316).f1) + 1), (rd_T27 t312 t316).f0, wrap64 (((rd_T27 t312 t316).f0) - 1), 1114112, a3] : List Int)) (inner := [.int .i64 (wrap64 (((rd_T27 t312 t316).f1) + 1)), .int .i64 ((rd_T27 t312 t316).f0), .int .i64 (wrap64 (((rd_T27 t312 t316).f0) - 1)), .int .i64 1114112, .int .i64 a3]) (ok := fun _ => True) (okp := fun _ => True) ?hr ?hp (fun _ hk => hk) trivial (Below.refl _ _) (Nat.le_refl _) (by simp) ?_; (case hd => rfl); (case hg => rfl); (case hr => first | (go_simp; done) | (go_simp; rfl)); (case hp => exact (Reps.one (show Kd.M (Kd.int .i64) _ _ _ (wrap64 (((rd_T27 t312 t316).f1) + 1)) [.int .i64 (wrap64 (((rd_T27 t312 t316).f1) + 1))] from rfl) (Reps.one (show Kd.M (Kd.int .i64) _ _ _ ((rd_T27 t312 t316).f0) [.int .i64 ((rd_T27 t312 t316).f0)] from rfl) (Reps.one (show Kd.M (Kd.int .i64) _ _ _ (wrap64 (((rd_T27 t312 t316).f0) - 1)) [.int .i64 (wrap64 (((rd_T27 t312 t316).f0) - 1))] from rfl) (Reps.one (show Kd.M (Kd.int .i64) _ _ _ 1114112 [.int .i64 1114112] from rfl) (Reps.one (show Kd.M (Kd.int .i64) _ _ _ a3 [.int .i64 a3] from rfl) (Reps.none _ _)))))))
                          intro v331 w42 ho43 hb hg_ hnew_
                          have HS0_ := (hb.cell (World.block_lt_of_cell? _ _ (hHeld.1))).trans (hHeld.1)
                          have HS1_ := (hb.cell (World.block_lt_of_cell? _ _ (hHeld.2.1))).trans (hHeld.2.1)
                          have HS2_ := (hb.cell (World.block_lt_of_cell? _ _ (hHeld.2.2.1))).trans (hHeld.2.2.1)
                          have HS3_ := (hb.cell (World.block_lt_of_cell? _ _ (hHeld.2.2.2.1))).trans (hHeld.2.2.2.1)
                          have HS4_ := (hb.cell (World.block_lt_of_cell? _ _ (hHeld.2.2.2.2.1))).trans (hHeld.2.2.2.2.1)
                          have HS5_ := (hb.cell (World.block_lt_of_cell? _ _ (hHeld.2.2.2.2.2))).trans (hHeld.2.2.2.2.2)
                          clear hg_ hnew_
                          (first | rw [← Ny330.out] at ho43 | (simp only [Int.reduceToNat] at ho43; rw [← Ny330.out] at ho43))
                          have n0_ := Aside0.mk (Kd.R_below (by (with_reducible repeat (first | apply Kd.R_alloc | apply Kd.R_drewN | apply Kd.R_drew)); exact HO314.out) hb)
                          have n1_ := Aside0.mk (Kd.R_lower ho43 (below_size (by repeat (first | (with_reducible first | exact HB.out | apply below_alloc | apply pw_below_drewN | apply below_drew1) | exact HB.out))))
                          have n2_ := Aside0.mk (below_step (by repeat (first | (with_reducible first | exact HB.out | apply below_alloc | apply pw_below_drewN | apply below_drew1) | exact HB.out)) hb)
                          clear HO314
                          clear HB
                          have HO314 := n0_
                          have HO332 := n1_
                          have HB := n2_
                          clear n0_ n1_ n2_
                          clear hb ho43
                          obtain ⟨Ao44, co44, eo44⟩ := Kd.R_slice HO332.out
                          subst eo44
                          obtain ⟨ado44, fo44, _⟩ := Kd.at_int (Kd.R_reads' HO332.out).2.2 0 (by decide) (by rw [Ny330.out]; simp)
                          cases fo44
                          refine hK.out _ _ ⟨HS0_, HS1_, HS2_, HS3_, HS4_, HS5_⟩ (fun hHeld => ?_)
                          clear hK K
                          refine norm_ (a' := ?_) ?_ ?_
                          rotate_left
                          · show Act.put _ (some 82) _ = _
                            simp only [Act.put, List.setIfInBounds_toArray, List.set_cons_zero, List.set_cons_succ, i64_w, i32_w]
                            rfl
                          refine one_ (i := 22) (N := some 84) #[true, true, true, true, true, true, true, true, true, true, true, true, true, true, true, true, true, true, true, true, true, true, true, false, false, false, false, false] rfl rfl (one_of HT_.out (by kernel_rfl)) (by decide) (fun K hK => ?_)
                          refine goes_ Try.func18 (by kernel_rfl) rfl #[.int .i64 a3, .int .i64 5] (by rfl) rfl rfl (by (try simp only [List.map_toArray, List.map_cons, List.map_nil]); first | done | rfl | (simp only [List.length_drop, List.length_take]; rfl)) ?_
                          with_reducible refine (hyphenlaw3_within.calls a3 5 t333 _ A37.out).mono ?_
                          rintro e w' ⟨rfl, ⟨nd, rfl⟩⟩
                          refine ⟨_, rfl, ?_⟩
                          refine hK.out _ _ ⟨hHeld.1, hHeld.2.1, hHeld.2.2.1, hHeld.2.2.2.1, hHeld.2.2.2.2.1, hHeld.2.2.2.2.2⟩ (fun hHeld => ?_)
                          clear hK K
                          refine norm_ (a' := ?_) ?_ ?_
                          rotate_left
                          · show Act.put _ (some 84) _ = _
                            simp only [Act.put, List.setIfInBounds_toArray, List.set_cons_zero, List.set_cons_succ, i64_w, i32_w]
                            rfl
                          exact norm_ (by simp only [putAll, Act.put, List.setIfInBounds_toArray, List.set_cons_zero, List.set_cons_succ]) (hCont (.slice (some ado44) y330.length co44, ado44) _ ⟨hHeld, (by (with_reducible repeat (first | apply Kd.R_alloc | apply Kd.R_drewN | apply Kd.R_drew)); exact HO314.out), (by (with_reducible repeat (first | apply Kd.R_alloc | apply Kd.R_drewN | apply Kd.R_drew)); exact HO332.out), ⟨_, rfl⟩, (by repeat (first | (with_reducible first | exact HB.out | apply below_alloc | apply pw_below_drewN | apply below_drew1) | exact HB.out))⟩)
                        · skip
                          refine goes_ Try.func18 (by kernel_rfl) rfl #[.int .i64 a3, .int .i64 5] (by rfl) rfl rfl (by (try simp only [List.map_toArray, List.map_cons, List.map_nil]); first | done | rfl | (simp only [List.length_drop, List.length_take]; rfl)) ?_
                          with_reducible refine (hyphenlaw3_within.calls a3 5 t333 _ A37.out).mono ?_
                          rintro e w' ⟨rfl, ⟨nd, rfl⟩⟩
                          refine ⟨_, rfl, ?_⟩
                          refine hK.out _ _ ⟨hHeld.1, hHeld.2.1, hHeld.2.2.1, hHeld.2.2.2.1, hHeld.2.2.2.2.1, hHeld.2.2.2.2.2⟩ (fun hHeld => ?_)
                          clear hK K
                          refine norm_ (a' := ?_) ?_ ?_
                          rotate_left
                          · show Act.put _ (some 84) _ = _
                            simp only [Act.put, List.setIfInBounds_toArray, List.set_cons_zero, List.set_cons_succ, i64_w, i32_w]
                            rfl
                          refine one_ (i := 20) (N := some 82) #[true, true, true, true, true, true, true, true, true, true, true, true, true, true, true, true, true, true, true, true, true, true, true, false, false, false, false, false] rfl rfl (one_of HT_.out (by kernel_rfl)) (by decide) (fun K hK => ?_)
                          refine Kd.R_lit_step (Kd.int .i64) _ 3 ?hg (N := 82) ?hd (xs := ([wrap64 (((rd_T27 t312 t316).f1) + 1), (rd_T27 t312 t316).f0, wrap64 (((rd_T27 t312 t316).f0) - 1), 1114112, a3] : List Int)) (inner := [.int .i64 (wrap64 (((rd_T27 t312 t316).f1) + 1)), .int .i64 ((rd_T27 t312 t316).f0), .int .i64 (wrap64 (((rd_T27 t312 t316).f0) - 1)), .int .i64 1114112, .int .i64 a3]) (ok := fun _ => True) (okp := fun _ => True) ?hr ?hp (fun _ hk => hk) trivial (Below.refl _ _) (Nat.le_refl _) (by simp) ?_; (case hd => rfl); (case hg => rfl); (case hr => first | (go_simp; done) | (go_simp; rfl)); (case hp => exact (Reps.one (show Kd.M (Kd.int .i64) _ _ _ (wrap64 (((rd_T27 t312 t316).f1) + 1)) [.int .i64 (wrap64 (((rd_T27 t312 t316).f1) + 1))] from rfl) (Reps.one (show Kd.M (Kd.int .i64) _ _ _ ((rd_T27 t312 t316).f0) [.int .i64 ((rd_T27 t312 t316).f0)] from rfl) (Reps.one (show Kd.M (Kd.int .i64) _ _ _ (wrap64 (((rd_T27 t312 t316).f0) - 1)) [.int .i64 (wrap64 (((rd_T27 t312 t316).f0) - 1))] from rfl) (Reps.one (show Kd.M (Kd.int .i64) _ _ _ 1114112 [.int .i64 1114112] from rfl) (Reps.one (show Kd.M (Kd.int .i64) _ _ _ a3 [.int .i64 a3] from rfl) (Reps.none _ _)))))))
                          intro v331 w42 ho43 hb hg_ hnew_
                          have HS0_ := (hb.cell (World.block_lt_of_cell? _ _ (hHeld.1))).trans (hHeld.1)
                          have HS1_ := (hb.cell (World.block_lt_of_cell? _ _ (hHeld.2.1))).trans (hHeld.2.1)
                          have HS2_ := (hb.cell (World.block_lt_of_cell? _ _ (hHeld.2.2.1))).trans (hHeld.2.2.1)
                          have HS3_ := (hb.cell (World.block_lt_of_cell? _ _ (hHeld.2.2.2.1))).trans (hHeld.2.2.2.1)
                          have HS4_ := (hb.cell (World.block_lt_of_cell? _ _ (hHeld.2.2.2.2.1))).trans (hHeld.2.2.2.2.1)
                          have HS5_ := (hb.cell (World.block_lt_of_cell? _ _ (hHeld.2.2.2.2.2))).trans (hHeld.2.2.2.2.2)
                          clear hg_ hnew_
                          (first | rw [← Ny330.out] at ho43 | (simp only [Int.reduceToNat] at ho43; rw [← Ny330.out] at ho43))
                          have n0_ := Aside0.mk (Kd.R_below (by (with_reducible repeat (first | apply Kd.R_alloc | apply Kd.R_drewN | apply Kd.R_drew)); exact HO314.out) hb)
                          have n1_ := Aside0.mk (Kd.R_lower ho43 (below_size (by repeat (first | (with_reducible first | exact HB.out | apply below_alloc | apply pw_below_drewN | apply below_drew1) | exact HB.out))))
                          have n2_ := Aside0.mk (below_step (by repeat (first | (with_reducible first | exact HB.out | apply below_alloc | apply pw_below_drewN | apply below_drew1) | exact HB.out)) hb)
                          clear HO314
                          clear HB
                          have HO314 := n0_
                          have HO332 := n1_
                          have HB := n2_
                          clear n0_ n1_ n2_
                          clear hb ho43
                          obtain ⟨Ao44, co44, eo44⟩ := Kd.R_slice HO332.out
                          subst eo44
                          obtain ⟨ado44, fo44, _⟩ := Kd.at_int (Kd.R_reads' HO332.out).2.2 0 (by decide) (by rw [Ny330.out]; simp)
                          cases fo44
                          refine hK.out _ _ ⟨HS0_, HS1_, HS2_, HS3_, HS4_, HS5_⟩ (fun hHeld => ?_)
                          clear hK K
                          refine norm_ (a' := ?_) ?_ ?_
                          rotate_left
                          · show Act.put _ (some 82) _ = _
                            simp only [Act.put, List.setIfInBounds_toArray, List.set_cons_zero, List.set_cons_succ, i64_w, i32_w]
                            rfl
                          exact norm_ (by simp only [putAll, Act.put, List.setIfInBounds_toArray, List.set_cons_zero, List.set_cons_succ]) (hCont (.slice (some ado44) y330.length co44, ado44) _ ⟨hHeld, (by (with_reducible repeat (first | apply Kd.R_alloc | apply Kd.R_drewN | apply Kd.R_drew)); exact HO314.out), (by (with_reducible repeat (first | apply Kd.R_alloc | apply Kd.R_drewN | apply Kd.R_drew)); exact HO332.out), ⟨_, rfl⟩, (by repeat (first | (with_reducible first | exact HB.out | apply below_alloc | apply pw_below_drewN | apply below_drew1) | exact HB.out))⟩)
                      rintro ⟨v331, adz_v331⟩ w45 ⟨hS_, h0_, h1_, h2_, h3_⟩
                      have n0_ : Aside0 (Kd.R k27 27 w45 w.heap.size (fun _ => True) (.slice (some ad327) t312.length co15) t312) := ⟨h0_⟩
                      have n1_ : Aside0 (Kd.R (Kd.int .i64) 3 w45 w.heap.size (fun _ => True) v331 y330) := ⟨h1_⟩
                      have n2_ : Aside0 (∃ c_, (v331 : Value) = .slice (some adz_v331) y330.length c_) := ⟨h2_⟩
                      have n3_ : Aside0 (Below w.heap.size w w45) := ⟨h3_⟩
                      clear HO314
                      clear HB
                      clear h0_ h1_ h2_ h3_
                      have HO314 := n0_
                      have HO332 := n1_
                      have HA_HO332 := n2_
                      have HB := n3_
                      clear n0_ n1_ n2_ n3_
                      have hHeld : w45.cell? (ad327.add ((t316).toNat * 2)) = some (.int .i64 ((rd_T27 t312 t316).f0)) ∧ w45.cell? ⟨(ad327.add ((t316).toNat * 2)).block, (ad327.add ((t316).toNat * 2)).off + 1, none⟩ = some (.int .i64 ((rd_T27 t312 t316).f1)) ∧ w45.cell? (ad327.add ((t316).toNat * 2)) = some (.int .i64 ((rd_T27 t312 t316).f0)) ∧ w45.cell? ⟨(ad327.add ((t316).toNat * 2)).block, (ad327.add ((t316).toNat * 2)).off + 1, none⟩ = some (.int .i64 ((rd_T27 t312 t316).f1)) ∧ w45.cell? (ad327.add ((t316).toNat * 2)) = some (.int .i64 ((rd_T27 t312 t316).f0)) ∧ w45.cell? ⟨(ad327.add ((t316).toNat * 2)).block, (ad327.add ((t316).toNat * 2)).off + 1, none⟩ = some (.int .i64 ((rd_T27 t312 t316).f1)) := hS_
                      obtain ⟨co46, eo46⟩ := HA_HO332.out
                      clear HA_HO332
                      subst eo46
                      have p40 : 0 ≤ (t316 : Int) := of_decide_eq_true (by first | (with_reducible assumption) | assumption)
                      have q40 : (t316 : Int) < ((t312.length : Int) : Int) := of_decide_eq_true (by first | (with_reducible assumption) | assumption)
                      obtain ⟨go40, co40, eo40, gb40, gl40, cl40, HG40⟩ := Kd.R_form HO314.out (by omega)
                      (first | cases eo40 | (injection eo40 with ea_ en_ ec_; (first | subst ea_ | (injection ea_ with ea_; subst ea_)); subst ec_; clear en_))
                      have GB40 := Aside0.mk gb40
                      have GG40 := Aside0.mk HG40
                      clear gb40 gl40 HG40
                      (first | simp only [add_plain] at hx327_0 | skip)
                      (first | simp only [add_plain] at hx327_1 | skip)
                      (first | simp only [add_plain] at hx328_0 | skip)
                      (first | simp only [add_plain] at hx328_1 | skip)
                      (first | simp only [add_plain] at hx329_0 | skip)
                      (first | simp only [add_plain] at hx329_1 | skip)
                      obtain ⟨ce40, hcl40, hM40, hcc40, hfr40⟩ := Kd.R_elem HO314.out z27 (t316 : Int) p40 q40
                      obtain rfl := k27_openM hM40
                      have hx40_0 : World.cell? _ ⟨go40, (t316 : Int).toNat * 2, none⟩ = some (.int .i64 ((rd_T27 t312 t316).f0)) := hcc40 0 _ rfl
                      have hx40_1 : World.cell? _ ⟨go40, (t316 : Int).toNat * 2 + 1, none⟩ = some (.int .i64 ((rd_T27 t312 t316).f1)) := hcc40 1 _ rfl
                      have hf40_0 : World.frozen? _ ⟨go40, (t316 : Int).toNat * 2, none⟩ = false := hfr40 0
                      have hf40_1 : World.frozen? _ ⟨go40, (t316 : Int).toNat * 2 + 1, none⟩ = false := hfr40 1
                      clear hcl40 hcc40 hfr40 hM40
                      replace p40 := eq_true p40
                      replace q40 := eq_true q40
                      obtain ⟨ce47, hcl47, hM47, hcc47, hfr47⟩ := Kd.R_elem HO314.out z27 (t316 : Int) (of_decide_eq_true (by first | (with_reducible assumption) | assumption)) (by have h_ : (t316 : Int) < ((t312.length : Int) : Int) := of_decide_eq_true (by first | (with_reducible assumption) | assumption); first | exact h_ | (have e_ := (Kd.R_reads' HO314.out).1; omega) | simpa using h_)
                      obtain rfl := k27_openM hM47
                      have HP47 := (Kd.R_seg HO314.out (t316 : Int) (of_decide_eq_true (by first | (with_reducible assumption) | assumption)) (by have h_ : (t316 : Int) < ((t312.length : Int) : Int) := of_decide_eq_true (by first | (with_reducible assumption) | assumption); first | exact h_ | (have e_ := (Kd.R_reads' HO314.out).1; omega) | simpa using h_) (seg := [.int .i64 (rd y330 t333)]) (j := 1) hcl47 hcc47 (show 2 ≤ 2 from by decide) (x' := (⟨(rd_T27 t312 t316).f0, rd y330 t333⟩ : S27)) (k27_mkM _ _ _ (⟨(rd_T27 t312 t316).f0, rd y330 t333⟩ : S27) ) (fun _ hk => hk)).1
                      rw [← Ny335.out] at HP47
                      have HQ47 := Aside0.mk HP47
                      clear hcl47 hcc47 hfr47 hM47 HP47
                      refine norm_ (a' := ?_) ?_ ?_
                      rotate_left
                      · simp only [putAll, Act.put, List.setIfInBounds_toArray, List.set_cons_zero, List.set_cons_succ]
                        rfl
                      refine pure_ (i := 23) (N := some 85) (v := ?_) (a' := ?_) #[true, true, true, true, true, true, true, true, true, true, true, true, true, true, true, true, true, true, true, true, true, true, true, true, false, false, false, false] rfl rfl (any_of HT_.out (by kernel_rfl)) (fun _ _ _ h => h) (Or.inl ⟨by rfl, ?_⟩) ?_ ?_
                      rotate_left
                      · intro w'
                        go_simp
                        with_reducible rfl
                      rotate_left
                      · simp only [Act.put, List.setIfInBounds_toArray, List.set_cons_zero, List.set_cons_succ, i64_w, i32_w]
                        rfl
                      refine one_ (i := 24) (N := some 86) #[true, true, true, true, true, true, true, true, true, true, true, true, true, true, true, true, true, true, true, true, true, true, true, true, true, false, false, false] rfl rfl (one_of HT_.out (by kernel_rfl)) (by decide) (fun K hK => ?_)
                      (have p334 : 0 ≤ (t333 : Int) := of_decide_eq_true (by first | (with_reducible assumption) | assumption); have q334 : t333 < (y330.length : Int) := of_decide_eq_true (by first | (with_reducible assumption) | assumption); obtain ⟨ad334, e334, hx334_0⟩ := Kd.at_int (Kd.R_reads' HO332.out).2.2 t333 p334 q334; obtain rfl : adz_v331 = ad334 := (by injection e334))
                      refine value_ (w1 := ?_) (v := ?_) (by rfl) rfl ?_ ?_
                      rotate_left 2
                      · go_simp
                        constructor
                        · rfl
                        · rfl
                      clear hx334_0
                      refine hK.out _ _ ⟨hHeld.1, hHeld.2.1, hHeld.2.2.1, hHeld.2.2.2.1, hHeld.2.2.2.2.1, hHeld.2.2.2.2.2⟩ (fun hHeld => ?_)
                      clear hK K
                      refine norm_ (a' := ?_) ?_ ?_
                      rotate_left
                      · show Act.put _ (some 86) _ = _
                        simp only [Act.put, List.setIfInBounds_toArray, List.set_cons_zero, List.set_cons_succ, i64_w, i32_w]
                        rfl
                      refine pure_ (i := 25) (N := some 87) (v := ?_) (a' := ?_) #[true, true, true, true, true, true, true, true, true, true, true, true, true, true, true, true, true, true, true, true, true, true, true, true, true, true, false, false] rfl rfl (any_of HT_.out (by kernel_rfl)) (fun _ _ _ h => h) (Or.inl ⟨by rfl, ?_⟩) ?_ ?_
                      rotate_left
                      · intro w'
                        go_simp
                        with_reducible rfl
                      rotate_left
                      · simp only [Act.put, List.setIfInBounds_toArray, List.set_cons_zero, List.set_cons_succ, i64_w, i32_w]
                        rfl
                      refine pure_ (i := 26) (N := some 88) (v := ?_) (a' := ?_) #[true, true, true, true, true, true, true, true, true, true, true, true, true, true, true, true, true, true, true, true, true, true, true, true, true, true, true, false] rfl rfl (any_of HT_.out (by kernel_rfl)) (fun _ _ _ h => h) (Or.inl ⟨by rfl, ?_⟩) ?_ ?_
                      rotate_left
                      · intro w'
                        go_simp
                        with_reducible rfl
                      rotate_left
                      · simp only [Act.put, List.setIfInBounds_toArray, List.set_cons_zero, List.set_cons_succ, i64_w, i32_w]
                        rfl
                      refine last_ (i := 27) (N := none) #[true, true, true, true, true, true, true, true, true, true, true, true, true, true, true, true, true, true, true, true, true, true, true, true, true, true, true, true] rfl rfl (one_of HT_.out (by kernel_rfl)) (by decide) (fun K hK => ?_)
                      refine skip_ (w1 := ?_) (by rfl) rfl ?_ ?_
                      rotate_left
                      · go_simp
                        rfl
                      refine hK.out _ _ ?_
                      clear hK K
                      refine done_ (done_of HT_.out (by kernel_rfl)) ?_
                      try go_wp2
                      go_meet
                      case rel => exact ⟨_, (y335), H', ⟨by first | omega | exact Nat.le_refl _⟩, ⟨by (with_reducible repeat (first | apply Kd.R_alloc | apply Kd.R_drewN | apply Kd.R_drew)); exact HQ47.out⟩, ⟨by repeat (first | (with_reducible first | exact HB.out | apply below_alloc | apply pw_below_drewN | apply below_drew1 | refine below_set ?_ GB40.out) | exact HB.out)⟩⟩
                    · rw [if_neg c39] at H
                      exact absurd H (by simp)
                  · rw [if_neg c38] at H
                    exact absurd H (by simp)
                · rw [if_neg c36] at H
                  exact absurd H (by simp)
              · rw [if_neg c35] at H
                exact absurd H (by simp)
            · rw [if_neg c34] at H
              have c34b0 : (t317 == 1) = false := beq_eq_false_iff_ne.mpr c34
              have c34b1 : (t317 != 1) = true := bne_iff_ne.mpr c34
              by_cases c48 : t317 = 2
              · rw [if_pos c48] at H
                have c48b0 : (t317 == 2) = true := beq_iff_eq.mpr c48
                have c48b1 : (t317 != 2) = false := bne_eq_false_iff_eq.mpr c48
                clear c48
                by_cases c49 : 0 < (t312.length : Int)
                · rw [if_pos c49] at H
                  have c49b0 : decide (0 < (t312.length : Int)) = true := decide_eq_true c49
                  have c49b1 : decide (0 < t312.length) = true := decide_eq_true (by omega)
                  clear c49
                  by_cases c50 : 0 ≤ t316
                  · rw [if_pos c50] at H
                    have c50b0 : decide (0 ≤ t316) = true := decide_eq_true c50
                    clear c50
                    by_cases c51 : t316 < (t312.length : Int)
                    · rw [if_pos c51] at H
                      have c51b0 : decide (t316 < (t312.length : Int)) = true := decide_eq_true c51
                      clear c51
                      obtain ⟨y338, hy338⟩ : ∃ y_ : List (S27), y_ = (t312.set (t316 : Int).toNat (⟨(rd_T27 t312 0).f0, (rd_T27 t312 0).f1⟩ : S27)) := ⟨_, rfl⟩
                      replace H : (hyphenlaw3_SetRight.j0 k a4 a5 (y338.set (0 : Int).toNat (⟨(rd_T27 t312 t316).f0, (rd_T27 t312 t316).f1⟩ : S27))) = some r := by first | (rw [hy338]; with_reducible exact H) | (have H2_ := (Option.bind_some _ _).symm.trans H; rw [hy338]; with_reducible exact H2_) | (have H2_ := (Option.bind_some _ _).symm.trans H; with_reducible exact H2_) | with_reducible exact H | (rw [hy338]; exact H) | exact H
                      have Ny338 := Aside0.mk hy338
                      clear hy338
                      obtain ⟨y339, hy339⟩ : ∃ y_ : List (S27), y_ = (y338.set (0 : Int).toNat (⟨(rd_T27 t312 t316).f0, (rd_T27 t312 t316).f1⟩ : S27)) := ⟨_, rfl⟩
                      replace H : (hyphenlaw3_SetRight.j0 k a4 a5 y339) = some r := by first | (rw [hy339]; with_reducible exact H) | (have H2_ := (Option.bind_some _ _).symm.trans H; rw [hy339]; with_reducible exact H2_) | (have H2_ := (Option.bind_some _ _).symm.trans H; with_reducible exact H2_) | with_reducible exact H | (rw [hy339]; exact H) | exact H
                      have Ny339 := Aside0.mk hy339
                      clear hy339
                      have H' := Aside0.mk H
                      clear H
                      try go_wp2_with (first | ((with_reducible refine gate_callee (f := 18) rfl ?_); refine goesL_ (some 28) rfl rfl Try.func18 (by kernel_rfl) rfl #[.int .i64 a1, .int .i64 (t312.length : Int)] rfl (by (try simp only [List.map_toArray, List.map_cons, List.map_nil]); first | done | rfl | (simp only [List.length_drop, List.length_take]; rfl)) ?_; (with_reducible refine (hyphenlaw3_within.calls a1 (t312.length : Int) t316 _ A18.out).mono ?_); rintro e w' ⟨rfl, ⟨nd, rfl⟩⟩; refine ⟨_, rfl, ?_⟩; (try (rw [drewN_self w16]; generalize hq_ : World.drewN w16 _ = w16; have n0_ : Aside0 (Kd.R k27 27 w16 w.heap.size (fun _ => True) (.slice Ao15 t312.length co15) t312) := ⟨by rw [← hq_]; exact (by (with_reducible repeat (first | apply Kd.R_alloc | apply Kd.R_drewN | apply Kd.R_drew)); exact HO314.out)⟩; have n1_ : Aside0 (Below w.heap.size w w16) := ⟨by rw [← hq_]; exact (by repeat (first | (with_reducible first | exact HB.out | apply below_alloc | apply pw_below_drewN | apply below_drew1) | exact HB.out))⟩; clear HO314 HB hq_; have HO314 := n0_; have HB := n1_; clear n0_ n1_))) | ((with_reducible refine gate_callee (f := 18) rfl ?_); refine goesL_ (some 30) rfl rfl Try.func18 (by kernel_rfl) rfl #[.int .i64 a2, .int .i64 4] rfl (by (try simp only [List.map_toArray, List.map_cons, List.map_nil]); first | done | rfl | (simp only [List.length_drop, List.length_take]; rfl)) ?_; (with_reducible refine (hyphenlaw3_within.calls a2 4 t317 _ A19.out).mono ?_); rintro e w' ⟨rfl, ⟨nd, rfl⟩⟩; refine ⟨_, rfl, ?_⟩; (try (rw [drewN_self w16]; generalize hq_ : World.drewN w16 _ = w16; have n0_ : Aside0 (Kd.R k27 27 w16 w.heap.size (fun _ => True) (.slice Ao15 t312.length co15) t312) := ⟨by rw [← hq_]; exact (by (with_reducible repeat (first | apply Kd.R_alloc | apply Kd.R_drewN | apply Kd.R_drew)); exact HO314.out)⟩; have n1_ : Aside0 (Below w.heap.size w w16) := ⟨by rw [← hq_]; exact (by repeat (first | (with_reducible first | exact HB.out | apply below_alloc | apply pw_below_drewN | apply below_drew1) | exact HB.out))⟩; clear HO314 HB hq_; have HO314 := n0_; have HB := n1_; clear n0_ n1_))))
                      have n0_ := Aside0.mk (Kd.R_drew HO314.out)
                      have n1_ := Aside0.mk (below_drew1 HB.out)
                      clear HO314
                      clear HB
                      have HO314 := n0_
                      have HB := n1_
                      clear n0_ n1_
                      have p336 : 0 ≤ (0 : Int) := (by omega)
                      have q336 : 0 < (t312.length : Int) := of_decide_eq_true (by first | (with_reducible assumption) | assumption)
                      obtain ⟨ad336, e336, hx336_0, hx336_1⟩ := at_T27 (Kd.R_reads' HO314.out).2.2 0 p336 q336
                      cases e336
                      have qi336 : (0 < t312.length) = True := eq_true (by omega)
                      (try rw [show ((0 : Int)).toNat = 0 from rfl] at hx336_0)
                      (try rw [show 0 * 2 = 0 from rfl] at hx336_0)
                      (try rw [Addr.add_zero'] at hx336_0)
                      (try rw [show ((0 : Int)).toNat = 0 from rfl] at hx336_1)
                      (try rw [show 0 * 2 = 0 from rfl] at hx336_1)
                      (try rw [Addr.add_zero'] at hx336_1)
                      replace p336 := eq_true p336
                      replace q336 := eq_true q336
                      have p337 : 0 ≤ (t316 : Int) := of_decide_eq_true (by first | (with_reducible assumption) | assumption)
                      have q337 : t316 < (t312.length : Int) := of_decide_eq_true (by first | (with_reducible assumption) | assumption)
                      obtain ⟨ad337, e337, hx337_0, hx337_1⟩ := at_T27 (Kd.R_reads' HO314.out).2.2 t316 p337 q337
                      obtain rfl : ad336 = ad337 := (by injection e337)
                      replace p337 := eq_true p337
                      replace q337 := eq_true q337
                      have p52 : 0 ≤ (t316 : Int) := of_decide_eq_true (by first | (with_reducible assumption) | assumption)
                      have q52 : (t316 : Int) < ((t312.length : Int) : Int) := of_decide_eq_true (by first | (with_reducible assumption) | assumption)
                      obtain ⟨go52, co52, eo52, gb52, gl52, cl52, HG52⟩ := Kd.R_form HO314.out (by omega)
                      (first | cases eo52 | (injection eo52 with ea_ en_ ec_; (first | subst ea_ | (injection ea_ with ea_; subst ea_)); subst ec_; clear en_))
                      have GB52 := Aside0.mk gb52
                      have GG52 := Aside0.mk HG52
                      clear gb52 gl52 HG52
                      (first | simp only [add_plain] at hx336_0 | skip)
                      (first | simp only [add_plain] at hx336_1 | skip)
                      (first | simp only [add_plain] at hx337_0 | skip)
                      (first | simp only [add_plain] at hx337_1 | skip)
                      obtain ⟨ce52, hcl52, hM52, hcc52, hfr52⟩ := Kd.R_elem HO314.out z27 (t316 : Int) p52 q52
                      obtain rfl := k27_openM hM52
                      have hx52_0 : World.cell? _ ⟨go52, (t316 : Int).toNat * 2, none⟩ = some (.int .i64 ((rd_T27 t312 t316).f0)) := hcc52 0 _ rfl
                      have hx52_1 : World.cell? _ ⟨go52, (t316 : Int).toNat * 2 + 1, none⟩ = some (.int .i64 ((rd_T27 t312 t316).f1)) := hcc52 1 _ rfl
                      have hf52_0 : World.frozen? _ ⟨go52, (t316 : Int).toNat * 2, none⟩ = false := hfr52 0
                      have hf52_1 : World.frozen? _ ⟨go52, (t316 : Int).toNat * 2 + 1, none⟩ = false := hfr52 1
                      clear hcl52 hcc52 hfr52 hM52
                      replace p52 := eq_true p52
                      replace q52 := eq_true q52
                      obtain ⟨ce55, hcl55, hM55, hcc55, hfr55⟩ := Kd.R_elem HO314.out z27 (t316 : Int) (of_decide_eq_true (by first | (with_reducible assumption) | assumption)) (by have h_ : (t316 : Int) < ((t312.length : Int) : Int) := of_decide_eq_true (by first | (with_reducible assumption) | assumption); first | exact h_ | (have e_ := (Kd.R_reads' HO314.out).1; omega) | simpa using h_)
                      obtain rfl := k27_openM hM55
                      have HP55 := (Kd.R_seg HO314.out (t316 : Int) (of_decide_eq_true (by first | (with_reducible assumption) | assumption)) (by have h_ : (t316 : Int) < ((t312.length : Int) : Int) := of_decide_eq_true (by first | (with_reducible assumption) | assumption); first | exact h_ | (have e_ := (Kd.R_reads' HO314.out).1; omega) | simpa using h_) (seg := [.int .i64 ((rd_T27 t312 0).f0), .int .i64 ((rd_T27 t312 0).f1)]) (j := 0) hcl55 hcc55 (show 2 ≤ 2 from by decide) (x' := (⟨(rd_T27 t312 0).f0, (rd_T27 t312 0).f1⟩ : S27)) (k27_mkM _ _ _ (⟨(rd_T27 t312 0).f0, (rd_T27 t312 0).f1⟩ : S27) ) (fun _ hk => hk)).1
                      rw [← Ny338.out] at HP55
                      have HQ55 := Aside0.mk HP55
                      clear hcl55 hcc55 hfr55 hM55 HP55
                      have p53 : 0 ≤ (0 : Int) := (by omega)
                      have q53 : (0 : Int) < ((t312.length : Int) : Int) := of_decide_eq_true (by first | (with_reducible assumption) | assumption)
                      have qi53 : (0 < t312.length) = True := eq_true (by omega)
                      obtain ⟨ce53, hcl53, hM53, hcc53, hfr53⟩ := Kd.R_elem HQ55.out z27 (0 : Int) p53 q53
                      obtain rfl := k27_openM hM53
                      have hx53_0 : World.cell? _ ⟨go52, (0 : Int).toNat * 2, none⟩ = some (.int .i64 ((rd_T27 y338 0).f0)) := hcc53 0 _ rfl
                      have hx53_1 : World.cell? _ ⟨go52, (0 : Int).toNat * 2 + 1, none⟩ = some (.int .i64 ((rd_T27 y338 0).f1)) := hcc53 1 _ rfl
                      have hf53_0 : World.frozen? _ ⟨go52, (0 : Int).toNat * 2, none⟩ = false := hfr53 0
                      have hf53_1 : World.frozen? _ ⟨go52, (0 : Int).toNat * 2 + 1, none⟩ = false := hfr53 1
                      clear hcl53 hcc53 hfr53 hM53
                      (try rw [show ((0 : Int)).toNat = 0 from rfl] at hx53_0)
                      (try simp only [Nat.reduceMul, Nat.zero_mul, Nat.zero_add, Nat.reduceAdd] at hx53_0)
                      (try rw [show ((0 : Int)).toNat = 0 from rfl] at hf53_0)
                      (try simp only [Nat.reduceMul, Nat.zero_mul, Nat.zero_add, Nat.reduceAdd] at hf53_0)
                      (try rw [show ((0 : Int)).toNat = 0 from rfl] at hx53_1)
                      (try simp only [Nat.reduceMul, Nat.zero_mul, Nat.zero_add, Nat.reduceAdd] at hx53_1)
                      (try rw [show ((0 : Int)).toNat = 0 from rfl] at hf53_1)
                      (try simp only [Nat.reduceMul, Nat.zero_mul, Nat.zero_add, Nat.reduceAdd] at hf53_1)
                      replace p53 := eq_true p53
                      replace q53 := eq_true q53
                      obtain ⟨ce56, hcl56, hM56, hcc56, hfr56⟩ := Kd.R_elem HQ55.out z27 (0 : Int) (by omega) (by have h_ : (0 : Int) < ((t312.length : Int) : Int) := of_decide_eq_true (by first | (with_reducible assumption) | assumption); first | exact h_ | (have e_ := (Kd.R_reads' HO314.out).1; omega) | simpa using h_)
                      obtain rfl := k27_openM hM56
                      have HP56 := (Kd.R_seg HQ55.out (0 : Int) (by omega) (by have h_ : (0 : Int) < ((t312.length : Int) : Int) := of_decide_eq_true (by first | (with_reducible assumption) | assumption); first | exact h_ | (have e_ := (Kd.R_reads' HO314.out).1; omega) | simpa using h_) (seg := [.int .i64 ((rd_T27 t312 t316).f0), .int .i64 ((rd_T27 t312 t316).f1)]) (j := 0) hcl56 hcc56 (show 2 ≤ 2 from by decide) (x' := (⟨(rd_T27 t312 t316).f0, (rd_T27 t312 t316).f1⟩ : S27)) (k27_mkM _ _ _ (⟨(rd_T27 t312 t316).f0, (rd_T27 t312 t316).f1⟩ : S27) ) (fun _ hk => hk)).1
                      rw [← Ny339.out] at HP56
                      have HQ56 := Aside0.mk HP56
                      clear hcl56 hcc56 hfr56 hM56 HP56
                      refine start_ (n := 14) (S := fun w' => w'.cell? ⟨go52, 0, none⟩ = some (.int .i64 ((rd_T27 t312 0).f0)) ∧ w'.cell? ⟨go52, 1, none⟩ = some (.int .i64 ((rd_T27 t312 0).f1)) ∧ w'.cell? ⟨go52, ((t316).toNat * 2), none⟩ = some (.int .i64 ((rd_T27 t312 t316).f0)) ∧ w'.cell? ⟨go52, ((t316).toNat * 2) + 1, none⟩ = some (.int .i64 ((rd_T27 t312 t316).f1))) (ds := [11, 13]) #[false, false, false, false, false, false, false, false, false, false, false, false, false, false] (by kernel_rfl) rfl rfl ⟨hx336_0, hx336_1, hx337_0, hx337_1⟩ (fun hHeld => ?_); refine with_tabW hyphenlaw3_SetRight.tab14 hyphenlaw3_SetRight.bits14 (fun HT_ HW_ => ?_)
                      generalize w16.drew = w54 at HO314 HB GG52 HQ55 HQ56 hf52_0 hf52_1 hf53_0 hf53_1 hx336_0 hx336_1 hx337_0 hx337_1 hx52_0 hx52_1 hx53_0 hx53_1 hHeld ⊢
                      refine pure_ (i := 0) (N := some 91) (v := ?_) (a' := ?_) #[true, false, false, false, false, false, false, false, false, false, false, false, false, false] rfl rfl (any_of HT_.out (by kernel_rfl)) (fun _ _ _ h => h) (Or.inl ⟨by rfl, ?_⟩) ?_ ?_
                      rotate_left
                      · intro w'
                        go_simp
                        with_reducible rfl
                      rotate_left
                      · simp only [Act.put, List.setIfInBounds_toArray, List.set_cons_zero, List.set_cons_succ, i64_w, i32_w]
                        rfl
                      refine pure_ (i := 1) (N := some 92) (v := ?_) (a' := ?_) #[true, true, false, false, false, false, false, false, false, false, false, false, false, false] rfl rfl (any_of HT_.out (by kernel_rfl)) (fun _ _ _ h => h) (Or.inl ⟨by rfl, ?_⟩) ?_ ?_
                      rotate_left
                      · intro w'
                        go_simp
                        with_reducible rfl
                      rotate_left
                      · simp only [Act.put, List.setIfInBounds_toArray, List.set_cons_zero, List.set_cons_succ, i64_w, i32_w]
                        rfl
                      refine pure_ (i := 2) (N := some 93) (v := ?_) (a' := ?_) #[true, true, true, false, false, false, false, false, false, false, false, false, false, false] rfl rfl (any_of HT_.out (by kernel_rfl)) (fun _ _ _ h => h) (Or.inl ⟨by rfl, ?_⟩) ?_ ?_
                      rotate_left
                      · intro w'
                        go_simp
                        with_reducible rfl
                      rotate_left
                      · simp only [Act.put, List.setIfInBounds_toArray, List.set_cons_zero, List.set_cons_succ, i64_w, i32_w]
                        rfl
                      refine pure_ (i := 3) (N := some 94) (v := ?_) (a' := ?_) #[true, true, true, true, false, false, false, false, false, false, false, false, false, false] rfl rfl (any_of HT_.out (by kernel_rfl)) (fun _ _ _ h => h) (Or.inl ⟨by rfl, ?_⟩) ?_ ?_
                      rotate_left
                      · intro w'
                        go_simp
                        with_reducible rfl
                      rotate_left
                      · simp only [Act.put, List.setIfInBounds_toArray, List.set_cons_zero, List.set_cons_succ, i64_w, i32_w]
                        rfl
                      refine pure_ (i := 4) (N := some 95) (v := ?_) (a' := ?_) #[true, true, true, true, true, false, false, false, false, false, false, false, false, false] rfl rfl (any_of HT_.out (by kernel_rfl)) (fun _ _ _ h => h) (Or.inl ⟨by rfl, ?_⟩) ?_ ?_
                      rotate_left
                      · intro w'
                        go_simp
                        with_reducible rfl
                      rotate_left
                      · simp only [Act.put, List.setIfInBounds_toArray, List.set_cons_zero, List.set_cons_succ, i64_w, i32_w]
                        rfl
                      refine pure_ (i := 6) (N := some 97) (v := ?_) (a' := ?_) #[true, true, true, true, true, false, true, false, false, false, false, false, false, false] rfl rfl (any_of HT_.out (by kernel_rfl)) (fun _ _ _ h => h) (Or.inl ⟨by rfl, ?_⟩) ?_ ?_
                      rotate_left
                      · intro w'
                        go_simp
                        with_reducible rfl
                      rotate_left
                      · simp only [Act.put, List.setIfInBounds_toArray, List.set_cons_zero, List.set_cons_succ, i64_w, i32_w]
                        rfl
                      refine pure_ (i := 7) (N := some 98) (v := ?_) (a' := ?_) #[true, true, true, true, true, false, true, true, false, false, false, false, false, false] rfl rfl (any_of HT_.out (by kernel_rfl)) (fun _ _ _ h => h) (Or.inl ⟨by rfl, ?_⟩) ?_ ?_
                      rotate_left
                      · intro w'
                        go_simp
                        with_reducible rfl
                      rotate_left
                      · simp only [Act.put, List.setIfInBounds_toArray, List.set_cons_zero, List.set_cons_succ, i64_w, i32_w]
                        rfl
                      refine pure_ (i := 8) (N := some 99) (v := ?_) (a' := ?_) #[true, true, true, true, true, false, true, true, true, false, false, false, false, false] rfl rfl (any_of HT_.out (by kernel_rfl)) (fun _ _ _ h => h) (Or.inl ⟨by rfl, ?_⟩) ?_ ?_
                      rotate_left
                      · intro w'
                        go_simp
                        with_reducible rfl
                      rotate_left
                      · simp only [Act.put, List.setIfInBounds_toArray, List.set_cons_zero, List.set_cons_succ, i64_w, i32_w]
                        rfl
                      refine take_ (i := 5) (N := some 96) (v := ?_) (a' := ?_) #[true, true, true, true, true, true, true, true, true, false, false, false, false, false] rfl rfl (take_ofW HT_.out HW_.out (by kernel_rfl)) (fun _ _ _ h => h) (Or.inl ⟨by rfl, ?_⟩) hHeld ?_ ?_
                      rotate_left
                      · rintro w' ⟨s0, s1, s2, s3⟩
                        go_simp
                        with_reducible rfl
                      rotate_left
                      · simp only [Act.put, List.setIfInBounds_toArray, List.set_cons_zero, List.set_cons_succ, i64_w, i32_w]
                        rfl
                      refine take_ (i := 9) (N := some 100) (v := ?_) (a' := ?_) #[true, true, true, true, true, true, true, true, true, true, false, false, false, false] rfl rfl (take_ofW HT_.out HW_.out (by kernel_rfl)) (fun _ _ _ h => h) (Or.inl ⟨by rfl, ?_⟩) hHeld ?_ ?_
                      rotate_left
                      · rintro w' ⟨s0, s1, s2, s3⟩
                        go_simp
                        with_reducible rfl
                      rotate_left
                      · simp only [Act.put, List.setIfInBounds_toArray, List.set_cons_zero, List.set_cons_succ, i64_w, i32_w]
                        rfl
                      refine pure_ (i := 10) (N := some 101) (v := ?_) (a' := ?_) #[true, true, true, true, true, true, true, true, true, true, true, false, false, false] rfl rfl (any_of HT_.out (by kernel_rfl)) (fun _ _ _ h => h) (Or.inl ⟨by rfl, ?_⟩) ?_ ?_
                      rotate_left
                      · intro w'
                        go_simp
                        with_reducible rfl
                      rotate_left
                      · simp only [Act.put, List.setIfInBounds_toArray, List.set_cons_zero, List.set_cons_succ, i64_w, i32_w]
                        rfl
                      refine last_ (i := 11) (N := none) #[true, true, true, true, true, true, true, true, true, true, true, true, false, false] rfl rfl (one_of HT_.out (by kernel_rfl)) (by decide) (fun K hK => ?_)
                      refine skip_ (w1 := ?_) (by rfl) rfl ?_ ?_
                      rotate_left
                      · go_simp
                        rfl
                      refine hK.out _ _ ?_
                      clear hK K
                      refine pure_ (i := 12) (N := some 102) (v := ?_) (a' := ?_) #[true, true, true, true, true, true, true, true, true, true, true, true, true, false] rfl rfl (any_of HT_.out (by kernel_rfl)) (fun _ _ _ h => h) (Or.inl ⟨by rfl, ?_⟩) ?_ ?_
                      rotate_left
                      · intro w'
                        go_simp
                        with_reducible rfl
                      rotate_left
                      · simp only [Act.put, List.setIfInBounds_toArray, List.set_cons_zero, List.set_cons_succ, i64_w, i32_w]
                        rfl
                      refine last_ (i := 13) (N := none) #[true, true, true, true, true, true, true, true, true, true, true, true, true, true] rfl rfl (one_of HT_.out (by kernel_rfl)) (by decide) (fun K hK => ?_)
                      refine skip_ (w1 := ?_) (by rfl) rfl ?_ ?_
                      rotate_left
                      · have hz0 : (w54.setCell ⟨go52, t316.toNat * 2, none⟩ (.int .i64 ((rd_T27 t312 0).f0))).cell? ⟨go52, 0, none⟩ = some (.int .i64 ((rd_T27 y338 0).f0)) := by
                          have h : ((w54.setCell ⟨go52, t316.toNat * 2, none⟩ (.int .i64 ((rd_T27 t312 0).f0))).setCell ⟨go52, t316.toNat * 2 + 1, none⟩ (.int .i64 ((rd_T27 t312 0).f1))).cell? ⟨go52, 0, none⟩ = some (.int .i64 ((rd_T27 y338 0).f0)) := hx53_0
                          simpa [go_sem, ↓IntWalk.iteOmega] using h
                        have hz1 : ((w54.setCell ⟨go52, t316.toNat * 2, none⟩ (.int .i64 ((rd_T27 t312 0).f0))).setCell ⟨go52, t316.toNat * 2 + 1, none⟩ (.int .i64 ((rd_T27 t312 0).f1))).cell? ⟨go52, 1, none⟩ = some (.int .i64 ((rd_T27 y338 0).f1)) := hx53_1
                        have hzf0 : w54.frozen? ⟨go52, 0, none⟩ = false := by
                          have h : ((w54.setCell ⟨go52, t316.toNat * 2, none⟩ (.int .i64 ((rd_T27 t312 0).f0))).setCell ⟨go52, t316.toNat * 2 + 1, none⟩ (.int .i64 ((rd_T27 t312 0).f1))).frozen? ⟨go52, 0, none⟩ = false := hf53_0
                          simpa [go_sem, ↓IntWalk.iteOmega] using h
                        have hzf1 : w54.frozen? ⟨go52, 1, none⟩ = false := by
                          have h : ((w54.setCell ⟨go52, t316.toNat * 2, none⟩ (.int .i64 ((rd_T27 t312 0).f0))).setCell ⟨go52, t316.toNat * 2 + 1, none⟩ (.int .i64 ((rd_T27 t312 0).f1))).frozen? ⟨go52, 1, none⟩ = false := hf53_1
                          simpa [go_sem, ↓IntWalk.iteOmega] using h
                        go_simp
                        rfl
                      refine hK.out _ _ ?_
                      clear hK K
                      refine done_ (done_of HT_.out (by kernel_rfl)) ?_
                      try go_wp2
                      go_meet
                      case rel => exact ⟨_, (y339), H', ⟨by first | omega | exact Nat.le_refl _⟩, ⟨by (with_reducible repeat (first | apply Kd.R_alloc | apply Kd.R_drewN | apply Kd.R_drew)); exact HQ56.out⟩, ⟨by repeat (first | (with_reducible first | exact HB.out | apply below_alloc | apply pw_below_drewN | apply below_drew1 | refine below_set ?_ GB52.out | refine below_set ?_ GB52.out | refine below_set ?_ GB52.out | refine below_set ?_ GB52.out) | exact HB.out)⟩⟩
                    · rw [if_neg c51] at H
                      exact absurd H (by simp)
                  · rw [if_neg c50] at H
                    exact absurd H (by simp)
                · rw [if_neg c49] at H
                  exact absurd H (by simp)
              · rw [if_neg c48] at H
                have c48b0 : (t317 == 2) = false := beq_eq_false_iff_ne.mpr c48
                have c48b1 : (t317 != 2) = true := bne_iff_ne.mpr c48
                by_cases c57 : t317 = 3
                · rw [if_pos c57] at H
                  have c57b0 : (t317 == 3) = true := beq_iff_eq.mpr c57
                  have c57b1 : (t317 != 3) = false := bne_eq_false_iff_eq.mpr c57
                  clear c57
                  by_cases c58 : t312.length < 8796093022208
                  · rw [if_pos c58] at H
                    have LMc58 := Aside0.mk c58
                    clear c58
                    obtain ⟨y340, hy340⟩ : ∃ y_ : List (S27), y_ = (t312 ++ [(⟨a4, a5⟩ : S27)]) := ⟨_, rfl⟩
                    replace H : (hyphenlaw3_SetRight.j0 k a4 a5 y340) = some r := by first | (rw [hy340]; with_reducible exact H) | (have H2_ := (Option.bind_some _ _).symm.trans H; rw [hy340]; with_reducible exact H2_) | (have H2_ := (Option.bind_some _ _).symm.trans H; with_reducible exact H2_) | with_reducible exact H | (rw [hy340]; exact H) | exact H
                    have Ny340 := Aside0.mk hy340
                    clear hy340
                    have H' := Aside0.mk H
                    clear H
                    go_wp2_with (first | ((with_reducible refine gate_callee (f := 18) rfl ?_); refine goesL_ (some 28) rfl rfl Try.func18 (by kernel_rfl) rfl #[.int .i64 a1, .int .i64 (t312.length : Int)] rfl (by (try simp only [List.map_toArray, List.map_cons, List.map_nil]); first | done | rfl | (simp only [List.length_drop, List.length_take]; rfl)) ?_; (with_reducible refine (hyphenlaw3_within.calls a1 (t312.length : Int) t316 _ A18.out).mono ?_); rintro e w' ⟨rfl, ⟨nd, rfl⟩⟩; refine ⟨_, rfl, ?_⟩) | ((with_reducible refine gate_callee (f := 18) rfl ?_); refine goesL_ (some 30) rfl rfl Try.func18 (by kernel_rfl) rfl #[.int .i64 a2, .int .i64 4] rfl (by (try simp only [List.map_toArray, List.map_cons, List.map_nil]); first | done | rfl | (simp only [List.length_drop, List.length_take]; rfl)) ?_; (with_reducible refine (hyphenlaw3_within.calls a2 4 t317 _ A19.out).mono ?_); rintro e w' ⟨rfl, ⟨nd, rfl⟩⟩; refine ⟨_, rfl, ?_⟩) | ((with_reducible refine gate_builtin (b := .append) (xs := #[.tmp 105, .tmp 109]) rfl ?_); (try (refine gate_guard (by rfl) ?_; dsimp only)); at_builtin; refine Kd.R_append k27 (w0 := w) w.heap.size rfl (.tmp 105) (.tmp 109) 24 27 (.agg #[(.int .i64 0), (.int .i64 0)]) 16 rfl Try.underlying24 info27 rfl (by decide) (by omega) (.slice Ao15 t312.length co15) t312 (⟨a4, a5⟩ : S27) [.int .i64 a4, .int .i64 a5] (fun _ => True) (fun _ => False) rfl rfl ?aP (fun _ hk => hk.elim) ?aF ?aO ?aB ?aS ?aL ?_; (case aP => exact k27_mkM _ _ _ (⟨a4, a5⟩ : S27)); (case aB => exact (by repeat (first | (with_reducible first | exact HB.out | apply below_alloc | apply pw_below_drewN | apply below_drew1) | exact HB.out))); (case aF => exact (fun _ _ => trivial)); (case aO => exact (by (with_reducible repeat (first | apply Kd.R_alloc | apply Kd.R_drewN | apply Kd.R_drew)); exact HO314.out)); (case aS => exact (below_size (by repeat (first | (with_reducible first | exact HB.out | apply below_alloc | apply pw_below_drewN | apply below_drew1) | exact HB.out)))); (case aL => have := LMc58.out; omega); intro v341 w59 ho hb hg hat; rw [← Ny340.out] at ho; have n0_ := Aside0.mk (hb); have n1_ := Aside0.mk (ho); clear HB; clear HO314; have HB := n0_; have HO342 := n1_; clear n0_ n1_; clear ho hb hg hat))
                    go_meet
                    case rel => exact ⟨_, (y340), H', ⟨by first | omega | exact Nat.le_refl _⟩, ⟨by (with_reducible repeat (first | apply Kd.R_alloc | apply Kd.R_drewN | apply Kd.R_drew)); exact HO342.out⟩, ⟨by repeat (first | (with_reducible first | exact HB.out | apply below_alloc | apply pw_below_drewN | apply below_drew1) | exact HB.out)⟩⟩
                  · rw [if_neg c58] at H
                    exact absurd H (by simp)
                · rw [if_neg c57] at H
                  have c57b0 : (t317 == 3) = false := beq_eq_false_iff_ne.mpr c57
                  have c57b1 : (t317 != 3) = true := bne_iff_ne.mpr c57
                  have H' := Aside0.mk H
                  clear H
                  go_wp2_with (first | ((with_reducible refine gate_callee (f := 18) rfl ?_); refine goesL_ (some 28) rfl rfl Try.func18 (by kernel_rfl) rfl #[.int .i64 a1, .int .i64 (t312.length : Int)] rfl (by (try simp only [List.map_toArray, List.map_cons, List.map_nil]); first | done | rfl | (simp only [List.length_drop, List.length_take]; rfl)) ?_; (with_reducible refine (hyphenlaw3_within.calls a1 (t312.length : Int) t316 _ A18.out).mono ?_); rintro e w' ⟨rfl, ⟨nd, rfl⟩⟩; refine ⟨_, rfl, ?_⟩) | ((with_reducible refine gate_callee (f := 18) rfl ?_); refine goesL_ (some 30) rfl rfl Try.func18 (by kernel_rfl) rfl #[.int .i64 a2, .int .i64 4] rfl (by (try simp only [List.map_toArray, List.map_cons, List.map_nil]); first | done | rfl | (simp only [List.length_drop, List.length_take]; rfl)) ?_; (with_reducible refine (hyphenlaw3_within.calls a2 4 t317 _ A19.out).mono ?_); rintro e w' ⟨rfl, ⟨nd, rfl⟩⟩; refine ⟨_, rfl, ?_⟩))
                  go_meet
                  case rel => exact ⟨_, (t312), H', ⟨by first | omega | exact Nat.le_refl _⟩, ⟨by (with_reducible repeat (first | apply Kd.R_alloc | apply Kd.R_drewN | apply Kd.R_drew)); exact HO314.out⟩, ⟨by repeat (first | (with_reducible first | exact HB.out | apply below_alloc | apply pw_below_drewN | apply below_drew1) | exact HB.out)⟩⟩
        · rw [if_neg c17] at H
          have c17b0 : decide (0 < (t312.length : Int)) = false := decide_eq_false c17
          have c17b1 : decide (0 < t312.length) = false := decide_eq_false (by omega)
          have c17b2 : ¬ 0 < t312.length := of_decide_eq_false c17b1
          clear c17
          (first | rw [c17b0] | (simp only [i64_w, i32_w]; rw [c17b0]) | skip)
          have H' := Aside0.mk H
          clear H
          go_wp2
          go_meet
          case rel => exact ⟨_, (t312), H', ⟨by first | omega | exact Nat.le_refl _⟩, ⟨by (with_reducible repeat (first | apply Kd.R_alloc | apply Kd.R_drewN | apply Kd.R_drew)); exact HO314.out⟩, ⟨by repeat (first | (with_reducible first | exact HB.out | apply below_alloc | apply pw_below_drewN | apply below_drew1) | exact HB.out)⟩⟩
      case rest =>
        clear HC12
        try clear c1
        try clear p2
        try clear c3
        try clear p3
        try clear q3
        try clear hx3
        try clear qi3
        try clear c4
        try clear p4
        try clear q4
        try clear hx4
        try clear c5
        try clear p5
        try clear q5
        try clear hx5
        try clear qi5
        try clear p6
        try clear c17
        try clear c17b0
        try clear c17b1
        try clear c18
        try clear hx32
        try clear p33
        try clear q33
        try clear hx33
        try clear qi33
        try clear c34
        try clear c34b0
        try clear c34b1
        try clear c35
        try clear c36
        try clear c38
        try clear c39
        try clear c40
        try clear p40
        try clear q40
        try clear hx40
        try clear hf40
        try clear c47
        try clear c48
        try clear c48b0
        try clear c48b1
        try clear c49
        try clear c49b0
        try clear c49b1
        try clear c50
        try clear c50b0
        try clear c51
        try clear c51b0
        try clear c52
        try clear p52
        try clear q52
        try clear hx52
        try clear hf52
        try clear c53
        try clear p53
        try clear q53
        try clear hx53
        try clear qi53
        try clear hf53
        try clear c55
        try clear c56
        try clear c57
        try clear c57b0
        try clear c57b1
        try clear c58
        try clear hx327_0
        try clear hx327_1
        try clear hx328_0
        try clear hx328_1
        try clear hx329_0
        try clear hx329_1
        try clear hx334_0
        try clear hx336_0
        try clear hx336_1
        try clear hx337_0
        try clear hx337_1
        try clear hx40_0
        try clear hx40_1
        try clear hx52_0
        try clear hx52_1
        try clear hx53_0
        try clear hx53_1
        try clear p334
        try clear p336
        try clear p337
        try clear p40
        try clear p52
        try clear p53
        try clear q334
        try clear q336
        try clear q337
        try clear q40
        try clear q52
        try clear q53
        obtain ⟨kq, x13_11, HA, HJ11, HO_13, HB⟩ := hcut
        cases kq with
        | zero => exact absurd HA.out (by simp [hyphenlaw3_SetRight.j0])
        | succ kj11 =>
          have H := HA.out
          clear HA
          simp only [hyphenlaw3_SetRight.j0] at H
          replace H := Option.bind_eq_some_iff.mp H
          obtain ⟨t343, A600, H⟩ := H
          replace H : ((hyphenref3_Right.f kj11 x13_11).bind fun t344 => (if (t343 == t344) = true then ((set_Right.f kj11 (([(⟨a4, a5⟩ : S27)] : List (S27)))).bind fun t348 => ((hyphenref3_Right.f kj11 (([(⟨a4, a5⟩ : S27)] : List (S27)))).bind fun t352 => (some (t348 == t352)))) else (none))) = some r := H
          have A60 := Aside0.mk A600
          clear A600
          replace H := Option.bind_eq_some_iff.mp H
          obtain ⟨t344, A610, H⟩ := H
          replace H : (if (t343 == t344) = true then ((set_Right.f kj11 (([(⟨a4, a5⟩ : S27)] : List (S27)))).bind fun t348 => ((hyphenref3_Right.f kj11 (([(⟨a4, a5⟩ : S27)] : List (S27)))).bind fun t352 => (some (t348 == t352)))) else (none)) = some r := H
          have A61 := Aside0.mk A610
          clear A610
          by_cases c62 : (t343 == t344) = true
          · rw [if_pos c62] at H
            have c62b0 : (t343 == t344) = true := c62
            (try (have c62b1 : decide (t343 = t344) = true := by simpa using c62))
            (try (have c62b2 : (t343 == t344) = true := by simpa using c62))
            clear c62
            obtain ⟨y345, hy345⟩ : ∃ y_ : List (S27), y_ = (([(⟨a4, a5⟩ : S27)] : List (S27))) := ⟨_, rfl⟩
            replace H : ((set_Right.f kj11 y345).bind fun t348 => ((hyphenref3_Right.f kj11 (([(⟨a4, a5⟩ : S27)] : List (S27)))).bind fun t352 => (some (t348 == t352)))) = some r := by first | (rw [hy345]; with_reducible exact H) | (have H2_ := (Option.bind_some _ _).symm.trans H; rw [hy345]; with_reducible exact H2_) | (have H2_ := (Option.bind_some _ _).symm.trans H; with_reducible exact H2_) | with_reducible exact H | (rw [hy345]; exact H) | exact H
            have Ny345 := Aside0.mk hy345
            clear hy345
            replace H := Option.bind_eq_some_iff.mp H
            obtain ⟨t348, A630, H⟩ := H
            replace H : ((hyphenref3_Right.f kj11 (([(⟨a4, a5⟩ : S27)] : List (S27)))).bind fun t352 => (some (t348 == t352))) = some r := H
            have A63 := Aside0.mk A630
            clear A630
            obtain ⟨y349, hy349⟩ : ∃ y_ : List (S27), y_ = (([(⟨a4, a5⟩ : S27)] : List (S27))) := ⟨_, rfl⟩
            replace H : ((hyphenref3_Right.f kj11 y349).bind fun t352 => (some (t348 == t352))) = some r := by first | (rw [hy349]; with_reducible exact H) | (have H2_ := (Option.bind_some _ _).symm.trans H; rw [hy349]; with_reducible exact H2_) | (have H2_ := (Option.bind_some _ _).symm.trans H; with_reducible exact H2_) | with_reducible exact H | (rw [hy349]; exact H) | exact H
            have Ny349 := Aside0.mk hy349
            clear hy349
            replace H := Option.bind_eq_some_iff.mp H
            obtain ⟨t352, A640, H⟩ := H
            replace H : (some (t348 == t352)) = some r := H
            have A64 := Aside0.mk A640
            clear A640
            obtain rfl := Option.some.inj H
            obtain ⟨Ao65, co65, eo65⟩ := Kd.R_slice HO_13.out
            subst eo65
            go_wp2_with (first | ((with_reducible refine gate_callee (f := 17) rfl ?_); refine goesL_ (some 112) rfl rfl Try.func17 (by kernel_rfl) rfl #[.slice Ao65 x13_11.length co65] rfl (by (try simp only [List.map_toArray, List.map_cons, List.map_nil]); first | done | rfl | (simp only [List.length_drop, List.length_take]; rfl)) ?_; (with_reducible refine (set_Right.calls kj11 _ _ x13_11 t343 _ ?side1 ?side2 A60.out).mono ?_); (case side1 => repeat (first | exact (Kd.R_reads' HO_13.out).2.2 | (with_reducible refine Kd.C_alloc ?_ _) | (with_reducible refine Kd.C_drewN ?_ _) | (with_reducible refine Kd.C_drew ?_))); (case side2 => exact (Kd.R_reads' HO_13.out).2.1); rintro e w66 ⟨rfl, hb⟩; refine ⟨_, rfl, ?_⟩; have n0_ := Aside0.mk (Kd.R_below (by (with_reducible repeat (first | apply Kd.R_alloc | apply Kd.R_drewN | apply Kd.R_drew)); exact HO_13.out) hb); have n1_ := Aside0.mk (below_step (by repeat (first | (with_reducible first | exact HB.out | apply below_alloc | apply pw_below_drewN | apply below_drew1) | exact HB.out)) hb); clear HO_13; clear HB; have HO_13 := n0_; have HB := n1_; clear n0_ n1_; (try clear hb); (try clear hb2); (try clear hk); (try clear hi)) | ((with_reducible refine gate_callee (f := 29) rfl ?_); refine goesL_ (some 114) rfl rfl Try.func29 (by kernel_rfl) rfl #[.slice Ao65 x13_11.length co65] rfl (by (try simp only [List.map_toArray, List.map_cons, List.map_nil]); first | done | rfl | (simp only [List.length_drop, List.length_take]; rfl)) ?_; (with_reducible refine (hyphenref3_Right.calls kj11 _ _ x13_11 t344 _ ?side1 ?side2 A61.out).mono ?_); (case side1 => repeat (first | exact (Kd.R_reads' HO_13.out).2.2 | (with_reducible refine Kd.C_alloc ?_ _) | (with_reducible refine Kd.C_drewN ?_ _) | (with_reducible refine Kd.C_drew ?_))); (case side2 => exact (Kd.R_reads' HO_13.out).2.1); rintro e w' ⟨rfl, ⟨nd, rfl⟩⟩; refine ⟨_, rfl, ?_⟩) | ((with_reducible refine gate_dst (N := 120) rfl ?_); (try (refine gate_guard (by rfl) ?_; dsimp only)); refine Kd.R_lit k27 _ 27 ?hg (N := 120) ?hd (xs := ([(⟨a4, a5⟩ : S27)] : List (S27))) (inner := [.int .i64 a4, .int .i64 a5]) (ok := fun _ => True) (okp := fun _ => True) ?hr ?hp (fun _ hk => hk) trivial (Below.refl _ _) (Nat.le_refl _) (by simp) ?_; (case hd => rfl); (case hg => rfl); (case hr => first | (go_simp; done) | (go_simp; rfl)); (case hp => exact (Reps.c2 (show Kd.M k27 _ _ _ (⟨a4, a5⟩ : S27) [.int .i64 a4, .int .i64 a5] from (k27_mkM _ _ _ (⟨a4, a5⟩ : S27) )) (Reps.none _ _))); intro v346 w67 ho68 hb hg_ hnew_; clear hg_ hnew_; (first | rw [← Ny345.out] at ho68 | (simp only [Int.reduceToNat] at ho68; rw [← Ny345.out] at ho68)); have n0_ := Aside0.mk (Kd.R_elder' (by (with_reducible repeat (first | apply Kd.R_alloc | apply Kd.R_drewN | apply Kd.R_drew)); exact HO_13.out) (Kd.R_base ho68) hb); have n1_ := Aside0.mk (Kd.R_lower (Kd.R_new' ho68 (Kd.R_lt (by (with_reducible repeat (first | apply Kd.R_alloc | apply Kd.R_drewN | apply Kd.R_drew)); exact HO_13.out))) (below_size (by repeat (first | (with_reducible first | exact HB.out | apply below_alloc | apply pw_below_drewN | apply below_drew1) | exact HB.out)))); have n2_ := Aside0.mk (below_step (by repeat (first | (with_reducible first | exact HB.out | apply below_alloc | apply pw_below_drewN | apply below_drew1) | exact HB.out)) hb); clear HO_13; clear HB; have HO_13 := n0_; have HO347 := n1_; have HB := n2_; clear n0_ n1_ n2_; clear hb ho68; obtain ⟨Ao69, co69, eo69⟩ := Kd.R_slice HO347.out; subst eo69) | (go_at_call 17; (with_reducible refine (set_Right.calls kj11 _ _ y345 t348 _ ?side1 ?side2 A63.out).mono ?_); (case side1 => repeat (first | exact (Kd.R_reads' HO347.out).2.2 | (with_reducible refine Kd.C_alloc ?_ _) | (with_reducible refine Kd.C_drewN ?_ _) | (with_reducible refine Kd.C_drew ?_))); (case side2 => exact (Kd.R_reads' HO347.out).2.1); rintro e w70 ⟨rfl, hb⟩; have n0_ := Aside0.mk (Kd.R_below (by (with_reducible repeat (first | apply Kd.R_alloc | apply Kd.R_drewN | apply Kd.R_drew)); exact HO_13.out) hb); have n1_ := Aside0.mk (Kd.R_below (by (with_reducible repeat (first | apply Kd.R_alloc | apply Kd.R_drewN | apply Kd.R_drew)); exact HO347.out) hb); have n2_ := Aside0.mk (below_step (by repeat (first | (with_reducible first | exact HB.out | apply below_alloc | apply pw_below_drewN | apply below_drew1) | exact HB.out)) hb); clear HO_13; clear HO347; clear HB; have HO_13 := n0_; have HO347 := n1_; have HB := n2_; clear n0_ n1_ n2_; (try clear hb); (try clear hb2); (try clear hk); (try clear hi)) | ((with_reducible refine gate_dst (N := 125) rfl ?_); (try (refine gate_guard (by rfl) ?_; dsimp only)); refine Kd.R_lit k27 _ 27 ?hg (N := 125) ?hd (xs := ([(⟨a4, a5⟩ : S27)] : List (S27))) (inner := [.int .i64 a4, .int .i64 a5]) (ok := fun _ => True) (okp := fun _ => True) ?hr ?hp (fun _ hk => hk) trivial (Below.refl _ _) (Nat.le_refl _) (by simp) ?_; (case hd => rfl); (case hg => rfl); (case hr => first | (go_simp; done) | (go_simp; rfl)); (case hp => exact (Reps.c2 (show Kd.M k27 _ _ _ (⟨a4, a5⟩ : S27) [.int .i64 a4, .int .i64 a5] from (k27_mkM _ _ _ (⟨a4, a5⟩ : S27) )) (Reps.none _ _))); intro v350 w71 ho72 hb hg_ hnew_; clear hg_ hnew_; (first | rw [← Ny349.out] at ho72 | (simp only [Int.reduceToNat] at ho72; rw [← Ny349.out] at ho72)); have n0_ := Aside0.mk (Kd.R_elder' (by (with_reducible repeat (first | apply Kd.R_alloc | apply Kd.R_drewN | apply Kd.R_drew)); exact HO_13.out) (Kd.R_base ho72) hb); have n1_ := Aside0.mk (Kd.R_elder' (by (with_reducible repeat (first | apply Kd.R_alloc | apply Kd.R_drewN | apply Kd.R_drew)); exact HO347.out) (Kd.R_base ho72) hb); have n2_ := Aside0.mk (Kd.R_lower (Kd.R_new' (Kd.R_new' ho72 (Kd.R_lt (by (with_reducible repeat (first | apply Kd.R_alloc | apply Kd.R_drewN | apply Kd.R_drew)); exact HO_13.out))) (Kd.R_lt (by (with_reducible repeat (first | apply Kd.R_alloc | apply Kd.R_drewN | apply Kd.R_drew)); exact HO347.out))) (below_size (by repeat (first | (with_reducible first | exact HB.out | apply below_alloc | apply pw_below_drewN | apply below_drew1) | exact HB.out)))); have n3_ := Aside0.mk (below_step (by repeat (first | (with_reducible first | exact HB.out | apply below_alloc | apply pw_below_drewN | apply below_drew1) | exact HB.out)) hb); clear HO_13; clear HO347; clear HB; have HO_13 := n0_; have HO347 := n1_; have HO351 := n2_; have HB := n3_; clear n0_ n1_ n2_ n3_; clear hb ho72; obtain ⟨Ao73, co73, eo73⟩ := Kd.R_slice HO351.out; subst eo73) | (go_at_call 29; (with_reducible refine (hyphenref3_Right.calls kj11 _ _ y349 t352 _ ?side1 ?side2 A64.out).mono ?_); (case side1 => repeat (first | exact (Kd.R_reads' HO351.out).2.2 | (with_reducible refine Kd.C_alloc ?_ _) | (with_reducible refine Kd.C_drewN ?_ _) | (with_reducible refine Kd.C_drew ?_))); (case side2 => exact (Kd.R_reads' HO351.out).2.1); rintro e w' ⟨rfl, ⟨nd, rfl⟩⟩))
            go_ret
            exact ⟨by first | rfl | (simp [errW_none, errW_some] <;> rfl) | (simp [*, errW_none, errW_some] <;> rfl), by repeat (first | (with_reducible first | exact HB.out | apply below_alloc | apply pw_below_drewN | apply below_drew1) | exact HB.out)⟩
          · rw [if_neg c62] at H
            exact absurd H (by simp)
    · replace c11 := Bool.eq_false_iff.mpr c11
      subst c11
      have H1 : (none) = some r := by rw [if_neg (show ¬ (false = true) by decide)] at H; exact H
      clear H
      have H := H1
      clear H1
      exact absurd H (by simp)
  · replace c8 := Bool.eq_false_iff.mpr c8
    subst c8
    have H1 : (none) = some r := by rw [if_neg (show ¬ (false = true) by decide)] at H; exact H
    clear H
    have H := H1
    clear H1
    exact absurd H (by simp)

/-- THE ONE PURE STATEMENT of hyphenlaw3_SetRight: yours. -/
def hyphenlaw3_SetRight.Pure : Prop := ∀ (l0 : List Int) (a1 : Int) (a2 : Int) (a3 : Int) (a4 : Int) (a5 : Int), l0.length ≤ maxLen → l0.length * 8 ≤ 140737488351232 → (∀ x ∈ l0, (Lit.int .i64 x).wf = true) → (Lit.int .i64 a1).wf = true → (Lit.int .i64 a2).wf = true → (Lit.int .i64 a3).wf = true → (Lit.int .i64 a4).wf = true → (Lit.int .i64 a5).wf = true → ∃ k, hyphenlaw3_SetRight.f k l0 a1 a2 a3 a4 a5 = some true
theorem hyphenlaw3_SetRight.walk (P : hyphenlaw3_SetRight.Pure) (a0 : Option Addr) (len0 cap0 : Nat) (z0 : List Int) (a1 : Int) (a2 : Int) (a3 : Int) (a4 : Int) (a5 : Int) (w : World) (w0 : (a0 = none ∧ len0 = 0 ∧ cap0 = 0 ∧ z0 = []) ∨ ∃ x, a0 = some x ∧ len0 ≤ cap0 ∧ cap0 ≤ maxLen ∧ z0.length = cap0 ∧ (∀ i, i < z0.length → w.cell? (x.add i) = some (.int .i64 (z0.getD i 0))) ∧ ∀ n ∈ z0, (Lit.int .i64 n).wf = true) (y0 : len0 * 8 ≤ 140737488351232) (w1 : (Lit.int .i64 a1).wf = true) (w2 : (Lit.int .i64 a2).wf = true) (w3 : (Lit.int .i64 a3).wf = true) (w4 : (Lit.int .i64 a4).wf = true) (w5 : (Lit.int .i64 a5).wf = true) :
    Calls Try.prog 6 #[.slice a0 len0 cap0, .int .i64 a1, .int .i64 a2, .int .i64 a3, .int .i64 a4, .int .i64 a5] w fun e w' => e = .returned (.bool true) ∧ Below w.heap.size w w' := by
  obtain ⟨l0, rfl, hr0, hm0, hw0, hc0⟩ := ReadsInt.ofRowC w0
  obtain ⟨k, h⟩ := P l0 a1 a2 a3 a4 a5 hm0 y0 hw0 w1 w2 w3 w4 w5
  refine (hyphenlaw3_SetRight.calls k _ _ l0 a1 a2 a3 a4 a5 true w (Kd.C_of_reads (d := (0 : Int)) (h1 := fun _ => rfl) hr0) hc0 h).mono ?_
  rintro e w' ⟨rfl, hd⟩
  exact ⟨rfl, hd⟩

end Go.Proofs.Ytdmmofhmhpnjpaa.P
