-- Joined by wip/merge.py (a program of this repo) out of texts of this claim, cut down to what it reaches; Lean checks it.
import Derived.Test.YtnnpfgpfkningaaK1
import Derived.Test.YtnnpfgpfkningaaK7
import Derived.Test.YtnnpfgpfkningaaK8
import Derived.Test.YtnnpfgpfkningaaK2
import Derived.Test.YtnnpfgpfkningaaK3
import Derived.Test.YtnnpfgpfkningaaK5
namespace Go.Proofs.Ytnnpfgpfkningaa.P
open Go.RowKit Go.Proofs.YtnnpfgpfkningaaW.PrintWords Go.Proofs.YtnnpfgpfkningaaW.PrintLast Go.Proofs.YtnnpfgpfkningaaW.PrintMore
attribute [local go_sem] max2_int min2_int max_two min_two max_three min_three max_four min_four   -- for this text's walks alone
attribute [local go_sem ↓ high] Go.Proofs.YtnnpfgpfkningaaX.isSome_setCell
set_option linter.unusedVariables false
set_option linter.unusedSimpArgs false
/-- A region's condition may be strengthened under way, where each operation keeps it. -/
theorem strong_ {P : Program} {md : Region.Mode} {ops : Array Oper} {Q : Exit → Act → World → Prop} {S S' : World → Prop} (hSS : ∀ w, S' w → S w) : ∀ (fuel : Nat) (listed : Array Bool) (a : Act) (w : World), S' w → wpAnyLast P md ops Q S' [] fuel listed a w → wpAnyLast P md ops Q S [] fuel listed a w
 | 0, _, _, _, _, h => h
 | fuel + 1, _, _, _, hS, h => ⟨h.1, fun i hi => wpOp_mono (fun _ _ h' => ⟨fun _ _ => hSS _ (h'.1 (by simp) hS), strong_ hSS fuel _ _ _ (h'.1 (by simp) hS) h'.2⟩) (h.2 i hi)⟩
theorem cell_alloc_of {w : World} {a : Addr} {u : Value} (h : w.cell? a = some u) (o : Obj) : (w.alloc o).cell? a = some u := ((below_alloc (Below.refl _ _) o).cell (World.block_lt_of_cell? w _ h)).trans h
mutual
def hyphenlaw5_Defs.l0 : Nat → List Int → List (S61) → Int → Option ((List (S61)))
 | 0, _, _, _ => none
 | k + 1, x0, x3, x4 => if x4 < (x0.length : Int) then (hyphenlaw5_Defs.j1 k x0 x3 x4 (decide (x4 < 2))) else (hyphenlaw5_Defs.j1 k x0 x3 x4 false)
def hyphenlaw5_Defs.j1 : Nat → List Int → List (S61) → Int → Bool → Option ((List (S61)))
 | 0, _, _, _, _ => none
 | k + 1, x0, x3, x4, x27 => if x27 = true then ((hyphenlaw5_names.f).bind fun t175 => (if 0 ≤ (wrap64 (4 + x4)) then (if (wrap64 (4 + x4)) < (t175.length : Int) then (if 0 ≤ x4 then (if x4 < (x0.length : Int) then ((hyphenlaw5_within.f (rd x0 x4) 1099511627776).bind fun t180 => ((hyphenlaw5_class.f k t180 x3 0).bind fun bt181 => (if x3.length < 1759218604441 then (hyphenlaw5_Defs.l0 k x0 (x3 ++ [(⟨rdOf ByteArray.empty t175 (wrap64 (4 + x4)), (⟨bt181.1, bt181.2.1, bt181.2.2.1, bt181.2.2.2.1, bt181.2.2.2.2⟩ : S58)⟩ : S61)]) (wrap64 (x4 + 1))) else (none)))) else (none)) else (none)) else (none)) else (none))) else (some x3)
end
def hyphenlaw5_Defs.f (k : Nat) (l0 : List Int) : Option ((List (S61))) := (hyphenlaw5_ranged.f 97 97).bind fun bt138 => ((hyphenlaw5_ranged.f 97 99).bind fun bt145 => ((hyphenlaw5_ranged.f 48 57).bind fun bt152 => ((hyphenlaw5_ranged.f 19968 20223).bind fun bt159 => (hyphenlaw5_Defs.l0 k l0 (([(⟨(⟨#[97]⟩ : ByteArray), (⟨bt138.1, bt138.2.1, bt138.2.2.1, bt138.2.2.2.1, bt138.2.2.2.2⟩ : S58)⟩ : S61), (⟨(⟨#[118]⟩ : ByteArray), (⟨bt145.1, bt145.2.1, bt145.2.2.1, bt145.2.2.2.1, bt145.2.2.2.2⟩ : S58)⟩ : S61), (⟨(⟨#[100]⟩ : ByteArray), (⟨5, 0, 0, (⟨#[]⟩ : ByteArray), (([(⟨bt152.1, bt152.2.1, bt152.2.2.1, bt152.2.2.2.1, bt152.2.2.2.2⟩ : S58), (⟨bt159.1, bt159.2.1, bt159.2.2.1, bt159.2.2.2.1, bt159.2.2.2.2⟩ : S58)] : List (S58)))⟩ : S58)⟩ : S61), (⟨(⟨#[115]⟩ : ByteArray), (⟨7, 0, 0, (⟨#[]⟩ : ByteArray), (([(⟨3, 0, 0, (⟨#[]⟩ : ByteArray), ([] : List (S58))⟩ : S58), (⟨2, 0, 0, (⟨#[118]⟩ : ByteArray), ([] : List (S58))⟩ : S58)] : List (S58)))⟩ : S58)⟩ : S61)] : List (S61))) 0))))
theorem hyphenlaw5_Defs.mono_l : ∀ k, (∀ y0 y1 y2, LeO (hyphenlaw5_Defs.l0 k y0 y1 y2) (hyphenlaw5_Defs.l0 (k + 1) y0 y1 y2)) ∧ (∀ y0 y1 y2 y3, LeO (hyphenlaw5_Defs.j1 k y0 y1 y2 y3) (hyphenlaw5_Defs.j1 (k + 1) y0 y1 y2 y3))
 | 0 => ⟨fun _ _ _ r h => by simp [hyphenlaw5_Defs.l0] at h, fun _ _ _ _ r h => by simp [hyphenlaw5_Defs.j1] at h⟩
 | k + 1 => by
  obtain ⟨ih0, ih1⟩ := hyphenlaw5_Defs.mono_l k
  refine ⟨?_, ?_⟩
  ·intro y0 y1 y2
   unfold hyphenlaw5_Defs.l0
   repeat' first
   | (with_reducible exact ih0 _ _ _)
   | (with_reducible exact ih1 _ _ _ _)
   | (with_reducible exact hyphenlaw5_class.mono _ _ _ _)
   | (with_reducible exact LeO.refl _)
   | (with_reducible exact LeO.none _)
   | (with_reducible refine LeO.ite ?_ ?_)
   | (with_reducible refine LeO.bind ?_ (fun _ => ?_))
   | exact ih0 _ _ _
   | exact ih1 _ _ _ _
   | exact hyphenlaw5_class.mono _ _ _ _
   | exact LeO.none _
   | refine LeO.ite ?_ ?_
   | refine LeO.bind ?_ (fun _ => ?_)
  ·intro y0 y1 y2 y3
   unfold hyphenlaw5_Defs.j1
   repeat' first
   | (with_reducible exact ih0 _ _ _)
   | (with_reducible exact ih1 _ _ _ _)
   | (with_reducible exact hyphenlaw5_class.mono _ _ _ _)
   | (with_reducible exact LeO.refl _)
   | (with_reducible exact LeO.none _)
   | (with_reducible refine LeO.ite ?_ ?_)
   | (with_reducible refine LeO.bind ?_ (fun _ => ?_))
   | exact ih0 _ _ _
   | exact ih1 _ _ _ _
   | exact hyphenlaw5_class.mono _ _ _ _
   | exact LeO.none _
   | refine LeO.ite ?_ ?_
   | refine LeO.bind ?_ (fun _ => ?_)
theorem hyphenlaw5_Defs.mono : ∀ a0 k, LeO (hyphenlaw5_Defs.f k a0) (hyphenlaw5_Defs.f (k + 1) a0) := by
 intro a0 k
 obtain ⟨ih0, ih1⟩ := hyphenlaw5_Defs.mono_l k
 unfold hyphenlaw5_Defs.f
 repeat' first
   | (with_reducible exact ih0 _ _ _)
   | (with_reducible exact ih1 _ _ _ _)
   | (with_reducible exact hyphenlaw5_class.mono _ _ _ _)
   | (with_reducible exact LeO.refl _)
   | (with_reducible exact LeO.none _)
   | (with_reducible refine LeO.ite ?_ ?_)
   | (with_reducible refine LeO.bind ?_ (fun _ => ?_))
   | exact ih0 _ _ _
   | exact ih1 _ _ _ _
   | exact hyphenlaw5_class.mono _ _ _ _
   | exact LeO.none _
   | refine LeO.ite ?_ ?_
   | refine LeO.bind ?_ (fun _ => ?_)
def hyphenlaw5_Defs.T5 : Bool × List (List Nat × List Nat) := (true, [([], []), ([], []), ([], []), ([2], [2]), ([1, 3], [1, 3]), ([4], [4]), ([], []), ([], []), ([6, 7], [6, 7]), ([8], [8]), ([9, 1], [9]), ([], []), ([10, 11, 10], [10, 11]), ([5, 12], [5, 12]), ([13], [13]), ([0, 14, 12], [0, 14]), ([15, 15, 0, 1, 2, 3, 4, 5, 6, 7, 8, 9, 10, 11, 12, 13, 14, 15], [0, 11, 15])])
def hyphenlaw5_Defs.B5 : List Nat := [0, 0, 0, 4, 14, 30, 0, 0, 192, 448, 962, 0, 4034, 8190, 16382, 32767, 65535]
theorem hyphenlaw5_Defs.tab5 : rtab .any (opsOf Try.f12 5) = hyphenlaw5_Defs.T5 := by kernel_rfl
theorem hyphenlaw5_Defs.bits5 : waitsOk hyphenlaw5_Defs.T5.2 hyphenlaw5_Defs.B5 = true := by kernel_rfl
set_option maxHeartbeats 8000000 in
set_option maxRecDepth 100000 in
theorem hyphenlaw5_Defs.calls (k : Nat) (A0 : Option Addr) (c0 : Nat) (l0 : List Int) (r : List (S61)) (w : World) (hr0 : Kd.C (Kd.int .i64) w A0 l0.length l0) (hc0 : l0.length ≤ c0) (h : hyphenlaw5_Defs.f k l0 = some r) :
  Calls Try.prog 12 #[.slice A0 l0.length c0] w fun e w' => ∃ v0_ : Value, e = .returned (v0_) ∧ Kd.N k61 61 w' w.heap.size (fun k_ => (w.heap.size ≤ k_)) v0_ r ∧ Below w.heap.size w w' := by
 have hu61 := Try.underlying61
 have hu58 := Try.underlying58
 have HR0 := Aside0.mk hr0
 have HC0 := Aside0.mk hc0
 clear hr0 hc0
 have HB := Aside0.mk (Below.refl w.heap.size w)
 have H : ((hyphenlaw5_ranged.f 97 97).bind fun bt138 => ((hyphenlaw5_ranged.f 97 99).bind fun bt145 => ((hyphenlaw5_ranged.f 48 57).bind fun bt152 => ((hyphenlaw5_ranged.f 19968 20223).bind fun bt159 => (hyphenlaw5_Defs.l0 k l0 (([(⟨(⟨#[97]⟩ : ByteArray), (⟨bt138.1, bt138.2.1, bt138.2.2.1, bt138.2.2.2.1, bt138.2.2.2.2⟩ : S58)⟩ : S61), (⟨(⟨#[118]⟩ : ByteArray), (⟨bt145.1, bt145.2.1, bt145.2.2.1, bt145.2.2.2.1, bt145.2.2.2.2⟩ : S58)⟩ : S61), (⟨(⟨#[100]⟩ : ByteArray), (⟨5, 0, 0, (⟨#[]⟩ : ByteArray), (([(⟨bt152.1, bt152.2.1, bt152.2.2.1, bt152.2.2.2.1, bt152.2.2.2.2⟩ : S58), (⟨bt159.1, bt159.2.1, bt159.2.2.1, bt159.2.2.2.1, bt159.2.2.2.2⟩ : S58)] : List (S58)))⟩ : S58)⟩ : S61), (⟨(⟨#[115]⟩ : ByteArray), (⟨7, 0, 0, (⟨#[]⟩ : ByteArray), (([(⟨3, 0, 0, (⟨#[]⟩ : ByteArray), ([] : List (S58))⟩ : S58), (⟨2, 0, 0, (⟨#[118]⟩ : ByteArray), ([] : List (S58))⟩ : S58)] : List (S58)))⟩ : S58)⟩ : S61)] : List (S61))) 0))))) = some r := h
 clear h
 replace H := Option.bind_eq_some_iff.mp H
 obtain ⟨⟨t138, t139, t140, t141, t142⟩, A20, H⟩ := H
 replace H : ((hyphenlaw5_ranged.f 97 99).bind fun bt145 => ((hyphenlaw5_ranged.f 48 57).bind fun bt152 => ((hyphenlaw5_ranged.f 19968 20223).bind fun bt159 => (hyphenlaw5_Defs.l0 k l0 (([(⟨(⟨#[97]⟩ : ByteArray), (⟨t138, t139, t140, t141, t142⟩ : S58)⟩ : S61), (⟨(⟨#[118]⟩ : ByteArray), (⟨bt145.1, bt145.2.1, bt145.2.2.1, bt145.2.2.2.1, bt145.2.2.2.2⟩ : S58)⟩ : S61), (⟨(⟨#[100]⟩ : ByteArray), (⟨5, 0, 0, (⟨#[]⟩ : ByteArray), (([(⟨bt152.1, bt152.2.1, bt152.2.2.1, bt152.2.2.2.1, bt152.2.2.2.2⟩ : S58), (⟨bt159.1, bt159.2.1, bt159.2.2.1, bt159.2.2.2.1, bt159.2.2.2.2⟩ : S58)] : List (S58)))⟩ : S58)⟩ : S61), (⟨(⟨#[115]⟩ : ByteArray), (⟨7, 0, 0, (⟨#[]⟩ : ByteArray), (([(⟨3, 0, 0, (⟨#[]⟩ : ByteArray), ([] : List (S58))⟩ : S58), (⟨2, 0, 0, (⟨#[118]⟩ : ByteArray), ([] : List (S58))⟩ : S58)] : List (S58)))⟩ : S58)⟩ : S61)] : List (S61))) 0)))) = some r := H
 have A2 := Aside0.mk A20
 clear A20
 replace H := Option.bind_eq_some_iff.mp H
 obtain ⟨⟨t145, t146, t147, t148, t149⟩, A30, H⟩ := H
 replace H : ((hyphenlaw5_ranged.f 48 57).bind fun bt152 => ((hyphenlaw5_ranged.f 19968 20223).bind fun bt159 => (hyphenlaw5_Defs.l0 k l0 (([(⟨(⟨#[97]⟩ : ByteArray), (⟨t138, t139, t140, t141, t142⟩ : S58)⟩ : S61), (⟨(⟨#[118]⟩ : ByteArray), (⟨t145, t146, t147, t148, t149⟩ : S58)⟩ : S61), (⟨(⟨#[100]⟩ : ByteArray), (⟨5, 0, 0, (⟨#[]⟩ : ByteArray), (([(⟨bt152.1, bt152.2.1, bt152.2.2.1, bt152.2.2.2.1, bt152.2.2.2.2⟩ : S58), (⟨bt159.1, bt159.2.1, bt159.2.2.1, bt159.2.2.2.1, bt159.2.2.2.2⟩ : S58)] : List (S58)))⟩ : S58)⟩ : S61), (⟨(⟨#[115]⟩ : ByteArray), (⟨7, 0, 0, (⟨#[]⟩ : ByteArray), (([(⟨3, 0, 0, (⟨#[]⟩ : ByteArray), ([] : List (S58))⟩ : S58), (⟨2, 0, 0, (⟨#[118]⟩ : ByteArray), ([] : List (S58))⟩ : S58)] : List (S58)))⟩ : S58)⟩ : S61)] : List (S61))) 0))) = some r := H
 have A3 := Aside0.mk A30
 clear A30
 replace H := Option.bind_eq_some_iff.mp H
 obtain ⟨⟨t152, t153, t154, t155, t156⟩, A40, H⟩ := H
 replace H : ((hyphenlaw5_ranged.f 19968 20223).bind fun bt159 => (hyphenlaw5_Defs.l0 k l0 (([(⟨(⟨#[97]⟩ : ByteArray), (⟨t138, t139, t140, t141, t142⟩ : S58)⟩ : S61), (⟨(⟨#[118]⟩ : ByteArray), (⟨t145, t146, t147, t148, t149⟩ : S58)⟩ : S61), (⟨(⟨#[100]⟩ : ByteArray), (⟨5, 0, 0, (⟨#[]⟩ : ByteArray), (([(⟨t152, t153, t154, t155, t156⟩ : S58), (⟨bt159.1, bt159.2.1, bt159.2.2.1, bt159.2.2.2.1, bt159.2.2.2.2⟩ : S58)] : List (S58)))⟩ : S58)⟩ : S61), (⟨(⟨#[115]⟩ : ByteArray), (⟨7, 0, 0, (⟨#[]⟩ : ByteArray), (([(⟨3, 0, 0, (⟨#[]⟩ : ByteArray), ([] : List (S58))⟩ : S58), (⟨2, 0, 0, (⟨#[118]⟩ : ByteArray), ([] : List (S58))⟩ : S58)] : List (S58)))⟩ : S58)⟩ : S61)] : List (S61))) 0)) = some r := H
 have A4 := Aside0.mk A40
 clear A40
 replace H := Option.bind_eq_some_iff.mp H
 obtain ⟨⟨t159, t160, t161, t162, t163⟩, A50, H⟩ := H
 replace H : (hyphenlaw5_Defs.l0 k l0 (([(⟨(⟨#[97]⟩ : ByteArray), (⟨t138, t139, t140, t141, t142⟩ : S58)⟩ : S61), (⟨(⟨#[118]⟩ : ByteArray), (⟨t145, t146, t147, t148, t149⟩ : S58)⟩ : S61), (⟨(⟨#[100]⟩ : ByteArray), (⟨5, 0, 0, (⟨#[]⟩ : ByteArray), (([(⟨t152, t153, t154, t155, t156⟩ : S58), (⟨t159, t160, t161, t162, t163⟩ : S58)] : List (S58)))⟩ : S58)⟩ : S61), (⟨(⟨#[115]⟩ : ByteArray), (⟨7, 0, 0, (⟨#[]⟩ : ByteArray), (([(⟨3, 0, 0, (⟨#[]⟩ : ByteArray), ([] : List (S58))⟩ : S58), (⟨2, 0, 0, (⟨#[118]⟩ : ByteArray), ([] : List (S58))⟩ : S58)] : List (S58)))⟩ : S58)⟩ : S61)] : List (S61))) 0) = some r := H
 have A5 := Aside0.mk A50
 clear A50
 obtain ⟨y166, hy166⟩ : ∃ y_ : List (S58), y_ = (([(⟨t152, t153, t154, t155, t156⟩ : S58), (⟨t159, t160, t161, t162, t163⟩ : S58)] : List (S58))) := ⟨_, rfl⟩
 replace H : (hyphenlaw5_Defs.l0 k l0 (([(⟨(⟨#[97]⟩ : ByteArray), (⟨t138, t139, t140, t141, t142⟩ : S58)⟩ : S61), (⟨(⟨#[118]⟩ : ByteArray), (⟨t145, t146, t147, t148, t149⟩ : S58)⟩ : S61), (⟨(⟨#[100]⟩ : ByteArray), (⟨5, 0, 0, (⟨#[]⟩ : ByteArray), y166⟩ : S58)⟩ : S61), (⟨(⟨#[115]⟩ : ByteArray), (⟨7, 0, 0, (⟨#[]⟩ : ByteArray), (([(⟨3, 0, 0, (⟨#[]⟩ : ByteArray), ([] : List (S58))⟩ : S58), (⟨2, 0, 0, (⟨#[118]⟩ : ByteArray), ([] : List (S58))⟩ : S58)] : List (S58)))⟩ : S58)⟩ : S61)] : List (S61))) 0) = some r := by first | (rw [hy166]; with_reducible exact H) | (have H2_ := (Option.bind_some _ _).symm.trans H; rw [hy166]; with_reducible exact H2_) | (have H2_ := (Option.bind_some _ _).symm.trans H; with_reducible exact H2_) | with_reducible exact H | (rw [hy166]; exact H) | exact H
 have Ny166 := Aside0.mk hy166
 clear hy166
 obtain ⟨y169, hy169⟩ : ∃ y_ : List (S58), y_ = (([(⟨3, 0, 0, (⟨#[]⟩ : ByteArray), ([] : List (S58))⟩ : S58), (⟨2, 0, 0, (⟨#[118]⟩ : ByteArray), ([] : List (S58))⟩ : S58)] : List (S58))) := ⟨_, rfl⟩
 replace H : (hyphenlaw5_Defs.l0 k l0 (([(⟨(⟨#[97]⟩ : ByteArray), (⟨t138, t139, t140, t141, t142⟩ : S58)⟩ : S61), (⟨(⟨#[118]⟩ : ByteArray), (⟨t145, t146, t147, t148, t149⟩ : S58)⟩ : S61), (⟨(⟨#[100]⟩ : ByteArray), (⟨5, 0, 0, (⟨#[]⟩ : ByteArray), y166⟩ : S58)⟩ : S61), (⟨(⟨#[115]⟩ : ByteArray), (⟨7, 0, 0, (⟨#[]⟩ : ByteArray), y169⟩ : S58)⟩ : S61)] : List (S61))) 0) = some r := by first | (rw [hy169]; with_reducible exact H) | (have H2_ := (Option.bind_some _ _).symm.trans H; rw [hy169]; with_reducible exact H2_) | (have H2_ := (Option.bind_some _ _).symm.trans H; with_reducible exact H2_) | with_reducible exact H | (rw [hy169]; exact H) | exact H
 have Ny169 := Aside0.mk hy169
 clear hy169
 obtain ⟨y172, hy172⟩ : ∃ y_ : List (S61), y_ = (([(⟨(⟨#[97]⟩ : ByteArray), (⟨t138, t139, t140, t141, t142⟩ : S58)⟩ : S61), (⟨(⟨#[118]⟩ : ByteArray), (⟨t145, t146, t147, t148, t149⟩ : S58)⟩ : S61), (⟨(⟨#[100]⟩ : ByteArray), (⟨5, 0, 0, (⟨#[]⟩ : ByteArray), y166⟩ : S58)⟩ : S61), (⟨(⟨#[115]⟩ : ByteArray), (⟨7, 0, 0, (⟨#[]⟩ : ByteArray), y169⟩ : S58)⟩ : S61)] : List (S61))) := ⟨_, rfl⟩
 replace H : (hyphenlaw5_Defs.l0 k l0 y172 0) = some r := by first | (rw [hy172]; with_reducible exact H) | (have H2_ := (Option.bind_some _ _).symm.trans H; rw [hy172]; with_reducible exact H2_) | (have H2_ := (Option.bind_some _ _).symm.trans H; with_reducible exact H2_) | with_reducible exact H | (rw [hy172]; exact H) | exact H
 have Ny172 := Aside0.mk hy172
 clear hy172
 have H' := Aside0.mk H
 clear H
 go_enter Try.func12, Try.ntmps12
 go_wp2_with (first | ((with_reducible refine gate_callee (f := 25) rfl ?_); refine goesL_ (some 5) rfl rfl Try.func25 (by kernel_rfl) rfl #[.int .i64 97, .int .i64 97] rfl (by (try simp only [List.map_toArray, List.map_cons, List.map_nil]); first | done | rfl | (simp only [List.length_drop, List.length_take]; rfl)) ?_; (with_reducible refine (hyphenlaw5_ranged.calls 97 97 t138 t139 t140 t141 t142 _ A2.out).mono ?_); rintro e w6 ⟨v143, rfl, ho0, hb⟩; refine ⟨_, rfl, ?_⟩; have n0_ := Aside0.mk (Kd.N_lower (Kd.N_mono (ok' := fun k_ => (w.heap.size ≤ k_)) (Kd.R_N (Kd.R_bound ho0)) (fun k_ hk_ => (Nat.le_trans (below_size (by repeat (first | (with_reducible first | exact HB.out | apply below_alloc | apply pw_below_drewN | apply below_drew1) | exact HB.out))) hk_.2.1))) (below_size (by repeat (first | (with_reducible first | exact HB.out | apply below_alloc | apply pw_below_drewN | apply below_drew1) | exact HB.out)))); have n1_ := Aside0.mk (below_step (by repeat (first | (with_reducible first | exact HB.out | apply below_alloc | apply pw_below_drewN | apply below_drew1) | exact HB.out)) hb); clear HB; have HO144 := n0_; have HB := n1_; clear n0_ n1_; (try clear hb); (try clear hb2); (try clear hk); (try clear hi); (try clear ho0); obtain ⟨Ao7, co7, eo7⟩ := Kd.N_slice HO144.out; subst eo7) | ((with_reducible refine gate_callee (f := 25) rfl ?_); refine goesL_ (some 7) rfl rfl Try.func25 (by kernel_rfl) rfl #[.int .i64 97, .int .i64 99] rfl (by (try simp only [List.map_toArray, List.map_cons, List.map_nil]); first | done | rfl | (simp only [List.length_drop, List.length_take]; rfl)) ?_; (with_reducible refine (hyphenlaw5_ranged.calls 97 99 t145 t146 t147 t148 t149 _ A3.out).mono ?_); rintro e w8 ⟨v150, rfl, ho0, hb⟩; refine ⟨_, rfl, ?_⟩; have n0_ := Aside0.mk (Kd.N_elder' (by (with_reducible repeat (first | apply Kd.N_alloc | apply Kd.N_drewN | apply Kd.N_drew)); exact HO144.out) (by first | exact Kd.N_base ho0 | exact Kd.R_base ho0) hb); have n1_ := Aside0.mk (Kd.N_lower (Kd.N_mono (ok' := fun k_ => (w.heap.size ≤ k_) ∧ some k_ ≠ (.slice Ao7 t142.length co7 : Value).ownBlock) (Kd.R_N (Kd.R_bound ho0)) (fun k_ hk_ => ⟨(Nat.le_trans (below_size (by repeat (first | (with_reducible first | exact HB.out | apply below_alloc | apply pw_below_drewN | apply below_drew1) | exact HB.out))) hk_.2.1), (Kd.fresh' (Kd.N_lt (by (with_reducible repeat (first | apply Kd.N_alloc | apply Kd.N_drewN | apply Kd.N_drew)); exact HO144.out)) k_ hk_.2.1)⟩)) (below_size (by repeat (first | (with_reducible first | exact HB.out | apply below_alloc | apply pw_below_drewN | apply below_drew1) | exact HB.out)))); have n2_ := Aside0.mk (below_step (by repeat (first | (with_reducible first | exact HB.out | apply below_alloc | apply pw_below_drewN | apply below_drew1) | exact HB.out)) hb); clear HO144; clear HB; have HO144 := n0_; have HO151 := n1_; have HB := n2_; clear n0_ n1_ n2_; (try clear hb); (try clear hb2); (try clear hk); (try clear hi); (try clear ho0); obtain ⟨Ao9, co9, eo9⟩ := Kd.N_slice HO151.out; subst eo9) | ((with_reducible refine gate_callee (f := 25) rfl ?_); refine goesL_ (some 9) rfl rfl Try.func25 (by kernel_rfl) rfl #[.int .i64 48, .int .i64 57] rfl (by (try simp only [List.map_toArray, List.map_cons, List.map_nil]); first | done | rfl | (simp only [List.length_drop, List.length_take]; rfl)) ?_; (with_reducible refine (hyphenlaw5_ranged.calls 48 57 t152 t153 t154 t155 t156 _ A4.out).mono ?_); rintro e w10 ⟨v157, rfl, ho0, hb⟩; refine ⟨_, rfl, ?_⟩; have n0_ := Aside0.mk (Kd.N_elder' (by (with_reducible repeat (first | apply Kd.N_alloc | apply Kd.N_drewN | apply Kd.N_drew)); exact HO144.out) (by first | exact Kd.N_base ho0 | exact Kd.R_base ho0) hb); have n1_ := Aside0.mk (Kd.N_elder' (by (with_reducible repeat (first | apply Kd.N_alloc | apply Kd.N_drewN | apply Kd.N_drew)); exact HO151.out) (by first | exact Kd.N_base ho0 | exact Kd.R_base ho0) hb); have n2_ := Aside0.mk (Kd.N_lower (Kd.N_mono (ok' := fun k_ => (w.heap.size ≤ k_) ∧ some k_ ≠ (.slice Ao7 t142.length co7 : Value).ownBlock ∧ some k_ ≠ (.slice Ao9 t149.length co9 : Value).ownBlock) (Kd.R_N (Kd.R_bound ho0)) (fun k_ hk_ => ⟨(Nat.le_trans (below_size (by repeat (first | (with_reducible first | exact HB.out | apply below_alloc | apply pw_below_drewN | apply below_drew1) | exact HB.out))) hk_.2.1), (Kd.fresh' (Kd.N_lt (by (with_reducible repeat (first | apply Kd.N_alloc | apply Kd.N_drewN | apply Kd.N_drew)); exact HO144.out)) k_ hk_.2.1), (Kd.fresh' (Kd.N_lt (by (with_reducible repeat (first | apply Kd.N_alloc | apply Kd.N_drewN | apply Kd.N_drew)); exact HO151.out)) k_ hk_.2.1)⟩)) (below_size (by repeat (first | (with_reducible first | exact HB.out | apply below_alloc | apply pw_below_drewN | apply below_drew1) | exact HB.out)))); have n3_ := Aside0.mk (below_step (by repeat (first | (with_reducible first | exact HB.out | apply below_alloc | apply pw_below_drewN | apply below_drew1) | exact HB.out)) hb); clear HO144; clear HO151; clear HB; have HO144 := n0_; have HO151 := n1_; have HO158 := n2_; have HB := n3_; clear n0_ n1_ n2_ n3_; (try clear hb); (try clear hb2); (try clear hk); (try clear hi); (try clear ho0)) | ((with_reducible refine gate_callee (f := 25) rfl ?_); refine goesL_ (some 10) rfl rfl Try.func25 (by kernel_rfl) rfl #[.int .i64 19968, .int .i64 20223] rfl (by (try simp only [List.map_toArray, List.map_cons, List.map_nil]); first | done | rfl | (simp only [List.length_drop, List.length_take]; rfl)) ?_; (with_reducible refine (hyphenlaw5_ranged.calls 19968 20223 t159 t160 t161 t162 t163 _ A5.out).mono ?_); rintro e w11 ⟨v164, rfl, ho0, hb⟩; refine ⟨_, rfl, ?_⟩; have n0_ := Aside0.mk (Kd.N_elder' (by (with_reducible repeat (first | apply Kd.N_alloc | apply Kd.N_drewN | apply Kd.N_drew)); exact HO144.out) (by first | exact Kd.N_base ho0 | exact Kd.R_base ho0) hb); have n1_ := Aside0.mk (Kd.N_elder' (by (with_reducible repeat (first | apply Kd.N_alloc | apply Kd.N_drewN | apply Kd.N_drew)); exact HO151.out) (by first | exact Kd.N_base ho0 | exact Kd.R_base ho0) hb); have n2_ := Aside0.mk (Kd.N_elder' (by (with_reducible repeat (first | apply Kd.N_alloc | apply Kd.N_drewN | apply Kd.N_drew)); exact HO158.out) (by first | exact Kd.N_base ho0 | exact Kd.R_base ho0) hb); have n3_ := Aside0.mk (Kd.N_lower (Kd.N_mono (ok' := fun k_ => (w.heap.size ≤ k_) ∧ some k_ ≠ (.slice Ao7 t142.length co7 : Value).ownBlock ∧ some k_ ≠ (.slice Ao9 t149.length co9 : Value).ownBlock ∧ some k_ ≠ (v157 : Value).ownBlock) (Kd.R_N (Kd.R_bound ho0)) (fun k_ hk_ => ⟨(Nat.le_trans (below_size (by repeat (first | (with_reducible first | exact HB.out | apply below_alloc | apply pw_below_drewN | apply below_drew1) | exact HB.out))) hk_.2.1), (Kd.fresh' (Kd.N_lt (by (with_reducible repeat (first | apply Kd.N_alloc | apply Kd.N_drewN | apply Kd.N_drew)); exact HO144.out)) k_ hk_.2.1), (Kd.fresh' (Kd.N_lt (by (with_reducible repeat (first | apply Kd.N_alloc | apply Kd.N_drewN | apply Kd.N_drew)); exact HO151.out)) k_ hk_.2.1), (Kd.fresh' (Kd.N_lt (by (with_reducible repeat (first | apply Kd.N_alloc | apply Kd.N_drewN | apply Kd.N_drew)); exact HO158.out)) k_ hk_.2.1)⟩)) (below_size (by repeat (first | (with_reducible first | exact HB.out | apply below_alloc | apply pw_below_drewN | apply below_drew1) | exact HB.out)))); have n4_ := Aside0.mk (below_step (by repeat (first | (with_reducible first | exact HB.out | apply below_alloc | apply pw_below_drewN | apply below_drew1) | exact HB.out)) hb); clear HO144; clear HO151; clear HO158; clear HB; have HO144 := n0_; have HO151 := n1_; have HO158 := n2_; have HO165 := n3_; have HB := n4_; clear n0_ n1_ n2_ n3_ n4_; (try clear hb); (try clear hb2); (try clear hk); (try clear hi); (try clear ho0); obtain ⟨Ao12, co12, eo12⟩ := Kd.N_slice HO158.out; subst eo12; obtain ⟨Ao13, co13, eo13⟩ := Kd.N_slice HO165.out; subst eo13) | ((with_reducible refine gate_dst (N := 11) rfl ?_); refine Kd.N_lit k58 _ 58 ?hg (N' := 11) ?hd (xs := ([(⟨t152, t153, t154, t155, t156⟩ : S58), (⟨t159, t160, t161, t162, t163⟩ : S58)] : List (S58))) (inner := [.int .i64 t152, .int .i64 t153, .int .i64 t154, .string t155, .slice Ao12 t156.length co12, .int .i64 t159, .int .i64 t160, .int .i64 t161, .string t162, .slice Ao13 t163.length co13]) (ok := (fun k_ => (w.heap.size ≤ k_) ∧ some k_ ≠ (.slice Ao7 t142.length co7 : Value).ownBlock ∧ some k_ ≠ (.slice Ao9 t149.length co9 : Value).ownBlock)) (okp := (fun k_ => (w.heap.size ≤ k_) ∧ some k_ ≠ (.slice Ao7 t142.length co7 : Value).ownBlock ∧ some k_ ≠ (.slice Ao9 t149.length co9 : Value).ownBlock)) ?hr ?hp (fun _ hk => hk) ((show ∀ k_, w11.heap.size ≤ k_ → (fun k_ => (w.heap.size ≤ k_) ∧ some k_ ≠ (.slice Ao7 t142.length co7 : Value).ownBlock ∧ some k_ ≠ (.slice Ao9 t149.length co9 : Value).ownBlock) k_ from fun k_ hk => ⟨(Nat.le_trans (below_size (by repeat (first | (with_reducible first | exact HB.out | apply below_alloc | apply pw_below_drewN | apply below_drew1) | exact HB.out))) hk), Kd.fresh' (Kd.N_lt (by (with_reducible repeat (first | apply Kd.N_alloc | apply Kd.N_drewN | apply Kd.N_drew)); exact HO144.out)) k_ hk, Kd.fresh' (Kd.N_lt (by (with_reducible repeat (first | apply Kd.N_alloc | apply Kd.N_drewN | apply Kd.N_drew)); exact HO151.out)) k_ hk⟩) _ (Nat.le_refl _)) (Below.refl _ _) (Nat.le_refl _) (by simp) ?_; (case hd => rfl); (case hg => rfl); (case hr => first | (go_simp; done) | (go_simp; rfl)); (case hp => exact (Reps.c5 (show Kd.FK k58 _ _ (⟨t152, t153, t154, t155, t156⟩ : S58) [.int .i64 t152, .int .i64 t153, .int .i64 t154, .string t155, .slice Ao12 t156.length co12] from (k58_mkF _ _ (⟨t152, t153, t154, t155, t156⟩ : S58) (Kd.N_reads' (Kd.N_mono (ok' := (fun k_ => (w.heap.size ≤ k_) ∧ some k_ ≠ (.slice Ao7 t142.length co7 : Value).ownBlock ∧ some k_ ≠ (.slice Ao9 t149.length co9 : Value).ownBlock)) (HO158.out) (fun k_ hk => ⟨hk.1.1, ⟨hk.1.2.1, hk.1.2.2⟩⟩))).2.1 (Kd.N_F (Kd.N_mono (ok' := (fun k_ => (w.heap.size ≤ k_) ∧ some k_ ≠ (.slice Ao7 t142.length co7 : Value).ownBlock ∧ some k_ ≠ (.slice Ao9 t149.length co9 : Value).ownBlock)) (HO158.out) (fun k_ hk => ⟨hk.1.1, ⟨hk.1.2.1, hk.1.2.2⟩⟩))))) (Reps.c5 (show Kd.FK k58 _ _ (⟨t159, t160, t161, t162, t163⟩ : S58) [.int .i64 t159, .int .i64 t160, .int .i64 t161, .string t162, .slice Ao13 t163.length co13] from (k58_mkF _ _ (⟨t159, t160, t161, t162, t163⟩ : S58) (Kd.N_reads' (Kd.N_mono (ok' := (fun k_ => (w.heap.size ≤ k_) ∧ some k_ ≠ (.slice Ao7 t142.length co7 : Value).ownBlock ∧ some k_ ≠ (.slice Ao9 t149.length co9 : Value).ownBlock)) (HO165.out) (fun k_ hk => ⟨hk.1, ⟨hk.2.1, hk.2.2.1⟩⟩))).2.1 (Kd.N_F (Kd.N_mono (ok' := (fun k_ => (w.heap.size ≤ k_) ∧ some k_ ≠ (.slice Ao7 t142.length co7 : Value).ownBlock ∧ some k_ ≠ (.slice Ao9 t149.length co9 : Value).ownBlock)) (HO165.out) (fun k_ hk => ⟨hk.1, ⟨hk.2.1, hk.2.2.1⟩⟩))))) (Reps.none _ _)))); intro v167 w14 ho15 hb hg_ hnew_; clear hg_ hnew_; (first | rw [← Ny166.out] at ho15 | (simp only [Int.reduceToNat] at ho15; rw [← Ny166.out] at ho15)); have n0_ := Aside0.mk (Kd.N_elder' (by (with_reducible repeat (first | apply Kd.N_alloc | apply Kd.N_drewN | apply Kd.N_drew)); exact HO144.out) (by first | exact Kd.N_base ho15 | exact Kd.R_base ho15) hb); have n1_ := Aside0.mk (Kd.N_elder' (by (with_reducible repeat (first | apply Kd.N_alloc | apply Kd.N_drewN | apply Kd.N_drew)); exact HO151.out) (by first | exact Kd.N_base ho15 | exact Kd.R_base ho15) hb); have n2_ := Aside0.mk (Kd.N_lower ho15 (below_size (by repeat (first | (with_reducible first | exact HB.out | apply below_alloc | apply pw_below_drewN | apply below_drew1) | exact HB.out)))); have n3_ := Aside0.mk (below_step (by repeat (first | (with_reducible first | exact HB.out | apply below_alloc | apply pw_below_drewN | apply below_drew1) | exact HB.out)) hb); clear HO144; clear HO151; clear HB; clear HO158; clear HO165; have HO144 := n0_; have HO151 := n1_; have HO168 := n2_; have HB := n3_; clear n0_ n1_ n2_ n3_; clear hb ho15; obtain ⟨Ao16, co16, eo16⟩ := Kd.N_slice HO168.out; subst eo16) | ((with_reducible refine gate_dst (N := 16) rfl ?_); refine Kd.N_lit k58 _ 58 ?hg (N' := 16) ?hd (xs := ([(⟨3, 0, 0, (⟨#[]⟩ : ByteArray), ([] : List (S58))⟩ : S58), (⟨2, 0, 0, (⟨#[118]⟩ : ByteArray), ([] : List (S58))⟩ : S58)] : List (S58))) (inner := [.int .i64 3, .int .i64 0, .int .i64 0, .string (⟨#[]⟩ : ByteArray), .slice none 0 0, .int .i64 2, .int .i64 0, .int .i64 0, .string (⟨#[118]⟩ : ByteArray), .slice none 0 0]) (ok := (fun k_ => (w.heap.size ≤ k_) ∧ some k_ ≠ (.slice Ao7 t142.length co7 : Value).ownBlock ∧ some k_ ≠ (.slice Ao9 t149.length co9 : Value).ownBlock ∧ some k_ ≠ (.slice Ao16 y166.length co16 : Value).ownBlock)) (okp := (fun k_ => (w.heap.size ≤ k_) ∧ some k_ ≠ (.slice Ao7 t142.length co7 : Value).ownBlock ∧ some k_ ≠ (.slice Ao9 t149.length co9 : Value).ownBlock ∧ some k_ ≠ (.slice Ao16 y166.length co16 : Value).ownBlock)) ?hr ?hp (fun _ hk => hk) ((show ∀ k_, w14.heap.size ≤ k_ → (fun k_ => (w.heap.size ≤ k_) ∧ some k_ ≠ (.slice Ao7 t142.length co7 : Value).ownBlock ∧ some k_ ≠ (.slice Ao9 t149.length co9 : Value).ownBlock ∧ some k_ ≠ (.slice Ao16 y166.length co16 : Value).ownBlock) k_ from fun k_ hk => ⟨(Nat.le_trans (below_size (by repeat (first | (with_reducible first | exact HB.out | apply below_alloc | apply pw_below_drewN | apply below_drew1) | exact HB.out))) hk), Kd.fresh' (Kd.N_lt (by (with_reducible repeat (first | apply Kd.N_alloc | apply Kd.N_drewN | apply Kd.N_drew)); exact HO144.out)) k_ hk, Kd.fresh' (Kd.N_lt (by (with_reducible repeat (first | apply Kd.N_alloc | apply Kd.N_drewN | apply Kd.N_drew)); exact HO151.out)) k_ hk, Kd.fresh' (Kd.N_lt (by (with_reducible repeat (first | apply Kd.N_alloc | apply Kd.N_drewN | apply Kd.N_drew)); exact HO168.out)) k_ hk⟩) _ (Nat.le_refl _)) (Below.refl _ _) (Nat.le_refl _) (by simp) ?_; (case hd => rfl); (case hg => rfl); (case hr => first | (go_simp; done) | (go_simp; rfl)); (case hp => exact (Reps.c5 (show Kd.FK k58 _ _ (⟨3, 0, 0, (⟨#[]⟩ : ByteArray), ([] : List (S58))⟩ : S58) [.int .i64 3, .int .i64 0, .int .i64 0, .string (⟨#[]⟩ : ByteArray), .slice none 0 0] from (k58_mkF _ _ (⟨3, 0, 0, (⟨#[]⟩ : ByteArray), ([] : List (S58))⟩ : S58) (Nat.le_refl _) (Kd.F_nil _ _ _))) (Reps.c5 (show Kd.FK k58 _ _ (⟨2, 0, 0, (⟨#[118]⟩ : ByteArray), ([] : List (S58))⟩ : S58) [.int .i64 2, .int .i64 0, .int .i64 0, .string (⟨#[118]⟩ : ByteArray), .slice none 0 0] from (k58_mkF _ _ (⟨2, 0, 0, (⟨#[118]⟩ : ByteArray), ([] : List (S58))⟩ : S58) (Nat.le_refl _) (Kd.F_nil _ _ _))) (Reps.none _ _)))); intro v170 w17 ho18 hb hg_ hnew_; clear hg_ hnew_; (first | rw [← Ny169.out] at ho18 | (simp only [Int.reduceToNat] at ho18; rw [← Ny169.out] at ho18)); have n0_ := Aside0.mk (Kd.N_elder' (by (with_reducible repeat (first | apply Kd.N_alloc | apply Kd.N_drewN | apply Kd.N_drew)); exact HO144.out) (by first | exact Kd.N_base ho18 | exact Kd.R_base ho18) hb); have n1_ := Aside0.mk (Kd.N_elder' (by (with_reducible repeat (first | apply Kd.N_alloc | apply Kd.N_drewN | apply Kd.N_drew)); exact HO151.out) (by first | exact Kd.N_base ho18 | exact Kd.R_base ho18) hb); have n2_ := Aside0.mk (Kd.N_elder' (by (with_reducible repeat (first | apply Kd.N_alloc | apply Kd.N_drewN | apply Kd.N_drew)); exact HO168.out) (by first | exact Kd.N_base ho18 | exact Kd.R_base ho18) hb); have n3_ := Aside0.mk (Kd.N_lower ho18 (below_size (by repeat (first | (with_reducible first | exact HB.out | apply below_alloc | apply pw_below_drewN | apply below_drew1) | exact HB.out)))); have n4_ := Aside0.mk (below_step (by repeat (first | (with_reducible first | exact HB.out | apply below_alloc | apply pw_below_drewN | apply below_drew1) | exact HB.out)) hb); clear HO144; clear HO151; clear HO168; clear HB; have HO144 := n0_; have HO151 := n1_; have HO168 := n2_; have HO171 := n3_; have HB := n4_; clear n0_ n1_ n2_ n3_ n4_; clear hb ho18; obtain ⟨Ao19, co19, eo19⟩ := Kd.N_slice HO171.out; subst eo19) | ((with_reducible refine gate_dst (N := 19) rfl ?_); refine Kd.N_lit k61 _ 61 ?hg (N' := 19) ?hd (xs := ([(⟨(⟨#[97]⟩ : ByteArray), (⟨t138, t139, t140, t141, t142⟩ : S58)⟩ : S61), (⟨(⟨#[118]⟩ : ByteArray), (⟨t145, t146, t147, t148, t149⟩ : S58)⟩ : S61), (⟨(⟨#[100]⟩ : ByteArray), (⟨5, 0, 0, (⟨#[]⟩ : ByteArray), y166⟩ : S58)⟩ : S61), (⟨(⟨#[115]⟩ : ByteArray), (⟨7, 0, 0, (⟨#[]⟩ : ByteArray), y169⟩ : S58)⟩ : S61)] : List (S61))) (inner := [.string (⟨#[97]⟩ : ByteArray), .int .i64 t138, .int .i64 t139, .int .i64 t140, .string t141, .slice Ao7 t142.length co7, .string (⟨#[118]⟩ : ByteArray), .int .i64 t145, .int .i64 t146, .int .i64 t147, .string t148, .slice Ao9 t149.length co9, .string (⟨#[100]⟩ : ByteArray), .int .i64 5, .int .i64 0, .int .i64 0, .string (⟨#[]⟩ : ByteArray), .slice Ao16 y166.length co16, .string (⟨#[115]⟩ : ByteArray), .int .i64 7, .int .i64 0, .int .i64 0, .string (⟨#[]⟩ : ByteArray), .slice Ao19 y169.length co19]) (ok := (fun k_ => (w.heap.size ≤ k_))) (okp := (fun k_ => (w.heap.size ≤ k_))) ?hr ?hp (fun _ hk => hk) ((show ∀ k_, w17.heap.size ≤ k_ → (fun k_ => (w.heap.size ≤ k_)) k_ from fun k_ hk => (Nat.le_trans (below_size (by repeat (first | (with_reducible first | exact HB.out | apply below_alloc | apply pw_below_drewN | apply below_drew1) | exact HB.out))) hk)) _ (Nat.le_refl _)) (Below.refl _ _) (Nat.le_refl _) (by simp) ?_; (case hd => rfl); (case hg => rfl); (case hr => first | (go_simp; done) | (go_simp; rfl)); (case hp => exact (Reps.c6 (show Kd.FK k61 _ _ (⟨(⟨#[97]⟩ : ByteArray), (⟨t138, t139, t140, t141, t142⟩ : S58)⟩ : S61) [.string (⟨#[97]⟩ : ByteArray), .int .i64 t138, .int .i64 t139, .int .i64 t140, .string t141, .slice Ao7 t142.length co7] from (k61_mkF _ _ (⟨(⟨#[97]⟩ : ByteArray), (⟨t138, t139, t140, t141, t142⟩ : S58)⟩ : S61) (Kd.N_reads' (Kd.N_mono (ok' := (fun k_ => (w.heap.size ≤ k_))) (HO144.out) (fun k_ hk => hk.1.1.1.1.1))).2.1 (Kd.N_F (Kd.N_mono (ok' := (fun k_ => (w.heap.size ≤ k_))) (HO144.out) (fun k_ hk => hk.1.1.1.1.1))))) (Reps.c6 (show Kd.FK k61 _ _ (⟨(⟨#[118]⟩ : ByteArray), (⟨t145, t146, t147, t148, t149⟩ : S58)⟩ : S61) [.string (⟨#[118]⟩ : ByteArray), .int .i64 t145, .int .i64 t146, .int .i64 t147, .string t148, .slice Ao9 t149.length co9] from (k61_mkF _ _ (⟨(⟨#[118]⟩ : ByteArray), (⟨t145, t146, t147, t148, t149⟩ : S58)⟩ : S61) (Kd.N_reads' (Kd.N_mono (ok' := (fun k_ => (w.heap.size ≤ k_))) (HO151.out) (fun k_ hk => hk.1.1.1.1.1))).2.1 (Kd.N_F (Kd.N_mono (ok' := (fun k_ => (w.heap.size ≤ k_))) (HO151.out) (fun k_ hk => hk.1.1.1.1.1))))) (Reps.c6 (show Kd.FK k61 _ _ (⟨(⟨#[100]⟩ : ByteArray), (⟨5, 0, 0, (⟨#[]⟩ : ByteArray), y166⟩ : S58)⟩ : S61) [.string (⟨#[100]⟩ : ByteArray), .int .i64 5, .int .i64 0, .int .i64 0, .string (⟨#[]⟩ : ByteArray), .slice Ao16 y166.length co16] from (k61_mkF _ _ (⟨(⟨#[100]⟩ : ByteArray), (⟨5, 0, 0, (⟨#[]⟩ : ByteArray), y166⟩ : S58)⟩ : S61) (Kd.N_reads' (Kd.N_mono (ok' := (fun k_ => (w.heap.size ≤ k_))) (HO168.out) (fun k_ hk => hk.1.1))).2.1 (Kd.N_F (Kd.N_mono (ok' := (fun k_ => (w.heap.size ≤ k_))) (HO168.out) (fun k_ hk => hk.1.1))))) (Reps.c6 (show Kd.FK k61 _ _ (⟨(⟨#[115]⟩ : ByteArray), (⟨7, 0, 0, (⟨#[]⟩ : ByteArray), y169⟩ : S58)⟩ : S61) [.string (⟨#[115]⟩ : ByteArray), .int .i64 7, .int .i64 0, .int .i64 0, .string (⟨#[]⟩ : ByteArray), .slice Ao19 y169.length co19] from (k61_mkF _ _ (⟨(⟨#[115]⟩ : ByteArray), (⟨7, 0, 0, (⟨#[]⟩ : ByteArray), y169⟩ : S58)⟩ : S61) (Kd.N_reads' (Kd.N_mono (ok' := (fun k_ => (w.heap.size ≤ k_))) (HO171.out) (fun k_ hk => hk.1))).2.1 (Kd.N_F (Kd.N_mono (ok' := (fun k_ => (w.heap.size ≤ k_))) (HO171.out) (fun k_ hk => hk.1))))) (Reps.none _ _)))))); intro v173 w20 ho21 hb hg_ hnew_; clear hg_ hnew_; (first | rw [← Ny172.out] at ho21 | (simp only [Int.reduceToNat] at ho21; rw [← Ny172.out] at ho21)); have n0_ := Aside0.mk (Kd.N_lower ho21 (below_size (by repeat (first | (with_reducible first | exact HB.out | apply below_alloc | apply pw_below_drewN | apply below_drew1) | exact HB.out)))); have n1_ := Aside0.mk (below_step (by repeat (first | (with_reducible first | exact HB.out | apply below_alloc | apply pw_below_drewN | apply below_drew1) | exact HB.out)) hb); clear HB; clear HO144; clear HO151; clear HO168; clear HO171; have HO174 := n0_; have HB := n1_; clear n0_ n1_; clear hb ho21))
 go_loopg [3, 4] k (fun kq v3 v4 w' => ∃ (x3_1 : List (S61)) (x4_1 : Int), v4 = .int .i64 x4_1 ∧ Aside0 (hyphenlaw5_Defs.l0 kq l0 x3_1 x4_1 = some r) ∧ Aside0 (kq ≤ k) ∧ Aside0 (Kd.N k61 61 w' w.heap.size (fun k_ => (w.heap.size ≤ k_)) v3 x3_1) ∧ Aside0 (Below w.heap.size w w'))
 case atStart => exact ⟨(y172), (0), (by first | rfl | (simp; done) | (simp [*]; done)), H', ⟨Nat.le_refl _⟩, ⟨by (with_reducible repeat (first | apply Kd.N_alloc | apply Kd.N_drewN | apply Kd.N_drew)); exact HO174.out⟩, ⟨by repeat (first | (with_reducible first | exact HB.out | apply below_alloc | apply pw_below_drewN | apply below_drew1) | exact HB.out)⟩⟩
 case round =>
  clear H'
  try clear c1
  try clear c2
  try clear p2
  try clear c5
  try clear c6
  try clear c12
  obtain ⟨x3_1, x4_1, rfl, HA, HK1, HO_3, HB⟩ := hrel
  cases gk with
  | zero => exact absurd HA.out (by simp [hyphenlaw5_Defs.l0])
  | succ k1 =>
   have H := HA.out
   clear HA
   simp only [hyphenlaw5_Defs.l0] at H
   have HC22 := Aside0.mk H
   clear H
   go_upto_region 3 with (fail)
   go_cut [27] (fun v27 wc => ∃ (kq : Nat) (x27_21 : Bool), v27 = .bool x27_21 ∧ Aside0 (hyphenlaw5_Defs.j1 kq l0 x3_1 x4_1 x27_21 = some r) ∧ Aside0 (kq ≤ k1) ∧ Aside0 (Kd.N k61 61 wc w.heap.size (fun k_ => (w.heap.size ≤ k_)) u3 x3_1) ∧ Aside0 (Below w.heap.size w wc))
   case first =>
    have H := HC22.out
    clear HC22
    by_cases c23 : x4_1 < (l0.length : Int)
    ·rw [if_pos c23] at H
     have c23b0 : decide (x4_1 < (l0.length : Int)) = true := decide_eq_true c23
     clear c23
     (first | rw [c23b0] | (simp only [i64_w, i32_w]; rw [c23b0]) | skip)
     have H' := Aside0.mk H
     clear H
     go_wp2
     go_meet
     case rel => exact ⟨_, (decide (x4_1 < 2)), (by first | rfl | (simp; done) | (simp [*]; done)), H', ⟨by have := HK1.out; first | omega | exact Nat.le_refl _⟩, ⟨by (with_reducible repeat (first | apply Kd.N_alloc | apply Kd.N_drewN | apply Kd.N_drew)); exact HO_3.out⟩, ⟨by repeat (first | (with_reducible first | exact HB.out | apply below_alloc | apply pw_below_drewN | apply below_drew1) | exact HB.out)⟩⟩
    ·rw [if_neg c23] at H
     have c23b0 : decide (x4_1 < (l0.length : Int)) = false := decide_eq_false c23
     clear c23
     (first | rw [c23b0] | (simp only [i64_w, i32_w]; rw [c23b0]) | skip)
     have H' := Aside0.mk H
     clear H
     go_wp2
     go_meet
     case rel => exact ⟨_, (false), (by first | rfl | (simp; done) | (simp [*]; done)), H', ⟨by have := HK1.out; first | omega | exact Nat.le_refl _⟩, ⟨by (with_reducible repeat (first | apply Kd.N_alloc | apply Kd.N_drewN | apply Kd.N_drew)); exact HO_3.out⟩, ⟨by repeat (first | (with_reducible first | exact HB.out | apply below_alloc | apply pw_below_drewN | apply below_drew1) | exact HB.out)⟩⟩
   case rest =>
    clear HC22
    try clear c1
    try clear c2
    try clear p2
    try clear c5
    try clear c6
    try clear c12
    try clear c23
    try clear c23b0
    try clear p2
    obtain ⟨kq, x27_21, rfl, HA, HJ21, HO_3, HB⟩ := hcut
    cases kq with
    | zero => exact absurd HA.out (by simp [hyphenlaw5_Defs.j1])
    | succ kj21 =>
     have H := HA.out
     clear HA
     simp only [hyphenlaw5_Defs.j1] at H
     by_cases c24 : x27_21 = true
     ·subst c24
      have H1 : ((hyphenlaw5_names.f).bind fun t175 => (if 0 ≤ (wrap64 (4 + x4_1)) then (if (wrap64 (4 + x4_1)) < (t175.length : Int) then (if 0 ≤ x4_1 then (if x4_1 < (l0.length : Int) then ((hyphenlaw5_within.f (rd l0 x4_1) 1099511627776).bind fun t180 => ((hyphenlaw5_class.f kj21 t180 x3_1 0).bind fun bt181 => (if x3_1.length < 1759218604441 then (hyphenlaw5_Defs.l0 kj21 l0 (x3_1 ++ [(⟨rdOf ByteArray.empty t175 (wrap64 (4 + x4_1)), (⟨bt181.1, bt181.2.1, bt181.2.2.1, bt181.2.2.2.1, bt181.2.2.2.2⟩ : S58)⟩ : S61)]) (wrap64 (x4_1 + 1))) else (none)))) else (none)) else (none)) else (none)) else (none))) = some r := by rw [if_pos rfl] at H; exact H
      clear H
      have H := H1
      clear H1
      replace H := Option.bind_eq_some_iff.mp H
      obtain ⟨t175, A250, H⟩ := H
      replace H : (if 0 ≤ (wrap64 (4 + x4_1)) then (if (wrap64 (4 + x4_1)) < (t175.length : Int) then (if 0 ≤ x4_1 then (if x4_1 < (l0.length : Int) then ((hyphenlaw5_within.f (rd l0 x4_1) 1099511627776).bind fun t180 => ((hyphenlaw5_class.f kj21 t180 x3_1 0).bind fun bt181 => (if x3_1.length < 1759218604441 then (hyphenlaw5_Defs.l0 kj21 l0 (x3_1 ++ [(⟨rdOf ByteArray.empty t175 (wrap64 (4 + x4_1)), (⟨bt181.1, bt181.2.1, bt181.2.2.1, bt181.2.2.2.1, bt181.2.2.2.2⟩ : S58)⟩ : S61)]) (wrap64 (x4_1 + 1))) else (none)))) else (none)) else (none)) else (none)) else (none)) = some r := H
      have A25 := Aside0.mk A250
      clear A250
      obtain ⟨ji26, hji26⟩ : ∃ j_ : Int, (wrap64 (4 + x4_1)) = j_ := ⟨_, rfl⟩
      replace H : (if 0 ≤ (ji26) then (if (ji26) < (t175.length : Int) then (if 0 ≤ x4_1 then (if x4_1 < (l0.length : Int) then ((hyphenlaw5_within.f (rd l0 x4_1) 1099511627776).bind fun t180 => ((hyphenlaw5_class.f kj21 t180 x3_1 0).bind fun bt181 => (if x3_1.length < 1759218604441 then (hyphenlaw5_Defs.l0 kj21 l0 (x3_1 ++ [(⟨rdOf ByteArray.empty t175 (ji26), (⟨bt181.1, bt181.2.1, bt181.2.2.1, bt181.2.2.2.1, bt181.2.2.2.2⟩ : S58)⟩ : S61)]) (wrap64 (x4_1 + 1))) else (none)))) else (none)) else (none)) else (none)) else (none)) = some r := by first | (rw [hji26] at H; exact H) | (simp only [hji26] at H ⊢; exact H)
      (try rw [hji26] at A25)
      have hji26w : (IntKind.i64.wrap (4 + x4_1)) = ji26 := (i64_w _).trans hji26
      by_cases c27 : 0 ≤ (ji26)
      ·rw [if_pos c27] at H
       have c27b0 : decide (0 ≤ (ji26)) = true := decide_eq_true c27
       clear c27
       by_cases c28 : (ji26) < (t175.length : Int)
       ·rw [if_pos c28] at H
        have c28b0 : decide ((ji26) < (t175.length : Int)) = true := decide_eq_true c28
        clear c28
        by_cases c29 : 0 ≤ x4_1
        ·rw [if_pos c29] at H
         have c29b0 : decide (0 ≤ x4_1) = true := decide_eq_true c29
         clear c29
         by_cases c30 : x4_1 < (l0.length : Int)
         ·rw [if_pos c30] at H
          have c30b0 : decide (x4_1 < (l0.length : Int)) = true := decide_eq_true c30
          clear c30
          replace H := Option.bind_eq_some_iff.mp H
          obtain ⟨t180, A310, H⟩ := H
          replace H : ((hyphenlaw5_class.f kj21 t180 x3_1 0).bind fun bt181 => (if x3_1.length < 1759218604441 then (hyphenlaw5_Defs.l0 kj21 l0 (x3_1 ++ [(⟨rdOf ByteArray.empty t175 (ji26), (⟨bt181.1, bt181.2.1, bt181.2.2.1, bt181.2.2.2.1, bt181.2.2.2.2⟩ : S58)⟩ : S61)]) (wrap64 (x4_1 + 1))) else (none))) = some r := H
          have A31 := Aside0.mk A310
          clear A310
          replace H := Option.bind_eq_some_iff.mp H
          obtain ⟨⟨t181, t182, t183, t184, t185⟩, A320, H⟩ := H
          replace H : (if x3_1.length < 1759218604441 then (hyphenlaw5_Defs.l0 kj21 l0 (x3_1 ++ [(⟨rdOf ByteArray.empty t175 (ji26), (⟨t181, t182, t183, t184, t185⟩ : S58)⟩ : S61)]) (wrap64 (x4_1 + 1))) else (none)) = some r := H
          have A32 := Aside0.mk A320
          clear A320
          by_cases c33 : x3_1.length < 1759218604441
          ·rw [if_pos c33] at H
           have LMc33 := Aside0.mk c33
           clear c33
           obtain ⟨y188, hy188⟩ : ∃ y_ : List (S61), y_ = (x3_1 ++ [(⟨rdOf ByteArray.empty t175 (ji26), (⟨t181, t182, t183, t184, t185⟩ : S58)⟩ : S61)]) := ⟨_, rfl⟩
           replace H : (hyphenlaw5_Defs.l0 kj21 l0 y188 (wrap64 (x4_1 + 1))) = some r := by first | (rw [hy188]; with_reducible exact H) | (have H2_ := (Option.bind_some _ _).symm.trans H; rw [hy188]; with_reducible exact H2_) | (have H2_ := (Option.bind_some _ _).symm.trans H; with_reducible exact H2_) | with_reducible exact H | (rw [hy188]; exact H) | exact H
           have Ny188 := Aside0.mk hy188
           clear hy188
           have H' := Aside0.mk H
           clear H
           try go_wp2
           have n0_ := Aside0.mk (Kd.N_drew HO_3.out)
           have n1_ := Aside0.mk (below_drew1 HB.out)
           clear HO_3
           clear HB
           have HO_3 := n0_
           have HB := n1_
           clear n0_ n1_
           have p179 : 0 ≤ (x4_1 : Int) := of_decide_eq_true (by first | (with_reducible assumption) | assumption)
           have q179 : x4_1 < (l0.length : Int) := of_decide_eq_true (by first | (with_reducible assumption) | assumption)
           obtain ⟨ad179, e179, hx179_0⟩ := Kd.at_int HR0.out x4_1 p179 q179
           have hw179_0 := hx179_0
           cases e179
           replace hx179_0 := (HB.out.cell (World.block_lt_of_cell? w _ hx179_0)).trans hx179_0
           replace p179 := eq_true p179
           replace q179 := eq_true q179
           refine start_ (n := 17) (S := fun w' => w'.cell? (ad179.add (x4_1).toNat) = some (.int .i64 (rd l0 x4_1))) (ds := []) #[false, false, false, false, false, false, false, false, false, false, false, false, false, false, false, false, false] (by kernel_rfl) rfl rfl ((HB.out.cell (World.block_lt_of_cell? w _ hw179_0)).trans hw179_0) (fun hHeld => ?_); refine with_tabW hyphenlaw5_Defs.tab5 hyphenlaw5_Defs.bits5 (fun HT_ HW_ => ?_)
           generalize wc.drew = w34 at HO_3 HB hx179_0 hHeld ⊢
           refine pure_ (i := 0) (N := some 30) (v := ?_) (a' := ?_) #[true, false, false, false, false, false, false, false, false, false, false, false, false, false, false, false, false] rfl rfl (any_of HT_.out (by kernel_rfl)) (fun _ _ _ h => h) (Or.inl ⟨by rfl, ?_⟩) ?_ ?_
           rotate_left
           ·intro w'
            go_simp
            with_reducible rfl
           rotate_left
           ·simp only [Act.put, List.setIfInBounds_toArray, List.set_cons_zero, List.set_cons_succ, i64_w, i32_w]
            rfl
           refine pure_ (i := 2) (N := some 32) (v := ?_) (a' := ?_) #[true, false, true, false, false, false, false, false, false, false, false, false, false, false, false, false, false] rfl rfl (any_of HT_.out (by kernel_rfl)) (fun _ _ _ h => h) (Or.inl ⟨by rfl, ?_⟩) ?_ ?_
           rotate_left
           ·intro w'
            go_simp
            with_reducible rfl
           rotate_left
           ·simp only [Act.put, List.setIfInBounds_toArray, List.set_cons_zero, List.set_cons_succ, i64_w, i32_w]
            rfl
           refine pure_ (i := 3) (N := some 33) (v := ?_) (a' := ?_) #[true, false, true, true, false, false, false, false, false, false, false, false, false, false, false, false, false] rfl rfl (any_of HT_.out (by kernel_rfl)) (fun _ _ _ h => h) (Or.inl ⟨by rfl, ?_⟩) ?_ ?_
           rotate_left
           ·intro w'
            go_simp
            with_reducible rfl
           rotate_left
           ·simp only [Act.put, List.setIfInBounds_toArray, List.set_cons_zero, List.set_cons_succ, i64_w, i32_w]
            rfl
           refine pure_ (i := 6) (N := some 36) (v := ?_) (a' := ?_) #[true, false, true, true, false, false, true, false, false, false, false, false, false, false, false, false, false] rfl rfl (any_of HT_.out (by kernel_rfl)) (fun _ _ _ h => h) (Or.inl ⟨by rfl, ?_⟩) ?_ ?_
           rotate_left
           ·intro w'
            go_simp
            with_reducible rfl
           rotate_left
           ·simp only [Act.put, List.setIfInBounds_toArray, List.set_cons_zero, List.set_cons_succ, i64_w, i32_w]
            rfl
           refine pure_ (i := 7) (N := some 37) (v := ?_) (a' := ?_) #[true, false, true, true, false, false, true, true, false, false, false, false, false, false, false, false, false] rfl rfl (any_of HT_.out (by kernel_rfl)) (fun _ _ _ h => h) (Or.inl ⟨by rfl, ?_⟩) ?_ ?_
           rotate_left
           ·intro w'
            go_simp
            with_reducible rfl
           rotate_left
           ·simp only [Act.put, List.setIfInBounds_toArray, List.set_cons_zero, List.set_cons_succ, i64_w, i32_w]
            rfl
           refine pure_ (i := 8) (N := some 38) (v := ?_) (a' := ?_) #[true, false, true, true, false, false, true, true, true, false, false, false, false, false, false, false, false] rfl rfl (any_of HT_.out (by kernel_rfl)) (fun _ _ _ h => h) (Or.inl ⟨by rfl, ?_⟩) ?_ ?_
           rotate_left
           ·intro w'
            go_simp
            with_reducible rfl
           rotate_left
           ·simp only [Act.put, List.setIfInBounds_toArray, List.set_cons_zero, List.set_cons_succ, i64_w, i32_w]
            rfl
           refine pure_ (i := 11) (N := some 41) (v := ?_) (a' := ?_) #[true, false, true, true, false, false, true, true, true, false, false, true, false, false, false, false, false] rfl rfl (any_of HT_.out (by kernel_rfl)) (fun _ _ _ h => h) (Or.inl ⟨by rfl, ?_⟩) ?_ ?_
           rotate_left
           ·intro w'
            go_simp
            with_reducible rfl
           rotate_left
           ·simp only [Act.put, List.setIfInBounds_toArray, List.set_cons_zero, List.set_cons_succ, i64_w, i32_w]
            rfl
           refine take_ (i := 9) (N := some 39) (v := ?_) (a' := ?_) #[true, false, true, true, false, false, true, true, true, true, false, true, false, false, false, false, false] rfl rfl (take_ofW HT_.out HW_.out (by kernel_rfl)) (fun _ _ _ h => h) (Or.inl ⟨by rfl, ?_⟩) hHeld ?_ ?_
           rotate_left
           ·intro w' s0
            go_simp
            with_reducible rfl
           rotate_left
           ·simp only [Act.put, List.setIfInBounds_toArray, List.set_cons_zero, List.set_cons_succ, i64_w, i32_w]
            rfl
           refine one_ (i := 1) (N := some 31) #[true, true, true, true, false, false, true, true, true, true, false, true, false, false, false, false, false] rfl rfl (one_of HT_.out (by kernel_rfl)) (by decide) (fun K hK => ?_)
           refine goes_ Try.func26 (by kernel_rfl) rfl #[] (by rfl) rfl rfl (by (try simp only [List.map_toArray, List.map_cons, List.map_nil]); first | done | rfl | (simp only [List.length_drop, List.length_take]; rfl)) ?_
           with_reducible refine (hyphenlaw5_names.calls  t175 _ A25.out).mono ?_
           rintro e w35 ⟨v176, rfl, ho0, hb⟩
           refine ⟨_, rfl, ?_⟩
           have n0_ := Aside0.mk (Kd.N_elder' (by (with_reducible repeat (first | apply Kd.N_alloc | apply Kd.N_drewN | apply Kd.N_drew)); exact HO_3.out) (Kd.R_base ho0) hb)
           have n1_ := Aside0.mk (Kd.R_lower (Kd.R_newM (M := fun k_ => (w.heap.size ≤ k_)) ho0 (below_size (by repeat (first | (with_reducible first | exact HB.out | apply below_alloc | apply pw_below_drewN | apply below_drew1) | exact HB.out))) (fun k_ h_ => h_)) (below_size (by repeat (first | (with_reducible first | exact HB.out | apply below_alloc | apply pw_below_drewN | apply below_drew1) | exact HB.out))))
           have n2_ := Aside0.mk (below_step (by repeat (first | (with_reducible first | exact HB.out | apply below_alloc | apply pw_below_drewN | apply below_drew1) | exact HB.out)) hb)
           clear HO_3
           clear HB
           have HO_3 := n0_
           have HO177 := n1_
           have HB := n2_
           clear n0_ n1_ n2_
           (try clear hb)
           (try clear hb2)
           (try clear hk)
           (try clear hi)
           (try clear ho0)
           obtain ⟨Ao36, co36, eo36⟩ := Kd.R_slice HO177.out
           (first | subst eo36 | (injection eo36 with f1_ f2_ f3_; have f4_ := f1_.symm; have f5_ := f3_.symm; clear f1_ f2_ f3_; subst f4_; subst f5_))
           have p178 : 0 ≤ ((ji26) : Int) := of_decide_eq_true (by first | (with_reducible assumption) | assumption)
           have q178 : (ji26) < (t175.length : Int) := of_decide_eq_true (by first | (with_reducible assumption) | assumption)
           obtain ⟨ad178, e178, hx178_0⟩ := Kd.at_string (Kd.R_reads' HO177.out).2.2 (ji26) p178 q178
           cases e178
           replace p178 := eq_true p178
           replace q178 := eq_true q178
           refine hK.out _ _ ((HB.out.cell (World.block_lt_of_cell? w _ hw179_0)).trans hw179_0) (fun hHeld => ?_)
           clear hK K
           refine norm_ (a' := ?_) ?_ ?_
           rotate_left
           ·show Act.put _ (some 31) _ = _
            simp only [Act.put, List.setIfInBounds_toArray, List.set_cons_zero, List.set_cons_succ, i64_w, i32_w]
            rfl
           have hS2_ := And.intro hHeld hx178_0
           refine strong_ (S' := fun w' => w'.cell? (ad179.add (x4_1).toNat) = some (.int .i64 (rd l0 x4_1)) ∧ w'.cell? (ad178.add ((ji26)).toNat) = some (.string (rdOf ByteArray.empty t175 (ji26)))) (fun _ h_ => h_.1) _ _ _ _ hS2_ ?_
           replace hHeld := hS2_
           refine pure_ (i := 4) (N := some 34) (v := ?_) (a' := ?_) #[true, true, true, true, true, false, true, true, true, true, false, true, false, false, false, false, false] rfl rfl (any_of HT_.out (by kernel_rfl)) (fun _ _ _ h => h) (Or.inl ⟨by rfl, ?_⟩) ?_ ?_
           rotate_left
           ·intro w'
            go_simp
            with_reducible rfl
           rotate_left
           ·simp only [Act.put, List.setIfInBounds_toArray, List.set_cons_zero, List.set_cons_succ, i64_w, i32_w]
            rfl
           refine take_ (i := 5) (N := some 35) (v := ?_) (a' := ?_) #[true, true, true, true, true, true, true, true, true, true, false, true, false, false, false, false, false] rfl rfl (take_ofW HT_.out HW_.out (by kernel_rfl)) (fun _ _ _ h => h) (Or.inl ⟨by rfl, ?_⟩) hHeld ?_ ?_
           rotate_left
           ·rintro w' ⟨s0, s1⟩
            go_simp
            with_reducible rfl
           rotate_left
           ·simp only [Act.put, List.setIfInBounds_toArray, List.set_cons_zero, List.set_cons_succ, i64_w, i32_w]
            rfl
           refine one_ (i := 10) (N := some 40) #[true, true, true, true, true, true, true, true, true, true, true, true, false, false, false, false, false] rfl rfl (one_of HT_.out (by kernel_rfl)) (by decide) (fun K hK => ?_)
           refine goes_ Try.func28 (by kernel_rfl) rfl #[.int .i64 (rd l0 x4_1), .int .i64 1099511627776] (by rfl) rfl rfl (by (try simp only [List.map_toArray, List.map_cons, List.map_nil]); first | done | rfl | (simp only [List.length_drop, List.length_take]; rfl)) ?_
           with_reducible refine (hyphenlaw5_within.calls (rd l0 x4_1) 1099511627776 t180 _ A31.out).mono ?_
           rintro e w' ⟨rfl, ⟨nd, rfl⟩⟩
           refine ⟨_, rfl, ?_⟩
           obtain ⟨Ao37, co37, eo37⟩ := Kd.N_slice HO_3.out
           (first | subst eo37 | (injection eo37 with f1_ f2_ f3_; have f4_ := f1_.symm; have f5_ := f3_.symm; clear f1_ f2_ f3_; subst f4_; subst f5_))
           refine hK.out _ _ ⟨((HB.out.cell (World.block_lt_of_cell? w _ hw179_0)).trans hw179_0), hHeld.2⟩ (fun hHeld => ?_)
           clear hK K
           refine norm_ (a' := ?_) ?_ ?_
           rotate_left
           ·show Act.put _ (some 40) _ = _
            simp only [Act.put, List.setIfInBounds_toArray, List.set_cons_zero, List.set_cons_succ, i64_w, i32_w]
            rfl
           refine one_ (i := 12) (N := some 42) #[true, true, true, true, true, true, true, true, true, true, true, true, true, false, false, false, false] rfl rfl (one_of HT_.out (by kernel_rfl)) (by decide) (fun K hK => ?_)
           refine goes_ Try.func27 (by kernel_rfl) rfl #[.int .i64 t180, .slice Ao37 x3_1.length co37, .int .i64 0] (by rfl) rfl rfl (by (try simp only [List.map_toArray, List.map_cons, List.map_nil]); first | done | rfl | (simp only [List.length_drop, List.length_take]; rfl)) ?_
           with_reducible refine (hyphenlaw5_class.calls kj21 t180 _ _ x3_1 0 t181 t182 t183 t184 t185 _ ?side1 ?side2 A32.out).mono ?_
           (case side1 => repeat (first | exact (Kd.N_reads' HO_3.out).2.2 | (with_reducible refine Kd.C_alloc ?_ _) | (with_reducible refine Kd.C_drewN ?_ _) | (with_reducible refine Kd.C_drew ?_)))
           (case side2 => exact (Kd.N_reads' HO_3.out).2.1)
           rintro e w38 ⟨v186, rfl, ho0, hb⟩
           have HS1_ := (hb.cell (World.block_lt_of_cell? _ _ (hHeld.2))).trans (hHeld.2)
           refine ⟨_, rfl, ?_⟩
           have n0_ := Aside0.mk (Kd.N_elder' (by (with_reducible repeat (first | apply Kd.N_alloc | apply Kd.N_drewN | apply Kd.N_drew)); exact HO_3.out) (by first | exact Kd.N_base ho0 | exact Kd.R_base ho0) hb)
           have n1_ := Aside0.mk (Kd.R_below (by (with_reducible repeat (first | apply Kd.R_alloc | apply Kd.R_drewN | apply Kd.R_drew)); exact HO177.out) hb)
           have n2_ := Aside0.mk (Kd.N_lower (Kd.N_mono (ok' := fun k_ => (w.heap.size ≤ k_) ∧ some k_ ≠ (.slice Ao37 x3_1.length co37 : Value).ownBlock ∧ some k_ ≠ (.slice (some ad178) t175.length co36 : Value).ownBlock) ho0 (fun k_ hk_ => ⟨(Nat.le_trans (below_size (by repeat (first | (with_reducible first | exact HB.out | apply below_alloc | apply pw_below_drewN | apply below_drew1) | exact HB.out))) hk_), (Kd.fresh' (Kd.N_lt (by (with_reducible repeat (first | apply Kd.N_alloc | apply Kd.N_drewN | apply Kd.N_drew)); exact HO_3.out)) k_ hk_), (Kd.fresh' (Kd.R_lt (by (with_reducible repeat (first | apply Kd.R_alloc | apply Kd.R_drewN | apply Kd.R_drew)); exact HO177.out)) k_ hk_)⟩)) (below_size (by repeat (first | (with_reducible first | exact HB.out | apply below_alloc | apply pw_below_drewN | apply below_drew1) | exact HB.out))))
           have n3_ := Aside0.mk (below_step (by repeat (first | (with_reducible first | exact HB.out | apply below_alloc | apply pw_below_drewN | apply below_drew1) | exact HB.out)) hb)
           clear HO_3
           clear HO177
           clear HB
           have HO_3 := n0_
           have HO177 := n1_
           have HO187 := n2_
           have HB := n3_
           clear n0_ n1_ n2_ n3_
           (try clear hb)
           (try clear hb2)
           (try clear hk)
           (try clear hi)
           (try clear ho0)
           obtain ⟨Ao39, co39, eo39⟩ := Kd.N_slice HO187.out
           (first | subst eo39 | (injection eo39 with f1_ f2_ f3_; have f4_ := f1_.symm; have f5_ := f3_.symm; clear f1_ f2_ f3_; subst f4_; subst f5_))
           refine hK.out _ _ ⟨((HB.out.cell (World.block_lt_of_cell? w _ hw179_0)).trans hw179_0), HS1_⟩ (fun hHeld => ?_)
           clear hK K
           refine norm_ (a' := ?_) ?_ ?_
           rotate_left
           ·show Act.put _ (some 42) _ = _
            simp only [Act.put, List.setIfInBounds_toArray, List.set_cons_zero, List.set_cons_succ, i64_w, i32_w]
            rfl
           refine pure_ (i := 13) (N := some 43) (v := ?_) (a' := ?_) #[true, true, true, true, true, true, true, true, true, true, true, true, true, true, false, false, false] rfl rfl (any_of HT_.out (by kernel_rfl)) (fun _ _ _ h => h) (Or.inl ⟨by rfl, ?_⟩) ?_ ?_
           rotate_left
           ·intro w'
            go_simp
            with_reducible rfl
           rotate_left
           ·simp only [Act.put, List.setIfInBounds_toArray, List.set_cons_zero, List.set_cons_succ, i64_w, i32_w]
            rfl
           refine one_ (i := 14) (N := some 44) #[true, true, true, true, true, true, true, true, true, true, true, true, true, true, true, false, false] rfl rfl (one_of HT_.out (by kernel_rfl)) (by decide) (fun K hK => ?_)
           refine value_ (w1 := ?_) (v := ?_) (by rfl) rfl ?_ ?_
           rotate_left 2
           ·go_simp
            constructor
            ·rfl
            ·rfl
           refine hK.out _ _ ⟨?_, ?_⟩ (fun _ => ?_)
           ·exact (cell_alloc_of hHeld.1 _)
           ·exact (cell_alloc_of hHeld.2 _)
           clear hK K
           refine norm_ (a' := ?_) ?_ ?_
           rotate_left
           ·show Act.put _ (some 44) _ = _
            simp only [Act.put, List.setIfInBounds_toArray, List.set_cons_zero, List.set_cons_succ, i64_w, i32_w]
            rfl
           refine one_ (i := 15) (N := some 45) #[true, true, true, true, true, true, true, true, true, true, true, true, true, true, true, true, false] rfl rfl (one_of HT_.out (by kernel_rfl)) (by decide) (fun K hK => ?_)
           refine Kd.N_append_step k61 (w0 := w) w.heap.size (by rfl) (.tmp 30) (.tmp 44) 26 61 (.agg #[(.string ⟨#[]⟩), (.int .i64 0), (.int .i64 0), (.int .i64 0), (.string ⟨#[]⟩), (.slice none 0 0)]) 80 rfl Try.underlying26 info61 rfl (by decide) (by omega) (.slice Ao37 x3_1.length co37) x3_1 (⟨rdOf ByteArray.empty t175 (ji26), (⟨t181, t182, t183, t184, t185⟩ : S58)⟩ : S61) [.string (rdOf ByteArray.empty t175 (ji26)), .int .i64 t181, .int .i64 t182, .int .i64 t183, .string t184, .slice Ao39 t185.length co39] (fun k_ => (w.heap.size ≤ k_) ∧ some k_ ≠ (.slice (some ad178) t175.length co36 : Value).ownBlock) (fun k_ => ((fun k_ => (w.heap.size ≤ k_) ∧ some k_ ≠ (.slice (some ad178) t175.length co36 : Value).ownBlock)) k_ ∧ some k_ ≠ (.slice Ao37 x3_1.length co37 : Value).ownBlock) rfl rfl ?aP (fun _ hk => hk) ?aF ?aO ?aB ?aS ?aL ?_
           (case aP => exact (k61_mkF _ _ (⟨rdOf ByteArray.empty t175 (ji26), (⟨t181, t182, t183, t184, t185⟩ : S58)⟩ : S61) (Kd.N_reads' (Kd.N_mono (ok' := (fun k_ => ((fun k_ => (w.heap.size ≤ k_) ∧ some k_ ≠ (.slice (some ad178) t175.length co36 : Value).ownBlock)) k_ ∧ some k_ ≠ (.slice Ao37 x3_1.length co37 : Value).ownBlock)) (HO187.out) (fun k_ hk => ⟨⟨hk.1, hk.2.2⟩, hk.2.1⟩))).2.1 (Kd.N_F (Kd.N_mono (ok' := (fun k_ => ((fun k_ => (w.heap.size ≤ k_) ∧ some k_ ≠ (.slice (some ad178) t175.length co36 : Value).ownBlock)) k_ ∧ some k_ ≠ (.slice Ao37 x3_1.length co37 : Value).ownBlock)) (HO187.out) (fun k_ hk => ⟨⟨hk.1, hk.2.2⟩, hk.2.1⟩)))))
           (case aB => exact (by repeat (first | (with_reducible first | exact HB.out | apply below_alloc | apply pw_below_drewN | apply below_drew1) | exact HB.out)))
           (case aF => exact (fun k_ hk => ⟨(Nat.le_trans (below_size (by repeat (first | (with_reducible first | exact HB.out | apply below_alloc | apply pw_below_drewN | apply below_drew1) | exact HB.out))) hk), Kd.fresh' (Kd.R_lt (by (with_reducible repeat (first | apply Kd.R_alloc | apply Kd.R_drewN | apply Kd.R_drew)); exact HO177.out)) k_ hk⟩))
           (case aO => exact (by (with_reducible repeat (first | apply Kd.N_alloc | apply Kd.N_drewN | apply Kd.N_drew)); exact Kd.N_mono HO_3.out (fun _ hk => (by first | exact ⟨hk.1.1, hk.1.2⟩ | grind))))
           (case aS => exact (below_size (by repeat (first | (with_reducible first | exact HB.out | apply below_alloc | apply pw_below_drewN | apply below_drew1) | exact HB.out))))
           (case aL => have := LMc33.out; omega)
           intro v189 w40 ho hb hg hat
           have HS1_ := Go.Proofs.YtnnpfgpfkningaaW.PrintWords.cell_grown hg hHeld.2 (fun e_ => (HO_3.out.1 _ e_.symm).1.2 (by rw [add_block]; rfl))
           rw [← Ny188.out] at ho
           have n0_ := Aside0.mk (Kd.R_over' (by (with_reducible repeat (first | apply Kd.R_alloc | apply Kd.R_drewN | apply Kd.R_drew)); exact HO177.out) (Kd.N_typed (by (with_reducible repeat (first | apply Kd.N_alloc | apply Kd.N_drewN | apply Kd.N_drew)); exact HO_3.out)) (by decide) hg)
           have n1_ := Aside0.mk (hb)
           have n2_ := Aside0.mk (ho)
           clear HO177
           clear HB
           clear HO_3
           clear HO187
           have HO177 := n0_
           have HB := n1_
           have HO190 := n2_
           clear n0_ n1_ n2_
           clear ho hb hg hat
           refine hK.out _ _ ⟨((HB.out.cell (World.block_lt_of_cell? w _ hw179_0)).trans hw179_0), HS1_⟩ (fun hHeld => ?_)
           clear hK K
           refine norm_ (a' := ?_) ?_ ?_
           rotate_left
           ·show Act.put _ (some 45) _ = _
            simp only [Act.put, List.setIfInBounds_toArray, List.set_cons_zero, List.set_cons_succ, i64_w, i32_w]
            rfl
           refine pure_ (i := 16) (N := some 3) (v := ?_) (a' := ?_) #[true, true, true, true, true, true, true, true, true, true, true, true, true, true, true, true, true] rfl rfl (any_of HT_.out (by kernel_rfl)) (fun _ _ _ h => h) (Or.inl ⟨by rfl, ?_⟩) ?_ ?_
           rotate_left
           ·intro w'
            go_simp
            with_reducible rfl
           rotate_left
           ·simp only [Act.put, List.setIfInBounds_toArray, List.set_cons_zero, List.set_cons_succ, i64_w, i32_w]
            rfl
           refine done_ (done_of HT_.out (by kernel_rfl)) ?_
           try go_wp2
           go_roundg kj21
           case measure => have := HK1.out; have := HJ21.out; omega
           case rel => exact ⟨(y188), (wrap64 (x4_1 + 1)), (by first | rfl | (simp; done) | (simp [*]; done)), H', ⟨by have := HK1.out; have := HJ21.out; omega⟩, ⟨by (with_reducible repeat (first | apply Kd.N_alloc | apply Kd.N_drewN | apply Kd.N_drew)); exact Kd.N_mono HO190.out (fun _ hk => hk.1)⟩, ⟨by repeat (first | (with_reducible first | exact HB.out | apply below_alloc | apply pw_below_drewN | apply below_drew1) | exact HB.out)⟩⟩
          ·rw [if_neg c33] at H
           exact absurd H (by simp)
         ·rw [if_neg c30] at H
          exact absurd H (by simp)
        ·rw [if_neg c29] at H
         exact absurd H (by simp)
       ·rw [if_neg c28] at H
        exact absurd H (by simp)
      ·rw [if_neg c27] at H
       exact absurd H (by simp)
     ·replace c24 := Bool.eq_false_iff.mpr c24
      subst c24
      have H1 : (some x3_1) = some r := by rw [if_neg (show ¬ (false = true) by decide)] at H; exact H
      clear H
      have H := H1
      clear H1
      obtain rfl := Option.some.inj H
      go_wp2
      go_ret
      exact ⟨_, by first | rfl | (simp [errW_none, errW_some] <;> rfl) | (simp [*, errW_none, errW_some] <;> rfl), by (with_reducible repeat (first | apply Kd.N_alloc | apply Kd.N_drewN | apply Kd.N_drew)); exact HO_3.out, by repeat (first | (with_reducible first | exact HB.out | apply below_alloc | apply pw_below_drewN | apply below_drew1) | exact HB.out)⟩
end Go.Proofs.Ytnnpfgpfkningaa.P
namespace Go.Proofs.Ytnnpfgpfkningaa.P
open Go.RowKit Go.Proofs.YtnnpfgpfkningaaW.PrintWords Go.Proofs.YtnnpfgpfkningaaW.PrintLast Go.Proofs.YtnnpfgpfkningaaW.PrintMore
attribute [local go_sem] max2_int min2_int max_two min_two max_three min_three max_four min_four   -- for this text's walks alone
attribute [local go_sem ↓ high] Go.Proofs.YtnnpfgpfkningaaX.isSome_setCell
set_option linter.unusedVariables false
set_option linter.unusedSimpArgs false
def knX : List S33 := [⟨3, 0, 0, 0, ⟨#[]⟩, []⟩, ⟨2, 0, 0, 0, ⟨#[118]⟩, []⟩]
def knSet : List Int := [-1, 1]
def knFst : List Int := [0, 1152921504606846976]
theorem text_C {W : World} {g : Nat} {a b : Int} (h : W.heap[g]? = some (.cells #[.int .i64 a, .int .i64 b] 3 (0, 0))) : Kd.C (Kd.int .i64) W (some ⟨g, 0, none⟩) [a, b].length [a, b] :=
  (Kd.R_reads' (intR_mk (e := 3) (base := 0) (cap := 2) (ok := fun _ => True) (l := [a, b]) trivial (Nat.zero_le _) h (by simp) (by decide) (by simp) (by rfl))).2.2
set_option maxRecDepth 100000 in
set_option maxHeartbeats 8000000 in
theorem known_calls (kd km kz kc : Nat) (D : List S61) (r3 : List Int) (x4 : S51) (hD : hyphenlaw5_Defs.f kd [] = some D) (hM : side_MakeP.f km 4 0 0 0 ⟨#[]⟩ knX D [] = some (knSet, knFst, r3, [x4], 1152921504606846976, true)) (hz : side_Size.f kz 1 0 0 0 ⟨#[]⟩ [] = some 0) (hc : costF kc knSet knFst r3 [x4] 1152921504606846976 D [] [120, 97] 0 2 = some 0) (w : World) :
    Calls Try.prog 10 #[] w fun e w' => e = .returned (.bool true) ∧ Below w.heap.size w w' := by
  have HD := Aside0.mk hD
  have HM := Aside0.mk hM
  have HZ := Aside0.mk hz
  have HC := Aside0.mk hc
  clear hD hM hz hc
  go_enter Try.func10, Try.ntmps10
  go_wp2_with (first | (go_at_call 12; refine (hyphenlaw5_Defs.calls kd none 0 [] D _ (Kd.C_nil _ _) (Nat.le_refl _) HD.out).mono ?_; rintro e w2 ⟨v, rfl, hn, hb⟩; obtain ⟨Ad, cd, rfl⟩ := Kd.N_slice hn; have HN := Aside0.mk (Kd.N_reads' hn).2; have HB2 := Aside0.mk hb; clear hn hb) | (go_at_call 14; obtain ⟨Wm, hWm⟩ : ∃ Wm, World.alloc (World.alloc w2 (.cells #[.slice Ad D.length cd, .slice none 0 0] 30)) (.cells #[.int .i64 3, .int .i64 0, .int .i64 0, .int .i64 0, .string ⟨#[]⟩, .slice none 0 0, .int .i64 2, .int .i64 0, .int .i64 0, .int .i64 0, .string ⟨#[118]⟩, .slice none 0 0] 33) = Wm := ⟨_, rfl⟩; rw [hWm]; have hbm : Below w2.heap.size w2 Wm := hWm ▸ below_alloc (below_alloc (Below.refl _ _) _) _; have hfm : Wm.heap[w2.heap.size]? = some (.cells #[.slice Ad D.length cd, .slice none 0 0] 30 (0, 0)) := hWm ▸ blk_alloc (heap_alloc_new w2 _) _; have hlm := heap_alloc_new (World.alloc w2 (.cells #[.slice Ad D.length cd, .slice none 0 0] 30)) (.cells #[.int .i64 3, .int .i64 0, .int .i64 0, .int .i64 0, .string ⟨#[]⟩, .slice none 0 0, .int .i64 2, .int .i64 0, .int .i64 0, .int .i64 0, .string ⟨#[118]⟩, .slice none 0 0] 33); rw [hWm, size_alloc] at hlm; have HBM := Aside0.mk hbm; have HFM := Aside0.mk hfm; refine (side_MakeP.calls km 4 0 0 0 ⟨#[]⟩ (some ⟨w2.heap.size + 1, 0, none⟩) 2 knX Ad cd D none 0 [] knSet knFst r3 [x4] 1152921504606846976 true Wm (lit2_C (x := ⟨3, 0, 0, 0, ⟨#[]⟩, []⟩) (y := ⟨2, 0, 0, 0, ⟨#[118]⟩, []⟩) hlm (Nat.le_refl _) (Kd.C_nil _ _) (Nat.le_refl _) (Kd.C_nil _ _)) (Nat.le_refl _) (Kd.C_below HN.out.2 hbm) HN.out.1 (Kd.C_nil _ _) (Nat.le_refl _) HM.out).mono ?_; clear hWm hbm hfm hlm; rintro e w3 ⟨v0, v1, v2, v3, rfl, q0, q1, q2, q3, hb3⟩; obtain ⟨g0, cp0, rfl, _, _, _⟩ := Kd.R_form q0 (by decide); obtain ⟨g1, cp1, rfl, _, _, _⟩ := Kd.R_form q1 (by decide); obtain ⟨A2, c2, rfl⟩ := Kd.R_slice q2; obtain ⟨A3, c3, rfl⟩ := Kd.R_slice q3; have HQ0 := Aside0.mk q0; have HQ1 := Aside0.mk q1; have HQ2 := Aside0.mk q2; have HQ3 := Aside0.mk q3; have HB3 := Aside0.mk hb3; clear q0 q1 q2 q3 hb3) | (go_at_call 17; refine (side_Size.calls kz 1 0 0 0 ⟨#[]⟩ none 0 [] 0 _ (Kd.C_nil _ _) (Nat.le_refl _) HZ.out).mono ?_; rintro e w5 ⟨rfl, hb5⟩; have hs5 := blk_below (heap_alloc_new w3 (.cells #[.slice (some ⟨g0, 0, none⟩) knSet.length cp0, .slice (some ⟨g1, 0, none⟩) knFst.length cp1, .slice A2 r3.length c2, .slice A3 [x4].length c3, .int .i64 1152921504606846976] 39)) hb5; have hbs : Below w3.heap.size w3 w5 := below_step (below_alloc (Below.refl _ _) _) hb5; have hf5 := blk_below (blk_below HFM.out HB3.out) hbs; have d0 := cellAt (i := 0) (u := .slice (some ⟨g0, 0, none⟩) knSet.length cp0) hs5 rfl; have d1 := cellAt (i := 1) (u := .slice (some ⟨g1, 0, none⟩) knFst.length cp1) hs5 rfl; have d2 := cellAt (i := 2) (u := .slice A2 r3.length c2) hs5 rfl; have d3 := cellAt (i := 3) (u := .slice A3 [x4].length c3) hs5 rfl; have d4 := cellAt (i := 4) (u := .int .i64 1152921504606846976) hs5 rfl; have f0 := cellAt (i := 0) (u := .slice Ad D.length cd) hf5 rfl; have f1 := cellAt (i := 1) (u := .slice none 0 0) hf5 rfl; have a0 : w5.cell? ⟨g0, 0, none⟩ = some (.int .i64 (-1)) := (Kd.R_celln 0 (Kd.R_below HQ0.out hbs) 0 (by decide) (by decide)).1; have a1 : w5.cell? ⟨g0, 1, none⟩ = some (.int .i64 1) := (Kd.R_celln 0 (Kd.R_below HQ0.out hbs) 1 (by decide) (by decide)).1; have b0 : w5.cell? ⟨g1, 0, none⟩ = some (.int .i64 0) := (Kd.R_celln 0 (Kd.R_below HQ1.out hbs) 0 (by decide) (by decide)).1; have b1 : w5.cell? ⟨g1, 1, none⟩ = some (.int .i64 1152921504606846976) := (Kd.R_celln 0 (Kd.R_below HQ1.out hbs) 1 (by decide) (by decide)).1; have HBS := Aside0.mk hbs; clear hb5 hs5 hf5 hbs; have hl2 : [x4].length = 1 := rfl; have hl0 : knSet.length = 2 := rfl; have hl1 : knFst.length = 2 := rfl) | (go_at_call 23; have hbt : Below w5.heap.size w5 (World.alloc w5 (.cells #[.int .i64 120, .int .i64 97] 3)) := below_alloc (Below.refl _ _) _; have hbu := below_step HBS.out hbt; refine (cost_calls kc (some ⟨g0, 0, none⟩) cp0 knSet (some ⟨g1, 0, none⟩) cp1 knFst A2 c2 r3 A3 c3 [x4] 1152921504606846976 Ad cd D none 0 [] (some ⟨w5.heap.size, 0, none⟩) 2 [120, 97] 0 2 0 _ (Kd.C_below (Kd.R_reads' HQ0.out).2.2 hbu) (Kd.R_reads' HQ0.out).2.1 (Kd.C_below (Kd.R_reads' HQ1.out).2.2 hbu) (Kd.R_reads' HQ1.out).2.1 (Kd.C_below (Kd.R_reads' HQ2.out).2.2 hbu) (Kd.R_reads' HQ2.out).2.1 (Kd.C_below (Kd.R_reads' HQ3.out).2.2 hbu) (Kd.R_reads' HQ3.out).2.1 (Kd.C_below (Kd.C_below (Kd.C_below HN.out.2 HBM.out) HB3.out) hbu) HN.out.1 (Kd.C_nil _ _) (Nat.le_refl _) (text_C (heap_alloc_new w5 _)) (Nat.le_refl _) HC.out).mono ?_; rintro e w6 ⟨rfl, hb6⟩; have HE := Aside0.mk (below_step (below_step (below_step (below_step HB2.out HBM.out) HB3.out) hbu) hb6); clear hbt hbu hb6))
  go_ret
  exact ⟨rfl, HE.out⟩
end Go.Proofs.Ytnnpfgpfkningaa.P
namespace Go.Proofs.Ytnnpfgpfkningaa.P
open Go.RowKit Go.Proofs.YtnnpfgpfkningaaW.PrintWords Go.Proofs.YtnnpfgpfkningaaW.PrintLast Go.Proofs.YtnnpfgpfkningaaW.PrintMore
attribute [local go_sem] max2_int min2_int max_two min_two max_three min_three max_four min_four   -- for this text's walks alone
attribute [local go_sem ↓ high] Go.Proofs.YtnnpfgpfkningaaX.isSome_setCell
set_option linter.unusedVariables false
set_option linter.unusedSimpArgs false
def insR (a : S111) : List S111 → List S111
  | [] => [a]
  | b :: t => if rangeLe a b = true then a :: b :: t else b :: insR a t
def sortR : List S111 → List S111
  | [] => []
  | a :: t => insR a (sortR t)
theorem insR_perm (a : S111) : ∀ l, (insR a l).Perm (a :: l)
  | [] => .refl _
  | b :: t => by
    unfold insR; split
    · exact .refl _
    · exact ((insR_perm a t).cons b).trans (.swap a b t)
theorem sortR_perm : ∀ l, (sortR l).Perm l
  | [] => .refl _
  | a :: t => (insR_perm a _).trans ((sortR_perm t).cons a)
theorem insR_sorted (a : S111) : ∀ l, l.Pairwise (fun x y => rangeLe x y = true) → (insR a l).Pairwise (fun x y => rangeLe x y = true)
  | [], _ => by simp [insR]
  | b :: t, h => by
    unfold insR
    have h1 := List.pairwise_cons.1 h
    split
    · rename_i hab
      exact List.pairwise_cons.2 ⟨fun x hx => by
        rcases List.mem_cons.1 hx with rfl | hx
        · exact hab
        · have := h1.1 x hx; simp [rangeLe] at *; omega, h⟩
    · rename_i hab
      refine List.pairwise_cons.2 ⟨fun x hx => ?_, insR_sorted a t h1.2⟩
      rcases List.mem_cons.1 ((insR_perm a t).mem_iff.1 hx) with rfl | hx
      · simp [rangeLe] at *; omega
      · exact h1.1 x hx
theorem sortR_sorted : ∀ l, (sortR l).Pairwise (fun x y => rangeLe x y = true)
  | [] => .nil
  | a :: t => insR_sorted a _ (sortR_sorted t)
theorem sort_twin (l : List S111) : l.mergeSort rangeLe = sortR l := by
  have hs := List.pairwise_mergeSort (le := rangeLe) (fun a b c h1 h2 => by simp [rangeLe] at *; omega) (fun a b => by simp [rangeLe]; omega) l
  refine List.Perm.eq_of_pairwise (le := fun x y => rangeLe x y = true) ?_ hs (sortR_sorted l) ((List.mergeSort_perm l rangeLe).trans (sortR_perm l).symm)
  intro a b _ _ h1 h2
  cases a; cases b
  simp [rangeLe] at *
  omega
def normC (k : Nat) (l : List S111) : Option (List S111) := (Clone_Range.f l).bind fun t => (if t.length < 4611686018427387904 then some (sortR t) else none).bind fun s => set_Norm.l0 k [] s (t.length : Int) 0
theorem norm_twin (k : Nat) (l : List S111) : set_Norm.f k l = normC k l := by
  unfold set_Norm.f normC SortFunc_Range.f; simp only [sort_twin]
def notC (k : Nat) (l : List S111) : Option (List S111) := (normC k l).bind fun t => set_Not.l0 k [] 0 t (t.length : Int) 0
theorem not_twin (k : Nat) (l : List S111) : set_Not.f k l = notC k l := by unfold set_Not.f notC; rw [norm_twin]
def orC (k : Nat) (l : List (List S111)) : Option (List S111) := (Concat_Range.f l).bind fun t => (normC k t).bind fun s => some s
theorem or_twin (k : Nat) (l : List (List S111)) : set_Or.f k l = orC k l := by unfold set_Or.f orC; simp only [norm_twin]
def andC (k : Nat) (a b : List S111) : Option (List S111) := (notC k a).bind fun x => (notC k b).bind fun y => (orC k [x, y]).bind fun z => (notC k z).bind fun r => some r
theorem and_twin (k : Nat) (a b : List S111) : set_And.f k a b = andC k a b := by unfold set_And.f andC; simp only [not_twin, or_twin]
def lessC (k : Nat) (a b : List S111) : Option (List S111) := (notC k b).bind fun x => (andC k a x).bind fun y => some y
theorem less_twin (k : Nat) (a b : List S111) : set_Less.f k a b = lessC k a b := by unfold set_Less.f lessC; simp only [not_twin, and_twin]
def ofC (k : Nat) (m : List (List UInt8 × List S111)) : Nat → S58 → Option (List S111)
  | 0, _ => none
  | n + 1, c =>
    if c.f0 = 1 then normC k [⟨c.f1, c.f2⟩]
    else if c.f0 = 2 then if c.f3.size < 1000000 then Clone_Range.f (lkS m c.f3.data.toList) else none
    else if c.f0 = 3 then notC k []
    else if c.f0 = 4 then (ofC k m n (cpart c 0)).bind fun a => notC k a
    else if c.f0 = 5 then (ofC k m n (cpart c 0)).bind fun a => (ofC k m n (cpart c 1)).bind fun b => orC k [a, b]
    else if c.f0 = 6 then (ofC k m n (cpart c 0)).bind fun a => (ofC k m n (cpart c 1)).bind fun b => andC k a b
    else if c.f0 = 7 then (ofC k m n (cpart c 0)).bind fun a => (ofC k m n (cpart c 1)).bind fun b => lessC k a b
    else some []
theorem of_twin (k : Nat) (m : List (List UInt8 × List S111)) : ∀ n c, ofF k m n c = ofC k m n c
  | 0, _ => rfl
  | n + 1, c => by
    have ih := of_twin k m n
    unfold ofF ofC; simp only [ih, norm_twin, not_twin, or_twin, and_twin, less_twin]
def stsQ (k n : Nat) : List S61 → List (List UInt8 × List S111) → List (List S111) → Option (List (List S111))
  | [], _, out => some out
  | d :: ds, m, out => if d.f0.size < 1000000 ∧ m.length < 1000 ∧ out.length < 1000 then (ofC k m n d.f1).bind fun l => (Clone_Range.f l).bind fun l2 => stsQ k n ds (if hasS m d.f0.data.toList = true then m else m ++ [(d.f0.data.toList, l)]) (out ++ [l2]) else none
theorem sets_twin (k n : Nat) : ∀ ds m out, setsL k n ds m out = stsQ k n ds m out
  | [], _, _ => rfl
  | d :: ds, m, out => by
    unfold setsL stsQ; simp only [of_twin, sets_twin k n ds]
def setsPC (k : Nat) (defs : List S61) : Option (List (List S111)) := (stsQ k k defs [] []).bind fun out => Clone_rows.f out
theorem setsP_twin (k : Nat) (defs : List S61) (l1 : List S174) : syn_SetsP.f k defs l1 = setsPC k defs := by
  unfold syn_SetsP.f syn_Sets.f setsPC; rw [sets_twin]
def knD : List S61 := (hyphenlaw5_Defs.f 40 []).getD []
def knX4 : S51 := ⟨0, 1, 0⟩
def knE : List Int := [1152921504606846976, 0]
def knSS : List (List S111) := (setsPC 40 knD).getD []
theorem knD_ok : hyphenlaw5_Defs.f 40 [] = some knD := by kernel_rfl
theorem knM_ok : side_MakeP.f 40 4 0 0 0 ⟨#[]⟩ knX knD [] = some (knSet, knFst, knE, [knX4], 1152921504606846976, true) := by kernel_rfl
theorem knZ_ok : side_Size.f 4 1 0 0 0 ⟨#[]⟩ [] = some 0 := by kernel_rfl
theorem knS_ok : setsPC 40 knD = some knSS := by kernel_rfl
theorem knT_ok : (costT 40 (fun j c => side_of.f knSet knFst knE [knX4] 1152921504606846976 knSS j c) knSet knFst [knX4] [120, 97] 0 []) = some [1152921504606846976, 0] := by kernel_rfl
theorem knL_ok : costL knE [1152921504606846976, 0] 0 1152921504606846976 = some 0 := by kernel_rfl
theorem knC_ok : costF 40 knSet knFst knE [knX4] 1152921504606846976 knD [] [120, 97] 0 2 = some 0 := by
  unfold costF
  rw [if_pos (by decide), if_neg (by decide), setsP_twin, knS_ok, Option.bind_some]
  show ((costT 40 (fun j c => side_of.f knSet knFst knE [knX4] 1152921504606846976 knSS j c) knSet knFst [knX4] [120, 97] 0 []).bind _) = _
  rw [knT_ok, Option.bind_some, if_pos (by decide)]
  exact knL_ok
theorem known_ok (w : World) : Calls Try.prog 10 #[] w fun e w' => e = .returned (.bool true) ∧ Below w.heap.size w w' := known_calls 40 40 4 40 knD knE knX4 knD_ok knM_ok knZ_ok knC_ok w
end Go.Proofs.Ytnnpfgpfkningaa.P
namespace Go.Proofs.Ytnnpfgpfkningaa.P
open Go.RowKit Go.Proofs.YtnnpfgpfkningaaW.PrintWords Go.Proofs.YtnnpfgpfkningaaW.PrintLast Go.Proofs.YtnnpfgpfkningaaW.PrintMore
attribute [local go_sem] max2_int min2_int max_two min_two max_three min_three max_four min_four   -- for this text's walks alone
attribute [local go_sem ↓ high] Go.Proofs.YtnnpfgpfkningaaX.isSome_setCell
set_option linter.unusedVariables false
set_option linter.unusedSimpArgs false
theorem within7_wth (a n : Int) (h0 : 0 < n) (h1 : n < 1000000) : hyphenlaw7_within.f a n = some (wth a n) := by
  have q1 := Int.tmod_lt_of_pos a h0
  have q2 : -n < Int.tmod a n := by
    have := Int.lt_tmod_of_pos a h0
    omega
  unfold hyphenlaw7_within.f wth
  rw [if_neg (by omega)]
  split
  · unfold wrap64; congr 1; omega
  · rfl
theorem within7 (a n : Int) (w : World) (h0 : 0 < n) (h1 : n < 1000000) : Calls Try.prog 19 #[.int .i64 a, .int .i64 n] w fun e w' => e = .returned (.int .i64 (wth a n)) ∧ Drawn0 w w' := hyphenlaw7_within.calls a n _ w (within7_wth a n h0 h1)
end Go.Proofs.Ytnnpfgpfkningaa.P
namespace Go.Proofs.Ytnnpfgpfkningaa.P
open Go.RowKit Go.Proofs.YtnnpfgpfkningaaW.PrintWords Go.Proofs.YtnnpfgpfkningaaW.PrintLast Go.Proofs.YtnnpfgpfkningaaW.PrintMore
attribute [local go_sem] max2_int min2_int max_two min_two max_three min_three max_four min_four   -- for this text's walks alone
attribute [local go_sem ↓ high] Go.Proofs.YtnnpfgpfkningaaX.isSome_setCell
set_option linter.unusedVariables false
set_option linter.unusedSimpArgs false
theorem new_at {W : World} {g : Nat} (h : W.heap.size = g) (o : Obj) : (W.alloc o).heap[g]? = some o := h ▸ heap_alloc_new W o
theorem raw_use (k : Nat) (r : S35) (A : Option Addr) (c : Nat) (b : Bool) (x : S33) (w : World) (h1 : Kd.C k35 w A r.f2.length r.f2) (h2 : r.f2.length ≤ c) (h3 : rawF k r b = some x) :
    Calls Try.prog 13 #[.agg #[.int .i64 r.f0, .int .i64 r.f1, .slice A r.f2.length c], .bool b] w (RexAt w x) := (raw_told k).1 r A c b x w h1 h2 h3
def f4sz.T5 : Bool × List (List Nat × List Nat) := (true, [([], []), ([0], [0]), ([1], [1]), ([2], [2]), ([], []), ([4], [4]), ([5], [5]), ([6, 3], [6]), ([], []), ([], []), ([8, 3, 7, 0, 1, 2, 3, 8, 9], [3, 8]), ([9, 7, 10, 0, 1, 2, 3, 4, 5, 6, 7, 8, 9, 10], [7, 9])])
def f4sz.B5 : List Nat := [0, 1, 3, 7, 0, 16, 48, 127, 0, 0, 1023, 2047]
theorem f4sz.tab5 : rtab .any (opsOf Try.f4 5) = f4sz.T5 := by kernel_rfl
theorem f4sz.bits5 : waitsOk f4sz.T5.2 f4sz.B5 = true := by kernel_rfl
def f4sz.T6 : Bool × List (List Nat × List Nat) := (true, [([], []), ([0], [0]), ([], []), ([2, 1], [2]), ([1, 3, 0, 1], [1]), ([3, 4, 0, 1, 2, 3, 4], [3])])
def f4sz.B6 : List Nat := [0, 1, 0, 7, 15, 31]
theorem f4sz.tab6 : rtab .any (opsOf Try.f4 6) = f4sz.T6 := by kernel_rfl
theorem f4sz.bits6 : waitsOk f4sz.T6.2 f4sz.B6 = true := by kernel_rfl
set_option maxRecDepth 100000 in
set_option maxHeartbeats 8000000 in
theorem sizes_calls (l : List S35) (A0 : Option Addr) (c0 : Nat) (lo hi : Int) (kf kr kz : Nat) (r0 r1 : S35) (x y : S33) (na nb : Int) (w : World) (hC : Kd.C k35 w A0 l.length l) (hc : l.length ≤ c0) (h2 : 2 ≤ l.length) (hf : hyphenlaw5_Few.f kf l = some true) (e0 : rd_T35 l 0 = r0) (e1 : rd_T35 l 1 = r1)
    (hx : rawF kr r0 false = some x) (hy : rawF kr r1 false = some y) (za : 0 ≤ na ∧ na ≤ 100000) (zb : 0 ≤ nb ∧ nb ≤ 100000) (hzx : szF kz x = some na) (hzy : szF kz y = some nb) (h4 : szF kz ⟨4, 0, 0, 0, ⟨#[]⟩, [x, y]⟩ = some (na + nb)) (h5 : szF kz ⟨5, 0, 0, 0, ⟨#[]⟩, [x, y]⟩ = some (na + nb))
    (h6 : szF kz ⟨6, 0, 0, 0, ⟨#[]⟩, [x]⟩ = some na) (h8 : szF kz ⟨8, 0, 0, 3, ⟨#[]⟩, [x]⟩ = some na) (h7 : szF kz ⟨7, mn (wth lo 13) (wth hi 13), wth hi 13, 0, ⟨#[]⟩, [x]⟩ = some (na * wth hi 13)) :
    Calls Try.prog 4 #[.slice A0 l.length c0, .int .i64 lo, .int .i64 hi] w fun e w' => e = .returned (.bool true) ∧ Below w.heap.size w w' := by
  obtain ⟨ad, B0, d0, rfl, q00, q01, q02, l0_, C0_⟩ := at_T35 hC 0 (by decide) (by omega)
  obtain ⟨ad', B1, d1, ea, q10, q11, q12, l1_, C1_⟩ := at_T35 hC 1 (by decide) (by omega)
  obtain rfl : ad = ad' := by injection ea
  rw [e0] at q00 q01 q02 l0_ C0_
  rw [e1] at q10 q11 q12 l1_ C1_
  clear ea e0 e1
  have HE0 : Aside0 (w.cell? ad = some (.int .i64 r0.f0) ∧ w.cell? ⟨ad.block, ad.off + 1, none⟩ = some (.int .i64 r0.f1) ∧ w.cell? ⟨ad.block, ad.off + 2, none⟩ = some (.slice B0 r0.f2.length d0) ∧ True) := ⟨by rw [show (0 : Int).toNat * 3 = 0 from rfl, Addr.add_zero'] at q00; exact q00, by rw [show (0 : Int).toNat * 3 = 0 from rfl, Addr.add_zero'] at q01; exact q01, by rw [show (0 : Int).toNat * 3 = 0 from rfl, Addr.add_zero'] at q02; exact q02, trivial⟩
  have HE1 : Aside0 (w.cell? ⟨ad.block, ad.off + 3, none⟩ = some (.int .i64 r1.f0) ∧ w.cell? ⟨ad.block, ad.off + 4, none⟩ = some (.int .i64 r1.f1) ∧ w.cell? ⟨ad.block, ad.off + 5, none⟩ = some (.slice B1 r1.f2.length d1) ∧ True) := ⟨q10, q11, q12, trivial⟩
  have HCR0 := Aside0.mk C0_
  have HLR0 := Aside0.mk l0_
  have HCR1 := Aside0.mk C1_
  have HLR1 := Aside0.mk l1_
  have HRL := Aside0.mk hC
  have HCC := Aside0.mk hc
  have HF := Aside0.mk hf
  have HX := Aside0.mk hx
  have HY := Aside0.mk hy
  have HZX : Aside0 (side_Size.f kz x.f0 x.f1 x.f2 x.f3 x.f4 x.f5 = some na) := ⟨hzx⟩
  have HZY : Aside0 (side_Size.f kz y.f0 y.f1 y.f2 y.f3 y.f4 y.f5 = some nb) := ⟨hzy⟩
  have HZ4 : Aside0 (side_Size.f kz 4 0 0 0 ⟨#[]⟩ [x, y] = some (na + nb)) := ⟨h4⟩
  have HZ5 : Aside0 (side_Size.f kz 5 0 0 0 ⟨#[]⟩ [x, y] = some (na + nb)) := ⟨h5⟩
  have HZ6 : Aside0 (side_Size.f kz 6 0 0 0 ⟨#[]⟩ [x] = some na) := ⟨h6⟩
  have HZ8 : Aside0 (side_Size.f kz 8 0 0 3 ⟨#[]⟩ [x] = some na) := ⟨h8⟩
  have HZ7 : Aside0 (side_Size.f kz 7 (mn (wth lo 13) (wth hi 13)) (wth hi 13) 0 ⟨#[]⟩ [x] = some (na * wth hi 13)) := ⟨h7⟩
  have hw13 := wth_range hi 13 (by omega)
  have HWS : Aside0 (IntKind.i64.wrap (na + nb) = na + nb) := ⟨by rw [i64_w]; unfold wrap64; omega⟩
  have HWP : Aside0 (IntKind.i64.wrap (na * wth hi 13) = na * wth hi 13) := ⟨by
    have p1 := Int.mul_nonneg za.1 hw13.1
    have p2 := Int.mul_le_mul za.2 (show wth hi 13 ≤ 13 by omega) hw13.1 (by omega)
    rw [i64_w]; unfold wrap64; omega⟩
  have HB := Aside0.mk (Below.refl w.heap.size w)
  have t2 : decide ((l.length : Int) < 2) = false := decide_eq_false (by omega)
  have t3 : decide (l.length < 2) = false := decide_eq_false (by omega)
  have t0 : decide (0 < l.length) = true := decide_eq_true (by omega)
  have t1 : decide (1 < l.length) = true := decide_eq_true (by omega)
  have p2 : ((l.length : Int) ≤ 1) = False := eq_false (by omega)
  have p0 : (0 < l.length) = True := eq_true (by omega)
  have p1 : (1 < l.length) = True := eq_true (by omega)
  clear hC hc hf hx hy hzx hzy h4 h5 h6 h8 h7 za zb hw13 q00 q01 q02 q10 q11 q12 C0_ C1_ l0_ l1_ h2
  have MK1 := True.intro
  have MK2 := True.intro
  go_enter Try.func4, Try.ntmps4
  go_wp2_with (first | (go_at_call 10; clear MK1; obtain ⟨Wm, hWm⟩ : ∃ Wm, w = Wm := ⟨_, rfl⟩; rw [hWm]; have hbm : Below w.heap.size w Wm := hWm ▸ (Below.refl _ _); clear hWm; refine (known_ok _).mono ?_; rintro e w1 ⟨rfl, hb⟩; have hbs := below_step hbm hb; have Hx_ := Aside0.mk (Kd.C_below HRL.out hbs); clear HRL; have HRL := Hx_; clear Hx_; have Hx_ := Aside0.mk (below_step HB.out hbs); clear HB; have HB := Hx_; clear Hx_; clear hbm hbs hb) | (go_at_call 11; clear MK2; (with_reducible refine (hyphenlaw5_Few.calls kf (some ad) c0 l true _ HRL.out HCC.out HF.out).mono ?_); rintro e wq ⟨rfl, ⟨n1, rfl⟩⟩))
  refine start_ (n := 12) (S := fun w' => True) (ds := []) #[false, false, false, false, false, false, false, false, false, false, false, false] (by kernel_rfl) rfl rfl trivial (fun hHeld => ?_); refine with_tabW f4sz.tab5 f4sz.bits5 (fun HT_ HW_ => ?_)
  obtain ⟨ws, hws⟩ : ∃ ws, World.drew (World.drewN w1 n1) = ws := ⟨_, rfl⟩
  have B : Aside0 (Below w.heap.size w ws) := ⟨hws ▸ below_drew (pw_below_drewN HB.out n1)⟩
  (try rw [hws])
  clear hws HB
  refine pure_ (i := 0) (N := some 22) (v := ?_) (a' := ?_) #[true, false, false, false, false, false, false, false, false, false, false, false] rfl rfl (any_of HT_.out (by kernel_rfl)) (fun _ _ _ h => h) (Or.inl ⟨by rfl, ?_⟩) ?_ ?_
  rotate_left
  · intro w'
    go_simp
    with_reducible rfl
  rotate_left
  · simp only [Act.put, List.setIfInBounds_toArray, List.set_cons_zero, List.set_cons_succ, i64_w, i32_w]
    rfl
  refine pure_ (i := 4) (N := some 26) (v := ?_) (a' := ?_) #[true, false, false, false, true, false, false, false, false, false, false, false] rfl rfl (any_of HT_.out (by kernel_rfl)) (fun _ _ _ h => h) (Or.inl ⟨by rfl, ?_⟩) ?_ ?_
  rotate_left
  · intro w'
    go_simp
    with_reducible rfl
  rotate_left
  · simp only [Act.put, List.setIfInBounds_toArray, List.set_cons_zero, List.set_cons_succ, i64_w, i32_w]
    rfl
  refine inv_at [1, 2, 3, 5, 6, 7, 8, 9, 10, 11] (fun a0_ b a w' => ∃ (A7 : Option Addr) (c7 : Nat) (lo7 : Nat) (hi7 : Nat) (A8 : Option Addr) (c8 : Nat) (lo8 : Nat) (hi8 : Nat) (g7 : Nat) (g8 : Nat) (m3_ : Value) (m7_ : Value) (m8_ : Value) (m9_ : Value), a = putSel a0_ b [(1, 23, .pointer (some ad)), (2, 24, .agg #[.int .i64 r0.f0, .int .i64 r0.f1, .slice B0 r0.f2.length d0]), (3, 25, m3_), (5, 27, .pointer (some ⟨ad.block, ad.off + 3, none⟩)), (6, 28, .agg #[.int .i64 r1.f0, .int .i64 r1.f1, .slice B1 r1.f2.length d1]), (7, 29, m7_), (8, 7, m8_), (9, 8, m9_)] ∧ (Below w.heap.size w w') ∧ (b 3 = true → (Kd.F k33 w' (fun k => lo7 ≤ k ∧ k < hi7) A7 x.f5.length x.f5 ∧ x.f5.length ≤ c7) ∧ hi7 ≤ w'.heap.size) ∧ (b 7 = true → (Kd.F k33 w' (fun k => lo8 ≤ k ∧ k < hi8) A8 y.f5.length y.f5 ∧ y.f5.length ≤ c8) ∧ hi8 ≤ w'.heap.size) ∧ (b 8 = true → b 10 = false → w'.heap[g7]? = some (.cells #[.int .i64 0, .int .i64 0, .int .i64 0, .int .i64 0, .string ⟨#[]⟩, .slice none 0 0] 33 (0, 0)) ∧ w.heap.size ≤ g7) ∧ (b 9 = true → b 11 = false → w'.heap[g8]? = some (.cells #[.int .i64 0, .int .i64 0, .int .i64 0, .int .i64 0, .string ⟨#[]⟩, .slice none 0 0] 33 (0, 0)) ∧ w.heap.size ≤ g8) ∧ (b 3 = true → b 8 = true → g7 < lo7 ∨ hi7 ≤ g7) ∧ (b 3 = true → b 9 = true → g8 < lo7 ∨ hi7 ≤ g8) ∧ (b 7 = true → b 8 = true → g7 < lo8 ∨ hi8 ≤ g7) ∧ (b 7 = true → b 9 = true → g8 < lo8 ∨ hi8 ≤ g8) ∧ (b 8 = true → b 9 = true → g7 ≠ g8) ∧ (b 10 = true → w'.heap[g7]? = some (.cells #[.int .i64 x.f0, .int .i64 x.f1, .int .i64 x.f2, .int .i64 x.f3, .string x.f4, .slice A7 x.f5.length c7] 33 (0, 0)) ∧ w.heap.size ≤ g7) ∧ (b 11 = true → w'.heap[g8]? = some (.cells #[.int .i64 y.f0, .int .i64 y.f1, .int .i64 y.f2, .int .i64 y.f3, .string y.f4, .slice A8 y.f5.length c8] 33 (0, 0)) ∧ w.heap.size ≤ g8) ∧ (b 3 = true → (m3_ : Value) = .agg #[.int .i64 x.f0, .int .i64 x.f1, .int .i64 x.f2, .int .i64 x.f3, .string x.f4, .slice A7 x.f5.length c7]) ∧ (b 7 = true → (m7_ : Value) = .agg #[.int .i64 y.f0, .int .i64 y.f1, .int .i64 y.f2, .int .i64 y.f3, .string y.f4, .slice A8 y.f5.length c8]) ∧ (b 8 = true → (m8_ : Value) = .pointer (some ⟨g7, 0, none⟩)) ∧ (b 9 = true → (m9_ : Value) = .pointer (some ⟨g8, 0, none⟩))) HT_.out HW_.out (by kernel_rfl) (by kernel_rfl) ?_ ?_ ?_
  · exact ⟨none, 0, 0, 0, none, 0, 0, 0, 0, 0, .bool false, .bool false, .bool false, .bool false, by simp only [putSel, Bool.false_eq_true, if_false], B.out, fun h_ => absurd h_ (by decide), fun h_ => absurd h_ (by decide), fun h_ => absurd h_ (by decide), fun h_ => absurd h_ (by decide), fun h_ => absurd h_ (by decide), fun h_ => absurd h_ (by decide), fun h_ => absurd h_ (by decide), fun h_ => absurd h_ (by decide), fun h_ => absurd h_ (by decide), fun h_ => absurd h_ (by decide), fun h_ => absurd h_ (by decide), fun h_ => absurd h_ (by decide), fun h_ => absurd h_ (by decide), fun h_ => absurd h_ (by decide), fun h_ => absurd h_ (by decide)⟩
  · skip
    clear B
    refine steps_cons ?_ ?_
    · rintro b a w' ⟨A7, c7, lo7, hi7, A8, c8, lo8, hi8, g7, g8, m3_, m7_, m8_, m9_, ha, Q_B, Q_F3, Q_F7, Q_H8, Q_H9, Q_N38, Q_N39, Q_N78, Q_N79, Q_N89, Q_K10, Q_K11, Q_X3_, Q_X7_, Q_X8_, Q_X9_⟩ hb_ hon hoff
      refine ⟨_, rfl, fun K hK => ?_⟩
      have e22 : a.tmps[22]? = some (.slice (some ad) l.length c0) := by rw [ha]; exact (putSel_off rfl).trans rfl
      replace ha := Aside0.mk ha
      have B := Aside0.mk Q_B
      refine value_ (w1 := w') (v := .pointer (some ad)) (by rfl) rfl ?_ ?_
      · go_simp
        (try simp only [i64_w])
        try rfl
      refine hK.out _ _ ⟨A7, c7, lo7, hi7, A8, c8, lo8, hi8, g7, g8, m3_, m7_, m8_, m9_, (by rw [ha.out]; exact putSel_upk 0 hb_ rfl rfl rfl), Q_B, fun h0_ => absurd ((hoff 3 (by kernel_rfl)).symm.trans h0_) (by decide), fun h0_ => absurd ((hoff 7 (by kernel_rfl)).symm.trans h0_) (by decide), Q_H8, Q_H9, fun h0_ _ => absurd ((hoff 3 (by kernel_rfl)).symm.trans h0_) (by decide), fun h0_ _ => absurd ((hoff 3 (by kernel_rfl)).symm.trans h0_) (by decide), fun h0_ _ => absurd ((hoff 7 (by kernel_rfl)).symm.trans h0_) (by decide), fun h0_ _ => absurd ((hoff 7 (by kernel_rfl)).symm.trans h0_) (by decide), Q_N89, fun h0_ => absurd ((hoff 10 (by kernel_rfl)).symm.trans h0_) (by decide), fun h0_ => absurd ((hoff 11 (by kernel_rfl)).symm.trans h0_) (by decide), fun h0_ => absurd ((hoff 3 (by kernel_rfl)).symm.trans h0_) (by decide), fun h0_ => absurd ((hoff 7 (by kernel_rfl)).symm.trans h0_) (by decide), Q_X8_, Q_X9_⟩
    refine steps_cons ?_ ?_
    · rintro b a w' ⟨A7, c7, lo7, hi7, A8, c8, lo8, hi8, g7, g8, m3_, m7_, m8_, m9_, ha, Q_B, Q_F3, Q_F7, Q_H8, Q_H9, Q_N38, Q_N39, Q_N78, Q_N79, Q_N89, Q_K10, Q_K11, Q_X3_, Q_X7_, Q_X8_, Q_X9_⟩ hb_ hon hoff
      refine ⟨_, rfl, fun K hK => ?_⟩
      have e23 : a.tmps[23]? = some (.pointer (some ad)) := by rw [ha]; exact putSel_on (e := (1, 23, .pointer (some ad))) 0 rfl rfl (hon 1 (by kernel_rfl)) rfl
      replace ha := Aside0.mk ha
      have B := Aside0.mk Q_B
      have hc0_ := B.out.cell (World.block_lt_of_cell? _ _ HE0.out.1)
      have hc1_ := B.out.cell (World.block_lt_of_cell? _ _ HE0.out.2.1)
      have hc2_ := B.out.cell (World.block_lt_of_cell? _ _ HE0.out.2.2.1)
      replace hc0_ := hc0_.trans HE0.out.1
      replace hc1_ := hc1_.trans HE0.out.2.1
      replace hc2_ := hc2_.trans HE0.out.2.2.1
      refine value_ (w1 := w') (v := .agg #[.int .i64 r0.f0, .int .i64 r0.f1, .slice B0 r0.f2.length d0]) (by rfl) rfl ?_ ?_
      · go_simp
        (try simp only [i64_w])
        try rfl
      refine hK.out _ _ ⟨A7, c7, lo7, hi7, A8, c8, lo8, hi8, g7, g8, m3_, m7_, m8_, m9_, (by rw [ha.out]; exact putSel_upk 1 hb_ rfl rfl rfl), Q_B, fun h0_ => absurd ((hoff 3 (by kernel_rfl)).symm.trans h0_) (by decide), fun h0_ => absurd ((hoff 7 (by kernel_rfl)).symm.trans h0_) (by decide), Q_H8, Q_H9, fun h0_ _ => absurd ((hoff 3 (by kernel_rfl)).symm.trans h0_) (by decide), fun h0_ _ => absurd ((hoff 3 (by kernel_rfl)).symm.trans h0_) (by decide), fun h0_ _ => absurd ((hoff 7 (by kernel_rfl)).symm.trans h0_) (by decide), fun h0_ _ => absurd ((hoff 7 (by kernel_rfl)).symm.trans h0_) (by decide), Q_N89, fun h0_ => absurd ((hoff 10 (by kernel_rfl)).symm.trans h0_) (by decide), fun h0_ => absurd ((hoff 11 (by kernel_rfl)).symm.trans h0_) (by decide), fun h0_ => absurd ((hoff 3 (by kernel_rfl)).symm.trans h0_) (by decide), fun h0_ => absurd ((hoff 7 (by kernel_rfl)).symm.trans h0_) (by decide), Q_X8_, Q_X9_⟩
    refine steps_cons ?_ ?_
    · rintro b a w' ⟨A7, c7, lo7, hi7, A8, c8, lo8, hi8, g7, g8, m3_, m7_, m8_, m9_, ha, Q_B, Q_F3, Q_F7, Q_H8, Q_H9, Q_N38, Q_N39, Q_N78, Q_N79, Q_N89, Q_K10, Q_K11, Q_X3_, Q_X7_, Q_X8_, Q_X9_⟩ hb_ hon hoff
      refine ⟨_, rfl, fun K hK => ?_⟩
      have e24 : a.tmps[24]? = some (.agg #[.int .i64 r0.f0, .int .i64 r0.f1, .slice B0 r0.f2.length d0]) := by rw [ha]; exact putSel_on (e := (2, 24, .agg #[.int .i64 r0.f0, .int .i64 r0.f1, .slice B0 r0.f2.length d0])) 1 rfl rfl (hon 2 (by kernel_rfl)) rfl
      replace ha := Aside0.mk ha
      have B := Aside0.mk Q_B
      refine goes_ Try.func13 (by kernel_rfl) rfl #[.agg #[.int .i64 r0.f0, .int .i64 r0.f1, .slice B0 r0.f2.length d0], .bool false] (by rfl) rfl rfl (by first | (simp only [List.map_toArray, List.map_cons, List.map_nil, Act.eval, Array.getD_eq_getD_getElem?, Option.getD_some, e24]; done) | (simp only [List.map_toArray, List.map_cons, List.map_nil, Act.eval, Array.getD_eq_getD_getElem?, Option.getD_some, e24]; rfl)) ?_
      with_reducible refine (raw_use kr r0 B0 d0 false x _ (Kd.C_below HCR0.out B.out) HLR0.out HX.out).mono ?_
      rintro e w3 ⟨A_, c_, rfl, hl_, hF_, hb⟩
      refine ⟨_, rfl, ?_⟩
      have hsz_ := hb.size
      have z_N38 := fun (_ : up b 3 3 = true) (h1_ : up b 3 8 = true) => (show g7 < w'.heap.size ∨ w3.heap.size ≤ g7 from .inl (blk_lt (Q_H8 h1_ (hoff 10 (by kernel_rfl))).1))
      have z_N39 := fun (_ : up b 3 3 = true) (h1_ : up b 3 9 = true) => (show g8 < w'.heap.size ∨ w3.heap.size ≤ g8 from .inl (blk_lt (Q_H9 h1_ (hoff 11 (by kernel_rfl))).1))
      refine hK.out _ _ ⟨A_, c_, w'.heap.size, w3.heap.size, A8, c8, lo8, hi8, g7, g8, (.agg #[.int .i64 x.f0, .int .i64 x.f1, .int .i64 x.f2, .int .i64 x.f3, .string x.f4, .slice A_ x.f5.length c_]), m7_, m8_, m9_, (by rw [ha.out]; exact putSel_upk 2 hb_ rfl rfl rfl), below_step B.out hb, fun _ => ⟨⟨Kd.F_mono (Kd.F_bound hF_) (fun k hk => hk), hl_⟩, Nat.le_refl _⟩, fun h0_ => absurd ((hoff 7 (by kernel_rfl)).symm.trans h0_) (by decide), fun h0_ h1_ => ⟨blk_below (Q_H8 h0_ h1_).1 hb, (Q_H8 h0_ h1_).2⟩, fun h0_ h1_ => ⟨blk_below (Q_H9 h0_ h1_).1 hb, (Q_H9 h0_ h1_).2⟩, z_N38, z_N39, fun h0_ _ => absurd ((hoff 7 (by kernel_rfl)).symm.trans h0_) (by decide), fun h0_ _ => absurd ((hoff 7 (by kernel_rfl)).symm.trans h0_) (by decide), Q_N89, fun h0_ => absurd ((hoff 10 (by kernel_rfl)).symm.trans h0_) (by decide), fun h0_ => absurd ((hoff 11 (by kernel_rfl)).symm.trans h0_) (by decide), fun _ => rfl, fun h0_ => absurd ((hoff 7 (by kernel_rfl)).symm.trans h0_) (by decide), Q_X8_, Q_X9_⟩
    refine steps_cons ?_ ?_
    · rintro b a w' ⟨A7, c7, lo7, hi7, A8, c8, lo8, hi8, g7, g8, m3_, m7_, m8_, m9_, ha, Q_B, Q_F3, Q_F7, Q_H8, Q_H9, Q_N38, Q_N39, Q_N78, Q_N79, Q_N89, Q_K10, Q_K11, Q_X3_, Q_X7_, Q_X8_, Q_X9_⟩ hb_ hon hoff
      refine ⟨_, rfl, fun K hK => ?_⟩
      have e26 : a.tmps[26]? = some (.slice (some ad) l.length c0) := by rw [ha]; exact (putSel_off rfl).trans rfl
      replace ha := Aside0.mk ha
      have B := Aside0.mk Q_B
      refine value_ (w1 := w') (v := .pointer (some ⟨ad.block, ad.off + 3, none⟩)) (by rfl) rfl ?_ ?_
      · go_simp
        (try simp only [i64_w])
        try rfl
      refine hK.out _ _ ⟨A7, c7, lo7, hi7, A8, c8, lo8, hi8, g7, g8, m3_, m7_, m8_, m9_, (by rw [ha.out]; exact putSel_upk 3 hb_ rfl rfl rfl), Q_B, Q_F3, fun h0_ => absurd ((hoff 7 (by kernel_rfl)).symm.trans h0_) (by decide), Q_H8, Q_H9, Q_N38, Q_N39, fun h0_ _ => absurd ((hoff 7 (by kernel_rfl)).symm.trans h0_) (by decide), fun h0_ _ => absurd ((hoff 7 (by kernel_rfl)).symm.trans h0_) (by decide), Q_N89, fun h0_ => absurd ((hoff 10 (by kernel_rfl)).symm.trans h0_) (by decide), fun h0_ => absurd ((hoff 11 (by kernel_rfl)).symm.trans h0_) (by decide), Q_X3_, fun h0_ => absurd ((hoff 7 (by kernel_rfl)).symm.trans h0_) (by decide), Q_X8_, Q_X9_⟩
    refine steps_cons ?_ ?_
    · rintro b a w' ⟨A7, c7, lo7, hi7, A8, c8, lo8, hi8, g7, g8, m3_, m7_, m8_, m9_, ha, Q_B, Q_F3, Q_F7, Q_H8, Q_H9, Q_N38, Q_N39, Q_N78, Q_N79, Q_N89, Q_K10, Q_K11, Q_X3_, Q_X7_, Q_X8_, Q_X9_⟩ hb_ hon hoff
      refine ⟨_, rfl, fun K hK => ?_⟩
      have e27 : a.tmps[27]? = some (.pointer (some ⟨ad.block, ad.off + 3, none⟩)) := by rw [ha]; exact putSel_on (e := (5, 27, .pointer (some ⟨ad.block, ad.off + 3, none⟩))) 3 rfl rfl (hon 5 (by kernel_rfl)) rfl
      replace ha := Aside0.mk ha
      have B := Aside0.mk Q_B
      have hc0_ := B.out.cell (World.block_lt_of_cell? _ _ HE1.out.1)
      have hc1_ := B.out.cell (World.block_lt_of_cell? _ _ HE1.out.2.1)
      have hc2_ := B.out.cell (World.block_lt_of_cell? _ _ HE1.out.2.2.1)
      replace hc0_ := hc0_.trans HE1.out.1
      replace hc1_ := hc1_.trans HE1.out.2.1
      replace hc2_ := hc2_.trans HE1.out.2.2.1
      refine value_ (w1 := w') (v := .agg #[.int .i64 r1.f0, .int .i64 r1.f1, .slice B1 r1.f2.length d1]) (by rfl) rfl ?_ ?_
      · go_simp
        (try simp only [i64_w])
        try rfl
      refine hK.out _ _ ⟨A7, c7, lo7, hi7, A8, c8, lo8, hi8, g7, g8, m3_, m7_, m8_, m9_, (by rw [ha.out]; exact putSel_upk 4 hb_ rfl rfl rfl), Q_B, Q_F3, fun h0_ => absurd ((hoff 7 (by kernel_rfl)).symm.trans h0_) (by decide), Q_H8, Q_H9, Q_N38, Q_N39, fun h0_ _ => absurd ((hoff 7 (by kernel_rfl)).symm.trans h0_) (by decide), fun h0_ _ => absurd ((hoff 7 (by kernel_rfl)).symm.trans h0_) (by decide), Q_N89, fun h0_ => absurd ((hoff 10 (by kernel_rfl)).symm.trans h0_) (by decide), fun h0_ => absurd ((hoff 11 (by kernel_rfl)).symm.trans h0_) (by decide), Q_X3_, fun h0_ => absurd ((hoff 7 (by kernel_rfl)).symm.trans h0_) (by decide), Q_X8_, Q_X9_⟩
    refine steps_cons ?_ ?_
    · rintro b a w' ⟨A7, c7, lo7, hi7, A8, c8, lo8, hi8, g7, g8, m3_, m7_, m8_, m9_, ha, Q_B, Q_F3, Q_F7, Q_H8, Q_H9, Q_N38, Q_N39, Q_N78, Q_N79, Q_N89, Q_K10, Q_K11, Q_X3_, Q_X7_, Q_X8_, Q_X9_⟩ hb_ hon hoff
      refine ⟨_, rfl, fun K hK => ?_⟩
      have e28 : a.tmps[28]? = some (.agg #[.int .i64 r1.f0, .int .i64 r1.f1, .slice B1 r1.f2.length d1]) := by rw [ha]; exact putSel_on (e := (6, 28, .agg #[.int .i64 r1.f0, .int .i64 r1.f1, .slice B1 r1.f2.length d1])) 4 rfl rfl (hon 6 (by kernel_rfl)) rfl
      replace ha := Aside0.mk ha
      have B := Aside0.mk Q_B
      have F3 := Aside0.mk (Q_F3 (hon 3 (by kernel_rfl)))
      refine goes_ Try.func13 (by kernel_rfl) rfl #[.agg #[.int .i64 r1.f0, .int .i64 r1.f1, .slice B1 r1.f2.length d1], .bool false] (by rfl) rfl rfl (by first | (simp only [List.map_toArray, List.map_cons, List.map_nil, Act.eval, Array.getD_eq_getD_getElem?, Option.getD_some, e28]; done) | (simp only [List.map_toArray, List.map_cons, List.map_nil, Act.eval, Array.getD_eq_getD_getElem?, Option.getD_some, e28]; rfl)) ?_
      with_reducible refine (raw_use kr r1 B1 d1 false y _ (Kd.C_below HCR1.out B.out) HLR1.out HY.out).mono ?_
      rintro e w3 ⟨A_, c_, rfl, hl_, hF_, hb⟩
      refine ⟨_, rfl, ?_⟩
      have hsz_ := hb.size
      have z_N78 := fun (_ : up b 7 7 = true) (h1_ : up b 7 8 = true) => (show g7 < w'.heap.size ∨ w3.heap.size ≤ g7 from .inl (blk_lt (Q_H8 h1_ (hoff 10 (by kernel_rfl))).1))
      have z_N79 := fun (_ : up b 7 7 = true) (h1_ : up b 7 9 = true) => (show g8 < w'.heap.size ∨ w3.heap.size ≤ g8 from .inl (blk_lt (Q_H9 h1_ (hoff 11 (by kernel_rfl))).1))
      refine hK.out _ _ ⟨A7, c7, lo7, hi7, A_, c_, w'.heap.size, w3.heap.size, g7, g8, m3_, (.agg #[.int .i64 y.f0, .int .i64 y.f1, .int .i64 y.f2, .int .i64 y.f3, .string y.f4, .slice A_ y.f5.length c_]), m8_, m9_, (by rw [ha.out]; exact putSel_upk 5 hb_ rfl rfl rfl), below_step B.out hb, fun _ => ⟨⟨Kd.F_below F3.out.1.1 hb, F3.out.1.2⟩, Nat.le_trans F3.out.2 hsz_⟩, fun _ => ⟨⟨Kd.F_mono (Kd.F_bound hF_) (fun k hk => hk), hl_⟩, Nat.le_refl _⟩, fun h0_ h1_ => ⟨blk_below (Q_H8 h0_ h1_).1 hb, (Q_H8 h0_ h1_).2⟩, fun h0_ h1_ => ⟨blk_below (Q_H9 h0_ h1_).1 hb, (Q_H9 h0_ h1_).2⟩, Q_N38, Q_N39, z_N78, z_N79, Q_N89, fun h0_ => absurd ((hoff 10 (by kernel_rfl)).symm.trans h0_) (by decide), fun h0_ => absurd ((hoff 11 (by kernel_rfl)).symm.trans h0_) (by decide), Q_X3_, fun _ => rfl, Q_X8_, Q_X9_⟩
    refine steps_cons ?_ ?_
    · rintro b a w' ⟨A7, c7, lo7, hi7, A8, c8, lo8, hi8, g7, g8, m3_, m7_, m8_, m9_, ha, Q_B, Q_F3, Q_F7, Q_H8, Q_H9, Q_N38, Q_N39, Q_N78, Q_N79, Q_N89, Q_K10, Q_K11, Q_X3_, Q_X7_, Q_X8_, Q_X9_⟩ hb_ hon hoff
      refine ⟨_, rfl, fun K hK => ?_⟩
      replace ha := Aside0.mk ha
      have B := Aside0.mk Q_B
      refine box_step (by rfl) (N := 7) ?hd (cs := #[.int .i64 0, .int .i64 0, .int .i64 0, .int .i64 0, .string ⟨#[]⟩, .slice none 0 0]) (t := 33) ?hr ?_; (case hd => rfl); (case hr => first | (go_simp; done) | (go_simp; rfl))
      intro g_ hg w3 hbox hb
      have hsz_ := hb.size
      have z_N38 := fun (h0_ : up b 8 3 = true) (_ : up b 8 8 = true) => (show g_ < lo7 ∨ hi7 ≤ g_ from .inr (by rw [hg]; exact (Q_F3 h0_).2))
      have z_N78 := fun (h0_ : up b 8 7 = true) (_ : up b 8 8 = true) => (show g_ < lo8 ∨ hi8 ≤ g_ from .inr (by rw [hg]; exact (Q_F7 h0_).2))
      have z_N89 := fun (_ : up b 8 8 = true) (h1_ : up b 8 9 = true) => (show g_ ≠ g8 from by rw [hg]; exact Nat.ne_of_gt (blk_lt (Q_H9 h1_ (hoff 11 (by kernel_rfl))).1))
      refine hK.out _ _ ⟨A7, c7, lo7, hi7, A8, c8, lo8, hi8, g_, g8, m3_, m7_, (.pointer (some ⟨g_, 0, none⟩)), m9_, (by rw [ha.out]; exact putSel_upk 6 hb_ rfl rfl rfl), below_step B.out hb, fun h0_ => ⟨⟨Kd.F_below (Q_F3 h0_).1.1 hb, (Q_F3 h0_).1.2⟩, Nat.le_trans (Q_F3 h0_).2 hsz_⟩, fun h0_ => ⟨⟨Kd.F_below (Q_F7 h0_).1.1 hb, (Q_F7 h0_).1.2⟩, Nat.le_trans (Q_F7 h0_).2 hsz_⟩, fun _ _ => ⟨hbox, by rw [hg]; exact B.out.size⟩, fun h0_ h1_ => ⟨blk_below (Q_H9 h0_ h1_).1 hb, (Q_H9 h0_ h1_).2⟩, z_N38, Q_N39, z_N78, Q_N79, z_N89, fun h0_ => absurd ((hoff 10 (by kernel_rfl)).symm.trans h0_) (by decide), fun h0_ => absurd ((hoff 11 (by kernel_rfl)).symm.trans h0_) (by decide), Q_X3_, Q_X7_, fun _ => rfl, Q_X9_⟩
    refine steps_cons ?_ ?_
    · rintro b a w' ⟨A7, c7, lo7, hi7, A8, c8, lo8, hi8, g7, g8, m3_, m7_, m8_, m9_, ha, Q_B, Q_F3, Q_F7, Q_H8, Q_H9, Q_N38, Q_N39, Q_N78, Q_N79, Q_N89, Q_K10, Q_K11, Q_X3_, Q_X7_, Q_X8_, Q_X9_⟩ hb_ hon hoff
      refine ⟨_, rfl, fun K hK => ?_⟩
      replace ha := Aside0.mk ha
      have B := Aside0.mk Q_B
      refine box_step (by rfl) (N := 8) ?hd (cs := #[.int .i64 0, .int .i64 0, .int .i64 0, .int .i64 0, .string ⟨#[]⟩, .slice none 0 0]) (t := 33) ?hr ?_; (case hd => rfl); (case hr => first | (go_simp; done) | (go_simp; rfl))
      intro g_ hg w3 hbox hb
      have hsz_ := hb.size
      have z_N39 := fun (h0_ : up b 9 3 = true) (_ : up b 9 9 = true) => (show g_ < lo7 ∨ hi7 ≤ g_ from .inr (by rw [hg]; exact (Q_F3 h0_).2))
      have z_N79 := fun (h0_ : up b 9 7 = true) (_ : up b 9 9 = true) => (show g_ < lo8 ∨ hi8 ≤ g_ from .inr (by rw [hg]; exact (Q_F7 h0_).2))
      have z_N89 := fun (h0_ : up b 9 8 = true) (_ : up b 9 9 = true) => (show g7 ≠ g_ from by rw [hg]; exact Nat.ne_of_lt (blk_lt (Q_H8 h0_ (hoff 10 (by kernel_rfl))).1))
      refine hK.out _ _ ⟨A7, c7, lo7, hi7, A8, c8, lo8, hi8, g7, g_, m3_, m7_, m8_, (.pointer (some ⟨g_, 0, none⟩)), (by rw [ha.out]; exact putSel_upk 7 hb_ rfl rfl rfl), below_step B.out hb, fun h0_ => ⟨⟨Kd.F_below (Q_F3 h0_).1.1 hb, (Q_F3 h0_).1.2⟩, Nat.le_trans (Q_F3 h0_).2 hsz_⟩, fun h0_ => ⟨⟨Kd.F_below (Q_F7 h0_).1.1 hb, (Q_F7 h0_).1.2⟩, Nat.le_trans (Q_F7 h0_).2 hsz_⟩, fun h0_ h1_ => ⟨blk_below (Q_H8 h0_ h1_).1 hb, (Q_H8 h0_ h1_).2⟩, fun _ _ => ⟨hbox, by rw [hg]; exact B.out.size⟩, Q_N38, z_N39, Q_N78, z_N79, z_N89, fun h0_ => absurd ((hoff 10 (by kernel_rfl)).symm.trans h0_) (by decide), fun h0_ => absurd ((hoff 11 (by kernel_rfl)).symm.trans h0_) (by decide), Q_X3_, Q_X7_, Q_X8_, fun _ => rfl⟩
    refine steps_cons ?_ ?_
    · rintro b a w' ⟨A7, c7, lo7, hi7, A8, c8, lo8, hi8, g7, g8, m3_, m7_, m8_, m9_, ha, Q_B, Q_F3, Q_F7, Q_H8, Q_H9, Q_N38, Q_N39, Q_N78, Q_N79, Q_N89, Q_K10, Q_K11, Q_X3_, Q_X7_, Q_X8_, Q_X9_⟩ hb_ hon hoff
      refine ⟨_, rfl, fun K hK => ?_⟩
      have e7 : a.tmps[7]? = some (m8_) := by rw [ha]; exact putSel_on (e := (8, 7, m8_)) 6 rfl rfl (hon 8 (by kernel_rfl)) rfl
      rw [Q_X8_ (hon 8 (by kernel_rfl))] at e7
      have e25 : a.tmps[25]? = some (m3_) := by rw [ha]; exact putSel_on (e := (3, 25, m3_)) 2 rfl rfl (hon 3 (by kernel_rfl)) rfl
      rw [Q_X3_ (hon 3 (by kernel_rfl))] at e25
      replace ha := Aside0.mk ha
      have B := Aside0.mk Q_B
      have F3 := Aside0.mk (Q_F3 (hon 3 (by kernel_rfl)))
      have F7 := Aside0.mk (Q_F7 (hon 7 (by kernel_rfl)))
      have H8 := Aside0.mk (Q_H8 (hon 8 (by kernel_rfl)) hb_)
      have H9 := Aside0.mk (Q_H9 (hon 9 (by kernel_rfl)) (hoff 11 (by kernel_rfl)))
      have N38 := Aside0.mk (Q_N38 (hon 3 (by kernel_rfl)) (hon 8 (by kernel_rfl)))
      have N39 := Aside0.mk (Q_N39 (hon 3 (by kernel_rfl)) (hon 9 (by kernel_rfl)))
      have N78 := Aside0.mk (Q_N78 (hon 7 (by kernel_rfl)) (hon 8 (by kernel_rfl)))
      have N79 := Aside0.mk (Q_N79 (hon 7 (by kernel_rfl)) (hon 9 (by kernel_rfl)))
      have N89 := Aside0.mk (Q_N89 (hon 8 (by kernel_rfl)) (hon 9 (by kernel_rfl)))
      have hz_ := H8.out.1
      have d0_ := cellAt (i := 0) (u := .int .i64 0) hz_ rfl; have n0_ := blk_frozen hz_ 0
      have d1_ := cellAt (i := 1) (u := .int .i64 0) hz_ rfl; have n1_ := blk_frozen hz_ 1
      have d2_ := cellAt (i := 2) (u := .int .i64 0) hz_ rfl; have n2_ := blk_frozen hz_ 2
      have d3_ := cellAt (i := 3) (u := .int .i64 0) hz_ rfl; have n3_ := blk_frozen hz_ 3
      have d4_ := cellAt (i := 4) (u := .string ⟨#[]⟩) hz_ rfl; have n4_ := blk_frozen hz_ 4
      have d5_ := cellAt (i := 5) (u := .slice none 0 0) hz_ rfl; have n5_ := blk_frozen hz_ 5
      have hl_ := blk_lt hz_
      refine skip_ (w1 := ?_) (by rfl) rfl ?_ ?_
      rotate_left
      · go_simp
        rfl
      have hg_ := set6_grown w' g7 (.int .i64 x.f0) (.int .i64 x.f1) (.int .i64 x.f2) (.int .i64 x.f3) (.string x.f4) (.slice A7 x.f5.length c7)
      refine hK.out _ _ ⟨A7, c7, lo7, hi7, A8, c8, lo8, hi8, g7, g8, m3_, m7_, m8_, m9_, (by rw [ha.out]; exact putSel_none (v := undef) rfl), B.out.grown hg_ B.out.size (fun j hj => by injection hj with hj; subst hj; exact H8.out.2), fun _ => ⟨⟨Kd.F_grown F3.out.1.1 hg_ (fun k hk e => by injection e with e; have := N38.out; omega), F3.out.1.2⟩, Nat.le_trans F3.out.2 hg_.size⟩, fun _ => ⟨⟨Kd.F_grown F7.out.1.1 hg_ (fun k hk e => by injection e with e; have := N78.out; omega), F7.out.1.2⟩, Nat.le_trans F7.out.2 hg_.size⟩, fun _ h1_ => absurd ((up_self b 10).symm.trans h1_) (by decide), fun _ _ => ⟨(hg_.block g8 (blk_lt H9.out.1) (fun e => N89.out (by injection e with e; exact e.symm))).trans H9.out.1, H9.out.2⟩, Q_N38, Q_N39, Q_N78, Q_N79, Q_N89, fun _ => ⟨set6_blk hz_, H8.out.2⟩, fun h0_ => absurd ((hoff 11 (by kernel_rfl)).symm.trans h0_) (by decide), Q_X3_, Q_X7_, Q_X8_, Q_X9_⟩
    refine steps_cons ?_ ?_
    · rintro b a w' ⟨A7, c7, lo7, hi7, A8, c8, lo8, hi8, g7, g8, m3_, m7_, m8_, m9_, ha, Q_B, Q_F3, Q_F7, Q_H8, Q_H9, Q_N38, Q_N39, Q_N78, Q_N79, Q_N89, Q_K10, Q_K11, Q_X3_, Q_X7_, Q_X8_, Q_X9_⟩ hb_ hon hoff
      refine ⟨_, rfl, fun K hK => ?_⟩
      have e8 : a.tmps[8]? = some (m9_) := by rw [ha]; exact putSel_on (e := (9, 8, m9_)) 7 rfl rfl (hon 9 (by kernel_rfl)) rfl
      rw [Q_X9_ (hon 9 (by kernel_rfl))] at e8
      have e29 : a.tmps[29]? = some (m7_) := by rw [ha]; exact putSel_on (e := (7, 29, m7_)) 5 rfl rfl (hon 7 (by kernel_rfl)) rfl
      rw [Q_X7_ (hon 7 (by kernel_rfl))] at e29
      replace ha := Aside0.mk ha
      have B := Aside0.mk Q_B
      have F3 := Aside0.mk (Q_F3 (hon 3 (by kernel_rfl)))
      have F7 := Aside0.mk (Q_F7 (hon 7 (by kernel_rfl)))
      have H9 := Aside0.mk (Q_H9 (hon 9 (by kernel_rfl)) hb_)
      have N38 := Aside0.mk (Q_N38 (hon 3 (by kernel_rfl)) (hon 8 (by kernel_rfl)))
      have N39 := Aside0.mk (Q_N39 (hon 3 (by kernel_rfl)) (hon 9 (by kernel_rfl)))
      have N78 := Aside0.mk (Q_N78 (hon 7 (by kernel_rfl)) (hon 8 (by kernel_rfl)))
      have N79 := Aside0.mk (Q_N79 (hon 7 (by kernel_rfl)) (hon 9 (by kernel_rfl)))
      have N89 := Aside0.mk (Q_N89 (hon 8 (by kernel_rfl)) (hon 9 (by kernel_rfl)))
      have K10 := Aside0.mk (Q_K10 (hon 10 (by kernel_rfl)))
      have hz_ := H9.out.1
      have d0_ := cellAt (i := 0) (u := .int .i64 0) hz_ rfl; have n0_ := blk_frozen hz_ 0
      have d1_ := cellAt (i := 1) (u := .int .i64 0) hz_ rfl; have n1_ := blk_frozen hz_ 1
      have d2_ := cellAt (i := 2) (u := .int .i64 0) hz_ rfl; have n2_ := blk_frozen hz_ 2
      have d3_ := cellAt (i := 3) (u := .int .i64 0) hz_ rfl; have n3_ := blk_frozen hz_ 3
      have d4_ := cellAt (i := 4) (u := .string ⟨#[]⟩) hz_ rfl; have n4_ := blk_frozen hz_ 4
      have d5_ := cellAt (i := 5) (u := .slice none 0 0) hz_ rfl; have n5_ := blk_frozen hz_ 5
      have hl_ := blk_lt hz_
      refine skip_ (w1 := ?_) (by rfl) rfl ?_ ?_
      rotate_left
      · go_simp
        rfl
      have hg_ := set6_grown w' g8 (.int .i64 y.f0) (.int .i64 y.f1) (.int .i64 y.f2) (.int .i64 y.f3) (.string y.f4) (.slice A8 y.f5.length c8)
      refine hK.out _ _ ⟨A7, c7, lo7, hi7, A8, c8, lo8, hi8, g7, g8, m3_, m7_, m8_, m9_, (by rw [ha.out]; exact putSel_none (v := undef) rfl), B.out.grown hg_ B.out.size (fun j hj => by injection hj with hj; subst hj; exact H9.out.2), fun _ => ⟨⟨Kd.F_grown F3.out.1.1 hg_ (fun k hk e => by injection e with e; have := N39.out; omega), F3.out.1.2⟩, Nat.le_trans F3.out.2 hg_.size⟩, fun _ => ⟨⟨Kd.F_grown F7.out.1.1 hg_ (fun k hk e => by injection e with e; have := N79.out; omega), F7.out.1.2⟩, Nat.le_trans F7.out.2 hg_.size⟩, fun _ h1_ => absurd ((hon 10 (by kernel_rfl)).symm.trans h1_) (by decide), fun _ h1_ => absurd ((up_self b 11).symm.trans h1_) (by decide), Q_N38, Q_N39, Q_N78, Q_N79, Q_N89, fun _ => ⟨(hg_.block g7 (blk_lt K10.out.1) (fun e => N89.out (by injection e))).trans K10.out.1, K10.out.2⟩, fun _ => ⟨set6_blk hz_, H9.out.2⟩, Q_X3_, Q_X7_, Q_X8_, Q_X9_⟩
    exact steps_nil
  · rintro b a w' hall ⟨A7, c7, lo7, hi7, A8, c8, lo8, hi8, g7, g8, m3_, m7_, m8_, m9_, ha, Q_B, Q_F3, Q_F7, Q_H8, Q_H9, Q_N38, Q_N39, Q_N78, Q_N79, Q_N89, Q_K10, Q_K11, Q_X3_, Q_X7_, Q_X8_, Q_X9_⟩
    clear B
    have hb1_ := hall 1 (by kernel_rfl)
    have hb2_ := hall 2 (by kernel_rfl)
    have hb3_ := hall 3 (by kernel_rfl)
    have hb5_ := hall 5 (by kernel_rfl)
    have hb6_ := hall 6 (by kernel_rfl)
    have hb7_ := hall 7 (by kernel_rfl)
    have hb8_ := hall 8 (by kernel_rfl)
    have hb9_ := hall 9 (by kernel_rfl)
    have hb10_ := hall 10 (by kernel_rfl)
    have hb11_ := hall 11 (by kernel_rfl)
    subst ha
    obtain rfl := Q_X3_ hb3_
    obtain rfl := Q_X7_ hb7_
    obtain rfl := Q_X8_ hb8_
    obtain rfl := Q_X9_ hb9_
    simp only [putSel, hb1_, hb2_, hb3_, hb5_, hb6_, hb7_, hb8_, hb9_, hb10_, hb11_, if_true, Act.put, List.setIfInBounds_toArray, List.set_cons_zero, List.set_cons_succ]
    have B := Aside0.mk Q_B
    clear Q_B
    have F3 := Aside0.mk (Q_F3 hb3_)
    clear Q_F3
    have F7 := Aside0.mk (Q_F7 hb7_)
    clear Q_F7
    clear Q_H8
    clear Q_H9
    have N38 := Aside0.mk (Q_N38 hb3_ hb8_)
    clear Q_N38
    have N39 := Aside0.mk (Q_N39 hb3_ hb9_)
    clear Q_N39
    have N78 := Aside0.mk (Q_N78 hb7_ hb8_)
    clear Q_N78
    have N79 := Aside0.mk (Q_N79 hb7_ hb9_)
    clear Q_N79
    have N89 := Aside0.mk (Q_N89 hb8_ hb9_)
    clear Q_N89
    have K10 := Aside0.mk (Q_K10 hb10_)
    clear Q_K10
    have K11 := Aside0.mk (Q_K11 hb11_)
    clear Q_K11
    clear hall hb1_ hb2_ hb3_ hb5_ hb6_ hb7_ hb8_ hb9_ hb10_ hb11_
    go_wp2
    refine start_ (n := 6) (S := fun w' => True) (ds := []) #[false, false, false, false, false, false] (by kernel_rfl) rfl rfl trivial (fun hHeld => ?_); refine with_tabW f4sz.tab6 f4sz.bits6 (fun HT_ HW_ => ?_)
    obtain ⟨ws, hws⟩ : ∃ ws, World.drew w' = ws := ⟨_, rfl⟩
    have Bn : Aside0 (Below w.heap.size w ws) := ⟨hws ▸ below_drew B.out⟩
    have HG7 : Aside0 (ws.heap[g7]? = some (.cells #[.int .i64 x.f0, .int .i64 x.f1, .int .i64 x.f2, .int .i64 x.f3, .string x.f4, .slice A7 x.f5.length c7] 33 (0, 0))) := ⟨hws ▸ K10.out.1⟩
    have HG8 : Aside0 (ws.heap[g8]? = some (.cells #[.int .i64 y.f0, .int .i64 y.f1, .int .i64 y.f2, .int .i64 y.f3, .string y.f4, .slice A8 y.f5.length c8] 33 (0, 0))) := ⟨hws ▸ K11.out.1⟩
    have HCX : Aside0 (Kd.C k33 ws A7 x.f5.length x.f5) := ⟨hws ▸ Kd.C_drew (Kd.F_now F3.out.1.1)⟩
    have HCY : Aside0 (Kd.C k33 ws A8 y.f5.length y.f5) := ⟨hws ▸ Kd.C_drew (Kd.F_now F7.out.1.1)⟩
    have HLX := Aside0.mk F3.out.1.2
    have HLY := Aside0.mk F7.out.1.2
    have S := Aside0.mk (Below.refl ws.heap.size ws)
    (try rw [hws])
    clear hws B F3 F7 K10 K11 N38 N39 N78 N79 N89
    have B := Bn
    clear Bn
    refine inv_at [0, 1, 2, 3, 4, 5] (fun a0_ b a w' => a = putSel a0_ b [(0, 30, .agg #[.int .i64 x.f0, .int .i64 x.f1, .int .i64 x.f2, .int .i64 x.f3, .string x.f4, .slice A7 x.f5.length c7]), (1, 31, .int .i64 na), (2, 32, .agg #[.int .i64 y.f0, .int .i64 y.f1, .int .i64 y.f2, .int .i64 y.f3, .string y.f4, .slice A8 y.f5.length c8]), (3, 33, .int .i64 nb), (4, 9, .int .i64 na), (5, 10, .int .i64 nb)] ∧ (Below w.heap.size w w') ∧ (Below ws.heap.size ws w')) HT_.out HW_.out (by kernel_rfl) (by kernel_rfl) ?_ ?_ ?_
    · exact ⟨by simp only [putSel, Bool.false_eq_true, if_false], B.out, S.out⟩
    · skip
      clear B S
      refine steps_cons ?_ ?_
      · rintro b a w' ⟨ha, Q_B, Q_S⟩ hb_ hon hoff
        refine ⟨_, rfl, fun K hK => ?_⟩
        have e7 : a.tmps[7]? = some (.pointer (some ⟨g7, 0, none⟩)) := by rw [ha]; exact (putSel_off rfl).trans rfl
        replace ha := Aside0.mk ha
        have B := Aside0.mk Q_B
        have S := Aside0.mk Q_S
        have hk_ := blk_below HG7.out S.out
        have d0_ := cellAt (i := 0) (u := .int .i64 x.f0) hk_ rfl
        have d1_ := cellAt (i := 1) (u := .int .i64 x.f1) hk_ rfl
        have d2_ := cellAt (i := 2) (u := .int .i64 x.f2) hk_ rfl
        have d3_ := cellAt (i := 3) (u := .int .i64 x.f3) hk_ rfl
        have d4_ := cellAt (i := 4) (u := .string x.f4) hk_ rfl
        have d5_ := cellAt (i := 5) (u := .slice A7 x.f5.length c7) hk_ rfl
        refine value_ (w1 := w') (v := .agg #[.int .i64 x.f0, .int .i64 x.f1, .int .i64 x.f2, .int .i64 x.f3, .string x.f4, .slice A7 x.f5.length c7]) (by rfl) rfl ?_ ?_
        · go_simp
          (try simp only [i64_w])
          try rfl
        refine hK.out _ _ ⟨(by rw [ha.out]; exact putSel_upk 0 hb_ rfl rfl rfl), Q_B, Q_S⟩
      refine steps_cons ?_ ?_
      · rintro b a w' ⟨ha, Q_B, Q_S⟩ hb_ hon hoff
        refine ⟨_, rfl, fun K hK => ?_⟩
        have e30 : a.tmps[30]? = some (.agg #[.int .i64 x.f0, .int .i64 x.f1, .int .i64 x.f2, .int .i64 x.f3, .string x.f4, .slice A7 x.f5.length c7]) := by rw [ha]; exact putSel_on (e := (0, 30, .agg #[.int .i64 x.f0, .int .i64 x.f1, .int .i64 x.f2, .int .i64 x.f3, .string x.f4, .slice A7 x.f5.length c7])) 0 rfl rfl (hon 0 (by kernel_rfl)) rfl
        replace ha := Aside0.mk ha
        have B := Aside0.mk Q_B
        have S := Aside0.mk Q_S
        refine goes_ Try.func17 (by kernel_rfl) rfl #[.agg #[.int .i64 x.f0, .int .i64 x.f1, .int .i64 x.f2, .int .i64 x.f3, .string x.f4, .slice A7 x.f5.length c7]] (by rfl) rfl rfl (by first | (simp only [List.map_toArray, List.map_cons, List.map_nil, Act.eval, Array.getD_eq_getD_getElem?, Option.getD_some, e30]; done) | (simp only [List.map_toArray, List.map_cons, List.map_nil, Act.eval, Array.getD_eq_getD_getElem?, Option.getD_some, e30]; rfl)) ?_
        with_reducible refine (side_Size.calls kz x.f0 x.f1 x.f2 x.f3 x.f4 A7 c7 x.f5 na _ (Kd.C_below HCX.out S.out) HLX.out HZX.out).mono ?_
        rintro e w3 ⟨rfl, hb⟩
        refine ⟨_, rfl, ?_⟩
        refine hK.out _ _ ⟨(by rw [ha.out]; exact putSel_upk 1 hb_ rfl rfl rfl), below_step B.out hb, below_step S.out hb⟩
      refine steps_cons ?_ ?_
      · rintro b a w' ⟨ha, Q_B, Q_S⟩ hb_ hon hoff
        refine ⟨_, rfl, fun K hK => ?_⟩
        have e8 : a.tmps[8]? = some (.pointer (some ⟨g8, 0, none⟩)) := by rw [ha]; exact (putSel_off rfl).trans rfl
        replace ha := Aside0.mk ha
        have B := Aside0.mk Q_B
        have S := Aside0.mk Q_S
        have hk_ := blk_below HG8.out S.out
        have d0_ := cellAt (i := 0) (u := .int .i64 y.f0) hk_ rfl
        have d1_ := cellAt (i := 1) (u := .int .i64 y.f1) hk_ rfl
        have d2_ := cellAt (i := 2) (u := .int .i64 y.f2) hk_ rfl
        have d3_ := cellAt (i := 3) (u := .int .i64 y.f3) hk_ rfl
        have d4_ := cellAt (i := 4) (u := .string y.f4) hk_ rfl
        have d5_ := cellAt (i := 5) (u := .slice A8 y.f5.length c8) hk_ rfl
        refine value_ (w1 := w') (v := .agg #[.int .i64 y.f0, .int .i64 y.f1, .int .i64 y.f2, .int .i64 y.f3, .string y.f4, .slice A8 y.f5.length c8]) (by rfl) rfl ?_ ?_
        · go_simp
          (try simp only [i64_w])
          try rfl
        refine hK.out _ _ ⟨(by rw [ha.out]; exact putSel_upk 2 hb_ rfl rfl rfl), Q_B, Q_S⟩
      refine steps_cons ?_ ?_
      · rintro b a w' ⟨ha, Q_B, Q_S⟩ hb_ hon hoff
        refine ⟨_, rfl, fun K hK => ?_⟩
        have e32 : a.tmps[32]? = some (.agg #[.int .i64 y.f0, .int .i64 y.f1, .int .i64 y.f2, .int .i64 y.f3, .string y.f4, .slice A8 y.f5.length c8]) := by rw [ha]; exact putSel_on (e := (2, 32, .agg #[.int .i64 y.f0, .int .i64 y.f1, .int .i64 y.f2, .int .i64 y.f3, .string y.f4, .slice A8 y.f5.length c8])) 2 rfl rfl (hon 2 (by kernel_rfl)) rfl
        replace ha := Aside0.mk ha
        have B := Aside0.mk Q_B
        have S := Aside0.mk Q_S
        refine goes_ Try.func17 (by kernel_rfl) rfl #[.agg #[.int .i64 y.f0, .int .i64 y.f1, .int .i64 y.f2, .int .i64 y.f3, .string y.f4, .slice A8 y.f5.length c8]] (by rfl) rfl rfl (by first | (simp only [List.map_toArray, List.map_cons, List.map_nil, Act.eval, Array.getD_eq_getD_getElem?, Option.getD_some, e32]; done) | (simp only [List.map_toArray, List.map_cons, List.map_nil, Act.eval, Array.getD_eq_getD_getElem?, Option.getD_some, e32]; rfl)) ?_
        with_reducible refine (side_Size.calls kz y.f0 y.f1 y.f2 y.f3 y.f4 A8 c8 y.f5 nb _ (Kd.C_below HCY.out S.out) HLY.out HZY.out).mono ?_
        rintro e w3 ⟨rfl, hb⟩
        refine ⟨_, rfl, ?_⟩
        refine hK.out _ _ ⟨(by rw [ha.out]; exact putSel_upk 3 hb_ rfl rfl rfl), below_step B.out hb, below_step S.out hb⟩
      refine steps_cons ?_ ?_
      · rintro b a w' ⟨ha, Q_B, Q_S⟩ hb_ hon hoff
        refine ⟨_, rfl, fun K hK => ?_⟩
        have e31 : a.tmps[31]? = some (.int .i64 na) := by rw [ha]; exact putSel_on (e := (1, 31, .int .i64 na)) 1 rfl rfl (hon 1 (by kernel_rfl)) rfl
        replace ha := Aside0.mk ha
        have B := Aside0.mk Q_B
        have S := Aside0.mk Q_S
        refine value_ (w1 := w') (v := .int .i64 na) (by rfl) rfl ?_ ?_
        · go_simp
          (try simp only [i64_w])
          try rfl
        refine hK.out _ _ ⟨(by rw [ha.out]; exact putSel_upk 4 hb_ rfl rfl rfl), Q_B, Q_S⟩
      refine steps_cons ?_ ?_
      · rintro b a w' ⟨ha, Q_B, Q_S⟩ hb_ hon hoff
        refine ⟨_, rfl, fun K hK => ?_⟩
        have e33 : a.tmps[33]? = some (.int .i64 nb) := by rw [ha]; exact putSel_on (e := (3, 33, .int .i64 nb)) 3 rfl rfl (hon 3 (by kernel_rfl)) rfl
        replace ha := Aside0.mk ha
        have B := Aside0.mk Q_B
        have S := Aside0.mk Q_S
        refine value_ (w1 := w') (v := .int .i64 nb) (by rfl) rfl ?_ ?_
        · go_simp
          (try simp only [i64_w])
          try rfl
        refine hK.out _ _ ⟨(by rw [ha.out]; exact putSel_upk 5 hb_ rfl rfl rfl), Q_B, Q_S⟩
      exact steps_nil
    · rintro b a w' hall ⟨ha, Q_B, Q_S⟩
      clear B S
      have hb0_ := hall 0 (by kernel_rfl)
      have hb1_ := hall 1 (by kernel_rfl)
      have hb2_ := hall 2 (by kernel_rfl)
      have hb3_ := hall 3 (by kernel_rfl)
      have hb4_ := hall 4 (by kernel_rfl)
      have hb5_ := hall 5 (by kernel_rfl)
      subst ha
      simp only [putSel, hb0_, hb1_, hb2_, hb3_, hb4_, hb5_, if_true, Act.put, List.setIfInBounds_toArray, List.set_cons_zero, List.set_cons_succ]
      have B := Aside0.mk Q_B
      clear Q_B
      have S := Aside0.mk Q_S
      clear Q_S
      clear hall hb0_ hb1_ hb2_ hb3_ hb4_ hb5_
      have HG7n := Aside0.mk (blk_below HG7.out S.out); have HG8n := Aside0.mk (blk_below HG8.out S.out); have HCXn := Aside0.mk (Kd.C_below HCX.out S.out); have HCYn := Aside0.mk (Kd.C_below HCY.out S.out); clear HG7 HG8 HCX HCY S; have HG7 := HG7n; have HG8 := HG8n; have HCX := HCXn; have HCY := HCYn; clear HG7n HG8n HCXn HCYn
      go_wp2_with (go_at_call 19; refine (within7 hi 13 _ (by omega) (by omega)).mono ?_; rintro e wq ⟨rfl, ⟨n2, rfl⟩⟩)
      have HSP : Aside0 (∀ V : World, Below w'.heap.size w' V → V.cell? ⟨g7, 0, none⟩ = some (.int .i64 x.f0) ∧ V.cell? ⟨g7, 1, none⟩ = some (.int .i64 x.f1) ∧ V.cell? ⟨g7, 2, none⟩ = some (.int .i64 x.f2) ∧ V.cell? ⟨g7, 3, none⟩ = some (.int .i64 x.f3) ∧ V.cell? ⟨g7, 4, none⟩ = some (.string x.f4) ∧ V.cell? ⟨g7, 5, none⟩ = some (.slice A7 x.f5.length c7) ∧ V.cell? ⟨g8, 0, none⟩ = some (.int .i64 y.f0) ∧ V.cell? ⟨g8, 1, none⟩ = some (.int .i64 y.f1) ∧ V.cell? ⟨g8, 2, none⟩ = some (.int .i64 y.f2) ∧ V.cell? ⟨g8, 3, none⟩ = some (.int .i64 y.f3) ∧ V.cell? ⟨g8, 4, none⟩ = some (.string y.f4) ∧ V.cell? ⟨g8, 5, none⟩ = some (.slice A8 y.f5.length c8)) := ⟨fun V hV => by have h7 := blk_below HG7.out hV; have h8 := blk_below HG8.out hV; exact ⟨cellAt h7 rfl, cellAt h7 rfl, cellAt h7 rfl, cellAt h7 rfl, cellAt h7 rfl, cellAt h7 rfl, cellAt h8 rfl, cellAt h8 rfl, cellAt h8 rfl, cellAt h8 rfl, cellAt h8 rfl, cellAt h8 rfl⟩⟩
      have S := Aside0.mk (Below.refl w'.heap.size w')
      have hws_ := HWS.out; have hwp_ := HWP.out
      have hmn_ : (if wth hi 13 < wth lo 13 then wth hi 13 else wth lo 13) = mn (wth lo 13) (wth hi 13) := rfl
      have MZ4 := True.intro
      have MZ5 := True.intro
      have MZ6 := True.intro
      have MZ8 := True.intro
      have MZ7 := True.intro
      go_region_held3 (fun w' => w'.cell? ⟨g7, 0, none⟩ = some (.int .i64 x.f0) ∧ w'.cell? ⟨g7, 1, none⟩ = some (.int .i64 x.f1) ∧ w'.cell? ⟨g7, 2, none⟩ = some (.int .i64 x.f2) ∧ w'.cell? ⟨g7, 3, none⟩ = some (.int .i64 x.f3) ∧ w'.cell? ⟨g7, 4, none⟩ = some (.string x.f4) ∧ w'.cell? ⟨g7, 5, none⟩ = some (.slice A7 x.f5.length c7) ∧ w'.cell? ⟨g8, 0, none⟩ = some (.int .i64 y.f0) ∧ w'.cell? ⟨g8, 1, none⟩ = some (.int .i64 y.f1) ∧ w'.cell? ⟨g8, 2, none⟩ = some (.int .i64 y.f2) ∧ w'.cell? ⟨g8, 3, none⟩ = some (.int .i64 y.f3) ∧ w'.cell? ⟨g8, 4, none⟩ = some (.string y.f4) ∧ w'.cell? ⟨g8, 5, none⟩ = some (.slice A8 y.f5.length c8)) (exact HSP.out _ (by first | (with_reducible exact S.out) | (with_reducible exact below_alloc S.out _) | (with_reducible exact below_drew S.out) | (with_reducible exact pw_below_drewN S.out _) | (with_reducible exact below_alloc (below_drew S.out) _) | (with_reducible exact below_alloc (pw_below_drewN S.out _) _) | (with_reducible exact pw_below_drewN (below_alloc S.out _) _) | (with_reducible exact below_drew (pw_below_drewN S.out _)) | (with_reducible exact below_alloc (below_drew (pw_below_drewN S.out _)) _) | (with_reducible exact below_alloc (below_drew (pw_below_drewN S.out _)) _))) (first | (go_at_call 17; clear MZ4; refine Calls.mono (side_Size.calls kz 4 0 0 0 ⟨#[]⟩ (some ⟨_, 0, none⟩) 2 [x, y] (na + nb) _ (lit2_C (by first | (with_reducible exact new_at rfl _) | exact new_at rfl _ | exact blk_drewN (new_at rfl _) _) HLX.out (Kd.C_below HCX.out (by first | (with_reducible exact S.out) | (with_reducible exact below_alloc S.out _) | (with_reducible exact below_drew S.out) | (with_reducible exact pw_below_drewN S.out _) | (with_reducible exact below_alloc (below_drew S.out) _) | (with_reducible exact below_alloc (pw_below_drewN S.out _) _) | (with_reducible exact pw_below_drewN (below_alloc S.out _) _) | (with_reducible exact below_drew (pw_below_drewN S.out _)) | (with_reducible exact below_alloc (below_drew (pw_below_drewN S.out _)) _) | (with_reducible exact below_alloc (below_drew (pw_below_drewN S.out _)) _))) HLY.out (Kd.C_below HCY.out (by first | (with_reducible exact S.out) | (with_reducible exact below_alloc S.out _) | (with_reducible exact below_drew S.out) | (with_reducible exact pw_below_drewN S.out _) | (with_reducible exact below_alloc (below_drew S.out) _) | (with_reducible exact below_alloc (pw_below_drewN S.out _) _) | (with_reducible exact pw_below_drewN (below_alloc S.out _) _) | (with_reducible exact below_drew (pw_below_drewN S.out _)) | (with_reducible exact below_alloc (below_drew (pw_below_drewN S.out _)) _) | (with_reducible exact below_alloc (below_drew (pw_below_drewN S.out _)) _)))) (Nat.le_refl _) HZ4.out) ?_; rintro e w3 ⟨rfl, hb⟩; have Sn := Aside0.mk (below_step (by first | (with_reducible exact S.out) | (with_reducible exact below_alloc S.out _) | (with_reducible exact below_drew S.out) | (with_reducible exact pw_below_drewN S.out _) | (with_reducible exact below_alloc (below_drew S.out) _) | (with_reducible exact below_alloc (pw_below_drewN S.out _) _) | (with_reducible exact pw_below_drewN (below_alloc S.out _) _) | (with_reducible exact below_drew (pw_below_drewN S.out _)) | (with_reducible exact below_alloc (below_drew (pw_below_drewN S.out _)) _) | (with_reducible exact below_alloc (below_drew (pw_below_drewN S.out _)) _)) hb); clear S hb; have S := Sn; clear Sn) | (go_at_call 17; clear MZ5; refine Calls.mono (side_Size.calls kz 5 0 0 0 ⟨#[]⟩ (some ⟨_, 0, none⟩) 2 [x, y] (na + nb) _ (lit2_C (by first | (with_reducible exact new_at rfl _) | exact new_at rfl _ | exact blk_drewN (new_at rfl _) _) HLX.out (Kd.C_below HCX.out (by first | (with_reducible exact S.out) | (with_reducible exact below_alloc S.out _) | (with_reducible exact below_drew S.out) | (with_reducible exact pw_below_drewN S.out _) | (with_reducible exact below_alloc (below_drew S.out) _) | (with_reducible exact below_alloc (pw_below_drewN S.out _) _) | (with_reducible exact pw_below_drewN (below_alloc S.out _) _) | (with_reducible exact below_drew (pw_below_drewN S.out _)) | (with_reducible exact below_alloc (below_drew (pw_below_drewN S.out _)) _) | (with_reducible exact below_alloc (below_drew (pw_below_drewN S.out _)) _))) HLY.out (Kd.C_below HCY.out (by first | (with_reducible exact S.out) | (with_reducible exact below_alloc S.out _) | (with_reducible exact below_drew S.out) | (with_reducible exact pw_below_drewN S.out _) | (with_reducible exact below_alloc (below_drew S.out) _) | (with_reducible exact below_alloc (pw_below_drewN S.out _) _) | (with_reducible exact pw_below_drewN (below_alloc S.out _) _) | (with_reducible exact below_drew (pw_below_drewN S.out _)) | (with_reducible exact below_alloc (below_drew (pw_below_drewN S.out _)) _) | (with_reducible exact below_alloc (below_drew (pw_below_drewN S.out _)) _)))) (Nat.le_refl _) HZ5.out) ?_; rintro e w3 ⟨rfl, hb⟩; have Sn := Aside0.mk (below_step (by first | (with_reducible exact S.out) | (with_reducible exact below_alloc S.out _) | (with_reducible exact below_drew S.out) | (with_reducible exact pw_below_drewN S.out _) | (with_reducible exact below_alloc (below_drew S.out) _) | (with_reducible exact below_alloc (pw_below_drewN S.out _) _) | (with_reducible exact pw_below_drewN (below_alloc S.out _) _) | (with_reducible exact below_drew (pw_below_drewN S.out _)) | (with_reducible exact below_alloc (below_drew (pw_below_drewN S.out _)) _) | (with_reducible exact below_alloc (below_drew (pw_below_drewN S.out _)) _)) hb); clear S hb; have S := Sn; clear Sn) | (go_at_call 17; clear MZ6; refine Calls.mono (side_Size.calls kz 6 0 0 0 ⟨#[]⟩ (some ⟨_, 0, none⟩) 1 [x] na _ (lit1_C (by first | (with_reducible exact new_at rfl _) | exact new_at rfl _ | exact blk_drewN (new_at rfl _) _) HLX.out (Kd.C_below HCX.out (by first | (with_reducible exact S.out) | (with_reducible exact below_alloc S.out _) | (with_reducible exact below_drew S.out) | (with_reducible exact pw_below_drewN S.out _) | (with_reducible exact below_alloc (below_drew S.out) _) | (with_reducible exact below_alloc (pw_below_drewN S.out _) _) | (with_reducible exact pw_below_drewN (below_alloc S.out _) _) | (with_reducible exact below_drew (pw_below_drewN S.out _)) | (with_reducible exact below_alloc (below_drew (pw_below_drewN S.out _)) _) | (with_reducible exact below_alloc (below_drew (pw_below_drewN S.out _)) _)))) (Nat.le_refl _) HZ6.out) ?_; rintro e w3 ⟨rfl, hb⟩; have Sn := Aside0.mk (below_step (by first | (with_reducible exact S.out) | (with_reducible exact below_alloc S.out _) | (with_reducible exact below_drew S.out) | (with_reducible exact pw_below_drewN S.out _) | (with_reducible exact below_alloc (below_drew S.out) _) | (with_reducible exact below_alloc (pw_below_drewN S.out _) _) | (with_reducible exact pw_below_drewN (below_alloc S.out _) _) | (with_reducible exact below_drew (pw_below_drewN S.out _)) | (with_reducible exact below_alloc (below_drew (pw_below_drewN S.out _)) _) | (with_reducible exact below_alloc (below_drew (pw_below_drewN S.out _)) _)) hb); clear S hb; have S := Sn; clear Sn) | (go_at_call 17; clear MZ8; refine Calls.mono (side_Size.calls kz 8 0 0 3 ⟨#[]⟩ (some ⟨_, 0, none⟩) 1 [x] na _ (lit1_C (by first | (with_reducible exact new_at rfl _) | exact new_at rfl _ | exact blk_drewN (new_at rfl _) _) HLX.out (Kd.C_below HCX.out (by first | (with_reducible exact S.out) | (with_reducible exact below_alloc S.out _) | (with_reducible exact below_drew S.out) | (with_reducible exact pw_below_drewN S.out _) | (with_reducible exact below_alloc (below_drew S.out) _) | (with_reducible exact below_alloc (pw_below_drewN S.out _) _) | (with_reducible exact pw_below_drewN (below_alloc S.out _) _) | (with_reducible exact below_drew (pw_below_drewN S.out _)) | (with_reducible exact below_alloc (below_drew (pw_below_drewN S.out _)) _) | (with_reducible exact below_alloc (below_drew (pw_below_drewN S.out _)) _)))) (Nat.le_refl _) HZ8.out) ?_; rintro e w3 ⟨rfl, hb⟩; have Sn := Aside0.mk (below_step (by first | (with_reducible exact S.out) | (with_reducible exact below_alloc S.out _) | (with_reducible exact below_drew S.out) | (with_reducible exact pw_below_drewN S.out _) | (with_reducible exact below_alloc (below_drew S.out) _) | (with_reducible exact below_alloc (pw_below_drewN S.out _) _) | (with_reducible exact pw_below_drewN (below_alloc S.out _) _) | (with_reducible exact below_drew (pw_below_drewN S.out _)) | (with_reducible exact below_alloc (below_drew (pw_below_drewN S.out _)) _) | (with_reducible exact below_alloc (below_drew (pw_below_drewN S.out _)) _)) hb); clear S hb; have S := Sn; clear Sn) | (go_at_call 17; clear MZ7; refine Calls.mono (side_Size.calls kz 7 (mn (wth lo 13) (wth hi 13)) (wth hi 13) 0 ⟨#[]⟩ (some ⟨_, 0, none⟩) 1 [x] (na * wth hi 13) _ (lit1_C (by first | (with_reducible exact new_at rfl _) | exact new_at rfl _ | exact blk_drewN (new_at rfl _) _) HLX.out (Kd.C_below HCX.out (by first | (with_reducible exact S.out) | (with_reducible exact below_alloc S.out _) | (with_reducible exact below_drew S.out) | (with_reducible exact pw_below_drewN S.out _) | (with_reducible exact below_alloc (below_drew S.out) _) | (with_reducible exact below_alloc (pw_below_drewN S.out _) _) | (with_reducible exact pw_below_drewN (below_alloc S.out _) _) | (with_reducible exact below_drew (pw_below_drewN S.out _)) | (with_reducible exact below_alloc (below_drew (pw_below_drewN S.out _)) _) | (with_reducible exact below_alloc (below_drew (pw_below_drewN S.out _)) _)))) (Nat.le_refl _) HZ7.out) ?_; rintro e w3 ⟨rfl, hb⟩; have Sn := Aside0.mk (below_step (by first | (with_reducible exact S.out) | (with_reducible exact below_alloc S.out _) | (with_reducible exact below_drew S.out) | (with_reducible exact pw_below_drewN S.out _) | (with_reducible exact below_alloc (below_drew S.out) _) | (with_reducible exact below_alloc (pw_below_drewN S.out _) _) | (with_reducible exact pw_below_drewN (below_alloc S.out _) _) | (with_reducible exact below_drew (pw_below_drewN S.out _)) | (with_reducible exact below_alloc (below_drew (pw_below_drewN S.out _)) _) | (with_reducible exact below_alloc (below_drew (pw_below_drewN S.out _)) _)) hb); clear S hb; have S := Sn; clear Sn) | (go_at_call 19; refine Calls.mono (within7 lo 13 _ (by omega) (by omega)) ?_; rintro e wq ⟨rfl, ⟨nq, rfl⟩⟩))
      all_goals (
        go_wp2
        go_ret
        exact ⟨rfl, B.out.trans (Below.mono (by first | (with_reducible exact S.out) | (with_reducible exact below_alloc S.out _) | (with_reducible exact below_drew S.out) | (with_reducible exact pw_below_drewN S.out _) | (with_reducible exact below_alloc (below_drew S.out) _) | (with_reducible exact below_alloc (pw_below_drewN S.out _) _) | (with_reducible exact pw_below_drewN (below_alloc S.out _) _) | (with_reducible exact below_drew (pw_below_drewN S.out _)) | (with_reducible exact below_alloc (below_drew (pw_below_drewN S.out _)) _) | (with_reducible exact below_alloc (below_drew (pw_below_drewN S.out _)) _)) B.out.size)⟩)
end Go.Proofs.Ytnnpfgpfkningaa.P
namespace Go.Proofs.Ytnnpfgpfkningaa.P
open Go.RowKit Go.Proofs.YtnnpfgpfkningaaW.PrintWords Go.Proofs.YtnnpfgpfkningaaW.PrintLast Go.Proofs.YtnnpfgpfkningaaW.PrintMore
attribute [local go_sem] max2_int min2_int max_two min_two max_three min_three max_four min_four   -- for this text's walks alone
attribute [local go_sem ↓ high] Go.Proofs.YtnnpfgpfkningaaX.isSome_setCell
set_option linter.unusedVariables false
set_option linter.unusedSimpArgs false
def joins (l ops : List S51) : List S51 := ops.foldl joinA l
def shA (n : Int) (a : S51) : S51 := ⟨a.f0 + n, a.f1 + n, a.f2⟩
theorem joins_up {l : List S51} (h : ArcsUp l) : ∀ ops, ArcsUp (joins l ops) := by
  intro ops
  induction ops generalizing l with
  | nil => exact h
  | cons a ops ih => exact ih (joinA_up h a)
theorem up_sh {l : List S51} (n : Int) (h : ArcsUp l) : ArcsUp (l.map (shA n)) where
  up := List.pairwise_map.2 (h.up.imp (fun {a b} hab => by unfold aLt shA at *; simp only; omega))
  low a ha := by obtain ⟨b, hb, rfl⟩ := List.mem_map.1 ha; exact h.low b hb
theorem up_append {P L : List S51} (h : ArcsUp P) (k : ArcsUp L) (hl : ∀ x ∈ P, ∀ y ∈ L, x.f0 < y.f0) : ArcsUp (P ++ L) where
  up := List.pairwise_append.2 ⟨h.up, k.up, fun x hx y hy => .inl (hl x hx y hy)⟩
  low a ha := (List.mem_append.1 ha).elim (h.low a) (k.low a)
theorem joinA_mem {a x : S51} {l : List S51} (h : x ∈ joinA l a) : (x.f0 = a.f0 ∧ x.f1 = a.f1) ∨ x ∈ l := by
  unfold joinA at h
  split at h
  · exact insA_mem a l x h
  · exact .inr h
theorem joins_mem {x : S51} : ∀ {ops l : List S51}, x ∈ joins l ops → (∃ a ∈ ops, x.f0 = a.f0 ∧ x.f1 = a.f1) ∨ x ∈ l
  | [], l, h => .inr h
  | a :: ops, l, h => by
    rcases joins_mem (ops := ops) h with ⟨b, hb, e⟩ | h
    · exact .inl ⟨b, List.mem_cons_of_mem _ hb, e⟩
    · rcases joinA_mem h with e | h
      · exact .inl ⟨a, List.mem_cons_self, e⟩
      · exact .inr h
/-- Values: nothing to tinf. -/
def tv (x : Int) : Prop := 0 ≤ x ∧ x ≤ tinf
theorem tadd_v {a b : Int} (ha : tv a) (hb : tv b) : tadd a b = if a + b < tinf then a + b else tinf := by
  unfold tv tinf at *
  unfold tadd mn wrap64
  split <;> split <;> split <;> split <;> omega
theorem tv_tadd {a b : Int} (ha : tv a) (hb : tv b) : tv (tadd a b) := by
  rw [tadd_v ha hb]; unfold tv tinf at *; split <;> omega
theorem tv0 : tv 0 := ⟨Int.le_refl _, by decide⟩
theorem tvI : tv tinf := ⟨by decide, Int.le_refl _⟩
/-- All of a row's numbers as spots, from a position on; those that may be. -/
def spA : Int → List Int → List S94
  | _, [] => []
  | n, v :: l => ⟨n, v⟩ :: spA (n + 1) l
theorem spA_at (s : S94) : ∀ {n : Int} {l : List Int}, s ∈ spA n l → n ≤ s.f0 ∧ s.f0 < n + l.length ∧ s.f1 ∈ l
  | n, [], h => by cases h
  | n, v :: l, h => by
    rw [spA] at h
    rcases List.mem_cons.1 h with rfl | h
    · exact ⟨Int.le_refl _, by simp; omega, List.mem_cons_self⟩
    · obtain ⟨h1, h2, h3⟩ := spA_at s h
      exact ⟨by omega, by simp; omega, List.mem_cons_of_mem _ h3⟩
/-- The arcs from some ends to some beginnings, at a cost. -/
def opsC (E F : List S94) (c : Int) : List S51 := E.flatMap fun a => F.map fun b => ⟨a.f0, b.f0, tadd (tadd a.f1 c) b.f1⟩
theorem opsC_mem {E F : List S94} {c : Int} {o : S51} (h : o ∈ opsC E F c) : ∃ a ∈ E, ∃ b ∈ F, o = ⟨a.f0, b.f0, tadd (tadd a.f1 c) b.f1⟩ := by
  obtain ⟨a, ha, h⟩ := List.mem_flatMap.1 h
  obtain ⟨b, hb, rfl⟩ := List.mem_map.1 h
  exact ⟨a, ha, b, hb, rfl⟩
structure Sd where
  sets : List Int
  first : List Int
  ends : List Int
  arcs : List S51
  none : Int
structure SdOk (s : Sd) : Prop where
  lf : s.first.length = s.sets.length
  le : s.ends.length = s.sets.length
  vf : ∀ v ∈ s.first, tv v
  ve : ∀ v ∈ s.ends, tv v
  vn : tv s.none
  up : ArcsUp s.arcs
  rng : ∀ a ∈ s.arcs, 0 ≤ a.f0 ∧ a.f0 < (s.sets.length : Int) ∧ 0 ≤ a.f1 ∧ a.f1 < (s.sets.length : Int)
def noneS : Sd := ⟨[], [], [], [], 0⟩
def posS (k : Int) : Sd := ⟨[k], [0], [0], [], tinf⟩
def catS (a b : Sd) : Sd := ⟨a.sets ++ b.sets, a.first ++ b.first.map (fun v => tadd v a.none), a.ends.map (fun v => tadd v b.none) ++ b.ends, joins (a.arcs ++ b.arcs.map (shA (a.sets.length : Int))) (opsC (spA 0 a.ends) (spA (a.sets.length : Int) b.first) 0), tadd a.none b.none⟩
def altS (a b : Sd) : Sd := ⟨a.sets ++ b.sets, a.first ++ b.first, a.ends ++ b.ends, a.arcs ++ b.arcs.map (shA (a.sets.length : Int)), mn a.none b.none⟩
def starS (a : Sd) : Sd := ⟨a.sets, a.first, a.ends, joins a.arcs (opsC (spA 0 a.ends) (spA 0 a.first) 0), 0⟩
def wgtS (a : Sd) (w : Int) : Sd := ⟨a.sets, a.first.map (fun v => tadd v w), a.ends, a.arcs, tadd a.none w⟩
def zeroN (b : Bool) (s : Sd) : Sd := if b then { s with none := 0 } else s
/-- Copies k, k + 1, .., so many. -/
def tmS (a : Sd) (lo : Int) : Nat → Nat → Sd
  | 0, _ => noneS
  | m + 1, k => zeroN (decide ((k : Int) > lo)) (catS a (tmS a lo m (k + 1)))
theorem upNil : ArcsUp ([] : List S51) := ⟨List.Pairwise.nil, fun a h => by cases h⟩
theorem okNone : SdOk noneS := ⟨rfl, rfl, fun _ h => absurd h List.not_mem_nil, fun _ h => absurd h List.not_mem_nil, tv0, upNil, fun _ h => absurd h List.not_mem_nil⟩
theorem okPos (k : Int) : SdOk (posS k) := ⟨rfl, rfl, fun v h => by rw [List.mem_singleton.1 h]; exact tv0, fun v h => by rw [List.mem_singleton.1 h]; exact tv0, tvI, upNil, fun _ h => absurd h List.not_mem_nil⟩
theorem up_both {a b : Sd} (ha : SdOk a) (hb : SdOk b) : ArcsUp (a.arcs ++ b.arcs.map (shA (a.sets.length : Int))) := by
  refine up_append ha.up (up_sh _ hb.up) (fun x hx y hy => ?_)
  obtain ⟨y', hy', rfl⟩ := List.mem_map.1 hy
  have := ha.rng x hx
  have := hb.rng y' hy'
  show x.f0 < y'.f0 + _
  omega
theorem rng_both {a b : Sd} (ha : SdOk a) (hb : SdOk b) : ∀ x ∈ a.arcs ++ b.arcs.map (shA (a.sets.length : Int)), 0 ≤ x.f0 ∧ x.f0 < ((a.sets ++ b.sets).length : Int) ∧ 0 ≤ x.f1 ∧ x.f1 < ((a.sets ++ b.sets).length : Int) := by
  intro x hx
  rw [List.length_append]
  rcases List.mem_append.1 hx with hx | hx
  · have := ha.rng x hx; omega
  · obtain ⟨y, hy, rfl⟩ := List.mem_map.1 hx
    have := hb.rng y hy
    show 0 ≤ y.f0 + _ ∧ y.f0 + _ < _ ∧ 0 ≤ y.f1 + _ ∧ y.f1 + _ < _
    omega
theorem okCat {a b : Sd} (ha : SdOk a) (hb : SdOk b) : SdOk (catS a b) where
  lf := by simp [catS, ha.lf, hb.lf]
  le := by simp [catS, ha.le, hb.le]
  vf v h := by
    rcases List.mem_append.1 h with h | h
    · exact ha.vf v h
    · obtain ⟨u, hu, rfl⟩ := List.mem_map.1 h; exact tv_tadd (hb.vf u hu) ha.vn
  ve v h := by
    rcases List.mem_append.1 h with h | h
    · obtain ⟨u, hu, rfl⟩ := List.mem_map.1 h; exact tv_tadd (ha.ve u hu) hb.vn
    · exact hb.ve v h
  vn := tv_tadd ha.vn hb.vn
  up := joins_up (up_both ha hb) _
  rng x hx := by
    rcases joins_mem hx with ⟨o, ho, e1, e2⟩ | hx
    · obtain ⟨s, hs, t, ht, rfl⟩ := opsC_mem ho
      have h1 := spA_at s hs
      have h2 := spA_at t ht
      simp only at e1 e2
      have := ha.le
      have := hb.lf
      rw [e1, e2]
      simp only [catS, List.length_append]
      omega
    · exact rng_both ha hb x hx
theorem okAlt {a b : Sd} (ha : SdOk a) (hb : SdOk b) : SdOk (altS a b) where
  lf := by simp [altS, ha.lf, hb.lf]
  le := by simp [altS, ha.le, hb.le]
  vf v h := (List.mem_append.1 h).elim (ha.vf v) (hb.vf v)
  ve v h := (List.mem_append.1 h).elim (ha.ve v) (hb.ve v)
  vn := by have := ha.vn; have := hb.vn; show tv (mn a.none b.none); unfold mn; split <;> assumption
  up := up_both ha hb
  rng := rng_both ha hb
theorem okStar {a : Sd} (ha : SdOk a) : SdOk (starS a) where
  lf := ha.lf
  le := ha.le
  vf := ha.vf
  ve := ha.ve
  vn := tv0
  up := joins_up ha.up _
  rng x hx := by
    rcases joins_mem hx with ⟨o, ho, e1, e2⟩ | hx
    · obtain ⟨s, hs, t, ht, rfl⟩ := opsC_mem ho
      have h1 := spA_at s hs
      have h2 := spA_at t ht
      simp only at e1 e2
      have := ha.le
      have := ha.lf
      rw [e1, e2]
      simp only [starS]
      omega
    · exact ha.rng x hx
theorem okWgt {a : Sd} (ha : SdOk a) {w : Int} (hw : tv w) : SdOk (wgtS a w) where
  lf := by simp [wgtS, ha.lf]
  le := ha.le
  vf v h := by obtain ⟨u, hu, rfl⟩ := List.mem_map.1 h; exact tv_tadd (ha.vf u hu) hw
  ve := ha.ve
  vn := tv_tadd ha.vn hw
  up := ha.up
  rng := ha.rng
theorem okZero {a : Sd} (ha : SdOk a) (b : Bool) : SdOk (zeroN b a) := by
  unfold zeroN
  split
  · exact ⟨ha.lf, ha.le, ha.vf, ha.ve, tv0, ha.up, ha.rng⟩
  · exact ha
theorem okTm {a : Sd} (ha : SdOk a) (lo : Int) : ∀ m k, SdOk (tmS a lo m k)
  | 0, _ => okNone
  | m + 1, k => okZero (okCat ha (okTm ha lo m (k + 1))) _
theorem zeroN_sets (b : Bool) (s : Sd) : (zeroN b s).sets = s.sets := by unfold zeroN; split <;> rfl
theorem tm_len (a : Sd) (lo : Int) : ∀ m k, (tmS a lo m k).sets.length = m * a.sets.length
  | 0, _ => by simp [tmS, noneS]
  | m + 1, k => by rw [tmS, zeroN_sets, catS, List.length_append, tm_len a lo m (k + 1), Nat.add_mul, Nat.one_mul, Nat.add_comm]
inductive RS (defs : List S61) : S33 → Sd → Prop
  | none (lo hi w : Int) (nm : ByteArray) : RS defs ⟨1, lo, hi, w, nm, []⟩ noneS
  | set (lo hi w : Int) (nm : ByteArray) : RS defs ⟨2, lo, hi, w, nm, []⟩ (posS (idxD defs nm))
  | any (lo hi w : Int) (nm : ByteArray) : RS defs ⟨3, lo, hi, w, nm, []⟩ (posS (-1))
  | cat (lo hi w : Int) (nm : ByteArray) (a b : S33) (A B : Sd) : RS defs a A → RS defs b B → RS defs ⟨4, lo, hi, w, nm, [a, b]⟩ (catS A B)
  | alt (lo hi w : Int) (nm : ByteArray) (a b : S33) (A B : Sd) : RS defs a A → RS defs b B → RS defs ⟨5, lo, hi, w, nm, [a, b]⟩ (altS A B)
  | star (lo hi w : Int) (nm : ByteArray) (a : S33) (A : Sd) : RS defs a A → RS defs ⟨6, lo, hi, w, nm, [a]⟩ (starS A)
  | times (lo hi w : Int) (nm : ByteArray) (a : S33) (A : Sd) : 0 ≤ lo → lo ≤ hi → hi ≤ 12 → RS defs a A → RS defs ⟨7, lo, hi, w, nm, [a]⟩ (tmS A lo hi.toNat 1)
  | wgt (lo hi w : Int) (nm : ByteArray) (a : S33) (A : Sd) : 0 ≤ w → w ≤ 1000 → RS defs a A → RS defs ⟨8, lo, hi, w, nm, [a]⟩ (wgtS A w)
theorem tvW {w : Int} (h : 0 ≤ w) (k : w ≤ 1000) : tv w := ⟨h, by unfold tinf; omega⟩
theorem RS.ok {defs : List S61} {x : S33} {S : Sd} (h : RS defs x S) : SdOk S := by
  induction h with
  | none => exact okNone
  | set => exact okPos _
  | any => exact okPos _
  | cat _ _ _ _ _ _ _ _ _ _ h1 h2 => exact okCat h1 h2
  | alt _ _ _ _ _ _ _ _ _ _ h1 h2 => exact okAlt h1 h2
  | star _ _ _ _ _ _ _ h1 => exact okStar h1
  | times _ _ _ _ _ _ _ _ _ _ h1 => exact okTm h1 _ _ _
  | wgt _ _ _ _ _ _ h3 h4 _ h1 => exact okWgt h1 (tvW h3 h4)
def sizeI (S : Sd) : Int := mn (S.sets.length : Int) 1000000000
end Go.Proofs.Ytnnpfgpfkningaa.P
namespace Go.Proofs.Ytnnpfgpfkningaa.P
open Go.RowKit Go.Proofs.YtnnpfgpfkningaaW.PrintWords Go.Proofs.YtnnpfgpfkningaaW.PrintLast Go.Proofs.YtnnpfgpfkningaaW.PrintMore
attribute [local go_sem] max2_int min2_int max_two min_two max_three min_three max_four min_four   -- for this text's walks alone
attribute [local go_sem ↓ high] Go.Proofs.YtnnpfgpfkningaaX.isSome_setCell
set_option linter.unusedVariables false
set_option linter.unusedSimpArgs false
theorem szF_mono {x : S33} {r : Int} : ∀ (d k : Nat), szF k x = some r → szF (k + d) x = some r
  | 0, _, h => h
  | d + 1, k, h => side_Size.mono x.f0 x.f1 x.f2 x.f3 x.f4 x.f5 (k + d) r (szF_mono d k h)
theorem szF_le {x : S33} {r : Int} {k k2 : Nat} (h : szF k x = some r) (hk : k ≤ k2) : szF k2 x = some r := by
  have := szF_mono (k2 - k) k h
  rwa [show k + (k2 - k) = k2 from by omega] at this
theorem sz_times {n : Nat} {lo hi w : Int} {nm : ByteArray} {y : S33} {s : Int} (h : szF (n + 1) y = some s) (h0 : 0 ≤ s ∧ s ≤ 1000000000) (hh : 0 ≤ hi ∧ hi ≤ 12) : szF (n + 4) ⟨7, lo, hi, w, nm, [y]⟩ = some (mn (s * hi) 1000000000) := by
  show side_Size.f (n + 3 + 1) 7 lo hi w nm [y] = _
  have h' : side_Size.f (n + 1) y.f0 y.f1 y.f2 y.f3 y.f4 y.f5 = some s := h
  have e0 : rd_T33 [y] 0 = y := rfl
  have m1 : mn (wrap64 (0 + s)) 1000000000 = s := by unfold mn wrap64; split <;> omega
  have m2 : mn (mx hi 0) 1000000000 = hi := by unfold mn mx; split <;> split <;> omega
  have hb : 0 ≤ s * hi ∧ s * hi ≤ 12000000000 := by
    refine ⟨Int.mul_nonneg h0.1 hh.1, ?_⟩
    have := Int.mul_le_mul h0.2 hh.2 hh.1 (by omega)
    omega
  have m3 : wrap64 (s * hi) = s * hi := by unfold wrap64; omega
  rw [side_Size.f, if_neg (by decide), show ((7 : Int) == 3) = false from rfl, side_Size.j0, if_neg (by decide), side_Size.l0, if_pos (by simp), if_pos (by decide), if_pos (by simp), e0, h', Option.bind_some, side_Size.l0, if_neg (by simp [wrap64]), if_pos rfl, m1, m2, m3]
end Go.Proofs.Ytnnpfgpfkningaa.P
namespace Go.Proofs.Ytnnpfgpfkningaa.P
open Go.RowKit Go.Proofs.YtnnpfgpfkningaaW.PrintWords Go.Proofs.YtnnpfgpfkningaaW.PrintLast Go.Proofs.YtnnpfgpfkningaaW.PrintMore
attribute [local go_sem] max2_int min2_int max_two min_two max_three min_three max_four min_four   -- for this text's walks alone
attribute [local go_sem ↓ high] Go.Proofs.YtnnpfgpfkningaaX.isSome_setCell
set_option linter.unusedVariables false
set_option linter.unusedSimpArgs false
theorem sz_one {n : Nat} {k lo hi w : Int} {nm : ByteArray} {y : S33} {s : Int} (h : szF (n + 1) y = some s) (h0 : 0 ≤ s ∧ s ≤ 1000000000) (hk : k = 6 ∨ k = 8) : szF (n + 4) ⟨k, lo, hi, w, nm, [y]⟩ = some s := by
  show side_Size.f (n + 3 + 1) k lo hi w nm [y] = _
  have h' : side_Size.f (n + 1) y.f0 y.f1 y.f2 y.f3 y.f4 y.f5 = some s := h
  have e0 : rd_T33 [y] 0 = y := rfl
  have m1 : mn (wrap64 (0 + s)) 1000000000 = s := by unfold mn wrap64; split <;> omega
  rw [side_Size.f, if_neg (by omega), show (k == 3) = false from by rcases hk with rfl | rfl <;> rfl, side_Size.j0, if_neg (by decide), side_Size.l0, if_pos (by simp), if_pos (by decide), if_pos (by simp), e0, h', Option.bind_some, side_Size.l0, if_neg (by simp [wrap64]), if_neg (by omega), m1]
theorem sz_nil (n : Nat) (lo hi w : Int) (nm : ByteArray) : szF (n + 3) ⟨1, lo, hi, w, nm, []⟩ = some 0 := by
  show side_Size.f (n + 2 + 1) 1 lo hi w nm [] = _
  rw [side_Size.f, if_neg (by decide), show ((1 : Int) == 3) = false from rfl, side_Size.j0, if_neg (by decide), side_Size.l0, if_neg (by simp), if_neg (by decide)]
theorem sz_pos (n : Nat) (k lo hi w : Int) (nm : ByteArray) (l : List S33) (hk : k = 2 ∨ k = 3) : szF (n + 2) ⟨k, lo, hi, w, nm, l⟩ = some 1 := by
  show side_Size.f (n + 1 + 1) k lo hi w nm l = _
  rcases hk with rfl | rfl
  · rw [side_Size.f, if_pos rfl, side_Size.j0, if_pos rfl]
  · rw [side_Size.f, if_neg (by decide), show ((3 : Int) == 3) = true from rfl, side_Size.j0, if_pos rfl]
theorem sz_two {n : Nat} {k lo hi w : Int} {nm : ByteArray} {x y : S33} {s t : Int} (h : szF (n + 2) x = some s) (h2 : szF (n + 1) y = some t) (h0 : 0 ≤ s ∧ s ≤ 1000000000) (h1 : 0 ≤ t ∧ t ≤ 1000000000) (hk : k = 4 ∨ k = 5) : szF (n + 5) ⟨k, lo, hi, w, nm, [x, y]⟩ = some (mn (s + t) 1000000000) := by
  show side_Size.f (n + 4 + 1) k lo hi w nm [x, y] = _
  have h' : side_Size.f (n + 2) x.f0 x.f1 x.f2 x.f3 x.f4 x.f5 = some s := h
  have h2' : side_Size.f (n + 1) y.f0 y.f1 y.f2 y.f3 y.f4 y.f5 = some t := h2
  have e0 : rd_T33 [x, y] 0 = x := rfl
  have ew : wrap64 (0 + 1) = 1 := by unfold wrap64; omega
  have e1 : rd_T33 [x, y] 1 = y := rfl
  have m1 : mn (wrap64 (0 + s)) 1000000000 = s := by unfold mn wrap64; split <;> omega
  have m2 : wrap64 (s + t) = s + t := by unfold wrap64; omega
  rw [side_Size.f, if_neg (by omega), show (k == 3) = false from by rcases hk with rfl | rfl <;> rfl, side_Size.j0, if_neg (by decide), side_Size.l0, if_pos (by simp), if_pos (by decide), if_pos (by simp), e0, h', Option.bind_some, m1, ew, side_Size.l0, if_pos (by simp), if_pos (by decide), if_pos (by simp), e1, h2', Option.bind_some, m2, side_Size.l0, if_neg (by simp [wrap64]), if_neg (by omega)]
theorem sizeI_range (S : Sd) : 0 ≤ sizeI S ∧ sizeI S ≤ 1000000000 := by unfold sizeI mn; split <;> omega
theorem szF_up {x : S33} {r : Int} {Z : Nat} (h : szF Z x = some r) : ∃ Z, ∀ z, Z ≤ z → szF z x = some r := ⟨Z, fun _ hz => szF_le h hz⟩
theorem size_is {defs : List S61} : ∀ x S, RS defs x S → ∃ Z, ∀ z, Z ≤ z → szF z x = some (sizeI S) := by
  intro x S h
  induction h with
  | none lo hi w nm => exact szF_up (sz_nil 0 lo hi w nm)
  | set lo hi w nm => exact szF_up (sz_pos 0 2 lo hi w nm [] (.inl rfl))
  | any lo hi w nm => exact szF_up (sz_pos 0 3 lo hi w nm [] (.inr rfl))
  | cat lo hi w nm a b A B _ _ iha ihb =>
    obtain ⟨Z1, h1⟩ := iha
    obtain ⟨Z2, h2⟩ := ihb
    have e : sizeI (catS A B) = mn (sizeI A + sizeI B) 1000000000 := by
      have : (catS A B).sets.length = A.sets.length + B.sets.length := by simp [catS]
      unfold sizeI mn; rw [this]; split <;> split <;> split <;> split <;> omega
    rw [e]
    exact szF_up (sz_two (n := Z1 + Z2) (h1 _ (by omega)) (h2 _ (by omega)) (sizeI_range A) (sizeI_range B) (.inl rfl))
  | alt lo hi w nm a b A B _ _ iha ihb =>
    obtain ⟨Z1, h1⟩ := iha
    obtain ⟨Z2, h2⟩ := ihb
    have e : sizeI (altS A B) = mn (sizeI A + sizeI B) 1000000000 := by
      have : (altS A B).sets.length = A.sets.length + B.sets.length := by simp [altS]
      unfold sizeI mn; rw [this]; split <;> split <;> split <;> split <;> omega
    rw [e]
    exact szF_up (sz_two (n := Z1 + Z2) (h1 _ (by omega)) (h2 _ (by omega)) (sizeI_range A) (sizeI_range B) (.inr rfl))
  | star lo hi w nm a A _ iha =>
    obtain ⟨Z1, h1⟩ := iha
    exact szF_up (sz_one (n := Z1) (h1 _ (by omega)) (sizeI_range A) (.inl rfl))
  | times lo hi w nm a A h3 h4 h5 _ iha =>
    obtain ⟨Z1, h1⟩ := iha
    have e : sizeI (tmS A lo hi.toNat 1) = mn (sizeI A * hi) 1000000000 := by
      unfold sizeI
      rw [tm_len]
      have hq : ((hi.toNat * A.sets.length : Nat) : Int) = (A.sets.length : Int) * hi := by
        rw [Int.natCast_mul, Int.toNat_of_nonneg (by omega), Int.mul_comm]
      rw [hq]
      by_cases hl : (A.sets.length : Int) ≤ 1000000000
      · rw [show mn (A.sets.length : Int) 1000000000 = A.sets.length from by unfold mn; split <;> omega]
      · rw [show mn (A.sets.length : Int) 1000000000 = 1000000000 from by unfold mn; split <;> omega]
        by_cases hz : hi = 0
        · subst hz; simp
        · have h6 : (A.sets.length : Int) * 1 ≤ (A.sets.length : Int) * hi := Int.mul_le_mul_of_nonneg_left (by omega) (by omega)
          unfold mn; split <;> split <;> omega
    rw [e]
    exact szF_up (sz_times (n := Z1) (h1 _ (by omega)) (sizeI_range A) (by omega))
  | wgt lo hi w nm a A h3 h4 _ iha =>
    obtain ⟨Z1, h1⟩ := iha
    exact szF_up (sz_one (n := Z1) (h1 _ (by omega)) (sizeI_range A) (.inr rfl))
end Go.Proofs.Ytnnpfgpfkningaa.P
namespace Go.Proofs.Ytnnpfgpfkningaa.P
open Go.RowKit Go.Proofs.YtnnpfgpfkningaaW.PrintWords Go.Proofs.YtnnpfgpfkningaaW.PrintLast Go.Proofs.YtnnpfgpfkningaaW.PrintMore
attribute [local go_sem] max2_int min2_int max_two min_two max_three min_three max_four min_four   -- for this text's walks alone
attribute [local go_sem ↓ high] Go.Proofs.YtnnpfgpfkningaaX.isSome_setCell
set_option linter.unusedVariables false
set_option linter.unusedSimpArgs false
end Go.Proofs.Ytnnpfgpfkningaa.P
namespace Go.Proofs.Ytnnpfgpfkningaa.P
open Go.RowKit Go.Proofs.YtnnpfgpfkningaaW.PrintWords Go.Proofs.YtnnpfgpfkningaaW.PrintLast Go.Proofs.YtnnpfgpfkningaaW.PrintMore
attribute [local go_sem] max2_int min2_int max_two min_two max_three min_three max_four min_four   -- for this text's walks alone
attribute [local go_sem ↓ high] Go.Proofs.YtnnpfgpfkningaaX.isSome_setCell
set_option linter.unusedVariables false
set_option linter.unusedSimpArgs false
end Go.Proofs.Ytnnpfgpfkningaa.P
