-- Written by wip/xprint.py (a program of this repo) out of the translation; Lean checks it.
import Derived.Test.YteogcjckhoakbaaPx0
import Derived.Test.YteogcjckhoakbaaPx3
import Derived.Test.YteogcjckhoakbaaPx5
namespace Go.Proofs.Yteogcjckhoakbaa.P
open Go.RowKit Go.Proofs.YteogcjckhoakbaaW.PrintWords Go.Proofs.YteogcjckhoakbaaW.PrintLast Go.Proofs.YteogcjckhoakbaaW.PrintMore
attribute [local go_sem] max2_int min2_int max_two min_two max_three min_three max_four min_four   -- for this text's walks alone
attribute [local go_sem ↓ high] Go.Proofs.YteogcjckhoakbaaX.isSome_setCell
set_option linter.unusedVariables false
set_option linter.unusedSimpArgs false

/-! ### hyphenlaw3_Raw: function 35 -/
mutual
def hyphenlaw3_Raw.l0 : Nat → List Int → List (S44) → Int → Option ((List (S44)))
 | 0, _, _, _ => none
 | k + 1, x0, x3, x4 => if x4 < (x0.length : Int) then (hyphenlaw3_Raw.j1 k x0 x3 x4 (decide (x4 < 12))) else (hyphenlaw3_Raw.j1 k x0 x3 x4 false)
def hyphenlaw3_Raw.j1 : Nat → List Int → List (S44) → Int → Bool → Option ((List (S44)))
 | 0, _, _, _, _ => none
 | k + 1, x0, x3, x4, x14 => if x14 = true then (if 0 ≤ x4 then (if x4 < (x0.length : Int) then ((hyphenlaw3_within.f (rd x0 x4) 1099511627776).bind fun t253 => (if (Int.tmod (wrap64 (Int.tdiv t253 60)) 7) = 0 then (if x3.length < 8796093022208 then (hyphenlaw3_Raw.l0 k x0 (x3 ++ [(⟨Int.tmod (wrap64 (Int.tdiv t253 420)) 1114112, wrap64 ((wrap64 ((Int.tmod (wrap64 (Int.tdiv t253 420)) 1114112) + (Int.tmod (wrap64 (Int.tdiv t253 7)) 9))) - 2)⟩ : S44)]) (wrap64 (x4 + 1))) else (none)) else (if x3.length < 8796093022208 then (hyphenlaw3_Raw.l0 k x0 (x3 ++ [(⟨Int.tmod t253 60, wrap64 ((wrap64 ((Int.tmod t253 60) + (Int.tmod (wrap64 (Int.tdiv t253 7)) 9))) - 2)⟩ : S44)]) (wrap64 (x4 + 1))) else (none)))) else (none)) else (none)) else (some x3)
end
def hyphenlaw3_Raw.f (k : Nat) (l0 : List Int) : Option ((List (S44))) := hyphenlaw3_Raw.l0 k l0 ([] : List (S44)) 0
theorem hyphenlaw3_Raw.mono_l : ∀ k, (∀ y0 y1 y2, LeO (hyphenlaw3_Raw.l0 k y0 y1 y2) (hyphenlaw3_Raw.l0 (k + 1) y0 y1 y2)) ∧ (∀ y0 y1 y2 y3, LeO (hyphenlaw3_Raw.j1 k y0 y1 y2 y3) (hyphenlaw3_Raw.j1 (k + 1) y0 y1 y2 y3))
 | 0 => ⟨fun _ _ _ r h => by simp [hyphenlaw3_Raw.l0] at h, fun _ _ _ _ r h => by simp [hyphenlaw3_Raw.j1] at h⟩
 | k + 1 => by
  obtain ⟨ih0, ih1⟩ := hyphenlaw3_Raw.mono_l k
  refine ⟨?_, ?_⟩
  ·intro y0 y1 y2
   unfold hyphenlaw3_Raw.l0
   repeat' first
   | (with_reducible exact ih0 _ _ _)
   | (with_reducible exact ih1 _ _ _ _)
   | (with_reducible exact LeO.refl _)
   | (with_reducible exact LeO.none _)
   | (with_reducible refine LeO.ite ?_ ?_)
   | (with_reducible refine LeO.bind ?_ (fun _ => ?_))
   | exact ih0 _ _ _
   | exact ih1 _ _ _ _
   | exact LeO.none _
   | refine LeO.ite ?_ ?_
   | refine LeO.bind ?_ (fun _ => ?_)
  ·intro y0 y1 y2 y3
   unfold hyphenlaw3_Raw.j1
   repeat' first
   | (with_reducible exact ih0 _ _ _)
   | (with_reducible exact ih1 _ _ _ _)
   | (with_reducible exact LeO.refl _)
   | (with_reducible exact LeO.none _)
   | (with_reducible refine LeO.ite ?_ ?_)
   | (with_reducible refine LeO.bind ?_ (fun _ => ?_))
   | exact ih0 _ _ _
   | exact ih1 _ _ _ _
   | exact LeO.none _
   | refine LeO.ite ?_ ?_
   | refine LeO.bind ?_ (fun _ => ?_)
theorem hyphenlaw3_Raw.mono : ∀ a0 k, LeO (hyphenlaw3_Raw.f k a0) (hyphenlaw3_Raw.f (k + 1) a0) := by
 intro a0 k
 obtain ⟨ih0, ih1⟩ := hyphenlaw3_Raw.mono_l k
 unfold hyphenlaw3_Raw.f
 repeat' first
   | (with_reducible exact ih0 _ _ _)
   | (with_reducible exact ih1 _ _ _ _)
   | (with_reducible exact LeO.refl _)
   | (with_reducible exact LeO.none _)
   | (with_reducible refine LeO.ite ?_ ?_)
   | (with_reducible refine LeO.bind ?_ (fun _ => ?_))
   | exact ih0 _ _ _
   | exact ih1 _ _ _ _
   | exact LeO.none _
   | refine LeO.ite ?_ ?_
   | refine LeO.bind ?_ (fun _ => ?_)
set_option maxHeartbeats 8000000 in
set_option maxRecDepth 100000 in
theorem hyphenlaw3_Raw.calls (k : Nat) (A0 : Option Addr) (c0 : Nat) (l0 : List Int) (r : List (S44)) (w : World) (hr0 : Kd.C (Kd.int .i64) w A0 l0.length l0) (hc0 : l0.length ≤ c0) (h : hyphenlaw3_Raw.f k l0 = some r) :
  Calls Try.prog 35 #[.slice A0 l0.length c0] w fun e w' => ∃ v0_ : Value, e = .returned (v0_) ∧ Kd.R k44 44 w' w.heap.size (fun _ => True) v0_ r ∧ Below w.heap.size w w' := by
 have hu44 := Try.underlying44
 have HR0 := Aside0.mk hr0
 have HC0 := Aside0.mk hc0
 clear hr0 hc0
 have HB := Aside0.mk (Below.refl w.heap.size w)
 have H : (hyphenlaw3_Raw.l0 k l0 ([] : List (S44)) 0) = some r := h
 clear h
 have H' := Aside0.mk H
 clear H
 go_enter Try.func35, Try.ntmps35
 go_wp2
 go_loopg [3, 4] k (fun kq v3 v4 w' => ∃ (x3_1 : List (S44)) (x4_1 : Int), v4 = .int .i64 x4_1 ∧ Aside0 (hyphenlaw3_Raw.l0 kq l0 x3_1 x4_1 = some r) ∧ Aside0 (kq ≤ k) ∧ Aside0 (Kd.R k44 44 w' w.heap.size (fun _ => True) v3 x3_1) ∧ Aside0 (Below w.heap.size w w'))
 case atStart => exact ⟨(([] : List (S44))), (0), (by first | rfl | (simp; done) | (simp [*]; done)), H', ⟨Nat.le_refl _⟩, ⟨by first | exact Kd.R_nil _ _ _ _ _ | exact Kd.N_nil _ _ _ _ _ | exact Kd.V_nil _ _ _ _ _ | exact Kd.Q_nil _ _ _ _ _ | exact Kd.S_nil _ _ _ _ _⟩, ⟨by repeat (first | (with_reducible first | exact HB.out | apply below_alloc | apply pw_below_drewN | apply below_drew1) | exact HB.out)⟩⟩
 case round =>
  clear H'
  obtain ⟨x3_1, x4_1, rfl, HA, HK1, HO_3, HB⟩ := hrel
  cases gk with
  | zero => exact absurd HA.out (by simp [hyphenlaw3_Raw.l0])
  | succ k1 =>
   have H := HA.out
   clear HA
   simp only [hyphenlaw3_Raw.l0] at H
   have HC2 := Aside0.mk H
   clear H
   go_upto_region 3 with (fail)
   go_cut [14] (fun v14 wc => ∃ (kq : Nat) (x14_1 : Bool), v14 = .bool x14_1 ∧ Aside0 (hyphenlaw3_Raw.j1 kq l0 x3_1 x4_1 x14_1 = some r) ∧ Aside0 (kq ≤ k1) ∧ Aside0 (Kd.R k44 44 wc w.heap.size (fun _ => True) u3 x3_1) ∧ Aside0 (Below w.heap.size w wc))
   case first =>
    have H := HC2.out
    clear HC2
    by_cases c3 : x4_1 < (l0.length : Int)
    ·rw [if_pos c3] at H
     have c3b0 : decide (x4_1 < (l0.length : Int)) = true := decide_eq_true c3
     clear c3
     (first | rw [c3b0] | (simp only [i64_w, i32_w]; rw [c3b0]) | skip)
     have H' := Aside0.mk H
     clear H
     go_wp2
     go_meet
     case rel => exact ⟨_, (decide (x4_1 < 12)), (by first | rfl | (simp; done) | (simp [*]; done)), H', ⟨by have := HK1.out; first | omega | exact Nat.le_refl _⟩, ⟨by (with_reducible repeat (first | apply Kd.R_alloc | apply Kd.R_drewN | apply Kd.R_drew)); exact HO_3.out⟩, ⟨by repeat (first | (with_reducible first | exact HB.out | apply below_alloc | apply pw_below_drewN | apply below_drew1) | exact HB.out)⟩⟩
    ·rw [if_neg c3] at H
     have c3b0 : decide (x4_1 < (l0.length : Int)) = false := decide_eq_false c3
     clear c3
     (first | rw [c3b0] | (simp only [i64_w, i32_w]; rw [c3b0]) | skip)
     have H' := Aside0.mk H
     clear H
     go_wp2
     go_meet
     case rel => exact ⟨_, (false), (by first | rfl | (simp; done) | (simp [*]; done)), H', ⟨by have := HK1.out; first | omega | exact Nat.le_refl _⟩, ⟨by (with_reducible repeat (first | apply Kd.R_alloc | apply Kd.R_drewN | apply Kd.R_drew)); exact HO_3.out⟩, ⟨by repeat (first | (with_reducible first | exact HB.out | apply below_alloc | apply pw_below_drewN | apply below_drew1) | exact HB.out)⟩⟩
   case rest =>
    clear HC2
    try clear p2
    try clear c3
    try clear c3b0
    obtain ⟨kq, x14_1, rfl, HA, HJ1, HO_3, HB⟩ := hcut
    cases kq with
    | zero => exact absurd HA.out (by simp [hyphenlaw3_Raw.j1])
    | succ kj1 =>
     have H := HA.out
     clear HA
     simp only [hyphenlaw3_Raw.j1] at H
     by_cases c4 : x14_1 = true
     ·subst c4
      have H1 : (if 0 ≤ x4_1 then (if x4_1 < (l0.length : Int) then ((hyphenlaw3_within.f (rd l0 x4_1) 1099511627776).bind fun t253 => (if (Int.tmod (wrap64 (Int.tdiv t253 60)) 7) = 0 then (if x3_1.length < 8796093022208 then (hyphenlaw3_Raw.l0 kj1 l0 (x3_1 ++ [(⟨Int.tmod (wrap64 (Int.tdiv t253 420)) 1114112, wrap64 ((wrap64 ((Int.tmod (wrap64 (Int.tdiv t253 420)) 1114112) + (Int.tmod (wrap64 (Int.tdiv t253 7)) 9))) - 2)⟩ : S44)]) (wrap64 (x4_1 + 1))) else (none)) else (if x3_1.length < 8796093022208 then (hyphenlaw3_Raw.l0 kj1 l0 (x3_1 ++ [(⟨Int.tmod t253 60, wrap64 ((wrap64 ((Int.tmod t253 60) + (Int.tmod (wrap64 (Int.tdiv t253 7)) 9))) - 2)⟩ : S44)]) (wrap64 (x4_1 + 1))) else (none)))) else (none)) else (none)) = some r := by rw [if_pos rfl] at H; exact H
      clear H
      have H := H1
      clear H1
      by_cases c5 : 0 ≤ x4_1
      ·rw [if_pos c5] at H
       have c5b0 : decide (0 ≤ x4_1) = true := decide_eq_true c5
       clear c5
       by_cases c6 : x4_1 < (l0.length : Int)
       ·rw [if_pos c6] at H
        have c6b0 : decide (x4_1 < (l0.length : Int)) = true := decide_eq_true c6
        clear c6
        replace H := Option.bind_eq_some_iff.mp H
        obtain ⟨t253, A70, H⟩ := H
        replace H : (if (Int.tmod (wrap64 (Int.tdiv t253 60)) 7) = 0 then (if x3_1.length < 8796093022208 then (hyphenlaw3_Raw.l0 kj1 l0 (x3_1 ++ [(⟨Int.tmod (wrap64 (Int.tdiv t253 420)) 1114112, wrap64 ((wrap64 ((Int.tmod (wrap64 (Int.tdiv t253 420)) 1114112) + (Int.tmod (wrap64 (Int.tdiv t253 7)) 9))) - 2)⟩ : S44)]) (wrap64 (x4_1 + 1))) else (none)) else (if x3_1.length < 8796093022208 then (hyphenlaw3_Raw.l0 kj1 l0 (x3_1 ++ [(⟨Int.tmod t253 60, wrap64 ((wrap64 ((Int.tmod t253 60) + (Int.tmod (wrap64 (Int.tdiv t253 7)) 9))) - 2)⟩ : S44)]) (wrap64 (x4_1 + 1))) else (none))) = some r := H
        have A7 := Aside0.mk A70
        clear A70
        by_cases c8 : (Int.tmod (wrap64 (Int.tdiv t253 60)) 7) = 0
        ·rw [if_pos c8] at H
         have c8b0 : ((Int.tmod (wrap64 (Int.tdiv t253 60)) 7) == 0) = true := beq_iff_eq.mpr c8
         have c8b1 : ((Int.tmod (wrap64 (Int.tdiv t253 60)) 7) != 0) = false := bne_eq_false_iff_eq.mpr c8
         clear c8
         by_cases c9 : x3_1.length < 8796093022208
         ·rw [if_pos c9] at H
          have LMc9 := Aside0.mk c9
          clear c9
          obtain ⟨y254, hy254⟩ : ∃ y_ : List (S44), y_ = (x3_1 ++ [(⟨Int.tmod (wrap64 (Int.tdiv t253 420)) 1114112, wrap64 ((wrap64 ((Int.tmod (wrap64 (Int.tdiv t253 420)) 1114112) + (Int.tmod (wrap64 (Int.tdiv t253 7)) 9))) - 2)⟩ : S44)]) := ⟨_, rfl⟩
          replace H : (hyphenlaw3_Raw.l0 kj1 l0 y254 (wrap64 (x4_1 + 1))) = some r := by first | (rw [hy254]; with_reducible exact H) | (have H2_ := (Option.bind_some _ _).symm.trans H; rw [hy254]; with_reducible exact H2_) | (have H2_ := (Option.bind_some _ _).symm.trans H; with_reducible exact H2_) | with_reducible exact H | (rw [hy254]; exact H) | exact H
          have Ny254 := Aside0.mk hy254
          clear hy254
          have H' := Aside0.mk H
          clear H
          have p252 : 0 ≤ (x4_1 : Int) := of_decide_eq_true (by first | (with_reducible assumption) | assumption)
          have q252 : x4_1 < (l0.length : Int) := of_decide_eq_true (by first | (with_reducible assumption) | assumption)
          obtain ⟨ad252, e252, hx252_0⟩ := Kd.at_int HR0.out x4_1 p252 q252
          cases e252
          replace hx252_0 := (HB.out.cell (World.block_lt_of_cell? w _ hx252_0)).trans hx252_0
          replace p252 := eq_true p252
          replace q252 := eq_true q252
          go_wp2_with (first | ((with_reducible refine gate_callee (f := 41) rfl ?_); refine goesL_ (some 21) rfl rfl Try.func41 (by kernel_rfl) rfl #[.int .i64 (rd l0 x4_1), .int .i64 1099511627776] rfl (by (try simp only [List.map_toArray, List.map_cons, List.map_nil]); first | done | rfl | (simp only [List.length_drop, List.length_take]; rfl)) ?_; (with_reducible refine (hyphenlaw3_within.calls (rd l0 x4_1) 1099511627776 t253 _ A7.out).mono ?_); rintro e w' ⟨rfl, ⟨nd, rfl⟩⟩; refine ⟨_, rfl, ?_⟩) | ((with_reducible refine gate_builtin (b := .append) (xs := #[.tmp 31, .tmp 40]) rfl ?_); at_builtin; refine Kd.R_append k44 (w0 := w) w.heap.size rfl (.tmp 31) (.tmp 40) 37 44 (.agg #[(.int .i64 0), (.int .i64 0)]) 16 rfl Try.underlying37 info44 rfl (by decide) (by omega) u3 x3_1 (⟨Int.tmod (wrap64 (Int.tdiv t253 420)) 1114112, wrap64 ((wrap64 ((Int.tmod (wrap64 (Int.tdiv t253 420)) 1114112) + (Int.tmod (wrap64 (Int.tdiv t253 7)) 9))) - 2)⟩ : S44) [.int .i64 (Int.tmod (wrap64 (Int.tdiv t253 420)) 1114112), .int .i64 (wrap64 ((wrap64 ((Int.tmod (wrap64 (Int.tdiv t253 420)) 1114112) + (Int.tmod (wrap64 (Int.tdiv t253 7)) 9))) - 2))] (fun _ => True) (fun _ => False) rfl rfl ?aP (fun _ hk => hk.elim) ?aF ?aO ?aB ?aS ?aL ?_; (case aP => exact k44_mkM _ _ _ (⟨Int.tmod (wrap64 (Int.tdiv t253 420)) 1114112, wrap64 ((wrap64 ((Int.tmod (wrap64 (Int.tdiv t253 420)) 1114112) + (Int.tmod (wrap64 (Int.tdiv t253 7)) 9))) - 2)⟩ : S44)); (case aB => exact (by repeat (first | (with_reducible first | exact HB.out | apply below_alloc | apply pw_below_drewN | apply below_drew1) | exact HB.out))); (case aF => exact (fun _ _ => trivial)); (case aO => exact (by (with_reducible repeat (first | apply Kd.R_alloc | apply Kd.R_drewN | apply Kd.R_drew)); exact HO_3.out)); (case aS => exact (below_size (by repeat (first | (with_reducible first | exact HB.out | apply below_alloc | apply pw_below_drewN | apply below_drew1) | exact HB.out)))); (case aL => have := LMc9.out; omega); intro v255 w10 ho hb hg hat; rw [← Ny254.out] at ho; have n0_ := Aside0.mk (hb); have n1_ := Aside0.mk (ho); clear HB; clear HO_3; have HB := n0_; have HO256 := n1_; clear n0_ n1_; clear ho hb hg hat))
          go_roundg kj1
          case measure => have := HK1.out; have := HJ1.out; omega
          case rel => exact ⟨(y254), (wrap64 (x4_1 + 1)), (by first | rfl | (simp; done) | (simp [*]; done)), H', ⟨by have := HK1.out; have := HJ1.out; omega⟩, ⟨by (with_reducible repeat (first | apply Kd.R_alloc | apply Kd.R_drewN | apply Kd.R_drew)); exact HO256.out⟩, ⟨by repeat (first | (with_reducible first | exact HB.out | apply below_alloc | apply pw_below_drewN | apply below_drew1) | exact HB.out)⟩⟩
         ·rw [if_neg c9] at H
          exact absurd H (by simp)
        ·rw [if_neg c8] at H
         have c8b0 : ((Int.tmod (wrap64 (Int.tdiv t253 60)) 7) == 0) = false := beq_eq_false_iff_ne.mpr c8
         have c8b1 : ((Int.tmod (wrap64 (Int.tdiv t253 60)) 7) != 0) = true := bne_iff_ne.mpr c8
         by_cases c11 : x3_1.length < 8796093022208
         ·rw [if_pos c11] at H
          have LMc11 := Aside0.mk c11
          clear c11
          obtain ⟨y257, hy257⟩ : ∃ y_ : List (S44), y_ = (x3_1 ++ [(⟨Int.tmod t253 60, wrap64 ((wrap64 ((Int.tmod t253 60) + (Int.tmod (wrap64 (Int.tdiv t253 7)) 9))) - 2)⟩ : S44)]) := ⟨_, rfl⟩
          replace H : (hyphenlaw3_Raw.l0 kj1 l0 y257 (wrap64 (x4_1 + 1))) = some r := by first | (rw [hy257]; with_reducible exact H) | (have H2_ := (Option.bind_some _ _).symm.trans H; rw [hy257]; with_reducible exact H2_) | (have H2_ := (Option.bind_some _ _).symm.trans H; with_reducible exact H2_) | with_reducible exact H | (rw [hy257]; exact H) | exact H
          have Ny257 := Aside0.mk hy257
          clear hy257
          have H' := Aside0.mk H
          clear H
          have p252 : 0 ≤ (x4_1 : Int) := of_decide_eq_true (by first | (with_reducible assumption) | assumption)
          have q252 : x4_1 < (l0.length : Int) := of_decide_eq_true (by first | (with_reducible assumption) | assumption)
          obtain ⟨ad252, e252, hx252_0⟩ := Kd.at_int HR0.out x4_1 p252 q252
          cases e252
          replace hx252_0 := (HB.out.cell (World.block_lt_of_cell? w _ hx252_0)).trans hx252_0
          replace p252 := eq_true p252
          replace q252 := eq_true q252
          go_wp2_with (first | ((with_reducible refine gate_callee (f := 41) rfl ?_); refine goesL_ (some 21) rfl rfl Try.func41 (by kernel_rfl) rfl #[.int .i64 (rd l0 x4_1), .int .i64 1099511627776] rfl (by (try simp only [List.map_toArray, List.map_cons, List.map_nil]); first | done | rfl | (simp only [List.length_drop, List.length_take]; rfl)) ?_; (with_reducible refine (hyphenlaw3_within.calls (rd l0 x4_1) 1099511627776 t253 _ A7.out).mono ?_); rintro e w' ⟨rfl, ⟨nd, rfl⟩⟩; refine ⟨_, rfl, ?_⟩) | ((with_reducible refine gate_builtin (b := .append) (xs := #[.tmp 31, .tmp 40]) rfl ?_); at_builtin; refine Kd.R_append k44 (w0 := w) w.heap.size rfl (.tmp 31) (.tmp 40) 37 44 (.agg #[(.int .i64 0), (.int .i64 0)]) 16 rfl Try.underlying37 info44 rfl (by decide) (by omega) u3 x3_1 (⟨Int.tmod t253 60, wrap64 ((wrap64 ((Int.tmod t253 60) + (Int.tmod (wrap64 (Int.tdiv t253 7)) 9))) - 2)⟩ : S44) [.int .i64 (Int.tmod t253 60), .int .i64 (wrap64 ((wrap64 ((Int.tmod t253 60) + (Int.tmod (wrap64 (Int.tdiv t253 7)) 9))) - 2))] (fun _ => True) (fun _ => False) rfl rfl ?aP (fun _ hk => hk.elim) ?aF ?aO ?aB ?aS ?aL ?_; (case aP => exact k44_mkM _ _ _ (⟨Int.tmod t253 60, wrap64 ((wrap64 ((Int.tmod t253 60) + (Int.tmod (wrap64 (Int.tdiv t253 7)) 9))) - 2)⟩ : S44)); (case aB => exact (by repeat (first | (with_reducible first | exact HB.out | apply below_alloc | apply pw_below_drewN | apply below_drew1) | exact HB.out))); (case aF => exact (fun _ _ => trivial)); (case aO => exact (by (with_reducible repeat (first | apply Kd.R_alloc | apply Kd.R_drewN | apply Kd.R_drew)); exact HO_3.out)); (case aS => exact (below_size (by repeat (first | (with_reducible first | exact HB.out | apply below_alloc | apply pw_below_drewN | apply below_drew1) | exact HB.out)))); (case aL => have := LMc11.out; omega); intro v258 w12 ho hb hg hat; rw [← Ny257.out] at ho; have n0_ := Aside0.mk (hb); have n1_ := Aside0.mk (ho); clear HB; clear HO_3; have HB := n0_; have HO259 := n1_; clear n0_ n1_; clear ho hb hg hat))
          go_roundg kj1
          case measure => have := HK1.out; have := HJ1.out; omega
          case rel => exact ⟨(y257), (wrap64 (x4_1 + 1)), (by first | rfl | (simp; done) | (simp [*]; done)), H', ⟨by have := HK1.out; have := HJ1.out; omega⟩, ⟨by (with_reducible repeat (first | apply Kd.R_alloc | apply Kd.R_drewN | apply Kd.R_drew)); exact HO259.out⟩, ⟨by repeat (first | (with_reducible first | exact HB.out | apply below_alloc | apply pw_below_drewN | apply below_drew1) | exact HB.out)⟩⟩
         ·rw [if_neg c11] at H
          exact absurd H (by simp)
       ·rw [if_neg c6] at H
        exact absurd H (by simp)
      ·rw [if_neg c5] at H
       exact absurd H (by simp)
     ·replace c4 := Bool.eq_false_iff.mpr c4
      subst c4
      have H1 : (some x3_1) = some r := by rw [if_neg (show ¬ (false = true) by decide)] at H; exact H
      clear H
      have H := H1
      clear H1
      obtain rfl := Option.some.inj H
      go_wp2
      go_ret
      exact ⟨_, by first | rfl | (simp [errW_none, errW_some] <;> rfl) | (simp [*, errW_none, errW_some] <;> rfl), by (with_reducible repeat (first | apply Kd.R_alloc | apply Kd.R_drewN | apply Kd.R_drew)); exact HO_3.out, by repeat (first | (with_reducible first | exact HB.out | apply below_alloc | apply pw_below_drewN | apply below_drew1) | exact HB.out)⟩

/-! ### hyphenlaw3_Make: function 25 -/
def hyphenlaw3_Make.f (k : Nat) (l0 : List Int) : Option ((List (S44))) := (hyphenlaw3_Raw.f k l0).bind fun t260 => ((hyphenref3_Norm.f k t260).bind fun t263 => (some t263))
theorem hyphenlaw3_Make.mono : ∀ a0 k, LeO (hyphenlaw3_Make.f k a0) (hyphenlaw3_Make.f (k + 1) a0) := by
 intro a0 k
 unfold hyphenlaw3_Make.f
 repeat' first
   | (with_reducible exact hyphenlaw3_Raw.mono _ _)
   | (with_reducible exact hyphenref3_Norm.mono _ _)
   | (with_reducible exact LeO.refl _)
   | (with_reducible exact LeO.none _)
   | (with_reducible refine LeO.ite ?_ ?_)
   | (with_reducible refine LeO.bind ?_ (fun _ => ?_))
   | exact hyphenlaw3_Raw.mono _ _
   | exact hyphenref3_Norm.mono _ _
   | exact LeO.none _
   | refine LeO.ite ?_ ?_
   | refine LeO.bind ?_ (fun _ => ?_)
set_option maxHeartbeats 8000000 in
set_option maxRecDepth 100000 in
theorem hyphenlaw3_Make.calls (k : Nat) (A0 : Option Addr) (c0 : Nat) (l0 : List Int) (r : List (S44)) (w : World) (hr0 : Kd.C (Kd.int .i64) w A0 l0.length l0) (hc0 : l0.length ≤ c0) (h : hyphenlaw3_Make.f k l0 = some r) :
  Calls Try.prog 25 #[.slice A0 l0.length c0] w fun e w' => ∃ v0_ : Value, e = .returned (v0_) ∧ Kd.R k44 44 w' w.heap.size (fun _ => True) v0_ r ∧ Below w.heap.size w w' := by
 have HR0 := Aside0.mk hr0
 have HC0 := Aside0.mk hc0
 clear hr0 hc0
 have HB := Aside0.mk (Below.refl w.heap.size w)
 have H : ((hyphenlaw3_Raw.f k l0).bind fun t260 => ((hyphenref3_Norm.f k t260).bind fun t263 => (some t263))) = some r := h
 clear h
 replace H := Option.bind_eq_some_iff.mp H
 obtain ⟨t260, A20, H⟩ := H
 replace H : ((hyphenref3_Norm.f k t260).bind fun t263 => (some t263)) = some r := H
 have A2 := Aside0.mk A20
 clear A20
 replace H := Option.bind_eq_some_iff.mp H
 obtain ⟨t263, A30, H⟩ := H
 replace H : (some t263) = some r := H
 have A3 := Aside0.mk A30
 clear A30
 obtain rfl := Option.some.inj H
 go_enter Try.func25, Try.ntmps25
 go_wp2_with (first | ((with_reducible refine gate_callee (f := 35) rfl ?_); refine goesL_ (some 4) rfl rfl Try.func35 (by kernel_rfl) rfl #[.slice A0 l0.length c0] rfl (by (try simp only [List.map_toArray, List.map_cons, List.map_nil]); first | done | rfl | (simp only [List.length_drop, List.length_take]; rfl)) ?_; (with_reducible refine (hyphenlaw3_Raw.calls k _ _ l0 t260 _ ?side1 ?side2 A2.out).mono ?_); (case side1 => repeat (first | exact HR0.out | (with_reducible refine Kd.C_alloc ?_ _) | (with_reducible refine Kd.C_drewN ?_ _) | (with_reducible refine Kd.C_drew ?_))); (case side2 => exact HC0.out); rintro e w4 ⟨v261, rfl, ho0, hb⟩; refine ⟨_, rfl, ?_⟩; have n0_ := Aside0.mk (Kd.R_lower ho0 (below_size (by repeat (first | (with_reducible first | exact HB.out | apply below_alloc | apply pw_below_drewN | apply below_drew1) | exact HB.out)))); have n1_ := Aside0.mk (below_step (by repeat (first | (with_reducible first | exact HB.out | apply below_alloc | apply pw_below_drewN | apply below_drew1) | exact HB.out)) hb); clear HB; have HO262 := n0_; have HB := n1_; clear n0_ n1_; (try clear hb); (try clear hb2); (try clear hk); (try clear hi); (try clear ho0); obtain ⟨Ao5, co5, eo5⟩ := Kd.R_slice HO262.out; subst eo5) | ((with_reducible refine gate_callee (f := 34) rfl ?_); refine goesL_ (some 5) rfl rfl Try.func34 (by kernel_rfl) rfl #[.slice Ao5 t260.length co5] rfl (by (try simp only [List.map_toArray, List.map_cons, List.map_nil]); first | done | rfl | (simp only [List.length_drop, List.length_take]; rfl)) ?_; (with_reducible refine (hyphenref3_Norm.calls k _ _ t260 t263 _ ?side1 ?side2 A3.out).mono ?_); (case side1 => repeat (first | exact (Kd.R_reads' HO262.out).2.2 | (with_reducible refine Kd.C_alloc ?_ _) | (with_reducible refine Kd.C_drewN ?_ _) | (with_reducible refine Kd.C_drew ?_))); (case side2 => exact (Kd.R_reads' HO262.out).2.1); rintro e w6 ⟨v264, rfl, ho0, hb⟩; refine ⟨_, rfl, ?_⟩; have n0_ := Aside0.mk (Kd.R_elder' (by (with_reducible repeat (first | apply Kd.R_alloc | apply Kd.R_drewN | apply Kd.R_drew)); exact HO262.out) (Kd.R_base ho0) hb); have n1_ := Aside0.mk (Kd.R_lower (Kd.R_new' ho0 (Kd.R_lt (by (with_reducible repeat (first | apply Kd.R_alloc | apply Kd.R_drewN | apply Kd.R_drew)); exact HO262.out))) (below_size (by repeat (first | (with_reducible first | exact HB.out | apply below_alloc | apply pw_below_drewN | apply below_drew1) | exact HB.out)))); have n2_ := Aside0.mk (below_step (by repeat (first | (with_reducible first | exact HB.out | apply below_alloc | apply pw_below_drewN | apply below_drew1) | exact HB.out)) hb); clear HO262; clear HB; have HO262 := n0_; have HO265 := n1_; have HB := n2_; clear n0_ n1_ n2_; (try clear hb); (try clear hb2); (try clear hk); (try clear hi); (try clear ho0)))
 go_ret
 exact ⟨_, by first | rfl | (simp [errW_none, errW_some] <;> rfl) | (simp [*, errW_none, errW_some] <;> rfl), by (with_reducible repeat (first | apply Kd.R_alloc | apply Kd.R_drewN | apply Kd.R_drew)); exact Kd.R_mono HO265.out (fun _ hk => trivial), by repeat (first | (with_reducible first | exact HB.out | apply below_alloc | apply pw_below_drewN | apply below_drew1) | exact HB.out)⟩

/-! ### hyphenlaw4_Sets: function 12 -/
mutual
def hyphenlaw4_Sets.l0 : Nat → List Int → Int → List (List (S44)) → Int → Option ((List (List (S44))))
 | 0, _, _, _, _ => none
 | k + 1, x0, x1, x5, x6 => if x6 < (x0.length : Int) then (hyphenlaw4_Sets.j1 k x0 x1 x5 x6 (decide (x6 < x1))) else (hyphenlaw4_Sets.j1 k x0 x1 x5 x6 false)
def hyphenlaw4_Sets.j1 : Nat → List Int → Int → List (List (S44)) → Int → Bool → Option ((List (List (S44))))
 | 0, _, _, _, _, _ => none
 | k + 1, x0, x1, x5, x6, x16 => if x16 = true then (if 0 ≤ x6 then (if x6 < (x0.length : Int) then ((hyphenlaw4_within.f (rd x0 x6) 1099511627776).bind fun t267 => ((some (([t267, wrap64 (Int.tdiv t267 7), wrap64 (Int.tdiv t267 11)] : List Int) : List Int)).bind fun y268 => (if 0 ≤ (wrap64 ((Int.tmod (Int.tmod t267 4) 3) + 1)) then (if (wrap64 ((Int.tmod (Int.tmod t267 4) 3) + 1)) ≤ (y268.length : Int) then ((hyphenlaw3_Make.f k (y268.take ((wrap64 ((Int.tmod (Int.tmod t267 4) 3) + 1)) : Int).toNat)).bind fun t275 => (if x5.length < 5864062014805 then (hyphenlaw4_Sets.l0 k x0 x1 (x5 ++ [t275]) (wrap64 (x6 + 1))) else (none))) else (none)) else (none)))) else (none)) else (none)) else (some x5)
end
def hyphenlaw4_Sets.f (k : Nat) (l0 : List Int) (a1 : Int) : Option ((List (List (S44)))) := hyphenlaw4_Sets.l0 k l0 a1 ([] : List (List (S44))) 0
theorem hyphenlaw4_Sets.mono_l : ∀ k, (∀ y0 y1 y2 y3, LeO (hyphenlaw4_Sets.l0 k y0 y1 y2 y3) (hyphenlaw4_Sets.l0 (k + 1) y0 y1 y2 y3)) ∧ (∀ y0 y1 y2 y3 y4, LeO (hyphenlaw4_Sets.j1 k y0 y1 y2 y3 y4) (hyphenlaw4_Sets.j1 (k + 1) y0 y1 y2 y3 y4))
 | 0 => ⟨fun _ _ _ _ r h => by simp [hyphenlaw4_Sets.l0] at h, fun _ _ _ _ _ r h => by simp [hyphenlaw4_Sets.j1] at h⟩
 | k + 1 => by
  obtain ⟨ih0, ih1⟩ := hyphenlaw4_Sets.mono_l k
  refine ⟨?_, ?_⟩
  ·intro y0 y1 y2 y3
   unfold hyphenlaw4_Sets.l0
   repeat' first
   | (with_reducible exact ih0 _ _ _ _)
   | (with_reducible exact ih1 _ _ _ _ _)
   | (with_reducible exact hyphenlaw3_Make.mono _ _)
   | (with_reducible exact LeO.refl _)
   | (with_reducible exact LeO.none _)
   | (with_reducible refine LeO.ite ?_ ?_)
   | (with_reducible refine LeO.bind ?_ (fun _ => ?_))
   | exact ih0 _ _ _ _
   | exact ih1 _ _ _ _ _
   | exact hyphenlaw3_Make.mono _ _
   | exact LeO.none _
   | refine LeO.ite ?_ ?_
   | refine LeO.bind ?_ (fun _ => ?_)
  ·intro y0 y1 y2 y3 y4
   unfold hyphenlaw4_Sets.j1
   repeat' first
   | (with_reducible exact ih0 _ _ _ _)
   | (with_reducible exact ih1 _ _ _ _ _)
   | (with_reducible exact hyphenlaw3_Make.mono _ _)
   | (with_reducible exact LeO.refl _)
   | (with_reducible exact LeO.none _)
   | (with_reducible refine LeO.ite ?_ ?_)
   | (with_reducible refine LeO.bind ?_ (fun _ => ?_))
   | exact ih0 _ _ _ _
   | exact ih1 _ _ _ _ _
   | exact hyphenlaw3_Make.mono _ _
   | exact LeO.none _
   | refine LeO.ite ?_ ?_
   | refine LeO.bind ?_ (fun _ => ?_)
theorem hyphenlaw4_Sets.mono : ∀ a0 a1 k, LeO (hyphenlaw4_Sets.f k a0 a1) (hyphenlaw4_Sets.f (k + 1) a0 a1) := by
 intro a0 a1 k
 obtain ⟨ih0, ih1⟩ := hyphenlaw4_Sets.mono_l k
 unfold hyphenlaw4_Sets.f
 repeat' first
   | (with_reducible exact ih0 _ _ _ _)
   | (with_reducible exact ih1 _ _ _ _ _)
   | (with_reducible exact hyphenlaw3_Make.mono _ _)
   | (with_reducible exact LeO.refl _)
   | (with_reducible exact LeO.none _)
   | (with_reducible refine LeO.ite ?_ ?_)
   | (with_reducible refine LeO.bind ?_ (fun _ => ?_))
   | exact ih0 _ _ _ _
   | exact ih1 _ _ _ _ _
   | exact hyphenlaw3_Make.mono _ _
   | exact LeO.none _
   | refine LeO.ite ?_ ?_
   | refine LeO.bind ?_ (fun _ => ?_)
set_option maxHeartbeats 8000000 in
set_option maxRecDepth 100000 in
theorem hyphenlaw4_Sets.calls (k : Nat) (A0 : Option Addr) (c0 : Nat) (l0 : List Int) (a1 : Int) (r : List (List (S44))) (w : World) (hr0 : Kd.C (Kd.int .i64) w A0 l0.length l0) (hc0 : l0.length ≤ c0) (h : hyphenlaw4_Sets.f k l0 a1 = some r) :
  Calls Try.prog 12 #[.slice A0 l0.length c0, .int .i64 a1] w fun e w' => ∃ v0_ : Value, e = .returned (v0_) ∧ Kd.R (Kd.slice 44 k44) 37 w' w.heap.size (fun _ => True) v0_ r ∧ Below w.heap.size w w' := by
 have HR0 := Aside0.mk hr0
 have HC0 := Aside0.mk hc0
 clear hr0 hc0
 have HB := Aside0.mk (Below.refl w.heap.size w)
 have H : (hyphenlaw4_Sets.l0 k l0 a1 ([] : List (List (S44))) 0) = some r := h
 clear h
 have H' := Aside0.mk H
 clear H
 go_enter Try.func12, Try.ntmps12
 go_wp2
 go_loopg [5, 6] k (fun kq v5 v6 w' => ∃ (x5_1 : List (List (S44))) (x6_1 : Int), v6 = .int .i64 x6_1 ∧ Aside0 (hyphenlaw4_Sets.l0 kq l0 a1 x5_1 x6_1 = some r) ∧ Aside0 (kq ≤ k) ∧ Aside0 (Kd.R (Kd.slice 44 k44) 37 w' w.heap.size (fun _ => True) v5 x5_1) ∧ Aside0 (Below w.heap.size w w'))
 case atStart => exact ⟨(([] : List (List (S44)))), (0), (by first | rfl | (simp; done) | (simp [*]; done)), H', ⟨Nat.le_refl _⟩, ⟨by first | exact Kd.R_nil _ _ _ _ _ | exact Kd.N_nil _ _ _ _ _ | exact Kd.V_nil _ _ _ _ _ | exact Kd.Q_nil _ _ _ _ _ | exact Kd.S_nil _ _ _ _ _⟩, ⟨by repeat (first | (with_reducible first | exact HB.out | apply below_alloc | apply pw_below_drewN | apply below_drew1) | exact HB.out)⟩⟩
 case round =>
  clear H'
  try clear c1
  try clear p2
  obtain ⟨x5_1, x6_1, rfl, HA, HK1, HO_5, HB⟩ := hrel
  cases gk with
  | zero => exact absurd HA.out (by simp [hyphenlaw4_Sets.l0])
  | succ k1 =>
   have H := HA.out
   clear HA
   simp only [hyphenlaw4_Sets.l0] at H
   have HC3 := Aside0.mk H
   clear H
   go_upto_region 3 with (fail)
   go_cut [16] (fun v16 wc => ∃ (kq : Nat) (x16_2 : Bool), v16 = .bool x16_2 ∧ Aside0 (hyphenlaw4_Sets.j1 kq l0 a1 x5_1 x6_1 x16_2 = some r) ∧ Aside0 (kq ≤ k1) ∧ Aside0 (Kd.R (Kd.slice 44 k44) 37 wc w.heap.size (fun _ => True) u5 x5_1) ∧ Aside0 (Below w.heap.size w wc))
   case first =>
    have H := HC3.out
    clear HC3
    by_cases c4 : x6_1 < (l0.length : Int)
    ·rw [if_pos c4] at H
     have c4b0 : decide (x6_1 < (l0.length : Int)) = true := decide_eq_true c4
     clear c4
     (first | rw [c4b0] | (simp only [i64_w, i32_w]; rw [c4b0]) | skip)
     have H' := Aside0.mk H
     clear H
     go_wp2
     go_meet
     case rel => exact ⟨_, (decide (x6_1 < a1)), (by first | rfl | (simp; done) | (simp [*]; done)), H', ⟨by have := HK1.out; first | omega | exact Nat.le_refl _⟩, ⟨by (with_reducible repeat (first | apply Kd.R_alloc | apply Kd.R_drewN | apply Kd.R_drew)); exact HO_5.out⟩, ⟨by repeat (first | (with_reducible first | exact HB.out | apply below_alloc | apply pw_below_drewN | apply below_drew1) | exact HB.out)⟩⟩
    ·rw [if_neg c4] at H
     have c4b0 : decide (x6_1 < (l0.length : Int)) = false := decide_eq_false c4
     clear c4
     (first | rw [c4b0] | (simp only [i64_w, i32_w]; rw [c4b0]) | skip)
     have H' := Aside0.mk H
     clear H
     go_wp2
     go_meet
     case rel => exact ⟨_, (false), (by first | rfl | (simp; done) | (simp [*]; done)), H', ⟨by have := HK1.out; first | omega | exact Nat.le_refl _⟩, ⟨by (with_reducible repeat (first | apply Kd.R_alloc | apply Kd.R_drewN | apply Kd.R_drew)); exact HO_5.out⟩, ⟨by repeat (first | (with_reducible first | exact HB.out | apply below_alloc | apply pw_below_drewN | apply below_drew1) | exact HB.out)⟩⟩
   case rest =>
    clear HC3
    try clear c1
    try clear p2
    try clear c4
    try clear c4b0
    try clear p2
    obtain ⟨kq, x16_2, rfl, HA, HJ2, HO_5, HB⟩ := hcut
    cases kq with
    | zero => exact absurd HA.out (by simp [hyphenlaw4_Sets.j1])
    | succ kj2 =>
     have H := HA.out
     clear HA
     simp only [hyphenlaw4_Sets.j1] at H
     by_cases c5 : x16_2 = true
     ·subst c5
      have H1 : (if 0 ≤ x6_1 then (if x6_1 < (l0.length : Int) then ((hyphenlaw4_within.f (rd l0 x6_1) 1099511627776).bind fun t267 => ((some (([t267, wrap64 (Int.tdiv t267 7), wrap64 (Int.tdiv t267 11)] : List Int) : List Int)).bind fun y268 => (if 0 ≤ (wrap64 ((Int.tmod (Int.tmod t267 4) 3) + 1)) then (if (wrap64 ((Int.tmod (Int.tmod t267 4) 3) + 1)) ≤ (y268.length : Int) then ((hyphenlaw3_Make.f kj2 (y268.take ((wrap64 ((Int.tmod (Int.tmod t267 4) 3) + 1)) : Int).toNat)).bind fun t275 => (if x5_1.length < 5864062014805 then (hyphenlaw4_Sets.l0 kj2 l0 a1 (x5_1 ++ [t275]) (wrap64 (x6_1 + 1))) else (none))) else (none)) else (none)))) else (none)) else (none)) = some r := by rw [if_pos rfl] at H; exact H
      clear H
      have H := H1
      clear H1
      by_cases c6 : 0 ≤ x6_1
      ·rw [if_pos c6] at H
       have c6b0 : decide (0 ≤ x6_1) = true := decide_eq_true c6
       clear c6
       by_cases c7 : x6_1 < (l0.length : Int)
       ·rw [if_pos c7] at H
        have c7b0 : decide (x6_1 < (l0.length : Int)) = true := decide_eq_true c7
        clear c7
        replace H := Option.bind_eq_some_iff.mp H
        obtain ⟨t267, A80, H⟩ := H
        replace H : ((some (([t267, wrap64 (Int.tdiv t267 7), wrap64 (Int.tdiv t267 11)] : List Int) : List Int)).bind fun y268 => (if 0 ≤ (wrap64 ((Int.tmod (Int.tmod t267 4) 3) + 1)) then (if (wrap64 ((Int.tmod (Int.tmod t267 4) 3) + 1)) ≤ (y268.length : Int) then ((hyphenlaw3_Make.f kj2 (y268.take ((wrap64 ((Int.tmod (Int.tmod t267 4) 3) + 1)) : Int).toNat)).bind fun t275 => (if x5_1.length < 5864062014805 then (hyphenlaw4_Sets.l0 kj2 l0 a1 (x5_1 ++ [t275]) (wrap64 (x6_1 + 1))) else (none))) else (none)) else (none))) = some r := H
        have A8 := Aside0.mk A80
        clear A80
        obtain ⟨y268, hy268⟩ : ∃ y_ : List Int, y_ = (([t267, wrap64 (Int.tdiv t267 7), wrap64 (Int.tdiv t267 11)] : List Int)) := ⟨_, rfl⟩
        replace H : (if 0 ≤ (wrap64 ((Int.tmod (Int.tmod t267 4) 3) + 1)) then (if (wrap64 ((Int.tmod (Int.tmod t267 4) 3) + 1)) ≤ (y268.length : Int) then ((hyphenlaw3_Make.f kj2 (y268.take ((wrap64 ((Int.tmod (Int.tmod t267 4) 3) + 1)) : Int).toNat)).bind fun t275 => (if x5_1.length < 5864062014805 then (hyphenlaw4_Sets.l0 kj2 l0 a1 (x5_1 ++ [t275]) (wrap64 (x6_1 + 1))) else (none))) else (none)) else (none)) = some r := by first | (rw [hy268]; with_reducible exact H) | (have H2_ := (Option.bind_some _ _).symm.trans H; rw [hy268]; with_reducible exact H2_) | (have H2_ := (Option.bind_some _ _).symm.trans H; with_reducible exact H2_) | with_reducible exact H | (rw [hy268]; exact H) | exact H
        have Ny268 := Aside0.mk hy268
        clear hy268
        obtain ⟨ji9, hji9⟩ : ∃ j_ : Int, (wrap64 ((Int.tmod (Int.tmod t267 4) 3) + 1)) = j_ := ⟨_, rfl⟩
        replace H : (if 0 ≤ (ji9) then (if (ji9) ≤ (y268.length : Int) then ((hyphenlaw3_Make.f kj2 (y268.take ((ji9) : Int).toNat)).bind fun t275 => (if x5_1.length < 5864062014805 then (hyphenlaw4_Sets.l0 kj2 l0 a1 (x5_1 ++ [t275]) (wrap64 (x6_1 + 1))) else (none))) else (none)) else (none)) = some r := by first | (rw [hji9] at H; exact H) | (simp only [hji9] at H ⊢; exact H)
        (try rw [hji9] at A8)
        have hji9w : (IntKind.i64.wrap ((Int.tmod (Int.tmod t267 4) 3) + 1)) = ji9 := (i64_w _).trans hji9
        by_cases c10 : 0 ≤ (ji9)
        ·rw [if_pos c10] at H
         have c10b0 := eq_true c10
         have c10b1 : decide (0 ≤ (ji9)) = true := decide_eq_true c10
         clear c10
         by_cases c11 : (ji9) ≤ (y268.length : Int)
         ·rw [if_pos c11] at H
          have c11b0 := eq_true c11
          have c11b1 : decide ((ji9) ≤ (y268.length : Int)) = true := decide_eq_true c11
          clear c11
          obtain ⟨y271, hy271⟩ : ∃ y_ : List Int, y_ = (y268.take ((ji9) : Int).toNat) := ⟨_, rfl⟩
          replace H : ((hyphenlaw3_Make.f kj2 y271).bind fun t275 => (if x5_1.length < 5864062014805 then (hyphenlaw4_Sets.l0 kj2 l0 a1 (x5_1 ++ [t275]) (wrap64 (x6_1 + 1))) else (none))) = some r := by first | (rw [hy271]; with_reducible exact H) | (have H2_ := (Option.bind_some _ _).symm.trans H; rw [hy271]; with_reducible exact H2_) | (have H2_ := (Option.bind_some _ _).symm.trans H; with_reducible exact H2_) | with_reducible exact H | (rw [hy271]; exact H) | exact H
          have Ny271 := Aside0.mk hy271
          clear hy271
          replace H := Option.bind_eq_some_iff.mp H
          obtain ⟨t275, A120, H⟩ := H
          replace H : (if x5_1.length < 5864062014805 then (hyphenlaw4_Sets.l0 kj2 l0 a1 (x5_1 ++ [t275]) (wrap64 (x6_1 + 1))) else (none)) = some r := H
          have A12 := Aside0.mk A120
          clear A120
          by_cases c13 : x5_1.length < 5864062014805
          ·rw [if_pos c13] at H
           have LMc13 := Aside0.mk c13
           clear c13
           obtain ⟨y278, hy278⟩ : ∃ y_ : List (List (S44)), y_ = (x5_1 ++ [t275]) := ⟨_, rfl⟩
           replace H : (hyphenlaw4_Sets.l0 kj2 l0 a1 y278 (wrap64 (x6_1 + 1))) = some r := by first | (rw [hy278]; with_reducible exact H) | (have H2_ := (Option.bind_some _ _).symm.trans H; rw [hy278]; with_reducible exact H2_) | (have H2_ := (Option.bind_some _ _).symm.trans H; with_reducible exact H2_) | with_reducible exact H | (rw [hy278]; exact H) | exact H
           have Ny278 := Aside0.mk hy278
           clear hy278
           have H' := Aside0.mk H
           clear H
           have p266 : 0 ≤ (x6_1 : Int) := of_decide_eq_true (by first | (with_reducible assumption) | assumption)
           have q266 : x6_1 < (l0.length : Int) := of_decide_eq_true (by first | (with_reducible assumption) | assumption)
           obtain ⟨ad266, e266, hx266_0⟩ := Kd.at_int HR0.out x6_1 p266 q266
           cases e266
           replace hx266_0 := (HB.out.cell (World.block_lt_of_cell? w _ hx266_0)).trans hx266_0
           replace p266 := eq_true p266
           replace q266 := eq_true q266
           go_wp2_with (first | ((with_reducible refine gate_callee (f := 20) rfl ?_); refine goesL_ (some 23) rfl rfl Try.func20 (by kernel_rfl) rfl #[.int .i64 (rd l0 x6_1), .int .i64 1099511627776] rfl (by (try simp only [List.map_toArray, List.map_cons, List.map_nil]); first | done | rfl | (simp only [List.length_drop, List.length_take]; rfl)) ?_; (with_reducible refine (hyphenlaw4_within.calls (rd l0 x6_1) 1099511627776 t267 _ A8.out).mono ?_); rintro e w' ⟨rfl, ⟨nd, rfl⟩⟩; refine ⟨_, rfl, ?_⟩) | ((with_reducible refine gate_dst (N := 30) rfl ?_); refine Kd.R_lit (Kd.int .i64) _ 3 ?hg (N := 30) ?hd (xs := ([t267, wrap64 (Int.tdiv t267 7), wrap64 (Int.tdiv t267 11)] : List Int)) (inner := [.int .i64 t267, .int .i64 (wrap64 (Int.tdiv t267 7)), .int .i64 (wrap64 (Int.tdiv t267 11))]) (ok := fun _ => True) (okp := fun _ => True) ?hr ?hp (fun _ hk => hk) trivial (Below.refl _ _) (Nat.le_refl _) (by simp) ?_; (case hd => rfl); (case hg => rfl); (case hr => first | (go_simp; done) | (go_simp; rfl)); (case hp => exact (Reps.one (show Kd.M (Kd.int .i64) _ _ _ t267 [.int .i64 t267] from rfl) (Reps.one (show Kd.M (Kd.int .i64) _ _ _ (wrap64 (Int.tdiv t267 7)) [.int .i64 (wrap64 (Int.tdiv t267 7))] from rfl) (Reps.one (show Kd.M (Kd.int .i64) _ _ _ (wrap64 (Int.tdiv t267 11)) [.int .i64 (wrap64 (Int.tdiv t267 11))] from rfl) (Reps.none _ _))))); intro v269 w14 ho15 hb hg_ hnew_; clear hg_ hnew_; (first | rw [← Ny268.out] at ho15 | (simp only [Int.reduceToNat] at ho15; rw [← Ny268.out] at ho15)); have n0_ := Aside0.mk (Kd.R_below (by (with_reducible repeat (first | apply Kd.R_alloc | apply Kd.R_drewN | apply Kd.R_drew)); exact HO_5.out) hb); have n1_ := Aside0.mk (Kd.R_lower ho15 (below_size (by repeat (first | (with_reducible first | exact HB.out | apply below_alloc | apply pw_below_drewN | apply below_drew1) | exact HB.out)))); have n2_ := Aside0.mk (below_step (by repeat (first | (with_reducible first | exact HB.out | apply below_alloc | apply pw_below_drewN | apply below_drew1) | exact HB.out)) hb); clear HO_5; clear HB; have HO_5 := n0_; have HO270 := n1_; have HB := n2_; clear n0_ n1_ n2_; clear hb ho15; obtain ⟨Ao17, co17, eo17⟩ := Kd.R_slice HO270.out; subst eo17; have q16 : ((ji9) : Int) ≤ ((y268.length : Int) : Int) := of_decide_eq_true (by first | (with_reducible assumption) | assumption); obtain ⟨i016, hi016, _, hsz16, _⟩ := info_parts info3; have hroom16 : y268.length ≤ co17 := (Kd.R_reads' HO270.out).2.1; have hC16 : Kd.C (Kd.int .i64) _ Ao17 y268.length y268 := (Kd.R_reads' HO270.out).2.2; have hcut16 := cut_to (P := Try.prog) 22 3 .i64 Try.underlying22 hi016 Ao17 y268.length co17 (ji9) (of_decide_eq_true (by first | (with_reducible assumption) | assumption)) q16 hroom16; have hr16 := Kd.C_take (m := ((ji9) : Int).toNat) hC16 (by omega); have hy16 : y271.length = ((ji9) : Int).toNat := (by rw [Ny271.out, List.length_take]; omega); rw [← Ny271.out] at hr16; rw [← hy16] at hcut16; have HR274 := Aside0.mk hr16; have HC274 := Aside0.mk (show y271.length ≤ co17 from by omega); clear hr16 hC16 hroom16 hi016 hsz16; have KY16 := Aside0.mk hy16; clear hy16; have KL16 := Aside0.mk (show ((ji9) : Int).toNat ≤ y268.length from by omega); replace q16 := eq_true q16) | ((with_reducible refine gate_callee (f := 25) rfl ?_); refine goesL_ (some 36) rfl rfl Try.func25 (by kernel_rfl) rfl #[.slice Ao17 y271.length co17] rfl (by (try simp only [List.map_toArray, List.map_cons, List.map_nil]); first | done | rfl | (simp only [List.length_drop, List.length_take]; rfl)) ?_; (with_reducible refine (hyphenlaw3_Make.calls kj2 _ _ y271 t275 _ ?side1 ?side2 A12.out).mono ?_); (case side1 => repeat (first | exact (by repeat (first | (with_reducible exact HR274.out) | (with_reducible refine Kd.C_alloc ?_ _) | (with_reducible refine Kd.C_drewN ?_ _) | (with_reducible refine Kd.C_drew ?_) | exact HR274.out)) | (with_reducible refine Kd.C_alloc ?_ _) | (with_reducible refine Kd.C_drewN ?_ _) | (with_reducible refine Kd.C_drew ?_))); (case side2 => exact HC274.out); rintro e w18 ⟨v276, rfl, ho0, hb⟩; refine ⟨_, rfl, ?_⟩; have n0_ := Aside0.mk (Kd.R_elder' (by (with_reducible repeat (first | apply Kd.R_alloc | apply Kd.R_drewN | apply Kd.R_drew)); exact HO_5.out) (Kd.R_base ho0) hb); have n1_ := Aside0.mk (Kd.R_below (by (with_reducible repeat (first | apply Kd.R_alloc | apply Kd.R_drewN | apply Kd.R_drew)); exact HO270.out) hb); have n2_ := Aside0.mk (Kd.R_lower ho0 (below_size (by repeat (first | (with_reducible first | exact HB.out | apply below_alloc | apply pw_below_drewN | apply below_drew1) | exact HB.out)))); have n3_ := Aside0.mk (Kd.C_below (by repeat (first | (with_reducible exact HR274.out) | (with_reducible refine Kd.C_alloc ?_ _) | (with_reducible refine Kd.C_drewN ?_ _) | (with_reducible refine Kd.C_drew ?_) | exact HR274.out)) hb); have n4_ := Aside0.mk (below_step (by repeat (first | (with_reducible first | exact HB.out | apply below_alloc | apply pw_below_drewN | apply below_drew1) | exact HB.out)) hb); clear HO_5; clear HO270; clear HR274; clear HB; have HO_5 := n0_; have HO270 := n1_; have HO277 := n2_; have HR274 := n3_; have HB := n4_; clear n0_ n1_ n2_ n3_ n4_; (try clear hb); (try clear hb2); (try clear hk); (try clear hi); (try clear ho0); obtain ⟨Ao20, co20, eo20⟩ := Kd.R_slice HO277.out; subst eo20) | ((with_reducible refine gate_builtin (b := .append) (xs := #[.tmp 24, .tmp 37]) rfl ?_); at_builtin; refine Kd.R_append (Kd.slice 44 k44) (w0 := w) w.heap.size rfl (.tmp 24) (.tmp 37) 24 37 (.slice none 0 0) 24 rfl Try.underlying24 info37 rfl (by decide) (by omega) u5 x5_1 t275 [.slice Ao20 t275.length co20] (fun _ => True) (fun k_ => ((fun _ => True)) k_ ∧ some k_ ≠ (u5 : Value).ownBlock) rfl rfl ?aP (fun _ hk => hk) ?aF ?aO ?aB ?aS ?aL ?_; (case aP => exact Kd.M_row (Kd.R_mono (Kd.R_apart' (HO277.out) (Kd.R_typed HO_5.out) (by decide)) (fun k_ hk => ⟨trivial, hk.2⟩))); (case aB => exact (by repeat (first | (with_reducible first | exact HB.out | apply below_alloc | apply pw_below_drewN | apply below_drew1) | exact HB.out))); (case aF => exact (fun _ _ => trivial)); (case aO => exact (by (with_reducible repeat (first | apply Kd.R_alloc | apply Kd.R_drewN | apply Kd.R_drew)); exact Kd.R_mono HO_5.out (fun _ hk => trivial))); (case aS => exact (below_size (by repeat (first | (with_reducible first | exact HB.out | apply below_alloc | apply pw_below_drewN | apply below_drew1) | exact HB.out)))); (case aL => have := LMc13.out; omega); intro v279 w19 ho hb hg hat; rw [← Ny278.out] at ho; have n0_ := Aside0.mk (Kd.R_over' (by (with_reducible repeat (first | apply Kd.R_alloc | apply Kd.R_drewN | apply Kd.R_drew)); exact HO270.out) (Kd.R_typed (by (with_reducible repeat (first | apply Kd.R_alloc | apply Kd.R_drewN | apply Kd.R_drew)); exact HO_5.out)) (by decide) hg); have n1_ := Aside0.mk (hb); have n2_ := Aside0.mk ((show Kd.C (Kd.int .i64) w19 Ao17 y271.length y271 from by rw [Ny271.out]; exact Kd.C_take (m := ((ji9) : Int).toNat) ((Kd.R_reads' (Kd.R_over' (by (with_reducible repeat (first | apply Kd.R_alloc | apply Kd.R_drewN | apply Kd.R_drew)); exact HO270.out) (Kd.R_typed (by (with_reducible repeat (first | apply Kd.R_alloc | apply Kd.R_drewN | apply Kd.R_drew)); exact HO_5.out)) (by decide) hg)).2.2) KL16.out)); have n3_ := Aside0.mk (ho); clear HO270; clear HB; clear HR274; clear HO_5; clear HO277; have HO270 := n0_; have HB := n1_; have HR274 := n2_; have HO280 := n3_; clear n0_ n1_ n2_ n3_; clear ho hb hg hat))
           go_roundg kj2
           case measure => have := HK1.out; have := HJ2.out; omega
           case rel => exact ⟨(y278), (wrap64 (x6_1 + 1)), (by first | rfl | (simp; done) | (simp [*]; done)), H', ⟨by have := HK1.out; have := HJ2.out; omega⟩, ⟨by (with_reducible repeat (first | apply Kd.R_alloc | apply Kd.R_drewN | apply Kd.R_drew)); exact HO280.out⟩, ⟨by repeat (first | (with_reducible first | exact HB.out | apply below_alloc | apply pw_below_drewN | apply below_drew1) | exact HB.out)⟩⟩
          ·rw [if_neg c13] at H
           exact absurd H (by simp)
         ·rw [if_neg c11] at H
          exact absurd H (by simp)
        ·rw [if_neg c10] at H
         exact absurd H (by simp)
       ·rw [if_neg c7] at H
        exact absurd H (by simp)
      ·rw [if_neg c6] at H
       exact absurd H (by simp)
     ·replace c5 := Bool.eq_false_iff.mpr c5
      subst c5
      have H1 : (some x5_1) = some r := by rw [if_neg (show ¬ (false = true) by decide)] at H; exact H
      clear H
      have H := H1
      clear H1
      obtain rfl := Option.some.inj H
      go_wp2
      go_ret
      exact ⟨_, by first | rfl | (simp [errW_none, errW_some] <;> rfl) | (simp [*, errW_none, errW_some] <;> rfl), by (with_reducible repeat (first | apply Kd.R_alloc | apply Kd.R_drewN | apply Kd.R_drew)); exact HO_5.out, by repeat (first | (with_reducible first | exact HB.out | apply below_alloc | apply pw_below_drewN | apply below_drew1) | exact HB.out)⟩

/-! ### hyphenref4_Letter: function 22 -/
def hyphenref4_Letter.l0 : Nat → List Int → List Int → Int → Int → Option (Int)
 | 0, _, _, _, _ => none
 | k + 1, x0, x1, x2, x7 => if (wrap64 (x7 + 1)) < (x0.length : Int) then (if 0 ≤ (wrap64 (x7 + 1)) then (if (rd x0 (wrap64 (x7 + 1))) ≤ x2 then (hyphenref4_Letter.l0 k x0 x1 x2 (wrap64 (x7 + 1))) else (if 0 ≤ x7 then (if x7 < (x1.length : Int) then (some (rd x1 x7)) else (none)) else (none))) else (none)) else (if 0 ≤ x7 then (if x7 < (x1.length : Int) then (some (rd x1 x7)) else (none)) else (none))
def hyphenref4_Letter.f (k : Nat) (l0 : List Int) (l1 : List Int) (a2 : Int) : Option (Int) := hyphenref4_Letter.l0 k l0 l1 a2 0
theorem hyphenref4_Letter.mono_l : ∀ k, (∀ y0 y1 y2 y3, LeO (hyphenref4_Letter.l0 k y0 y1 y2 y3) (hyphenref4_Letter.l0 (k + 1) y0 y1 y2 y3))
 | 0 => fun _ _ _ _ r h => by simp [hyphenref4_Letter.l0] at h
 | k + 1 => by
  have ih0 := hyphenref4_Letter.mono_l k
  ·intro y0 y1 y2 y3
   unfold hyphenref4_Letter.l0
   repeat' first
   | (with_reducible exact ih0 _ _ _ _)
   | (with_reducible exact LeO.refl _)
   | (with_reducible exact LeO.none _)
   | (with_reducible refine LeO.ite ?_ ?_)
   | (with_reducible refine LeO.bind ?_ (fun _ => ?_))
   | exact ih0 _ _ _ _
   | exact LeO.none _
   | refine LeO.ite ?_ ?_
   | refine LeO.bind ?_ (fun _ => ?_)
theorem hyphenref4_Letter.mono : ∀ a0 a1 a2 k, LeO (hyphenref4_Letter.f k a0 a1 a2) (hyphenref4_Letter.f (k + 1) a0 a1 a2) := by
 intro a0 a1 a2 k
 have ih0 := hyphenref4_Letter.mono_l k
 unfold hyphenref4_Letter.f
 repeat' first
   | (with_reducible exact ih0 _ _ _ _)
   | (with_reducible exact LeO.refl _)
   | (with_reducible exact LeO.none _)
   | (with_reducible refine LeO.ite ?_ ?_)
   | (with_reducible refine LeO.bind ?_ (fun _ => ?_))
   | exact ih0 _ _ _ _
   | exact LeO.none _
   | refine LeO.ite ?_ ?_
   | refine LeO.bind ?_ (fun _ => ?_)
set_option maxHeartbeats 8000000 in
set_option maxRecDepth 100000 in
theorem hyphenref4_Letter.calls (k : Nat) (A0 : Option Addr) (c0 : Nat) (l0 : List Int) (A1 : Option Addr) (c1 : Nat) (l1 : List Int) (a2 : Int) (r : Int) (w : World) (hr0 : Kd.C (Kd.int .i64) w A0 l0.length l0) (hc0 : l0.length ≤ c0) (hr1 : Kd.C (Kd.int .i64) w A1 l1.length l1) (hc1 : l1.length ≤ c1) (h : hyphenref4_Letter.f k l0 l1 a2 = some r) :
  Calls Try.prog 22 #[.slice A0 l0.length c0, .slice A1 l1.length c1, .int .i64 a2] w fun e w' => e = .returned (.int .i64 r) ∧ Drawn0 w w' := by
 have HR0 := Aside0.mk hr0
 have HC0 := Aside0.mk hc0
 clear hr0 hc0
 have HR1 := Aside0.mk hr1
 have HC1 := Aside0.mk hc1
 clear hr1 hc1
 have H : (hyphenref4_Letter.l0 k l0 l1 a2 0) = some r := h
 clear h
 have H' := Aside0.mk H
 clear H
 go_enter Try.func22, Try.ntmps22
 go_wp2
 go_loopg [7] k (fun kq v7 w' => ∃ (x7_1 : Int), v7 = .int .i64 x7_1 ∧ Aside0 (hyphenref4_Letter.l0 kq l0 l1 a2 x7_1 = some r) ∧ Aside0 (kq ≤ k) ∧ Drawn0 w w')
 case atStart => exact ⟨(0), (by first | rfl | (simp; done) | (simp [*]; done)), H', ⟨Nat.le_refl _⟩, by repeat (first | exact Drawn0.refl _ | apply Drawn0.step)⟩
 case round =>
  clear H'
  try clear c1
  try clear c2
  try clear p2
  obtain ⟨x7_1, rfl, HA, HK1, ⟨m1, rfl⟩⟩ := hrel
  cases gk with
  | zero => exact absurd HA.out (by simp [hyphenref4_Letter.l0])
  | succ k1 =>
   have H := HA.out
   clear HA
   simp only [hyphenref4_Letter.l0] at H
   by_cases c4 : (wrap64 (x7_1 + 1)) < (l0.length : Int)
   ·rw [if_pos c4] at H
    have c4b0 : decide ((wrap64 (x7_1 + 1)) < (l0.length : Int)) = true := decide_eq_true c4
    clear c4
    obtain ⟨ji5, hji5⟩ : ∃ j_ : Int, (wrap64 (x7_1 + 1)) = j_ := ⟨_, rfl⟩
    replace H : (if 0 ≤ (ji5) then (if (rd l0 (ji5)) ≤ a2 then (hyphenref4_Letter.l0 k1 l0 l1 a2 ji5) else (if 0 ≤ x7_1 then (if x7_1 < (l1.length : Int) then (some (rd l1 x7_1)) else (none)) else (none))) else (none)) = some r := by first | (rw [hji5] at H; exact H) | (simp only [hji5] at H ⊢; exact H)
    (try rw [hji5] at c4b0)
    have hji5w : (IntKind.i64.wrap (x7_1 + 1)) = ji5 := (i64_w _).trans hji5
    by_cases c6 : 0 ≤ (ji5)
    ·rw [if_pos c6] at H
     have c6b0 : decide (0 ≤ (ji5)) = true := decide_eq_true c6
     clear c6
     by_cases c7 : (rd l0 (ji5)) ≤ a2
     ·rw [if_pos c7] at H
      have c7b0 : decide ((rd l0 (ji5)) ≤ a2) = true := decide_eq_true c7
      clear c7
      have H' := Aside0.mk H
      clear H
      have p281 : 0 ≤ ((ji5) : Int) := of_decide_eq_true (by first | (with_reducible assumption) | assumption)
      have q281 : (ji5) < (l0.length : Int) := of_decide_eq_true (by first | (with_reducible assumption) | assumption)
      obtain ⟨ad281, e281, hx281_0⟩ := Kd.at_int HR0.out (ji5) p281 q281
      cases e281
      replace p281 := eq_true p281
      replace q281 := eq_true q281
      go_wp2
      go_roundg k1
      case measure => have := HK1.out; omega
      case rel => exact ⟨(ji5), (by first | rfl | (simp; done) | (simp only [← hji5] <;> (first | rfl | simp)) | (simp [*]; done)), H', ⟨by have := HK1.out; omega⟩, by repeat (first | exact Drawn0.refl _ | apply Drawn0.step)⟩
     ·rw [if_neg c7] at H
      have c7b0 : decide ((rd l0 (ji5)) ≤ a2) = false := decide_eq_false c7
      clear c7
      by_cases c8 : 0 ≤ x7_1
      ·rw [if_pos c8] at H
       have c8b0 : decide (0 ≤ x7_1) = true := decide_eq_true c8
       clear c8
       by_cases c9 : x7_1 < (l1.length : Int)
       ·rw [if_pos c9] at H
        have c9b0 : decide (x7_1 < (l1.length : Int)) = true := decide_eq_true c9
        clear c9
        obtain rfl := Option.some.inj H
        have p281 : 0 ≤ ((ji5) : Int) := of_decide_eq_true (by first | (with_reducible assumption) | assumption)
        have q281 : (ji5) < (l0.length : Int) := of_decide_eq_true (by first | (with_reducible assumption) | assumption)
        obtain ⟨ad281, e281, hx281_0⟩ := Kd.at_int HR0.out (ji5) p281 q281
        cases e281
        replace p281 := eq_true p281
        replace q281 := eq_true q281
        have p282 : 0 ≤ (x7_1 : Int) := of_decide_eq_true (by first | (with_reducible assumption) | assumption)
        have q282 : x7_1 < (l1.length : Int) := of_decide_eq_true (by first | (with_reducible assumption) | assumption)
        obtain ⟨ad282, e282, hx282_0⟩ := Kd.at_int HR1.out x7_1 p282 q282
        cases e282
        replace p282 := eq_true p282
        replace q282 := eq_true q282
        go_wp2
        go_ret
        exact ⟨by first | rfl | (simp; done) | (simp only [← hji5] <;> (first | rfl | simp)) | (simp [*]; done), by repeat (first | exact Drawn0.refl _ | apply Drawn0.step)⟩
       ·rw [if_neg c9] at H
        exact absurd H (by simp)
      ·rw [if_neg c8] at H
       exact absurd H (by simp)
    ·rw [if_neg c6] at H
     exact absurd H (by simp)
   ·rw [if_neg c4] at H
    have c4b0 : decide ((wrap64 (x7_1 + 1)) < (l0.length : Int)) = false := decide_eq_false c4
    clear c4
    by_cases c10 : 0 ≤ x7_1
    ·rw [if_pos c10] at H
     have c10b0 : decide (0 ≤ x7_1) = true := decide_eq_true c10
     clear c10
     by_cases c11 : x7_1 < (l1.length : Int)
     ·rw [if_pos c11] at H
      have c11b0 : decide (x7_1 < (l1.length : Int)) = true := decide_eq_true c11
      clear c11
      obtain rfl := Option.some.inj H
      have p283 : 0 ≤ (x7_1 : Int) := of_decide_eq_true (by first | (with_reducible assumption) | assumption)
      have q283 : x7_1 < (l1.length : Int) := of_decide_eq_true (by first | (with_reducible assumption) | assumption)
      obtain ⟨ad283, e283, hx283_0⟩ := Kd.at_int HR1.out x7_1 p283 q283
      cases e283
      replace p283 := eq_true p283
      replace q283 := eq_true q283
      go_wp2
      go_ret
      exact ⟨by first | rfl | (simp; done) | (simp [*]; done), by repeat (first | exact Drawn0.refl _ | apply Drawn0.step)⟩
     ·rw [if_neg c11] at H
      exact absurd H (by simp)
    ·rw [if_neg c10] at H
     exact absurd H (by simp)

end Go.Proofs.Yteogcjckhoakbaa.P
