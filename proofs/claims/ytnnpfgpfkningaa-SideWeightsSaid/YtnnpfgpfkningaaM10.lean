-- Joined by wip/merge.py (a program of this repo) out of texts of this claim, cut down to what it reaches; Lean checks it.
import Derived.Test.YtnnpfgpfkningaaM8
import Derived.Test.YtnnpfgpfkningaaM9
import Derived.Test.YtnnpfgpfkningaaM1
import Derived.Test.YtnnpfgpfkningaaM3
import Derived.Test.YtnnpfgpfkningaaM2
import Derived.Test.YtnnpfgpfkningaaM5
namespace Go.Proofs.Ytnnpfgpfkningaa.P
open Go.RowKit Go.Proofs.YtnnpfgpfkningaaW.PrintWords Go.Proofs.YtnnpfgpfkningaaW.PrintLast Go.Proofs.YtnnpfgpfkningaaW.PrintMore
attribute [local go_sem] max2_int min2_int max_two min_two max_three min_three max_four min_four   -- for this text's walks alone
attribute [local go_sem ↓ high] Go.Proofs.YtnnpfgpfkningaaX.isSome_setCell
set_option linter.unusedVariables false
set_option linter.unusedSimpArgs false
theorem ints_loop (l : List Int) (hl : l.length < 1000000) : ∀ (m i k : Nat), m + i = l.length → m < k → hyphenref1_Ints.l0 k l l i = some true
  | 0, i, k, hm, hk => by
    obtain ⟨k, rfl⟩ : ∃ j, k = j + 1 := ⟨k - 1, by omega⟩
    rw [hyphenref1_Ints.l0, if_neg (by omega)]
  | m + 1, i, k, hm, hk => by
    obtain ⟨k, rfl⟩ : ∃ j, k = j + 1 := ⟨k - 1, by omega⟩
    rw [hyphenref1_Ints.l0, if_pos (by omega), if_pos (by omega), if_pos (by omega), if_pos rfl, show wrap64 ((i : Int) + 1) = ((i + 1 : Nat) : Int) from by unfold wrap64; omega]
    exact ints_loop l hl m (i + 1) k (by omega) (by omega)
theorem ints_self (l : List Int) (hl : l.length < 1000000) (k : Nat) (hk : l.length < k) : hyphenref1_Ints.f k l l = some true := by
  unfold hyphenref1_Ints.f
  rw [if_pos rfl]
  exact ints_loop l hl l.length 0 k (by omega) hk
set_option maxRecDepth 100000 in
set_option maxHeartbeats 4000000 in
theorem same_eq (P0 : Option Addr) (p0 : Nat) (P1 : Option Addr) (p1 : Nat) (P2 : Option Addr) (p2 : Nat) (P3 : Option Addr) (p3 : Nat) (Q0 : Option Addr) (q0 : Nat) (Q1 : Option Addr) (q1 : Nat) (Q2 : Option Addr) (q2 : Nat) (Q3 : Option Addr) (q3 : Nat) (a b c : List Int) (l : List S51) (n : Int) (w : World)
    (hp0 : Kd.C (Kd.int .i64) w P0 a.length a) (kp0 : a.length ≤ p0) (hp1 : Kd.C (Kd.int .i64) w P1 b.length b) (kp1 : b.length ≤ p1) (hp2 : Kd.C (Kd.int .i64) w P2 c.length c) (kp2 : c.length ≤ p2) (hp3 : Kd.C k51 w P3 l.length l)
    (hq0 : Kd.C (Kd.int .i64) w Q0 a.length a) (kq0 : a.length ≤ q0) (hq1 : Kd.C (Kd.int .i64) w Q1 b.length b) (kq1 : b.length ≤ q1) (hq2 : Kd.C (Kd.int .i64) w Q2 c.length c) (kq2 : c.length ≤ q2) (hq3 : Kd.C k51 w Q3 l.length l) (na : a.length < 1000000) (nb : b.length < 1000000) (nc : c.length < 1000000) (nl : l.length < 1000000) :
    Calls Try.prog 16 #[.agg #[.slice P0 a.length p0, .slice P1 b.length p1, .slice P2 c.length p2, .slice P3 l.length p3, .int .i64 n], .agg #[.slice Q0 a.length q0, .slice Q1 b.length q1, .slice Q2 c.length q2, .slice Q3 l.length q3, .int .i64 n]] w fun e w' => e = .returned (.bool true) ∧ Below w.heap.size w w' := by
  have HRP0 := Aside0.mk hp0
  have HRP1 := Aside0.mk hp1
  have HRP2 := Aside0.mk hp2
  have HRP3 := Aside0.mk hp3
  have HLP0 := Aside0.mk kp0
  have HLP1 := Aside0.mk kp1
  have HLP2 := Aside0.mk kp2
  have HRQ0 := Aside0.mk hq0
  have HRQ1 := Aside0.mk hq1
  have HRQ2 := Aside0.mk hq2
  have HRQ3 := Aside0.mk hq3
  have HLQ0 := Aside0.mk kq0
  have HLQ1 := Aside0.mk kq1
  have HLQ2 := Aside0.mk kq2
  have HN0 := Aside0.mk na
  have HN1 := Aside0.mk nb
  have HN2 := Aside0.mk nc
  have HN3 := Aside0.mk nl
  have HB := Aside0.mk (Below.refl w.heap.size w)
  clear hp0 kp0 hp1 kp1 hp2 kp2 hp3 hq0 kq0 hq1 kq1 hq2 kq2 hq3 na nb nc nl
  have MK1 := True.intro
  have MK2 := True.intro
  have MK3 := True.intro
  go_enter Try.func16, Try.ntmps16
  go_upto_region 1 with (fail)
  obtain ⟨wL, hWm⟩ : ∃ Wm, (World.alloc (World.alloc w (.cells #[.slice P0 a.length p0, .slice P1 b.length p1, .slice P2 c.length p2, .slice P3 l.length p3, .int .i64 n] 39)) (.cells #[.slice Q0 a.length q0, .slice Q1 b.length q1, .slice Q2 c.length q2, .slice Q3 l.length q3, .int .i64 n] 39)) = Wm := ⟨_, rfl⟩
  rw [hWm]
  have hbs : Below w.heap.size w wL := hWm ▸ (below_alloc (below_alloc (Below.refl _ _) _) _)
  have hn_p : wL.heap[w.heap.size]? = some (.cells #[.slice P0 a.length p0, .slice P1 b.length p1, .slice P2 c.length p2, .slice P3 l.length p3, .int .i64 n] 39 (0, 0)) := hWm ▸ (blk_alloc (new_at rfl _) _)
  have hn_q : wL.heap[w.heap.size + 1]? = some (.cells #[.slice Q0 a.length q0, .slice Q1 b.length q1, .slice Q2 c.length q2, .slice Q3 l.length q3, .int .i64 n] 39 (0, 0)) := hWm ▸ (new_at ((size_alloc _ _).trans (congrArg (· + 1) rfl)) _)
  clear hWm
  have Hp := Aside0.mk hn_p
  have Hq := Aside0.mk hn_q
  clear hn_p
  clear hn_q
  have Hx_ := Aside0.mk (Kd.C_below HRP0.out hbs); clear HRP0; have HRP0 := Hx_; clear Hx_
  have Hx_ := Aside0.mk (Kd.C_below HRP1.out hbs); clear HRP1; have HRP1 := Hx_; clear Hx_
  have Hx_ := Aside0.mk (Kd.C_below HRP2.out hbs); clear HRP2; have HRP2 := Hx_; clear Hx_
  have Hx_ := Aside0.mk (Kd.C_below HRP3.out hbs); clear HRP3; have HRP3 := Hx_; clear Hx_
  have Hx_ := Aside0.mk (Kd.C_below HRQ0.out hbs); clear HRQ0; have HRQ0 := Hx_; clear Hx_
  have Hx_ := Aside0.mk (Kd.C_below HRQ1.out hbs); clear HRQ1; have HRQ1 := Hx_; clear Hx_
  have Hx_ := Aside0.mk (Kd.C_below HRQ2.out hbs); clear HRQ2; have HRQ2 := Hx_; clear Hx_
  have Hx_ := Aside0.mk (Kd.C_below HRQ3.out hbs); clear HRQ3; have HRQ3 := Hx_; clear Hx_
  have Hx_ := Aside0.mk (below_step HB.out hbs); clear HB; have HB := Hx_; clear Hx_
  have dp_0 := cellAt (i := 0) (u := .slice P0 a.length p0) Hp.out rfl
  have dp_1 := cellAt (i := 1) (u := .slice P1 b.length p1) Hp.out rfl
  have dp_2 := cellAt (i := 2) (u := .slice P2 c.length p2) Hp.out rfl
  have dp_3 := cellAt (i := 3) (u := .slice P3 l.length p3) Hp.out rfl
  have dp_4 := cellAt (i := 4) (u := .int .i64 n) Hp.out rfl
  have dq_0 := cellAt (i := 0) (u := .slice Q0 a.length q0) Hq.out rfl
  have dq_1 := cellAt (i := 1) (u := .slice Q1 b.length q1) Hq.out rfl
  have dq_2 := cellAt (i := 2) (u := .slice Q2 c.length q2) Hq.out rfl
  have dq_3 := cellAt (i := 3) (u := .slice Q3 l.length q3) Hq.out rfl
  have dq_4 := cellAt (i := 4) (u := .int .i64 n) Hq.out rfl
  go_wp2_with (first | (go_at_call 22; clear MK1; (with_reducible refine (hyphenref1_Ints.calls 1000001 P0 p0 a Q0 q0 a true _ (Kd.C_below HRP0.out (by first | (with_reducible exact Below.refl _ _) | (with_reducible exact pw_below_drewN (Below.refl _ _) _))) HLP0.out (Kd.C_below HRQ0.out (by first | (with_reducible exact Below.refl _ _) | (with_reducible exact pw_below_drewN (Below.refl _ _) _))) HLQ0.out (ints_self a HN0.out 1000001 (by have := HN0.out; omega))).mono ?_); rintro e wq ⟨rfl, ⟨m0, rfl⟩⟩) | (go_at_call 22; clear MK2; (with_reducible refine (hyphenref1_Ints.calls 1000001 P1 p1 b Q1 q1 b true _ (Kd.C_below HRP1.out (by first | (with_reducible exact Below.refl _ _) | (with_reducible exact pw_below_drewN (Below.refl _ _) _))) HLP1.out (Kd.C_below HRQ1.out (by first | (with_reducible exact Below.refl _ _) | (with_reducible exact pw_below_drewN (Below.refl _ _) _))) HLQ1.out (ints_self b HN1.out 1000001 (by have := HN1.out; omega))).mono ?_); rintro e wq ⟨rfl, ⟨m1, rfl⟩⟩) | (go_at_call 22; clear MK3; (with_reducible refine (hyphenref1_Ints.calls 1000001 P2 p2 c Q2 q2 c true _ (Kd.C_below HRP2.out (by first | (with_reducible exact Below.refl _ _) | (with_reducible exact pw_below_drewN (Below.refl _ _) _))) HLP2.out (Kd.C_below HRQ2.out (by first | (with_reducible exact Below.refl _ _) | (with_reducible exact pw_below_drewN (Below.refl _ _) _))) HLQ2.out (ints_self c HN2.out 1000001 (by have := HN2.out; omega))).mono ?_); rintro e wq ⟨rfl, ⟨m2, rfl⟩⟩))
  go_loopw [5] (fun v5 W => ∃ i : Nat, v5 = .int .i64 (i : Int) ∧ Aside0 (i ≤ l.length) ∧ Aside0 (Below wL.heap.size wL W)) (fun v5 _ => l.length - (intOf v5).toNat)
  case atStart => exact ⟨0, rfl, ⟨Nat.zero_le _⟩, ⟨by first | exact pw_below_drewN (Below.refl _ _) _ | exact Below.refl _ _⟩⟩
  case round =>
    obtain ⟨i, rfl, HI, HW⟩ := hrel
    have hN := HN3.out
    by_cases hi : i < l.length
    · have HIL := Aside0.mk hi
      have iw : IntKind.i64.wrap ((i : Int) + 1) = (i : Int) + 1 := by rw [i64_w]; unfold wrap64; omega
      have c1 : decide ((i : Int) < (l.length : Int)) = true := decide_eq_true (by omega)
      have c2 : decide (i < l.length) = true := decide_eq_true hi
      have c3 : (i < l.length) = True := eq_true hi
      obtain ⟨adP, eP, a0, a1, a2⟩ := at_T51 (Kd.C_below HRP3.out HW.out) (i : Int) (by omega) (by omega)
      subst eP
      obtain ⟨adQ, eQ, b0, b1, b2⟩ := at_T51 (Kd.C_below HRQ3.out HW.out) (i : Int) (by omega) (by omega)
      subst eQ
      obtain ⟨z, hz⟩ : ∃ z, rd_T51 l (i : Int) = z := ⟨_, rfl⟩
      rw [hz, Int.toNat_natCast] at a0 a1 a2 b0 b1 b2
      clear hz hi hN
      have dp_0 := cellAt (i := 0) (u := .slice P0 a.length p0) (blk_below Hp.out HW.out) rfl
      have dp_1 := cellAt (i := 1) (u := .slice P1 b.length p1) (blk_below Hp.out HW.out) rfl
      have dp_2 := cellAt (i := 2) (u := .slice P2 c.length p2) (blk_below Hp.out HW.out) rfl
      have dp_3 := cellAt (i := 3) (u := .slice (some adP) l.length p3) (blk_below Hp.out HW.out) rfl
      have dp_4 := cellAt (i := 4) (u := .int .i64 n) (blk_below Hp.out HW.out) rfl
      have dq_0 := cellAt (i := 0) (u := .slice Q0 a.length q0) (blk_below Hq.out HW.out) rfl
      have dq_1 := cellAt (i := 1) (u := .slice Q1 b.length q1) (blk_below Hq.out HW.out) rfl
      have dq_2 := cellAt (i := 2) (u := .slice Q2 c.length q2) (blk_below Hq.out HW.out) rfl
      have dq_3 := cellAt (i := 3) (u := .slice (some adQ) l.length q3) (blk_below Hq.out HW.out) rfl
      have dq_4 := cellAt (i := 4) (u := .int .i64 n) (blk_below Hq.out HW.out) rfl
      go_wp2
      go_quiet (fail)
      go_wp2
      exact ⟨⟨i + 1, rfl, ⟨by have := HIL.out; omega⟩, ⟨by first | exact HW.out | exact pw_below_drewN HW.out _⟩⟩, by have := HIL.out; simp only [intOf]; omega⟩
    · have c1 : decide ((i : Int) < (l.length : Int)) = false := decide_eq_false (by omega)
      have c2 : decide (i < l.length) = false := decide_eq_false hi
      clear hi hN
      have dp_0 := cellAt (i := 0) (u := .slice P0 a.length p0) (blk_below Hp.out HW.out) rfl
      have dp_1 := cellAt (i := 1) (u := .slice P1 b.length p1) (blk_below Hp.out HW.out) rfl
      have dp_2 := cellAt (i := 2) (u := .slice P2 c.length p2) (blk_below Hp.out HW.out) rfl
      have dp_3 := cellAt (i := 3) (u := .slice P3 l.length p3) (blk_below Hp.out HW.out) rfl
      have dp_4 := cellAt (i := 4) (u := .int .i64 n) (blk_below Hp.out HW.out) rfl
      go_wp2
      go_ret
      exact ⟨rfl, below_step HB.out HW.out⟩
end Go.Proofs.Ytnnpfgpfkningaa.P
namespace Go.Proofs.Ytnnpfgpfkningaa.P
open Go.RowKit Go.Proofs.YtnnpfgpfkningaaW.PrintWords Go.Proofs.YtnnpfgpfkningaaW.PrintLast Go.Proofs.YtnnpfgpfkningaaW.PrintMore
attribute [local go_sem] max2_int min2_int max_two min_two max_three min_three max_four min_four   -- for this text's walks alone
attribute [local go_sem ↓ high] Go.Proofs.YtnnpfgpfkningaaX.isSome_setCell
set_option linter.unusedVariables false
set_option linter.unusedSimpArgs false
theorem eqA51 (d : Nat) (w : World) (x0 y0 : Int) (x1 y1 : Int) (x2 y2 : Int) :
  (Op.equalIn (d + 2) 51 (.agg #[.int .i64 x0, .int .i64 x1, .int .i64 x2]) (.agg #[.int .i64 y0, .int .i64 y1, .int .i64 y2])).run Try.prog w = .ok (x0 == y0 && (x1 == y1 && (x2 == y2))) w := by
 refine eqA_of Try.underlying51 (by kernel_rfl) ?_
 refine eqf_cons (by rfl) (by go_simp; rfl) (by go_simp; rfl) (by go_simp) ?_
 refine eqf_cons (by rfl) (by go_simp; rfl) (by go_simp; rfl) (by go_simp) ?_
 exact eqf_last (by rfl) (by go_simp; rfl) (by go_simp; rfl) (by go_simp)
end Go.Proofs.Ytnnpfgpfkningaa.P
namespace Go.Proofs.Ytnnpfgpfkningaa.P
open Go.RowKit Go.Proofs.YtnnpfgpfkningaaW.PrintWords Go.Proofs.YtnnpfgpfkningaaW.PrintLast Go.Proofs.YtnnpfgpfkningaaW.PrintMore
attribute [local go_sem] max2_int min2_int max_two min_two max_three min_three max_four min_four   -- for this text's walks alone
attribute [local go_sem ↓ high] Go.Proofs.YtnnpfgpfkningaaX.isSome_setCell
set_option linter.unusedVariables false
set_option linter.unusedSimpArgs false
attribute [local go_sem high] eqA51
mutual
def hyphenref7_Same.j0 : Nat → Bool → List Int → List Int → List Int → List (S51) → Int → List Int → List Int → List Int → List (S51) → Int → Option (Bool)
 | 0, _, _, _, _, _, _, _, _, _, _, _ => none
 | k + 1, x43, x455000, x455001, x455002, x455003, x455004, x456000, x456001, x456002, x456003, x456004 => if x43 = true then (some false) else (hyphenref7_Same.l0 k 0 x455000 x455001 x455002 x455003 x455004 x456000 x456001 x456002 x456003 x456004)
def hyphenref7_Same.l0 : Nat → Int → List Int → List Int → List Int → List (S51) → Int → List Int → List Int → List Int → List (S51) → Int → Option (Bool)
 | 0, _, _, _, _, _, _, _, _, _, _, _ => none
 | k + 1, x5, x455000, x455001, x455002, x455003, x455004, x456000, x456001, x456002, x456003, x456004 => if x5 < (x455003.length : Int) then (if 0 ≤ x5 then (if x5 < (x456003.length : Int) then (if (!(((rd_T51 x455003 x5).f0) == ((rd_T51 x456003 x5).f0)) || (!(((rd_T51 x455003 x5).f1) == ((rd_T51 x456003 x5).f1)) || (!(((rd_T51 x455003 x5).f2) == ((rd_T51 x456003 x5).f2))))) = true then (some false) else (hyphenref7_Same.l0 k (wrap64 (x5 + 1)) x455000 x455001 x455002 x455003 x455004 x456000 x456001 x456002 x456003 x456004)) else (none)) else (none)) else (some true)
end
def hyphenref7_Same.f (k : Nat) (l0_0 : List Int) (l0_1 : List Int) (l0_2 : List Int) (l0_3 : List (S51)) (a0_4 : Int) (l1_0 : List Int) (l1_1 : List Int) (l1_2 : List Int) (l1_3 : List (S51)) (a1_4 : Int) : Option (Bool) := (hyphenref1_Ints.f k l0_0 l1_0).bind fun t456 => (if t456 = true then ((hyphenref1_Ints.f k l0_1 l1_1).bind fun t457 => (if t457 = true then ((hyphenref1_Ints.f k l0_2 l1_2).bind fun t458 => (if t458 = true then (if a0_4 = a1_4 then (hyphenref7_Same.j0 k ((l0_3.length : Int) != (l1_3.length : Int)) l0_0 l0_1 l0_2 l0_3 a0_4 l1_0 l1_1 l1_2 l1_3 a1_4) else (hyphenref7_Same.j0 k true l0_0 l0_1 l0_2 l0_3 a0_4 l1_0 l1_1 l1_2 l1_3 a1_4)) else (hyphenref7_Same.j0 k true l0_0 l0_1 l0_2 l0_3 a0_4 l1_0 l1_1 l1_2 l1_3 a1_4))) else (hyphenref7_Same.j0 k true l0_0 l0_1 l0_2 l0_3 a0_4 l1_0 l1_1 l1_2 l1_3 a1_4))) else (hyphenref7_Same.j0 k true l0_0 l0_1 l0_2 l0_3 a0_4 l1_0 l1_1 l1_2 l1_3 a1_4))
end Go.Proofs.Ytnnpfgpfkningaa.P
namespace Go.Proofs.Ytnnpfgpfkningaa.P
open Go.RowKit Go.Proofs.YtnnpfgpfkningaaW.PrintWords Go.Proofs.YtnnpfgpfkningaaW.PrintLast Go.Proofs.YtnnpfgpfkningaaW.PrintMore
attribute [local go_sem] max2_int min2_int max_two min_two max_three min_three max_four min_four   -- for this text's walks alone
attribute [local go_sem ↓ high] Go.Proofs.YtnnpfgpfkningaaX.isSome_setCell
set_option linter.unusedVariables false
set_option linter.unusedSimpArgs false
def joins (l ops : List S51) : List S51 := ops.foldl joinA l
def shA (n : Int) (a : S51) : S51 := ⟨a.f0 + n, a.f1 + n, a.f2⟩
theorem joins_nil (l : List S51) : joins l [] = l := rfl
theorem joins_cons (l : List S51) (a : S51) (ops : List S51) : joins l (a :: ops) = joins (joinA l a) ops := rfl
theorem joins_append (l o p : List S51) : joins l (o ++ p) = joins (joins l o) p := List.foldl_append
theorem joins_up {l : List S51} (h : ArcsUp l) : ∀ ops, ArcsUp (joins l ops) := by
  intro ops
  induction ops generalizing l with
  | nil => exact h
  | cons a ops ih => exact ih (joinA_up h a)
theorem joinA_comm {l : List S51} (h : ArcsUp l) (a b : S51) : joinA (joinA l a) b = joinA (joinA l b) a := by
  refine arcs_ext (joinA_up (joinA_up h a) b) (joinA_up (joinA_up h b) a) (fun f t => ?_)
  rw [lkA_join (joinA_up h a), lkA_join h, lkA_join (joinA_up h b), lkA_join h]
  generalize lkA l f t = L
  by_cases c : a.f0 = f ∧ a.f1 = t <;> by_cases d : b.f0 = f ∧ b.f1 = t <;> simp only [c, d, if_true, if_false, and_self]
  split <;> split <;> (try split) <;> omega
theorem joins_perm {o p : List S51} (h : o.Perm p) : ∀ {l : List S51}, ArcsUp l → joins l o = joins l p := by
  induction h with
  | nil => intro l _; rfl
  | cons a _ ih => intro l hl; exact ih (joinA_up hl a)
  | swap a b o => intro l hl; rw [joins_cons, joins_cons, joins_cons, joins_cons, joinA_comm hl]
  | trans _ _ ih1 ih2 => intro l hl; exact (ih1 hl).trans (ih2 hl)
theorem insA_append (P L : List S51) (a : S51) (h : ∀ x ∈ P, x.f0 < a.f0) : insA a (P ++ L) = P ++ insA a L := by
  induction P with
  | nil => rfl
  | cons b P ih =>
    have hb := h b List.mem_cons_self
    rw [List.cons_append, insA, if_pos (show aLt b a from .inl hb), ih (fun x hx => h x (List.mem_cons_of_mem _ hx)), List.cons_append]
theorem joinA_append (P L : List S51) (a : S51) (h : ∀ x ∈ P, x.f0 < a.f0) : joinA (P ++ L) a = P ++ joinA L a := by
  unfold joinA
  split
  · exact insA_append P L a h
  · rfl
theorem joins_prefix (P : List S51) : ∀ (ops L : List S51), (∀ o ∈ ops, ∀ x ∈ P, x.f0 < o.f0) → joins (P ++ L) ops = P ++ joins L ops
  | [], L, _ => rfl
  | a :: ops, L, h => by
    rw [joins_cons, joinA_append P L a (h a List.mem_cons_self), joins_prefix P ops _ (fun o ho => h o (List.mem_cons_of_mem _ ho)), joins_cons]
theorem insA_sh (n : Int) (a : S51) : ∀ L : List S51, insA (shA n a) (L.map (shA n)) = (insA a L).map (shA n)
  | [] => rfl
  | b :: L => by
    have ih := insA_sh n a L
    have e1 : aLt (shA n b) (shA n a) ↔ aLt b a := by unfold aLt shA; constructor <;> intro h <;> (simp only at *; omega)
    have e2 : ((shA n b).f0 = (shA n a).f0 ∧ (shA n b).f1 = (shA n a).f1) ↔ (b.f0 = a.f0 ∧ b.f1 = a.f1) := by unfold shA; constructor <;> intro h <;> (simp only at *; omega)
    rw [List.map_cons, insA, insA]
    by_cases h1 : aLt b a
    · rw [if_pos (e1.2 h1), if_pos h1, ih, List.map_cons]
    · rw [if_neg (fun q => h1 (e1.1 q)), if_neg h1]
      by_cases h2 : b.f0 = a.f0 ∧ b.f1 = a.f1
      · rw [if_pos (e2.2 h2), if_pos h2]; rfl
      · rw [if_neg (fun q => h2 (e2.1 q)), if_neg h2]; rfl
theorem joinA_sh (n : Int) (a : S51) (L : List S51) : joinA (L.map (shA n)) (shA n a) = (joinA L a).map (shA n) := by
  unfold joinA
  rw [show (shA n a).f2 = a.f2 from rfl]
  split
  · exact insA_sh n a L
  · rfl
theorem joins_sh (n : Int) : ∀ (ops L : List S51), joins (L.map (shA n)) (ops.map (shA n)) = (joins L ops).map (shA n)
  | [], L => rfl
  | a :: ops, L => by rw [List.map_cons, joins_cons, joinA_sh, joins_sh n ops, joins_cons]
theorem joins_filter : ∀ (ops L : List S51), joins L (ops.filter (fun a => decide (a.f2 < tinf))) = joins L ops
  | [], L => rfl
  | a :: ops, L => by
    rw [joins_cons]
    by_cases h : a.f2 < tinf
    · rw [List.filter_cons_of_pos (by simpa using h), joins_cons, joins_filter ops]
    · rw [List.filter_cons_of_neg (by simpa using h), joins_filter ops, show joinA L a = L from by unfold joinA; rw [if_neg h]]
theorem up_sh {l : List S51} (n : Int) (h : ArcsUp l) : ArcsUp (l.map (shA n)) where
  up := List.pairwise_map.2 (h.up.imp (fun {a b} hab => by unfold aLt shA at *; simp only; omega))
  low a ha := by obtain ⟨b, hb, rfl⟩ := List.mem_map.1 ha; exact h.low b hb
theorem up_append {P L : List S51} (h : ArcsUp P) (k : ArcsUp L) (hl : ∀ x ∈ P, ∀ y ∈ L, x.f0 < y.f0) : ArcsUp (P ++ L) where
  up := List.pairwise_append.2 ⟨h.up, k.up, fun x hx y hy => .inl (hl x hx y hy)⟩
  low a ha := (List.mem_append.1 ha).elim (h.low a) (k.low a)
theorem joinA_mem {a x : S51} {l : List S51} (h : x ∈ joinA l a) : (x.f0 = a.f0 ∧ x.f1 = a.f1) ∨ x ∈ l := by
  unfold joinA at h
  split at h
  · exact insA_mem a l x h
  · exact .inr h
theorem joins_mem {x : S51} : ∀ {ops l : List S51}, x ∈ joins l ops → (∃ a ∈ ops, x.f0 = a.f0 ∧ x.f1 = a.f1) ∨ x ∈ l
  | [], l, h => .inr h
  | a :: ops, l, h => by
    rcases joins_mem (ops := ops) h with ⟨b, hb, e⟩ | h
    · exact .inl ⟨b, List.mem_cons_of_mem _ hb, e⟩
    · rcases joinA_mem h with e | h
      · exact .inl ⟨a, List.mem_cons_self, e⟩
      · exact .inr h
/-- Values: nothing to tinf. -/
def tv (x : Int) : Prop := 0 ≤ x ∧ x ≤ tinf
theorem tadd_v {a b : Int} (ha : tv a) (hb : tv b) : tadd a b = if a + b < tinf then a + b else tinf := by
  unfold tv tinf at *
  unfold tadd mn wrap64
  split <;> split <;> split <;> split <;> omega
theorem tv_tadd {a b : Int} (ha : tv a) (hb : tv b) : tv (tadd a b) := by
  rw [tadd_v ha hb]; unfold tv tinf at *; split <;> omega
theorem tadd_comm_ {a b : Int} (ha : tv a) (hb : tv b) : tadd a b = tadd b a := by
  rw [tadd_v ha hb, tadd_v hb ha]; split <;> split <;> omega
theorem tadd_assoc_ {a b c : Int} (ha : tv a) (hb : tv b) (hc : tv c) : tadd (tadd a b) c = tadd a (tadd b c) := by
  rw [tadd_v (tv_tadd ha hb) hc, tadd_v ha (tv_tadd hb hc), tadd_v ha hb, tadd_v hb hc]
  unfold tv at *
  by_cases h1 : a + b < tinf <;> by_cases h2 : b + c < tinf <;> simp only [h1, h2, if_true, if_false] <;> split <;> split <;> omega
theorem tv0 : tv 0 := ⟨Int.le_refl _, by decide⟩
theorem tvI : tv tinf := ⟨by decide, Int.le_refl _⟩
theorem tadd_0 {a : Int} (ha : tv a) : tadd a 0 = a := by rw [tadd_v ha tv0]; unfold tv at ha; split <;> omega
theorem tadd_0l {a : Int} (ha : tv a) : tadd 0 a = a := by rw [tadd_v tv0 ha]; unfold tv at ha; split <;> omega
theorem tadd_I {a b : Int} (ha : tv a) (hb : tv b) (h : ¬ a < tinf) : tadd a b = tinf := by rw [tadd_v ha hb]; unfold tv at *; split <;> omega
theorem tadd_Ir {a b : Int} (ha : tv a) (hb : tv b) (h : ¬ b < tinf) : tadd a b = tinf := by rw [tadd_v ha hb]; unfold tv at *; split <;> omega
/-- All of a row's numbers as spots, from a position on; those that may be. -/
def spA : Int → List Int → List S94
  | _, [] => []
  | n, v :: l => ⟨n, v⟩ :: spA (n + 1) l
def sp (n : Int) (l : List Int) : List S94 := (spA n l).filter (fun s => decide (s.f1 < tinf))
theorem spA_append (n : Int) : ∀ (a b : List Int), spA n (a ++ b) = spA n a ++ spA (n + a.length) b
  | [], b => by simp [spA]
  | v :: a, b => by
    rw [List.cons_append, spA, spA_append (n + 1) a b, spA, List.cons_append, List.length_cons]
    congr 3; omega
theorem sp_append (n : Int) (a b : List Int) : sp n (a ++ b) = sp n a ++ sp (n + a.length) b := by unfold sp; rw [spA_append, List.filter_append]
theorem spA_at (s : S94) : ∀ {n : Int} {l : List Int}, s ∈ spA n l → n ≤ s.f0 ∧ s.f0 < n + l.length ∧ s.f1 ∈ l
  | n, [], h => by cases h
  | n, v :: l, h => by
    rw [spA] at h
    rcases List.mem_cons.1 h with rfl | h
    · exact ⟨Int.le_refl _, by simp; omega, List.mem_cons_self⟩
    · obtain ⟨h1, h2, h3⟩ := spA_at s h
      exact ⟨by omega, by simp; omega, List.mem_cons_of_mem _ h3⟩
theorem sp_at {s : S94} {n : Int} {l : List Int} (h : s ∈ sp n l) : n ≤ s.f0 ∧ s.f0 < n + l.length ∧ s.f1 ∈ l := spA_at s (List.mem_filter.1 h).1
theorem spA_len : ∀ (n : Int) (l : List Int), (spA n l).length = l.length
  | _, [] => rfl
  | n, v :: l => by rw [spA, List.length_cons, spA_len (n + 1) l, List.length_cons]
theorem sp_len (n : Int) (l : List Int) : (sp n l).length ≤ l.length := by
  unfold sp; exact Nat.le_trans (List.length_filter_le _ _) (by rw [spA_len]; exact Nat.le_refl _)
theorem dear_sp (c : Int) (hc : tv c) : ∀ (n : Int) (l : List Int), (∀ v ∈ l, tv v) → dearS (sp n l) c = sp n (l.map (fun v => tadd v c))
  | _, [], _ => rfl
  | n, v :: l, h => by
    have ih := dear_sp c hc (n + 1) l (fun x hx => h x (List.mem_cons_of_mem _ hx))
    have hv := h v List.mem_cons_self
    unfold sp dearS at *
    rw [List.map_cons, spA, spA]
    by_cases h1 : v < tinf
    · rw [List.filter_cons_of_pos (by simpa using h1), List.map_cons]
      by_cases h2 : tadd v c < tinf
      · rw [List.filter_cons_of_pos (by simpa using h2), List.filter_cons_of_pos (by simpa using h2), ih]
      · rw [List.filter_cons_of_neg (by simpa using h2), List.filter_cons_of_neg (by simpa using h2), ih]
    · have h2 : ¬ tadd v c < tinf := by rw [tadd_I hv hc h1]; exact Int.lt_irrefl _
      rw [List.filter_cons_of_neg (by simpa using h1), List.filter_cons_of_neg (by simpa using h2), ih]
theorem sp_shift (m : Int) : ∀ (n : Int) (l : List Int), spA (n + m) l = (spA n l).map (fun s => ⟨s.f0 + m, s.f1⟩)
  | _, [] => rfl
  | n, v :: l => by rw [spA, spA, List.map_cons, ← sp_shift m (n + 1) l, show n + 1 + m = n + m + 1 from by omega]
/-- The arcs from some ends to some beginnings, at a cost. -/
def opsC (E F : List S94) (c : Int) : List S51 := E.flatMap fun a => F.map fun b => ⟨a.f0, b.f0, tadd (tadd a.f1 c) b.f1⟩
theorem linkA_joins (c : Int) (a : S94) : ∀ (F : List S94) (l : List S51), linkA l c a F = joins l (F.map fun b => ⟨a.f0, b.f0, tadd (tadd a.f1 c) b.f1⟩)
  | [], l => rfl
  | b :: F, l => by
    have := linkA_joins c a F (joinA l ⟨a.f0, b.f0, tadd (tadd a.f1 c) b.f1⟩)
    unfold linkA at *
    rw [List.foldl_cons, this]; rfl
theorem linkL_joins (F : List S94) (c : Int) : ∀ (E : List S94) (l : List S51), linkL l E F c = joins l (opsC E F c)
  | [], l => rfl
  | a :: E, l => by
    have := linkL_joins F c E (linkA l c a F)
    unfold linkL at *
    rw [List.foldl_cons, this, linkA_joins, ← joins_append]; rfl
/-- What may not be joined may be left out. -/
theorem opsC_sp (c : Int) (hc : tv c) (n m : Int) (E F : List Int) (hE : ∀ v ∈ E, tv v) (hF : ∀ v ∈ F, tv v) (l : List S51) : joins l (opsC (sp n E) (sp m F) c) = joins l (opsC (spA n E) (spA m F) c) := by
  rw [← joins_filter, ← joins_filter (opsC (spA n E) (spA m F) c)]
  congr 1
  have inner : ∀ (a : S94), tv a.f1 → ((sp m F).map fun b => (⟨a.f0, b.f0, tadd (tadd a.f1 c) b.f1⟩ : S51)).filter (fun a => decide (a.f2 < tinf)) = ((spA m F).map fun b => (⟨a.f0, b.f0, tadd (tadd a.f1 c) b.f1⟩ : S51)).filter (fun a => decide (a.f2 < tinf)) := by
    intro a ha
    unfold sp
    have hF' : ∀ s ∈ spA m F, tv s.f1 := fun s hs => hF _ (spA_at s hs).2.2
    generalize spA m F = G at hF'
    induction G with
    | nil => rfl
    | cons b G ih =>
      have ih := ih (fun s hs => hF' s (List.mem_cons_of_mem _ hs))
      have hb := hF' b List.mem_cons_self
      by_cases h1 : b.f1 < tinf
      · rw [List.filter_cons_of_pos (by simpa using h1), List.map_cons, List.map_cons, List.filter_cons, List.filter_cons, ih]
      · have h2 : ¬ tadd (tadd a.f1 c) b.f1 < tinf := by rw [tadd_Ir (tv_tadd ha hc) hb h1]; exact Int.lt_irrefl _
        rw [List.filter_cons_of_neg (by simpa using h1), List.map_cons, List.filter_cons_of_neg (by simpa using h2), ih]
  have hE' : ∀ s ∈ spA n E, tv s.f1 := fun s hs => hE _ (spA_at s hs).2.2
  unfold sp opsC at *
  generalize spA n E = G at hE'
  induction G with
  | nil => rfl
  | cons a G ih =>
    have ih := ih (fun s hs => hE' s (List.mem_cons_of_mem _ hs))
    have ha := hE' a List.mem_cons_self
    by_cases h1 : a.f1 < tinf
    · rw [List.filter_cons_of_pos (by simpa using h1), List.flatMap_cons, List.flatMap_cons, List.filter_append, List.filter_append, ih, inner a ha]
    · rw [List.filter_cons_of_neg (by simpa using h1), List.flatMap_cons, List.filter_append, ih]
      have : ((spA m F).map fun b => (⟨a.f0, b.f0, tadd (tadd a.f1 c) b.f1⟩ : S51)).filter (fun a => decide (a.f2 < tinf)) = [] := by
        refine List.filter_eq_nil_iff.2 (fun x hx => ?_)
        obtain ⟨b, hb, rfl⟩ := List.mem_map.1 hx
        have h2 : ¬ tadd (tadd a.f1 c) b.f1 < tinf := by
          rw [tadd_I ha hc h1, tadd_I tvI (hF _ (spA_at b hb).2.2) (Int.lt_irrefl _)]; exact Int.lt_irrefl _
        simpa using h2
      rw [this, List.nil_append]
theorem opsC_mem {E F : List S94} {c : Int} {o : S51} (h : o ∈ opsC E F c) : ∃ a ∈ E, ∃ b ∈ F, o = ⟨a.f0, b.f0, tadd (tadd a.f1 c) b.f1⟩ := by
  obtain ⟨a, ha, h⟩ := List.mem_flatMap.1 h
  obtain ⟨b, hb, rfl⟩ := List.mem_map.1 h
  exact ⟨a, ha, b, hb, rfl⟩
theorem opsC_sh (n c : Int) (E F : List S94) : (opsC E F c).map (shA n) = opsC (E.map fun s => ⟨s.f0 + n, s.f1⟩) (F.map fun s => ⟨s.f0 + n, s.f1⟩) c := by
  unfold opsC
  rw [List.map_flatMap, List.flatMap_map]
  congr 1; funext a
  rw [List.map_map, List.map_map]; rfl
theorem opsC_perm (E F G : List S94) (c : Int) : (opsC E (F ++ G) c).Perm (opsC E F c ++ opsC E G c) := by
  unfold opsC
  induction E with
  | nil => exact List.Perm.refl _
  | cons a E ih =>
    rw [List.flatMap_cons, List.flatMap_cons, List.flatMap_cons, List.map_append]
    refine (List.Perm.append_left _ ih).trans ?_
    generalize F.map _ = A, G.map _ = B, E.flatMap _ = C, E.flatMap _ = D
    rw [List.append_assoc, List.append_assoc]
    refine List.Perm.append_left A ?_
    rw [← List.append_assoc, ← List.append_assoc]
    exact List.Perm.append_right _ List.perm_append_comm
structure Sd where
  sets : List Int
  first : List Int
  ends : List Int
  arcs : List S51
  none : Int
structure SdOk (s : Sd) : Prop where
  lf : s.first.length = s.sets.length
  le : s.ends.length = s.sets.length
  vf : ∀ v ∈ s.first, tv v
  ve : ∀ v ∈ s.ends, tv v
  vn : tv s.none
  up : ArcsUp s.arcs
  rng : ∀ a ∈ s.arcs, 0 ≤ a.f0 ∧ a.f0 < (s.sets.length : Int) ∧ 0 ≤ a.f1 ∧ a.f1 < (s.sets.length : Int)
def noneS : Sd := ⟨[], [], [], [], 0⟩
def posS (k : Int) : Sd := ⟨[k], [0], [0], [], tinf⟩
def catS (a b : Sd) : Sd := ⟨a.sets ++ b.sets, a.first ++ b.first.map (fun v => tadd v a.none), a.ends.map (fun v => tadd v b.none) ++ b.ends, joins (a.arcs ++ b.arcs.map (shA (a.sets.length : Int))) (opsC (spA 0 a.ends) (spA (a.sets.length : Int) b.first) 0), tadd a.none b.none⟩
def altS (a b : Sd) : Sd := ⟨a.sets ++ b.sets, a.first ++ b.first, a.ends ++ b.ends, a.arcs ++ b.arcs.map (shA (a.sets.length : Int)), mn a.none b.none⟩
def starS (a : Sd) : Sd := ⟨a.sets, a.first, a.ends, joins a.arcs (opsC (spA 0 a.ends) (spA 0 a.first) 0), 0⟩
def wgtS (a : Sd) (w : Int) : Sd := ⟨a.sets, a.first.map (fun v => tadd v w), a.ends, a.arcs, tadd a.none w⟩
def zeroN (b : Bool) (s : Sd) : Sd := if b then { s with none := 0 } else s
/-- Copies k, k + 1, .., so many. -/
def tmS (a : Sd) (lo : Int) : Nat → Nat → Sd
  | 0, _ => noneS
  | m + 1, k => zeroN (decide ((k : Int) > lo)) (catS a (tmS a lo m (k + 1)))
theorem upNil : ArcsUp ([] : List S51) := ⟨List.Pairwise.nil, fun a h => by cases h⟩
theorem okNone : SdOk noneS := ⟨rfl, rfl, fun _ h => absurd h List.not_mem_nil, fun _ h => absurd h List.not_mem_nil, tv0, upNil, fun _ h => absurd h List.not_mem_nil⟩
theorem okPos (k : Int) : SdOk (posS k) := ⟨rfl, rfl, fun v h => by rw [List.mem_singleton.1 h]; exact tv0, fun v h => by rw [List.mem_singleton.1 h]; exact tv0, tvI, upNil, fun _ h => absurd h List.not_mem_nil⟩
theorem up_both {a b : Sd} (ha : SdOk a) (hb : SdOk b) : ArcsUp (a.arcs ++ b.arcs.map (shA (a.sets.length : Int))) := by
  refine up_append ha.up (up_sh _ hb.up) (fun x hx y hy => ?_)
  obtain ⟨y', hy', rfl⟩ := List.mem_map.1 hy
  have := ha.rng x hx
  have := hb.rng y' hy'
  show x.f0 < y'.f0 + _
  omega
theorem rng_both {a b : Sd} (ha : SdOk a) (hb : SdOk b) : ∀ x ∈ a.arcs ++ b.arcs.map (shA (a.sets.length : Int)), 0 ≤ x.f0 ∧ x.f0 < ((a.sets ++ b.sets).length : Int) ∧ 0 ≤ x.f1 ∧ x.f1 < ((a.sets ++ b.sets).length : Int) := by
  intro x hx
  rw [List.length_append]
  rcases List.mem_append.1 hx with hx | hx
  · have := ha.rng x hx; omega
  · obtain ⟨y, hy, rfl⟩ := List.mem_map.1 hx
    have := hb.rng y hy
    show 0 ≤ y.f0 + _ ∧ y.f0 + _ < _ ∧ 0 ≤ y.f1 + _ ∧ y.f1 + _ < _
    omega
theorem okCat {a b : Sd} (ha : SdOk a) (hb : SdOk b) : SdOk (catS a b) where
  lf := by simp [catS, ha.lf, hb.lf]
  le := by simp [catS, ha.le, hb.le]
  vf v h := by
    rcases List.mem_append.1 h with h | h
    · exact ha.vf v h
    · obtain ⟨u, hu, rfl⟩ := List.mem_map.1 h; exact tv_tadd (hb.vf u hu) ha.vn
  ve v h := by
    rcases List.mem_append.1 h with h | h
    · obtain ⟨u, hu, rfl⟩ := List.mem_map.1 h; exact tv_tadd (ha.ve u hu) hb.vn
    · exact hb.ve v h
  vn := tv_tadd ha.vn hb.vn
  up := joins_up (up_both ha hb) _
  rng x hx := by
    rcases joins_mem hx with ⟨o, ho, e1, e2⟩ | hx
    · obtain ⟨s, hs, t, ht, rfl⟩ := opsC_mem ho
      have h1 := spA_at s hs
      have h2 := spA_at t ht
      simp only at e1 e2
      have := ha.le
      have := hb.lf
      rw [e1, e2]
      simp only [catS, List.length_append]
      omega
    · exact rng_both ha hb x hx
theorem okAlt {a b : Sd} (ha : SdOk a) (hb : SdOk b) : SdOk (altS a b) where
  lf := by simp [altS, ha.lf, hb.lf]
  le := by simp [altS, ha.le, hb.le]
  vf v h := (List.mem_append.1 h).elim (ha.vf v) (hb.vf v)
  ve v h := (List.mem_append.1 h).elim (ha.ve v) (hb.ve v)
  vn := by have := ha.vn; have := hb.vn; show tv (mn a.none b.none); unfold mn; split <;> assumption
  up := up_both ha hb
  rng := rng_both ha hb
theorem okStar {a : Sd} (ha : SdOk a) : SdOk (starS a) where
  lf := ha.lf
  le := ha.le
  vf := ha.vf
  ve := ha.ve
  vn := tv0
  up := joins_up ha.up _
  rng x hx := by
    rcases joins_mem hx with ⟨o, ho, e1, e2⟩ | hx
    · obtain ⟨s, hs, t, ht, rfl⟩ := opsC_mem ho
      have h1 := spA_at s hs
      have h2 := spA_at t ht
      simp only at e1 e2
      have := ha.le
      have := ha.lf
      rw [e1, e2]
      simp only [starS]
      omega
    · exact ha.rng x hx
theorem okWgt {a : Sd} (ha : SdOk a) {w : Int} (hw : tv w) : SdOk (wgtS a w) where
  lf := by simp [wgtS, ha.lf]
  le := ha.le
  vf v h := by obtain ⟨u, hu, rfl⟩ := List.mem_map.1 h; exact tv_tadd (ha.vf u hu) hw
  ve := ha.ve
  vn := tv_tadd ha.vn hw
  up := ha.up
  rng := ha.rng
theorem okZero {a : Sd} (ha : SdOk a) (b : Bool) : SdOk (zeroN b a) := by
  unfold zeroN
  split
  · exact ⟨ha.lf, ha.le, ha.vf, ha.ve, tv0, ha.up, ha.rng⟩
  · exact ha
theorem okTm {a : Sd} (ha : SdOk a) (lo : Int) : ∀ m k, SdOk (tmS a lo m k)
  | 0, _ => okNone
  | m + 1, k => okZero (okCat ha (okTm ha lo m (k + 1))) _
theorem zeroN_sets (b : Bool) (s : Sd) : (zeroN b s).sets = s.sets := by unfold zeroN; split <;> rfl
theorem zeroN_first (b : Bool) (s : Sd) : (zeroN b s).first = s.first := by unfold zeroN; split <;> rfl
theorem zeroN_ends (b : Bool) (s : Sd) : (zeroN b s).ends = s.ends := by unfold zeroN; split <;> rfl
theorem zeroN_arcs (b : Bool) (s : Sd) : (zeroN b s).arcs = s.arcs := by unfold zeroN; split <;> rfl
theorem tm_len (a : Sd) (lo : Int) : ∀ m k, (tmS a lo m k).sets.length = m * a.sets.length
  | 0, _ => by simp [tmS, noneS]
  | m + 1, k => by rw [tmS, zeroN_sets, catS, List.length_append, tm_len a lo m (k + 1), Nat.add_mul, Nat.one_mul, Nat.add_comm]
/-- A side's row as a program's piece, its positions from n on. -/
def pcS (n : Int) (s : Sd) : S74 := ⟨sp n s.first, sp n s.ends, s.none⟩
structure StOk (st : St) : Prop where
  up : ArcsUp st.arcs
  rng : ∀ a ∈ st.arcs, 0 ≤ a.f0 ∧ a.f0 < (st.sets.length : Int) ∧ 0 ≤ a.f1 ∧ a.f1 < (st.sets.length : Int)
def stS (st : St) (s : Sd) : St := ⟨st.sets ++ s.sets, st.arcs ++ s.arcs.map (shA (st.sets.length : Int))⟩
theorem okSt {st : St} {s : Sd} (h : StOk st) (hs : SdOk s) : StOk (stS st s) where
  up := up_append h.up (up_sh _ hs.up) (fun x hx y hy => by
    obtain ⟨y', hy', rfl⟩ := List.mem_map.1 hy
    have := h.rng x hx
    have := hs.rng y' hy'
    show x.f0 < y'.f0 + _
    omega)
  rng x hx := by
    simp only [stS, List.length_append] at *
    rcases List.mem_append.1 hx with hx | hx
    · have := h.rng x hx; omega
    · obtain ⟨y, hy, rfl⟩ := List.mem_map.1 hx
      have := hs.rng y hy
      show 0 ≤ y.f0 + _ ∧ y.f0 + _ < _ ∧ 0 ≤ y.f1 + _ ∧ y.f1 + _ < _
      omega
/-- Rising arcs between few positions are few. -/
theorem rise_len (n : Nat) : ∀ (l : List S51) (c : Int), l.Pairwise aLt → (∀ a ∈ l, c ≤ a.f0 * n + a.f1 ∧ 0 ≤ a.f0 ∧ a.f0 < n ∧ 0 ≤ a.f1 ∧ a.f1 < n) → 0 ≤ c → c ≤ n * n → (l.length : Int) + c ≤ n * n
  | [], c, _, _, _, hc => by simpa using hc
  | a :: l, c, h, hr, h0, hc => by
    obtain ⟨h1, h2⟩ := List.pairwise_cons.1 h
    obtain ⟨r1, r2, r3, r4, r5⟩ := hr a List.mem_cons_self
    have k : a.f0 * n + a.f1 + 1 ≤ n * n := by
      have : (a.f0 + 1) * n ≤ n * n := Int.mul_le_mul_of_nonneg_right (by omega) (by omega)
      rw [Int.add_mul] at this; omega
    have h3 : 0 ≤ a.f0 * n := Int.mul_nonneg r2 (by omega)
    have := rise_len n l (a.f0 * n + a.f1 + 1) h2 (fun b hb => by
      have q := h1 b hb
      obtain ⟨s1, s2, s3, s4, s5⟩ := hr b (List.mem_cons_of_mem _ hb)
      refine ⟨?_, s2, s3, s4, s5⟩
      rcases q with q | ⟨q1, q2⟩
      · have : (a.f0 + 1) * n ≤ b.f0 * n := Int.mul_le_mul_of_nonneg_right (by omega) (by omega)
        rw [Int.add_mul] at this; omega
      · rw [q1]; omega) (by omega) k
    rw [List.length_cons]; omega
theorem arcs_few {l : List S51} {n : Nat} (h : ArcsUp l) (hr : ∀ a ∈ l, 0 ≤ a.f0 ∧ a.f0 < (n : Int) ∧ 0 ≤ a.f1 ∧ a.f1 < (n : Int)) : l.length ≤ n * n := by
  have := rise_len n l 0 h.up (fun a ha => by
    obtain ⟨r1, r2, r3, r4⟩ := hr a ha
    have : 0 ≤ a.f0 * n := Int.mul_nonneg r1 (by omega)
    omega) (by omega) (by rw [← Int.natCast_mul]; omega)
  rw [← Int.natCast_mul] at this
  omega
theorem sq_le {n : Nat} (h : n ≤ 120) : n * n ≤ 14400 := Nat.mul_le_mul h h
theorem okP_sp (n : Int) (s : Sd) (h0 : 0 ≤ n) (h : n + s.sets.length ≤ 120) (hs : SdOk s) : okP (pcS n s) = true := by
  unfold okP pcS
  have h1 := sp_len n s.first
  have h2 := sp_len n s.ends
  rw [hs.lf] at h1
  rw [hs.le] at h2
  simp only [Bool.and_eq_true, decide_eq_true_eq, List.all_eq_true]
  refine ⟨⟨⟨by omega, by omega⟩, fun a ha => ?_⟩, fun a ha => ?_⟩
  · have := sp_at ha; have := hs.lf; exact wf_of _ (by omega) (by omega)
  · have := sp_at ha; have := hs.le; exact wf_of _ (by omega) (by omega)
theorem sp_shA (n m : Int) (l : List Int) : spA (n + m) l = (spA n l).map (fun s => ⟨s.f0 + m, s.f1⟩) := sp_shift m n l
/-- The links of both, from n on. -/
theorem link_sh {st : St} {a : Sd} (h : StOk st) (ha : SdOk a) (F : List Int) (X : List S51) (m : Int) (hF : ∀ v ∈ F, tv v) :
    linkL (st.arcs ++ X.map (shA (st.sets.length : Int))) (sp (st.sets.length : Int) a.ends) (sp (st.sets.length + m) F) 0 = st.arcs ++ (joins X (opsC (spA 0 a.ends) (spA m F) 0)).map (shA (st.sets.length : Int)) := by
  rw [linkL_joins, opsC_sp 0 tv0 _ _ _ _ ha.ve hF]
  have e : opsC (spA (st.sets.length : Int) a.ends) (spA (st.sets.length + m) F) 0 = (opsC (spA 0 a.ends) (spA m F) 0).map (shA (st.sets.length : Int)) := by
    rw [opsC_sh, ← sp_shA, ← sp_shA, Int.zero_add, Int.add_comm m]
  rw [e, joins_prefix, joins_sh]
  intro o ho x hx
  obtain ⟨o', ho', rfl⟩ := List.mem_map.1 ho
  obtain ⟨s, hs, t, ht, rfl⟩ := opsC_mem ho'
  have := spA_at s hs
  have := h.rng x hx
  show x.f0 < s.f0 + _
  omega
theorem both_is {st : St} {a b : Sd} (h : StOk st) (ha : SdOk a) (hb : SdOk b) (hl : st.sets.length + (a.sets.length + b.sets.length) ≤ 120) :
    bothF (pcS (st.sets.length : Int) a) (pcS ((stS st a).sets.length : Int) b) (stS (stS st a) b) = some (pcS (st.sets.length : Int) (catS a b), stS st (catS a b)) := by
  have h2 := okSt (okSt h ha) hb
  have hn : ((stS st a).sets.length : Int) = st.sets.length + a.sets.length := by simp [stS]
  have hf := arcs_few h2.up h2.rng
  have hs : (stS (stS st a) b).sets.length ≤ 120 := by simp only [stS, List.length_append]; omega
  have hf2 := sq_le hs
  unfold bothF
  rw [if_pos ⟨okP_sp _ _ (by omega) (by omega) ha, okP_sp _ _ (by omega) (by omega) hb, by omega⟩]
  have e1 : (stS (stS st a) b).arcs = st.arcs ++ (a.arcs ++ b.arcs.map (shA (a.sets.length : Int))).map (shA (st.sets.length : Int)) := by
    simp only [stS, List.map_append, List.map_map, List.append_assoc, List.length_append]
    congr 3
    funext x
    simp only [shA, Function.comp]
    congr 1 <;> omega
  have e2 : (stS (stS st a) b).sets = (stS st (catS a b)).sets := by simp [stS, catS]
  have e3 : linkL (stS (stS st a) b).arcs (pcS (st.sets.length : Int) a).f1 (pcS ((stS st a).sets.length : Int) b).f0 0 = (stS st (catS a b)).arcs := by
    rw [e1, hn]; exact link_sh h ha b.first _ _ hb.vf
  have e4 : (pcS (st.sets.length : Int) a).f0 ++ dearS (pcS ((stS st a).sets.length : Int) b).f0 (pcS (st.sets.length : Int) a).f2 = (pcS (st.sets.length : Int) (catS a b)).f0 := by
    show sp _ _ ++ dearS (sp _ _) a.none = sp _ _
    rw [dear_sp _ ha.vn _ _ hb.vf, hn, show (catS a b).first = a.first ++ b.first.map (fun v => tadd v a.none) from rfl, sp_append, ha.lf]
  have e5 : dearS (pcS (st.sets.length : Int) a).f1 (pcS ((stS st a).sets.length : Int) b).f2 ++ (pcS ((stS st a).sets.length : Int) b).f1 = (pcS (st.sets.length : Int) (catS a b)).f1 := by
    show dearS (sp _ _) _ ++ sp _ _ = sp _ _
    rw [show (pcS ((stS st a).sets.length : Int) b).f2 = b.none from rfl, dear_sp _ hb.vn _ _ ha.ve, hn, show (catS a b).ends = a.ends.map (fun v => tadd v b.none) ++ b.ends from rfl, sp_append, List.length_map, ha.le]
  rw [e4, e5, e2, e3]; rfl
theorem alt_is {st : St} {a b : Sd} (ha : SdOk a) (hb : SdOk b) (hl : st.sets.length + (a.sets.length + b.sets.length) ≤ 120) :
    altF (pcS (st.sets.length : Int) a) (pcS ((stS st a).sets.length : Int) b) (stS (stS st a) b) = some (pcS (st.sets.length : Int) (altS a b), stS st (altS a b)) := by
  have hn : ((stS st a).sets.length : Int) = st.sets.length + a.sets.length := by simp [stS]
  unfold altF
  rw [if_pos ⟨okP_sp _ _ (by omega) (by omega) ha, okP_sp _ _ (by omega) (by omega) hb⟩]
  have e1 : stS (stS st a) b = stS st (altS a b) := by
    simp only [stS, altS, List.map_append, List.map_map, List.append_assoc, List.length_append]
    congr 3
    refine List.map_congr_left (fun x _ => ?_)
    simp only [shA, Function.comp]
    congr 1 <;> omega
  have e2 : mn (mn 1152921504606846976 (pcS (st.sets.length : Int) a).f2) (pcS ((stS st a).sets.length : Int) b).f2 = (altS a b).none := by
    show mn (mn 1152921504606846976 a.none) b.none = mn a.none b.none
    have := ha.vn; have := hb.vn
    unfold tv tinf at *; unfold mn
    split <;> split <;> (try split) <;> omega
  rw [e1, e2]
  simp only [pcS, altS, sp_append, hn, ha.lf, ha.le]
theorem star_is {st : St} {a : Sd} (h : StOk st) (ha : SdOk a) (hl : st.sets.length + a.sets.length ≤ 120) :
    starF (pcS (st.sets.length : Int) a) (stS st a) = some (pcS (st.sets.length : Int) (starS a), stS st (starS a)) := by
  have h2 := okSt h ha
  have hf := arcs_few h2.up h2.rng
  have hs : (stS st a).sets.length ≤ 120 := by simp only [stS, List.length_append]; omega
  have hf2 := sq_le hs
  unfold starF
  rw [if_pos ⟨okP_sp _ _ (by omega) (by omega) ha, by omega⟩]
  have e := link_sh h ha a.first a.arcs 0 ha.vf
  rw [Int.add_zero] at e
  simp only [pcS, stS, starS, e]
theorem wgt_is {st : St} {a : Sd} {w : Int} (ha : SdOk a) (hw : tv w) (hl : st.sets.length + a.sets.length ≤ 120) :
    wghtF (pcS (st.sets.length : Int) a) w (stS st a) = some (pcS (st.sets.length : Int) (wgtS a w), stS st (wgtS a w)) := by
  unfold wghtF
  rw [if_pos (okP_sp _ _ (by omega) (by omega) ha)]
  simp only [pcS, stS, wgtS, dear_sp w hw _ _ ha.vf]
def repN (n : Int) : Nat → Int
  | 0 => 0
  | k + 1 => tadd n (repN n k)
theorem tv_rep {n : Int} (h : tv n) : ∀ k, tv (repN n k)
  | 0 => tv0
  | k + 1 => tv_tadd h (tv_rep h k)
theorem tm_none {a : Sd} (ha : SdOk a) (lo : Int) : ∀ m k : Nat, lo < (k : Int) + m → (tmS a lo m k).none = repN a.none (lo + 1 - k).toNat
  | 0, k, h => by rw [show (lo + 1 - k).toNat = 0 from by omega]; rfl
  | m + 1, k, h => by
    have ih := tm_none ha lo m (k + 1) (by omega)
    rw [tmS, zeroN]
    by_cases c : (k : Int) > lo
    · rw [if_pos (by simpa using c), show (lo + 1 - k).toNat = 0 from by omega]; rfl
    · rw [if_neg (by simpa using c), show (lo + 1 - k).toNat = (lo + 1 - ((k + 1 : Nat) : Int)).toNat + 1 from by omega]
      show tadd a.none _ = _
      rw [ih]; rfl
theorem lacks_rep {l : List S74} {n : Int} (hn : tv n) (hl : ∀ p ∈ l, p.f2 = n) (h0 : 0 < l.length) : ∀ (m i : Nat) (t : Int), tv t → lacks l m i t = tadd t (repN n m)
  | 0, i, t, ht => by rw [lacks, repN, tadd_0 ht]
  | m + 1, i, t, ht => by
    have hi : min i (l.length - 1) < l.length := by omega
    have e : (l.getD (min i (l.length - 1)) z74).f2 = n := by
      rw [List.getD_eq_getElem?_getD, List.getElem?_eq_getElem hi, Option.getD_some]
      exact hl _ (List.getElem_mem hi)
    rw [lacks, e, lacks_rep hn hl h0 m (i + 1) _ (tv_tadd ht hn), repN, tadd_assoc_ ht hn (tv_rep hn m)]
/-- Copies of a piece, from n on, m positions each. -/
def cpS (a : Sd) : Nat → Int → List S74
  | 0, _ => []
  | c + 1, n => pcS n a :: cpS a c (n + (a.sets.length : Int))
theorem cp_none (a : Sd) : ∀ c n, ∀ p ∈ cpS a c n, p.f2 = a.none
  | 0, _, p, h => by cases h
  | c + 1, n, p, h => by
    rcases List.mem_cons.1 h with rfl | h
    · rfl
    · exact cp_none a c _ p h
theorem cp_len (a : Sd) : ∀ c n, (cpS a c n).length = c
  | 0, _ => rfl
  | c + 1, n => by rw [cpS, List.length_cons, cp_len a c]
theorem cp_append (a : Sd) : ∀ c d n, cpS a (c + d) n = cpS a c n ++ cpS a d (n + (c : Int) * (a.sets.length : Int))
  | 0, d, n => by simp [cpS]
  | c + 1, d, n => by
    rw [show c + 1 + d = (c + d) + 1 from by omega, cpS, cp_append a c d, cpS, List.cons_append]
    congr 3
    rw [Int.natCast_add, Int.add_mul]; omega
/-- The rows of copies of arcs. -/
def ccS (a : Sd) : Nat → List S51
  | 0 => []
  | c + 1 => a.arcs ++ (ccS a c).map (shA (a.sets.length : Int))
/-- What is joined from ends to the copies behind. -/
def lkP (E : List S94) (a : Sd) : Nat → Int → Int → List S51
  | 0, _, _ => []
  | c + 1, n, t => opsC E (sp n a.first) t ++ lkP E a c (n + (a.sets.length : Int)) (tadd t a.none)
theorem betw_joins (E : List S94) (a : Sd) : ∀ (c : Nat) (n t : Int) (l : List S51), betw E (cpS a c n) t l = joins l (lkP E a c n t)
  | 0, _, _, _ => rfl
  | c + 1, n, t, l => by
    rw [cpS, betw, betw_joins E a c, linkL_joins, ← joins_append]; rfl
theorem opsC_cost (E F : List S94) (n t : Int) (hE : ∀ s ∈ E, tv s.f1) (hF : ∀ s ∈ F, tv s.f1) (hn : tv n) (ht : tv t) : opsC E (F.map fun s => ⟨s.f0, tadd s.f1 n⟩) t = opsC E F (tadd t n) := by
  unfold opsC
  rw [List.flatMap_def, List.flatMap_def]
  congr 1
  refine List.map_congr_left (fun a ha => ?_)
  rw [List.map_map]
  refine List.map_congr_left (fun b hb => ?_)
  have h1 := hE a ha
  have h2 := hF b hb
  simp only [Function.comp]
  congr 1
  rw [tadd_comm_ h2 hn, ← tadd_assoc_ (tv_tadd h1 ht) hn h2, tadd_assoc_ h1 ht hn]
theorem spA_map (f : Int → Int) : ∀ (n : Int) (l : List Int), spA n (l.map f) = (spA n l).map fun s => ⟨s.f0, f s.f1⟩
  | _, [] => rfl
  | n, v :: l => by rw [List.map_cons, spA, spA, List.map_cons, spA_map f (n + 1) l]
theorem tm_first (a : Sd) (lo : Int) (m k : Nat) : (tmS a lo (m + 1) k).first = a.first ++ (tmS a lo m (k + 1)).first.map (fun v => tadd v a.none) := by rw [tmS, zeroN_first]; rfl
theorem tm_ends (a : Sd) (lo : Int) (m k : Nat) : (tmS a lo (m + 1) k).ends = a.ends.map (fun v => tadd v (tmS a lo m (k + 1)).none) ++ (tmS a lo m (k + 1)).ends := by rw [tmS, zeroN_ends]; rfl
theorem tm_arcs (a : Sd) (lo : Int) (m k : Nat) : (tmS a lo (m + 1) k).arcs = joins (a.arcs ++ (tmS a lo m (k + 1)).arcs.map (shA (a.sets.length : Int))) (opsC (spA 0 a.ends) (spA (a.sets.length : Int) (tmS a lo m (k + 1)).first) 0) := by rw [tmS, zeroN_arcs]; rfl
theorem lkP_joins {a : Sd} (ha : SdOk a) (lo : Int) (n0 : Int) : ∀ (c k : Nat) (n t : Int) (l : List S51), tv t → ArcsUp l → joins l (lkP (sp n0 a.ends) a c n t) = joins l (opsC (spA n0 a.ends) (spA n (tmS a lo c k).first) t)
  | 0, k, n, t, l, ht, hl => by
    have : opsC (spA n0 a.ends) (spA n (tmS a lo 0 k).first) t = [] := by
      unfold opsC; exact List.flatMap_eq_nil_iff.2 (fun _ _ => rfl)
    rw [this]; rfl
  | c + 1, k, n, t, l, ht, hl => by
    have hT := okTm ha lo c (k + 1)
    have hE : ∀ s ∈ spA n0 a.ends, tv s.f1 := fun s hs => ha.ve _ (spA_at s hs).2.2
    rw [lkP, joins_append, opsC_sp t ht _ _ _ _ ha.ve ha.vf, lkP_joins ha lo n0 c (k + 1) _ _ _ (tv_tadd ht ha.vn) (joins_up hl _), ← joins_append, tm_first, spA_append, ha.lf, spA_map]
    rw [← opsC_cost _ _ a.none t hE (fun s hs => hT.vf _ (spA_at s hs).2.2) ha.vn ht]
    exact (joins_perm (opsC_perm _ _ _ _) hl).symm
/-- All that is joined behind the copies. -/
def opsT (a : Sd) : Nat → Int → List S51
  | 0, _ => []
  | c + 1, n => lkP (sp n a.ends) a c (n + (a.sets.length : Int)) 0 ++ opsT a c (n + (a.sets.length : Int))
theorem sh_sh (n m : Int) (l : List S51) : (l.map (shA m)).map (shA n) = l.map (shA (n + m)) := by
  rw [List.map_map]
  refine List.map_congr_left (fun x _ => ?_)
  simp only [shA, Function.comp]
  congr 1 <;> omega
theorem cc_rng {a : Sd} (ha : SdOk a) : ∀ c, ArcsUp (ccS a c) ∧ ∀ x ∈ ccS a c, 0 ≤ x.f0
  | 0 => ⟨upNil, fun _ h => absurd h List.not_mem_nil⟩
  | c + 1 => by
    obtain ⟨h1, h2⟩ := cc_rng ha c
    refine ⟨up_append ha.up (up_sh _ h1) (fun x hx y hy => ?_), fun x hx => ?_⟩
    · obtain ⟨y', hy', rfl⟩ := List.mem_map.1 hy
      have := ha.rng x hx
      have := h2 y' hy'
      show x.f0 < y'.f0 + _
      omega
    · rcases List.mem_append.1 hx with hx | hx
      · exact (ha.rng x hx).1
      · obtain ⟨y', hy', rfl⟩ := List.mem_map.1 hx
        have := h2 y' hy'
        show 0 ≤ y'.f0 + _
        omega
theorem opsT_joins {a : Sd} (ha : SdOk a) (lo : Int) : ∀ (c k : Nat) (n : Int) (P : List S51), ArcsUp P → (∀ x ∈ P, x.f0 < n) → joins (P ++ (ccS a c).map (shA n)) (opsT a c n) = P ++ (tmS a lo c k).arcs.map (shA n)
  | 0, k, n, P, hP, h => rfl
  | c + 1, k, n, P, hP, h => by
    have hT := okTm ha lo c (k + 1)
    have hup : ArcsUp (P ++ (a.arcs.map (shA n))) := up_append hP (up_sh _ ha.up) (fun x hx y hy => by
      obtain ⟨y', hy', rfl⟩ := List.mem_map.1 hy
      have := h x hx
      have := ha.rng y' hy'
      show x.f0 < y'.f0 + _
      omega)
    have hlt : ∀ x ∈ P ++ (a.arcs.map (shA n)), x.f0 < n + (a.sets.length : Int) := fun x hx => by
      rcases List.mem_append.1 hx with hx | hx
      · have := h x hx; omega
      · obtain ⟨y', hy', rfl⟩ := List.mem_map.1 hx
        have := ha.rng y' hy'
        show y'.f0 + _ < _
        omega
    have ih := opsT_joins ha lo c (k + 1) (n + (a.sets.length : Int)) (P ++ a.arcs.map (shA n)) hup hlt
    have hfull : ArcsUp ((P ++ a.arcs.map (shA n)) ++ (ccS a c).map (shA (n + (a.sets.length : Int)))) := up_append hup (up_sh _ (cc_rng ha c).1) (fun x hx y hy => by
      obtain ⟨y', hy', rfl⟩ := List.mem_map.1 hy
      have := hlt x hx
      have := (cc_rng ha c).2 y' hy'
      show x.f0 < y'.f0 + _
      omega)
    have e0 : P ++ (ccS a (c + 1)).map (shA n) = (P ++ a.arcs.map (shA n)) ++ (ccS a c).map (shA (n + (a.sets.length : Int))) := by
      rw [ccS, List.map_append, sh_sh, List.append_assoc]
    rw [e0, opsT, joins_perm List.perm_append_comm hfull, joins_append, ih, tm_arcs]
    have hj : ArcsUp ((P ++ a.arcs.map (shA n)) ++ (tmS a lo c (k + 1)).arcs.map (shA (n + (a.sets.length : Int)))) := by rw [← ih]; exact joins_up hfull _
    rw [lkP_joins ha lo n c (k + 1) _ 0 _ tv0 hj, ← sh_sh, List.append_assoc, ← List.map_append]
    have e : opsC (spA n a.ends) (spA (n + (a.sets.length : Int)) (tmS a lo c (k + 1)).first) 0 = (opsC (spA 0 a.ends) (spA (a.sets.length : Int) (tmS a lo c (k + 1)).first) 0).map (shA n) := by
      rw [opsC_sh, ← sp_shA, ← sp_shA, Int.zero_add, Int.add_comm n]
    rw [e, joins_prefix, joins_sh]
    intro o ho x hx
    obtain ⟨o', ho', rfl⟩ := List.mem_map.1 ho
    obtain ⟨s, hs, t, ht, rfl⟩ := opsC_mem ho'
    have := spA_at s hs
    have := h x hx
    show x.f0 < s.f0 + _
    omega
theorem ofK_is {a : Sd} (ha : SdOk a) (lo : Int) (all : List S74) (hall : ∀ p ∈ all, p.f2 = a.none) (h0 : 0 < all.length) : ∀ (c k : Nat) (n skip : Int) (out : S74) (arcs : List S51), tv skip → lo ≤ (k : Int) + c → ArcsUp arcs →
    ofK all lo (cpS a c n) k out skip arcs = (⟨out.f0 ++ sp n ((tmS a lo c (k + 1)).first.map (fun v => tadd v skip)), out.f1 ++ sp n (tmS a lo c (k + 1)).ends, if (k : Int) < lo then tadd skip (repN a.none (lo - k).toNat) else out.f2⟩, joins arcs (opsT a c n))
  | 0, k, n, skip, out, arcs, hs, hk, hup => by
    rw [cpS, ofK, if_neg (by omega)]
    simp [tmS, noneS, sp, spA, opsT, joins_nil]
  | c + 1, k, n, skip, out, arcs, hs, hk, hup => by
    have hT := okTm ha lo c (k + 1 + 1)
    rw [cpS, ofK, betw_joins]
    simp only [show (pcS n a).f2 = a.none from rfl]
    rw [ofK_is ha lo all hall h0 c (k + 1) _ _ _ _ (tv_tadd hs ha.vn) (by omega) (joins_up hup _), tm_first, tm_ends, opsT, joins_append]
    have e1 : out.f0 ++ dearS (pcS n a).f0 skip ++ sp (n + (a.sets.length : Int)) ((tmS a lo c (k + 1 + 1)).first.map (fun v => tadd v (tadd skip a.none))) = out.f0 ++ sp n ((a.first ++ (tmS a lo c (k + 1 + 1)).first.map (fun v => tadd v a.none)).map (fun v => tadd v skip)) := by
      rw [show (pcS n a).f0 = sp n a.first from rfl, dear_sp _ hs _ _ ha.vf, List.append_assoc, List.map_append, sp_append, List.length_map, ha.lf, List.map_map]
      congr 3
      refine List.map_congr_left (fun v hv => ?_)
      have := hT.vf v hv
      show tadd v (tadd skip a.none) = tadd (tadd v a.none) skip
      rw [tadd_comm_ hs ha.vn, tadd_assoc_ this ha.vn hs]
    have e2 : out.f1 ++ dearS (pcS n a).f1 (lacks all (lo - ((k : Int) + 1)).toNat (k + 1) 0) ++ sp (n + (a.sets.length : Int)) (tmS a lo c (k + 1 + 1)).ends = out.f1 ++ sp n (a.ends.map (fun v => tadd v (tmS a lo c (k + 1 + 1)).none) ++ (tmS a lo c (k + 1 + 1)).ends) := by
      rw [lacks_rep ha.vn hall h0 _ _ _ tv0, tadd_0l (tv_rep ha.vn _), tm_none ha lo c (k + 1 + 1) (by omega), show (pcS n a).f1 = sp n a.ends from rfl, dear_sp _ (tv_rep ha.vn _) _ _ ha.ve, List.append_assoc, sp_append, List.length_map, ha.le]
      congr 5
      funext v
      congr 2
      omega
    have e3 : (if ((k + 1 : Nat) : Int) < lo then tadd (tadd skip a.none) (repN a.none (lo - ((k + 1 : Nat) : Int)).toNat) else if (k : Int) < lo then tadd skip a.none else out.f2) = if (k : Int) < lo then tadd skip (repN a.none (lo - k).toNat) else out.f2 := by
      by_cases h1 : (k : Int) < lo
      · rw [if_pos h1, if_pos h1, show (lo - (k : Int)).toNat = (lo - ((k + 1 : Nat) : Int)).toNat + 1 from by omega, repN, ← tadd_assoc_ hs ha.vn (tv_rep ha.vn _)]
        by_cases h2 : ((k + 1 : Nat) : Int) < lo
        · rw [if_pos h2]
        · rw [if_neg h2, show (lo - ((k + 1 : Nat) : Int)).toNat = 0 from by omega, repN, tadd_0 (tv_tadd hs ha.vn)]
      · rw [if_neg h1, if_neg h1, if_neg (by omega)]
    rw [e1, e2, e3]; rfl
inductive RS (defs : List S61) : S33 → Sd → Prop
  | none (lo hi w : Int) (nm : ByteArray) : RS defs ⟨1, lo, hi, w, nm, []⟩ noneS
  | set (lo hi w : Int) (nm : ByteArray) : RS defs ⟨2, lo, hi, w, nm, []⟩ (posS (idxD defs nm))
  | any (lo hi w : Int) (nm : ByteArray) : RS defs ⟨3, lo, hi, w, nm, []⟩ (posS (-1))
  | cat (lo hi w : Int) (nm : ByteArray) (a b : S33) (A B : Sd) : RS defs a A → RS defs b B → RS defs ⟨4, lo, hi, w, nm, [a, b]⟩ (catS A B)
  | alt (lo hi w : Int) (nm : ByteArray) (a b : S33) (A B : Sd) : RS defs a A → RS defs b B → RS defs ⟨5, lo, hi, w, nm, [a, b]⟩ (altS A B)
  | star (lo hi w : Int) (nm : ByteArray) (a : S33) (A : Sd) : RS defs a A → RS defs ⟨6, lo, hi, w, nm, [a]⟩ (starS A)
  | times (lo hi w : Int) (nm : ByteArray) (a : S33) (A : Sd) : 0 ≤ lo → lo ≤ hi → hi ≤ 12 → RS defs a A → RS defs ⟨7, lo, hi, w, nm, [a]⟩ (tmS A lo hi.toNat 1)
  | wgt (lo hi w : Int) (nm : ByteArray) (a : S33) (A : Sd) : 0 ≤ w → w ≤ 1000 → RS defs a A → RS defs ⟨8, lo, hi, w, nm, [a]⟩ (wgtS A w)
theorem tvW {w : Int} (h : 0 ≤ w) (k : w ≤ 1000) : tv w := ⟨h, by unfold tinf; omega⟩
theorem RS.ok {defs : List S61} {x : S33} {S : Sd} (h : RS defs x S) : SdOk S := by
  induction h with
  | none => exact okNone
  | set => exact okPos _
  | any => exact okPos _
  | cat _ _ _ _ _ _ _ _ _ _ h1 h2 => exact okCat h1 h2
  | alt _ _ _ _ _ _ _ _ _ _ h1 h2 => exact okAlt h1 h2
  | star _ _ _ _ _ _ _ h1 => exact okStar h1
  | times _ _ _ _ _ _ _ _ _ _ h1 => exact okTm h1 _ _ _
  | wgt _ _ _ _ _ _ h3 h4 _ h1 => exact okWgt h1 (tvW h3 h4)
def setsC (a : Sd) : Nat → List Int
  | 0 => []
  | c + 1 => a.sets ++ setsC a c
theorem tm_sets (a : Sd) (lo : Int) : ∀ c k, (tmS a lo c k).sets = setsC a c
  | 0, _ => rfl
  | c + 1, k => by rw [tmS, zeroN_sets, catS, setsC, tm_sets a lo c]
theorem setsC_succ (a : Sd) : ∀ c, setsC a (c + 1) = setsC a c ++ a.sets
  | 0 => by simp [setsC]
  | c + 1 => by
    show a.sets ++ setsC a (c + 1) = (a.sets ++ setsC a c) ++ a.sets
    rw [setsC_succ a c, List.append_assoc]
theorem setsC_len (a : Sd) : ∀ c, (setsC a c).length = c * a.sets.length
  | 0 => by simp [setsC]
  | c + 1 => by rw [setsC, List.length_append, setsC_len a c, Nat.add_mul, Nat.one_mul, Nat.add_comm]
theorem ccS_succ (a : Sd) : ∀ c, ccS a (c + 1) = ccS a c ++ a.arcs.map (shA ((c : Int) * (a.sets.length : Int)))
  | 0 => by
    have : shA ((0 : Nat) * (a.sets.length : Int)) = id := by funext x; simp [shA]
    rw [this]; simp [ccS]
  | c + 1 => by
    show a.arcs ++ (ccS a (c + 1)).map (shA (a.sets.length : Int)) = (a.arcs ++ (ccS a c).map (shA (a.sets.length : Int))) ++ a.arcs.map (shA (((c + 1 : Nat) : Int) * (a.sets.length : Int)))
    rw [ccS_succ a c, List.map_append, sh_sh, List.append_assoc]
    congr 4
    rw [Int.natCast_add, Int.add_mul]; omega
def stC (st : St) (a : Sd) (c : Nat) : St := ⟨st.sets ++ setsC a c, st.arcs ++ (ccS a c).map (shA (st.sets.length : Int))⟩
theorem stC_step (st : St) (a : Sd) (c : Nat) : stS (stC st a c) a = stC st a (c + 1) := by
  unfold stS stC
  rw [setsC_succ, ccS_succ, List.map_append, sh_sh, List.append_assoc, List.append_assoc, List.length_append, setsC_len]
  simp
theorem stC_ok {st : St} {a : Sd} (h : StOk st) (ha : SdOk a) : ∀ c, StOk (stC st a c)
  | 0 => by
    have : stC st a 0 = st := by cases st; simp [stC, setsC, ccS]
    rw [this]; exact h
  | c + 1 => by rw [← stC_step]; exact okSt (stC_ok h ha c) ha
theorem cpS_succ (a : Sd) (c : Nat) (n : Int) : cpS a (c + 1) n = cpS a c n ++ [pcS (n + (c : Int) * (a.sets.length : Int)) a] := by rw [cp_append]; rfl
theorem copyF_is {mk : St → Option (S74 × St)} {a : Sd} (ha : SdOk a) (st0 : St) (h0 : StOk st0) (hmk : ∀ st, StOk st → st.sets.length + a.sets.length ≤ 120 → mk st = some (pcS (st.sets.length : Int) a, stS st a)) (z : Bool) :
    ∀ (n c : Nat), st0.sets.length + (c + n) * a.sets.length ≤ 120 → (z = false ∨ (c + n ≤ 1)) → copyF mk z n (cpS a c (st0.sets.length : Int)) (stC st0 a c) = some (cpS a (c + n) (st0.sets.length : Int), stC st0 a (c + n))
  | 0, c, _, _ => by rw [copyF]; rfl
  | n + 1, c, hl, hz => by
    have hl' : st0.sets.length + (c + 1 + n) * a.sets.length ≤ 120 := by rw [show c + 1 + n = c + (n + 1) from by omega]; exact hl
    have hlc : (stC st0 a c).sets.length = st0.sets.length + c * a.sets.length := by simp [stC, setsC_len]
    have hm : (c + 1 + n) * a.sets.length = c * a.sets.length + a.sets.length + n * a.sets.length := by rw [Nat.add_mul, Nat.add_mul, Nat.one_mul]
    rw [copyF, if_neg (by rw [cp_len]; rintro ⟨q1, q2⟩; rcases hz with e | e; · rw [e] at q2; cases q2
                          · omega), hmk _ (stC_ok h0 ha c) (by omega), Option.bind_some, stC_step]
    have e : cpS a c (st0.sets.length : Int) ++ [pcS ((stC st0 a c).sets.length : Int) a] = cpS a (c + 1) (st0.sets.length : Int) := by
      rw [cpS_succ, hlc]; simp
    rw [e, copyF_is ha st0 h0 hmk z n (c + 1) hl' (hz.imp id (fun e => by omega)), show c + 1 + n = c + (n + 1) from by omega]
theorem empty_of {a : Sd} (ha : SdOk a) (h : a.sets.length = 0) : a.sets = [] ∧ a.first = [] ∧ a.ends = [] ∧ a.arcs = [] := by
  refine ⟨List.eq_nil_of_length_eq_zero h, List.eq_nil_of_length_eq_zero (by rw [ha.lf, h]), List.eq_nil_of_length_eq_zero (by rw [ha.le, h]), ?_⟩
  cases e : a.arcs with
  | nil => rfl
  | cons x l => have := ha.rng x (by rw [e]; exact List.mem_cons_self); omega
theorem copyG_is {mk : St → Option (S74 × St)} {a : Sd} (ha : SdOk a) (st0 : St) (h0 : StOk st0) (hmk : ∀ st, StOk st → st.sets.length + a.sets.length ≤ 120 → mk st = some (pcS (st.sets.length : Int) a, stS st a)) (z : Bool) (hz : z = true ↔ a.sets.length = 0) (n : Nat)
    (hl : st0.sets.length + n * a.sets.length ≤ 120) : copyG mk z n st0 = some (cpS a n (st0.sets.length : Int), stC st0 a n) := by
  have hst : stC st0 a 0 = st0 := by cases st0; simp [stC, setsC, ccS]
  unfold copyG
  by_cases c : z = true ∧ 1 < n
  · obtain ⟨e1, e2, e3, e4⟩ := empty_of ha (hz.1 c.1)
    rw [if_pos c, hmk st0 h0 (by rw [e1]; simp; have := hz.1 c.1; rw [this] at hl; omega), Option.bind_some]
    have h1 : ∀ m : Nat, List.replicate m (pcS (st0.sets.length : Int) a) = cpS a m (st0.sets.length : Int) := by
      intro m
      induction m with
      | zero => rfl
      | succ m ih => rw [List.replicate_succ, ih, cpS, e1]; simp
    have h2 : ∀ m : Nat, setsC a m = [] ∧ ccS a m = [] := by
      intro m
      induction m with
      | zero => exact ⟨rfl, rfl⟩
      | succ m ih => exact ⟨by rw [setsC, e1, ih.1]; rfl, by rw [ccS, e4, ih.2]; rfl⟩
    rw [h1]
    unfold stC stS
    rw [(h2 n).1, (h2 n).2, e1, e4]
  · rw [if_neg c]
    have := copyF_is ha st0 h0 hmk z n 0 (by simpa using hl) (by
      cases z with
      | false => exact .inl rfl
      | true => exact .inr (by simp at c; omega))
    rw [hst, Nat.zero_add] at this
    exact this
theorem oft_is {st : St} {a : Sd} (h : StOk st) (ha : SdOk a) (lo : Int) (n : Nat) (h1 : 0 ≤ lo) (h2 : lo ≤ n) (h3 : n ≤ 12) (hl : st.sets.length + n * a.sets.length ≤ 120) :
    oftF (cpS a n (st.sets.length : Int)) lo (stC st a n) = some (pcS (st.sets.length : Int) (tmS a lo n 1), stS st (tmS a lo n 1)) := by
  have hok := stC_ok h ha n
  have hlen : (stC st a n).sets.length = st.sets.length + n * a.sets.length := by simp [stC, setsC_len]
  have hf := arcs_few hok.up hok.rng
  have hf2 := sq_le (show (stC st a n).sets.length ≤ 120 by omega)
  have hT := okTm ha lo n 1
  unfold oftF
  have hall : (cpS a n (st.sets.length : Int)).all okP = true := by
    rw [List.all_eq_true]
    intro p hp
    have : ∀ (c : Nat) (m : Int), 0 ≤ m → m + c * a.sets.length ≤ 120 → ∀ p ∈ cpS a c m, okP p = true := by
      intro c
      induction c with
      | zero => intro m _ _ p hp; cases hp
      | succ c ih =>
        intro m hm hmc p hp
        have : ((c + 1 : Nat) : Int) * a.sets.length = c * a.sets.length + a.sets.length := by rw [Int.natCast_add, Int.add_mul]; simp
        rw [this] at hmc
        have q : (0 : Int) ≤ (c : Int) * a.sets.length := Int.mul_nonneg (by omega) (by omega)
        rcases List.mem_cons.1 hp with rfl | hp
        · exact okP_sp _ _ hm (by omega) ha
        · exact ih _ (by omega) (by omega) p hp
    exact this n _ (by omega) (by rw [← Int.natCast_mul]; omega) p hp
  rw [if_pos ⟨hall, by rw [cp_len]; exact h3, by rw [cp_len]; exact h2, by omega⟩]
  have hsets : (stC st a n).sets = (stS st (tmS a lo n 1)).sets := by simp only [stC, stS, tm_sets]
  have hlt : ∀ x ∈ st.arcs, x.f0 < (st.sets.length : Int) := fun x hx => (h.rng x hx).2.1
  have key : ofK (cpS a n (st.sets.length : Int)) lo (cpS a n (st.sets.length : Int)) 0 z74 0 (stC st a n).arcs = (pcS (st.sets.length : Int) (tmS a lo n 1), (stS st (tmS a lo n 1)).arcs) := by
    rcases Nat.eq_zero_or_pos n with rfl | hp
    · simp [cpS, ofK, tmS, noneS, pcS, sp, spA, stC, stS, ccS, z74]
    · rw [ofK_is ha lo _ (cp_none a n _) (by rw [cp_len]; exact hp) n 0 _ 0 _ _ tv0 (by omega) hok.up]
      have e1 : (stC st a n).arcs = st.arcs ++ (ccS a n).map (shA (st.sets.length : Int)) := rfl
      rw [e1, opsT_joins ha lo n 1 _ _ h.up hlt]
      have e2 : (tmS a lo n (0 + 1)).first.map (fun v => tadd v 0) = (tmS a lo n 1).first := by
        have : (tmS a lo n (0 + 1)).first.map (fun v => tadd v 0) = (tmS a lo n 1).first.map id := List.map_congr_left (fun v hv => tadd_0 (hT.vf v hv))
        rw [this, List.map_id]
      have e3 : (if ((0 : Nat) : Int) < lo then tadd 0 (repN a.none (lo - ((0 : Nat) : Int)).toNat) else z74.f2) = (tmS a lo n 1).none := by
        rw [tm_none ha lo n 1 (by omega)]
        by_cases c : ((0 : Nat) : Int) < lo
        · rw [if_pos c, tadd_0l (tv_rep ha.vn _)]; congr 1; omega
        · rw [if_neg c, show (lo + 1 - ((1 : Nat) : Int)).toNat = 0 from by omega]; rfl
      rw [e2, e3]; rfl
  rw [key, hsets]
def sizeI (S : Sd) : Int := mn (S.sets.length : Int) 1000000000
theorem mkF_cat {defs : List S61} {sz : S33 → Option Int} {n : Nat} {x : S33} {st : St} (h : x.f0 = 4) : mkF defs sz (n + 1) x st = (mkF defs sz n (xpart x 0) st).bind fun a => (mkF defs sz n (xpart x 1) a.2).bind fun b => bothF a.1 b.1 b.2 := by rw [mkF, if_neg (by omega), if_pos h]
theorem mkF_times {defs : List S61} {sz : S33 → Option Int} {n : Nat} {x : S33} {st : St} (h : x.f0 = 7) : mkF defs sz (n + 1) x st = (sz (xpart x 0)).bind fun z => (copyG (mkF defs sz n (xpart x 0)) (z == 0) (mn x.f2 12).toNat st).bind fun l => oftF l.1 x.f1 l.2 := by rw [mkF, if_neg (by omega), if_neg (by omega), if_pos h]
theorem mkF_alt {defs : List S61} {sz : S33 → Option Int} {n : Nat} {x : S33} {st : St} (h : x.f0 = 5) : mkF defs sz (n + 1) x st = (mkF defs sz n (xpart x 0) st).bind fun a => (mkF defs sz n (xpart x 1) a.2).bind fun b => altF a.1 b.1 b.2 := by rw [mkF, if_neg (by omega), if_neg (by omega), if_neg (by omega), if_pos h]
theorem mkF_star {defs : List S61} {sz : S33 → Option Int} {n : Nat} {x : S33} {st : St} (h : x.f0 = 6) : mkF defs sz (n + 1) x st = (mkF defs sz n (xpart x 0) st).bind fun a => starF a.1 a.2 := by rw [mkF, if_neg (by omega), if_neg (by omega), if_neg (by omega), if_neg (by omega), if_pos h]
theorem mkF_wgt {defs : List S61} {sz : S33 → Option Int} {n : Nat} {x : S33} {st : St} (h : x.f0 = 8) : mkF defs sz (n + 1) x st = (mkF defs sz n (xpart x 0) st).bind fun a => wghtF a.1 x.f3 a.2 := by rw [mkF, if_neg (by omega), if_neg (by omega), if_neg (by omega), if_neg (by omega), if_neg (by omega), if_pos h]
theorem mkF_none {defs : List S61} {sz : S33 → Option Int} {n : Nat} {x : S33} {st : St} (h : x.f0 = 1) : mkF defs sz (n + 1) x st = some (⟨[], [], 0⟩, st) := by rw [mkF, if_neg (by omega), if_neg (by omega), if_neg (by omega), if_neg (by omega), if_neg (by omega), if_neg (by omega)]
theorem mkF_set {defs : List S61} {sz : S33 → Option Int} {n : Nat} {x : S33} {st : St} (h : x.f0 = 2) (hl : st.sets.length < 1000000) : mkF defs sz (n + 1) x st = some (⟨[⟨(st.sets.length : Int), 0⟩], [⟨(st.sets.length : Int), 0⟩], tinf⟩, ⟨st.sets ++ [idxD defs x.f4], st.arcs⟩) := by rw [mkF, if_pos (.inl h), if_pos hl, if_pos h]
theorem mkF_any {defs : List S61} {sz : S33 → Option Int} {n : Nat} {x : S33} {st : St} (h : x.f0 = 3) (hl : st.sets.length < 1000000) : mkF defs sz (n + 1) x st = some (⟨[⟨(st.sets.length : Int), 0⟩], [⟨(st.sets.length : Int), 0⟩], tinf⟩, ⟨st.sets ++ [-1], st.arcs⟩) := by rw [mkF, if_pos (.inr h), if_pos hl, if_neg (by omega)]
theorem stS_pos (st : St) (k : Int) : stS st (posS k) = ⟨st.sets ++ [k], st.arcs⟩ := by simp [stS, posS]
theorem stS_none (st : St) : stS st noneS = st := by cases st; simp [stS, noneS]
theorem mk_is {defs : List S61} {sz : Nat → S33 → Option Int} (hsz : ∀ x S, RS defs x S → ∃ Z, ∀ z, Z ≤ z → sz z x = some (sizeI S)) {x : S33} {S : Sd} (h : RS defs x S) : S.sets.length ≤ 120 →
    ∃ N, ∀ n, N ≤ n → ∀ z, N ≤ z → ∀ st, StOk st → st.sets.length + S.sets.length ≤ 120 → mkF defs (sz z) n x st = some (pcS (st.sets.length : Int) S, stS st S) := by
  induction h with
  | none lo hi w nm =>
    intro _
    refine ⟨1, fun n hn z _ st _ _ => ?_⟩
    obtain ⟨n, rfl⟩ : ∃ m, n = m + 1 := ⟨n - 1, by omega⟩
    rw [mkF_none rfl, stS_none]; rfl
  | set lo hi w nm =>
    intro _
    refine ⟨1, fun n hn z _ st _ hl => ?_⟩
    obtain ⟨n, rfl⟩ : ∃ m, n = m + 1 := ⟨n - 1, by omega⟩
    rw [mkF_set rfl (by omega), stS_pos]; rfl
  | any lo hi w nm =>
    intro _
    refine ⟨1, fun n hn z _ st _ hl => ?_⟩
    obtain ⟨n, rfl⟩ : ∃ m, n = m + 1 := ⟨n - 1, by omega⟩
    rw [mkF_any rfl (by omega), stS_pos]; rfl
  | cat lo hi w nm a b A B ha hb iha ihb =>
    intro hl
    have hlen : (catS A B).sets.length = A.sets.length + B.sets.length := by simp [catS]
    obtain ⟨N1, h1⟩ := iha (by omega)
    obtain ⟨N2, h2⟩ := ihb (by omega)
    refine ⟨N1 + N2 + 1, fun n hn z hz st hst hs => ?_⟩
    obtain ⟨n, rfl⟩ : ∃ m, n = m + 1 := ⟨n - 1, by omega⟩
    rw [mkF_cat rfl, show xpart (S33.mk 4 lo hi w nm [a, b]) 0 = a from rfl, show xpart (S33.mk 4 lo hi w nm [a, b]) 1 = b from rfl, h1 n (by omega) z (by omega) st hst (by omega), Option.bind_some,
      h2 n (by omega) z (by omega) _ (okSt hst ha.ok) (by simp only [stS, List.length_append]; omega), Option.bind_some]
    exact both_is hst ha.ok hb.ok (by omega)
  | alt lo hi w nm a b A B ha hb iha ihb =>
    intro hl
    have hlen : (altS A B).sets.length = A.sets.length + B.sets.length := by simp [altS]
    obtain ⟨N1, h1⟩ := iha (by omega)
    obtain ⟨N2, h2⟩ := ihb (by omega)
    refine ⟨N1 + N2 + 1, fun n hn z hz st hst hs => ?_⟩
    obtain ⟨n, rfl⟩ : ∃ m, n = m + 1 := ⟨n - 1, by omega⟩
    rw [mkF_alt rfl, show xpart (S33.mk 5 lo hi w nm [a, b]) 0 = a from rfl, show xpart (S33.mk 5 lo hi w nm [a, b]) 1 = b from rfl, h1 n (by omega) z (by omega) st hst (by omega), Option.bind_some,
      h2 n (by omega) z (by omega) _ (okSt hst ha.ok) (by simp only [stS, List.length_append]; omega), Option.bind_some]
    exact alt_is ha.ok hb.ok (by omega)
  | star lo hi w nm a A ha iha =>
    intro hl
    obtain ⟨N1, h1⟩ := iha hl
    refine ⟨N1 + 1, fun n hn z hz st hst hs => ?_⟩
    obtain ⟨n, rfl⟩ : ∃ m, n = m + 1 := ⟨n - 1, by omega⟩
    have hs' : st.sets.length + A.sets.length ≤ 120 := hs
    rw [mkF_star rfl, show xpart (S33.mk 6 lo hi w nm [a]) 0 = a from rfl, h1 n (by omega) z (by omega) st hst hs', Option.bind_some]
    exact star_is hst ha.ok hs'
  | times lo hi w nm a A l1 l2 l3 ha iha =>
    intro hl
    obtain ⟨Z, hZ⟩ := hsz a A ha
    have hh : (tmS A lo hi.toNat 1).sets.length = hi.toNat * A.sets.length := tm_len _ _ _ _
    have hmn : (mn hi 12).toNat = hi.toNat := by unfold mn; rw [if_neg (by omega)]
    have hz0 : (sizeI A == 0) = true ↔ A.sets.length = 0 := by rw [beq_iff_eq]; unfold sizeI mn; split <;> omega
    rcases Nat.eq_zero_or_pos hi.toNat with e0 | hp
    · refine ⟨Z + 1, fun n hn z hz st hst hs => ?_⟩
      obtain ⟨n, rfl⟩ : ∃ m, n = m + 1 := ⟨n - 1, by omega⟩
      rw [mkF_times rfl, show xpart (S33.mk 7 lo hi w nm [a]) 0 = a from rfl, hZ z (by omega), Option.bind_some, show (S33.mk 7 lo hi w nm [a]).f2 = hi from rfl, hmn, e0]
      have : copyG (mkF defs (sz z) n a) (sizeI A == 0) 0 st = some ([], st) := by
        unfold copyG; rw [if_neg (by omega), copyF]
      rw [this, Option.bind_some]
      have hst' : stC st A 0 = st := by cases st; simp [stC, setsC, ccS]
      have := oft_is hst ha.ok lo 0 l1 (by omega) (by omega) (by omega)
      rw [hst'] at this
      exact this
    · have hA : A.sets.length ≤ hi.toNat * A.sets.length := Nat.le_mul_of_pos_left _ hp
      obtain ⟨N1, h1⟩ := iha (by omega)
      refine ⟨Z + N1 + 1, fun n hn z hz st hst hs => ?_⟩
      obtain ⟨n, rfl⟩ : ∃ m, n = m + 1 := ⟨n - 1, by omega⟩
      rw [mkF_times rfl, show xpart (S33.mk 7 lo hi w nm [a]) 0 = a from rfl, hZ z (by omega), Option.bind_some, show (S33.mk 7 lo hi w nm [a]).f2 = hi from rfl, hmn,
        copyG_is ha.ok st hst (fun st' q1 q2 => h1 n (by omega) z (by omega) st' q1 q2) _ hz0 _ (by omega), Option.bind_some]
      exact oft_is hst ha.ok lo hi.toNat l1 (by omega) (by omega) (by omega)
  | wgt lo hi w nm a A l1 l2 ha iha =>
    intro hl
    obtain ⟨N1, h1⟩ := iha hl
    refine ⟨N1 + 1, fun n hn z hz st hst hs => ?_⟩
    obtain ⟨n, rfl⟩ : ∃ m, n = m + 1 := ⟨n - 1, by omega⟩
    have hs' : st.sets.length + A.sets.length ≤ 120 := hs
    rw [mkF_wgt rfl, show xpart (S33.mk 8 lo hi w nm [a]) 0 = a from rfl, h1 n (by omega) z (by omega) st hst hs', Option.bind_some]
    exact wgt_is ha.ok (tvW l1 l2) hs'
end Go.Proofs.Ytnnpfgpfkningaa.P
namespace Go.Proofs.Ytnnpfgpfkningaa.P
open Go.RowKit Go.Proofs.YtnnpfgpfkningaaW.PrintWords Go.Proofs.YtnnpfgpfkningaaW.PrintLast Go.Proofs.YtnnpfgpfkningaaW.PrintMore
attribute [local go_sem] max2_int min2_int max_two min_two max_three min_three max_four min_four   -- for this text's walks alone
attribute [local go_sem ↓ high] Go.Proofs.YtnnpfgpfkningaaX.isSome_setCell
set_option linter.unusedVariables false
set_option linter.unusedSimpArgs false
theorem rd_mem {l : List Int} {i : Nat} (h : i < l.length) : rd l (i : Int) ∈ l := by
  have e : rd l (i : Int) = l[i] := by simp [rd, h]
  rw [e]; exact List.getElem_mem h
theorem add_is {a b : Int} (ha : tv a) (hb : tv b) : hyphenref1_Add.f a b = some (tadd a b) := by
  unfold hyphenref1_Add.f
  rw [tadd_v ha hb]
  unfold tv tinf at *
  unfold mn wrap64
  congr 1
  split <;> split <;> omega
end Go.Proofs.Ytnnpfgpfkningaa.P
namespace Go.Proofs.Ytnnpfgpfkningaa.P
open Go.RowKit Go.Proofs.YtnnpfgpfkningaaW.PrintWords Go.Proofs.YtnnpfgpfkningaaW.PrintLast Go.Proofs.YtnnpfgpfkningaaW.PrintMore
attribute [local go_sem] max2_int min2_int max_two min_two max_three min_three max_four min_four   -- for this text's walks alone
attribute [local go_sem ↓ high] Go.Proofs.YtnnpfgpfkningaaX.isSome_setCell
set_option linter.unusedVariables false
set_option linter.unusedSimpArgs false
def wtL (f : List Int) (kk : Int) (i : Nat) : List Int := (f.map (fun v => tadd v kk)).take i ++ f.drop i
theorem wtL_len (f : List Int) (kk : Int) (i : Nat) : (wtL f kk i).length = f.length := by simp [wtL]; omega
theorem wtL_rd {f : List Int} {kk : Int} {i : Nat} (h : i < f.length) : rdOf 0 (wtL f kk i) (i : Int) = rd f (i : Int) := by
  unfold wtL rdOf rd
  rw [Int.toNat_natCast, List.getD_eq_getElem?_getD, List.getD_eq_getElem?_getD, List.getElem?_append_right (by simp; omega)]
  simp [show min i f.length = i from by omega]
theorem wtL_set {f : List Int} {kk : Int} {i : Nat} (h : i < f.length) : (wtL f kk i).set i (tadd (rd f (i : Int)) kk) = wtL f kk (i + 1) := by
  unfold wtL
  have e : rd f (i : Int) = f[i] := by simp [rd, h]
  rw [e, List.set_append_right _ _ (by simp; omega), List.drop_eq_getElem_cons h, List.take_succ_eq_append_getElem (by simpa using h)]
  simp [show min i f.length = i from by omega]
  rw [List.drop_eq_getElem_cons h]; rfl
structure WtAt (wb W : World) (kk : Int) (S : Sd) (P0 : Option Addr) (p0 : Nat) (AV : Option Addr) (cV : Nat) (P2 : Option Addr) (p2 : Nat) (P3 : Option Addr) (p3 i : Nat) (nn : Int) : Prop where
  k : W.heap[wb.heap.size]? = some (.cells #[.slice P0 S.sets.length p0, .slice AV S.first.length cV, .slice P2 S.ends.length p2, .slice P3 S.arcs.length p3, .int .i64 nn] 39 (0, 0))
  r : Kd.R (Kd.int .i64) 3 W wb.heap.size (fun k => wb.heap.size + 1 ≤ k) (.slice AV S.first.length cV) (wtL S.first kk i)
  b : Below wb.heap.size wb W
theorem WtAt.below {wb W W' : World} {kk : Int} {S : Sd} {P0 : Option Addr} {p0 : Nat} {AV : Option Addr} {cV : Nat} {P2 : Option Addr} {p2 : Nat} {P3 : Option Addr} {p3 i : Nat} {nn : Int} (h : WtAt wb W kk S P0 p0 AV cV P2 p2 P3 p3 i nn) (hb : Below W.heap.size W W') : WtAt wb W' kk S P0 p0 AV cV P2 p2 P3 p3 i nn :=
  ⟨blk_below h.k hb, Kd.R_below h.r hb, below_step h.b hb⟩
theorem WtAt.put {wb W : World} {kk : Int} {S : Sd} {P0 : Option Addr} {p0 gr : Nat} {cV : Nat} {P2 : Option Addr} {p2 : Nat} {P3 : Option Addr} {p3 i : Nat} {nn : Int} (h : WtAt wb W kk S P0 p0 (some ⟨gr, 0, none⟩) cV P2 p2 P3 p3 i nn) (hi : i < S.first.length) :
    WtAt wb (W.setCell ⟨gr, i, none⟩ (.int .i64 (tadd (rd S.first (i : Int)) kk))) kk S P0 p0 (some ⟨gr, 0, none⟩) cV P2 p2 P3 p3 (i + 1) nn := by
  have hgr : wb.heap.size + 1 ≤ gr := h.r.1 gr rfl
  refine ⟨?_, ?_, h.b.grown (set1g (T := gr) ⟨rfl, rfl, rfl, Nat.le_refl _, fun _ _ _ => rfl⟩ i _) h.b.size (fun j hj => by injection hj with hj; omega)⟩
  · rw [RowKit.Below.heap_setCell _ _ _ _ (show wb.heap.size ≠ gr from by omega)]; exact h.k
  · have := Kd.R_putn h.r (i : Int) (tadd (rd S.first (i : Int)) kk)
    rw [Int.toNat_natCast, wtL_set hi] at this
    exact this
theorem WtAt.none_ {wb W : World} {kk : Int} {S : Sd} {P0 : Option Addr} {p0 : Nat} {AV : Option Addr} {cV : Nat} {P2 : Option Addr} {p2 : Nat} {P3 : Option Addr} {p3 i : Nat} {nn : Int} (h : WtAt wb W kk S P0 p0 AV cV P2 p2 P3 p3 i nn) (mm : Int) :
    WtAt wb (W.setCell ⟨wb.heap.size, 4, none⟩ (.int .i64 mm)) kk S P0 p0 AV cV P2 p2 P3 p3 i mm :=
  ⟨blk_put h.k 4 _ rfl, Kd.R_grown2 h.r rfl (set1g (T := wb.heap.size) ⟨rfl, rfl, rfl, Nat.le_refl _, fun _ _ _ => rfl⟩ 4 _) (fun k hk e => by injection hk with hk; subst hk; have := h.r.1 _ e.symm; omega), h.b.grown (set1g (T := wb.heap.size) ⟨rfl, rfl, rfl, Nat.le_refl _, fun _ _ _ => rfl⟩ 4 _) h.b.size (fun j hj => by injection hj with hj; omega)⟩
theorem WtAt.begin_ {wb W : World} {kk : Int} {S : Sd} {P0 : Option Addr} {p0 : Nat} {P1 : Option Addr} {p1 : Nat} {AV : Option Addr} {cV : Nat} {P2 : Option Addr} {p2 : Nat} {P3 : Option Addr} {p3 : Nat} {nn : Int} (hk : W.heap[wb.heap.size]? = some (.cells #[.slice P0 S.sets.length p0, .slice P1 S.first.length p1, .slice P2 S.ends.length p2, .slice P3 S.arcs.length p3, .int .i64 nn] 39 (0, 0)))
    (hr : Kd.R (Kd.int .i64) 3 W wb.heap.size (fun k => wb.heap.size + 1 ≤ k) (.slice AV S.first.length cV) S.first) (hb : Below wb.heap.size wb W) : WtAt wb (W.setCell ⟨wb.heap.size, 1, none⟩ (.slice AV S.first.length cV)) kk S P0 p0 AV cV P2 p2 P3 p3 0 nn :=
  ⟨blk_put hk 1 _ rfl, by have h := Kd.R_grown2 hr rfl (set1g (T := wb.heap.size) (W := W) ⟨rfl, rfl, rfl, Nat.le_refl _, fun _ _ _ => rfl⟩ 1 (.slice AV S.first.length cV)) (fun k hk e => by injection hk with hk; subst hk; have := hr.1 _ e.symm; omega); simpa [wtL] using h, hb.grown (set1g (T := wb.heap.size) ⟨rfl, rfl, rfl, Nat.le_refl _, fun _ _ _ => rfl⟩ 1 _) hb.size (fun j hj => by injection hj with hj; omega)⟩
def f8wt.T17 : Bool × List (List Nat × List Nat) := (true, [([], []), ([0], [0]), ([], []), ([], []), ([3], [3]), ([], []), ([4, 5], [4, 5]), ([6], [6]), ([], []), ([7, 8], [7, 8]), ([1, 2, 0, 1, 2, 3, 4, 5, 6, 7, 8, 9], [1, 2]), ([10, 9, 9, 0, 1, 2, 3, 4, 5, 6, 7, 8, 9], [9, 10])])
def f8wt.B17 : List Nat := [0, 1, 0, 0, 8, 0, 56, 120, 0, 504, 1023, 2047]
theorem f8wt.tab17 : rtab .any (opsOf Try.f8 17) = f8wt.T17 := by kernel_rfl
theorem f8wt.bits17 : waitsOk f8wt.T17.2 f8wt.B17 = true := by kernel_rfl
set_option maxRecDepth 100000 in
set_option maxHeartbeats 8000000 in
theorem weights_calls (l : List S35) (A0 : Option Addr) (c0 : Nat) (wv kk : Int) (kf kr km : Nat) (r0 : S35) (x : S33) (S : Sd) (F : List Int) (w : World) (hC : Kd.C k35 w A0 l.length l) (hc : l.length ≤ c0) (h1 : 0 < l.length) (hf : hyphenlaw5_Few.f kf l = some true) (e0 : rd_T35 l 0 = r0) (hx : rawF kr r0 false = some x) (hkk : wth wv 1000 = kk) (hF : S.first.map (fun v => tadd v kk) = F)
    (ok : SdOk S) (hn : S.sets.length ≤ 120) (hMA : side_MakeP.f km x.f0 x.f1 x.f2 x.f3 x.f4 x.f5 knD [] = some (S.sets, S.first, S.ends, S.arcs, S.none, true)) (hMB : side_MakeP.f km 8 0 0 kk ⟨#[]⟩ [x] knD [] = some (S.sets, F, S.ends, S.arcs, tadd S.none kk, true)) :
    Calls Try.prog 8 #[.slice A0 l.length c0, .int .i64 wv] w fun e w' => e = .returned (.bool true) ∧ Below w.heap.size w w' := by
  obtain ⟨ad, B0, d0, rfl, q00, q01, q02, l0_, C0_⟩ := at_T35 hC 0 (by decide) (by omega)
  rw [e0] at q00 q01 q02 l0_ C0_
  clear e0
  have HE0 : Aside0 (w.cell? ad = some (.int .i64 r0.f0) ∧ w.cell? ⟨ad.block, ad.off + 1, none⟩ = some (.int .i64 r0.f1) ∧ w.cell? ⟨ad.block, ad.off + 2, none⟩ = some (.slice B0 r0.f2.length d0)) := ⟨by rw [show (0 : Int).toNat * 3 = 0 from rfl, Addr.add_zero'] at q00; exact q00, by rw [show (0 : Int).toNat * 3 = 0 from rfl, Addr.add_zero'] at q01; exact q01, by rw [show (0 : Int).toNat * 3 = 0 from rfl, Addr.add_zero'] at q02; exact q02⟩
  have HCR0 := Aside0.mk C0_
  have HLR0 := Aside0.mk l0_
  have HRL := Aside0.mk hC
  have HCC := Aside0.mk hc
  have HF := Aside0.mk hf
  have HX := Aside0.mk hx
  have HB := Aside0.mk (Below.refl w.heap.size w)
  have t2 : ((l.length : Int) == 0) = false := by rw [beq_eq_false_iff_ne]; omega
  have t3 : (l.length == 0) = false := by rw [beq_eq_false_iff_ne]; omega
  have t0 : decide (0 < l.length) = true := decide_eq_true (by omega)
  have p2 : ((l.length : Int) ≤ 0) = False := eq_false (by omega)
  have p0 : (0 < l.length) = True := eq_true (by omega)
  clear hC hc hf hx q00 q01 q02 C0_ l0_ h1
  have HMA := Aside0.mk hMA
  have HMB := Aside0.mk hMB
  have HOK := Aside0.mk ok
  have HNL : Aside0 (S.first.length ≤ 120) := ⟨by rw [ok.lf]; exact hn⟩
  have HTK : Aside0 (tv kk) := ⟨by have := wth_range wv 1000 (by omega); unfold tv tinf; omega⟩
  have HNN : Aside0 (S.sets.length < 1000000 ∧ S.ends.length < 1000000 ∧ S.arcs.length < 1000000) := ⟨by have h1 := ok.le; have h2 := arcs_few ok.up ok.rng; have h3 := sq_le hn; omega⟩
  have HKK := Aside0.mk hkk
  have HFF := Aside0.mk hF
  have HFL : Aside0 (S.first.length = F.length) := ⟨by rw [← hF, List.length_map]⟩
  clear hMA hMB ok hn hkk hF
  have MK1 := True.intro
  have MK2 := True.intro
  have MK3 := True.intro
  have MK4 := True.intro
  have MK5 := True.intro
  have MK6 := True.intro
  have MK7 := True.intro
  go_enter Try.func8, Try.ntmps8
  go_upto_region 10 with (first | (go_at_call 10; clear MK1; obtain ⟨Wm, hWm⟩ : ∃ Wm, w = Wm := ⟨_, rfl⟩; rw [hWm]; have hbm : Below w.heap.size w Wm := hWm ▸ (Below.refl _ _); clear hWm; refine (known_ok _).mono ?_; rintro e w1 ⟨rfl, hb⟩; have hbs := below_step hbm hb; have Hx_ := Aside0.mk (Kd.C_below HRL.out hbs); clear HRL; have HRL := Hx_; clear Hx_; have Hx_ := Aside0.mk (below_step HB.out hbs); clear HB; have HB := Hx_; clear Hx_; clear hbm hbs hb) | (go_at_call 11; clear MK2; (with_reducible refine (hyphenlaw5_Few.calls kf (some ad) c0 l true _ HRL.out HCC.out HF.out).mono ?_); rintro e wq ⟨rfl, ⟨n1, rfl⟩⟩) | (go_at_call 12; clear MK3; obtain ⟨Wm, hWm⟩ : ∃ Wm, (World.drewN w1 n1) = Wm := ⟨_, rfl⟩; rw [hWm]; have hbm : Below w1.heap.size w1 Wm := hWm ▸ (pw_below_drewN (Below.refl _ _) _); clear hWm; refine (defs_nil Wm).mono ?_; rintro e w2 ⟨Ad, cd, rfl, hn, hb⟩; have hbs := below_step hbm hb; have Hx_ := Aside0.mk (Kd.C_below HRL.out hbs); clear HRL; have HRL := Hx_; clear Hx_; have Hx_ := Aside0.mk (below_step HB.out hbs); clear HB; have HB := Hx_; clear Hx_; have HLD := Aside0.mk hn.1; have HRD := Aside0.mk hn.2; clear hn; clear hbm hbs hb; have hbx := below_step HB.out (below_alloc (Below.refl w2.heap.size w2) (.cells #[.slice Ad knD.length cd, .slice none 0 0] 30)); have x0 : (World.alloc w2 (.cells #[.slice Ad knD.length cd, .slice none 0 0] 30)).cell? ad = some (.int .i64 r0.f0) := (hbx.cell (World.block_lt_of_cell? _ _ HE0.out.1)).trans HE0.out.1; have x1 : (World.alloc w2 (.cells #[.slice Ad knD.length cd, .slice none 0 0] 30)).cell? ⟨ad.block, ad.off + 1, none⟩ = some (.int .i64 r0.f1) := (hbx.cell (World.block_lt_of_cell? _ _ HE0.out.2.1)).trans HE0.out.2.1; have x2 : (World.alloc w2 (.cells #[.slice Ad knD.length cd, .slice none 0 0] 30)).cell? ⟨ad.block, ad.off + 2, none⟩ = some (.slice B0 r0.f2.length d0) := (hbx.cell (World.block_lt_of_cell? _ _ HE0.out.2.2)).trans HE0.out.2.2; clear hbx) | (go_at_call 13; clear MK4; obtain ⟨Wm, hWm⟩ : ∃ Wm, (World.alloc w2 (.cells #[.slice Ad knD.length cd, .slice none 0 0] 30)) = Wm := ⟨_, rfl⟩; rw [hWm]; have hbm : Below w2.heap.size w2 Wm := hWm ▸ (below_alloc (Below.refl _ _) _); have hn_f : Wm.heap[w2.heap.size]? = some (.cells #[.slice Ad knD.length cd, .slice none 0 0] 30 (0, 0)) := hWm ▸ (new_at rfl _); clear hWm; refine (raw_use kr r0 B0 d0 false x Wm (Kd.C_below HCR0.out (below_step HB.out hbm)) HLR0.out HX.out).mono ?_; rintro e w3 ⟨AX, cX, rfl, hl_, hF_, hb⟩; have hbs := below_step hbm hb; have Hf := Aside0.mk (blk_below hn_f hb); have Hx_ := Aside0.mk (Kd.C_below HRL.out hbs); clear HRL; have HRL := Hx_; clear Hx_; have Hx_ := Aside0.mk (Kd.C_below HRD.out hbs); clear HRD; have HRD := Hx_; clear Hx_; have Hx_ := Aside0.mk (below_step HB.out hbs); clear HB; have HB := Hx_; clear Hx_; have HLX := Aside0.mk hl_; have HRX := Aside0.mk (Kd.F_now hF_); clear hl_ hF_; clear hbm hbs hb hn_f; have df_0 := cellAt (i := 0) (u := .slice Ad knD.length cd) Hf.out rfl; have df_1 := cellAt (i := 1) (u := .slice none 0 0) Hf.out rfl; have df_0a := fun o_ => cellAt (i := 0) (u := .slice Ad knD.length cd) (blk_alloc Hf.out o_) rfl; have df_1a := fun o_ => cellAt (i := 1) (u := .slice none 0 0) (blk_alloc Hf.out o_) rfl; have df_0b := fun o_ p_ => cellAt (i := 0) (u := .slice Ad knD.length cd) (blk_alloc (blk_alloc Hf.out o_) p_) rfl; have df_1b := fun o_ p_ => cellAt (i := 1) (u := .slice none 0 0) (blk_alloc (blk_alloc Hf.out o_) p_) rfl) | (go_at_call 19; clear MK5; (with_reducible refine (within7 wv 1000 _ (by omega) (by omega)).mono ?_); rintro e wq ⟨rfl, ⟨n2, rfl⟩⟩; rw [HKK.out]) | (go_at_call 14; clear MK6; obtain ⟨Wm, hWm⟩ : ∃ Wm, (World.drewN (World.alloc w3 (.cells #[.int .i64 x.f0, .int .i64 x.f1, .int .i64 x.f2, .int .i64 x.f3, .string x.f4, .slice AX x.f5.length cX] 33)) n2) = Wm := ⟨_, rfl⟩; rw [hWm]; have hbm : Below w3.heap.size w3 Wm := hWm ▸ (pw_below_drewN (below_alloc (Below.refl _ _) _) _); have hn_x : Wm.heap[w3.heap.size]? = some (.cells #[.int .i64 x.f0, .int .i64 x.f1, .int .i64 x.f2, .int .i64 x.f3, .string x.f4, .slice AX x.f5.length cX] 33 (0, 0)) := hWm ▸ (blk_drewN (new_at rfl _) _); clear hWm; refine (side_MakeP.calls km x.f0 x.f1 x.f2 x.f3 x.f4 AX cX x.f5 Ad cd knD none 0 [] (S.sets) (S.first) (S.ends) (S.arcs) (S.none) true Wm (Kd.C_below HRX.out hbm) HLX.out (Kd.C_below HRD.out hbm) HLD.out (Kd.C_nil _ _) (Nat.le_refl _) HMA.out).mono ?_; rintro e w4 ⟨v0, v1, v2, v3, rfl, q0, q1, q2, q3, hb⟩; have hbs := below_step hbm hb; have Hx_ := Aside0.mk (blk_below Hf.out hbs); clear Hf; have Hf := Hx_; clear Hx_; have Hx := Aside0.mk (blk_below hn_x hb); have Hx_ := Aside0.mk (Kd.C_below HRL.out hbs); clear HRL; have HRL := Hx_; clear Hx_; have Hx_ := Aside0.mk (Kd.C_below HRD.out hbs); clear HRD; have HRD := Hx_; clear Hx_; have Hx_ := Aside0.mk (Kd.C_below HRX.out hbs); clear HRX; have HRX := Hx_; clear Hx_; have Hx_ := Aside0.mk (below_step HB.out hbs); clear HB; have HB := Hx_; clear Hx_; obtain ⟨P0, p0, ev⟩ : ∃ A c, v0 = .slice A (S.sets).length c := Kd.R_slice q0; subst ev; have HRP0 := Aside0.mk (Kd.R_reads' q0).2.2; have HLP0 := Aside0.mk (Kd.R_reads' q0).2.1; clear q0; obtain ⟨P1, p1, ev⟩ : ∃ A c, v1 = .slice A (S.first).length c := Kd.R_slice q1; subst ev; have HRP1 := Aside0.mk (Kd.R_reads' q1).2.2; have HLP1 := Aside0.mk (Kd.R_reads' q1).2.1; clear q1; obtain ⟨P2, p2, ev⟩ : ∃ A c, v2 = .slice A (S.ends).length c := Kd.R_slice q2; subst ev; have HRP2 := Aside0.mk (Kd.R_reads' q2).2.2; have HLP2 := Aside0.mk (Kd.R_reads' q2).2.1; clear q2; obtain ⟨P3, p3, ev⟩ : ∃ A c, v3 = .slice A (S.arcs).length c := Kd.R_slice q3; subst ev; have HRP3 := Aside0.mk (Kd.R_reads' q3).2.2; have HLP3 := Aside0.mk (Kd.R_reads' q3).2.1; clear q3; clear hbm hbs hb hn_x; (try clear df_0 df_1 df_0a df_1a df_0b df_1b x0 x1 x2); have df_0 := cellAt (i := 0) (u := .slice Ad knD.length cd) Hf.out rfl; have df_1 := cellAt (i := 1) (u := .slice none 0 0) Hf.out rfl; have df_0a := fun o_ => cellAt (i := 0) (u := .slice Ad knD.length cd) (blk_alloc Hf.out o_) rfl; have df_1a := fun o_ => cellAt (i := 1) (u := .slice none 0 0) (blk_alloc Hf.out o_) rfl; have df_0b := fun o_ p_ => cellAt (i := 0) (u := .slice Ad knD.length cd) (blk_alloc (blk_alloc Hf.out o_) p_) rfl; have df_1b := fun o_ p_ => cellAt (i := 1) (u := .slice none 0 0) (blk_alloc (blk_alloc Hf.out o_) p_) rfl; have dx_0 := cellAt (i := 0) (u := .int .i64 x.f0) Hx.out rfl; have dx_1 := cellAt (i := 1) (u := .int .i64 x.f1) Hx.out rfl; have dx_2 := cellAt (i := 2) (u := .int .i64 x.f2) Hx.out rfl; have dx_3 := cellAt (i := 3) (u := .int .i64 x.f3) Hx.out rfl; have dx_4 := cellAt (i := 4) (u := .string x.f4) Hx.out rfl; have dx_5 := cellAt (i := 5) (u := .slice AX x.f5.length cX) Hx.out rfl; have dx_0a := fun o_ => cellAt (i := 0) (u := .int .i64 x.f0) (blk_alloc Hx.out o_) rfl; have dx_1a := fun o_ => cellAt (i := 1) (u := .int .i64 x.f1) (blk_alloc Hx.out o_) rfl; have dx_2a := fun o_ => cellAt (i := 2) (u := .int .i64 x.f2) (blk_alloc Hx.out o_) rfl; have dx_3a := fun o_ => cellAt (i := 3) (u := .int .i64 x.f3) (blk_alloc Hx.out o_) rfl; have dx_4a := fun o_ => cellAt (i := 4) (u := .string x.f4) (blk_alloc Hx.out o_) rfl; have dx_5a := fun o_ => cellAt (i := 5) (u := .slice AX x.f5.length cX) (blk_alloc Hx.out o_) rfl; have dx_0b := fun o_ p_ => cellAt (i := 0) (u := .int .i64 x.f0) (blk_alloc (blk_alloc Hx.out o_) p_) rfl; have dx_1b := fun o_ p_ => cellAt (i := 1) (u := .int .i64 x.f1) (blk_alloc (blk_alloc Hx.out o_) p_) rfl; have dx_2b := fun o_ p_ => cellAt (i := 2) (u := .int .i64 x.f2) (blk_alloc (blk_alloc Hx.out o_) p_) rfl; have dx_3b := fun o_ p_ => cellAt (i := 3) (u := .int .i64 x.f3) (blk_alloc (blk_alloc Hx.out o_) p_) rfl; have dx_4b := fun o_ p_ => cellAt (i := 4) (u := .string x.f4) (blk_alloc (blk_alloc Hx.out o_) p_) rfl; have dx_5b := fun o_ p_ => cellAt (i := 5) (u := .slice AX x.f5.length cX) (blk_alloc (blk_alloc Hx.out o_) p_) rfl) | (go_at_call 14; clear MK7; obtain ⟨Wm, hWm⟩ : ∃ Wm, (World.alloc (World.alloc w4 (.cells #[.slice P0 (S.sets).length p0, .slice P1 (S.first).length p1, .slice P2 (S.ends).length p2, .slice P3 (S.arcs).length p3, .int .i64 S.none] 39)) (.cells #[.int .i64 x.f0, .int .i64 x.f1, .int .i64 x.f2, .int .i64 x.f3, .string x.f4, .slice AX x.f5.length cX] 33)) = Wm := ⟨_, rfl⟩; rw [hWm]; have hbm : Below w4.heap.size w4 Wm := hWm ▸ (below_alloc (below_alloc (Below.refl _ _) _) _); have hn_a : Wm.heap[w4.heap.size]? = some (.cells #[.slice P0 (S.sets).length p0, .slice P1 (S.first).length p1, .slice P2 (S.ends).length p2, .slice P3 (S.arcs).length p3, .int .i64 S.none] 39 (0, 0)) := hWm ▸ (blk_alloc (new_at rfl _) _); have hn__t : Wm.heap[w4.heap.size + 1]? = some (.cells #[.int .i64 x.f0, .int .i64 x.f1, .int .i64 x.f2, .int .i64 x.f3, .string x.f4, .slice AX x.f5.length cX] 33 (0, 0)) := hWm ▸ (new_at ((size_alloc _ _).trans (congrArg (· + 1) rfl)) _); clear hWm; refine (side_MakeP.calls km 8 0 0 kk ⟨#[]⟩ (some ⟨w4.heap.size + 1, 0, none⟩) 1 [x] Ad cd knD none 0 [] (S.sets) (F) (S.ends) (S.arcs) ((tadd S.none kk)) true Wm (lit1_C hn__t HLX.out (Kd.C_below HRX.out hbm)) (Nat.le_refl _) (Kd.C_below HRD.out hbm) HLD.out (Kd.C_nil _ _) (Nat.le_refl _) HMB.out).mono ?_; rintro e w5 ⟨v0, v1, v2, v3, rfl, q0, q1, q2, q3, hb⟩; have hbs := below_step hbm hb; have Hx_ := Aside0.mk (blk_below Hf.out hbs); clear Hf; have Hf := Hx_; clear Hx_; have Hx_ := Aside0.mk (blk_below Hx.out hbs); clear Hx; have Hx := Hx_; clear Hx_; have Ha := Aside0.mk (blk_below hn_a hb); have Hx_ := Aside0.mk (Kd.C_below HRL.out hbs); clear HRL; have HRL := Hx_; clear Hx_; have Hx_ := Aside0.mk (Kd.C_below HRD.out hbs); clear HRD; have HRD := Hx_; clear Hx_; have Hx_ := Aside0.mk (Kd.C_below HRX.out hbs); clear HRX; have HRX := Hx_; clear Hx_; have Hx_ := Aside0.mk (Kd.C_below HRP0.out hbs); clear HRP0; have HRP0 := Hx_; clear Hx_; have Hx_ := Aside0.mk (Kd.C_below HRP1.out hbs); clear HRP1; have HRP1 := Hx_; clear Hx_; have Hx_ := Aside0.mk (Kd.C_below HRP2.out hbs); clear HRP2; have HRP2 := Hx_; clear Hx_; have Hx_ := Aside0.mk (Kd.C_below HRP3.out hbs); clear HRP3; have HRP3 := Hx_; clear Hx_; have Hx_ := Aside0.mk (below_step HB.out hbs); clear HB; have HB := Hx_; clear Hx_; obtain ⟨Q0, q0, ev⟩ : ∃ A c, v0 = .slice A (S.sets).length c := Kd.R_slice q0; subst ev; have HRQ0 := Aside0.mk (Kd.R_reads' q0).2.2; have HLQ0 := Aside0.mk (Kd.R_reads' q0).2.1; clear q0; obtain ⟨Q1, q1, ev⟩ : ∃ A c, v1 = .slice A (F).length c := Kd.R_slice q1; subst ev; have HRQ1 := Aside0.mk (Kd.R_reads' q1).2.2; have HLQ1 := Aside0.mk (Kd.R_reads' q1).2.1; clear q1; obtain ⟨Q2, q2, ev⟩ : ∃ A c, v2 = .slice A (S.ends).length c := Kd.R_slice q2; subst ev; have HRQ2 := Aside0.mk (Kd.R_reads' q2).2.2; have HLQ2 := Aside0.mk (Kd.R_reads' q2).2.1; clear q2; obtain ⟨Q3, q3, ev⟩ : ∃ A c, v3 = .slice A (S.arcs).length c := Kd.R_slice q3; subst ev; have HRQ3 := Aside0.mk (Kd.R_reads' q3).2.2; have HLQ3 := Aside0.mk (Kd.R_reads' q3).2.1; clear q3; clear hbm hbs hb hn_a hn__t; (try clear df_0 df_1 df_0a df_1a df_0b df_1b dx_0 dx_1 dx_2 dx_3 dx_4 dx_5 dx_0a dx_1a dx_2a dx_3a dx_4a dx_5a dx_0b dx_1b dx_2b dx_3b dx_4b dx_5b); have df_0 := cellAt (i := 0) (u := .slice Ad knD.length cd) Hf.out rfl; have df_1 := cellAt (i := 1) (u := .slice none 0 0) Hf.out rfl; have df_0a := fun o_ => cellAt (i := 0) (u := .slice Ad knD.length cd) (blk_alloc Hf.out o_) rfl; have df_1a := fun o_ => cellAt (i := 1) (u := .slice none 0 0) (blk_alloc Hf.out o_) rfl; have df_0b := fun o_ p_ => cellAt (i := 0) (u := .slice Ad knD.length cd) (blk_alloc (blk_alloc Hf.out o_) p_) rfl; have df_1b := fun o_ p_ => cellAt (i := 1) (u := .slice none 0 0) (blk_alloc (blk_alloc Hf.out o_) p_) rfl; have dx_0 := cellAt (i := 0) (u := .int .i64 x.f0) Hx.out rfl; have dx_1 := cellAt (i := 1) (u := .int .i64 x.f1) Hx.out rfl; have dx_2 := cellAt (i := 2) (u := .int .i64 x.f2) Hx.out rfl; have dx_3 := cellAt (i := 3) (u := .int .i64 x.f3) Hx.out rfl; have dx_4 := cellAt (i := 4) (u := .string x.f4) Hx.out rfl; have dx_5 := cellAt (i := 5) (u := .slice AX x.f5.length cX) Hx.out rfl; have dx_0a := fun o_ => cellAt (i := 0) (u := .int .i64 x.f0) (blk_alloc Hx.out o_) rfl; have dx_1a := fun o_ => cellAt (i := 1) (u := .int .i64 x.f1) (blk_alloc Hx.out o_) rfl; have dx_2a := fun o_ => cellAt (i := 2) (u := .int .i64 x.f2) (blk_alloc Hx.out o_) rfl; have dx_3a := fun o_ => cellAt (i := 3) (u := .int .i64 x.f3) (blk_alloc Hx.out o_) rfl; have dx_4a := fun o_ => cellAt (i := 4) (u := .string x.f4) (blk_alloc Hx.out o_) rfl; have dx_5a := fun o_ => cellAt (i := 5) (u := .slice AX x.f5.length cX) (blk_alloc Hx.out o_) rfl; have dx_0b := fun o_ p_ => cellAt (i := 0) (u := .int .i64 x.f0) (blk_alloc (blk_alloc Hx.out o_) p_) rfl; have dx_1b := fun o_ p_ => cellAt (i := 1) (u := .int .i64 x.f1) (blk_alloc (blk_alloc Hx.out o_) p_) rfl; have dx_2b := fun o_ p_ => cellAt (i := 2) (u := .int .i64 x.f2) (blk_alloc (blk_alloc Hx.out o_) p_) rfl; have dx_3b := fun o_ p_ => cellAt (i := 3) (u := .int .i64 x.f3) (blk_alloc (blk_alloc Hx.out o_) p_) rfl; have dx_4b := fun o_ p_ => cellAt (i := 4) (u := .string x.f4) (blk_alloc (blk_alloc Hx.out o_) p_) rfl; have dx_5b := fun o_ p_ => cellAt (i := 5) (u := .slice AX x.f5.length cX) (blk_alloc (blk_alloc Hx.out o_) p_) rfl; have da_0 := cellAt (i := 0) (u := .slice P0 (S.sets).length p0) Ha.out rfl; have da_1 := cellAt (i := 1) (u := .slice P1 (S.first).length p1) Ha.out rfl; have da_2 := cellAt (i := 2) (u := .slice P2 (S.ends).length p2) Ha.out rfl; have da_3 := cellAt (i := 3) (u := .slice P3 (S.arcs).length p3) Ha.out rfl; have da_4 := cellAt (i := 4) (u := .int .i64 S.none) Ha.out rfl; have da_0a := fun o_ => cellAt (i := 0) (u := .slice P0 (S.sets).length p0) (blk_alloc Ha.out o_) rfl; have da_1a := fun o_ => cellAt (i := 1) (u := .slice P1 (S.first).length p1) (blk_alloc Ha.out o_) rfl; have da_2a := fun o_ => cellAt (i := 2) (u := .slice P2 (S.ends).length p2) (blk_alloc Ha.out o_) rfl; have da_3a := fun o_ => cellAt (i := 3) (u := .slice P3 (S.arcs).length p3) (blk_alloc Ha.out o_) rfl; have da_4a := fun o_ => cellAt (i := 4) (u := .int .i64 S.none) (blk_alloc Ha.out o_) rfl; have da_0b := fun o_ p_ => cellAt (i := 0) (u := .slice P0 (S.sets).length p0) (blk_alloc (blk_alloc Ha.out o_) p_) rfl; have da_1b := fun o_ p_ => cellAt (i := 1) (u := .slice P1 (S.first).length p1) (blk_alloc (blk_alloc Ha.out o_) p_) rfl; have da_2b := fun o_ p_ => cellAt (i := 2) (u := .slice P2 (S.ends).length p2) (blk_alloc (blk_alloc Ha.out o_) p_) rfl; have da_3b := fun o_ p_ => cellAt (i := 3) (u := .slice P3 (S.arcs).length p3) (blk_alloc (blk_alloc Ha.out o_) p_) rfl; have da_4b := fun o_ p_ => cellAt (i := 4) (u := .int .i64 S.none) (blk_alloc (blk_alloc Ha.out o_) p_) rfl))
  obtain ⟨wb, hWm⟩ : ∃ Wm, (World.alloc w5 (.cells #[.slice Q0 (S.sets).length q0, .slice Q1 (F).length q1, .slice Q2 (S.ends).length q2, .slice Q3 (S.arcs).length q3, .int .i64 (tadd S.none kk)] 39)) = Wm := ⟨_, rfl⟩
  rw [hWm]
  have hbs : Below w5.heap.size w5 wb := hWm ▸ (below_alloc (Below.refl _ _) _)
  have hn_b : wb.heap[w5.heap.size]? = some (.cells #[.slice Q0 (S.sets).length q0, .slice Q1 (F).length q1, .slice Q2 (S.ends).length q2, .slice Q3 (S.arcs).length q3, .int .i64 (tadd S.none kk)] 39 (0, 0)) := hWm ▸ (new_at rfl _)
  clear hWm
  have Hx_ := Aside0.mk (blk_below Hf.out hbs); clear Hf; have Hf := Hx_; clear Hx_
  have Hx_ := Aside0.mk (blk_below Hx.out hbs); clear Hx; have Hx := Hx_; clear Hx_
  have Hx_ := Aside0.mk (blk_below Ha.out hbs); clear Ha; have Ha := Hx_; clear Hx_
  have Hb := Aside0.mk hn_b
  clear hn_b
  have Hx_ := Aside0.mk (Kd.C_below HRL.out hbs); clear HRL; have HRL := Hx_; clear Hx_
  have Hx_ := Aside0.mk (Kd.C_below HRD.out hbs); clear HRD; have HRD := Hx_; clear Hx_
  have Hx_ := Aside0.mk (Kd.C_below HRX.out hbs); clear HRX; have HRX := Hx_; clear Hx_
  have Hx_ := Aside0.mk (Kd.C_below HRP0.out hbs); clear HRP0; have HRP0 := Hx_; clear Hx_
  have Hx_ := Aside0.mk (Kd.C_below HRP1.out hbs); clear HRP1; have HRP1 := Hx_; clear Hx_
  have Hx_ := Aside0.mk (Kd.C_below HRP2.out hbs); clear HRP2; have HRP2 := Hx_; clear Hx_
  have Hx_ := Aside0.mk (Kd.C_below HRP3.out hbs); clear HRP3; have HRP3 := Hx_; clear Hx_
  have Hx_ := Aside0.mk (Kd.C_below HRQ0.out hbs); clear HRQ0; have HRQ0 := Hx_; clear Hx_
  have Hx_ := Aside0.mk (Kd.C_below HRQ1.out hbs); clear HRQ1; have HRQ1 := Hx_; clear Hx_
  have Hx_ := Aside0.mk (Kd.C_below HRQ2.out hbs); clear HRQ2; have HRQ2 := Hx_; clear Hx_
  have Hx_ := Aside0.mk (Kd.C_below HRQ3.out hbs); clear HRQ3; have HRQ3 := Hx_; clear Hx_
  have Hx_ := Aside0.mk (below_step HB.out hbs); clear HB; have HB := Hx_; clear Hx_
  (try clear hbs df_0 df_1 df_0a df_1a df_0b df_1b dx_0 dx_1 dx_2 dx_3 dx_4 dx_5 dx_0a dx_1a dx_2a dx_3a dx_4a dx_5a dx_0b dx_1b dx_2b dx_3b dx_4b dx_5b da_0 da_1 da_2 da_3 da_4 da_0a da_1a da_2a da_3a da_4a da_0b da_1b da_2b da_3b da_4b)
  have da_0 := cellAt (i := 0) (u := .slice P0 (S.sets).length p0) Ha.out rfl
  have da_1 := cellAt (i := 1) (u := .slice P1 (S.first).length p1) Ha.out rfl
  have da_2 := cellAt (i := 2) (u := .slice P2 (S.ends).length p2) Ha.out rfl
  have da_3 := cellAt (i := 3) (u := .slice P3 (S.arcs).length p3) Ha.out rfl
  have da_4 := cellAt (i := 4) (u := .int .i64 S.none) Ha.out rfl
  have da_0a := fun o_ => cellAt (i := 0) (u := .slice P0 (S.sets).length p0) (blk_alloc Ha.out o_) rfl
  have da_1a := fun o_ => cellAt (i := 1) (u := .slice P1 (S.first).length p1) (blk_alloc Ha.out o_) rfl
  have da_2a := fun o_ => cellAt (i := 2) (u := .slice P2 (S.ends).length p2) (blk_alloc Ha.out o_) rfl
  have da_3a := fun o_ => cellAt (i := 3) (u := .slice P3 (S.arcs).length p3) (blk_alloc Ha.out o_) rfl
  have da_4a := fun o_ => cellAt (i := 4) (u := .int .i64 S.none) (blk_alloc Ha.out o_) rfl
  have da_0b := fun o_ p_ => cellAt (i := 0) (u := .slice P0 (S.sets).length p0) (blk_alloc (blk_alloc Ha.out o_) p_) rfl
  have da_1b := fun o_ p_ => cellAt (i := 1) (u := .slice P1 (S.first).length p1) (blk_alloc (blk_alloc Ha.out o_) p_) rfl
  have da_2b := fun o_ p_ => cellAt (i := 2) (u := .slice P2 (S.ends).length p2) (blk_alloc (blk_alloc Ha.out o_) p_) rfl
  have da_3b := fun o_ p_ => cellAt (i := 3) (u := .slice P3 (S.arcs).length p3) (blk_alloc (blk_alloc Ha.out o_) p_) rfl
  have da_4b := fun o_ p_ => cellAt (i := 4) (u := .int .i64 S.none) (blk_alloc (blk_alloc Ha.out o_) p_) rfl
  go_wp2_with (at_builtin; obtain ⟨Wm, hWm⟩ : ∃ Wm, (World.alloc (World.alloc wb (.cells #[.slice P0 (S.sets).length p0, .slice P1 (S.first).length p1, .slice P2 (S.ends).length p2, .slice P3 (S.arcs).length p3, .int .i64 S.none] 39)) (.cells #[] 3)) = Wm := ⟨_, rfl⟩; rw [hWm]; have hbm : Below wb.heap.size wb Wm := hWm ▸ (below_alloc (below_alloc (Below.refl _ _) _) _); have hn_want : Wm.heap[wb.heap.size]? = some (.cells #[.slice P0 (S.sets).length p0, .slice P1 (S.first).length p1, .slice P2 (S.ends).length p2, .slice P3 (S.arcs).length p3, .int .i64 S.none] 39 (0, 0)) := hWm ▸ (blk_alloc (new_at rfl _) _); have hn_emp : Wm.heap[wb.heap.size + 1]? = some (.cells #[] 3 (0, 0)) := hWm ▸ (new_at ((size_alloc _ _).trans (congrArg (· + 1) rfl)) _); clear hWm; have hle_ := blk_lt hn_emp; refine Kd.R_append_row (Value.int .i64) (0 : Int) (h1 := fun _ => rfl) (w0 := wb) wb.heap.size rfl (.tmp 57) (.tmp 59) 23 3 (.int .i64 0) 8 rfl Try.underlying23 info3 rfl (by decide) (.slice (some ⟨wb.heap.size + 1, 0, none⟩) 0 0) [] S.first P1 S.first.length p1 (fun k => wb.heap.size + 1 ≤ k) rfl rfl (fun k hk => by omega) (intR_mk (cap := 0) (l := []) (Nat.le_refl _) (Nat.le_succ _) hn_emp (Nat.le_refl _) (by decide) rfl (by rfl)) (Kd.C_below HRP1.out hbm) hbm hbm.size (by have := HNL.out; simp; omega) ?_; intro v1 w6 ho hB6 hg hat; obtain ⟨AV, cV, ev⟩ : ∃ A c, v1 = .slice A S.first.length c := Kd.R_slice ho; subst ev; have HKW := Aside0.mk (blk_grown hn_want hg (by simp [Value.ownBlock])); have HRW := Aside0.mk (show Kd.R (Kd.int .i64) 3 w6 wb.heap.size (fun k => wb.heap.size + 1 ≤ k) (.slice AV S.first.length cV) S.first from ho); have HBW := Aside0.mk hB6; clear ho hB6 hg hat hn_want hn_emp hbm hle_; have dw_0 := cellAt (i := 0) (u := .slice P0 (S.sets).length p0) HKW.out rfl; have nw_0 := blk_frozen HKW.out 0; have dw_1 := cellAt (i := 1) (u := .slice P1 (S.first).length p1) HKW.out rfl; have nw_1 := blk_frozen HKW.out 1; have dw_2 := cellAt (i := 2) (u := .slice P2 (S.ends).length p2) HKW.out rfl; have nw_2 := blk_frozen HKW.out 2; have dw_3 := cellAt (i := 3) (u := .slice P3 (S.arcs).length p3) HKW.out rfl; have nw_3 := blk_frozen HKW.out 3; have dw_4 := cellAt (i := 4) (u := .int .i64 S.none) HKW.out rfl; have nw_4 := blk_frozen HKW.out 4)
  go_loopw [13] (fun v13 W => ∃ i : Nat, v13 = .int .i64 (i : Int) ∧ Aside0 (i ≤ S.first.length) ∧ Aside0 (WtAt wb W kk S P0 p0 AV cV P2 p2 P3 p3 i S.none)) (fun v13 _ => S.first.length - (intOf v13).toNat)
  case atStart => exact ⟨0, rfl, ⟨Nat.zero_le _⟩, ⟨WtAt.begin_ HKW.out HRW.out HBW.out⟩⟩
  case round =>
    obtain ⟨i, rfl, HI, HWT⟩ := hrel
    have hnl := HNL.out
    clear dw_0 dw_1 dw_2 dw_3 dw_4 nw_0 nw_1 nw_2 nw_3 nw_4
    by_cases hi : i < S.first.length
    · have HIL := Aside0.mk hi
      have iw : IntKind.i64.wrap ((i : Int) + 1) = (i : Int) + 1 := by rw [i64_w]; unfold wrap64; omega
      have c1 : decide ((i : Int) < (S.first.length : Int)) = true := decide_eq_true (by omega)
      have c2 : decide (i < S.first.length) = true := decide_eq_true hi
      have c3 : (i < S.first.length) = True := eq_true hi
      obtain ⟨gr, cap_, ev, _, _, _⟩ := Kd.R_form HWT.out.r (by rw [wtL_len]; omega)
      obtain rfl : AV = some ⟨gr, 0, none⟩ := by injection ev
      have HTF : Aside0 (tv (rd S.first (i : Int))) := ⟨HOK.out.vf _ (rd_mem hi)⟩
      have dk := cellAt (i := 1) (u := .slice (some ⟨gr, 0, none⟩) S.first.length cV) HWT.out.k rfl
      clear ev hi hnl
      go_wp2
      refine start_ (n := 12) (S := fun w' => True) (ds := []) #[false, false, false, false, false, false, false, false, false, false, false, false] (by kernel_rfl) rfl rfl trivial (fun hHeld => ?_); refine with_tabW f8wt.tab17 f8wt.bits17 (fun HT_ HW_ => ?_)
      obtain ⟨ws, hws⟩ : ∃ ws, World.drew wr = ws := ⟨_, rfl⟩
      have WT : Aside0 (WtAt wb ws kk S P0 p0 (some ⟨gr, 0, none⟩) cV P2 p2 P3 p3 i S.none) := ⟨hws ▸ HWT.out.below (below_drew (Below.refl _ _))⟩
      (try rw [hws])
      clear hws
      have B := Aside0.mk (Below.refl ws.heap.size ws)
      refine pure_ (i := 0) (N := some 69) (v := ?_) (a' := ?_) #[true, false, false, false, false, false, false, false, false, false, false, false] rfl rfl (any_of HT_.out (by kernel_rfl)) (fun _ _ _ h => h) (Or.inl ⟨by rfl, ?_⟩) ?_ ?_
      rotate_left
      · intro w'
        go_simp
        with_reducible rfl
      rotate_left
      · simp only [Act.put, List.setIfInBounds_toArray, List.set_cons_zero, List.set_cons_succ, i64_w, i32_w]
        rfl
      refine pure_ (i := 2) (N := some 71) (v := ?_) (a' := ?_) #[true, false, true, false, false, false, false, false, false, false, false, false] rfl rfl (any_of HT_.out (by kernel_rfl)) (fun _ _ _ h => h) (Or.inl ⟨by rfl, ?_⟩) ?_ ?_
      rotate_left
      · intro w'
        go_simp
        with_reducible rfl
      rotate_left
      · simp only [Act.put, List.setIfInBounds_toArray, List.set_cons_zero, List.set_cons_succ, i64_w, i32_w]
        rfl
      refine pure_ (i := 3) (N := some 72) (v := ?_) (a' := ?_) #[true, false, true, true, false, false, false, false, false, false, false, false] rfl rfl (any_of HT_.out (by kernel_rfl)) (fun _ _ _ h => h) (Or.inl ⟨by rfl, ?_⟩) ?_ ?_
      rotate_left
      · intro w'
        go_simp
        with_reducible rfl
      rotate_left
      · simp only [Act.put, List.setIfInBounds_toArray, List.set_cons_zero, List.set_cons_succ, i64_w, i32_w]
        rfl
      refine pure_ (i := 5) (N := some 74) (v := ?_) (a' := ?_) #[true, false, true, true, false, true, false, false, false, false, false, false] rfl rfl (any_of HT_.out (by kernel_rfl)) (fun _ _ _ h => h) (Or.inl ⟨by rfl, ?_⟩) ?_ ?_
      rotate_left
      · intro w'
        go_simp
        with_reducible rfl
      rotate_left
      · simp only [Act.put, List.setIfInBounds_toArray, List.set_cons_zero, List.set_cons_succ, i64_w, i32_w]
        rfl
      refine pure_ (i := 8) (N := some 77) (v := ?_) (a' := ?_) #[true, false, true, true, false, true, false, false, true, false, false, false] rfl rfl (any_of HT_.out (by kernel_rfl)) (fun _ _ _ h => h) (Or.inl ⟨by rfl, ?_⟩) ?_ ?_
      rotate_left
      · intro w'
        go_simp
        with_reducible rfl
      rotate_left
      · simp only [Act.put, List.setIfInBounds_toArray, List.set_cons_zero, List.set_cons_succ, i64_w, i32_w]
        rfl
      refine inv_at [1, 4, 6, 7, 9, 10, 11] (fun a0_ b a w' => a = putSel a0_ b [(1, 70, .slice (some ⟨gr, 0, none⟩) S.first.length cV), (4, 73, .slice (some ⟨gr, 0, none⟩) S.first.length cV), (6, 75, .pointer (some ⟨gr, i, none⟩)), (7, 76, .int .i64 (rd S.first (i : Int))), (9, 78, .int .i64 (tadd (rd S.first (i : Int)) kk)), (10, 79, .pointer (some ⟨gr, i, none⟩))] ∧ (b 11 = false → Below ws.heap.size ws w') ∧ (b 11 = true → WtAt wb w' kk S P0 p0 (some ⟨gr, 0, none⟩) cV P2 p2 P3 p3 (i + 1) S.none)) HT_.out HW_.out (by kernel_rfl) (by kernel_rfl) ?_ ?_ ?_
      · exact ⟨by simp only [putSel, Bool.false_eq_true, if_false], fun _ => B.out, fun h_ => absurd h_ (by decide)⟩
      · skip
        clear B
        refine steps_cons ?_ ?_
        · rintro b a w' ⟨ha, Q_B, Q_K⟩ hb_ hon hoff
          refine ⟨_, rfl, fun K hK => ?_⟩
          have e69 : a.tmps[69]? = some (.pointer (some ⟨wb.heap.size, 1, none⟩)) := by rw [ha]; exact (putSel_off rfl).trans rfl
          replace ha := Aside0.mk ha
          have B := Aside0.mk (Q_B (hoff 11 (by kernel_rfl)))
          have hq_ := cellAt (i := 1) (u := .slice (some ⟨gr, 0, none⟩) S.first.length cV) (WT.out.below B.out).k rfl
          refine value_ (w1 := w') (v := .slice (some ⟨gr, 0, none⟩) S.first.length cV) (by rfl) rfl ?_ ?_
          · go_simp
            (try simp only [i64_w])
            try rfl
          refine hK.out _ _ ⟨(by rw [ha.out]; exact putSel_upk 0 hb_ rfl rfl rfl), Q_B, fun h0_ => absurd ((hoff 11 (by kernel_rfl)).symm.trans h0_) (by decide)⟩
        refine steps_cons ?_ ?_
        · rintro b a w' ⟨ha, Q_B, Q_K⟩ hb_ hon hoff
          refine ⟨_, rfl, fun K hK => ?_⟩
          have e72 : a.tmps[72]? = some (.pointer (some ⟨wb.heap.size, 1, none⟩)) := by rw [ha]; exact (putSel_off rfl).trans rfl
          replace ha := Aside0.mk ha
          have B := Aside0.mk (Q_B (hoff 11 (by kernel_rfl)))
          have hq_ := cellAt (i := 1) (u := .slice (some ⟨gr, 0, none⟩) S.first.length cV) (WT.out.below B.out).k rfl
          refine value_ (w1 := w') (v := .slice (some ⟨gr, 0, none⟩) S.first.length cV) (by rfl) rfl ?_ ?_
          · go_simp
            (try simp only [i64_w])
            try rfl
          refine hK.out _ _ ⟨(by rw [ha.out]; exact putSel_upk 1 hb_ rfl rfl rfl), Q_B, fun h0_ => absurd ((hoff 11 (by kernel_rfl)).symm.trans h0_) (by decide)⟩
        refine steps_cons ?_ ?_
        · rintro b a w' ⟨ha, Q_B, Q_K⟩ hb_ hon hoff
          refine ⟨_, rfl, fun K hK => ?_⟩
          have e73 : a.tmps[73]? = some (.slice (some ⟨gr, 0, none⟩) S.first.length cV) := by rw [ha]; exact putSel_on (e := (4, 73, .slice (some ⟨gr, 0, none⟩) S.first.length cV)) 1 rfl rfl (hon 4 (by kernel_rfl)) rfl
          have e74 : a.tmps[74]? = some (.int .i64 (i : Int)) := by rw [ha]; exact (putSel_off rfl).trans rfl
          replace ha := Aside0.mk ha
          have B := Aside0.mk (Q_B (hoff 11 (by kernel_rfl)))
          refine value_ (w1 := w') (v := .pointer (some ⟨gr, i, none⟩)) (by rfl) rfl ?_ ?_
          · go_simp
            (try simp only [i64_w])
            try rfl
          refine hK.out _ _ ⟨(by rw [ha.out]; exact putSel_upk 2 hb_ rfl rfl rfl), Q_B, fun h0_ => absurd ((hoff 11 (by kernel_rfl)).symm.trans h0_) (by decide)⟩
        refine steps_cons ?_ ?_
        · rintro b a w' ⟨ha, Q_B, Q_K⟩ hb_ hon hoff
          refine ⟨_, rfl, fun K hK => ?_⟩
          have e75 : a.tmps[75]? = some (.pointer (some ⟨gr, i, none⟩)) := by rw [ha]; exact putSel_on (e := (6, 75, .pointer (some ⟨gr, i, none⟩))) 2 rfl rfl (hon 6 (by kernel_rfl)) rfl
          replace ha := Aside0.mk ha
          have B := Aside0.mk (Q_B (hoff 11 (by kernel_rfl)))
          have hq_ := (Kd.R_celln 0 (WT.out.below B.out).r (i : Int) (by omega) (by have := HIL.out; omega)).1
          rw [Int.toNat_natCast, wtL_rd HIL.out] at hq_
          refine value_ (w1 := w') (v := .int .i64 (rd S.first (i : Int))) (by rfl) rfl ?_ ?_
          · go_simp
            (try simp only [i64_w])
            try rfl
          refine hK.out _ _ ⟨(by rw [ha.out]; exact putSel_upk 3 hb_ rfl rfl rfl), Q_B, fun h0_ => absurd ((hoff 11 (by kernel_rfl)).symm.trans h0_) (by decide)⟩
        refine steps_cons ?_ ?_
        · rintro b a w' ⟨ha, Q_B, Q_K⟩ hb_ hon hoff
          refine ⟨_, rfl, fun K hK => ?_⟩
          have e76 : a.tmps[76]? = some (.int .i64 (rd S.first (i : Int))) := by rw [ha]; exact putSel_on (e := (7, 76, .int .i64 (rd S.first (i : Int)))) 3 rfl rfl (hon 7 (by kernel_rfl)) rfl
          have e77 : a.tmps[77]? = some (.int .i64 kk) := by rw [ha]; exact (putSel_off rfl).trans rfl
          replace ha := Aside0.mk ha
          have B := Aside0.mk (Q_B (hoff 11 (by kernel_rfl)))
          refine goes_ Try.func21 (by kernel_rfl) rfl #[.int .i64 (rd S.first (i : Int)), .int .i64 kk] (by rfl) rfl rfl (by first | (simp only [List.map_toArray, List.map_cons, List.map_nil, Act.eval, Array.getD_eq_getD_getElem?, Option.getD_some, e76, e77]; done) | (simp only [List.map_toArray, List.map_cons, List.map_nil, Act.eval, Array.getD_eq_getD_getElem?, Option.getD_some, e76, e77]; rfl)) ?_
          with_reducible refine (hyphenref1_Add.calls (rd S.first (i : Int)) kk (tadd (rd S.first (i : Int)) kk) _ (add_is HTF.out HTK.out)).mono ?_
          rintro e w3 ⟨rfl, hb⟩
          refine ⟨_, rfl, ?_⟩
          refine hK.out _ _ ⟨(by rw [ha.out]; exact putSel_upk 4 hb_ rfl rfl rfl), fun _ => below_step B.out hb, fun h0_ => absurd ((hoff 11 (by kernel_rfl)).symm.trans h0_) (by decide)⟩
        refine steps_cons ?_ ?_
        · rintro b a w' ⟨ha, Q_B, Q_K⟩ hb_ hon hoff
          refine ⟨_, rfl, fun K hK => ?_⟩
          have e70 : a.tmps[70]? = some (.slice (some ⟨gr, 0, none⟩) S.first.length cV) := by rw [ha]; exact putSel_on (e := (1, 70, .slice (some ⟨gr, 0, none⟩) S.first.length cV)) 0 rfl rfl (hon 1 (by kernel_rfl)) rfl
          have e71 : a.tmps[71]? = some (.int .i64 (i : Int)) := by rw [ha]; exact (putSel_off rfl).trans rfl
          replace ha := Aside0.mk ha
          have B := Aside0.mk (Q_B (hoff 11 (by kernel_rfl)))
          refine value_ (w1 := w') (v := .pointer (some ⟨gr, i, none⟩)) (by rfl) rfl ?_ ?_
          · go_simp
            (try simp only [i64_w])
            try rfl
          refine hK.out _ _ ⟨(by rw [ha.out]; exact putSel_upk 5 hb_ rfl rfl rfl), Q_B, fun h0_ => absurd ((hoff 11 (by kernel_rfl)).symm.trans h0_) (by decide)⟩
        refine steps_cons ?_ ?_
        · rintro b a w' ⟨ha, Q_B, Q_K⟩ hb_ hon hoff
          refine ⟨_, rfl, fun K hK => ?_⟩
          have e79 : a.tmps[79]? = some (.pointer (some ⟨gr, i, none⟩)) := by rw [ha]; exact putSel_on (e := (10, 79, .pointer (some ⟨gr, i, none⟩))) 5 rfl rfl (hon 10 (by kernel_rfl)) rfl
          have e78 : a.tmps[78]? = some (.int .i64 (tadd (rd S.first (i : Int)) kk)) := by rw [ha]; exact putSel_on (e := (9, 78, .int .i64 (tadd (rd S.first (i : Int)) kk))) 4 rfl rfl (hon 9 (by kernel_rfl)) rfl
          replace ha := Aside0.mk ha
          have B := Aside0.mk (Q_B hb_)
          have hw_ := WT.out.below B.out
          have hq_ := Kd.R_celln 0 hw_.r (i : Int) (by omega) (by have := HIL.out; omega)
          rw [Int.toNat_natCast, wtL_rd HIL.out] at hq_
          obtain ⟨hq1_, hq2_⟩ := hq_
          refine skip_ (w1 := ?_) (by rfl) rfl ?_ ?_
          rotate_left
          · go_simp
            rfl
          refine hK.out _ _ ⟨(by rw [ha.out]; exact putSel_none (v := undef) rfl), fun h0_ => absurd ((up_self b 11).symm.trans h0_) (by decide), fun _ => hw_.put HIL.out⟩
        exact steps_nil
      · rintro b a w' hall ⟨ha, Q_B, Q_K⟩
        clear B
        have hb1_ := hall 1 (by kernel_rfl)
        have hb4_ := hall 4 (by kernel_rfl)
        have hb6_ := hall 6 (by kernel_rfl)
        have hb7_ := hall 7 (by kernel_rfl)
        have hb9_ := hall 9 (by kernel_rfl)
        have hb10_ := hall 10 (by kernel_rfl)
        have hb11_ := hall 11 (by kernel_rfl)
        subst ha
        simp only [putSel, hb1_, hb4_, hb6_, hb7_, hb9_, hb10_, hb11_, if_true, Act.put, List.setIfInBounds_toArray, List.set_cons_zero, List.set_cons_succ]
        clear Q_B
        have K := Aside0.mk (Q_K hb11_)
        clear Q_K
        clear hall hb1_ hb4_ hb6_ hb7_ hb9_ hb10_ hb11_
        go_wp2
        exact ⟨⟨i + 1, rfl, ⟨by have := HIL.out; omega⟩, ⟨K.out⟩⟩, by have := HIL.out; simp only [intOf]; omega⟩
    · have c1 : decide ((i : Int) < (S.first.length : Int)) = false := decide_eq_false (by omega)
      have c2 : decide (i < S.first.length) = false := decide_eq_false hi
      have hwl : wtL S.first kk i = F := by rw [← HFF.out]; unfold wtL; rw [List.drop_eq_nil_of_le (by omega), List.append_nil, List.take_of_length_le (by simp; omega)]
      have HWL := Aside0.mk hwl
      have dk := cellAt (i := 1) (u := .slice AV S.first.length cV) HWT.out.k rfl
      have dk4 := cellAt (i := 4) (u := .int .i64 S.none) HWT.out.k rfl
      clear hi hnl hwl
      have da_0 := cellAt (i := 0) (u := .slice P0 (S.sets).length p0) (blk_below Ha.out HWT.out.b) rfl
      have da_1 := cellAt (i := 1) (u := .slice P1 (S.first).length p1) (blk_below Ha.out HWT.out.b) rfl
      have da_2 := cellAt (i := 2) (u := .slice P2 (S.ends).length p2) (blk_below Ha.out HWT.out.b) rfl
      have da_3 := cellAt (i := 3) (u := .slice P3 (S.arcs).length p3) (blk_below Ha.out HWT.out.b) rfl
      have da_4 := cellAt (i := 4) (u := .int .i64 S.none) (blk_below Ha.out HWT.out.b) rfl
      go_wp2_with (go_at_call 21; refine (hyphenref1_Add.calls S.none kk (tadd S.none kk) _ (add_is HOK.out.vn HTK.out)).mono ?_; rintro e w7 ⟨rfl, hb⟩; have HW7 := Aside0.mk (HWT.out.below hb); have HV := Aside0.mk (HW7.out.none_ (tadd S.none kk)); have hk := HW7.out.k; have dm4 := cellAt (i := 4) (u := .int .i64 S.none) hk rfl; have nm4 := blk_frozen hk 4; have hzl := blk_lt hk; have dv_0 := cellAt (i := 0) (u := .slice P0 S.sets.length p0) HV.out.k rfl; have dv_1 := cellAt (i := 1) (u := .slice AV S.first.length cV) HV.out.k rfl; have dv_2 := cellAt (i := 2) (u := .slice P2 S.ends.length p2) HV.out.k rfl; have dv_3 := cellAt (i := 3) (u := .slice P3 S.arcs.length p3) HV.out.k rfl; have dv_4 := cellAt (i := 4) (u := .int .i64 (tadd S.none kk)) HV.out.k rfl; have db_0 := cellAt (i := 0) (u := .slice Q0 (S.sets).length q0) (blk_below Hb.out HV.out.b) rfl; have db_1 := cellAt (i := 1) (u := .slice Q1 (F).length q1) (blk_below Hb.out HV.out.b) rfl; have db_2 := cellAt (i := 2) (u := .slice Q2 (S.ends).length q2) (blk_below Hb.out HV.out.b) rfl; have db_3 := cellAt (i := 3) (u := .slice Q3 (S.arcs).length q3) (blk_below Hb.out HV.out.b) rfl; have db_4 := cellAt (i := 4) (u := .int .i64 (tadd S.none kk)) (blk_below Hb.out HV.out.b) rfl; clear hk hb)
      have HC1 : Aside0 (Kd.C (Kd.int .i64) _ AV F.length F ∧ F.length ≤ cV) := ⟨by have h := HV.out.r; rw [HWL.out] at h; have h2 := Kd.R_reads' h; exact ⟨h2.2.2, by have := h2.1; have := h2.2.1; omega⟩⟩
      rw [HFL.out]
      refine (same_eq Q0 q0 Q1 q1 Q2 q2 Q3 q3 P0 p0 AV cV P2 p2 P3 p3 S.sets F S.ends S.arcs (tadd S.none kk) _ (Kd.C_below HRQ0.out HV.out.b) HLQ0.out (Kd.C_below HRQ1.out HV.out.b) HLQ1.out (Kd.C_below HRQ2.out HV.out.b) HLQ2.out (Kd.C_below HRQ3.out HV.out.b) (Kd.C_below HRP0.out HV.out.b) HLP0.out HC1.out.1 HC1.out.2 (Kd.C_below HRP2.out HV.out.b) HLP2.out (Kd.C_below HRP3.out HV.out.b) HNN.out.1 (by have := HNL.out; have := HFL.out; omega) HNN.out.2.1 HNN.out.2.2).mono ?_
      rintro e w8 ⟨rfl, hb⟩
      have HE := Aside0.mk (below_step (below_step HB.out HV.out.b) hb)
      clear hb
      go_wp2
      go_ret
      exact ⟨rfl, HE.out⟩
end Go.Proofs.Ytnnpfgpfkningaa.P
namespace Go.Proofs.Ytnnpfgpfkningaa.P
open Go.RowKit Go.Proofs.YtnnpfgpfkningaaW.PrintWords Go.Proofs.YtnnpfgpfkningaaW.PrintLast Go.Proofs.YtnnpfgpfkningaaW.PrintMore
attribute [local go_sem] max2_int min2_int max_two min_two max_three min_three max_four min_four   -- for this text's walks alone
attribute [local go_sem ↓ high] Go.Proofs.YtnnpfgpfkningaaX.isSome_setCell
set_option linter.unusedVariables false
set_option linter.unusedSimpArgs false
theorem szF_mono {x : S33} {r : Int} : ∀ (d k : Nat), szF k x = some r → szF (k + d) x = some r
  | 0, _, h => h
  | d + 1, k, h => side_Size.mono x.f0 x.f1 x.f2 x.f3 x.f4 x.f5 (k + d) r (szF_mono d k h)
theorem szF_le {x : S33} {r : Int} {k k2 : Nat} (h : szF k x = some r) (hk : k ≤ k2) : szF k2 x = some r := by
  have := szF_mono (k2 - k) k h
  rwa [show k + (k2 - k) = k2 from by omega] at this
theorem sz_times {n : Nat} {lo hi w : Int} {nm : ByteArray} {y : S33} {s : Int} (h : szF (n + 1) y = some s) (h0 : 0 ≤ s ∧ s ≤ 1000000000) (hh : 0 ≤ hi ∧ hi ≤ 12) : szF (n + 4) ⟨7, lo, hi, w, nm, [y]⟩ = some (mn (s * hi) 1000000000) := by
  show side_Size.f (n + 3 + 1) 7 lo hi w nm [y] = _
  have h' : side_Size.f (n + 1) y.f0 y.f1 y.f2 y.f3 y.f4 y.f5 = some s := h
  have e0 : rd_T33 [y] 0 = y := rfl
  have m1 : mn (wrap64 (0 + s)) 1000000000 = s := by unfold mn wrap64; split <;> omega
  have m2 : mn (mx hi 0) 1000000000 = hi := by unfold mn mx; split <;> split <;> omega
  have hb : 0 ≤ s * hi ∧ s * hi ≤ 12000000000 := by
    refine ⟨Int.mul_nonneg h0.1 hh.1, ?_⟩
    have := Int.mul_le_mul h0.2 hh.2 hh.1 (by omega)
    omega
  have m3 : wrap64 (s * hi) = s * hi := by unfold wrap64; omega
  rw [side_Size.f, if_neg (by decide), show ((7 : Int) == 3) = false from rfl, side_Size.j0, if_neg (by decide), side_Size.l0, if_pos (by simp), if_pos (by decide), if_pos (by simp), e0, h', Option.bind_some, side_Size.l0, if_neg (by simp [wrap64]), if_pos rfl, m1, m2, m3]
end Go.Proofs.Ytnnpfgpfkningaa.P
namespace Go.Proofs.Ytnnpfgpfkningaa.P
open Go.RowKit Go.Proofs.YtnnpfgpfkningaaW.PrintWords Go.Proofs.YtnnpfgpfkningaaW.PrintLast Go.Proofs.YtnnpfgpfkningaaW.PrintMore
attribute [local go_sem] max2_int min2_int max_two min_two max_three min_three max_four min_four   -- for this text's walks alone
attribute [local go_sem ↓ high] Go.Proofs.YtnnpfgpfkningaaX.isSome_setCell
set_option linter.unusedVariables false
set_option linter.unusedSimpArgs false
theorem sz_one {n : Nat} {k lo hi w : Int} {nm : ByteArray} {y : S33} {s : Int} (h : szF (n + 1) y = some s) (h0 : 0 ≤ s ∧ s ≤ 1000000000) (hk : k = 6 ∨ k = 8) : szF (n + 4) ⟨k, lo, hi, w, nm, [y]⟩ = some s := by
  show side_Size.f (n + 3 + 1) k lo hi w nm [y] = _
  have h' : side_Size.f (n + 1) y.f0 y.f1 y.f2 y.f3 y.f4 y.f5 = some s := h
  have e0 : rd_T33 [y] 0 = y := rfl
  have m1 : mn (wrap64 (0 + s)) 1000000000 = s := by unfold mn wrap64; split <;> omega
  rw [side_Size.f, if_neg (by omega), show (k == 3) = false from by rcases hk with rfl | rfl <;> rfl, side_Size.j0, if_neg (by decide), side_Size.l0, if_pos (by simp), if_pos (by decide), if_pos (by simp), e0, h', Option.bind_some, side_Size.l0, if_neg (by simp [wrap64]), if_neg (by omega), m1]
theorem sz_nil (n : Nat) (lo hi w : Int) (nm : ByteArray) : szF (n + 3) ⟨1, lo, hi, w, nm, []⟩ = some 0 := by
  show side_Size.f (n + 2 + 1) 1 lo hi w nm [] = _
  rw [side_Size.f, if_neg (by decide), show ((1 : Int) == 3) = false from rfl, side_Size.j0, if_neg (by decide), side_Size.l0, if_neg (by simp), if_neg (by decide)]
theorem sz_pos (n : Nat) (k lo hi w : Int) (nm : ByteArray) (l : List S33) (hk : k = 2 ∨ k = 3) : szF (n + 2) ⟨k, lo, hi, w, nm, l⟩ = some 1 := by
  show side_Size.f (n + 1 + 1) k lo hi w nm l = _
  rcases hk with rfl | rfl
  · rw [side_Size.f, if_pos rfl, side_Size.j0, if_pos rfl]
  · rw [side_Size.f, if_neg (by decide), show ((3 : Int) == 3) = true from rfl, side_Size.j0, if_pos rfl]
theorem sz_two {n : Nat} {k lo hi w : Int} {nm : ByteArray} {x y : S33} {s t : Int} (h : szF (n + 2) x = some s) (h2 : szF (n + 1) y = some t) (h0 : 0 ≤ s ∧ s ≤ 1000000000) (h1 : 0 ≤ t ∧ t ≤ 1000000000) (hk : k = 4 ∨ k = 5) : szF (n + 5) ⟨k, lo, hi, w, nm, [x, y]⟩ = some (mn (s + t) 1000000000) := by
  show side_Size.f (n + 4 + 1) k lo hi w nm [x, y] = _
  have h' : side_Size.f (n + 2) x.f0 x.f1 x.f2 x.f3 x.f4 x.f5 = some s := h
  have h2' : side_Size.f (n + 1) y.f0 y.f1 y.f2 y.f3 y.f4 y.f5 = some t := h2
  have e0 : rd_T33 [x, y] 0 = x := rfl
  have ew : wrap64 (0 + 1) = 1 := by unfold wrap64; omega
  have e1 : rd_T33 [x, y] 1 = y := rfl
  have m1 : mn (wrap64 (0 + s)) 1000000000 = s := by unfold mn wrap64; split <;> omega
  have m2 : wrap64 (s + t) = s + t := by unfold wrap64; omega
  rw [side_Size.f, if_neg (by omega), show (k == 3) = false from by rcases hk with rfl | rfl <;> rfl, side_Size.j0, if_neg (by decide), side_Size.l0, if_pos (by simp), if_pos (by decide), if_pos (by simp), e0, h', Option.bind_some, m1, ew, side_Size.l0, if_pos (by simp), if_pos (by decide), if_pos (by simp), e1, h2', Option.bind_some, m2, side_Size.l0, if_neg (by simp [wrap64]), if_neg (by omega)]
theorem sizeI_range (S : Sd) : 0 ≤ sizeI S ∧ sizeI S ≤ 1000000000 := by unfold sizeI mn; split <;> omega
theorem szF_up {x : S33} {r : Int} {Z : Nat} (h : szF Z x = some r) : ∃ Z, ∀ z, Z ≤ z → szF z x = some r := ⟨Z, fun _ hz => szF_le h hz⟩
theorem size_is {defs : List S61} : ∀ x S, RS defs x S → ∃ Z, ∀ z, Z ≤ z → szF z x = some (sizeI S) := by
  intro x S h
  induction h with
  | none lo hi w nm => exact szF_up (sz_nil 0 lo hi w nm)
  | set lo hi w nm => exact szF_up (sz_pos 0 2 lo hi w nm [] (.inl rfl))
  | any lo hi w nm => exact szF_up (sz_pos 0 3 lo hi w nm [] (.inr rfl))
  | cat lo hi w nm a b A B _ _ iha ihb =>
    obtain ⟨Z1, h1⟩ := iha
    obtain ⟨Z2, h2⟩ := ihb
    have e : sizeI (catS A B) = mn (sizeI A + sizeI B) 1000000000 := by
      have : (catS A B).sets.length = A.sets.length + B.sets.length := by simp [catS]
      unfold sizeI mn; rw [this]; split <;> split <;> split <;> split <;> omega
    rw [e]
    exact szF_up (sz_two (n := Z1 + Z2) (h1 _ (by omega)) (h2 _ (by omega)) (sizeI_range A) (sizeI_range B) (.inl rfl))
  | alt lo hi w nm a b A B _ _ iha ihb =>
    obtain ⟨Z1, h1⟩ := iha
    obtain ⟨Z2, h2⟩ := ihb
    have e : sizeI (altS A B) = mn (sizeI A + sizeI B) 1000000000 := by
      have : (altS A B).sets.length = A.sets.length + B.sets.length := by simp [altS]
      unfold sizeI mn; rw [this]; split <;> split <;> split <;> split <;> omega
    rw [e]
    exact szF_up (sz_two (n := Z1 + Z2) (h1 _ (by omega)) (h2 _ (by omega)) (sizeI_range A) (sizeI_range B) (.inr rfl))
  | star lo hi w nm a A _ iha =>
    obtain ⟨Z1, h1⟩ := iha
    exact szF_up (sz_one (n := Z1) (h1 _ (by omega)) (sizeI_range A) (.inl rfl))
  | times lo hi w nm a A h3 h4 h5 _ iha =>
    obtain ⟨Z1, h1⟩ := iha
    have e : sizeI (tmS A lo hi.toNat 1) = mn (sizeI A * hi) 1000000000 := by
      unfold sizeI
      rw [tm_len]
      have hq : ((hi.toNat * A.sets.length : Nat) : Int) = (A.sets.length : Int) * hi := by
        rw [Int.natCast_mul, Int.toNat_of_nonneg (by omega), Int.mul_comm]
      rw [hq]
      by_cases hl : (A.sets.length : Int) ≤ 1000000000
      · rw [show mn (A.sets.length : Int) 1000000000 = A.sets.length from by unfold mn; split <;> omega]
      · rw [show mn (A.sets.length : Int) 1000000000 = 1000000000 from by unfold mn; split <;> omega]
        by_cases hz : hi = 0
        · subst hz; simp
        · have h6 : (A.sets.length : Int) * 1 ≤ (A.sets.length : Int) * hi := Int.mul_le_mul_of_nonneg_left (by omega) (by omega)
          unfold mn; split <;> split <;> omega
    rw [e]
    exact szF_up (sz_times (n := Z1) (h1 _ (by omega)) (sizeI_range A) (by omega))
  | wgt lo hi w nm a A h3 h4 _ iha =>
    obtain ⟨Z1, h1⟩ := iha
    exact szF_up (sz_one (n := Z1) (h1 _ (by omega)) (sizeI_range A) (.inr rfl))
end Go.Proofs.Ytnnpfgpfkningaa.P
namespace Go.Proofs.Ytnnpfgpfkningaa.P
open Go.RowKit Go.Proofs.YtnnpfgpfkningaaW.PrintWords Go.Proofs.YtnnpfgpfkningaaW.PrintLast Go.Proofs.YtnnpfgpfkningaaW.PrintMore
attribute [local go_sem] max2_int min2_int max_two min_two max_three min_three max_four min_four   -- for this text's walks alone
attribute [local go_sem ↓ high] Go.Proofs.YtnnpfgpfkningaaX.isSome_setCell
set_option linter.unusedVariables false
set_option linter.unusedSimpArgs false
theorem min2_up (a b : Int) : ∀ d, trop_Min.f (3 + d) [a, b] = some (mn (mn 1152921504606846976 a) b)
  | 0 => min2_f a b
  | d + 1 => trop_Min.mono [a, b] (3 + d) _ (min2_up a b d)
theorem rd_mid (P : List Int) (x : Int) (l : List Int) : rd (P ++ x :: l) (P.length : Int) = x := by
  unfold rd
  rw [Int.toNat_natCast, List.getD_eq_getElem?_getD, List.getElem?_append_right (Nat.le_refl _), Nat.sub_self]; rfl
theorem rd94_mid (P : List S94) (x : S94) (l : List S94) : rd_T94 (P ++ x :: l) (P.length : Int) = x := by
  unfold rd_T94
  rw [Int.toNat_natCast, List.getD_eq_getElem?_getD, List.getElem?_append_right (Nat.le_refl _), Nat.sub_self]; rfl
theorem row_l1 : ∀ (Q P : List Int) (k : Nat), (∀ v ∈ Q, tv v) → Q.length + 5 ≤ k → (P ++ Q).length < 1000000 → side_row.l1 k (P ++ List.replicate Q.length tinf) (sp 0 (P ++ Q)) ((sp 0 (P ++ Q)).length : Int) ((sp 0 P).length : Int) = some (P ++ Q)
  | [], P, k, _, hk, hl => by
    obtain ⟨k, rfl⟩ : ∃ m, k = m + 1 := ⟨k - 1, by omega⟩
    simp only [List.append_nil, List.length_nil, List.replicate_zero] at *
    rw [side_row.l1, if_neg (by omega), clone_is P hl]; rfl
  | v :: Q, P, k, hv, hk, hl => by
    have e : P ++ v :: Q = (P ++ [v]) ++ Q := by simp
    have ih := row_l1 Q (P ++ [v])
    rw [← e] at ih
    have h1 := hv v List.mem_cons_self
    by_cases hlt : v < tinf
    · obtain ⟨k, rfl⟩ : ∃ m, k = m + 4 := ⟨k - 4, by omega⟩
      have es : sp 0 (P ++ [v]) = sp 0 P ++ [⟨(P.length : Int), v⟩] := by
        rw [sp_append]; unfold sp; simp [spA, hlt]
      have ea : sp 0 (P ++ v :: Q) = sp 0 P ++ ⟨(P.length : Int), v⟩ :: sp (P.length + 1) Q := by
        rw [e, sp_append, es]; simp
      have hlen : (sp 0 P).length < (sp 0 (P ++ v :: Q)).length := by rw [ea]; simp
      have hsm : (sp 0 P).length < 1000000 := by have := sp_len 0 P; simp only [List.length_append, List.length_cons] at hl; omega
      have er : rd_T94 (sp 0 (P ++ v :: Q)) ((sp 0 P).length : Int) = ⟨(P.length : Int), v⟩ := by rw [ea]; exact rd94_mid _ _ _
      have ih2 := ih (k + 3) (fun x hx => hv x (List.mem_cons_of_mem _ hx)) (by simp only [List.length_cons] at hk; omega) hl
      have ew : wrap64 (((sp 0 P).length : Int) + 1) = ((sp 0 (P ++ [v])).length : Int) := by rw [es, List.length_append]; unfold wrap64; simp; omega
      have ex : (P ++ List.replicate (v :: Q).length tinf) = P ++ tinf :: List.replicate Q.length tinf := by rw [List.length_cons, List.replicate_succ]
      have em : mn (mn 1152921504606846976 tinf) v = v := by
        have h2 : 0 ≤ v ∧ v ≤ 1152921504606846976 := h1
        rw [show tinf = 1152921504606846976 from rfl, show mn (1152921504606846976 : Int) 1152921504606846976 = 1152921504606846976 from by unfold mn; split <;> omega]
        unfold mn; split <;> omega
      rw [side_row.l1, if_pos (by omega), if_pos (by omega), if_pos (by omega), er, if_pos (by simp), if_pos (by rw [ex]; simp; omega), ex, rd_mid, show k + 3 = 3 + k from by omega, min2_up, Option.bind_some, em, ew, show 3 + k = k + 3 from by omega]
      have es2 : (P ++ tinf :: List.replicate Q.length tinf).set ((P.length : Int)).toNat v = (P ++ [v]) ++ List.replicate Q.length tinf := by
        rw [Int.toNat_natCast, List.set_append_right _ _ (Nat.le_refl _), Nat.sub_self]; simp
      rw [es2]; exact ih2
    · have ev : v = tinf := by unfold tv at h1; unfold tinf at *; omega
      have es : sp 0 (P ++ [v]) = sp 0 P := by
        rw [sp_append]; unfold sp; simp [spA, hlt]
      have ih2 := ih k (fun x hx => hv x (List.mem_cons_of_mem _ hx)) (by simp only [List.length_cons] at hk; omega) hl
      rw [es] at ih2
      rw [List.length_cons, List.replicate_succ]
      have e3 : P ++ tinf :: List.replicate Q.length tinf = (P ++ [v]) ++ List.replicate Q.length tinf := by rw [ev]; simp
      rw [e3]; exact ih2
theorem row_l0 (l : List S94) : ∀ (d m k : Nat) (r : List Int), m + d < 1000000 → (∀ k2, k ≤ k2 → side_row.l1 k2 (List.replicate (m + d) tinf) l (l.length : Int) 0 = some r) → side_row.l0 (k + d + 1) l (List.replicate m tinf) ((m + d : Nat) : Int) (m : Int) = some r
  | 0, m, k, r, _, h => by
    rw [Nat.add_zero, side_row.l0, if_neg (by omega)]
    exact h k (Nat.le_refl _)
  | d + 1, m, k, r, hm, h => by
    rw [show k + (d + 1) + 1 = (k + d + 1) + 1 from by omega, side_row.l0, if_pos (by omega), if_pos (by rw [List.length_replicate]; omega)]
    have e1 : List.replicate m tinf ++ [1152921504606846976] = List.replicate (m + 1) tinf := by rw [List.replicate_succ']; rfl
    have e2 : wrap64 ((m : Int) + 1) = ((m + 1 : Nat) : Int) := by unfold wrap64; omega
    rw [e1, e2, show m + (d + 1) = (m + 1) + d from by omega]
    exact row_l0 l d (m + 1) k r (by omega) (fun k2 hk2 => by rw [show m + 1 + d = m + (d + 1) from by omega]; exact h k2 hk2)
theorem row_is (L : List Int) (hv : ∀ v ∈ L, tv v) (hl : L.length < 1000000) (k : Nat) (hk : 2 * L.length + 6 ≤ k) : side_row.f k (sp 0 L) (L.length : Int) = some L := by
  have h := row_l0 (sp 0 L) L.length 0 (k - L.length - 1) L (by omega) (fun k2 hk2 => by
    have := row_l1 L [] k2 hv (by omega) (by simpa using hl)
    simpa [sp, spA] using this)
  rw [show k - L.length - 1 + L.length + 1 = k from by omega, Nat.zero_add] at h
  exact h
end Go.Proofs.Ytnnpfgpfkningaa.P
namespace Go.Proofs.Ytnnpfgpfkningaa.P
open Go.RowKit Go.Proofs.YtnnpfgpfkningaaW.PrintWords Go.Proofs.YtnnpfgpfkningaaW.PrintLast Go.Proofs.YtnnpfgpfkningaaW.PrintMore
attribute [local go_sem] max2_int min2_int max_two min_two max_three min_three max_four min_four   -- for this text's walks alone
attribute [local go_sem ↓ high] Go.Proofs.YtnnpfgpfkningaaX.isSome_setCell
set_option linter.unusedVariables false
set_option linter.unusedSimpArgs false
theorem sh0 (l : List S51) : l.map (shA 0) = l := by
  induction l with
  | nil => rfl
  | cons a t ih => rw [List.map_cons, ih]; cases a; simp [shA]
theorem make_rs {defs : List S61} {x : S33} {S : Sd} (h : RS defs x S) : ∃ K, ∀ k, K ≤ k → ∀ rs, side_MakeP.f k x.f0 x.f1 x.f2 x.f3 x.f4 x.f5 defs rs = if S.sets.length ≤ 120 then some (S.sets, S.first, S.ends, S.arcs, S.none, true) else some ([], [], [], [], 0, false) := by
  obtain ⟨Z, hZ⟩ := size_is x S h
  have ok := h.ok
  by_cases hl : S.sets.length ≤ 120
  · obtain ⟨N, hN⟩ := mk_is (sz := szF) size_is h hl
    refine ⟨Z + N + 300, fun k hk rs => ?_⟩
    have h1 : side_Size.f k x.f0 x.f1 x.f2 x.f3 x.f4 x.f5 = some (sizeI S) := hZ k (by omega)
    have h2 := hN k (by omega) k (by omega) ⟨[], []⟩ ⟨⟨List.Pairwise.nil, fun a ha => (by cases ha)⟩, fun a ha => (by cases ha)⟩ (by simpa using hl)
    have e2 : stS ⟨[], []⟩ S = ⟨S.sets, S.arcs⟩ := by simp [stS, sh0]
    have e0 : (((⟨[], []⟩ : St).sets.length : Nat) : Int) = 0 := rfl
    rw [e2, e0] at h2
    have hs : sizeI S = S.sets.length := by unfold sizeI mn; split <;> omega
    have hf := arcs_few ok.up ok.rng
    have hf2 := sq_le hl
    have okp := okP_sp 0 S (by omega) (by omega) ok
    have r1 := row_is S.first ok.vf (by rw [ok.lf]; omega) k (by rw [ok.lf]; omega)
    have r2 := row_is S.ends ok.ve (by rw [ok.le]; omega) k (by rw [ok.le]; omega)
    rw [ok.lf] at r1
    rw [ok.le] at r2
    rw [if_pos hl]
    unfold side_MakeP.f
    rw [h1, Option.bind_some, if_neg (by omega)]
    have h3 : mkF defs (szF k) k ⟨x.f0, x.f1, x.f2, x.f3, x.f4, x.f5⟩ ⟨[], []⟩ = some (pcS 0 S, ⟨S.sets, S.arcs⟩) := by cases x; exact h2
    rw [h3, Option.bind_some]
    show (if okP (pcS 0 S) = true ∧ S.sets.length < 1000000 ∧ S.arcs.length < 1000000 then _ else _) = _
    rw [if_pos ⟨okp, by omega, by omega⟩]
    show (side_row.f k (sp 0 S.first) (S.sets.length : Int)).bind _ = _
    rw [r1, Option.bind_some]
    show (side_row.f k (sp 0 S.ends) (S.sets.length : Int)).bind _ = _
    rw [r2]; rfl
  · refine ⟨Z, fun k hk rs => ?_⟩
    have h1 : side_Size.f k x.f0 x.f1 x.f2 x.f3 x.f4 x.f5 = some (sizeI S) := hZ k hk
    have hs : 120 < sizeI S := by unfold sizeI mn; split <;> omega
    rw [if_neg hl]
    unfold side_MakeP.f
    rw [h1, Option.bind_some, if_pos hs]
end Go.Proofs.Ytnnpfgpfkningaa.P
namespace Go.Proofs.Ytnnpfgpfkningaa.P
open Go.RowKit Go.Proofs.YtnnpfgpfkningaaW.PrintWords Go.Proofs.YtnnpfgpfkningaaW.PrintLast Go.Proofs.YtnnpfgpfkningaaW.PrintMore
attribute [local go_sem] max2_int min2_int max_two min_two max_three min_three max_four min_four   -- for this text's walks alone
attribute [local go_sem ↓ high] Go.Proofs.YtnnpfgpfkningaaX.isSome_setCell
set_option linter.unusedVariables false
set_option linter.unusedSimpArgs false
def rawDeep : Nat → S35 → Prop
  | 0, _ => False
  | d + 1, r => ∀ y ∈ r.f2, rawDeep d y
theorem four_pos (d : Nat) : 1 ≤ 4 ^ d := Nat.one_le_pow _ _ (by omega)
theorem tdiv_3 (a : Int) : wth (wrap64 (Int.tdiv a 3)) 3 ≤ 2 ∧ 0 ≤ wth (wrap64 (Int.tdiv a 3)) 3 := by
  have := wth_range (wrap64 (Int.tdiv a 3)) 3 (by omega); omega
theorem raw_rs (defs : List S61) : ∀ (d : Nat) (r : S35), rawDeep d r → ∀ b, ∃ x S, (∀ k, 2 * d ≤ k → rawF k r b = some x) ∧ RS defs x S ∧ S.sets.length ≤ 4 ^ d
  | 0, _, h, _ => h.elim
  | d + 1, r, h, b => by
    have part : ∀ i : Nat, ∃ x S, (∀ k, 2 * d + 1 ≤ k → partF k r i b = some x) ∧ RS defs x S ∧ S.sets.length ≤ 4 ^ d := by
      intro i
      by_cases hi : i < r.f2.length
      · have hm : rd_T35 r.f2 i ∈ r.f2 := by
          rw [show rd_T35 r.f2 (i : Int) = r.f2[i] from by simp [rd_T35, rdOf, hi]]
          exact List.getElem_mem hi
        obtain ⟨x, S, h1, h2, h3⟩ := raw_rs defs d _ (h _ hm) b
        exact ⟨x, S, fun k hk => by obtain ⟨m, rfl⟩ : ∃ m, k = m + 1 := ⟨k - 1, by omega⟩; rw [partF, if_pos hi]; exact h1 m (by omega), h2, h3⟩
      · exact ⟨_, _, fun k hk => by obtain ⟨m, rfl⟩ : ∃ m, k = m + 1 := ⟨k - 1, by omega⟩; rw [partF, if_neg hi], .set 0 0 0 _, four_pos d⟩
    obtain ⟨x0, S0, h0, r0, l0⟩ := part 0
    obtain ⟨x1, S1, h1, r1, l1⟩ := part 1
    have hp : 4 ^ (d + 1) = 4 * 4 ^ d := by rw [Nat.pow_succ, Nat.mul_comm]
    have hq := four_pos d
    have hl := wth_range r.f1 3 (by omega)
    have hh := tdiv_3 r.f1
    have h7 := wth_range r.f1 7 (by omega)
    by_cases c1 : wth r.f0 20 < 1
    · exact ⟨_, _, fun k hk => by obtain ⟨m, rfl⟩ : ∃ m, k = m + 1 := ⟨k - 1, by omega⟩; rw [rawF, if_pos c1], .none 0 0 0 _, Nat.zero_le _⟩
    by_cases c2 : wth r.f0 20 < 6
    · exact ⟨_, _, fun k hk => by obtain ⟨m, rfl⟩ : ∃ m, k = m + 1 := ⟨k - 1, by omega⟩; rw [rawF, if_neg c1, if_pos c2], .set 0 0 0 _, four_pos _⟩
    by_cases c3 : wth r.f0 20 < 8
    · exact ⟨_, _, fun k hk => by obtain ⟨m, rfl⟩ : ∃ m, k = m + 1 := ⟨k - 1, by omega⟩; rw [rawF, if_neg c1, if_neg c2, if_pos c3], .any 0 0 0 _, four_pos _⟩
    by_cases c4 : wth r.f0 20 < 13
    · exact ⟨_, _, fun k hk => by obtain ⟨m, rfl⟩ : ∃ m, k = m + 1 := ⟨k - 1, by omega⟩; rw [rawF, if_neg c1, if_neg c2, if_neg c3, if_pos c4, h0 m (by omega), Option.bind_some, h1 m (by omega), Option.bind_some], .cat 0 0 0 _ _ _ _ _ r0 r1, by simp only [catS, List.length_append]; omega⟩
    by_cases c5 : wth r.f0 20 < 15
    · exact ⟨_, _, fun k hk => by obtain ⟨m, rfl⟩ : ∃ m, k = m + 1 := ⟨k - 1, by omega⟩; rw [rawF, if_neg c1, if_neg c2, if_neg c3, if_neg c4, if_pos c5, h0 m (by omega), Option.bind_some, h1 m (by omega), Option.bind_some], .alt 0 0 0 _ _ _ _ _ r0 r1, by simp only [altS, List.length_append]; omega⟩
    by_cases c6 : wth r.f0 20 < 16
    · exact ⟨_, _, fun k hk => by obtain ⟨m, rfl⟩ : ∃ m, k = m + 1 := ⟨k - 1, by omega⟩; rw [rawF, if_neg c1, if_neg c2, if_neg c3, if_neg c4, if_neg c5, if_pos c6, h0 m (by omega), Option.bind_some], .star 0 0 0 _ _ _ r0, by simp only [starS]; omega⟩
    by_cases c7 : wth r.f0 20 < 18
    · have e : wrap64 (wth r.f1 3 + wth (wrap64 (Int.tdiv r.f1 3)) 3) = wth r.f1 3 + wth (wrap64 (Int.tdiv r.f1 3)) 3 := by
        generalize wth (wrap64 (Int.tdiv r.f1 3)) 3 = z at *; unfold wrap64; omega
      refine ⟨_, _, fun k hk => by obtain ⟨m, rfl⟩ : ∃ m, k = m + 1 := ⟨k - 1, by omega⟩; rw [rawF, if_neg c1, if_neg c2, if_neg c3, if_neg c4, if_neg c5, if_neg c6, if_pos c7, h0 m (by omega), Option.bind_some, e], .times _ _ 0 _ _ _ (by omega) (by omega) (by omega) r0, ?_⟩
      rw [tm_len]
      have : (wth r.f1 3 + wth (wrap64 (Int.tdiv r.f1 3)) 3).toNat ≤ 4 := by omega
      calc _ ≤ 4 * S0.sets.length := Nat.mul_le_mul_right _ this
        _ ≤ _ := by omega
    cases b
    · exact ⟨_, _, fun k hk => by obtain ⟨m, rfl⟩ : ∃ m, k = m + 1 := ⟨k - 1, by omega⟩; rw [rawF, if_neg c1, if_neg c2, if_neg c3, if_neg c4, if_neg c5, if_neg c6, if_neg c7, if_neg (by simp), h0 m (by omega), Option.bind_some], .wgt 0 0 _ _ _ _ (by omega) (by omega) r0, by simp only [wgtS]; omega⟩
    · exact ⟨_, _, fun k hk => by obtain ⟨m, rfl⟩ : ∃ m, k = m + 1 := ⟨k - 1, by omega⟩; rw [rawF, if_neg c1, if_neg c2, if_neg c3, if_neg c4, if_neg c5, if_neg c6, if_neg c7, if_pos rfl]; exact h0 m (by omega), r0, by omega⟩
end Go.Proofs.Ytnnpfgpfkningaa.P
namespace Go.Proofs.Ytnnpfgpfkningaa.P
open Go.RowKit Go.Proofs.YtnnpfgpfkningaaW.PrintWords Go.Proofs.YtnnpfgpfkningaaW.PrintLast Go.Proofs.YtnnpfgpfkningaaW.PrintMore
attribute [local go_sem] max2_int min2_int max_two min_two max_three min_three max_four min_four   -- for this text's walks alone
attribute [local go_sem ↓ high] Go.Proofs.YtnnpfgpfkningaaX.isSome_setCell
set_option linter.unusedVariables false
set_option linter.unusedSimpArgs false
theorem wr64 {x : Int} (h : -1000000 ≤ x ∧ x ≤ 1000000) : wrap64 x = x := by unfold wrap64; omega
theorem few_step (l : List S35) (k i : Nat) (n a t : Int) (hi : i < l.length) (hin : (i : Int) ≤ n) (hn : n ≤ 30) (ha : 0 ≤ a ∧ a ≤ 5) (ht : 0 ≤ t ∧ t ≤ 2000) (h : hyphenlaw5_size.f k (rd_T35 l (i : Int)).f2 (a + 1) = some t) :
    hyphenlaw5_size.l0 (k + 1) l a n i = hyphenlaw5_size.l0 k l a (n + 1 + t) ((i + 1 : Nat) : Int) := by
  rw [hyphenlaw5_size.l0, if_pos (by omega), if_pos hn, if_pos (by omega), wr64 (x := a + 1) (by omega), h, Option.bind_some, wr64 (x := n + 1) (by omega), wr64 (x := n + 1 + t) (by omega), wr64 (x := (i : Int) + 1) (by omega)]
  rfl
theorem few_loop (d : Nat) (hd : d ≤ 5) (l : List S35) (hc : ∀ y ∈ l, ∃ K r, (∀ k, K ≤ k → hyphenlaw5_size.f k y.f2 (6 - (d : Int)) = some r) ∧ 0 ≤ r ∧ r ≤ 1000 + 31 * (d : Int) ∧ (r ≤ 30 → rawDeep d y)) :
    ∀ (m i : Nat) (n : Int), m + i = l.length → (i : Int) ≤ n → n ≤ 1031 + 31 * (d : Int) → (n ≤ 30 → ∀ y ∈ l.take i, rawDeep d y) → ∃ K r, (∀ k, K ≤ k → hyphenlaw5_size.l0 k l (5 - (d : Int)) n i = some r) ∧ n ≤ r ∧ r ≤ 1031 + 31 * (d : Int) ∧ (r ≤ 30 → ∀ y ∈ l, rawDeep d y) := by
  intro m
  induction m with
  | zero =>
    intro i n hm hin hB ht
    refine ⟨1, n, fun k hk => ?_, Int.le_refl _, hB, fun h => ?_⟩
    · obtain ⟨k, rfl⟩ : ∃ j, k = j + 1 := ⟨k - 1, by omega⟩
      rw [hyphenlaw5_size.l0, if_neg (by omega)]
    · have := ht h
      rwa [List.take_of_length_le (by omega)] at this
  | succ m ih =>
    intro i n hm hin hB ht
    by_cases hn : n ≤ 30
    · have hi : i < l.length := by omega
      have hy : rd_T35 l (i : Int) = l[i] := by simp [rd_T35, hi]
      obtain ⟨K1, t, h1, h2, h3, h4⟩ := hc l[i] (List.getElem_mem hi)
      obtain ⟨K2, r, g1, g2, g3, g4⟩ := ih (i + 1) (n + 1 + t) (by omega) (by omega) (by omega) (fun hle y hy' => by
        rw [List.take_succ_eq_append_getElem hi] at hy'
        rcases List.mem_append.1 hy' with hy' | hy'
        · exact ht hn y hy'
        · rw [List.mem_singleton.1 hy']; exact h4 (by omega))
      refine ⟨K1 + K2 + 1, r, fun k hk => ?_, by omega, g3, g4⟩
      obtain ⟨k, rfl⟩ : ∃ j, k = j + 1 := ⟨k - 1, by omega⟩
      have h5 := h1 k (by omega)
      rw [← hy, show 6 - (d : Int) = 5 - (d : Int) + 1 from by omega] at h5
      rw [few_step l k i n (5 - (d : Int)) t hi hin hn (by omega) (by omega) h5]
      exact g1 k (by omega)
    · refine ⟨1, n, fun k hk => ?_, Int.le_refl _, hB, fun h => absurd h hn⟩
      obtain ⟨k, rfl⟩ : ∃ j, k = j + 1 := ⟨k - 1, by omega⟩
      by_cases hi2 : (i : Int) < (l.length : Int)
      · rw [hyphenlaw5_size.l0, if_pos hi2, if_neg hn]
      · rw [hyphenlaw5_size.l0, if_neg hi2]
theorem few_size : ∀ (d : Nat) (l : List S35), d ≤ 6 → ∃ K r, (∀ k, K ≤ k → hyphenlaw5_size.f k l (6 - (d : Int)) = some r) ∧ 0 ≤ r ∧ r ≤ 1000 + 31 * (d : Int) ∧ (r ≤ 30 → ∀ y ∈ l, rawDeep (d - 1) y)
  | 0, l, _ => ⟨1, 1000, fun k hk => by
      obtain ⟨k, rfl⟩ : ∃ j, k = j + 1 := ⟨k - 1, by omega⟩
      rw [hyphenlaw5_size.f, if_pos (by decide)], by omega, by omega, fun h => by omega⟩
  | d + 1, l, hd => by
    obtain ⟨K, r, h1, h2, h3, h4⟩ := few_loop d (by omega) l (fun y _ => by
      obtain ⟨K, r, h1, h2, h3, h4⟩ := few_size d y.f2 (by omega)
      refine ⟨K, r, h1, h2, h3, fun h => ?_⟩
      cases d with
      | zero =>
        have := h1 (K + 1) (by omega)
        rw [hyphenlaw5_size.f, if_pos (by decide)] at this
        have := Option.some.inj this
        omega
      | succ d => exact h4 h) l.length 0 0 (by omega) (Int.le_refl _) (by omega) (fun _ y hy => by simp at hy)
    refine ⟨K + 1, r, fun k hk => ?_, h2, by push_cast; omega, h4⟩
    obtain ⟨k, rfl⟩ : ∃ j, k = j + 1 := ⟨k - 1, by omega⟩
    rw [hyphenlaw5_size.f, if_neg (by push_cast; omega)]
    rw [show (6 : Int) - ((d + 1 : Nat) : Int) = 5 - (d : Int) from by push_cast; omega]
    exact h1 k (by omega)
theorem few_is (l : List S35) : ∃ K b, (∀ k, K ≤ k → hyphenlaw5_Few.f k l = some b) ∧ (b = true → ∀ y ∈ l, rawDeep 5 y) := by
  obtain ⟨K, r, h1, h2, h3, h4⟩ := few_size 6 l (Nat.le_refl _)
  refine ⟨K, decide (r ≤ 30), fun k hk => ?_, fun h => h4 (of_decide_eq_true h)⟩
  unfold hyphenlaw5_Few.f
  have := h1 k hk
  rw [show (6 : Int) - ((6 : Nat) : Int) = 0 from rfl] at this
  rw [this, Option.bind_some]
end Go.Proofs.Ytnnpfgpfkningaa.P
