-- Written by wip/xprint.py (a program of this repo) out of the translation; Lean checks it.
import Derived.Test.YteogcjckhoakbaaPx0
namespace Go.Proofs.Yteogcjckhoakbaa.P
open Go.RowKit Go.Proofs.YteogcjckhoakbaaW.PrintWords Go.Proofs.YteogcjckhoakbaaW.PrintLast Go.Proofs.YteogcjckhoakbaaW.PrintMore
attribute [local go_sem] max2_int min2_int max_two min_two max_three min_three max_four min_four   -- for this text's walks alone
attribute [local go_sem ↓ high] Go.Proofs.YteogcjckhoakbaaX.isSome_setCell
set_option linter.unusedVariables false
set_option linter.unusedSimpArgs false

section
open Go.Sort
theorem reps_int {R : Int → List Value → Prop} {l : List Int} {inner : List Value} (hR : ∀ x cs, R x cs → cs = [Value.int .i64 x]) (h : Reps R 1 l inner) : inner = l.map (Value.int .i64) := by
 apply List.ext_getElem?
 intro j
 by_cases hj : j < l.length
 ·have h2 := hR _ _ (h.2 j _ (List.getElem?_eq_getElem hj))
  rw [Nat.mul_one] at h2
  have h3 : ((inner.drop j).take 1)[0]? = inner[j]? := by rw [List.getElem?_take, if_pos (by omega), List.getElem?_drop, Nat.add_zero]
  rw [← h3, h2]; simp [hj]
 ·rw [List.getElem?_eq_none (by rw [h.1]; omega), List.getElem?_eq_none (by simp; omega)]
theorem reps_of_int {R : Int → List Value → Prop} (hR : ∀ x, R x [Value.int .i64 x]) (l : List Int) : Reps R 1 l (l.map (Value.int .i64)) := by
 refine ⟨by simp, fun j p hj => ?_⟩
 obtain ⟨hl, rfl⟩ := List.getElem?_eq_some_iff.1 hj
 rw [Nat.mul_one, List.drop_eq_getElem_cons (by simpa using hl), List.take_succ_cons, List.take_zero, List.getElem_map]
 exact hR _
theorem FK_row_ {α : Type} {d : Kd α} {e : Nat} {W : World} {base : Nat} {ok : Nat → Prop} {v : Value} {xs : List α} (h : d.R e W base ok v xs) : Kd.FK (Kd.slice e d) W ok xs [v] := by
 obtain ⟨A, c, rfl⟩ := Kd.R_slice h
 exact Kd.FK_slice_mk (Kd.R_reads' h).2.1 (Kd.R_F h)
theorem intR_shape {e base : Nat} {ok : Nat → Prop} {w : World} {v : Value} {l : List Int} (h : Kd.R (Kd.int .i64) e w base ok v l) : (v = .slice none 0 0 ∧ l = []) ∨ ∃ g cap, v = .slice (some ⟨g, 0, none⟩) l.length cap := by
 obtain ⟨_, inner, ⟨ho1, ho⟩, hr⟩ := h
 rcases ho with ⟨hv, hn⟩ | ⟨g', cap', cur, hv, _⟩
 ·exact .inl ⟨hv, List.eq_nil_of_length_eq_zero hn⟩
 ·exact .inr ⟨g', cap', hv⟩
theorem intR_open {e base g n cap : Nat} {ok : Nat → Prop} {w : World} {l : List Int} (h : Kd.R (Kd.int .i64) e w base ok (.slice (some ⟨g, 0, none⟩) n cap) l) :
  ok g ∧ base ≤ g ∧ l.length ≤ cap ∧ cap ≤ maxLen ∧ ∃ cur, w.heap[g]? = some (.cells cur e (0, 0)) ∧ cur.size = cap * 1 ∧ cur.toList.take l.length = l.map (Value.int .i64) := by
 obtain ⟨h0, inner, ⟨ho1, ho⟩, hr⟩ := h
 rcases ho with ⟨hv, _⟩ | ⟨g', cap', cur, hv, hb, hh, hnc, hcm, hsz, htk⟩
 ·cases hv
 ·injection hv with e1 e2 e3
  injection e1 with e1
  injection e1 with e1
  subst e1 e2 e3
  rw [reps_int (fun _ _ h => h) hr] at htk
  exact ⟨h0 g rfl, hb, hnc, hcm, cur, hh, hsz, by rw [← htk, show (Kd.int IntKind.i64).sz = 1 from rfl, Nat.mul_one]⟩
theorem intR_mk {e base g cap : Nat} {ok : Nat → Prop} {w : World} {l : List Int} {cur : Array Value} (hok : ok g) (hb : base ≤ g) (hh : w.heap[g]? = some (.cells cur e (0, 0))) (h1 : l.length ≤ cap) (h2 : cap ≤ maxLen) (h3 : cur.size = cap * 1)
  (h4 : cur.toList.take l.length = l.map (Value.int .i64)) : Kd.R (Kd.int .i64) e w base ok (.slice (some ⟨g, 0, none⟩) l.length cap) l :=
 ⟨fun k hk => by simp [Value.ownBlock] at hk; exact hk ▸ hok, l.map (Value.int .i64), ⟨by rw [List.length_map]; exact (Nat.mul_one _).symm, .inr ⟨g, cap, cur, rfl, hb, hh, h1, h2, h3, by rw [show (Kd.int IntKind.i64).sz = 1 from rfl, Nat.mul_one]; exact h4⟩⟩, reps_of_int (R := (Kd.int IntKind.i64).M w base fun k => ok k ∧ some k ≠ (Value.slice (some ⟨g, 0, none⟩) l.length cap).ownBlock) (fun _ => rfl) l⟩
end

/-! ### set_Has: function 31 -/
def hasRange (l : List S44) (n : Int) : Bool := match l with
 | [] => false
 | r :: l => if n < r.f0 then false else if n > r.f1 then hasRange l n else true
theorem hasRange_end (l : List S44) (n i : Int) (h : l.length ≤ i) : hasRange (l.drop i.toNat) n = false := by
 rw [List.drop_eq_nil_of_le (by omega)]; rfl
theorem hasRange_at (l : List S44) (n i : Int) (h0 : 0 ≤ i) (h : i < l.length) : hasRange (l.drop i.toNat) n = if n < (rd_T44 l i).f0 then false else if n > (rd_T44 l i).f1 then hasRange (l.drop (i + 1).toNat) n else true := by
 have e : (i + 1).toNat = i.toNat + 1 := by omega
 have hi : i.toNat < l.length := by omega
 rw [e, List.drop_eq_getElem_cons hi, hasRange]
 have : rd_T44 l i = l[i.toNat] := by unfold rd_T44; rw [List.getD_eq_getElem?_getD, List.getElem?_eq_getElem hi]; rfl
 rw [this]
def set_Has.f (l0 : List S44) (a1 : Int) : Option Bool := if l0.length ≤ 9223372036854775807 then some (hasRange l0 a1) else none
set_option maxHeartbeats 1600000 in
theorem set_Has.calls (A0 : Option Addr) (c0 : Nat) (l0 : List S44) (a1 : Int) (r : Bool) (w : World) (hr0 : Kd.C k44 w A0 l0.length l0) (hc0 : l0.length ≤ c0) (h : set_Has.f l0 a1 = some r) :
  Calls Try.prog 31 #[.slice A0 l0.length c0, .int .i64 a1] w fun e w' => e = .returned (.bool r) ∧ Drawn0 w w' := by
 have HR0 := Aside0.mk hr0
 have HC0 := Aside0.mk hc0
 clear hr0 hc0
 unfold set_Has.f at h
 by_cases hl : l0.length ≤ 9223372036854775807
 case neg => rw [if_neg hl] at h; cases h
 rw [if_pos hl] at h
 have hr := Option.some.inj h
 have HL := Aside0.mk hl
 clear h hl
 have H0 : Aside0 (hasRange (l0.drop (0 : Int).toNat) a1 = r) := ⟨by simpa using hr⟩
 clear hr
 go_enter Try.func31, Try.ntmps31
 go_wp2
 refine wp_scope_jumps 0 (fun a' w' => ∃ (i : Int) (m : Nat) (u4 u6 u7 u8 u9 u10 u11 u12 u13 u14 u15 u16 u17 u18 u19 u20 u21 u22 u23 u24 u25 u26 u27 u28 u29 : Value), a' = { tmps := #[.slice A0 l0.length c0, .int .i64 a1, undef, undef, u4, .int .i64 i, u6, u7, u8, u9, u10, u11, u12, u13, u14, u15, u16, u17, u18, u19, u20, u21, u22, u23, u24, u25, u26, u27, u28, u29], defers := [] } ∧ w' = w.drewN m ∧ Aside0 (0 ≤ i ∧ i ≤ l0.length) ∧ Aside0 (hasRange (l0.drop i.toNat) a1 = r)) (fun a' _ => ((l0.length : Int) - (intOf (a'.tmps.getD 5 undef))).toNat) rfl ?_ ?_
 ·go_wp2
  obtain ⟨i, hi⟩ : ∃ i : Int, (0 : Int) = i := ⟨0, rfl⟩
  have HI : Aside0 (0 ≤ i ∧ i ≤ l0.length) := ⟨by omega⟩
  have HA : Aside0 (hasRange (l0.drop i.toNat) a1 = r) := by rw [← hi]; exact H0
  rw [hi]
  clear hi H0
  go_step3
  by_cases c1 : i = l0.length
  ·have c1b : (i == (l0.length : Int)) = true := beq_iff_eq.mpr c1
   have hf : false = r := by rw [← HA.out, hasRange_end _ _ _ (by omega)]
   subst hf
   clear c1
   go_wp2
   simp only [Exit.jump]
   go_ret
   exact ⟨rfl, Drawn0.refl _⟩
  ·have c1b : (i == (l0.length : Int)) = false := beq_eq_false_iff_ne.mpr c1
   have p0 : 0 ≤ i := HI.out.1
   have q0 : i < (l0.length : Int) := by have := HI.out.2; omega
   have hs := hasRange_at l0 a1 i p0 q0
   rw [HA.out] at hs
   obtain ⟨ad, e1, hx0, hx1⟩ := at_T44 HR0.out i p0 q0
   cases e1
   clear c1
   by_cases c2 : a1 < (rd_T44 l0 i).f0
   ·rw [if_pos c2] at hs
    subst hs
    have c2b : decide (a1 < (rd_T44 l0 i).f0) = true := decide_eq_true c2
    clear c2
    replace p0 := eq_true p0
    replace q0 := eq_true q0
    go_wp2
    simp only [Exit.jump]
    go_ret
    exact ⟨rfl, Drawn0.refl _⟩
   ·rw [if_neg c2] at hs
    have c2b : decide (a1 < (rd_T44 l0 i).f0) = false := decide_eq_false c2
    clear c2
    by_cases c3 : a1 > (rd_T44 l0 i).f1
    ·rw [if_pos c3] at hs
     have HS := Aside0.mk hs.symm
     have PQ := Aside0.mk (And.intro p0 q0)
     have hw : wrap64 (i + 1) = i + 1 := by have := HL.out; unfold wrap64; omega
     have HW := Aside0.mk hw
     clear hw
     have c3b : decide ((rd_T44 l0 i).f1 < a1) = true := decide_eq_true c3
     clear c3 hs
     replace p0 := eq_true p0
     replace q0 := eq_true q0
     go_wp2
     go_step3
     rw [HW.out]
     exact And.intro (rfl : 0 = 0) ⟨i + 1, 0, _, _, _, _, _, _, _, _, _, _, _, _, _, _, _, _, _, _, _, _, _, _, _, _, _, rfl, rfl, ⟨by have := PQ.out; omega, by have := PQ.out; omega⟩, HS⟩
    ·rw [if_neg c3] at hs
     subst hs
     have c3b : decide ((rd_T44 l0 i).f1 < a1) = false := decide_eq_false c3
     clear c3
     replace p0 := eq_true p0
     replace q0 := eq_true q0
     go_wp2
     simp only [Exit.jump]
     go_ret
     exact ⟨rfl, Drawn0.refl _⟩
 ·rintro a' w' ⟨i, m, u4, u6, u7, u8, u9, u10, u11, u12, u13, u14, u15, u16, u17, u18, u19, u20, u21, u22, u23, u24, u25, u26, u27, u28, u29, rfl, rfl, HI, HA⟩
  by_cases c1 : i = l0.length
  ·have c1b : (i == (l0.length : Int)) = true := beq_iff_eq.mpr c1
   have hf : false = r := by rw [← HA.out, hasRange_end _ _ _ (by omega)]
   subst hf
   clear c1
   go_wp2
   simp only [Exit.jump]
   go_ret
   exact ⟨rfl, ⟨⟨_, rfl⟩⟩⟩
  ·have c1b : (i == (l0.length : Int)) = false := beq_eq_false_iff_ne.mpr c1
   have p0 : 0 ≤ i := HI.out.1
   have q0 : i < (l0.length : Int) := by have := HI.out.2; omega
   have hs := hasRange_at l0 a1 i p0 q0
   rw [HA.out] at hs
   obtain ⟨ad, e1, hx0, hx1⟩ := at_T44 HR0.out i p0 q0
   cases e1
   clear c1
   by_cases c2 : a1 < (rd_T44 l0 i).f0
   ·rw [if_pos c2] at hs
    subst hs
    have c2b : decide (a1 < (rd_T44 l0 i).f0) = true := decide_eq_true c2
    clear c2
    replace p0 := eq_true p0
    replace q0 := eq_true q0
    go_wp2
    simp only [Exit.jump]
    go_ret
    exact ⟨rfl, ⟨⟨_, rfl⟩⟩⟩
   ·rw [if_neg c2] at hs
    have c2b : decide (a1 < (rd_T44 l0 i).f0) = false := decide_eq_false c2
    clear c2
    by_cases c3 : a1 > (rd_T44 l0 i).f1
    ·rw [if_pos c3] at hs
     have HS := Aside0.mk hs.symm
     have PQ := Aside0.mk (And.intro p0 q0)
     have hw : wrap64 (i + 1) = i + 1 := by have := HL.out; unfold wrap64; omega
     have HW := Aside0.mk hw
     clear hw
     have c3b : decide ((rd_T44 l0 i).f1 < a1) = true := decide_eq_true c3
     clear c3 hs
     replace p0 := eq_true p0
     replace q0 := eq_true q0
     go_wp2
     go_step3
     rw [HW.out]
     refine And.intro (rfl : 0 = 0) (And.intro ⟨i + 1, m, _, _, _, _, _, _, _, _, _, _, _, _, _, _, _, _, _, _, _, _, _, _, _, _, _, rfl, rfl, ⟨by have := PQ.out; omega, by have := PQ.out; omega⟩, HS⟩ ?_)
     have := PQ.out
     simp [intOf]
     omega
    ·rw [if_neg c3] at hs
     subst hs
     have c3b : decide ((rd_T44 l0 i).f1 < a1) = false := decide_eq_false c3
     clear c3
     replace p0 := eq_true p0
     replace q0 := eq_true q0
     go_wp2
     simp only [Exit.jump]
     go_ret
     exact ⟨rfl, ⟨⟨_, rfl⟩⟩⟩

/-! ### part_sets_of: function 26 -/
def part_sets_of.l0 : Nat → Int → List Int → List (List (S44)) → Int → Int → Option (ByteArray)
 | 0, _, _, _, _, _ => none
 | k + 1, x1, x5, x8, x9, x10 => if x10 < x9 then (if 0 ≤ x10 then (if x10 < (x8.length : Int) then ((set_Has.f (rd_L2 x8 x10) x1).bind fun t102 => (if t102 = true then (if x5.length < 140737488355328 then (part_sets_of.l0 k x1 (x5 ++ [49]) x8 x9 (wrap64 (x10 + 1))) else (none)) else (if x5.length < 140737488355328 then (part_sets_of.l0 k x1 (x5 ++ [48]) x8 x9 (wrap64 (x10 + 1))) else (none)))) else (none)) else (none)) else (some (strOfNums x5))
def part_sets_of.f (k : Nat) (l0 : List (List (S44))) (a1 : Int) : Option (ByteArray) := part_sets_of.l0 k a1 ([] : List Int) l0 (l0.length : Int) 0
theorem part_sets_of.mono_l : ∀ k, (∀ y0 y1 y2 y3 y4, LeO (part_sets_of.l0 k y0 y1 y2 y3 y4) (part_sets_of.l0 (k + 1) y0 y1 y2 y3 y4))
 | 0 => fun _ _ _ _ _ r h => by simp [part_sets_of.l0] at h
 | k + 1 => by
  have ih0 := part_sets_of.mono_l k
  ·intro y0 y1 y2 y3 y4
   unfold part_sets_of.l0
   repeat' first
   | (with_reducible exact ih0 _ _ _ _ _)
   | (with_reducible exact LeO.refl _)
   | (with_reducible exact LeO.none _)
   | (with_reducible refine LeO.ite ?_ ?_)
   | (with_reducible refine LeO.bind ?_ (fun _ => ?_))
   | exact ih0 _ _ _ _ _
   | exact LeO.none _
   | refine LeO.ite ?_ ?_
   | refine LeO.bind ?_ (fun _ => ?_)
theorem part_sets_of.mono : ∀ a0 a1 k, LeO (part_sets_of.f k a0 a1) (part_sets_of.f (k + 1) a0 a1) := by
 intro a0 a1 k
 have ih0 := part_sets_of.mono_l k
 unfold part_sets_of.f
 repeat' first
   | (with_reducible exact ih0 _ _ _ _ _)
   | (with_reducible exact LeO.refl _)
   | (with_reducible exact LeO.none _)
   | (with_reducible refine LeO.ite ?_ ?_)
   | (with_reducible refine LeO.bind ?_ (fun _ => ?_))
   | exact ih0 _ _ _ _ _
   | exact LeO.none _
   | refine LeO.ite ?_ ?_
   | refine LeO.bind ?_ (fun _ => ?_)
set_option maxHeartbeats 8000000 in
set_option maxRecDepth 100000 in
theorem part_sets_of.calls (k : Nat) (A0 : Option Addr) (c0 : Nat) (l0 : List (List (S44))) (a1 : Int) (r : ByteArray) (w : World) (hr0 : Kd.C (Kd.slice 44 k44) w A0 l0.length l0) (hc0 : l0.length ≤ c0) (h : part_sets_of.f k l0 a1 = some r) :
  Calls Try.prog 26 #[.slice A0 l0.length c0, .int .i64 a1] w fun e w' => e = .returned (.string r) ∧ Below w.heap.size w w' := by
 have HR0 := Aside0.mk hr0
 have HC0 := Aside0.mk hc0
 clear hr0 hc0
 have HB := Aside0.mk (Below.refl w.heap.size w)
 have H : (part_sets_of.l0 k a1 ([] : List Int) l0 (l0.length : Int) 0) = some r := h
 clear h
 have H' := Aside0.mk H
 clear H
 go_enter Try.func26, Try.ntmps26
 go_wp2
 go_loopg [5, 10] k (fun kq v5 v10 w' => ∃ (x5_1 : List Int) (x10_1 : Int), v10 = .int .i64 x10_1 ∧ Aside0 (part_sets_of.l0 kq a1 x5_1 l0 (l0.length : Int) x10_1 = some r) ∧ Aside0 (kq ≤ k) ∧ Aside0 (Kd.R (Kd.int .u8) 5 w' w.heap.size (fun _ => True) v5 x5_1) ∧ Aside0 (Below w.heap.size w w'))
 case atStart => exact ⟨(([] : List Int)), (0), (by first | rfl | (simp; done) | (simp [*]; done)), H', ⟨Nat.le_refl _⟩, ⟨by first | exact Kd.R_nil _ _ _ _ _ | exact Kd.N_nil _ _ _ _ _ | exact Kd.V_nil _ _ _ _ _ | exact Kd.Q_nil _ _ _ _ _ | exact Kd.S_nil _ _ _ _ _⟩, ⟨by repeat (first | (with_reducible first | exact HB.out | apply below_alloc | apply pw_below_drewN | apply below_drew1) | exact HB.out)⟩⟩
 case round =>
  clear H'
  try clear c2
  try clear p2
  obtain ⟨x5_1, x10_1, rfl, HA, HK1, HO_5, HB⟩ := hrel
  cases gk with
  | zero => exact absurd HA.out (by simp [part_sets_of.l0])
  | succ k1 =>
   have H := HA.out
   clear HA
   simp only [part_sets_of.l0] at H
   by_cases c3 : x10_1 < (l0.length : Int)
   ·rw [if_pos c3] at H
    have c3b0 : decide (x10_1 < (l0.length : Int)) = true := decide_eq_true c3
    clear c3
    by_cases c4 : 0 ≤ x10_1
    ·rw [if_pos c4] at H
     have c4b0 : decide (0 ≤ x10_1) = true := decide_eq_true c4
     clear c4
     by_cases c5 : x10_1 < (l0.length : Int)
     ·rw [if_pos c5] at H
      have c5b0 : decide (x10_1 < (l0.length : Int)) = true := decide_eq_true c5
      clear c5
      replace H := Option.bind_eq_some_iff.mp H
      obtain ⟨t102, A60, H⟩ := H
      replace H : (if t102 = true then (if x5_1.length < 140737488355328 then (part_sets_of.l0 k1 a1 (x5_1 ++ [49]) l0 (l0.length : Int) (wrap64 (x10_1 + 1))) else (none)) else (if x5_1.length < 140737488355328 then (part_sets_of.l0 k1 a1 (x5_1 ++ [48]) l0 (l0.length : Int) (wrap64 (x10_1 + 1))) else (none))) = some r := H
      have A6 := Aside0.mk A60
      clear A60
      by_cases c7 : t102 = true
      ·subst c7
       have H1 : (if x5_1.length < 140737488355328 then (part_sets_of.l0 k1 a1 (x5_1 ++ [49]) l0 (l0.length : Int) (wrap64 (x10_1 + 1))) else (none)) = some r := by rw [if_pos rfl] at H; exact H
       clear H
       have H := H1
       clear H1
       by_cases c8 : x5_1.length < 140737488355328
       ·rw [if_pos c8] at H
        have LMc8 := Aside0.mk c8
        clear c8
        obtain ⟨y103, hy103⟩ : ∃ y_ : List Int, y_ = (x5_1 ++ [49]) := ⟨_, rfl⟩
        replace H : (part_sets_of.l0 k1 a1 y103 l0 (l0.length : Int) (wrap64 (x10_1 + 1))) = some r := by first | (rw [hy103]; with_reducible exact H) | (have H2_ := (Option.bind_some _ _).symm.trans H; rw [hy103]; with_reducible exact H2_) | (have H2_ := (Option.bind_some _ _).symm.trans H; with_reducible exact H2_) | with_reducible exact H | (rw [hy103]; exact H) | exact H
        have Ny103 := Aside0.mk hy103
        clear hy103
        have H' := Aside0.mk H
        clear H
        have p101 : 0 ≤ (x10_1 : Int) := of_decide_eq_true (by first | (with_reducible assumption) | assumption)
        have q101 : x10_1 < (l0.length : Int) := of_decide_eq_true (by first | (with_reducible assumption) | assumption)
        obtain ⟨ad101, A101_0, c101_0, e101, hx101_0, hl101_0, hi101_0⟩ := at_L2 HR0.out x10_1 p101 q101
        cases e101
        replace hx101_0 := (HB.out.cell (World.block_lt_of_cell? w _ hx101_0)).trans hx101_0
        have HR101_0 := Aside0.mk hi101_0
        have HC101_0 := Aside0.mk hl101_0
        clear hi101_0 hl101_0
        replace p101 := eq_true p101
        replace q101 := eq_true q101
        go_wp2_with (first | ((with_reducible refine gate_callee (f := 31) rfl ?_); refine goesL_ (some 16) rfl rfl Try.func31 (by kernel_rfl) rfl #[.slice A101_0 (rd_L2 l0 x10_1).length c101_0, .int .i64 a1] rfl (by (try simp only [List.map_toArray, List.map_cons, List.map_nil]); first | done | rfl | (simp only [List.length_drop, List.length_take]; rfl)) ?_; (with_reducible refine (set_Has.calls _ _ (rd_L2 l0 x10_1) a1 true _ ?side1 ?side2 A6.out).mono ?_); (case side1 => repeat (first | exact (Kd.C_below HR101_0.out HB.out) | (with_reducible refine Kd.C_alloc ?_ _) | (with_reducible refine Kd.C_drewN ?_ _) | (with_reducible refine Kd.C_drew ?_))); (case side2 => exact HC101_0.out); rintro e w' ⟨rfl, ⟨nd, rfl⟩⟩; refine ⟨_, rfl, ?_⟩) | ((with_reducible refine gate_builtin (b := .append) (xs := #[.tmp 17, .tmp 18]) rfl ?_); at_builtin; refine Kd.R_append (Kd.int .u8) (w0 := w) w.heap.size rfl (.tmp 17) (.tmp 18) 55 5 (.int .u8 0) 1 rfl Try.underlying55 info5 rfl (by decide) (by omega) u5 x5_1 49 [.int .u8 49] (fun _ => True) (fun _ => False) rfl rfl ?aP (fun _ hk => hk.elim) ?aF ?aO ?aB ?aS ?aL ?_; (case aP => exact rfl); (case aB => exact (by repeat (first | (with_reducible first | exact HB.out | apply below_alloc | apply pw_below_drewN | apply below_drew1) | exact HB.out))); (case aF => exact (fun _ _ => trivial)); (case aO => exact (by (with_reducible repeat (first | apply Kd.R_alloc | apply Kd.R_drewN | apply Kd.R_drew)); exact HO_5.out)); (case aS => exact (below_size (by repeat (first | (with_reducible first | exact HB.out | apply below_alloc | apply pw_below_drewN | apply below_drew1) | exact HB.out)))); (case aL => have := LMc8.out; omega); intro v104 w9 ho hb hg hat; rw [← Ny103.out] at ho; have n0_ := Aside0.mk (hb); have n1_ := Aside0.mk (ho); clear HB; clear HO_5; have HB := n0_; have HO105 := n1_; clear n0_ n1_; clear ho hb hg hat))
        go_roundg k1
        case measure => have := HK1.out; omega
        case rel => exact ⟨(y103), (wrap64 (x10_1 + 1)), (by first | rfl | (simp; done) | (simp [*]; done)), H', ⟨by have := HK1.out; omega⟩, ⟨by (with_reducible repeat (first | apply Kd.R_alloc | apply Kd.R_drewN | apply Kd.R_drew)); exact HO105.out⟩, ⟨by repeat (first | (with_reducible first | exact HB.out | apply below_alloc | apply pw_below_drewN | apply below_drew1) | exact HB.out)⟩⟩
       ·rw [if_neg c8] at H
        exact absurd H (by simp)
      ·replace c7 := Bool.eq_false_iff.mpr c7
       subst c7
       have H1 : (if x5_1.length < 140737488355328 then (part_sets_of.l0 k1 a1 (x5_1 ++ [48]) l0 (l0.length : Int) (wrap64 (x10_1 + 1))) else (none)) = some r := by rw [if_neg (show ¬ (false = true) by decide)] at H; exact H
       clear H
       have H := H1
       clear H1
       by_cases c10 : x5_1.length < 140737488355328
       ·rw [if_pos c10] at H
        have LMc10 := Aside0.mk c10
        clear c10
        obtain ⟨y106, hy106⟩ : ∃ y_ : List Int, y_ = (x5_1 ++ [48]) := ⟨_, rfl⟩
        replace H : (part_sets_of.l0 k1 a1 y106 l0 (l0.length : Int) (wrap64 (x10_1 + 1))) = some r := by first | (rw [hy106]; with_reducible exact H) | (have H2_ := (Option.bind_some _ _).symm.trans H; rw [hy106]; with_reducible exact H2_) | (have H2_ := (Option.bind_some _ _).symm.trans H; with_reducible exact H2_) | with_reducible exact H | (rw [hy106]; exact H) | exact H
        have Ny106 := Aside0.mk hy106
        clear hy106
        have H' := Aside0.mk H
        clear H
        have p101 : 0 ≤ (x10_1 : Int) := of_decide_eq_true (by first | (with_reducible assumption) | assumption)
        have q101 : x10_1 < (l0.length : Int) := of_decide_eq_true (by first | (with_reducible assumption) | assumption)
        obtain ⟨ad101, A101_0, c101_0, e101, hx101_0, hl101_0, hi101_0⟩ := at_L2 HR0.out x10_1 p101 q101
        cases e101
        replace hx101_0 := (HB.out.cell (World.block_lt_of_cell? w _ hx101_0)).trans hx101_0
        have HR101_0 := Aside0.mk hi101_0
        have HC101_0 := Aside0.mk hl101_0
        clear hi101_0 hl101_0
        replace p101 := eq_true p101
        replace q101 := eq_true q101
        go_wp2_with (first | ((with_reducible refine gate_callee (f := 31) rfl ?_); refine goesL_ (some 16) rfl rfl Try.func31 (by kernel_rfl) rfl #[.slice A101_0 (rd_L2 l0 x10_1).length c101_0, .int .i64 a1] rfl (by (try simp only [List.map_toArray, List.map_cons, List.map_nil]); first | done | rfl | (simp only [List.length_drop, List.length_take]; rfl)) ?_; (with_reducible refine (set_Has.calls _ _ (rd_L2 l0 x10_1) a1 false _ ?side1 ?side2 A6.out).mono ?_); (case side1 => repeat (first | exact (Kd.C_below HR101_0.out HB.out) | (with_reducible refine Kd.C_alloc ?_ _) | (with_reducible refine Kd.C_drewN ?_ _) | (with_reducible refine Kd.C_drew ?_))); (case side2 => exact HC101_0.out); rintro e w' ⟨rfl, ⟨nd, rfl⟩⟩; refine ⟨_, rfl, ?_⟩) | ((with_reducible refine gate_builtin (b := .append) (xs := #[.tmp 20, .tmp 21]) rfl ?_); at_builtin; refine Kd.R_append (Kd.int .u8) (w0 := w) w.heap.size rfl (.tmp 20) (.tmp 21) 55 5 (.int .u8 0) 1 rfl Try.underlying55 info5 rfl (by decide) (by omega) u5 x5_1 48 [.int .u8 48] (fun _ => True) (fun _ => False) rfl rfl ?aP (fun _ hk => hk.elim) ?aF ?aO ?aB ?aS ?aL ?_; (case aP => exact rfl); (case aB => exact (by repeat (first | (with_reducible first | exact HB.out | apply below_alloc | apply pw_below_drewN | apply below_drew1) | exact HB.out))); (case aF => exact (fun _ _ => trivial)); (case aO => exact (by (with_reducible repeat (first | apply Kd.R_alloc | apply Kd.R_drewN | apply Kd.R_drew)); exact HO_5.out)); (case aS => exact (below_size (by repeat (first | (with_reducible first | exact HB.out | apply below_alloc | apply pw_below_drewN | apply below_drew1) | exact HB.out)))); (case aL => have := LMc10.out; omega); intro v107 w11 ho hb hg hat; rw [← Ny106.out] at ho; have n0_ := Aside0.mk (hb); have n1_ := Aside0.mk (ho); clear HB; clear HO_5; have HB := n0_; have HO108 := n1_; clear n0_ n1_; clear ho hb hg hat))
        go_roundg k1
        case measure => have := HK1.out; omega
        case rel => exact ⟨(y106), (wrap64 (x10_1 + 1)), (by first | rfl | (simp; done) | (simp [*]; done)), H', ⟨by have := HK1.out; omega⟩, ⟨by (with_reducible repeat (first | apply Kd.R_alloc | apply Kd.R_drewN | apply Kd.R_drew)); exact HO108.out⟩, ⟨by repeat (first | (with_reducible first | exact HB.out | apply below_alloc | apply pw_below_drewN | apply below_drew1) | exact HB.out)⟩⟩
       ·rw [if_neg c10] at H
        exact absurd H (by simp)
     ·rw [if_neg c5] at H
      exact absurd H (by simp)
    ·rw [if_neg c4] at H
     exact absurd H (by simp)
   ·rw [if_neg c3] at H
    have c3b0 : decide (x10_1 < (l0.length : Int)) = false := decide_eq_false c3
    clear c3
    obtain rfl := Option.some.inj H
    have hcv12 := own_string (P := Try.prog) Try.underlying55 Try.underlying5 Try.underlying9 (Kd.own_of_R HO_5.out)
    go_wp2
    go_ret
    exact ⟨by first | rfl | (simp [errW_none, errW_some] <;> rfl) | (simp [*, errW_none, errW_some] <;> rfl), by repeat (first | (with_reducible first | exact HB.out | apply below_alloc | apply pw_below_drewN | apply below_drew1) | exact HB.out)⟩

/-! ### Sort_int: function 36 -/
section
open Go.Sort Go.Shelf
def Sort_int.f (l0 : List Int) : Option (List Int) := if l0.length < 4611686018427387904 then some (l0.mergeSort fun x y => decide (x ≤ y)) else none
theorem Sort_int.calls (P0_ : Nat → Prop) (u9000_ : Value) (l0 : List Int) (r : List Int) (w0 w : World) (hB : Below w0.heap.size w0 w) (ho0 : Kd.R (Kd.int .i64) 3 w w0.heap.size P0_ u9000_ l0) (h : Sort_int.f l0 = some r) :
  Calls Try.prog 36 #[u9000_] w fun e w' => e = .returned (.tuple #[]) ∧ Kd.R (Kd.int .i64) 3 w' w0.heap.size (fun k_ => (P0_ k_ ∨ w.heap.size ≤ k_)) u9000_ r ∧ Below w0.heap.size w0 w' ∧ Kept w w' (fun k_ => P0_ k_) := by
 unfold Sort_int.f at h
 by_cases hl : l0.length < 4611686018427387904
 ·rw [if_pos hl] at h
  obtain rfl := Option.some.inj h
  rcases intR_shape ho0 with ⟨rfl, rfl⟩ | ⟨g, cap, rfl⟩
  ·refine (AnyG.slices_Sort_int_none Try.laysSortI none 0 w).mono ?_
   rintro e w' ⟨rfl, rfl⟩
   exact ⟨rfl, by rw [List.mergeSort_nil]; exact Kd.R_nil _ _ _ _ _, hB, Kept.refl _ _⟩
  ·obtain ⟨hok, hb, hc1, hc2, cur, hh, hsz, htk⟩ := intR_open ho0
   refine (AnyG.slices_Sort_int Try.laysSortI g 0 cap l0 w (holds_of_blockI hh htk) (Array.getElem?_eq_some_iff.1 hh).1 hl).mono ?_
   rintro e w' ⟨rfl, m, os, rfl⟩
   have hlen : (l0.mergeSort fun x y => decide (x ≤ y)).length = l0.length := List.length_mergeSort _
   have hg := grownBy_sortedI (w := w) (g := g) (n := m) (os := os) (l0.mergeSort fun x y => decide (x ≤ y)).toArray
   refine ⟨rfl, ?_, hB.grown hg hB.size (fun k hk => by simp at hk; omega), Kept.of_grown hg (Kept.refl _ _) (fun k hk => .inl (by simp at hk; exact hk ▸ hok))⟩
   have := intR_mk (w := grow (putRow (Value.int .i64) (Sort.ahead w m) g 0 (l0.mergeSort fun x y => decide (x ≤ y)).toArray) os) (ok := fun k_ => (P0_ k_ ∨ w.heap.size ≤ k_)) (.inl hok) hb (heap_sortedI _ hh) (by rw [hlen]; exact hc1) hc2 (by simp [putCells, hsz]) (take_putCellsI cur _ (by rw [hlen, hsz]; omega))
   rw [hlen] at this
   exact this
 ·rw [if_neg hl] at h; cases h
end

/-! ### Compact_int: function 37 -/
section
open Go.Sort Go.Shelf
def Compact_int.f (l0 : List Int) : Option (List Int) := if l0.length ≤ 9223372036854775807 then some (Lib.compact l0) else none
theorem compact_length (l : List Int) : (Lib.compact l).length ≤ l.length := by
 unfold Lib.compact Lib.compactUpTo
 rw [List.length_map]
 exact Nat.le_trans (List.length_filter_le _ _) (by simp)
theorem Compact_int.calls (P0_ : Nat → Prop) (u9000_ : Value) (l0 : List Int) (r : List Int) (w0 w : World) (hB : Below w0.heap.size w0 w) (ho0 : Kd.R (Kd.int .i64) 3 w w0.heap.size P0_ u9000_ l0) (h : Compact_int.f l0 = some r) :
  Calls Try.prog 37 #[u9000_] w fun e w' => ∃ v0_ : Value, e = .returned (v0_) ∧ Kd.R (Kd.int .i64) 3 w' w0.heap.size (fun k_ => (P0_ k_ ∨ w.heap.size ≤ k_)) v0_ r ∧ Below w0.heap.size w0 w' ∧ Kept w w' (fun k_ => P0_ k_) := by
 unfold Compact_int.f at h
 by_cases hl : l0.length ≤ 9223372036854775807
 ·rw [if_pos hl] at h
  obtain rfl := Option.some.inj h
  rcases intR_shape ho0 with ⟨rfl, rfl⟩ | ⟨g, cap, rfl⟩
  ·refine (AnyG.slices_Compact_int_empty Try.laysCompI none 0 w).mono ?_
   rintro e w' ⟨rfl, rfl⟩
   exact ⟨_, rfl, Kd.R_nil _ _ _ _ _, hB, Kept.refl _ _⟩
  ·obtain ⟨hok, hb, hc1, hc2, cur, hh, hsz, htk⟩ := intR_open ho0
   refine (AnyG.slices_Compact_int Try.laysCompI g 0 cap l0 w (holds_of_blockI hh htk) hl hc1).mono ?_
   rintro e w' ⟨rfl, m, rfl⟩
   have hcl := compact_length l0
   have hlen : (Lib.compact l0 ++ List.replicate (l0.length - (Lib.compact l0).length) (0 : Int)).length = l0.length := by rw [List.length_append, List.length_replicate]; omega
   have hg := grownBy_sortedI (w := w) (g := g) (n := m) (os := #[]) (Lib.compact l0 ++ List.replicate (l0.length - (Lib.compact l0).length) (0 : Int)).toArray
   have hh2 := heap_sortedI (n := m) (os := #[]) (Lib.compact l0 ++ List.replicate (l0.length - (Lib.compact l0).length) (0 : Int)).toArray hh
   rw [grow_empty] at hg hh2
   have ht := take_putCellsI cur (Lib.compact l0 ++ List.replicate (l0.length - (Lib.compact l0).length) (0 : Int)) (by rw [hlen, hsz]; omega)
   refine ⟨_, rfl, ?_, hB.grown hg hB.size (fun k hk => by simp at hk; omega), Kept.of_grown hg (Kept.refl _ _) (fun k hk => .inl (by simp at hk; exact hk ▸ hok))⟩
   refine intR_mk (.inl hok) hb hh2 (by omega) hc2 (by simp [putCells, hsz]) ?_
   have := congrArg (List.take (Lib.compact l0).length) ht
   rw [List.take_take, Nat.min_eq_left (by rw [hlen]; exact hcl), List.map_append, List.take_left' (by rw [List.length_map])] at this
   exact this
 ·rw [if_neg hl] at h; cases h
end

/-! ### part_sets_places: function 27 -/
mutual
def part_sets_places.l0 : Nat → List Int → List (List (S44)) → Int → Int → Option (List Int)
 | 0, _, _, _, _ => none
 | k + 1, x3, x9, x10, x11 => if x11 < x10 then (if 0 ≤ x11 then (if x11 < (x9.length : Int) then (part_sets_places.l1 k x3 x9 x10 x11 (rd_L2 x9 x11) ((rd_L2 x9 x11).length : Int) 0) else (none)) else (none)) else ((Sort_int.f x3).bind fun t112 => ((Compact_int.f t112).bind fun t113 => (some t113)))
def part_sets_places.l1 : Nat → List Int → List (List (S44)) → Int → Int → List (S44) → Int → Int → Option (List Int)
 | 0, _, _, _, _, _, _, _ => none
 | k + 1, x3, x9, x10, x11, x15, x16, x17 => if x17 < x16 then (if 0 ≤ x17 then (if x17 < (x15.length : Int) then (if x3.length < 17592186044416 then ((some (x3 ++ [(rd_T44 x15 x17).f0] : List Int)).bind fun y119 => (if ((rd_T44 x15 x17).f1) < 1114111 then (if y119.length < 17592186044416 then (part_sets_places.l1 k (y119 ++ [wrap64 (((rd_T44 x15 x17).f1) + 1)]) x9 x10 x11 x15 x16 (wrap64 (x17 + 1))) else (none)) else (part_sets_places.l1 k y119 x9 x10 x11 x15 x16 (wrap64 (x17 + 1))))) else (none)) else (none)) else (none)) else (part_sets_places.l0 k x3 x9 x10 (wrap64 (x11 + 1)))
end
def part_sets_places.f (k : Nat) (l0 : List (List (S44))) : Option (List Int) := part_sets_places.l0 k (([0] : List Int)) l0 (l0.length : Int) 0
theorem part_sets_places.mono_l : ∀ k, (∀ y0 y1 y2 y3, LeO (part_sets_places.l0 k y0 y1 y2 y3) (part_sets_places.l0 (k + 1) y0 y1 y2 y3)) ∧ (∀ y0 y1 y2 y3 y4 y5 y6, LeO (part_sets_places.l1 k y0 y1 y2 y3 y4 y5 y6) (part_sets_places.l1 (k + 1) y0 y1 y2 y3 y4 y5 y6))
 | 0 => ⟨fun _ _ _ _ r h => by simp [part_sets_places.l0] at h, fun _ _ _ _ _ _ _ r h => by simp [part_sets_places.l1] at h⟩
 | k + 1 => by
  obtain ⟨ih0, ih1⟩ := part_sets_places.mono_l k
  refine ⟨?_, ?_⟩
  ·intro y0 y1 y2 y3
   unfold part_sets_places.l0
   repeat' first
   | (with_reducible exact ih0 _ _ _ _)
   | (with_reducible exact ih1 _ _ _ _ _ _ _)
   | (with_reducible exact LeO.refl _)
   | (with_reducible exact LeO.none _)
   | (with_reducible refine LeO.ite ?_ ?_)
   | (with_reducible refine LeO.bind ?_ (fun _ => ?_))
   | exact ih0 _ _ _ _
   | exact ih1 _ _ _ _ _ _ _
   | exact LeO.none _
   | refine LeO.ite ?_ ?_
   | refine LeO.bind ?_ (fun _ => ?_)
  ·intro y0 y1 y2 y3 y4 y5 y6
   unfold part_sets_places.l1
   repeat' first
   | (with_reducible exact ih0 _ _ _ _)
   | (with_reducible exact ih1 _ _ _ _ _ _ _)
   | (with_reducible exact LeO.refl _)
   | (with_reducible exact LeO.none _)
   | (with_reducible refine LeO.ite ?_ ?_)
   | (with_reducible refine LeO.bind ?_ (fun _ => ?_))
   | exact ih0 _ _ _ _
   | exact ih1 _ _ _ _ _ _ _
   | exact LeO.none _
   | refine LeO.ite ?_ ?_
   | refine LeO.bind ?_ (fun _ => ?_)
theorem part_sets_places.mono : ∀ a0 k, LeO (part_sets_places.f k a0) (part_sets_places.f (k + 1) a0) := by
 intro a0 k
 obtain ⟨ih0, ih1⟩ := part_sets_places.mono_l k
 unfold part_sets_places.f
 repeat' first
   | (with_reducible exact ih0 _ _ _ _)
   | (with_reducible exact ih1 _ _ _ _ _ _ _)
   | (with_reducible exact LeO.refl _)
   | (with_reducible exact LeO.none _)
   | (with_reducible refine LeO.ite ?_ ?_)
   | (with_reducible refine LeO.bind ?_ (fun _ => ?_))
   | exact ih0 _ _ _ _
   | exact ih1 _ _ _ _ _ _ _
   | exact LeO.none _
   | refine LeO.ite ?_ ?_
   | refine LeO.bind ?_ (fun _ => ?_)
set_option maxHeartbeats 8000000 in
set_option maxRecDepth 100000 in
theorem part_sets_places.calls (k : Nat) (A0 : Option Addr) (c0 : Nat) (l0 : List (List (S44))) (r : List Int) (w : World) (hr0 : Kd.C (Kd.slice 44 k44) w A0 l0.length l0) (hc0 : l0.length ≤ c0) (h : part_sets_places.f k l0 = some r) :
  Calls Try.prog 27 #[.slice A0 l0.length c0] w fun e w' => ∃ v0_ : Value, e = .returned (v0_) ∧ Kd.R (Kd.int .i64) 3 w' w.heap.size (fun _ => True) v0_ r ∧ Below w.heap.size w w' := by
 have hu44 := Try.underlying44
 have HR0 := Aside0.mk hr0
 have HC0 := Aside0.mk hc0
 clear hr0 hc0
 have HB := Aside0.mk (Below.refl w.heap.size w)
 have H : (part_sets_places.l0 k (([0] : List Int)) l0 (l0.length : Int) 0) = some r := h
 clear h
 obtain ⟨y109, hy109⟩ : ∃ y_ : List Int, y_ = (([0] : List Int)) := ⟨_, rfl⟩
 replace H : (part_sets_places.l0 k y109 l0 (l0.length : Int) 0) = some r := by first | (rw [hy109]; with_reducible exact H) | (have H2_ := (Option.bind_some _ _).symm.trans H; rw [hy109]; with_reducible exact H2_) | (have H2_ := (Option.bind_some _ _).symm.trans H; with_reducible exact H2_) | with_reducible exact H | (rw [hy109]; exact H) | exact H
 have Ny109 := Aside0.mk hy109
 clear hy109
 have H' := Aside0.mk H
 clear H
 go_enter Try.func27, Try.ntmps27
 go_wp2_with (first | ((with_reducible refine gate_dst (N := 8) rfl ?_); refine Kd.R_lit (Kd.int .i64) _ 3 ?hg (N := 8) ?hd (xs := ([0] : List Int)) (inner := [.int .i64 0]) (ok := fun _ => True) (okp := fun _ => True) ?hr ?hp (fun _ hk => hk) trivial (Below.refl _ _) (Nat.le_refl _) (by simp) ?_; (case hd => rfl); (case hg => rfl); (case hr => first | (go_simp; done) | (go_simp; rfl)); (case hp => exact (Reps.one (show Kd.M (Kd.int .i64) _ _ _ 0 [.int .i64 0] from rfl) (Reps.none _ _))); intro v110 w2 ho3 hb hg_ hnew_; clear hg_ hnew_; (first | rw [← Ny109.out] at ho3 | (simp only [Int.reduceToNat] at ho3; rw [← Ny109.out] at ho3)); have n0_ := Aside0.mk (Kd.R_lower ho3 (below_size (by repeat (first | (with_reducible first | exact HB.out | apply below_alloc | apply pw_below_drewN | apply below_drew1) | exact HB.out)))); have n1_ := Aside0.mk (below_step (by repeat (first | (with_reducible first | exact HB.out | apply below_alloc | apply pw_below_drewN | apply below_drew1) | exact HB.out)) hb); clear HB; have HO111 := n0_; have HB := n1_; clear n0_ n1_; clear hb ho3))
 go_loopg [3, 11] k (fun kq v3 v11 w' => ∃ (x3_1 : List Int) (x11_1 : Int), v11 = .int .i64 x11_1 ∧ Aside0 (part_sets_places.l0 kq x3_1 l0 (l0.length : Int) x11_1 = some r) ∧ Aside0 (kq ≤ k) ∧ Aside0 (Kd.R (Kd.int .i64) 3 w' w.heap.size (fun _ => True) v3 x3_1) ∧ Aside0 (Below w.heap.size w w'))
 case atStart => exact ⟨(y109), (0), (by first | rfl | (simp; done) | (simp [*]; done)), H', ⟨Nat.le_refl _⟩, ⟨by (with_reducible repeat (first | apply Kd.R_alloc | apply Kd.R_drewN | apply Kd.R_drew)); exact HO111.out⟩, ⟨by repeat (first | (with_reducible first | exact HB.out | apply below_alloc | apply pw_below_drewN | apply below_drew1) | exact HB.out)⟩⟩
 case round =>
  clear H'
  try clear c2
  try clear p2
  obtain ⟨x3_1, x11_1, rfl, HA, HK1, HO_3, HB⟩ := hrel
  cases gk with
  | zero => exact absurd HA.out (by simp [part_sets_places.l0])
  | succ k1 =>
   have H := HA.out
   clear HA
   simp only [part_sets_places.l0] at H
   by_cases c4 : x11_1 < (l0.length : Int)
   ·rw [if_pos c4] at H
    have c4b0 : decide (x11_1 < (l0.length : Int)) = true := decide_eq_true c4
    clear c4
    by_cases c5 : 0 ≤ x11_1
    ·rw [if_pos c5] at H
     have c5b0 : decide (0 ≤ x11_1) = true := decide_eq_true c5
     clear c5
     by_cases c6 : x11_1 < (l0.length : Int)
     ·rw [if_pos c6] at H
      have c6b0 : decide (x11_1 < (l0.length : Int)) = true := decide_eq_true c6
      clear c6
      have H' := Aside0.mk H
      clear H
      have p116 : 0 ≤ (x11_1 : Int) := of_decide_eq_true (by first | (with_reducible assumption) | assumption)
      have q116 : x11_1 < (l0.length : Int) := of_decide_eq_true (by first | (with_reducible assumption) | assumption)
      obtain ⟨ad116, A116_0, c116_0, e116, hx116_0, hl116_0, hi116_0⟩ := at_L2 HR0.out x11_1 p116 q116
      cases e116
      replace hx116_0 := (HB.out.cell (World.block_lt_of_cell? w _ hx116_0)).trans hx116_0
      have HR116_0 := Aside0.mk hi116_0
      have HC116_0 := Aside0.mk hl116_0
      clear hi116_0 hl116_0
      replace p116 := eq_true p116
      replace q116 := eq_true q116
      go_wp2
      go_loopg [3, 17] k1 (fun kq v3 v17 w' => ∃ (x3_2 : List Int) (x17_2 : Int), v17 = .int .i64 x17_2 ∧ Aside0 (part_sets_places.l1 kq x3_2 l0 (l0.length : Int) x11_1 (rd_L2 l0 x11_1) ((rd_L2 l0 x11_1).length : Int) x17_2 = some r) ∧ Aside0 (kq ≤ k1) ∧ Aside0 (Kd.R (Kd.int .i64) 3 w' w.heap.size (fun _ => True) v3 x3_2) ∧ Aside0 (Below w.heap.size w w'))
      case atStart => exact ⟨(x3_1), (0), (by first | rfl | (simp; done) | (simp [*]; done)), H', ⟨Nat.le_refl _⟩, ⟨by (with_reducible repeat (first | apply Kd.R_alloc | apply Kd.R_drewN | apply Kd.R_drew)); exact HO_3.out⟩, ⟨by repeat (first | (with_reducible first | exact HB.out | apply below_alloc | apply pw_below_drewN | apply below_drew1) | exact HB.out)⟩⟩
      case round =>
       clear H'
       try clear c1
       try clear p1
       try clear q1
       try clear hx1
       try clear c2
       try clear p2
       try clear c4
       try clear c4b0
       try clear c5
       try clear c5b0
       try clear c6
       try clear c6b0
       try clear hx116_0
       try clear p116
       try clear p2
       try clear q116
       obtain ⟨x3_2, x17_2, rfl, HA, HK2, HO_3, HB⟩ := hrel
       cases gk with
       | zero => exact absurd HA.out (by simp [part_sets_places.l1])
       | succ k2 =>
        have H := HA.out
        clear HA
        simp only [part_sets_places.l1] at H
        by_cases c7 : x17_2 < ((rd_L2 l0 x11_1).length : Int)
        ·rw [if_pos c7] at H
         have c7b0 : decide (x17_2 < ((rd_L2 l0 x11_1).length : Int)) = true := decide_eq_true c7
         clear c7
         by_cases c8 : 0 ≤ x17_2
         ·rw [if_pos c8] at H
          have c8b0 : decide (0 ≤ x17_2) = true := decide_eq_true c8
          clear c8
          by_cases c9 : x17_2 < ((rd_L2 l0 x11_1).length : Int)
          ·rw [if_pos c9] at H
           have c9b0 : decide (x17_2 < ((rd_L2 l0 x11_1).length : Int)) = true := decide_eq_true c9
           clear c9
           by_cases c10 : x3_2.length < 17592186044416
           ·rw [if_pos c10] at H
            have LMc10 := Aside0.mk c10
            clear c10
            obtain ⟨y119, hy119⟩ : ∃ y_ : List Int, y_ = (x3_2 ++ [(rd_T44 (rd_L2 l0 x11_1) x17_2).f0]) := ⟨_, rfl⟩
            replace H : (if ((rd_T44 (rd_L2 l0 x11_1) x17_2).f1) < 1114111 then (if y119.length < 17592186044416 then (part_sets_places.l1 k2 (y119 ++ [wrap64 (((rd_T44 (rd_L2 l0 x11_1) x17_2).f1) + 1)]) l0 (l0.length : Int) x11_1 (rd_L2 l0 x11_1) ((rd_L2 l0 x11_1).length : Int) (wrap64 (x17_2 + 1))) else (none)) else (part_sets_places.l1 k2 y119 l0 (l0.length : Int) x11_1 (rd_L2 l0 x11_1) ((rd_L2 l0 x11_1).length : Int) (wrap64 (x17_2 + 1)))) = some r := by first | (rw [hy119]; with_reducible exact H) | (have H2_ := (Option.bind_some _ _).symm.trans H; rw [hy119]; with_reducible exact H2_) | (have H2_ := (Option.bind_some _ _).symm.trans H; with_reducible exact H2_) | with_reducible exact H | (rw [hy119]; exact H) | exact H
            have Ny119 := Aside0.mk hy119
            clear hy119
            by_cases c11 : ((rd_T44 (rd_L2 l0 x11_1) x17_2).f1) < 1114111
            ·rw [if_pos c11] at H
             have c11b0 : decide (((rd_T44 (rd_L2 l0 x11_1) x17_2).f1) < 1114111) = true := decide_eq_true c11
             clear c11
             by_cases c12 : y119.length < 17592186044416
             ·rw [if_pos c12] at H
              have LMc12 := Aside0.mk c12
              clear c12
              obtain ⟨y122, hy122⟩ : ∃ y_ : List Int, y_ = (y119 ++ [wrap64 (((rd_T44 (rd_L2 l0 x11_1) x17_2).f1) + 1)]) := ⟨_, rfl⟩
              replace H : (part_sets_places.l1 k2 y122 l0 (l0.length : Int) x11_1 (rd_L2 l0 x11_1) ((rd_L2 l0 x11_1).length : Int) (wrap64 (x17_2 + 1))) = some r := by first | (rw [hy122]; with_reducible exact H) | (have H2_ := (Option.bind_some _ _).symm.trans H; rw [hy122]; with_reducible exact H2_) | (have H2_ := (Option.bind_some _ _).symm.trans H; with_reducible exact H2_) | with_reducible exact H | (rw [hy122]; exact H) | exact H
              have Ny122 := Aside0.mk hy122
              clear hy122
              have H' := Aside0.mk H
              clear H
              have p117 : 0 ≤ (x17_2 : Int) := of_decide_eq_true (by first | (with_reducible assumption) | assumption)
              have q117 : x17_2 < ((rd_L2 l0 x11_1).length : Int) := of_decide_eq_true (by first | (with_reducible assumption) | assumption)
              obtain ⟨ad117, e117, hx117_0, hx117_1⟩ := at_T44 HR116_0.out x17_2 p117 q117
              cases e117
              replace hx117_0 := (HB.out.cell (World.block_lt_of_cell? w _ hx117_0)).trans hx117_0
              replace hx117_1 := (HB.out.cell (World.block_lt_of_cell? w _ hx117_1)).trans hx117_1
              replace p117 := eq_true p117
              replace q117 := eq_true q117
              go_wp2_with (first | ((with_reducible refine gate_dst (N := 7) rfl ?_); refine box_event ?hg (N := 7) ?hd (cs := #[.int .i64 0, .int .i64 0]) (t := 44) ?hr ?_; (case hd => rfl); (case hg => rfl); (case hr => first | (go_simp; done) | (go_simp; rfl)); intro gb118 hg w13 hbox hb; have n0_ := Aside0.mk (Kd.R_below (by (with_reducible repeat (first | apply Kd.R_alloc | apply Kd.R_drewN | apply Kd.R_drew)); exact HO_3.out) hb); have n1_ := Aside0.mk (below_step (by repeat (first | (with_reducible first | exact HB.out | apply below_alloc | apply pw_below_drewN | apply below_drew1) | exact HB.out)) hb); have n2_ := Aside0.mk (hbox); have n3_ := Aside0.mk ((by rw [hg]; exact (below_size (by repeat (first | (with_reducible first | exact HB.out | apply below_alloc | apply pw_below_drewN | apply below_drew1) | exact HB.out))) : w.heap.size ≤ gb118)); have n4_ := Aside0.mk ((by rw [hg]; exact (below_size (by repeat (first | (with_reducible first | exact HB.out | apply below_alloc | apply pw_below_drewN | apply below_drew1) | exact HB.out))) : w.heap.size ≤ gb118)); clear HO_3; clear HB; have HO_3 := n0_; have HB := n1_; have BK118 := n2_; have GW118 := n3_; have GE118 := n4_; clear n0_ n1_ n2_ n3_ n4_; clear hb hbox hg; have hcz14_0 : w13.cell? ⟨gb118, 0, none⟩ = some (.int .i64 0) := (blk_cell BK118.out 0).trans rfl; have hcz14_1 : w13.cell? ⟨gb118, 1, none⟩ = some (.int .i64 0) := (blk_cell BK118.out 1).trans rfl; have hfz14_0 := blk_frozen BK118.out 0; have hfz14_1 := blk_frozen BK118.out 1) | ((with_reducible refine gate_builtin (b := .append) (xs := #[.tmp 21, .tmp 24]) rfl ?_); at_builtin; refine Kd.R_append (Kd.int .i64) (w0 := w) w.heap.size rfl (.tmp 21) (.tmp 24) 22 3 (.int .i64 0) 8 rfl Try.underlying22 info3 rfl (by decide) (by omega) u3 x3_2 ((rd_T44 (rd_L2 l0 x11_1) x17_2).f0) [.int .i64 ((rd_T44 (rd_L2 l0 x11_1) x17_2).f0)] (fun _ => True) (fun _ => False) rfl (by first | (go_simp; done) | (go_simp; rfl)) ?aP (fun _ hk => hk.elim) ?aF ?aO ?aB ?aS ?aL ?_; (case aP => exact rfl); (case aB => exact (by repeat (first | (with_reducible first | exact HB.out | apply below_alloc | apply pw_below_drewN | apply below_drew1 | refine below_set ?_ GE118.out) | exact HB.out))); (case aF => exact (fun _ _ => trivial)); (case aO => exact (by (with_reducible repeat (first | apply Kd.R_alloc | apply Kd.R_drewN | apply Kd.R_drew)); exact Kd.R_mono (Kd.R_far (p := ⟨gb118, 1, none⟩) (Kd.R_far (p := ⟨gb118, 0, none⟩) (Kd.R_types HO_3.out BK118.out (by decide)) (fun _ hk => hk.2) (.int .i64 ((rd_T44 (rd_L2 l0 x11_1) x17_2).f0))) (fun _ hk => hk.2) (.int .i64 ((rd_T44 (rd_L2 l0 x11_1) x17_2).f1))) (fun _ hk => trivial))); (case aS => exact (below_size (by repeat (first | (with_reducible first | exact HB.out | apply below_alloc | apply pw_below_drewN | apply below_drew1 | refine below_set ?_ GE118.out) | exact HB.out)))); (case aL => have := LMc10.out; omega); intro v120 w15 ho hb hg hat; rw [← Ny119.out] at ho; have n0_ := Aside0.mk (blk_grown (g := gb118) (o := .cells #[.int .i64 ((rd_T44 (rd_L2 l0 x11_1) x17_2).f0), .int .i64 ((rd_T44 (rd_L2 l0 x11_1) x17_2).f1)] 44 (0, 0)) (by (with_reducible repeat (first | refine blk_drewN ?_ _ | refine blk_drew ?_ | refine blk_alloc ?_ _)); refine blk_put (cs := #[.int .i64 ((rd_T44 (rd_L2 l0 x11_1) x17_2).f0), .int .i64 0]) ?_ 1 _ rfl; (with_reducible repeat (first | refine blk_drewN ?_ _ | refine blk_drew ?_ | refine blk_alloc ?_ _)); refine blk_put (cs := #[.int .i64 0, .int .i64 0]) ?_ 0 _ rfl; (with_reducible repeat (first | refine blk_drewN ?_ _ | refine blk_drew ?_ | refine blk_alloc ?_ _)); exact BK118.out) hg (Kd.R_ne HO_3.out BK118.out (by decide))); have n1_ := Aside0.mk (hb); have n2_ := Aside0.mk (ho); clear BK118; clear HB; clear HO_3; have BK118 := n0_; have HB := n1_; have HO121 := n2_; clear n0_ n1_ n2_; clear ho hb hg hat; have hcz16_0 : w15.cell? ⟨gb118, 0, none⟩ = some (.int .i64 ((rd_T44 (rd_L2 l0 x11_1) x17_2).f0)) := (blk_cell BK118.out 0).trans rfl; have hcz16_1 : w15.cell? ⟨gb118, 1, none⟩ = some (.int .i64 ((rd_T44 (rd_L2 l0 x11_1) x17_2).f1)) := (blk_cell BK118.out 1).trans rfl; have hfz16_0 := blk_frozen BK118.out 0; have hfz16_1 := blk_frozen BK118.out 1) | ((with_reducible refine gate_builtin (b := .append) (xs := #[.tmp 29, .tmp 33]) rfl ?_); at_builtin; refine Kd.R_append (Kd.int .i64) (w0 := w) w.heap.size rfl (.tmp 29) (.tmp 33) 22 3 (.int .i64 0) 8 rfl Try.underlying22 info3 rfl (by decide) (by omega) v120 y119 (wrap64 (((rd_T44 (rd_L2 l0 x11_1) x17_2).f1) + 1)) [.int .i64 (wrap64 (((rd_T44 (rd_L2 l0 x11_1) x17_2).f1) + 1))] (fun _ => True) (fun _ => False) rfl rfl ?aP (fun _ hk => hk.elim) ?aF ?aO ?aB ?aS ?aL ?_; (case aP => exact rfl); (case aB => exact (by repeat (first | (with_reducible first | exact HB.out | apply below_alloc | apply pw_below_drewN | apply below_drew1 | refine below_set ?_ GE118.out) | exact HB.out))); (case aF => exact (fun _ _ => trivial)); (case aO => exact (by (with_reducible repeat (first | apply Kd.R_alloc | apply Kd.R_drewN | apply Kd.R_drew)); exact HO121.out)); (case aS => exact (below_size (by repeat (first | (with_reducible first | exact HB.out | apply below_alloc | apply pw_below_drewN | apply below_drew1 | refine below_set ?_ GE118.out) | exact HB.out)))); (case aL => have := LMc12.out; omega); intro v123 w17 ho hb hg hat; rw [← Ny122.out] at ho; have n0_ := Aside0.mk (blk_grown (g := gb118) (o := .cells #[.int .i64 ((rd_T44 (rd_L2 l0 x11_1) x17_2).f0), .int .i64 ((rd_T44 (rd_L2 l0 x11_1) x17_2).f1)] 44 (0, 0)) (by (with_reducible repeat (first | refine blk_drewN ?_ _ | refine blk_drew ?_ | refine blk_alloc ?_ _)); exact BK118.out) hg (Kd.R_ne HO121.out BK118.out (by decide))); have n1_ := Aside0.mk (hb); have n2_ := Aside0.mk (ho); clear BK118; clear HB; clear HO121; have BK118 := n0_; have HB := n1_; have HO124 := n2_; clear n0_ n1_ n2_; clear ho hb hg hat))
              go_roundg k2
              case measure => have := HK1.out; have := HK2.out; omega
              case rel => exact ⟨(y122), (wrap64 (x17_2 + 1)), (by first | rfl | (simp; done) | (simp [*]; done)), H', ⟨by have := HK1.out; have := HK2.out; omega⟩, ⟨by (with_reducible repeat (first | apply Kd.R_alloc | apply Kd.R_drewN | apply Kd.R_drew)); exact HO124.out⟩, ⟨by repeat (first | (with_reducible first | exact HB.out | apply below_alloc | apply pw_below_drewN | apply below_drew1 | refine below_set ?_ GE118.out) | exact HB.out)⟩⟩
             ·rw [if_neg c12] at H
              exact absurd H (by simp)
            ·rw [if_neg c11] at H
             have c11b0 : decide (((rd_T44 (rd_L2 l0 x11_1) x17_2).f1) < 1114111) = false := decide_eq_false c11
             clear c11
             have H' := Aside0.mk H
             clear H
             have p117 : 0 ≤ (x17_2 : Int) := of_decide_eq_true (by first | (with_reducible assumption) | assumption)
             have q117 : x17_2 < ((rd_L2 l0 x11_1).length : Int) := of_decide_eq_true (by first | (with_reducible assumption) | assumption)
             obtain ⟨ad117, e117, hx117_0, hx117_1⟩ := at_T44 HR116_0.out x17_2 p117 q117
             cases e117
             replace hx117_0 := (HB.out.cell (World.block_lt_of_cell? w _ hx117_0)).trans hx117_0
             replace hx117_1 := (HB.out.cell (World.block_lt_of_cell? w _ hx117_1)).trans hx117_1
             replace p117 := eq_true p117
             replace q117 := eq_true q117
             go_wp2_with (first | ((with_reducible refine gate_dst (N := 7) rfl ?_); refine box_event ?hg (N := 7) ?hd (cs := #[.int .i64 0, .int .i64 0]) (t := 44) ?hr ?_; (case hd => rfl); (case hg => rfl); (case hr => first | (go_simp; done) | (go_simp; rfl)); intro gb118 hg w18 hbox hb; have n0_ := Aside0.mk (Kd.R_below (by (with_reducible repeat (first | apply Kd.R_alloc | apply Kd.R_drewN | apply Kd.R_drew)); exact HO_3.out) hb); have n1_ := Aside0.mk (below_step (by repeat (first | (with_reducible first | exact HB.out | apply below_alloc | apply pw_below_drewN | apply below_drew1) | exact HB.out)) hb); have n2_ := Aside0.mk (hbox); have n3_ := Aside0.mk ((by rw [hg]; exact (below_size (by repeat (first | (with_reducible first | exact HB.out | apply below_alloc | apply pw_below_drewN | apply below_drew1) | exact HB.out))) : w.heap.size ≤ gb118)); have n4_ := Aside0.mk ((by rw [hg]; exact (below_size (by repeat (first | (with_reducible first | exact HB.out | apply below_alloc | apply pw_below_drewN | apply below_drew1) | exact HB.out))) : w.heap.size ≤ gb118)); clear HO_3; clear HB; have HO_3 := n0_; have HB := n1_; have BK118 := n2_; have GW118 := n3_; have GE118 := n4_; clear n0_ n1_ n2_ n3_ n4_; clear hb hbox hg; have hcz19_0 : w18.cell? ⟨gb118, 0, none⟩ = some (.int .i64 0) := (blk_cell BK118.out 0).trans rfl; have hcz19_1 : w18.cell? ⟨gb118, 1, none⟩ = some (.int .i64 0) := (blk_cell BK118.out 1).trans rfl; have hfz19_0 := blk_frozen BK118.out 0; have hfz19_1 := blk_frozen BK118.out 1) | ((with_reducible refine gate_builtin (b := .append) (xs := #[.tmp 21, .tmp 24]) rfl ?_); at_builtin; refine Kd.R_append (Kd.int .i64) (w0 := w) w.heap.size rfl (.tmp 21) (.tmp 24) 22 3 (.int .i64 0) 8 rfl Try.underlying22 info3 rfl (by decide) (by omega) u3 x3_2 ((rd_T44 (rd_L2 l0 x11_1) x17_2).f0) [.int .i64 ((rd_T44 (rd_L2 l0 x11_1) x17_2).f0)] (fun _ => True) (fun _ => False) rfl (by first | (go_simp; done) | (go_simp; rfl)) ?aP (fun _ hk => hk.elim) ?aF ?aO ?aB ?aS ?aL ?_; (case aP => exact rfl); (case aB => exact (by repeat (first | (with_reducible first | exact HB.out | apply below_alloc | apply pw_below_drewN | apply below_drew1 | refine below_set ?_ GE118.out) | exact HB.out))); (case aF => exact (fun _ _ => trivial)); (case aO => exact (by (with_reducible repeat (first | apply Kd.R_alloc | apply Kd.R_drewN | apply Kd.R_drew)); exact Kd.R_mono (Kd.R_far (p := ⟨gb118, 1, none⟩) (Kd.R_far (p := ⟨gb118, 0, none⟩) (Kd.R_types HO_3.out BK118.out (by decide)) (fun _ hk => hk.2) (.int .i64 ((rd_T44 (rd_L2 l0 x11_1) x17_2).f0))) (fun _ hk => hk.2) (.int .i64 ((rd_T44 (rd_L2 l0 x11_1) x17_2).f1))) (fun _ hk => trivial))); (case aS => exact (below_size (by repeat (first | (with_reducible first | exact HB.out | apply below_alloc | apply pw_below_drewN | apply below_drew1 | refine below_set ?_ GE118.out) | exact HB.out)))); (case aL => have := LMc10.out; omega); intro v120 w20 ho hb hg hat; rw [← Ny119.out] at ho; have n0_ := Aside0.mk (blk_grown (g := gb118) (o := .cells #[.int .i64 ((rd_T44 (rd_L2 l0 x11_1) x17_2).f0), .int .i64 ((rd_T44 (rd_L2 l0 x11_1) x17_2).f1)] 44 (0, 0)) (by (with_reducible repeat (first | refine blk_drewN ?_ _ | refine blk_drew ?_ | refine blk_alloc ?_ _)); refine blk_put (cs := #[.int .i64 ((rd_T44 (rd_L2 l0 x11_1) x17_2).f0), .int .i64 0]) ?_ 1 _ rfl; (with_reducible repeat (first | refine blk_drewN ?_ _ | refine blk_drew ?_ | refine blk_alloc ?_ _)); refine blk_put (cs := #[.int .i64 0, .int .i64 0]) ?_ 0 _ rfl; (with_reducible repeat (first | refine blk_drewN ?_ _ | refine blk_drew ?_ | refine blk_alloc ?_ _)); exact BK118.out) hg (Kd.R_ne HO_3.out BK118.out (by decide))); have n1_ := Aside0.mk (hb); have n2_ := Aside0.mk (ho); clear BK118; clear HB; clear HO_3; have BK118 := n0_; have HB := n1_; have HO121 := n2_; clear n0_ n1_ n2_; clear ho hb hg hat; have hcz21_0 : w20.cell? ⟨gb118, 0, none⟩ = some (.int .i64 ((rd_T44 (rd_L2 l0 x11_1) x17_2).f0)) := (blk_cell BK118.out 0).trans rfl; have hcz21_1 : w20.cell? ⟨gb118, 1, none⟩ = some (.int .i64 ((rd_T44 (rd_L2 l0 x11_1) x17_2).f1)) := (blk_cell BK118.out 1).trans rfl; have hfz21_0 := blk_frozen BK118.out 0; have hfz21_1 := blk_frozen BK118.out 1))
             go_roundg k2
             case measure => have := HK1.out; have := HK2.out; omega
             case rel => exact ⟨(y119), (wrap64 (x17_2 + 1)), (by first | rfl | (simp; done) | (simp [*]; done)), H', ⟨by have := HK1.out; have := HK2.out; omega⟩, ⟨by (with_reducible repeat (first | apply Kd.R_alloc | apply Kd.R_drewN | apply Kd.R_drew)); exact HO121.out⟩, ⟨by repeat (first | (with_reducible first | exact HB.out | apply below_alloc | apply pw_below_drewN | apply below_drew1 | refine below_set ?_ GE118.out) | exact HB.out)⟩⟩
           ·rw [if_neg c10] at H
            exact absurd H (by simp)
          ·rw [if_neg c9] at H
           exact absurd H (by simp)
         ·rw [if_neg c8] at H
          exact absurd H (by simp)
        ·rw [if_neg c7] at H
         have c7b0 : decide (x17_2 < ((rd_L2 l0 x11_1).length : Int)) = false := decide_eq_false c7
         clear c7
         have H' := Aside0.mk H
         clear H
         go_wp2
         go_roundg k2
         case measure => have := HK1.out; have := HK2.out; omega
         case rel => exact ⟨(x3_2), (wrap64 (x11_1 + 1)), (by first | rfl | (simp; done) | (simp [*]; done)), H', ⟨by have := HK1.out; have := HK2.out; omega⟩, ⟨by (with_reducible repeat (first | apply Kd.R_alloc | apply Kd.R_drewN | apply Kd.R_drew)); exact HO_3.out⟩, ⟨by repeat (first | (with_reducible first | exact HB.out | apply below_alloc | apply pw_below_drewN | apply below_drew1) | exact HB.out)⟩⟩
     ·rw [if_neg c6] at H
      exact absurd H (by simp)
    ·rw [if_neg c5] at H
     exact absurd H (by simp)
   ·rw [if_neg c4] at H
    have c4b0 : decide (x11_1 < (l0.length : Int)) = false := decide_eq_false c4
    clear c4
    replace H := Option.bind_eq_some_iff.mp H
    obtain ⟨t112, A220, H⟩ := H
    replace H : ((Compact_int.f t112).bind fun t113 => (some t113)) = some r := H
    have A22 := Aside0.mk A220
    clear A220
    replace H := Option.bind_eq_some_iff.mp H
    obtain ⟨t113, A230, H⟩ := H
    replace H : (some t113) = some r := H
    have A23 := Aside0.mk A230
    clear A230
    obtain rfl := Option.some.inj H
    obtain ⟨Ao24, co24, eo24⟩ := Kd.R_slice HO_3.out
    subst eo24
    go_wp2_with (first | ((with_reducible refine gate_callee (f := 36) rfl ?_); refine goesL_ (some 38) rfl rfl Try.func36 (by kernel_rfl) rfl #[.slice Ao24 x3_1.length co24] rfl (by (try simp only [List.map_toArray, List.map_cons, List.map_nil]); first | done | rfl | (simp only [List.length_drop, List.length_take]; rfl)) ?_; (with_reducible refine (Sort_int.calls (fun k_ => some k_ = (.slice Ao24 x3_1.length co24 : Value).ownBlock) (.slice Ao24 x3_1.length co24) x3_1 t112 w _ ?side1 ?side2 A22.out).mono ?_); (case side1 => repeat (first | (with_reducible first | exact HB.out | apply below_alloc | apply pw_below_drewN | apply below_drew1) | exact HB.out)); (case side2 => exact Kd.R_tight rfl HO_3.out); rintro e w25 ⟨rfl, hy0, hb, hkp⟩; refine ⟨_, rfl, ?_⟩; have n0_ := Aside0.mk (Kd.R_reok rfl hy0 (fun k_ e_ => HO_3.out.1 k_ e_)); have n1_ := Aside0.mk (hb); clear HO_3; clear HB; have HO_3 := n0_; have HB := n1_; clear n0_ n1_; (try clear hb); (try clear hkp); (try clear hy0)) | ((with_reducible refine gate_callee (f := 37) rfl ?_); refine goesL_ (some 40) rfl rfl Try.func37 (by kernel_rfl) rfl #[.slice Ao24 x3_1.length co24] rfl (by (try simp only [List.map_toArray, List.map_cons, List.map_nil]); first | done | rfl | (simp only [List.length_drop, List.length_take]; rfl)) ?_; (with_reducible refine (Compact_int.calls (fun k_ => some k_ = (.slice Ao24 x3_1.length co24 : Value).ownBlock) (.slice Ao24 x3_1.length co24) t112 t113 w _ ?side1 ?side2 A23.out).mono ?_); (case side1 => repeat (first | (with_reducible first | exact HB.out | apply below_alloc | apply pw_below_drewN | apply below_drew1) | exact HB.out)); (case side2 => exact Kd.R_tight rfl HO_3.out); rintro e w26 ⟨v114, rfl, ho0, hb, hkp⟩; refine ⟨_, rfl, ?_⟩; have n0_ := Aside0.mk (Kd.R_mono (ok' := fun k_ => True) ho0 (fun k_ hk_ => trivial)); have n1_ := Aside0.mk (hb); clear HB; clear HO_3; have HO115 := n0_; have HB := n1_; clear n0_ n1_; (try clear hb); (try clear hkp); (try clear ho0)))
    go_ret
    exact ⟨_, by first | rfl | (simp [errW_none, errW_some] <;> rfl) | (simp [*, errW_none, errW_some] <;> rfl), by (with_reducible repeat (first | apply Kd.R_alloc | apply Kd.R_drewN | apply Kd.R_drew)); exact HO115.out, by repeat (first | (with_reducible first | exact HB.out | apply below_alloc | apply pw_below_drewN | apply below_drew1) | exact HB.out)⟩

/-! ### Clone_int: function 28 -/
def Clone_int.f (l0 : List Int) : Option (List Int) := if l0.length < 8796093022208 then some l0 else none
set_option maxHeartbeats 800000 in
theorem Clone_int.calls (A0 : Option Addr) (c0 : Nat) (l0 : List Int) (r : List Int) (w : World) (hr0 : Kd.C (Kd.int .i64) w A0 l0.length l0) (hc0 : l0.length ≤ c0) (h : Clone_int.f l0 = some r) :
  Calls Try.prog 28 #[.slice A0 l0.length c0] w fun e w' => ∃ v0_ : Value, e = .returned (v0_) ∧ Kd.R (Kd.int .i64) 3 w' w.heap.size (fun _ => True) v0_ r ∧ Below w.heap.size w w' := by
 unfold Clone_int.f at h
 by_cases hl : l0.length < 8796093022208
 ·rw [if_pos hl] at h
  obtain rfl := Option.some.inj h
  clear h
  have HR0 := Aside0.mk hr0
  have HL := Aside0.mk hl
  clear hr0 hl
  have q24 := fun (w : World) (a : Option Addr) (n c n' c' : Nat) => Lib.run_eql_slice_nil (P := Try.prog) w _ _ a n c n' c' Try.underlying22
  rcases A0 with _ | A0
  ·go_enter Try.func28, Try.ntmps28
   go_wp2
   go_ret
   have h0 : l0 = [] := by
    rcases l0 with _ | ⟨x, l⟩
    ·rfl
    ·obtain ⟨ad, h, _⟩ := HR0.out.2.2 (by simp)
     cases h
   subst h0
   exact ⟨_, rfl, Kd.R_nil _ _ _ _ _, Below.refl _ _⟩
  ·have HO : Kd.R (Kd.int .i64) 3 (w.alloc (.cells #[] 3)) w.heap.size (fun _ => True) (.slice (some ⟨w.heap.size, 0, none⟩) 0 0) [] :=
    ⟨fun _ _ => trivial, [], World.ownsRow_made w #[] 0 (Nat.le_refl _) (Nat.zero_le _) rfl, Reps.none _ _⟩
   have HO' := Aside0.mk HO
   clear HO
   go_enter Try.func28, Try.ntmps28
   go_wp2_with (at_builtin; refine Kd.R_append_rows (Kd.int .i64) (Rr := (Kd.int .i64).K w) (w0 := w) w.heap.size rfl (.tmp 5) (.tmp 6) 22 3 (.int .i64 0) 8 rfl Try.underlying22 info3 rfl (by decide) (by omega) _ [] l0 (some A0) l0.length c0 (fun _ => True) (fun k => some k ≠ (Value.slice (some ⟨w.heap.size, 0, none⟩) 0 0).ownBlock) rfl rfl HO'.out ?aR ?aM (fun _ h => ⟨trivial, h⟩) (fun _ _ => trivial) ?aB ?aS ?aL ?_)
   case aR => exact HR0.out.imp_ (below_alloc (Below.refl _ _) _) (fun _ _ h => h)
   case aM => intro x cs h; exact h
   case aB => exact below_alloc (Below.refl _ _) _
   case aS => simp
   case aL => have := HL.out; simp; omega
   intro v1 w1 h1 hb hg hat
   have H1 := Aside0.mk h1
   have HB := Aside0.mk hb
   clear h1 hb hg hat HO' HR0
   go_wp2
   go_ret
   exact ⟨_, rfl, H1.out, HB.out⟩
 ·rw [if_neg hl] at h; cases h

end Go.Proofs.Yteogcjckhoakbaa.P
