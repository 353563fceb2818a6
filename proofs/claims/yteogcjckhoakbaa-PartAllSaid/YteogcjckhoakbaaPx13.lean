-- Written by wip/xprint.py (a program of this repo) out of the translation; Lean checks it.
import Derived.Test.YteogcjckhoakbaaPx0
import Derived.Test.YteogcjckhoakbaaPx1
import Derived.Test.YteogcjckhoakbaaPx2
import Derived.Test.YteogcjckhoakbaaPx8
namespace Go.Proofs.Yteogcjckhoakbaa.P
open Go.RowKit Go.Proofs.YteogcjckhoakbaaW.PrintWords Go.Proofs.YteogcjckhoakbaaW.PrintLast Go.Proofs.YteogcjckhoakbaaW.PrintMore
attribute [local go_sem] max2_int min2_int max_two min_two max_three min_three max_four min_four   -- for this text's walks alone
attribute [local go_sem ↓ high] Go.Proofs.YteogcjckhoakbaaX.isSome_setCell
set_option linter.unusedVariables false
set_option linter.unusedSimpArgs false

/-! ### hyphenref4_points: function 29 -/
def insK (out : List Int) (x : Int) : Nat → Nat
 | 0 => 0
 | k + 1 => if x < out.getD k 0 then insK out x k else k + 1
theorem insK_le (out : List Int) (x : Int) : ∀ k, insK out x k ≤ k
 | 0 => Nat.le_refl _
 | k + 1 => by
  unfold insK; split
  ·exact Nat.le_succ_of_le (insK_le out x k)
  ·exact Nat.le_refl _
theorem insK_lt {out : List Int} {x : Int} {k : Nat} (h : x < out.getD k 0) : insK out x (k + 1) = insK out x k := by unfold insK; rw [if_pos h]; cases k <;> rfl
theorem insK_ge {out : List Int} {x : Int} {k : Nat} (h : ¬ x < out.getD k 0) : insK out x (k + 1) = k + 1 := by unfold insK; rw [if_neg h]
def insAt (out : List Int) (x : Int) : List Int := if x ≤ 1114111 ∧ (insK out x out.length = 0 ∨ out.getD (insK out x out.length - 1) 0 ≠ x) then out.take (insK out x out.length) ++ [x] ++ out.drop (insK out x out.length) else out
theorem insAt_len (out : List Int) (x : Int) : (insAt out x).length ≤ out.length + 1 := by
 have := insK_le out x out.length
 unfold insAt; split
 ·simp; omega
 ·omega
def ptStep (out : List Int) (r : S44) : List Int := insAt (insAt out r.f0) (wrap64 (r.f1 + 1))
def ptsR (out : List Int) (x : List S44) : List Int := x.foldl ptStep out
def ptsL (out : List Int) (l : List (List S44)) : List Int := l.foldl ptsR out
theorem ptsR_len (x : List S44) : ∀ out, (ptsR out x).length ≤ out.length + 2 * x.length := by
 induction x with
 | nil => intro out; simp [ptsR]
 | cons r x ih =>
  intro out
  have h1 := ih (ptStep out r)
  have h2 := insAt_len (insAt out r.f0) (wrap64 (r.f1 + 1))
  have h3 := insAt_len out r.f0
  unfold ptsR at *
  rw [List.foldl_cons, List.length_cons]
  unfold ptStep at *
  omega
theorem ptsL_len (l : List (List S44)) : ∀ out, (ptsL out l).length ≤ out.length + 2 * l.flatten.length := by
 induction l with
 | nil => intro out; simp [ptsL]
 | cons x l ih =>
  intro out
  have h1 := ih (ptsR out x)
  have h2 := ptsR_len x out
  unfold ptsL at *
  rw [List.foldl_cons, List.flatten_cons, List.length_append]
  omega
theorem ptsR_succ (out : List Int) (x : List S44) (j : Int) (h0 : 0 ≤ j) (h1 : j < x.length) : ptsR out (x.take (j + 1).toNat) = ptStep (ptsR out (x.take j.toNat)) (rd_T44 x j) := by
 have e : (j + 1).toNat = j.toNat + 1 := by omega
 have hj : j.toNat < x.length := by omega
 unfold ptsR rd_T44
 rw [e, List.take_succ_eq_append_getElem hj, List.foldl_append, List.getD_eq_getElem?_getD, List.getElem?_eq_getElem hj]
 rfl
theorem ptsL_succ (out : List Int) (l : List (List S44)) (i : Int) (h0 : 0 ≤ i) (h1 : i < l.length) : ptsL out (l.take (i + 1).toNat) = ptsR (ptsL out (l.take i.toNat)) (rd_L2 l i) := by
 have e : (i + 1).toNat = i.toNat + 1 := by omega
 have hi : i.toNat < l.length := by omega
 unfold ptsL rd_L2
 rw [e, List.take_succ_eq_append_getElem hi, List.foldl_append, List.getD_eq_getElem?_getD, List.getElem?_eq_getElem hi]
 rfl
def hyphenref4_points.f (l0 : List (List S44)) : Option (List Int) := if l0.length ≤ 1000000 ∧ l0.flatten.length < 1000000 then some (ptsL [0] l0) else none
structure PtsAt (w W : World) (v : Value) (out : List Int) : Prop where
 below : Below w.heap.size w W
 r : Kd.R (Kd.int .i64) 3 W w.heap.size (fun _ => True) v out
theorem PtsAt.move {w W W1 : World} {v : Value} {out : List Int} (h : PtsAt w W v out) (hb : Below W.heap.size W W1) : PtsAt w W1 v out := ⟨below_weaken h.below h.below.size hb, Kd.R_below h.r hb⟩
def ptQ (o : List Int) (a b : Int) (q : Int) : List Int := if q = 0 then o else if q = 1 then insAt o a else insAt (insAt o a) b
structure PtsQ (w W : World) (v : Value) (out : List Int) (g : Nat) (a b : Int) : Prop where
 at_ : PtsAt w W v out
 lit : W.heap[g]? = some (.cells #[.int .i64 a, .int .i64 b] 3 (0, 0))
 ne : ∀ k, v.ownBlock = some k → k ≠ g
theorem PtsQ.move {w W W1 : World} {v : Value} {out : List Int} {g : Nat} {a b : Int} (h : PtsQ w W v out g a b) (hb : Below W.heap.size W W1) : PtsQ w W1 v out g a b := ⟨h.at_.move hb, (hb.block g (Array.getElem?_eq_some_iff.1 h.lit).1).trans h.lit, h.ne⟩
def lq (a b : Int) (q : Int) : Int := if q = 0 then a else b
theorem PtsQ.cell {w W : World} {v : Value} {out : List Int} {g : Nat} {a b : Int} (h : PtsQ w W v out g a b) (q : Int) (h0 : 0 ≤ q) (h1 : q < 2) : W.cell? ⟨g, q.toNat, none⟩ = some (.int .i64 (lq a b q)) := by
 have : q = 0 ∨ q = 1 := by omega
 rcases this with rfl | rfl
 ·exact (blk_cell h.lit 0).trans rfl
 ·exact (blk_cell h.lit 1).trans rfl
theorem PtsQ.takeC {w W W1 : World} {Ao : Option Addr} {co m : Nat} {out : List Int} {g : Nat} {a b : Int} (h : PtsQ w W (.slice Ao out.length co) out g a b) (hb : Below W.heap.size W W1) (hm : m ≤ out.length) : Kd.C (Kd.int .i64) W1 Ao m (out.take m) := by
 have h1 := Kd.C_take (m := m) (Kd.C_below (Kd.R_reads' h.at_.r).2.2 hb) hm
 rwa [show (out.take m).length = m from by rw [List.length_take]; omega] at h1
theorem PtsQ.dropC {w W W1 : World} {Ao : Option Addr} {co m : Nat} {out : List Int} {g : Nat} {a b : Int} (h : PtsQ w W (.slice Ao out.length co) out g a b) (hb : Below W.heap.size W W1) (hm : m ≤ out.length) : Kd.C (Kd.int .i64) W1 (if co = m then Ao else Ao.map (·.add (m * 1))) (out.length - m) (out.drop m) := by
 have h1 := Kd.C_drop (m := m) (c := co) (Kd.C_below (Kd.R_reads' h.at_.r).2.2 hb) hm (Kd.R_reads' h.at_.r).2.1
 rwa [show (out.drop m).length = out.length - m from List.length_drop] at h1
theorem PtsQ.next {w W W1 : World} {v v1 : Value} {out out1 : List Int} {g : Nat} {a b : Int} {ok : Nat → Prop} (h : PtsQ w W v out g a b) (hb : Below W.heap.size W W1) (hr : Kd.R (Kd.int .i64) 3 W1 W.heap.size ok v1 out1) : PtsQ w W1 v1 out1 g a b where
 at_ := ⟨below_weaken h.at_.below h.at_.below.size hb, Kd.R_mono (Kd.R_lower hr h.at_.below.size) (fun _ _ => trivial)⟩
 lit := (hb.block g (Array.getElem?_eq_some_iff.1 h.lit).1).trans h.lit
 ne := fun k hk => by
  obtain ⟨inner, ho⟩ := Kd.R_own hr
  have := own_base ho k hk
  have := (Array.getElem?_eq_some_iff.1 h.lit).1
  omega
theorem one_C {W : World} {g : Nat} {x : Int} (h : W.heap[g]? = some (.cells #[.int .i64 x] 3 (0, 0))) : Kd.C (Kd.int .i64) W (some ⟨g, 0, none⟩) 1 [x] :=
 (Kd.R_reads' (intR_mk (ok := fun _ => True) (base := g) (cap := 1) (l := [x]) trivial (Nat.le_refl _) h (Nat.le_refl _) (by unfold maxLen; omega) rfl rfl)).2.2
theorem nil_R {W : World} {g base : Nat} {ok : Nat → Prop} (hok : ok g) (hb : base ≤ g) (h : W.heap[g]? = some (.cells #[] 3 (0, 0))) : Kd.R (Kd.int .i64) 3 W base ok (.slice (some ⟨g, 0, none⟩) 0 0) [] := intR_mk (l := []) hok hb h (Nat.le_refl _) (by unfold maxLen; omega) rfl rfl
theorem hp2 (W : World) (A B : Obj) : ((W.alloc A).alloc B).drew.heap[W.heap.size]? = some A := by
 show ((W.heap.push A).push B)[W.heap.size]? = some A
 simp [Array.getElem?_push]
theorem hp3 (W : World) (A B : Obj) : ((W.alloc A).alloc B).drew.heap[W.heap.size + 1]? = some B := by
 have h := heap_alloc_new (W.alloc A) B
 rwa [show (W.alloc A).heap.size = W.heap.size + 1 from Array.size_push _] at h
theorem gen_wp {P : Program} {c : Code} {Q : Exit → Act → World → Prop} {a : Act} {W : World} (A : World → Prop) (h : A W) (k : ∀ W', A W' → Code.wp P c Q a W') : Code.wp P c Q a W := k W h
set_option maxRecDepth 100000 in
set_option maxHeartbeats 4000000 in
theorem hyphenref4_points.calls (A0 : Option Addr) (c0 : Nat) (l0 : List (List S44)) (r : List Int) (w : World) (hr0 : Kd.C (Kd.slice 44 k44) w A0 l0.length l0) (hc0 : l0.length ≤ c0) (h : hyphenref4_points.f l0 = some r) :
  Calls Try.prog 29 #[.slice A0 l0.length c0] w fun e w' => ∃ v0_ : Value, e = .returned (v0_) ∧ Kd.R (Kd.int .i64) 3 w' w.heap.size (fun _ => True) v0_ r ∧ Below w.heap.size w w' := by
 unfold hyphenref4_points.f at h
 by_cases hl : l0.length ≤ 1000000 ∧ l0.flatten.length < 1000000
 case neg => rw [if_neg hl] at h; cases h
 rw [if_pos hl] at h
 obtain rfl := Option.some.inj h
 clear h
 have HR0 := Aside0.mk hr0
 have HC0 := Aside0.mk hc0
 have HL := Aside0.mk hl
 have HP0 : Aside0 (PtsAt w (w.alloc (.cells #[.int .i64 0] 3)) (.slice (some ⟨w.heap.size, 0, none⟩) 1 1) (ptsL [0] (l0.take (0 : Int).toNat))) := ⟨⟨below_alloc (Below.refl _ _) _, intR_mk (l := [0]) trivial (Nat.le_refl _) (heap_alloc_new w _) (Nat.le_refl _) (by unfold maxLen; omega) rfl rfl⟩⟩
 clear hr0 hc0 hl
 go_enter Try.func29, Try.ntmps29
 go_wp2
 go_loopw [3, 4] (fun v3 v4 W => ∃ i : Int, v4 = .int .i64 i ∧ Aside0 (0 ≤ i ∧ i ≤ l0.length) ∧ Aside0 (PtsAt w W v3 (ptsL [0] (l0.take i.toNat)))) (fun _ i _ => ((l0.length : Int) - intOf i).toNat)
 case atStart => exact ⟨0, rfl, ⟨by omega⟩, HP0⟩
 case round =>
  clear HP0
  obtain ⟨i, rfl, HK, HP⟩ := hrel
  by_cases hlt : i < l0.length
  ·have h0 : 0 ≤ i := HK.out.1
   have HS := Aside0.mk (ptsL_succ [0] l0 i h0 hlt)
   have hlen := ptsL_len (l0.take i.toNat) [0]
   have hfl : (l0.take i.toNat).flatten.length + (rd_L2 l0 i).length ≤ l0.flatten.length := by
    have hi : i.toNat < l0.length := by omega
    have e := List.take_append_drop i.toNat l0
    rw [List.drop_eq_getElem_cons hi] at e
    have e2 := congrArg (fun z => z.flatten.length) e
    simp only [List.flatten_append, List.length_append, List.flatten_cons] at e2
    unfold rd_L2
    rw [List.getD_eq_getElem?_getD, List.getElem?_eq_getElem hi, Option.getD_some]
    omega
   have HN := Aside0.mk (And.intro hlen hfl)
   obtain ⟨ad, A1, c1, e1, hx, hl1, hg1⟩ := at_L2 HR0.out i h0 hlt
   subst e1
   have HX := Aside0.mk hx
   have HG := Aside0.mk hg1
   have HC1 := Aside0.mk hl1
   have hw2 : wrap64 (i + 1) = i + 1 := by have := HL.out.1; unfold wrap64; omega
   have HW2 := Aside0.mk hw2
   have PQ := Aside0.mk (And.intro h0 hlt)
   have c1b : decide (i < (l0.length : Int)) = true := decide_eq_true hlt
   clear hlt HK hlen hfl hx hg1 hl1 hw2
   replace h0 := eq_true h0
   have h3 := eq_true PQ.out.2
   go_wp2
   go_loopw [3, 5] (fun v3 v5 W => ∃ j : Int, v5 = .int .i64 j ∧ Aside0 (0 ≤ j ∧ j ≤ (rd_L2 l0 i).length) ∧ Aside0 (PtsAt w W v3 (ptsR (ptsL [0] (l0.take i.toNat)) ((rd_L2 l0 i).take j.toNat)))) (fun _ j _ => (((rd_L2 l0 i).length : Int) - intOf j).toNat)
   case atStart => exact ⟨0, rfl, ⟨by omega⟩, HP⟩
   case round =>
    clear HP
    obtain ⟨j, rfl, HK, HP⟩ := hrel
    have hx := (HP.out.below.cell (World.block_lt_of_cell? w _ HX.out)).trans HX.out
    by_cases hlt : j < (rd_L2 l0 i).length
    ·have g0 : 0 ≤ j := HK.out.1
     have HSR := Aside0.mk (ptsR_succ (ptsL [0] (l0.take i.toNat)) (rd_L2 l0 i) j g0 hlt)
     obtain ⟨ad2, e2, hy0, hy1⟩ := at_T44 HG.out j g0 hlt
     subst e2
     have hy0' := (HP.out.below.cell (World.block_lt_of_cell? w _ hy0)).trans hy0
     have hy1' := (HP.out.below.cell (World.block_lt_of_cell? w _ hy1)).trans hy1
     clear hy0 hy1
     have hw3 : wrap64 (j + 1) = j + 1 := by have := HN.out.2; have := HL.out.2; unfold wrap64; omega
     have HW3 := Aside0.mk hw3
     have PJ := Aside0.mk (And.intro g0 hlt)
     have c2b : decide (j < ((rd_L2 l0 i).length : Int)) = true := decide_eq_true hlt
     clear hlt HK hw3
     replace g0 := eq_true g0
     have g3 := eq_true PJ.out.2
     go_wp2
     go_region_held3 (fun w' => w'.cell? (ad.add i.toNat) = some (.slice (some ad2) (rd_L2 l0 i).length c1) ∧ w'.cell? (ad2.add (j.toNat * 2)) = some (.int .i64 (rd_T44 (rd_L2 l0 i) j).f0) ∧ w'.cell? ⟨(ad2.add (j.toNat * 2)).block, (ad2.add (j.toNat * 2)).off + 1, none⟩ = some (.int .i64 (rd_T44 (rd_L2 l0 i) j).f1)) (go_keep) (fail)
     generalize hA : (rd_T44 (rd_L2 l0 i) j).f0 = xa
     generalize hBb : IntKind.i64.wrap ((rd_T44 (rd_L2 l0 i) j).f1 + 1) = xb
     have HQ0 : Aside0 (PtsQ w (wr.alloc (.cells #[.int .i64 xa, .int .i64 xb] 3)).drew u3 (ptQ (ptsR (ptsL [0] (l0.take i.toNat)) ((rd_L2 l0 i).take j.toNat)) xa xb 0) wr.heap.size xa xb) := ⟨⟨HP.out.move (below_drew (below_alloc (Below.refl _ _) _)), heap_alloc_new wr _, fun k hk => by have := intR_lt HP.out.r k hk; omega⟩⟩
     have HAB := Aside0.mk (And.intro hA (show wrap64 ((rd_T44 (rd_L2 l0 i) j).f1 + 1) = xb from by rw [← hBb]; first | exact (i64_w _).symm | exact i64_w _ | simp only [i64_w]))
     have HOL : Aside0 ((ptsR (ptsL [0] (l0.take i.toNat)) ((rd_L2 l0 i).take j.toNat)).length < 10000000) := ⟨by
      have h1 := ptsR_len ((rd_L2 l0 i).take j.toNat) (ptsL [0] (l0.take i.toNat))
      have h2 := HN.out.1
      have h3 := HN.out.2
      have h4 := HL.out.2
      have h5 : ((rd_L2 l0 i).take j.toNat).length ≤ (rd_L2 l0 i).length := by rw [List.length_take]; omega
      simp only [List.length_singleton] at h2; omega⟩
     have HRJ := Aside0.mk (show ptsR (ptsL [0] (l0.take i.toNat)) ((rd_L2 l0 i).take (j + 1).toNat) = ptQ (ptsR (ptsL [0] (l0.take i.toNat)) ((rd_L2 l0 i).take j.toNat)) xa xb 2 from by rw [HSR.out]; unfold ptStep ptQ; rw [HAB.out.1, HAB.out.2]; rfl)
     clear hA hBb HP HSR hy0' hy1' hx HAB
     generalize ptsR (ptsL [0] (l0.take i.toNat)) ((rd_L2 l0 i).take j.toNat) = o at HQ0 HOL HRJ
     generalize hgg : wr.heap.size = gg at HQ0
     go_wp2
     go_loopw [3, 7] (fun v3 v7 W => ∃ q : Int, v7 = .int .i64 q ∧ Aside0 (0 ≤ q ∧ q ≤ 2) ∧ Aside0 (PtsQ w W v3 (ptQ o xa xb q) gg xa xb)) (fun _ q _ => (2 - intOf q).toNat)
     case atStart => exact ⟨0, rfl, ⟨by omega⟩, HQ0⟩
     case round =>
      clear HQ0
      obtain ⟨q, rfl, HK, HQ⟩ := hrel
      by_cases hlt : q < 2
      ·have q0 : 0 ≤ q := HK.out.1
       have hz := HQ.out.cell q q0 hlt
       obtain ⟨Ao, co, hv⟩ := Kd.R_slice HQ.out.at_.r
       subst hv
       have HQN : Aside0 (ptQ o xa xb (q + 1) = insAt (ptQ o xa xb q) (lq xa xb q)) := ⟨by
        have : q = 0 ∨ q = 1 := by omega
        rcases this with rfl | rfl <;> rfl⟩
       have HOQ : Aside0 ((ptQ o xa xb q).length < 20000000) := ⟨by
        have h1 := insAt_len o xa
        have := HOL.out
        unfold ptQ; split
        ·omega
        ·rw [if_pos (by omega)]; omega⟩
       have HW4 : Aside0 (wrap64 (q + 1) = q + 1) := ⟨by unfold wrap64; omega⟩
       have PQ4 := Aside0.mk (And.intro q0 hlt)
       generalize ptQ o xa xb q = out at HQ HQN HOQ
       generalize hlx : lq xa xb q = x at hz HQN
       have HLX := Aside0.mk hlx
       clear hlx
       have c4b : decide (q < (2 : Int)) = true := decide_eq_true hlt
       clear hlt HK
       replace q0 := eq_true q0
       have q3 := eq_true PQ4.out.2
       clear hz
       go_wp2
       go_loopw [8] (fun v8 W => ∃ kk : Int, v8 = .int .i64 kk ∧ Aside0 (0 ≤ kk ∧ kk ≤ out.length) ∧ Aside0 (insK out x out.length = insK out x kk.toNat) ∧ Aside0 (PtsQ w W (.slice Ao out.length co) out gg xa xb)) (fun kk _ => (intOf kk).toNat)
       case atStart => exact ⟨(out.length : Int), rfl, ⟨by omega⟩, ⟨by rw [Int.toNat_natCast]⟩, HQ⟩
       case round =>
        clear HQ
        obtain ⟨kk, rfl, HK, HI, HQ⟩ := hrel
        have hz := HQ.out.cell q PQ4.out.1 PQ4.out.2
        rw [HLX.out] at hz
        by_cases hk0 : kk > 0
        ·obtain ⟨m, hm⟩ : ∃ m : Int, kk - 1 = m := ⟨_, rfl⟩
         obtain ⟨ado, ea, ho⟩ := int_at (Kd.R_reads' HQ.out.at_.r).2.2 m (by omega) (by have := HK.out; omega)
         subst ea
         have hww : IntKind.i64.wrap (kk - 1) = m := by rw [show IntKind.i64.wrap (kk - 1) = wrap64 (kk - 1) from by first | exact i64_w _ | exact (i64_w _).symm]; have := HK.out; have := HOQ.out; unfold wrap64; omega
         have b1 : (0 ≤ m) = True := eq_true (by omega)
         have b2 : (m < (out.length : Int)) = True := eq_true (by have := HK.out; omega)
         have c5 : decide (kk > 0) = true := decide_eq_true hk0
         have HKK := Aside0.mk (show kk.toNat = m.toNat + 1 from by omega)
         have HK0 := Aside0.mk hk0
         have HM := Aside0.mk hm
         clear hk0 hm
         generalize hy : out.getD m.toNat 0 = y at ho
         have HY := Aside0.mk hy
         clear hy
         by_cases hxy : x < y
         ·have c6 : decide (x < y) = true := decide_eq_true hxy
          have HXY := Aside0.mk hxy
          clear hxy
          go_wp2
          go_region_held3 (fun w' => w'.cell? ⟨gg, q.toNat, none⟩ = some (.int .i64 x) ∧ w'.cell? (ado.add m.toNat) = some (.int .i64 y)) (go_keep) (fail)
          go_wp2
          go_roundw
          case rel => exact ⟨m, rfl, ⟨by have := HK.out; have := HM.out; have := HK0.out; omega⟩, ⟨by rw [HI.out, HKK.out]; exact insK_lt (by rw [HY.out]; exact HXY.out)⟩, ⟨HQ.out.move (below_drew (Below.refl _ _))⟩⟩
          case measure => have := HM.out; have := HK0.out; simp only [intOf]; omega
         ·have c6 : decide (x < y) = false := decide_eq_false hxy
          have HIE := Aside0.mk (show insK out x out.length = m.toNat + 1 from by rw [HI.out, HKK.out]; exact insK_ge (by rw [HY.out]; exact hxy))
          clear hxy HI
          go_wp2
          go_region_held3 (fun w' => w'.cell? ⟨gg, q.toNat, none⟩ = some (.int .i64 x) ∧ w'.cell? (ado.add m.toNat) = some (.int .i64 y)) (go_keep) (fail)
          have c7 : (kk == 0) = false := beq_eq_false_iff_ne.2 (by have := HK0.out; omega)
          by_cases hl : x ≤ 1114111
          ·have c8 : decide (x ≤ 1114111) = true := decide_eq_true hl
           by_cases hyx : y = x
           ·have c9 : (y != x) = false := by rw [bne_eq_false_iff_eq]; exact hyx
            have HYX := Aside0.mk hyx
            clear hl hyx
            go_wp2
            go_quiet (fail)
            clear c9
            go_wp2
            go_roundw
            case rel => exact ⟨q + 1, by rw [HW4.out], ⟨by have := PQ4.out; omega⟩, ⟨by rw [HQN.out, show insAt out x = out from by unfold insAt; rw [if_neg]; rw [HIE.out]; intro hh; rcases hh.2 with h | h; omega; exact h (by rw [Nat.add_sub_cancel, HY.out, HYX.out])]; exact HQ.out.move (by repeat (first | (with_reducible first | apply below_alloc | apply pw_below_drewN | apply below_drew1) | exact Below.refl _ _))⟩⟩
            case measure => have := PQ4.out; rw [HW4.out]; simp only [intOf]; omega
           ·have c9 : (y != x) = true := bne_iff_ne.2 hyx
            have HIN := Aside0.mk (show insAt out x = out.take kk.toNat ++ [x] ++ out.drop kk.toNat from by unfold insAt; rw [HIE.out, HKK.out, if_pos ⟨hl, .inr (by rw [Nat.add_sub_cancel, HY.out]; exact hyx)⟩])
            clear hl hyx
            go_wp2
            go_region_held3 (fun w' => w'.cell? ⟨gg, q.toNat, none⟩ = some (.int .i64 x) ∧ w'.cell? (ado.add m.toNat) = some (.int .i64 y)) (go_keep) (fail)
            go_wp2
            refine gen_wp (fun W' => PtsQ w W' (.slice (some ado) out.length co) out gg xa xb) (HQ.out.move (by repeat (first | (with_reducible first | apply below_alloc | apply pw_below_drewN | apply below_drew1) | exact Below.refl _ _))) (fun W16 hQ16 => ?_)
            clear hz HQ
            have k0 : (0 : Int) ≤ kk := HK.out.1
            have k1 : kk ≤ (out.length : Int) := HK.out.2
            obtain ⟨i0, hi0, _, hsz, _⟩ := info_parts info3
            have hroom : out.length ≤ co := (Kd.R_reads' hQ16.at_.r).2.1
            have hcut1 := cut_to (P := Try.prog) 22 3 .i64 Try.underlying22 hi0 (some ado) out.length co kk k0 k1 hroom
            have hcut2 := cut_from (P := Try.prog) 22 3 .i64 Try.underlying22 hi0 1 hsz (some ado) out.length co kk k0 k1
            obtain ⟨A2, hA2⟩ : ∃ A1, A1 = (if co = kk.toNat then (some ado) else (some ado).map (·.add (kk.toNat * 1))) := ⟨_, rfl⟩
            obtain ⟨c2, hc2⟩ : ∃ c1, c1 = co - kk.toNat := ⟨_, rfl⟩
            rw [← hA2, ← hc2] at hcut2
            have HQ16 := Aside0.mk hQ16
            have HA2 := Aside0.mk hA2
            have HROOM := Aside0.mk (And.intro hroom (And.intro hc2 hsz))
            replace k0 := eq_true k0
            replace k1 := eq_true k1
            clear hA2 hc2 hroom hsz hi0
            have hz := hQ16.cell q PQ4.out.1 PQ4.out.2
            rw [HLX.out] at hz
            clear hQ16
            have HZ := Aside0.mk hz
            have HLE := Aside0.mk (show kk.toNat ≤ out.length from by have := HK.out; omega)
            go_region_held3 (fun w' => w'.cell? ⟨gg, q.toNat, none⟩ = some (.int .i64 x)) (go_keep) (first | (refine Kd.R_append_rows_step (Kd.int .i64) (w0 := W16) W16.heap.size (by rfl) (.tmp 86) (.tmp 89) 22 3 (.int .i64 0) 8 rfl Try.underlying22 info3 rfl (by decide) (by omega) _ [] (out.take kk.toNat) _ _ _ (fun k => k ≠ W16.heap.size + 1) (fun _ => False) rfl rfl (nil_R (g := W16.heap.size) (by omega) (Nat.le_refl _) (hp2 _ _ _)) (HQ16.out.takeC (by repeat (first | (with_reducible first | apply below_alloc | apply pw_below_drewN | apply below_drew1) | exact Below.refl _ _)) HLE.out) (fun _ _ h => h) (fun _ h => h.elim) (fun k hk => by simp at hk; omega) (by repeat (first | (with_reducible first | apply below_alloc | apply pw_below_drewN | apply below_drew1) | exact Below.refl _ _)) (Below.size (by repeat (first | (with_reducible first | apply below_alloc | apply pw_below_drewN | apply below_drew1) | exact Below.refl _ _))) (by have := HOQ.out; have := HLE.out; simp only [List.length_append, List.length_take, List.length_singleton, List.length_nil]; omega) ?_; intro v1 w1 ho1 hb1 hg1 hat1; have hc1 := (hb1.cell (World.block_lt_of_cell? _ _ HZ.out)).trans HZ.out; have hx1 := blk_grown (hp3 W16 _ _) hg1 (show some (W16.heap.size + 1) ≠ some W16.heap.size from by simp); skip) | (refine Kd.R_append_rows_step (Kd.int .i64) (w0 := W16) W16.heap.size (by rfl) (.tmp 86) (.tmp 89) 22 3 (.int .i64 0) 8 rfl Try.underlying22 info3 rfl (by decide) (by omega) _ [] (out.take kk.toNat) _ _ _ (fun k => k ≠ W16.heap.size) (fun _ => False) rfl rfl (nil_R (g := W16.heap.size + 1) (by omega) (Nat.le_succ _) (hp3 _ _ _)) (HQ16.out.takeC (by repeat (first | (with_reducible first | apply below_alloc | apply pw_below_drewN | apply below_drew1) | exact Below.refl _ _)) HLE.out) (fun _ _ h => h) (fun _ h => h.elim) (fun k hk => by simp at hk; omega) (by repeat (first | (with_reducible first | apply below_alloc | apply pw_below_drewN | apply below_drew1) | exact Below.refl _ _)) (Below.size (by repeat (first | (with_reducible first | apply below_alloc | apply pw_below_drewN | apply below_drew1) | exact Below.refl _ _))) (by have := HOQ.out; have := HLE.out; simp only [List.length_append, List.length_take, List.length_singleton, List.length_nil]; omega) ?_; intro v1 w1 ho1 hb1 hg1 hat1; have hc1 := (hb1.cell (World.block_lt_of_cell? _ _ HZ.out)).trans HZ.out; have hx1 := blk_grown (hp2 W16 _ _) hg1 (show some W16.heap.size ≠ some (W16.heap.size + 1) from by simp); skip) | (refine Kd.R_append_rows_step (Kd.int .i64) (w0 := W16) W16.heap.size (by rfl) (.tmp 86) (.tmp 89) 22 3 (.int .i64 0) 8 rfl Try.underlying22 info3 rfl (by decide) (by omega) _ [] (out.take kk.toNat) _ _ _ (fun _ => True) (fun _ => False) rfl rfl (nil_R (g := W16.heap.size) trivial (Nat.le_refl _) (heap_alloc_new W16 _)) (HQ16.out.takeC (by repeat (first | (with_reducible first | apply below_alloc | apply pw_below_drewN | apply below_drew1) | exact Below.refl _ _)) HLE.out) (fun _ _ h => h) (fun _ h => h.elim) (fun _ _ => trivial) (by repeat (first | (with_reducible first | apply below_alloc | apply pw_below_drewN | apply below_drew1) | exact Below.refl _ _)) (Below.size (by repeat (first | (with_reducible first | apply below_alloc | apply pw_below_drewN | apply below_drew1) | exact Below.refl _ _))) (by have := HOQ.out; have := HLE.out; simp only [List.length_append, List.length_take, List.length_singleton, List.length_nil]; omega) ?_; intro v1 w1 ho1 hb1 hg1 hat1; have hc1 := (hb1.cell (World.block_lt_of_cell? _ _ HZ.out)).trans HZ.out; skip) | (refine Kd.R_append_rows_step (Kd.int .i64) (w0 := W16) W16.heap.size (by rfl) (.tmp 90) (.tmp 95) 22 3 (.int .i64 0) 8 rfl Try.underlying22 info3 rfl (by decide) (by omega) _ (out.take kk.toNat) [x] _ _ _ (fun _ => True) (fun _ => False) rfl rfl (by first | exact Kd.R_mono ho1 (fun _ _ => trivial) | exact Kd.R_alloc (Kd.R_mono ho1 (fun _ _ => trivial)) _) (by first | exact one_C (heap_alloc_new _ _) | exact one_C hx1) (fun _ _ h => h) (fun _ h => h.elim) (fun _ _ => trivial) (by first | exact hb1 | exact below_alloc hb1 _) (Below.size (by first | exact hb1 | exact below_alloc hb1 _)) (by have := HOQ.out; have := HLE.out; simp only [List.length_append, List.length_take, List.length_singleton, List.length_nil]; omega) ?_; intro v2 w2 ho2 hb2 hg2 hat2; have hc2 := (hb2.cell (World.block_lt_of_cell? _ _ HZ.out)).trans HZ.out; skip) | (refine Kd.R_append_rows_step (Kd.int .i64) (w0 := W16) W16.heap.size (by rfl) (.tmp 96) (.tmp 99) 22 3 (.int .i64 0) 8 rfl Try.underlying22 info3 rfl (by decide) (by omega) _ (out.take kk.toNat ++ [x]) (out.drop kk.toNat) _ _ _ (fun _ => True) (fun _ => False) rfl rfl ho2 (by rw [HA2.out]; exact HQ16.out.dropC hb2 HLE.out) (fun _ _ h => h) (fun _ h => h.elim) (fun _ _ => trivial) hb2 (Below.size hb2) (by have := HOQ.out; have := HLE.out; simp only [List.length_append, List.length_take, List.length_singleton, List.length_nil]; omega) ?_; intro v3 w3 ho3 hb3 hg3 hat3; have hc3 := (hb3.cell (World.block_lt_of_cell? _ _ HZ.out)).trans HZ.out; skip))
            all_goals (
             have HN3 := Aside0.mk (HQ16.out.next hb3 ho3)
             clear hb1 hb2 hb3 ho1 ho2 ho3 hg1 hg2 hg3 hat1 hat2 hat3 hc1 hc2 hc3
             go_wp2
             go_roundw
             case rel => exact ⟨q + 1, by rw [HW4.out], ⟨by have := PQ4.out; omega⟩, ⟨by rw [HQN.out, HIN.out]; exact HN3.out.move (by repeat (first | (with_reducible first | apply below_alloc | apply pw_below_drewN | apply below_drew1) | exact Below.refl _ _))⟩⟩
             case measure => have := PQ4.out; rw [HW4.out]; simp only [intOf]; omega)
          ·have c8 : decide (x ≤ 1114111) = false := decide_eq_false hl
           have HL8 := Aside0.mk hl
           clear hl
           go_wp2
           go_quiet (fail)
           go_wp2
           go_roundw
           case rel => exact ⟨q + 1, by rw [HW4.out], ⟨by have := PQ4.out; omega⟩, ⟨by rw [HQN.out, show insAt out x = out from by unfold insAt; rw [if_neg]; intro hh; have := HL8.out; have := hh.1; omega]; exact HQ.out.move (by repeat (first | (with_reducible first | apply below_alloc | apply pw_below_drewN | apply below_drew1) | exact Below.refl _ _))⟩⟩
           case measure => have := PQ4.out; rw [HW4.out]; simp only [intOf]; omega
        ·have hk : kk = 0 := by have := HK.out; omega
         have c5 : decide (kk > 0) = false := decide_eq_false hk0
         have c7 : (kk == 0) = true := beq_iff_eq.2 hk
         have HIE := Aside0.mk (show insK out x out.length = 0 from by rw [HI.out, hk]; rfl)
         have HKZ := Aside0.mk hk
         clear hk0 HI hk
         go_wp2
         go_quiet (fail)
         by_cases hl : x ≤ 1114111
         ·have c8 : decide (x ≤ 1114111) = true := decide_eq_true hl
          have HIN := Aside0.mk (show insAt out x = out.take kk.toNat ++ [x] ++ out.drop kk.toNat from by unfold insAt; rw [HIE.out, HKZ.out, if_pos ⟨hl, .inl rfl⟩]; rfl)
          clear hl
          go_wp2
          go_quiet (fail)
          go_wp2
          refine gen_wp (fun W' => PtsQ w W' (.slice Ao out.length co) out gg xa xb) (HQ.out.move (by repeat (first | (with_reducible first | apply below_alloc | apply pw_below_drewN | apply below_drew1) | exact Below.refl _ _))) (fun W16 hQ16 => ?_)
          clear hz HQ
          have k0 : (0 : Int) ≤ kk := HK.out.1
          have k1 : kk ≤ (out.length : Int) := HK.out.2
          obtain ⟨i0, hi0, _, hsz, _⟩ := info_parts info3
          have hroom : out.length ≤ co := (Kd.R_reads' hQ16.at_.r).2.1
          have hcut1 := cut_to (P := Try.prog) 22 3 .i64 Try.underlying22 hi0 Ao out.length co kk k0 k1 hroom
          have hcut2 := cut_from (P := Try.prog) 22 3 .i64 Try.underlying22 hi0 1 hsz Ao out.length co kk k0 k1
          obtain ⟨A2, hA2⟩ : ∃ A1, A1 = (if co = kk.toNat then Ao else Ao.map (·.add (kk.toNat * 1))) := ⟨_, rfl⟩
          obtain ⟨c2, hc2⟩ : ∃ c1, c1 = co - kk.toNat := ⟨_, rfl⟩
          rw [← hA2, ← hc2] at hcut2
          have HQ16 := Aside0.mk hQ16
          have HA2 := Aside0.mk hA2
          have HROOM := Aside0.mk (And.intro hroom (And.intro hc2 hsz))
          replace k0 := eq_true k0
          replace k1 := eq_true k1
          clear hA2 hc2 hroom hsz hi0
          have hz := hQ16.cell q PQ4.out.1 PQ4.out.2
          rw [HLX.out] at hz
          clear hQ16
          have HZ := Aside0.mk hz
          have HLE := Aside0.mk (show kk.toNat ≤ out.length from by have := HK.out; omega)
          go_region_held3 (fun w' => w'.cell? ⟨gg, q.toNat, none⟩ = some (.int .i64 x)) (go_keep) (first | (refine Kd.R_append_rows_step (Kd.int .i64) (w0 := W16) W16.heap.size (by rfl) (.tmp 86) (.tmp 89) 22 3 (.int .i64 0) 8 rfl Try.underlying22 info3 rfl (by decide) (by omega) _ [] (out.take kk.toNat) _ _ _ (fun k => k ≠ W16.heap.size + 1) (fun _ => False) rfl rfl (nil_R (g := W16.heap.size) (by omega) (Nat.le_refl _) (hp2 _ _ _)) (HQ16.out.takeC (by repeat (first | (with_reducible first | apply below_alloc | apply pw_below_drewN | apply below_drew1) | exact Below.refl _ _)) HLE.out) (fun _ _ h => h) (fun _ h => h.elim) (fun k hk => by simp at hk; omega) (by repeat (first | (with_reducible first | apply below_alloc | apply pw_below_drewN | apply below_drew1) | exact Below.refl _ _)) (Below.size (by repeat (first | (with_reducible first | apply below_alloc | apply pw_below_drewN | apply below_drew1) | exact Below.refl _ _))) (by have := HOQ.out; have := HLE.out; simp only [List.length_append, List.length_take, List.length_singleton, List.length_nil]; omega) ?_; intro v1 w1 ho1 hb1 hg1 hat1; have hc1 := (hb1.cell (World.block_lt_of_cell? _ _ HZ.out)).trans HZ.out; have hx1 := blk_grown (hp3 W16 _ _) hg1 (show some (W16.heap.size + 1) ≠ some W16.heap.size from by simp); skip) | (refine Kd.R_append_rows_step (Kd.int .i64) (w0 := W16) W16.heap.size (by rfl) (.tmp 86) (.tmp 89) 22 3 (.int .i64 0) 8 rfl Try.underlying22 info3 rfl (by decide) (by omega) _ [] (out.take kk.toNat) _ _ _ (fun k => k ≠ W16.heap.size) (fun _ => False) rfl rfl (nil_R (g := W16.heap.size + 1) (by omega) (Nat.le_succ _) (hp3 _ _ _)) (HQ16.out.takeC (by repeat (first | (with_reducible first | apply below_alloc | apply pw_below_drewN | apply below_drew1) | exact Below.refl _ _)) HLE.out) (fun _ _ h => h) (fun _ h => h.elim) (fun k hk => by simp at hk; omega) (by repeat (first | (with_reducible first | apply below_alloc | apply pw_below_drewN | apply below_drew1) | exact Below.refl _ _)) (Below.size (by repeat (first | (with_reducible first | apply below_alloc | apply pw_below_drewN | apply below_drew1) | exact Below.refl _ _))) (by have := HOQ.out; have := HLE.out; simp only [List.length_append, List.length_take, List.length_singleton, List.length_nil]; omega) ?_; intro v1 w1 ho1 hb1 hg1 hat1; have hc1 := (hb1.cell (World.block_lt_of_cell? _ _ HZ.out)).trans HZ.out; have hx1 := blk_grown (hp2 W16 _ _) hg1 (show some W16.heap.size ≠ some (W16.heap.size + 1) from by simp); skip) | (refine Kd.R_append_rows_step (Kd.int .i64) (w0 := W16) W16.heap.size (by rfl) (.tmp 86) (.tmp 89) 22 3 (.int .i64 0) 8 rfl Try.underlying22 info3 rfl (by decide) (by omega) _ [] (out.take kk.toNat) _ _ _ (fun _ => True) (fun _ => False) rfl rfl (nil_R (g := W16.heap.size) trivial (Nat.le_refl _) (heap_alloc_new W16 _)) (HQ16.out.takeC (by repeat (first | (with_reducible first | apply below_alloc | apply pw_below_drewN | apply below_drew1) | exact Below.refl _ _)) HLE.out) (fun _ _ h => h) (fun _ h => h.elim) (fun _ _ => trivial) (by repeat (first | (with_reducible first | apply below_alloc | apply pw_below_drewN | apply below_drew1) | exact Below.refl _ _)) (Below.size (by repeat (first | (with_reducible first | apply below_alloc | apply pw_below_drewN | apply below_drew1) | exact Below.refl _ _))) (by have := HOQ.out; have := HLE.out; simp only [List.length_append, List.length_take, List.length_singleton, List.length_nil]; omega) ?_; intro v1 w1 ho1 hb1 hg1 hat1; have hc1 := (hb1.cell (World.block_lt_of_cell? _ _ HZ.out)).trans HZ.out; skip) | (refine Kd.R_append_rows_step (Kd.int .i64) (w0 := W16) W16.heap.size (by rfl) (.tmp 90) (.tmp 95) 22 3 (.int .i64 0) 8 rfl Try.underlying22 info3 rfl (by decide) (by omega) _ (out.take kk.toNat) [x] _ _ _ (fun _ => True) (fun _ => False) rfl rfl (by first | exact Kd.R_mono ho1 (fun _ _ => trivial) | exact Kd.R_alloc (Kd.R_mono ho1 (fun _ _ => trivial)) _) (by first | exact one_C (heap_alloc_new _ _) | exact one_C hx1) (fun _ _ h => h) (fun _ h => h.elim) (fun _ _ => trivial) (by first | exact hb1 | exact below_alloc hb1 _) (Below.size (by first | exact hb1 | exact below_alloc hb1 _)) (by have := HOQ.out; have := HLE.out; simp only [List.length_append, List.length_take, List.length_singleton, List.length_nil]; omega) ?_; intro v2 w2 ho2 hb2 hg2 hat2; have hc2 := (hb2.cell (World.block_lt_of_cell? _ _ HZ.out)).trans HZ.out; skip) | (refine Kd.R_append_rows_step (Kd.int .i64) (w0 := W16) W16.heap.size (by rfl) (.tmp 96) (.tmp 99) 22 3 (.int .i64 0) 8 rfl Try.underlying22 info3 rfl (by decide) (by omega) _ (out.take kk.toNat ++ [x]) (out.drop kk.toNat) _ _ _ (fun _ => True) (fun _ => False) rfl rfl ho2 (by rw [HA2.out]; exact HQ16.out.dropC hb2 HLE.out) (fun _ _ h => h) (fun _ h => h.elim) (fun _ _ => trivial) hb2 (Below.size hb2) (by have := HOQ.out; have := HLE.out; simp only [List.length_append, List.length_take, List.length_singleton, List.length_nil]; omega) ?_; intro v3 w3 ho3 hb3 hg3 hat3; have hc3 := (hb3.cell (World.block_lt_of_cell? _ _ HZ.out)).trans HZ.out; skip))
          all_goals (
           have HN3 := Aside0.mk (HQ16.out.next hb3 ho3)
           clear hb1 hb2 hb3 ho1 ho2 ho3 hg1 hg2 hg3 hat1 hat2 hat3 hc1 hc2 hc3
           go_wp2
           go_roundw
           case rel => exact ⟨q + 1, by rw [HW4.out], ⟨by have := PQ4.out; omega⟩, ⟨by rw [HQN.out, HIN.out]; exact HN3.out.move (by repeat (first | (with_reducible first | apply below_alloc | apply pw_below_drewN | apply below_drew1) | exact Below.refl _ _))⟩⟩
           case measure => have := PQ4.out; rw [HW4.out]; simp only [intOf]; omega)
         ·have c8 : decide (x ≤ 1114111) = false := decide_eq_false hl
          have HL8 := Aside0.mk hl
          clear hl
          go_wp2
          go_quiet (fail)
          go_wp2
          go_roundw
          case rel => exact ⟨q + 1, by rw [HW4.out], ⟨by have := PQ4.out; omega⟩, ⟨by rw [HQN.out, show insAt out x = out from by unfold insAt; rw [if_neg]; intro hh; have := HL8.out; have := hh.1; omega]; exact HQ.out.move (by repeat (first | (with_reducible first | apply below_alloc | apply pw_below_drewN | apply below_drew1) | exact Below.refl _ _))⟩⟩
          case measure => have := PQ4.out; rw [HW4.out]; simp only [intOf]; omega
      ·have hk : q = 2 := by have := HK.out; omega
       subst hk
       have c4b : decide ((2 : Int) < 2) = false := by decide
       clear hlt
       go_wp2
       go_roundw
       case rel => exact ⟨j + 1, by rw [HW3.out], ⟨by have := PJ.out; omega⟩, ⟨by rw [HRJ.out]; exact HQ.out.at_.move (by repeat (first | (with_reducible first | apply below_alloc | apply pw_below_drewN | apply below_drew1) | exact Below.refl _ _))⟩⟩
       case measure => have := PJ.out; rw [HW3.out]; simp only [intOf]; omega
    ·have c2b : decide (j < ((rd_L2 l0 i).length : Int)) = false := decide_eq_false hlt
     have HJ := Aside0.mk (show (rd_L2 l0 i).take j.toNat = rd_L2 l0 i from List.take_of_length_le (by omega))
     clear hlt
     go_wp2
     go_roundw
     case rel => exact ⟨i + 1, by rw [HW2.out], ⟨by have := PQ.out; omega⟩, ⟨by rw [HS.out]; rw [HJ.out] at HP; exact HP.out.move (by repeat (first | (with_reducible first | apply below_alloc | apply pw_below_drewN | apply below_drew1) | exact Below.refl _ _))⟩⟩
     case measure => have := PQ.out; rw [HW2.out]; simp only [intOf]; omega
  ·have c1b : decide (i < (l0.length : Int)) = false := decide_eq_false hlt
   have HJ := Aside0.mk (show l0.take i.toNat = l0 from List.take_of_length_le (by have := HK.out; omega))
   clear hlt
   rw [HJ.out] at HP
   go_wp2
   go_ret
   refine ⟨_, rfl, (HP.out.move (by repeat (first | (with_reducible first | apply below_alloc | apply pw_below_drewN | apply below_drew1) | exact Below.refl _ _))).r, (HP.out.move (by repeat (first | (with_reducible first | apply below_alloc | apply pw_below_drewN | apply below_drew1) | exact Below.refl _ _))).below⟩

/-! ### hyphenref4_key: function 30 -/
def hyphenref4_key.l0 : Nat → List (List (S44)) → Int → Int → Int → Option (Int)
 | 0, _, _, _, _ => none
 | k + 1, x0, x1, x5, x6 => if x6 < (x0.length : Int) then (if 0 ≤ x6 then ((hyphenref3_Has.f k (rd_L2 x0 x6) x1).bind fun t492 => (if t492 = true then (hyphenref4_key.l0 k x0 x1 (wrap64 ((wrap64 (2 * x5)) + 1)) (wrap64 (x6 + 1))) else (hyphenref4_key.l0 k x0 x1 (wrap64 (2 * x5)) (wrap64 (x6 + 1))))) else (none)) else (some x5)
def hyphenref4_key.f (k : Nat) (l0 : List (List (S44))) (a1 : Int) : Option (Int) := hyphenref4_key.l0 k l0 a1 0 0
theorem hyphenref4_key.mono_l : ∀ k, (∀ y0 y1 y2 y3, LeO (hyphenref4_key.l0 k y0 y1 y2 y3) (hyphenref4_key.l0 (k + 1) y0 y1 y2 y3))
 | 0 => fun _ _ _ _ r h => by simp [hyphenref4_key.l0] at h
 | k + 1 => by
  have ih0 := hyphenref4_key.mono_l k
  ·intro y0 y1 y2 y3
   unfold hyphenref4_key.l0
   repeat' first
   | (with_reducible exact ih0 _ _ _ _)
   | (with_reducible exact hyphenref3_Has.mono _ _ _)
   | (with_reducible exact LeO.refl _)
   | (with_reducible exact LeO.none _)
   | (with_reducible refine LeO.ite ?_ ?_)
   | (with_reducible refine LeO.bind ?_ (fun _ => ?_))
   | exact ih0 _ _ _ _
   | exact hyphenref3_Has.mono _ _ _
   | exact LeO.none _
   | refine LeO.ite ?_ ?_
   | refine LeO.bind ?_ (fun _ => ?_)
theorem hyphenref4_key.mono : ∀ a0 a1 k, LeO (hyphenref4_key.f k a0 a1) (hyphenref4_key.f (k + 1) a0 a1) := by
 intro a0 a1 k
 have ih0 := hyphenref4_key.mono_l k
 unfold hyphenref4_key.f
 repeat' first
   | (with_reducible exact ih0 _ _ _ _)
   | (with_reducible exact hyphenref3_Has.mono _ _ _)
   | (with_reducible exact LeO.refl _)
   | (with_reducible exact LeO.none _)
   | (with_reducible refine LeO.ite ?_ ?_)
   | (with_reducible refine LeO.bind ?_ (fun _ => ?_))
   | exact ih0 _ _ _ _
   | exact hyphenref3_Has.mono _ _ _
   | exact LeO.none _
   | refine LeO.ite ?_ ?_
   | refine LeO.bind ?_ (fun _ => ?_)
set_option maxHeartbeats 8000000 in
set_option maxRecDepth 100000 in
theorem hyphenref4_key.calls (k : Nat) (A0 : Option Addr) (c0 : Nat) (l0 : List (List (S44))) (a1 : Int) (r : Int) (w : World) (hr0 : Kd.C (Kd.slice 44 k44) w A0 l0.length l0) (hc0 : l0.length ≤ c0) (h : hyphenref4_key.f k l0 a1 = some r) :
  Calls Try.prog 30 #[.slice A0 l0.length c0, .int .i64 a1] w fun e w' => e = .returned (.int .i64 r) ∧ Drawn0 w w' := by
 have HR0 := Aside0.mk hr0
 have HC0 := Aside0.mk hc0
 clear hr0 hc0
 have H : (hyphenref4_key.l0 k l0 a1 0 0) = some r := h
 clear h
 have H' := Aside0.mk H
 clear H
 go_enter Try.func30, Try.ntmps30
 go_wp2
 go_loopg [5, 6] k (fun kq v5 v6 w' => ∃ (x5_1 : Int) (x6_1 : Int), v5 = .int .i64 x5_1 ∧ v6 = .int .i64 x6_1 ∧ Aside0 (hyphenref4_key.l0 kq l0 a1 x5_1 x6_1 = some r) ∧ Aside0 (kq ≤ k) ∧ Drawn0 w w')
 case atStart => exact ⟨(0), (0), (by first | rfl | (simp; done) | (simp [*]; done)), (by first | rfl | (simp; done) | (simp [*]; done)), H', ⟨Nat.le_refl _⟩, by repeat (first | exact Drawn0.refl _ | apply Drawn0.step)⟩
 case round =>
  clear H'
  try clear p2
  obtain ⟨x5_1, x6_1, rfl, rfl, HA, HK1, ⟨m1, rfl⟩⟩ := hrel
  cases gk with
  | zero => exact absurd HA.out (by simp [hyphenref4_key.l0])
  | succ k1 =>
   have H := HA.out
   clear HA
   simp only [hyphenref4_key.l0] at H
   by_cases c3 : x6_1 < (l0.length : Int)
   ·rw [if_pos c3] at H
    have c3b0 : decide (x6_1 < (l0.length : Int)) = true := decide_eq_true c3
    clear c3
    by_cases c4 : 0 ≤ x6_1
    ·rw [if_pos c4] at H
     have c4b0 : decide (0 ≤ x6_1) = true := decide_eq_true c4
     clear c4
     replace H := Option.bind_eq_some_iff.mp H
     obtain ⟨t492, A50, H⟩ := H
     replace H : (if t492 = true then (hyphenref4_key.l0 k1 l0 a1 (wrap64 ((wrap64 (2 * x5_1)) + 1)) (wrap64 (x6_1 + 1))) else (hyphenref4_key.l0 k1 l0 a1 (wrap64 (2 * x5_1)) (wrap64 (x6_1 + 1)))) = some r := H
     have A5 := Aside0.mk A50
     clear A50
     by_cases c6 : t492 = true
     ·subst c6
      have H1 : (hyphenref4_key.l0 k1 l0 a1 (wrap64 ((wrap64 (2 * x5_1)) + 1)) (wrap64 (x6_1 + 1))) = some r := by rw [if_pos rfl] at H; exact H
      clear H
      have H := H1
      clear H1
      have H' := Aside0.mk H
      clear H
      have p491 : 0 ≤ (x6_1 : Int) := of_decide_eq_true (by first | (with_reducible assumption) | assumption)
      have q491 : x6_1 < (l0.length : Int) := of_decide_eq_true (by first | (with_reducible assumption) | assumption)
      obtain ⟨ad491, A491_0, c491_0, e491, hx491_0, hl491_0, hi491_0⟩ := at_L2 HR0.out x6_1 p491 q491
      cases e491
      have HR491_0 := Aside0.mk hi491_0
      have HC491_0 := Aside0.mk hl491_0
      clear hi491_0 hl491_0
      replace p491 := eq_true p491
      replace q491 := eq_true q491
      go_wp2_with (first | ((with_reducible refine gate_callee (f := 23) rfl ?_); refine goesL_ (some 20) rfl rfl Try.func23 (by kernel_rfl) rfl #[.slice A491_0 (rd_L2 l0 x6_1).length c491_0, .int .i64 a1] rfl (by (try simp only [List.map_toArray, List.map_cons, List.map_nil]); first | done | rfl | (simp only [List.length_drop, List.length_take]; rfl)) ?_; (with_reducible refine (hyphenref3_Has.calls k1 _ _ (rd_L2 l0 x6_1) a1 true _ ?side1 ?side2 A5.out).mono ?_); (case side1 => repeat (first | exact HR491_0.out | (with_reducible refine Kd.C_alloc ?_ _) | (with_reducible refine Kd.C_drewN ?_ _) | (with_reducible refine Kd.C_drew ?_))); (case side2 => exact HC491_0.out); rintro e w' ⟨rfl, ⟨nd, rfl⟩⟩; refine ⟨_, rfl, ?_⟩))
      go_roundg k1
      case measure => have := HK1.out; omega
      case rel => exact ⟨(wrap64 ((wrap64 (2 * x5_1)) + 1)), (wrap64 (x6_1 + 1)), (by first | rfl | (simp; done) | (simp [*]; done)), (by first | rfl | (simp; done) | (simp [*]; done)), H', ⟨by have := HK1.out; omega⟩, by repeat (first | exact Drawn0.refl _ | apply Drawn0.step)⟩
     ·replace c6 := Bool.eq_false_iff.mpr c6
      subst c6
      have H1 : (hyphenref4_key.l0 k1 l0 a1 (wrap64 (2 * x5_1)) (wrap64 (x6_1 + 1))) = some r := by rw [if_neg (show ¬ (false = true) by decide)] at H; exact H
      clear H
      have H := H1
      clear H1
      have H' := Aside0.mk H
      clear H
      have p491 : 0 ≤ (x6_1 : Int) := of_decide_eq_true (by first | (with_reducible assumption) | assumption)
      have q491 : x6_1 < (l0.length : Int) := of_decide_eq_true (by first | (with_reducible assumption) | assumption)
      obtain ⟨ad491, A491_0, c491_0, e491, hx491_0, hl491_0, hi491_0⟩ := at_L2 HR0.out x6_1 p491 q491
      cases e491
      have HR491_0 := Aside0.mk hi491_0
      have HC491_0 := Aside0.mk hl491_0
      clear hi491_0 hl491_0
      replace p491 := eq_true p491
      replace q491 := eq_true q491
      go_wp2_with (first | ((with_reducible refine gate_callee (f := 23) rfl ?_); refine goesL_ (some 20) rfl rfl Try.func23 (by kernel_rfl) rfl #[.slice A491_0 (rd_L2 l0 x6_1).length c491_0, .int .i64 a1] rfl (by (try simp only [List.map_toArray, List.map_cons, List.map_nil]); first | done | rfl | (simp only [List.length_drop, List.length_take]; rfl)) ?_; (with_reducible refine (hyphenref3_Has.calls k1 _ _ (rd_L2 l0 x6_1) a1 false _ ?side1 ?side2 A5.out).mono ?_); (case side1 => repeat (first | exact HR491_0.out | (with_reducible refine Kd.C_alloc ?_ _) | (with_reducible refine Kd.C_drewN ?_ _) | (with_reducible refine Kd.C_drew ?_))); (case side2 => exact HC491_0.out); rintro e w' ⟨rfl, ⟨nd, rfl⟩⟩; refine ⟨_, rfl, ?_⟩))
      go_roundg k1
      case measure => have := HK1.out; omega
      case rel => exact ⟨(wrap64 (2 * x5_1)), (wrap64 (x6_1 + 1)), (by first | rfl | (simp; done) | (simp [*]; done)), (by first | rfl | (simp; done) | (simp [*]; done)), H', ⟨by have := HK1.out; omega⟩, by repeat (first | exact Drawn0.refl _ | apply Drawn0.step)⟩
    ·rw [if_neg c4] at H
     exact absurd H (by simp)
   ·rw [if_neg c3] at H
    have c3b0 : decide (x6_1 < (l0.length : Int)) = false := decide_eq_false c3
    clear c3
    obtain rfl := Option.some.inj H
    go_wp2
    go_ret
    exact ⟨by first | rfl | (simp; done) | (simp [*]; done), by repeat (first | exact Drawn0.refl _ | apply Drawn0.step)⟩

end Go.Proofs.Yteogcjckhoakbaa.P
