-- Joined by wip/merge.py (a program of this repo) out of texts of this claim, cut down to what it reaches; Lean checks it.
import Derived.Test.YtnnpfgpfkningaaJ1
import Derived.Test.YtnnpfgpfkningaaJ3
import Derived.Test.YtnnpfgpfkningaaJ8
import Derived.Test.YtnnpfgpfkningaaJ2
import Derived.Test.YtnnpfgpfkningaaJ7
import Derived.Test.YtnnpfgpfkningaaJ6
namespace Go.Proofs.Ytnnpfgpfkningaa.P
open Go.RowKit Go.Proofs.YtnnpfgpfkningaaW.PrintWords Go.Proofs.YtnnpfgpfkningaaW.PrintLast Go.Proofs.YtnnpfgpfkningaaW.PrintMore
attribute [local go_sem] max2_int min2_int max_two min_two max_three min_three max_four min_four   -- for this text's walks alone
attribute [local go_sem ↓ high] Go.Proofs.YtnnpfgpfkningaaX.isSome_setCell
set_option linter.unusedVariables false
set_option linter.unusedSimpArgs false
def wth (a n : Int) : Int := if Int.tmod a n < 0 then Int.tmod a n + n else Int.tmod a n
theorem wth_range (a n : Int) (h0 : 0 < n) : 0 ≤ wth a n ∧ wth a n < n := by
  have h1 := Int.tmod_lt_of_pos a h0
  have h2 : -n < Int.tmod a n := by
    have := Int.lt_tmod_of_pos a h0
    omega
  unfold wth; split <;> omega
/-- What Raw's functions know of their own variables: the raw one, the pattern that is to be. -/
structure RawIn (w W : World) (g2 g4 : Nat) (r : S35) (A : Option Addr) (c : Nat) : Prop where
  b : Below w.heap.size w W
  x : W.heap[g2]? = some (.cells #[.int .i64 r.f0, .int .i64 r.f1, .slice A r.f2.length c] 35 (0, 0))
  r : W.heap[g4]? = some (.cells #[.int .i64 0, .int .i64 0, .int .i64 0, .int .i64 0, .string ⟨#[]⟩, .slice none 0 0] 33 (0, 0))
  h2 : w.heap.size ≤ g2
  h4 : w.heap.size ≤ g4
  ne : g2 ≠ g4
theorem RawIn.below {w W W1 : World} {g2 g4 : Nat} {r : S35} {A : Option Addr} {c : Nat} (h : RawIn w W g2 g4 r A c) (hb : Below W.heap.size W W1) : RawIn w W1 g2 g4 r A c := ⟨h.b.trans (hb.mono h.b.size), blk_below h.x hb, blk_below h.r hb, h.h2, h.h4, h.ne⟩
theorem RawIn.drew {w W : World} {g2 g4 : Nat} {r : S35} {A : Option Addr} {c : Nat} (h : RawIn w W g2 g4 r A c) : RawIn w W.drew g2 g4 r A c := h.below (below_drew (Below.refl _ _))
theorem RawIn.drewN {w W : World} {g2 g4 : Nat} {r : S35} {A : Option Addr} {c : Nat} (h : RawIn w W g2 g4 r A c) (n : Nat) : RawIn w (W.drewN n) g2 g4 r A c := h.below (pw_below_drewN (Below.refl _ _) n)
theorem RawIn.new (w : World) (r : S35) (A : Option Addr) (c : Nat) : RawIn w ((w.alloc (.cells #[.int .i64 r.f0, .int .i64 r.f1, .slice A r.f2.length c] 35)).alloc (.cells #[.int .i64 0, .int .i64 0, .int .i64 0, .int .i64 0, .string ⟨#[]⟩, .slice none 0 0] 33)) w.heap.size (w.heap.size + 1) r A c where
  b := below_alloc (below_alloc (Below.refl _ _) _) _
  x := blk_alloc (heap_alloc_new w _) _
  r := by
    have h := heap_alloc_new (w.alloc (.cells #[.int .i64 r.f0, .int .i64 r.f1, .slice A r.f2.length c] 35)) (.cells #[.int .i64 0, .int .i64 0, .int .i64 0, .int .i64 0, .string ⟨#[]⟩, .slice none 0 0] 33)
    rwa [show (w.alloc (.cells #[.int .i64 r.f0, .int .i64 r.f1, .slice A r.f2.length c] 35)).heap.size = w.heap.size + 1 from Array.size_push _] at h
  h2 := Nat.le_refl _
  h4 := Nat.le_succ _
  ne := by omega
theorem RawIn.S {w W : World} {g2 g4 : Nat} {r : S35} {A : Option Addr} {c : Nat} (h : RawIn w W g2 g4 r A c) : W.cell? ⟨g2, 0, none⟩ = some (.int .i64 r.f0) ∧ W.cell? ⟨g2, 1, none⟩ = some (.int .i64 r.f1) ∧ W.cell? ⟨g2, 2, none⟩ = some (.slice A r.f2.length c) := ⟨cellAt h.x rfl, cellAt h.x rfl, cellAt h.x rfl⟩
theorem set6_blk {W : World} {g4 : Nat} {v0 v1 v2 v3 v4 v5 u0 u1 u2 u3 u4 u5 : Value} (h : W.heap[g4]? = some (.cells #[u0, u1, u2, u3, u4, u5] 33 (0, 0))) : ((((((W.setCell ⟨g4, 0, none⟩ v0).setCell ⟨g4, 1, none⟩ v1).setCell ⟨g4, 2, none⟩ v2).setCell ⟨g4, 3, none⟩ v3).setCell ⟨g4, 4, none⟩ v4).setCell ⟨g4, 5, none⟩ v5).heap[g4]? = some (.cells #[v0, v1, v2, v3, v4, v5] 33 (0, 0)) :=
  blk_put (blk_put (blk_put (blk_put (blk_put (blk_put h 0 v0 rfl) 1 v1 rfl) 2 v2 rfl) 3 v3 rfl) 4 v4 rfl) 5 v5 rfl
theorem set1g {V W : World} {T : Nat} (h : V.grownBy W (some T)) (i : Nat) (v : Value) : V.grownBy (W.setCell ⟨T, i, none⟩ v) (some T) := ⟨h.os, h.tape, h.output, Nat.le_trans h.size (Nat.le_of_eq (by simp [World.setCell])), fun k hk hn => by
  rw [RowKit.Below.heap_setCell _ _ _ _ (show k ≠ T from fun e => hn (by rw [e]))]; exact h.block k hk hn⟩
theorem set6_grown (W : World) (g4 : Nat) (v0 v1 v2 v3 v4 v5 : Value) : W.grownBy ((((((W.setCell ⟨g4, 0, none⟩ v0).setCell ⟨g4, 1, none⟩ v1).setCell ⟨g4, 2, none⟩ v2).setCell ⟨g4, 3, none⟩ v3).setCell ⟨g4, 4, none⟩ v4).setCell ⟨g4, 5, none⟩ v5) (some g4) :=
  set1g (set1g (set1g (set1g (set1g (set1g ⟨rfl, rfl, rfl, Nat.le_refl _, fun _ _ _ => rfl⟩ _ _) _ _) _ _) _ _) _ _) _ _
theorem lit1_C {W : World} {g : Nat} {x : S33} {A : Option Addr} {c : Nat} (h : W.heap[g]? = some (.cells #[.int .i64 x.f0, .int .i64 x.f1, .int .i64 x.f2, .int .i64 x.f3, .string x.f4, .slice A x.f5.length c] 33 (0, 0))) (hx : x.f5.length ≤ c) (hC : Kd.C k33 W A x.f5.length x.f5) : Kd.C k33 W (some ⟨g, 0, none⟩) 1 [x] :=
  ⟨rfl, by decide, fun _ => ⟨_, rfl, fun j p hj => by
    obtain rfl : j = 0 := by have := (List.getElem?_eq_some_iff.1 hj).1; simp at this; omega
    obtain rfl : x = p := by simpa using hj
    refine ⟨_, rfl, k33_mk W x hx hC, fun i u hu => ?_⟩
    rw [add_plain]
    show W.cell? ⟨g, 0 * 6 + i, none⟩ = some u
    exact (blk_cell h (0 * 6 + i)).trans (by simpa using hu)⟩⟩
theorem lit2_C {W : World} {g : Nat} {x y : S33} {A B : Option Addr} {c d : Nat} (h : W.heap[g]? = some (.cells #[.int .i64 x.f0, .int .i64 x.f1, .int .i64 x.f2, .int .i64 x.f3, .string x.f4, .slice A x.f5.length c, .int .i64 y.f0, .int .i64 y.f1, .int .i64 y.f2, .int .i64 y.f3, .string y.f4, .slice B y.f5.length d] 33 (0, 0)))
    (hx : x.f5.length ≤ c) (hC : Kd.C k33 W A x.f5.length x.f5) (hy : y.f5.length ≤ d) (hD : Kd.C k33 W B y.f5.length y.f5) : Kd.C k33 W (some ⟨g, 0, none⟩) 2 [x, y] :=
  ⟨rfl, by decide, fun _ => ⟨_, rfl, fun j p hj => by
    have hj2 : j = 0 ∨ j = 1 := by have := (List.getElem?_eq_some_iff.1 hj).1; simp at this; omega
    rcases hj2 with rfl | rfl
    · obtain rfl : x = p := by simpa using hj
      refine ⟨_, rfl, k33_mk W x hx hC, fun i u hu => ?_⟩
      rw [add_plain]
      have hi : i < 6 := by have := (List.getElem?_eq_some_iff.1 hu).1; simpa using this
      show W.cell? ⟨g, 0 * 6 + i, none⟩ = some u
      refine (blk_cell h (0 * 6 + i)).trans ?_
      rw [← hu]
      have : i = 0 ∨ i = 1 ∨ i = 2 ∨ i = 3 ∨ i = 4 ∨ i = 5 := by omega
      rcases this with rfl | rfl | rfl | rfl | rfl | rfl <;> rfl
    · obtain rfl : y = p := by simpa using hj
      refine ⟨_, rfl, k33_mk W y hy hD, fun i u hu => ?_⟩
      rw [add_plain]
      have hi : i < 6 := by have := (List.getElem?_eq_some_iff.1 hu).1; simpa using this
      show W.cell? ⟨g, 1 * 6 + i, none⟩ = some u
      refine (blk_cell h (1 * 6 + i)).trans ?_
      rw [← hu]
      have : i = 0 ∨ i = 1 ∨ i = 2 ∨ i = 3 ∨ i = 4 ∨ i = 5 := by omega
      rcases this with rfl | rfl | rfl | rfl | rfl | rfl <;> rfl⟩⟩
theorem lit1_F {W : World} {ok : Nat → Prop} {g : Nat} {x : S33} {A : Option Addr} {c : Nat} (h : W.heap[g]? = some (.cells #[.int .i64 x.f0, .int .i64 x.f1, .int .i64 x.f2, .int .i64 x.f3, .string x.f4, .slice A x.f5.length c] 33 (0, 0))) (hok : ok g) (hx : x.f5.length ≤ c) (hF : Kd.F k33 W ok A x.f5.length x.f5) : Kd.F k33 W ok (some ⟨g, 0, none⟩) 1 [x] :=
  fun W' hW => lit1_C ((hW g hok (blk_lt h)).trans h) hx (hF W' hW)
end Go.Proofs.Ytnnpfgpfkningaa.P
namespace Go.Proofs.Ytnnpfgpfkningaa.P
open Go.RowKit Go.Proofs.YtnnpfgpfkningaaW.PrintWords Go.Proofs.YtnnpfgpfkningaaW.PrintLast Go.Proofs.YtnnpfgpfkningaaW.PrintMore
attribute [local go_sem] max2_int min2_int max_two min_two max_three min_three max_four min_four   -- for this text's walks alone
attribute [local go_sem ↓ high] Go.Proofs.YtnnpfgpfkningaaX.isSome_setCell
set_option linter.unusedVariables false
set_option linter.unusedSimpArgs false
def knX : List S33 := [⟨3, 0, 0, 0, ⟨#[]⟩, []⟩, ⟨2, 0, 0, 0, ⟨#[118]⟩, []⟩]
def knSet : List Int := [-1, 1]
def knFst : List Int := [0, 1152921504606846976]
theorem text_C {W : World} {g : Nat} {a b : Int} (h : W.heap[g]? = some (.cells #[.int .i64 a, .int .i64 b] 3 (0, 0))) : Kd.C (Kd.int .i64) W (some ⟨g, 0, none⟩) [a, b].length [a, b] :=
  (Kd.R_reads' (intR_mk (e := 3) (base := 0) (cap := 2) (ok := fun _ => True) (l := [a, b]) trivial (Nat.zero_le _) h (by simp) (by decide) (by simp) (by rfl))).2.2
set_option maxRecDepth 100000 in
set_option maxHeartbeats 8000000 in
theorem known_calls (kd km kz kc : Nat) (D : List S61) (r3 : List Int) (x4 : S51) (hD : hyphenlaw5_Defs.f kd [] = some D) (hM : side_MakeP.f km 4 0 0 0 ⟨#[]⟩ knX D [] = some (knSet, knFst, r3, [x4], 1152921504606846976, true)) (hz : side_Size.f kz 1 0 0 0 ⟨#[]⟩ [] = some 0) (hc : costF kc knSet knFst r3 [x4] 1152921504606846976 D [] [120, 97] 0 2 = some 0) (w : World) :
    Calls Try.prog 10 #[] w fun e w' => e = .returned (.bool true) ∧ Below w.heap.size w w' := by
  have HD := Aside0.mk hD
  have HM := Aside0.mk hM
  have HZ := Aside0.mk hz
  have HC := Aside0.mk hc
  clear hD hM hz hc
  go_enter Try.func10, Try.ntmps10
  go_wp2_with (first | (go_at_call 12; refine (hyphenlaw5_Defs.calls kd none 0 [] D _ (Kd.C_nil _ _) (Nat.le_refl _) HD.out).mono ?_; rintro e w2 ⟨v, rfl, hn, hb⟩; obtain ⟨Ad, cd, rfl⟩ := Kd.N_slice hn; have HN := Aside0.mk (Kd.N_reads' hn).2; have HB2 := Aside0.mk hb; clear hn hb) | (go_at_call 14; obtain ⟨Wm, hWm⟩ : ∃ Wm, World.alloc (World.alloc w2 (.cells #[.slice Ad D.length cd, .slice none 0 0] 30)) (.cells #[.int .i64 3, .int .i64 0, .int .i64 0, .int .i64 0, .string ⟨#[]⟩, .slice none 0 0, .int .i64 2, .int .i64 0, .int .i64 0, .int .i64 0, .string ⟨#[118]⟩, .slice none 0 0] 33) = Wm := ⟨_, rfl⟩; rw [hWm]; have hbm : Below w2.heap.size w2 Wm := hWm ▸ below_alloc (below_alloc (Below.refl _ _) _) _; have hfm : Wm.heap[w2.heap.size]? = some (.cells #[.slice Ad D.length cd, .slice none 0 0] 30 (0, 0)) := hWm ▸ blk_alloc (heap_alloc_new w2 _) _; have hlm := heap_alloc_new (World.alloc w2 (.cells #[.slice Ad D.length cd, .slice none 0 0] 30)) (.cells #[.int .i64 3, .int .i64 0, .int .i64 0, .int .i64 0, .string ⟨#[]⟩, .slice none 0 0, .int .i64 2, .int .i64 0, .int .i64 0, .int .i64 0, .string ⟨#[118]⟩, .slice none 0 0] 33); rw [hWm, size_alloc] at hlm; have HBM := Aside0.mk hbm; have HFM := Aside0.mk hfm; refine (side_MakeP.calls km 4 0 0 0 ⟨#[]⟩ (some ⟨w2.heap.size + 1, 0, none⟩) 2 knX Ad cd D none 0 [] knSet knFst r3 [x4] 1152921504606846976 true Wm (lit2_C (x := ⟨3, 0, 0, 0, ⟨#[]⟩, []⟩) (y := ⟨2, 0, 0, 0, ⟨#[118]⟩, []⟩) hlm (Nat.le_refl _) (Kd.C_nil _ _) (Nat.le_refl _) (Kd.C_nil _ _)) (Nat.le_refl _) (Kd.C_below HN.out.2 hbm) HN.out.1 (Kd.C_nil _ _) (Nat.le_refl _) HM.out).mono ?_; clear hWm hbm hfm hlm; rintro e w3 ⟨v0, v1, v2, v3, rfl, q0, q1, q2, q3, hb3⟩; obtain ⟨g0, cp0, rfl, _, _, _⟩ := Kd.R_form q0 (by decide); obtain ⟨g1, cp1, rfl, _, _, _⟩ := Kd.R_form q1 (by decide); obtain ⟨A2, c2, rfl⟩ := Kd.R_slice q2; obtain ⟨A3, c3, rfl⟩ := Kd.R_slice q3; have HQ0 := Aside0.mk q0; have HQ1 := Aside0.mk q1; have HQ2 := Aside0.mk q2; have HQ3 := Aside0.mk q3; have HB3 := Aside0.mk hb3; clear q0 q1 q2 q3 hb3) | (go_at_call 17; refine (side_Size.calls kz 1 0 0 0 ⟨#[]⟩ none 0 [] 0 _ (Kd.C_nil _ _) (Nat.le_refl _) HZ.out).mono ?_; rintro e w5 ⟨rfl, hb5⟩; have hs5 := blk_below (heap_alloc_new w3 (.cells #[.slice (some ⟨g0, 0, none⟩) knSet.length cp0, .slice (some ⟨g1, 0, none⟩) knFst.length cp1, .slice A2 r3.length c2, .slice A3 [x4].length c3, .int .i64 1152921504606846976] 39)) hb5; have hbs : Below w3.heap.size w3 w5 := below_step (below_alloc (Below.refl _ _) _) hb5; have hf5 := blk_below (blk_below HFM.out HB3.out) hbs; have d0 := cellAt (i := 0) (u := .slice (some ⟨g0, 0, none⟩) knSet.length cp0) hs5 rfl; have d1 := cellAt (i := 1) (u := .slice (some ⟨g1, 0, none⟩) knFst.length cp1) hs5 rfl; have d2 := cellAt (i := 2) (u := .slice A2 r3.length c2) hs5 rfl; have d3 := cellAt (i := 3) (u := .slice A3 [x4].length c3) hs5 rfl; have d4 := cellAt (i := 4) (u := .int .i64 1152921504606846976) hs5 rfl; have f0 := cellAt (i := 0) (u := .slice Ad D.length cd) hf5 rfl; have f1 := cellAt (i := 1) (u := .slice none 0 0) hf5 rfl; have a0 : w5.cell? ⟨g0, 0, none⟩ = some (.int .i64 (-1)) := (Kd.R_celln 0 (Kd.R_below HQ0.out hbs) 0 (by decide) (by decide)).1; have a1 : w5.cell? ⟨g0, 1, none⟩ = some (.int .i64 1) := (Kd.R_celln 0 (Kd.R_below HQ0.out hbs) 1 (by decide) (by decide)).1; have b0 : w5.cell? ⟨g1, 0, none⟩ = some (.int .i64 0) := (Kd.R_celln 0 (Kd.R_below HQ1.out hbs) 0 (by decide) (by decide)).1; have b1 : w5.cell? ⟨g1, 1, none⟩ = some (.int .i64 1152921504606846976) := (Kd.R_celln 0 (Kd.R_below HQ1.out hbs) 1 (by decide) (by decide)).1; have HBS := Aside0.mk hbs; clear hb5 hs5 hf5 hbs; have hl2 : [x4].length = 1 := rfl; have hl0 : knSet.length = 2 := rfl; have hl1 : knFst.length = 2 := rfl) | (go_at_call 23; have hbt : Below w5.heap.size w5 (World.alloc w5 (.cells #[.int .i64 120, .int .i64 97] 3)) := below_alloc (Below.refl _ _) _; have hbu := below_step HBS.out hbt; refine (cost_calls kc (some ⟨g0, 0, none⟩) cp0 knSet (some ⟨g1, 0, none⟩) cp1 knFst A2 c2 r3 A3 c3 [x4] 1152921504606846976 Ad cd D none 0 [] (some ⟨w5.heap.size, 0, none⟩) 2 [120, 97] 0 2 0 _ (Kd.C_below (Kd.R_reads' HQ0.out).2.2 hbu) (Kd.R_reads' HQ0.out).2.1 (Kd.C_below (Kd.R_reads' HQ1.out).2.2 hbu) (Kd.R_reads' HQ1.out).2.1 (Kd.C_below (Kd.R_reads' HQ2.out).2.2 hbu) (Kd.R_reads' HQ2.out).2.1 (Kd.C_below (Kd.R_reads' HQ3.out).2.2 hbu) (Kd.R_reads' HQ3.out).2.1 (Kd.C_below (Kd.C_below (Kd.C_below HN.out.2 HBM.out) HB3.out) hbu) HN.out.1 (Kd.C_nil _ _) (Nat.le_refl _) (text_C (heap_alloc_new w5 _)) (Nat.le_refl _) HC.out).mono ?_; rintro e w6 ⟨rfl, hb6⟩; have HE := Aside0.mk (below_step (below_step (below_step (below_step HB2.out HBM.out) HB3.out) hbu) hb6); clear hbt hbu hb6))
  go_ret
  exact ⟨rfl, HE.out⟩
end Go.Proofs.Ytnnpfgpfkningaa.P
namespace Go.Proofs.Ytnnpfgpfkningaa.P
open Go.RowKit Go.Proofs.YtnnpfgpfkningaaW.PrintWords Go.Proofs.YtnnpfgpfkningaaW.PrintLast Go.Proofs.YtnnpfgpfkningaaW.PrintMore
attribute [local go_sem] max2_int min2_int max_two min_two max_three min_three max_four min_four   -- for this text's walks alone
attribute [local go_sem ↓ high] Go.Proofs.YtnnpfgpfkningaaX.isSome_setCell
set_option linter.unusedVariables false
set_option linter.unusedSimpArgs false
def insR (a : S111) : List S111 → List S111
  | [] => [a]
  | b :: t => if rangeLe a b = true then a :: b :: t else b :: insR a t
def sortR : List S111 → List S111
  | [] => []
  | a :: t => insR a (sortR t)
theorem insR_perm (a : S111) : ∀ l, (insR a l).Perm (a :: l)
  | [] => .refl _
  | b :: t => by
    unfold insR; split
    · exact .refl _
    · exact ((insR_perm a t).cons b).trans (.swap a b t)
theorem sortR_perm : ∀ l, (sortR l).Perm l
  | [] => .refl _
  | a :: t => (insR_perm a _).trans ((sortR_perm t).cons a)
theorem insR_sorted (a : S111) : ∀ l, l.Pairwise (fun x y => rangeLe x y = true) → (insR a l).Pairwise (fun x y => rangeLe x y = true)
  | [], _ => by simp [insR]
  | b :: t, h => by
    unfold insR
    have h1 := List.pairwise_cons.1 h
    split
    · rename_i hab
      exact List.pairwise_cons.2 ⟨fun x hx => by
        rcases List.mem_cons.1 hx with rfl | hx
        · exact hab
        · have := h1.1 x hx; simp [rangeLe] at *; omega, h⟩
    · rename_i hab
      refine List.pairwise_cons.2 ⟨fun x hx => ?_, insR_sorted a t h1.2⟩
      rcases List.mem_cons.1 ((insR_perm a t).mem_iff.1 hx) with rfl | hx
      · simp [rangeLe] at *; omega
      · exact h1.1 x hx
theorem sortR_sorted : ∀ l, (sortR l).Pairwise (fun x y => rangeLe x y = true)
  | [] => .nil
  | a :: t => insR_sorted a _ (sortR_sorted t)
theorem sort_twin (l : List S111) : l.mergeSort rangeLe = sortR l := by
  have hs := List.pairwise_mergeSort (le := rangeLe) (fun a b c h1 h2 => by simp [rangeLe] at *; omega) (fun a b => by simp [rangeLe]; omega) l
  refine List.Perm.eq_of_pairwise (le := fun x y => rangeLe x y = true) ?_ hs (sortR_sorted l) ((List.mergeSort_perm l rangeLe).trans (sortR_perm l).symm)
  intro a b _ _ h1 h2
  cases a; cases b
  simp [rangeLe] at *
  omega
def normC (k : Nat) (l : List S111) : Option (List S111) := (Clone_Range.f l).bind fun t => (if t.length < 4611686018427387904 then some (sortR t) else none).bind fun s => set_Norm.l0 k [] s (t.length : Int) 0
theorem norm_twin (k : Nat) (l : List S111) : set_Norm.f k l = normC k l := by
  unfold set_Norm.f normC SortFunc_Range.f; simp only [sort_twin]
def notC (k : Nat) (l : List S111) : Option (List S111) := (normC k l).bind fun t => set_Not.l0 k [] 0 t (t.length : Int) 0
theorem not_twin (k : Nat) (l : List S111) : set_Not.f k l = notC k l := by unfold set_Not.f notC; rw [norm_twin]
def orC (k : Nat) (l : List (List S111)) : Option (List S111) := (Concat_Range.f l).bind fun t => (normC k t).bind fun s => some s
theorem or_twin (k : Nat) (l : List (List S111)) : set_Or.f k l = orC k l := by unfold set_Or.f orC; simp only [norm_twin]
def andC (k : Nat) (a b : List S111) : Option (List S111) := (notC k a).bind fun x => (notC k b).bind fun y => (orC k [x, y]).bind fun z => (notC k z).bind fun r => some r
theorem and_twin (k : Nat) (a b : List S111) : set_And.f k a b = andC k a b := by unfold set_And.f andC; simp only [not_twin, or_twin]
def lessC (k : Nat) (a b : List S111) : Option (List S111) := (notC k b).bind fun x => (andC k a x).bind fun y => some y
theorem less_twin (k : Nat) (a b : List S111) : set_Less.f k a b = lessC k a b := by unfold set_Less.f lessC; simp only [not_twin, and_twin]
def ofC (k : Nat) (m : List (List UInt8 × List S111)) : Nat → S58 → Option (List S111)
  | 0, _ => none
  | n + 1, c =>
    if c.f0 = 1 then normC k [⟨c.f1, c.f2⟩]
    else if c.f0 = 2 then if c.f3.size < 1000000 then Clone_Range.f (lkS m c.f3.data.toList) else none
    else if c.f0 = 3 then notC k []
    else if c.f0 = 4 then (ofC k m n (cpart c 0)).bind fun a => notC k a
    else if c.f0 = 5 then (ofC k m n (cpart c 0)).bind fun a => (ofC k m n (cpart c 1)).bind fun b => orC k [a, b]
    else if c.f0 = 6 then (ofC k m n (cpart c 0)).bind fun a => (ofC k m n (cpart c 1)).bind fun b => andC k a b
    else if c.f0 = 7 then (ofC k m n (cpart c 0)).bind fun a => (ofC k m n (cpart c 1)).bind fun b => lessC k a b
    else some []
theorem of_twin (k : Nat) (m : List (List UInt8 × List S111)) : ∀ n c, ofF k m n c = ofC k m n c
  | 0, _ => rfl
  | n + 1, c => by
    have ih := of_twin k m n
    unfold ofF ofC; simp only [ih, norm_twin, not_twin, or_twin, and_twin, less_twin]
def stsQ (k n : Nat) : List S61 → List (List UInt8 × List S111) → List (List S111) → Option (List (List S111))
  | [], _, out => some out
  | d :: ds, m, out => if d.f0.size < 1000000 ∧ m.length < 1000 ∧ out.length < 1000 then (ofC k m n d.f1).bind fun l => (Clone_Range.f l).bind fun l2 => stsQ k n ds (if hasS m d.f0.data.toList = true then m else m ++ [(d.f0.data.toList, l)]) (out ++ [l2]) else none
theorem sets_twin (k n : Nat) : ∀ ds m out, setsL k n ds m out = stsQ k n ds m out
  | [], _, _ => rfl
  | d :: ds, m, out => by
    unfold setsL stsQ; simp only [of_twin, sets_twin k n ds]
def setsPC (k : Nat) (defs : List S61) : Option (List (List S111)) := (stsQ k k defs [] []).bind fun out => Clone_rows.f out
theorem setsP_twin (k : Nat) (defs : List S61) (l1 : List S174) : syn_SetsP.f k defs l1 = setsPC k defs := by
  unfold syn_SetsP.f syn_Sets.f setsPC; rw [sets_twin]
def knD : List S61 := (hyphenlaw5_Defs.f 40 []).getD []
def knX4 : S51 := ⟨0, 1, 0⟩
def knE : List Int := [1152921504606846976, 0]
def knSS : List (List S111) := (setsPC 40 knD).getD []
theorem knD_ok : hyphenlaw5_Defs.f 40 [] = some knD := by kernel_rfl
theorem knM_ok : side_MakeP.f 40 4 0 0 0 ⟨#[]⟩ knX knD [] = some (knSet, knFst, knE, [knX4], 1152921504606846976, true) := by kernel_rfl
theorem knZ_ok : side_Size.f 4 1 0 0 0 ⟨#[]⟩ [] = some 0 := by kernel_rfl
theorem knS_ok : setsPC 40 knD = some knSS := by kernel_rfl
theorem knT_ok : (costT 40 (fun j c => side_of.f knSet knFst knE [knX4] 1152921504606846976 knSS j c) knSet knFst [knX4] [120, 97] 0 []) = some [1152921504606846976, 0] := by kernel_rfl
theorem knL_ok : costL knE [1152921504606846976, 0] 0 1152921504606846976 = some 0 := by kernel_rfl
theorem knC_ok : costF 40 knSet knFst knE [knX4] 1152921504606846976 knD [] [120, 97] 0 2 = some 0 := by
  unfold costF
  rw [if_pos (by decide), if_neg (by decide), setsP_twin, knS_ok, Option.bind_some]
  show ((costT 40 (fun j c => side_of.f knSet knFst knE [knX4] 1152921504606846976 knSS j c) knSet knFst [knX4] [120, 97] 0 []).bind _) = _
  rw [knT_ok, Option.bind_some, if_pos (by decide)]
  exact knL_ok
theorem known_ok (w : World) : Calls Try.prog 10 #[] w fun e w' => e = .returned (.bool true) ∧ Below w.heap.size w w' := known_calls 40 40 4 40 knD knE knX4 knD_ok knM_ok knZ_ok knC_ok w
end Go.Proofs.Ytnnpfgpfkningaa.P
namespace Go.Proofs.Ytnnpfgpfkningaa.P
open Go.RowKit Go.Proofs.YtnnpfgpfkningaaW.PrintWords Go.Proofs.YtnnpfgpfkningaaW.PrintLast Go.Proofs.YtnnpfgpfkningaaW.PrintMore
attribute [local go_sem] max2_int min2_int max_two min_two max_three min_three max_four min_four   -- for this text's walks alone
attribute [local go_sem ↓ high] Go.Proofs.YtnnpfgpfkningaaX.isSome_setCell
set_option linter.unusedVariables false
set_option linter.unusedSimpArgs false
theorem within7_wth (a n : Int) (h0 : 0 < n) (h1 : n < 1000000) : hyphenlaw7_within.f a n = some (wth a n) := by
  have q1 := Int.tmod_lt_of_pos a h0
  have q2 : -n < Int.tmod a n := by
    have := Int.lt_tmod_of_pos a h0
    omega
  unfold hyphenlaw7_within.f wth
  rw [if_neg (by omega)]
  split
  · unfold wrap64; congr 1; omega
  · rfl
theorem within7 (a n : Int) (w : World) (h0 : 0 < n) (h1 : n < 1000000) : Calls Try.prog 19 #[.int .i64 a, .int .i64 n] w fun e w' => e = .returned (.int .i64 (wth a n)) ∧ Drawn0 w w' := hyphenlaw7_within.calls a n _ w (within7_wth a n h0 h1)
def lgX (a b : Int) : S33 := ⟨7, 1, b, 0, ⟨#[]⟩, [⟨7, 0, a, 0, ⟨#[]⟩, [⟨3, 0, 0, 0, ⟨#[]⟩, []⟩]⟩]⟩
def lgZ (x : S33) : Nat → S33
  | 0 => x
  | i + 1 => ⟨7, 0, 12, 0, ⟨#[]⟩, [lgZ x i]⟩
def lgS (s : Int) : Nat → Int
  | 0 => s
  | i + 1 => mn (12 * lgS s i) 1000000000
theorem lg_world (w2 Wm : World) (t : Nat) (a b : Int) (Ad : Option Addr) (cd : Nat) (h : World.alloc (World.alloc (World.alloc (World.drewN (World.alloc w2 (.cells #[.slice Ad knD.length cd, .slice none 0 0] 30)) t) (.cells #[.int .i64 3, .int .i64 0, .int .i64 0, .int .i64 0, .string ⟨#[]⟩, .slice none 0 0] 33)) (.cells #[.int .i64 7, .int .i64 0, .int .i64 a, .int .i64 0, .string ⟨#[]⟩, .slice (some ⟨w2.heap.size + 1, 0, none⟩) 1 1] 33)) (.cells #[.int .i64 7, .int .i64 1, .int .i64 b, .int .i64 0, .string ⟨#[]⟩, .slice (some ⟨w2.heap.size + 1 + 1, 0, none⟩) 1 1] 33) = Wm) :
    Below w2.heap.size w2 Wm ∧ Wm.heap[w2.heap.size]? = some (.cells #[.slice Ad knD.length cd, .slice none 0 0] 30 (0, 0)) ∧ Kd.F k33 Wm (fun k => k = w2.heap.size + 1 ∨ k = w2.heap.size + 1 + 1) (some ⟨w2.heap.size + 1 + 1, 0, none⟩) (lgX a b).f5.length (lgX a b).f5 ∧ Wm.heap[w2.heap.size + 1 + 1 + 1]? = some (.cells #[.int .i64 7, .int .i64 1, .int .i64 b, .int .i64 0, .string ⟨#[]⟩, .slice (some ⟨w2.heap.size + 1 + 1, 0, none⟩) 1 1] 33 (0, 0)) := by
  obtain ⟨V, hV⟩ : ∃ V, World.drewN (World.alloc w2 (.cells #[.slice Ad knD.length cd, .slice none 0 0] 30)) t = V := ⟨_, rfl⟩
  rw [hV] at h
  have hbv : Below w2.heap.size w2 V := hV ▸ pw_below_drewN (below_alloc (Below.refl _ _) _) t
  have hsv : V.heap.size = w2.heap.size + 1 := by rw [← hV]; exact size_alloc _ _
  have hfv : V.heap[w2.heap.size]? = some (.cells #[.slice Ad knD.length cd, .slice none 0 0] 30 (0, 0)) := hV ▸ blk_drewN (heap_alloc_new w2 _) t
  rw [← hsv] at h ⊢
  rw [← size_alloc V (.cells #[.int .i64 3, .int .i64 0, .int .i64 0, .int .i64 0, .string ⟨#[]⟩, .slice none 0 0] 33)] at h ⊢
  obtain ⟨V1, hV1⟩ : ∃ V1, World.alloc V (.cells #[.int .i64 3, .int .i64 0, .int .i64 0, .int .i64 0, .string ⟨#[]⟩, .slice none 0 0] 33) = V1 := ⟨_, rfl⟩
  have h1 : V1.heap[V.heap.size]? = some (.cells #[.int .i64 3, .int .i64 0, .int .i64 0, .int .i64 0, .string ⟨#[]⟩, .slice none 0 0] 33 (0, 0)) := hV1 ▸ heap_alloc_new V _
  have hb1 : Below V.heap.size V V1 := hV1 ▸ below_alloc (Below.refl _ _) _
  have F1 : Kd.F k33 V1 (fun k => k = V.heap.size ∨ k = V1.heap.size) (some ⟨V.heap.size, 0, none⟩) 1 [⟨3, 0, 0, 0, ⟨#[]⟩, []⟩] := lit1_F (x := ⟨3, 0, 0, 0, ⟨#[]⟩, []⟩) h1 (.inl rfl) (Nat.le_refl _) (Kd.F_nil _ _ _)
  rw [hV1] at h ⊢
  rw [← size_alloc V1 (.cells #[.int .i64 7, .int .i64 0, .int .i64 a, .int .i64 0, .string ⟨#[]⟩, .slice (some ⟨V.heap.size, 0, none⟩) 1 1] 33)]
  obtain ⟨V2, hV2⟩ : ∃ V2, World.alloc V1 (.cells #[.int .i64 7, .int .i64 0, .int .i64 a, .int .i64 0, .string ⟨#[]⟩, .slice (some ⟨V.heap.size, 0, none⟩) 1 1] 33) = V2 := ⟨_, rfl⟩
  have h2 : V2.heap[V1.heap.size]? = some (.cells #[.int .i64 7, .int .i64 0, .int .i64 a, .int .i64 0, .string ⟨#[]⟩, .slice (some ⟨V.heap.size, 0, none⟩) 1 1] 33 (0, 0)) := hV2 ▸ heap_alloc_new V1 _
  have hb2 : Below V1.heap.size V1 V2 := hV2 ▸ below_alloc (Below.refl _ _) _
  have F2 : Kd.F k33 V2 (fun k => k = V.heap.size ∨ k = V1.heap.size) (some ⟨V1.heap.size, 0, none⟩) 1 (lgX a b).f5 := lit1_F (x := ⟨7, 0, a, 0, ⟨#[]⟩, [⟨3, 0, 0, 0, ⟨#[]⟩, []⟩]⟩) h2 (.inr rfl) (Nat.le_refl _) (Kd.F_below F1 hb2)
  rw [hV2] at h ⊢
  have hb3 : Below V2.heap.size V2 Wm := h ▸ below_alloc (Below.refl _ _) _
  exact ⟨below_step (below_step (below_step hbv hb1) hb2) hb3, blk_below (blk_below (blk_below hfv hb1) hb2) hb3, Kd.F_below F2 hb3, h ▸ heap_alloc_new V2 _⟩
theorem lgS_range (s : Int) (h : 0 ≤ s ∧ s ≤ 1000000000) : ∀ i, 0 ≤ lgS s i ∧ lgS s i ≤ 1000000000
  | 0 => h
  | i + 1 => by have := lgS_range s h i; unfold lgS mn; split <;> omega
structure LzAt (base gz : Nat) (x : S33) (w W : World) : Prop where
  b : Below base w W
  z : ∃ (A : Option Addr) (c : Nat), W.heap[gz]? = some (.cells #[.int .i64 x.f0, .int .i64 x.f1, .int .i64 x.f2, .int .i64 x.f3, .string x.f4, .slice A x.f5.length c] 33 (0, 0)) ∧ x.f5.length ≤ c ∧ Kd.F k33 W (fun k => base ≤ k ∧ k ≠ gz) A x.f5.length x.f5
  h : base ≤ gz
theorem lz_step {gz : Nat} {x : S33} {w W : World} {A : Option Addr} {c : Nat} (h : LzAt w.heap.size gz x w W) (hz : W.heap[gz]? = some (.cells #[.int .i64 x.f0, .int .i64 x.f1, .int .i64 x.f2, .int .i64 x.f3, .string x.f4, .slice A x.f5.length c] 33 (0, 0))) (hc : x.f5.length ≤ c) (hF : Kd.F k33 W (fun k => w.heap.size ≤ k ∧ k ≠ gz) A x.f5.length x.f5) (t : Nat) :
    LzAt w.heap.size gz ⟨7, 0, 12, 0, ⟨#[]⟩, [x]⟩ w ((((((((W.drewN t).alloc (.cells #[.int .i64 x.f0, .int .i64 x.f1, .int .i64 x.f2, .int .i64 x.f3, .string x.f4, .slice A x.f5.length c] 33)).setCell ⟨gz, 0, none⟩ (.int .i64 7)).setCell ⟨gz, 1, none⟩ (.int .i64 0)).setCell ⟨gz, 2, none⟩ (.int .i64 12)).setCell ⟨gz, 3, none⟩ (.int .i64 0)).setCell ⟨gz, 4, none⟩ (.string ⟨#[]⟩)).setCell ⟨gz, 5, none⟩ (.slice (some ⟨W.heap.size, 0, none⟩) 1 1)) := by
  have hv := blk_alloc (blk_drewN hz t) (.cells #[.int .i64 x.f0, .int .i64 x.f1, .int .i64 x.f2, .int .i64 x.f3, .string x.f4, .slice A x.f5.length c] 33)
  have hn : ((W.drewN t).alloc (.cells #[.int .i64 x.f0, .int .i64 x.f1, .int .i64 x.f2, .int .i64 x.f3, .string x.f4, .slice A x.f5.length c] 33)).heap[W.heap.size]? = some (.cells #[.int .i64 x.f0, .int .i64 x.f1, .int .i64 x.f2, .int .i64 x.f3, .string x.f4, .slice A x.f5.length c] 33 (0, 0)) := by
    have h := heap_alloc_new (W.drewN t) (.cells #[.int .i64 x.f0, .int .i64 x.f1, .int .i64 x.f2, .int .i64 x.f3, .string x.f4, .slice A x.f5.length c] 33)
    rwa [show (W.drewN t).heap.size = W.heap.size from by simp] at h
  have hlt := blk_lt hz
  have hF1 : Kd.F k33 ((W.drewN t).alloc (.cells #[.int .i64 x.f0, .int .i64 x.f1, .int .i64 x.f2, .int .i64 x.f3, .string x.f4, .slice A x.f5.length c] 33)) (fun k => w.heap.size ≤ k ∧ k ≠ gz) (some ⟨W.heap.size, 0, none⟩) 1 [x] := lit1_F hn ⟨by have := h.h; omega, by omega⟩ hc (Kd.F_alloc (Kd.F_drewN hF t) _)
  have hb := below_alloc (pw_below_drewN h.b t) (.cells #[.int .i64 x.f0, .int .i64 x.f1, .int .i64 x.f2, .int .i64 x.f3, .string x.f4, .slice A x.f5.length c] 33)
  have hg := set6_grown ((W.drewN t).alloc (.cells #[.int .i64 x.f0, .int .i64 x.f1, .int .i64 x.f2, .int .i64 x.f3, .string x.f4, .slice A x.f5.length c] 33)) gz (.int .i64 7) (.int .i64 0) (.int .i64 12) (.int .i64 0) (.string ⟨#[]⟩) (.slice (some ⟨W.heap.size, 0, none⟩) 1 1)
  exact ⟨hb.grown hg hb.size (fun j hj => by injection hj with hj; subst hj; exact h.h), ⟨_, 1, set6_blk hv, Nat.le_refl _, Kd.F_grown hF1 hg (fun k hk e => hk.2 (by injection e))⟩, h.h⟩
set_option maxRecDepth 100000 in
set_option maxHeartbeats 8000000 in
theorem large_calls (n m deep a b : Int) (km kz : Nat) (r1 r2 r3 : List Int) (r4 : List S51) (r5 : Int) (r6 : Bool) (ha : 1 + wth n 12 = a) (hb : 1 + wth m 12 = b) (hM : side_MakeP.f km 7 1 b 0 ⟨#[]⟩ (lgX a b).f5 knD [] = some (r1, r2, r3, r4, r5, r6))
    (h6 : r6 = decide (a * b ≤ 120)) (hl : r6 = true → (r1.length : Int) = a * b) (hl0 : r6 = false → (r1.length : Int) = 0) (hz : ∀ i : Nat, i ≤ 15 → szF kz (lgZ (lgX a b) i) = some (lgS (a * b) i)) (w : World) :
    Calls Try.prog 5 #[.int .i64 n, .int .i64 m, .int .i64 deep] w fun e w' => e = .returned (.bool true) ∧ Below w.heap.size w w' := by
  have hn := wth_range n 12 (by omega)
  have hm := wth_range m 12 (by omega)
  have wa : wrap64 (1 + wth n 12) = a := by unfold wrap64; omega
  have wb : wrap64 (1 + wth m 12) = b := by unfold wrap64; omega
  have HAB : Aside0 ((1 ≤ a ∧ a ≤ 12) ∧ 1 ≤ b ∧ b ≤ 12) := ⟨by omega⟩
  have HM := Aside0.mk hM
  have H6 := Aside0.mk h6
  have HL := Aside0.mk hl
  have HL0 := Aside0.mk hl0
  have HZ := Aside0.mk hz
  clear ha hb hM h6 hl hl0 hz hn hm
  have MK1 := True.intro
  have wa2 : IntKind.i64.wrap (1 + wth n 12) = a := (i64_w _).trans wa
  have wb2 : IntKind.i64.wrap (1 + wth m 12) = b := (i64_w _).trans wb
  have hab : 1 ≤ a * b ∧ a * b ≤ 144 := by
    have h1 := HAB.out
    exact ⟨by have := Int.mul_pos (show 0 < a by omega) (show 0 < b by omega); omega, by have := Int.mul_le_mul (show a ≤ 12 by omega) (show b ≤ 12 by omega) (by omega) (by omega); omega⟩
  have HP := Aside0.mk hab
  have wp : IntKind.i64.wrap (a * b) = a * b := by rw [i64_w]; unfold wrap64; omega
  clear hab
  go_enter Try.func5, Try.ntmps5
  obtain ⟨PQ, hPQ⟩ : ∃ PQ : Prop, PQ = (a * b ≤ 120) := ⟨_, rfl⟩
  by_cases hq : a * b ≤ 120
  · have e6 : r6 = true := by rw [H6.out]; exact decide_eq_true hq
    subst e6
    have e7 := HL.out rfl
    have HE7 := Aside0.mk e7
    have q1 : decide (a * b ≤ 120) = true := decide_eq_true hq
    have q2 : ((r1.length : Int) != a * b) = false := by rw [e7]; simp
    clear e7 hq hPQ
    go_wp2_with (first | (go_at_call 10; refine (known_ok _).mono ?_; rintro e w1 ⟨rfl, hb1⟩; have HB1 := Aside0.mk hb1; clear hb1) | (go_at_call 12; refine (hyphenlaw5_Defs.calls 40 none 0 [] knD _ (Kd.C_nil _ _) (Nat.le_refl _) knD_ok).mono ?_; rintro e w2 ⟨v, rfl, hn, hb⟩; obtain ⟨Ad, cd, rfl⟩ := Kd.N_slice hn; have HN := Aside0.mk (Kd.N_reads' hn).2; have HB2 := Aside0.mk (below_step HB1.out hb); clear hn hb HB1) | (go_at_call 19; clear MK1; refine (within7 n 12 _ (by omega) (by omega)).mono ?_; rintro e w3 ⟨rfl, ⟨n1, rfl⟩⟩; skip) | (go_at_call 19; refine (within7 m 12 _ (by omega) (by omega)).mono ?_; rintro e w4 ⟨rfl, ⟨n2, rfl⟩⟩; skip) | (go_at_call 14; obtain ⟨Wm, hWm⟩ : ∃ Wm, World.alloc (World.alloc (World.alloc (World.drewN (World.alloc w2 (.cells #[.slice Ad knD.length cd, .slice none 0 0] 30)) (n1 + n2)) (.cells #[.int .i64 3, .int .i64 0, .int .i64 0, .int .i64 0, .string ⟨#[]⟩, .slice none 0 0] 33)) (.cells #[.int .i64 7, .int .i64 0, .int .i64 a, .int .i64 0, .string ⟨#[]⟩, .slice (some ⟨w2.heap.size + 1, 0, none⟩) 1 1] 33)) (.cells #[.int .i64 7, .int .i64 1, .int .i64 b, .int .i64 0, .string ⟨#[]⟩, .slice (some ⟨w2.heap.size + 1 + 1, 0, none⟩) 1 1] 33) = Wm := ⟨_, rfl⟩; rw [hWm]; have HW := Aside0.mk (lg_world w2 Wm (n1 + n2) a b Ad cd hWm); refine (side_MakeP.calls km 7 1 b 0 ⟨#[]⟩ (some ⟨w2.heap.size + 1 + 1, 0, none⟩) 1 (lgX a b).f5 Ad cd knD none 0 [] r1 r2 r3 r4 r5 true Wm (Kd.F_now HW.out.2.2.1) (Nat.le_refl _) (Kd.C_below HN.out.2 HW.out.1) HN.out.1 (Kd.C_nil _ _) (Nat.le_refl _) HM.out).mono ?_; clear hWm; rintro e w5 ⟨v0, v1, v2, v3, rfl, q0, q1, q2, q3, hb5⟩; obtain ⟨A0, c0, rfl⟩ := Kd.R_slice q0; obtain ⟨A1, c1, rfl⟩ := Kd.R_slice q1; obtain ⟨A2, c2, rfl⟩ := Kd.R_slice q2; obtain ⟨A3, c3, rfl⟩ := Kd.R_slice q3; have HB5 := Aside0.mk (below_step (below_step HB2.out HW.out.1) hb5); have hx5 := blk_below HW.out.2.2.2 hb5; have HX5 := Aside0.mk hx5; have x0 := cellAt (i := 0) (u := .int .i64 7) hx5 rfl; have x1 := cellAt (i := 1) (u := .int .i64 1) hx5 rfl; have x2 := cellAt (i := 2) (u := .int .i64 b) hx5 rfl; have x3 := cellAt (i := 3) (u := .int .i64 0) hx5 rfl; have x4 := cellAt (i := 4) (u := .string ⟨#[]⟩) hx5 rfl; have x5 := cellAt (i := 5) (u := .slice (some ⟨w2.heap.size + 1 + 1, 0, none⟩) 1 1) hx5 rfl; have hxz := blk_lt hx5; have HF5 := Aside0.mk (Kd.F_below HW.out.2.2.1 hb5); have HS5 := Aside0.mk (And.intro HB2.out.size (And.intro hxz (Nat.le_refl w2.heap.size))); clear q0 q1 q2 q3 hb5 hx5))
    go_loopw [14, 15] (fun v14 v15 W => ∃ i : Nat, v14 = .int .i64 (lgS (a * b) i) ∧ v15 = .int .i64 (i : Int) ∧ Aside0 ((i : Int) ≤ wth deep 15) ∧ Aside0 (LzAt w.heap.size (w5.heap.size + 1) (lgZ (lgX a b) i) w W)) (fun _ v _ => (wth deep 15 - intOf v).toNat)
    case atStart =>
      refine ⟨0, rfl, rfl, ⟨(wth_range deep 15 (by omega)).1⟩, ⟨⟨below_alloc (below_alloc HB5.out _) _, ⟨some ⟨w2.heap.size + 1 + 1, 0, none⟩, 1, ?_, Nat.le_refl _, Kd.F_mono (Kd.F_alloc (Kd.F_alloc HF5.out _) _) (fun k hk => ?_)⟩, ?_⟩⟩⟩
      · have h := heap_alloc_new (World.alloc w5 (.cells #[.slice A0 r1.length c0, .slice A1 r2.length c1, .slice A2 r3.length c2, .slice A3 r4.length c3, .int .i64 r5] 39)) (.cells #[.int .i64 7, .int .i64 1, .int .i64 b, .int .i64 0, .string ⟨#[]⟩, .slice (some ⟨w2.heap.size + 1 + 1, 0, none⟩) 1 1] 33)
        rw [size_alloc] at h
        exact h
      · have := HS5.out; omega
      · have := HB5.out.size; omega
    case round =>
      clear x0 x1 x2 x3 x4 x5
      obtain ⟨i, rfl, rfl, HI, HZ5⟩ := hrel
      obtain ⟨Az, cz, hz, hcz, hFz⟩ := HZ5.out.z
      have k0 := cellAt (i := 0) (u := .int .i64 (lgZ (lgX a b) i).f0) hz rfl
      have k1 := cellAt (i := 1) (u := .int .i64 (lgZ (lgX a b) i).f1) hz rfl
      have k2 := cellAt (i := 2) (u := .int .i64 (lgZ (lgX a b) i).f2) hz rfl
      have k3 := cellAt (i := 3) (u := .int .i64 (lgZ (lgX a b) i).f3) hz rfl
      have k4 := cellAt (i := 4) (u := .string (lgZ (lgX a b) i).f4) hz rfl
      have k5 := cellAt (i := 5) (u := .slice Az (lgZ (lgX a b) i).f5.length cz) hz rfl
      have n0 := blk_frozen hz 0
      have n1_ := blk_frozen hz 1
      have n2_ := blk_frozen hz 2
      have n3 := blk_frozen hz 3
      have n4 := blk_frozen hz 4
      have n5 := blk_frozen hz 5
      have hzl := blk_lt hz
      have HFz := Aside0.mk hFz
      have HZz := Aside0.mk (And.intro hz hcz)
      have hsr := lgS_range (a * b) (by have := HP.out; omega) i
      have sw : IntKind.i64.wrap (12 * lgS (a * b) i) = 12 * lgS (a * b) i := by rw [i64_w]; unfold wrap64; omega
      have hdr := wth_range deep 15 (by omega)
      have HDR := Aside0.mk hdr
      have iw : IntKind.i64.wrap ((i : Int) + 1) = (i : Int) + 1 := by have := HI.out; rw [i64_w]; unfold wrap64; omega
      clear hFz hz hcz hsr hdr
      by_cases hi : (i : Int) < wth deep 15
      · have c1 : decide ((i : Int) < wth deep 15) = true := decide_eq_true hi
        have HLT := Aside0.mk hi
        clear hi
        go_wp2_with (go_at_call 19; refine (within7 deep 15 _ (by omega) (by omega)).mono ?_; rintro e w7 ⟨rfl, ⟨t, rfl⟩⟩; have hv := blk_alloc (blk_drewN HZz.out.1 t) (.cells #[.int .i64 (lgZ (lgX a b) i).f0, .int .i64 (lgZ (lgX a b) i).f1, .int .i64 (lgZ (lgX a b) i).f2, .int .i64 (lgZ (lgX a b) i).f3, .string (lgZ (lgX a b) i).f4, .slice Az (lgZ (lgX a b) i).f5.length cz] 33); have kv0 := cellAt (i := 0) (u := .int .i64 (lgZ (lgX a b) i).f0) hv rfl; have kv1 := cellAt (i := 1) (u := .int .i64 (lgZ (lgX a b) i).f1) hv rfl; have kv2 := cellAt (i := 2) (u := .int .i64 (lgZ (lgX a b) i).f2) hv rfl; have kv3 := cellAt (i := 3) (u := .int .i64 (lgZ (lgX a b) i).f3) hv rfl; have kv4 := cellAt (i := 4) (u := .string (lgZ (lgX a b) i).f4) hv rfl; have kv5 := cellAt (i := 5) (u := .slice Az (lgZ (lgX a b) i).f5.length cz) hv rfl; have nv0 := blk_frozen hv 0; have nv1 := blk_frozen hv 1; have nv2 := blk_frozen hv 2; have nv3 := blk_frozen hv 3; have nv4 := blk_frozen hv 4; have nv5 := blk_frozen hv 5; have hzv := blk_lt hv; have HV := Aside0.mk hv; clear hv)
        exact ⟨⟨i + 1, rfl, rfl, ⟨by have := HLT.out; omega⟩, ⟨lz_step HZ5.out HZz.out.1 HZz.out.2 HFz.out t⟩⟩, by have := HLT.out; simp only [intOf]; omega⟩
      · have c1 : decide ((i : Int) < wth deep 15) = false := decide_eq_false hi
        have ei : (i : Int) = wth deep 15 := by have := HI.out; omega
        have hzz := HZ.out i (by have := HDR.out; omega)
        have HZZ := Aside0.mk hzz
        clear hi ei hzz
        go_wp2_with (first | (go_at_call 19; refine (within7 deep 15 _ (by omega) (by omega)).mono ?_; rintro e w7 ⟨rfl, ⟨t, rfl⟩⟩; have kv0 := cellAt (i := 0) (u := .int .i64 (lgZ (lgX a b) i).f0) (blk_drewN HZz.out.1 t) rfl) | (go_at_call 17; refine (side_Size.calls kz (lgZ (lgX a b) i).f0 (lgZ (lgX a b) i).f1 (lgZ (lgX a b) i).f2 (lgZ (lgX a b) i).f3 (lgZ (lgX a b) i).f4 Az cz (lgZ (lgX a b) i).f5 (lgS (a * b) i) _ (Kd.F_now (Kd.F_drewN HFz.out t)) HZz.out.2 HZZ.out).mono ?_; rintro e w8 ⟨rfl, hb8⟩; have HE := Aside0.mk (below_step (pw_below_drewN HZ5.out.b t) hb8); clear hb8))
        go_ret
        exact ⟨rfl, HE.out⟩
  · have e6 : r6 = false := by rw [H6.out]; exact decide_eq_false hq
    subst e6
    have e7 := HL0.out rfl
    have HE7 := Aside0.mk e7
    have q1 : decide (a * b ≤ 120) = false := decide_eq_false hq
    have q2 : ((r1.length : Int) != a * b) = true := by have := HP.out; rw [e7]; exact bne_iff_ne.mpr (by omega)
    clear e7 hq hPQ
    go_wp2_with (first | (go_at_call 10; refine (known_ok _).mono ?_; rintro e w1 ⟨rfl, hb1⟩; have HB1 := Aside0.mk hb1; clear hb1) | (go_at_call 12; refine (hyphenlaw5_Defs.calls 40 none 0 [] knD _ (Kd.C_nil _ _) (Nat.le_refl _) knD_ok).mono ?_; rintro e w2 ⟨v, rfl, hn, hb⟩; obtain ⟨Ad, cd, rfl⟩ := Kd.N_slice hn; have HN := Aside0.mk (Kd.N_reads' hn).2; have HB2 := Aside0.mk (below_step HB1.out hb); clear hn hb HB1) | (go_at_call 19; clear MK1; refine (within7 n 12 _ (by omega) (by omega)).mono ?_; rintro e w3 ⟨rfl, ⟨n1, rfl⟩⟩; skip) | (go_at_call 19; refine (within7 m 12 _ (by omega) (by omega)).mono ?_; rintro e w4 ⟨rfl, ⟨n2, rfl⟩⟩; skip) | (go_at_call 14; obtain ⟨Wm, hWm⟩ : ∃ Wm, World.alloc (World.alloc (World.alloc (World.drewN (World.alloc w2 (.cells #[.slice Ad knD.length cd, .slice none 0 0] 30)) (n1 + n2)) (.cells #[.int .i64 3, .int .i64 0, .int .i64 0, .int .i64 0, .string ⟨#[]⟩, .slice none 0 0] 33)) (.cells #[.int .i64 7, .int .i64 0, .int .i64 a, .int .i64 0, .string ⟨#[]⟩, .slice (some ⟨w2.heap.size + 1, 0, none⟩) 1 1] 33)) (.cells #[.int .i64 7, .int .i64 1, .int .i64 b, .int .i64 0, .string ⟨#[]⟩, .slice (some ⟨w2.heap.size + 1 + 1, 0, none⟩) 1 1] 33) = Wm := ⟨_, rfl⟩; rw [hWm]; have HW := Aside0.mk (lg_world w2 Wm (n1 + n2) a b Ad cd hWm); refine (side_MakeP.calls km 7 1 b 0 ⟨#[]⟩ (some ⟨w2.heap.size + 1 + 1, 0, none⟩) 1 (lgX a b).f5 Ad cd knD none 0 [] r1 r2 r3 r4 r5 false Wm (Kd.F_now HW.out.2.2.1) (Nat.le_refl _) (Kd.C_below HN.out.2 HW.out.1) HN.out.1 (Kd.C_nil _ _) (Nat.le_refl _) HM.out).mono ?_; clear hWm; rintro e w5 ⟨v0, v1, v2, v3, rfl, q0, q1, q2, q3, hb5⟩; obtain ⟨A0, c0, rfl⟩ := Kd.R_slice q0; obtain ⟨A1, c1, rfl⟩ := Kd.R_slice q1; obtain ⟨A2, c2, rfl⟩ := Kd.R_slice q2; obtain ⟨A3, c3, rfl⟩ := Kd.R_slice q3; have HB5 := Aside0.mk (below_step (below_step HB2.out HW.out.1) hb5); have hx5 := blk_below HW.out.2.2.2 hb5; have HX5 := Aside0.mk hx5; have x0 := cellAt (i := 0) (u := .int .i64 7) hx5 rfl; have x1 := cellAt (i := 1) (u := .int .i64 1) hx5 rfl; have x2 := cellAt (i := 2) (u := .int .i64 b) hx5 rfl; have x3 := cellAt (i := 3) (u := .int .i64 0) hx5 rfl; have x4 := cellAt (i := 4) (u := .string ⟨#[]⟩) hx5 rfl; have x5 := cellAt (i := 5) (u := .slice (some ⟨w2.heap.size + 1 + 1, 0, none⟩) 1 1) hx5 rfl; have hxz := blk_lt hx5; have HF5 := Aside0.mk (Kd.F_below HW.out.2.2.1 hb5); have HS5 := Aside0.mk (And.intro HB2.out.size (And.intro hxz (Nat.le_refl w2.heap.size))); clear q0 q1 q2 q3 hb5 hx5))
    go_loopw [14, 15] (fun v14 v15 W => ∃ i : Nat, v14 = .int .i64 (lgS (a * b) i) ∧ v15 = .int .i64 (i : Int) ∧ Aside0 ((i : Int) ≤ wth deep 15) ∧ Aside0 (LzAt w.heap.size (w5.heap.size + 1) (lgZ (lgX a b) i) w W)) (fun _ v _ => (wth deep 15 - intOf v).toNat)
    case atStart =>
      refine ⟨0, rfl, rfl, ⟨(wth_range deep 15 (by omega)).1⟩, ⟨⟨below_alloc (below_alloc HB5.out _) _, ⟨some ⟨w2.heap.size + 1 + 1, 0, none⟩, 1, ?_, Nat.le_refl _, Kd.F_mono (Kd.F_alloc (Kd.F_alloc HF5.out _) _) (fun k hk => ?_)⟩, ?_⟩⟩⟩
      · have h := heap_alloc_new (World.alloc w5 (.cells #[.slice A0 r1.length c0, .slice A1 r2.length c1, .slice A2 r3.length c2, .slice A3 r4.length c3, .int .i64 r5] 39)) (.cells #[.int .i64 7, .int .i64 1, .int .i64 b, .int .i64 0, .string ⟨#[]⟩, .slice (some ⟨w2.heap.size + 1 + 1, 0, none⟩) 1 1] 33)
        rw [size_alloc] at h
        exact h
      · have := HS5.out; omega
      · have := HB5.out.size; omega
    case round =>
      clear x0 x1 x2 x3 x4 x5
      obtain ⟨i, rfl, rfl, HI, HZ5⟩ := hrel
      obtain ⟨Az, cz, hz, hcz, hFz⟩ := HZ5.out.z
      have k0 := cellAt (i := 0) (u := .int .i64 (lgZ (lgX a b) i).f0) hz rfl
      have k1 := cellAt (i := 1) (u := .int .i64 (lgZ (lgX a b) i).f1) hz rfl
      have k2 := cellAt (i := 2) (u := .int .i64 (lgZ (lgX a b) i).f2) hz rfl
      have k3 := cellAt (i := 3) (u := .int .i64 (lgZ (lgX a b) i).f3) hz rfl
      have k4 := cellAt (i := 4) (u := .string (lgZ (lgX a b) i).f4) hz rfl
      have k5 := cellAt (i := 5) (u := .slice Az (lgZ (lgX a b) i).f5.length cz) hz rfl
      have n0 := blk_frozen hz 0
      have n1_ := blk_frozen hz 1
      have n2_ := blk_frozen hz 2
      have n3 := blk_frozen hz 3
      have n4 := blk_frozen hz 4
      have n5 := blk_frozen hz 5
      have hzl := blk_lt hz
      have HFz := Aside0.mk hFz
      have HZz := Aside0.mk (And.intro hz hcz)
      have hsr := lgS_range (a * b) (by have := HP.out; omega) i
      have sw : IntKind.i64.wrap (12 * lgS (a * b) i) = 12 * lgS (a * b) i := by rw [i64_w]; unfold wrap64; omega
      have hdr := wth_range deep 15 (by omega)
      have HDR := Aside0.mk hdr
      have iw : IntKind.i64.wrap ((i : Int) + 1) = (i : Int) + 1 := by have := HI.out; rw [i64_w]; unfold wrap64; omega
      clear hFz hz hcz hsr hdr
      by_cases hi : (i : Int) < wth deep 15
      · have c1 : decide ((i : Int) < wth deep 15) = true := decide_eq_true hi
        have HLT := Aside0.mk hi
        clear hi
        go_wp2_with (go_at_call 19; refine (within7 deep 15 _ (by omega) (by omega)).mono ?_; rintro e w7 ⟨rfl, ⟨t, rfl⟩⟩; have hv := blk_alloc (blk_drewN HZz.out.1 t) (.cells #[.int .i64 (lgZ (lgX a b) i).f0, .int .i64 (lgZ (lgX a b) i).f1, .int .i64 (lgZ (lgX a b) i).f2, .int .i64 (lgZ (lgX a b) i).f3, .string (lgZ (lgX a b) i).f4, .slice Az (lgZ (lgX a b) i).f5.length cz] 33); have kv0 := cellAt (i := 0) (u := .int .i64 (lgZ (lgX a b) i).f0) hv rfl; have kv1 := cellAt (i := 1) (u := .int .i64 (lgZ (lgX a b) i).f1) hv rfl; have kv2 := cellAt (i := 2) (u := .int .i64 (lgZ (lgX a b) i).f2) hv rfl; have kv3 := cellAt (i := 3) (u := .int .i64 (lgZ (lgX a b) i).f3) hv rfl; have kv4 := cellAt (i := 4) (u := .string (lgZ (lgX a b) i).f4) hv rfl; have kv5 := cellAt (i := 5) (u := .slice Az (lgZ (lgX a b) i).f5.length cz) hv rfl; have nv0 := blk_frozen hv 0; have nv1 := blk_frozen hv 1; have nv2 := blk_frozen hv 2; have nv3 := blk_frozen hv 3; have nv4 := blk_frozen hv 4; have nv5 := blk_frozen hv 5; have hzv := blk_lt hv; have HV := Aside0.mk hv; clear hv)
        exact ⟨⟨i + 1, rfl, rfl, ⟨by have := HLT.out; omega⟩, ⟨lz_step HZ5.out HZz.out.1 HZz.out.2 HFz.out t⟩⟩, by have := HLT.out; simp only [intOf]; omega⟩
      · have c1 : decide ((i : Int) < wth deep 15) = false := decide_eq_false hi
        have ei : (i : Int) = wth deep 15 := by have := HI.out; omega
        have hzz := HZ.out i (by have := HDR.out; omega)
        have HZZ := Aside0.mk hzz
        clear hi ei hzz
        go_wp2_with (first | (go_at_call 19; refine (within7 deep 15 _ (by omega) (by omega)).mono ?_; rintro e w7 ⟨rfl, ⟨t, rfl⟩⟩; have kv0 := cellAt (i := 0) (u := .int .i64 (lgZ (lgX a b) i).f0) (blk_drewN HZz.out.1 t) rfl) | (go_at_call 17; refine (side_Size.calls kz (lgZ (lgX a b) i).f0 (lgZ (lgX a b) i).f1 (lgZ (lgX a b) i).f2 (lgZ (lgX a b) i).f3 (lgZ (lgX a b) i).f4 Az cz (lgZ (lgX a b) i).f5 (lgS (a * b) i) _ (Kd.F_now (Kd.F_drewN HFz.out t)) HZz.out.2 HZZ.out).mono ?_; rintro e w8 ⟨rfl, hb8⟩; have HE := Aside0.mk (below_step (pw_below_drewN HZ5.out.b t) hb8); clear hb8))
        go_ret
        exact ⟨rfl, HE.out⟩
end Go.Proofs.Ytnnpfgpfkningaa.P
namespace Go.Proofs.Ytnnpfgpfkningaa.P
open Go.RowKit Go.Proofs.YtnnpfgpfkningaaW.PrintWords Go.Proofs.YtnnpfgpfkningaaW.PrintLast Go.Proofs.YtnnpfgpfkningaaW.PrintMore
attribute [local go_sem] max2_int min2_int max_two min_two max_three min_three max_four min_four   -- for this text's walks alone
attribute [local go_sem ↓ high] Go.Proofs.YtnnpfgpfkningaaX.isSome_setCell
set_option linter.unusedVariables false
set_option linter.unusedSimpArgs false
theorem szF_mono {x : S33} {r : Int} : ∀ (d k : Nat), szF k x = some r → szF (k + d) x = some r
  | 0, _, h => h
  | d + 1, k, h => side_Size.mono x.f0 x.f1 x.f2 x.f3 x.f4 x.f5 (k + d) r (szF_mono d k h)
theorem szF_le {x : S33} {r : Int} {k k2 : Nat} (h : szF k x = some r) (hk : k ≤ k2) : szF k2 x = some r := by
  have := szF_mono (k2 - k) k h
  rwa [show k + (k2 - k) = k2 from by omega] at this
theorem sz_any (lo hi w : Int) (nm : ByteArray) (l : List S33) : szF 2 ⟨3, lo, hi, w, nm, l⟩ = some 1 := rfl
theorem sz_times {n : Nat} {lo hi w : Int} {nm : ByteArray} {y : S33} {s : Int} (h : szF (n + 1) y = some s) (h0 : 0 ≤ s ∧ s ≤ 1000000000) (hh : 0 ≤ hi ∧ hi ≤ 12) : szF (n + 4) ⟨7, lo, hi, w, nm, [y]⟩ = some (mn (s * hi) 1000000000) := by
  show side_Size.f (n + 3 + 1) 7 lo hi w nm [y] = _
  have h' : side_Size.f (n + 1) y.f0 y.f1 y.f2 y.f3 y.f4 y.f5 = some s := h
  have e0 : rd_T33 [y] 0 = y := rfl
  have m1 : mn (wrap64 (0 + s)) 1000000000 = s := by unfold mn wrap64; split <;> omega
  have m2 : mn (mx hi 0) 1000000000 = hi := by unfold mn mx; split <;> split <;> omega
  have hb : 0 ≤ s * hi ∧ s * hi ≤ 12000000000 := by
    refine ⟨Int.mul_nonneg h0.1 hh.1, ?_⟩
    have := Int.mul_le_mul h0.2 hh.2 hh.1 (by omega)
    omega
  have m3 : wrap64 (s * hi) = s * hi := by unfold wrap64; omega
  rw [side_Size.f, if_neg (by decide), show ((7 : Int) == 3) = false from rfl, side_Size.j0, if_neg (by decide), side_Size.l0, if_pos (by simp), if_pos (by decide), if_pos (by simp), e0, h', Option.bind_some, side_Size.l0, if_neg (by simp [wrap64]), if_pos rfl, m1, m2, m3]
theorem lg_sizes (a b : Int) (ha : 1 ≤ a ∧ a ≤ 12) (hb : 1 ≤ b ∧ b ≤ 12) : ∀ i : Nat, szF (8 + 3 * i) (lgZ (lgX a b) i) = some (lgS (a * b) i)
  | 0 => by
    have hab : 0 ≤ a * b ∧ a * b ≤ 144 := ⟨Int.mul_nonneg (by omega) (by omega), by have := Int.mul_le_mul ha.2 hb.2 (by omega) (by omega); omega⟩
    have h1 := sz_times (n := 1) (lo := 0) (hi := a) (w := 0) (nm := ⟨#[]⟩) (sz_any 0 0 0 ⟨#[]⟩ []) (by omega) (by omega)
    rw [show mn (1 * a) 1000000000 = a from by unfold mn; split <;> omega] at h1
    have h2 := sz_times (n := 4) (lo := 1) (hi := b) (w := 0) (nm := ⟨#[]⟩) h1 (by omega) (by omega)
    rw [show mn (a * b) 1000000000 = a * b from by unfold mn; split <;> omega] at h2
    exact h2
  | i + 1 => by
    have hab : 0 ≤ a * b ∧ a * b ≤ 144 := ⟨Int.mul_nonneg (by omega) (by omega), by have := Int.mul_le_mul ha.2 hb.2 (by omega) (by omega); omega⟩
    have h1 := lg_sizes a b ha hb i
    rw [show 8 + 3 * i = (7 + 3 * i) + 1 from by omega] at h1
    have h2 := sz_times (lo := 0) (hi := 12) (w := 0) (nm := ⟨#[]⟩) h1 (lgS_range (a * b) (by omega) i) (by omega)
    rw [show 7 + 3 * i + 4 = 8 + 3 * (i + 1) from by omega, Int.mul_comm] at h2
    exact h2
theorem lg_sizes' (a b : Int) (ha : 1 ≤ a ∧ a ≤ 12) (hb : 1 ≤ b ∧ b ≤ 12) (i : Nat) (hi : i ≤ 15) : szF 60 (lgZ (lgX a b) i) = some (lgS (a * b) i) := szF_le (lg_sizes a b ha hb i) (by omega)
end Go.Proofs.Ytnnpfgpfkningaa.P
namespace Go.Proofs.Ytnnpfgpfkningaa.P
open Go.RowKit Go.Proofs.YtnnpfgpfkningaaW.PrintWords Go.Proofs.YtnnpfgpfkningaaW.PrintLast Go.Proofs.YtnnpfgpfkningaaW.PrintMore
attribute [local go_sem] max2_int min2_int max_two min_two max_three min_three max_four min_four   -- for this text's walks alone
attribute [local go_sem ↓ high] Go.Proofs.YtnnpfgpfkningaaX.isSome_setCell
set_option linter.unusedVariables false
set_option linter.unusedSimpArgs false
theorem sz_one {n : Nat} {k lo hi w : Int} {nm : ByteArray} {y : S33} {s : Int} (h : szF (n + 1) y = some s) (h0 : 0 ≤ s ∧ s ≤ 1000000000) (hk : k = 6 ∨ k = 8) : szF (n + 4) ⟨k, lo, hi, w, nm, [y]⟩ = some s := by
  show side_Size.f (n + 3 + 1) k lo hi w nm [y] = _
  have h' : side_Size.f (n + 1) y.f0 y.f1 y.f2 y.f3 y.f4 y.f5 = some s := h
  have e0 : rd_T33 [y] 0 = y := rfl
  have m1 : mn (wrap64 (0 + s)) 1000000000 = s := by unfold mn wrap64; split <;> omega
  rw [side_Size.f, if_neg (by omega), show (k == 3) = false from by rcases hk with rfl | rfl <;> rfl, side_Size.j0, if_neg (by decide), side_Size.l0, if_pos (by simp), if_pos (by decide), if_pos (by simp), e0, h', Option.bind_some, side_Size.l0, if_neg (by simp [wrap64]), if_neg (by omega), m1]
theorem sz_nil (n : Nat) (lo hi w : Int) (nm : ByteArray) : szF (n + 3) ⟨1, lo, hi, w, nm, []⟩ = some 0 := by
  show side_Size.f (n + 2 + 1) 1 lo hi w nm [] = _
  rw [side_Size.f, if_neg (by decide), show ((1 : Int) == 3) = false from rfl, side_Size.j0, if_neg (by decide), side_Size.l0, if_neg (by simp), if_neg (by decide)]
theorem sz_pos (n : Nat) (k lo hi w : Int) (nm : ByteArray) (l : List S33) (hk : k = 2 ∨ k = 3) : szF (n + 2) ⟨k, lo, hi, w, nm, l⟩ = some 1 := by
  show side_Size.f (n + 1 + 1) k lo hi w nm l = _
  rcases hk with rfl | rfl
  · rw [side_Size.f, if_pos rfl, side_Size.j0, if_pos rfl]
  · rw [side_Size.f, if_neg (by decide), show ((3 : Int) == 3) = true from rfl, side_Size.j0, if_pos rfl]
theorem sz_two {n : Nat} {k lo hi w : Int} {nm : ByteArray} {x y : S33} {s t : Int} (h : szF (n + 2) x = some s) (h2 : szF (n + 1) y = some t) (h0 : 0 ≤ s ∧ s ≤ 1000000000) (h1 : 0 ≤ t ∧ t ≤ 1000000000) (hk : k = 4 ∨ k = 5) : szF (n + 5) ⟨k, lo, hi, w, nm, [x, y]⟩ = some (mn (s + t) 1000000000) := by
  show side_Size.f (n + 4 + 1) k lo hi w nm [x, y] = _
  have h' : side_Size.f (n + 2) x.f0 x.f1 x.f2 x.f3 x.f4 x.f5 = some s := h
  have h2' : side_Size.f (n + 1) y.f0 y.f1 y.f2 y.f3 y.f4 y.f5 = some t := h2
  have e0 : rd_T33 [x, y] 0 = x := rfl
  have ew : wrap64 (0 + 1) = 1 := by unfold wrap64; omega
  have e1 : rd_T33 [x, y] 1 = y := rfl
  have m1 : mn (wrap64 (0 + s)) 1000000000 = s := by unfold mn wrap64; split <;> omega
  have m2 : wrap64 (s + t) = s + t := by unfold wrap64; omega
  rw [side_Size.f, if_neg (by omega), show (k == 3) = false from by rcases hk with rfl | rfl <;> rfl, side_Size.j0, if_neg (by decide), side_Size.l0, if_pos (by simp), if_pos (by decide), if_pos (by simp), e0, h', Option.bind_some, m1, ew, side_Size.l0, if_pos (by simp), if_pos (by decide), if_pos (by simp), e1, h2', Option.bind_some, m2, side_Size.l0, if_neg (by simp [wrap64]), if_neg (by omega)]
theorem sizeI_range (S : Sd) : 0 ≤ sizeI S ∧ sizeI S ≤ 1000000000 := by unfold sizeI mn; split <;> omega
theorem szF_up {x : S33} {r : Int} {Z : Nat} (h : szF Z x = some r) : ∃ Z, ∀ z, Z ≤ z → szF z x = some r := ⟨Z, fun _ hz => szF_le h hz⟩
theorem size_is {defs : List S61} : ∀ x S, RS defs x S → ∃ Z, ∀ z, Z ≤ z → szF z x = some (sizeI S) := by
  intro x S h
  induction h with
  | none lo hi w nm => exact szF_up (sz_nil 0 lo hi w nm)
  | set lo hi w nm => exact szF_up (sz_pos 0 2 lo hi w nm [] (.inl rfl))
  | any lo hi w nm => exact szF_up (sz_pos 0 3 lo hi w nm [] (.inr rfl))
  | cat lo hi w nm a b A B _ _ iha ihb =>
    obtain ⟨Z1, h1⟩ := iha
    obtain ⟨Z2, h2⟩ := ihb
    have e : sizeI (catS A B) = mn (sizeI A + sizeI B) 1000000000 := by
      have : (catS A B).sets.length = A.sets.length + B.sets.length := by simp [catS]
      unfold sizeI mn; rw [this]; split <;> split <;> split <;> split <;> omega
    rw [e]
    exact szF_up (sz_two (n := Z1 + Z2) (h1 _ (by omega)) (h2 _ (by omega)) (sizeI_range A) (sizeI_range B) (.inl rfl))
  | alt lo hi w nm a b A B _ _ iha ihb =>
    obtain ⟨Z1, h1⟩ := iha
    obtain ⟨Z2, h2⟩ := ihb
    have e : sizeI (altS A B) = mn (sizeI A + sizeI B) 1000000000 := by
      have : (altS A B).sets.length = A.sets.length + B.sets.length := by simp [altS]
      unfold sizeI mn; rw [this]; split <;> split <;> split <;> split <;> omega
    rw [e]
    exact szF_up (sz_two (n := Z1 + Z2) (h1 _ (by omega)) (h2 _ (by omega)) (sizeI_range A) (sizeI_range B) (.inr rfl))
  | star lo hi w nm a A _ iha =>
    obtain ⟨Z1, h1⟩ := iha
    exact szF_up (sz_one (n := Z1) (h1 _ (by omega)) (sizeI_range A) (.inl rfl))
  | times lo hi w nm a A h3 h4 h5 _ iha =>
    obtain ⟨Z1, h1⟩ := iha
    have e : sizeI (tmS A lo hi.toNat 1) = mn (sizeI A * hi) 1000000000 := by
      unfold sizeI
      rw [tm_len]
      have hq : ((hi.toNat * A.sets.length : Nat) : Int) = (A.sets.length : Int) * hi := by
        rw [Int.natCast_mul, Int.toNat_of_nonneg (by omega), Int.mul_comm]
      rw [hq]
      by_cases hl : (A.sets.length : Int) ≤ 1000000000
      · rw [show mn (A.sets.length : Int) 1000000000 = A.sets.length from by unfold mn; split <;> omega]
      · rw [show mn (A.sets.length : Int) 1000000000 = 1000000000 from by unfold mn; split <;> omega]
        by_cases hz : hi = 0
        · subst hz; simp
        · have h6 : (A.sets.length : Int) * 1 ≤ (A.sets.length : Int) * hi := Int.mul_le_mul_of_nonneg_left (by omega) (by omega)
          unfold mn; split <;> split <;> omega
    rw [e]
    exact szF_up (sz_times (n := Z1) (h1 _ (by omega)) (sizeI_range A) (by omega))
  | wgt lo hi w nm a A h3 h4 _ iha =>
    obtain ⟨Z1, h1⟩ := iha
    exact szF_up (sz_one (n := Z1) (h1 _ (by omega)) (sizeI_range A) (.inr rfl))
end Go.Proofs.Ytnnpfgpfkningaa.P
namespace Go.Proofs.Ytnnpfgpfkningaa.P
open Go.RowKit Go.Proofs.YtnnpfgpfkningaaW.PrintWords Go.Proofs.YtnnpfgpfkningaaW.PrintLast Go.Proofs.YtnnpfgpfkningaaW.PrintMore
attribute [local go_sem] max2_int min2_int max_two min_two max_three min_three max_four min_four   -- for this text's walks alone
attribute [local go_sem ↓ high] Go.Proofs.YtnnpfgpfkningaaX.isSome_setCell
set_option linter.unusedVariables false
set_option linter.unusedSimpArgs false
theorem min2_up (a b : Int) : ∀ d, trop_Min.f (3 + d) [a, b] = some (mn (mn 1152921504606846976 a) b)
  | 0 => min2_f a b
  | d + 1 => trop_Min.mono [a, b] (3 + d) _ (min2_up a b d)
theorem rd_mid (P : List Int) (x : Int) (l : List Int) : rd (P ++ x :: l) (P.length : Int) = x := by
  unfold rd
  rw [Int.toNat_natCast, List.getD_eq_getElem?_getD, List.getElem?_append_right (Nat.le_refl _), Nat.sub_self]; rfl
theorem rd94_mid (P : List S94) (x : S94) (l : List S94) : rd_T94 (P ++ x :: l) (P.length : Int) = x := by
  unfold rd_T94
  rw [Int.toNat_natCast, List.getD_eq_getElem?_getD, List.getElem?_append_right (Nat.le_refl _), Nat.sub_self]; rfl
theorem row_l1 : ∀ (Q P : List Int) (k : Nat), (∀ v ∈ Q, tv v) → Q.length + 5 ≤ k → (P ++ Q).length < 1000000 → side_row.l1 k (P ++ List.replicate Q.length tinf) (sp 0 (P ++ Q)) ((sp 0 (P ++ Q)).length : Int) ((sp 0 P).length : Int) = some (P ++ Q)
  | [], P, k, _, hk, hl => by
    obtain ⟨k, rfl⟩ : ∃ m, k = m + 1 := ⟨k - 1, by omega⟩
    simp only [List.append_nil, List.length_nil, List.replicate_zero] at *
    rw [side_row.l1, if_neg (by omega), clone_is P hl]; rfl
  | v :: Q, P, k, hv, hk, hl => by
    have e : P ++ v :: Q = (P ++ [v]) ++ Q := by simp
    have ih := row_l1 Q (P ++ [v])
    rw [← e] at ih
    have h1 := hv v List.mem_cons_self
    by_cases hlt : v < tinf
    · obtain ⟨k, rfl⟩ : ∃ m, k = m + 4 := ⟨k - 4, by omega⟩
      have es : sp 0 (P ++ [v]) = sp 0 P ++ [⟨(P.length : Int), v⟩] := by
        rw [sp_append]; unfold sp; simp [spA, hlt]
      have ea : sp 0 (P ++ v :: Q) = sp 0 P ++ ⟨(P.length : Int), v⟩ :: sp (P.length + 1) Q := by
        rw [e, sp_append, es]; simp
      have hlen : (sp 0 P).length < (sp 0 (P ++ v :: Q)).length := by rw [ea]; simp
      have hsm : (sp 0 P).length < 1000000 := by have := sp_len 0 P; simp only [List.length_append, List.length_cons] at hl; omega
      have er : rd_T94 (sp 0 (P ++ v :: Q)) ((sp 0 P).length : Int) = ⟨(P.length : Int), v⟩ := by rw [ea]; exact rd94_mid _ _ _
      have ih2 := ih (k + 3) (fun x hx => hv x (List.mem_cons_of_mem _ hx)) (by simp only [List.length_cons] at hk; omega) hl
      have ew : wrap64 (((sp 0 P).length : Int) + 1) = ((sp 0 (P ++ [v])).length : Int) := by rw [es, List.length_append]; unfold wrap64; simp; omega
      have ex : (P ++ List.replicate (v :: Q).length tinf) = P ++ tinf :: List.replicate Q.length tinf := by rw [List.length_cons, List.replicate_succ]
      have em : mn (mn 1152921504606846976 tinf) v = v := by
        have h2 : 0 ≤ v ∧ v ≤ 1152921504606846976 := h1
        rw [show tinf = 1152921504606846976 from rfl, show mn (1152921504606846976 : Int) 1152921504606846976 = 1152921504606846976 from by unfold mn; split <;> omega]
        unfold mn; split <;> omega
      rw [side_row.l1, if_pos (by omega), if_pos (by omega), if_pos (by omega), er, if_pos (by simp), if_pos (by rw [ex]; simp; omega), ex, rd_mid, show k + 3 = 3 + k from by omega, min2_up, Option.bind_some, em, ew, show 3 + k = k + 3 from by omega]
      have es2 : (P ++ tinf :: List.replicate Q.length tinf).set ((P.length : Int)).toNat v = (P ++ [v]) ++ List.replicate Q.length tinf := by
        rw [Int.toNat_natCast, List.set_append_right _ _ (Nat.le_refl _), Nat.sub_self]; simp
      rw [es2]; exact ih2
    · have ev : v = tinf := by unfold tv at h1; unfold tinf at *; omega
      have es : sp 0 (P ++ [v]) = sp 0 P := by
        rw [sp_append]; unfold sp; simp [spA, hlt]
      have ih2 := ih k (fun x hx => hv x (List.mem_cons_of_mem _ hx)) (by simp only [List.length_cons] at hk; omega) hl
      rw [es] at ih2
      rw [List.length_cons, List.replicate_succ]
      have e3 : P ++ tinf :: List.replicate Q.length tinf = (P ++ [v]) ++ List.replicate Q.length tinf := by rw [ev]; simp
      rw [e3]; exact ih2
theorem row_l0 (l : List S94) : ∀ (d m k : Nat) (r : List Int), m + d < 1000000 → (∀ k2, k ≤ k2 → side_row.l1 k2 (List.replicate (m + d) tinf) l (l.length : Int) 0 = some r) → side_row.l0 (k + d + 1) l (List.replicate m tinf) ((m + d : Nat) : Int) (m : Int) = some r
  | 0, m, k, r, _, h => by
    rw [Nat.add_zero, side_row.l0, if_neg (by omega)]
    exact h k (Nat.le_refl _)
  | d + 1, m, k, r, hm, h => by
    rw [show k + (d + 1) + 1 = (k + d + 1) + 1 from by omega, side_row.l0, if_pos (by omega), if_pos (by rw [List.length_replicate]; omega)]
    have e1 : List.replicate m tinf ++ [1152921504606846976] = List.replicate (m + 1) tinf := by rw [List.replicate_succ']; rfl
    have e2 : wrap64 ((m : Int) + 1) = ((m + 1 : Nat) : Int) := by unfold wrap64; omega
    rw [e1, e2, show m + (d + 1) = (m + 1) + d from by omega]
    exact row_l0 l d (m + 1) k r (by omega) (fun k2 hk2 => by rw [show m + 1 + d = m + (d + 1) from by omega]; exact h k2 hk2)
theorem row_is (L : List Int) (hv : ∀ v ∈ L, tv v) (hl : L.length < 1000000) (k : Nat) (hk : 2 * L.length + 6 ≤ k) : side_row.f k (sp 0 L) (L.length : Int) = some L := by
  have h := row_l0 (sp 0 L) L.length 0 (k - L.length - 1) L (by omega) (fun k2 hk2 => by
    have := row_l1 L [] k2 hv (by omega) (by simpa using hl)
    simpa [sp, spA] using this)
  rw [show k - L.length - 1 + L.length + 1 = k from by omega, Nat.zero_add] at h
  exact h
end Go.Proofs.Ytnnpfgpfkningaa.P
namespace Go.Proofs.Ytnnpfgpfkningaa.P
open Go.RowKit Go.Proofs.YtnnpfgpfkningaaW.PrintWords Go.Proofs.YtnnpfgpfkningaaW.PrintLast Go.Proofs.YtnnpfgpfkningaaW.PrintMore
attribute [local go_sem] max2_int min2_int max_two min_two max_three min_three max_four min_four   -- for this text's walks alone
attribute [local go_sem ↓ high] Go.Proofs.YtnnpfgpfkningaaX.isSome_setCell
set_option linter.unusedVariables false
set_option linter.unusedSimpArgs false
theorem sh0 (l : List S51) : l.map (shA 0) = l := by
  induction l with
  | nil => rfl
  | cons a t ih => rw [List.map_cons, ih]; cases a; simp [shA]
theorem make_rs {defs : List S61} {x : S33} {S : Sd} (h : RS defs x S) : ∃ K, ∀ k, K ≤ k → ∀ rs, side_MakeP.f k x.f0 x.f1 x.f2 x.f3 x.f4 x.f5 defs rs = if S.sets.length ≤ 120 then some (S.sets, S.first, S.ends, S.arcs, S.none, true) else some ([], [], [], [], 0, false) := by
  obtain ⟨Z, hZ⟩ := size_is x S h
  have ok := h.ok
  by_cases hl : S.sets.length ≤ 120
  · obtain ⟨N, hN⟩ := mk_is (sz := szF) size_is h hl
    refine ⟨Z + N + 300, fun k hk rs => ?_⟩
    have h1 : side_Size.f k x.f0 x.f1 x.f2 x.f3 x.f4 x.f5 = some (sizeI S) := hZ k (by omega)
    have h2 := hN k (by omega) k (by omega) ⟨[], []⟩ ⟨⟨List.Pairwise.nil, fun a ha => (by cases ha)⟩, fun a ha => (by cases ha)⟩ (by simpa using hl)
    have e2 : stS ⟨[], []⟩ S = ⟨S.sets, S.arcs⟩ := by simp [stS, sh0]
    have e0 : (((⟨[], []⟩ : St).sets.length : Nat) : Int) = 0 := rfl
    rw [e2, e0] at h2
    have hs : sizeI S = S.sets.length := by unfold sizeI mn; split <;> omega
    have hf := arcs_few ok.up ok.rng
    have hf2 := sq_le hl
    have okp := okP_sp 0 S (by omega) (by omega) ok
    have r1 := row_is S.first ok.vf (by rw [ok.lf]; omega) k (by rw [ok.lf]; omega)
    have r2 := row_is S.ends ok.ve (by rw [ok.le]; omega) k (by rw [ok.le]; omega)
    rw [ok.lf] at r1
    rw [ok.le] at r2
    rw [if_pos hl]
    unfold side_MakeP.f
    rw [h1, Option.bind_some, if_neg (by omega)]
    have h3 : mkF defs (szF k) k ⟨x.f0, x.f1, x.f2, x.f3, x.f4, x.f5⟩ ⟨[], []⟩ = some (pcS 0 S, ⟨S.sets, S.arcs⟩) := by cases x; exact h2
    rw [h3, Option.bind_some]
    show (if okP (pcS 0 S) = true ∧ S.sets.length < 1000000 ∧ S.arcs.length < 1000000 then _ else _) = _
    rw [if_pos ⟨okp, by omega, by omega⟩]
    show (side_row.f k (sp 0 S.first) (S.sets.length : Int)).bind _ = _
    rw [r1, Option.bind_some]
    show (side_row.f k (sp 0 S.ends) (S.sets.length : Int)).bind _ = _
    rw [r2]; rfl
  · refine ⟨Z, fun k hk rs => ?_⟩
    have h1 : side_Size.f k x.f0 x.f1 x.f2 x.f3 x.f4 x.f5 = some (sizeI S) := hZ k hk
    have hs : 120 < sizeI S := by unfold sizeI mn; split <;> omega
    rw [if_neg hl]
    unfold side_MakeP.f
    rw [h1, Option.bind_some, if_pos hs]
theorem lg_rs (a b : Int) (ha : 1 ≤ a ∧ a ≤ 12) (hb : 1 ≤ b ∧ b ≤ 12) : RS knD (lgX a b) (tmS (tmS (posS (-1)) 0 a.toNat 1) 1 b.toNat 1) :=
  .times 1 b 0 ⟨#[]⟩ _ _ (by omega) (by omega) hb.2 (.times 0 a 0 ⟨#[]⟩ _ _ (by omega) (by omega) ha.2 (.any 0 0 0 ⟨#[]⟩))
theorem lg_len (a b : Int) (ha : 1 ≤ a ∧ a ≤ 12) (hb : 1 ≤ b ∧ b ≤ 12) : ((tmS (tmS (posS (-1)) 0 a.toNat 1) 1 b.toNat 1).sets.length : Int) = a * b := by
  rw [tm_len, tm_len]
  have e : (posS (-1)).sets.length = 1 := rfl
  rw [e, Int.natCast_mul, Int.natCast_mul, Int.toNat_of_nonneg (by omega), Int.toNat_of_nonneg (by omega), Int.natCast_one, Int.mul_one, Int.mul_comm]
theorem lg_make (a b : Int) (ha : 1 ≤ a ∧ a ≤ 12) (hb : 1 ≤ b ∧ b ≤ 12) : ∃ (km : Nat) (r1 r2 r3 : List Int) (r4 : List S51) (r5 : Int) (r6 : Bool), side_MakeP.f km 7 1 b 0 ⟨#[]⟩ (lgX a b).f5 knD [] = some (r1, r2, r3, r4, r5, r6) ∧ r6 = decide (a * b ≤ 120) ∧ (r6 = true → (r1.length : Int) = a * b) ∧ (r6 = false → (r1.length : Int) = 0) := by
  obtain ⟨K, hK⟩ := make_rs (lg_rs a b ha hb)
  have h := hK K (Nat.le_refl _) []
  have hl := lg_len a b ha hb
  by_cases hq : a * b ≤ 120
  · rw [if_pos (by omega)] at h
    exact ⟨K, _, _, _, _, _, true, h, (decide_eq_true hq).symm, fun _ => hl, fun e => (by cases e)⟩
  · rw [if_neg (by omega)] at h
    exact ⟨K, _, _, _, _, _, false, h, (decide_eq_false hq).symm, fun e => (by cases e), fun _ => rfl⟩
theorem large_true (n m deep : Int) (w : World) : Calls Try.prog 5 #[.int .i64 n, .int .i64 m, .int .i64 deep] w fun e w' => e = .returned (.bool true) ∧ Below w.heap.size w w' := by
  have hn := wth_range n 12 (by omega)
  have hm := wth_range m 12 (by omega)
  have ha : 1 ≤ 1 + wth n 12 ∧ 1 + wth n 12 ≤ 12 := by omega
  have hb : 1 ≤ 1 + wth m 12 ∧ 1 + wth m 12 ≤ 12 := by omega
  obtain ⟨km, r1, r2, r3, r4, r5, r6, h1, h2, h3, h4⟩ := lg_make _ _ ha hb
  exact large_calls n m deep _ _ km 60 r1 r2 r3 r4 r5 r6 rfl rfl h1 h2 h3 h4 (fun i hi => lg_sizes' _ _ ha hb i hi) w
end Go.Proofs.Ytnnpfgpfkningaa.P
