-- Joined by wip/merge.py (a program of this repo) out of texts of this claim, cut down to what it reaches; Lean checks it.
import Derived.Test.YtnnpfgpfkningaaO1
import Derived.Test.YtnnpfgpfkningaaO2
namespace Go.Proofs.Ytnnpfgpfkningaa.P
open Go.RowKit Go.Proofs.YtnnpfgpfkningaaW.PrintWords Go.Proofs.YtnnpfgpfkningaaW.PrintLast Go.Proofs.YtnnpfgpfkningaaW.PrintMore
attribute [local go_sem] max2_int min2_int max_two min_two max_three min_three max_four min_four   -- for this text's walks alone
attribute [local go_sem ↓ high] Go.Proofs.YtnnpfgpfkningaaX.isSome_setCell
set_option linter.unusedVariables false
set_option linter.unusedSimpArgs false
theorem insA_same {a : S51} : ∀ {l : List S51}, l.Pairwise aLt → ∀ {y : S51}, y ∈ l → y.f0 = a.f0 → y.f1 = a.f1 → y.f2 ≤ a.f2 → insA a l = l
 | b :: l, h, y, hy, e1, e2, e3 => by
  obtain ⟨h1, h2⟩ := List.pairwise_cons.1 h
  unfold insA
  rcases List.mem_cons.1 hy with rfl | hy
  ·rw [if_neg (by unfold aLt; omega), if_pos ⟨e1, e2⟩, if_neg (by omega)]
  ·have := h1 y hy
   rw [if_pos (by unfold aLt at *; omega), insA_same h2 hy e1 e2 e3]
theorem joinA_same {l : List S51} (h : ArcsUp l) {y : S51} (hy : y ∈ l) {f t c : Int} (e1 : y.f0 = f) (e2 : y.f1 = t) (e3 : y.f2 ≤ c) : joinA l ⟨f, t, c⟩ = l := by
 unfold joinA
 split
 ·exact insA_same h.up hy e1 e2 e3
 ·rfl
theorem zeroInt (w : World) : (zeroValue 3).run Try.prog w = .ok (.int .i64 0) w := by kernel_rfl
theorem look96 {W : World} {mp n : Nat} {D : DataW Unit} (h : W.ownsMap Try.prog 96 (plainElem Try.prog 3) mp n D) {f t ci : Int} {bb : Bool} (hk : keyOf Try.prog 96 (.agg #[.int .i64 f, .int .i64 t]) = some (kl2 f t)) (h1 : Maps.has D (kl2 f t) = bb) (h2 : D.atKey (kl2 f t) (.lit (.int .i64 0)) = .lit (.int .i64 ci)) :
  (Instr.lookup 67 (.map (some mp)) (.agg #[.int .i64 f, .int .i64 t]) true).run Try.prog W = .ok (.tuple #[.int .i64 ci, .bool bb]) W := by
 obtain ⟨v, ps, hr, hv⟩ := h.look_ok keyed96 Try.underlying67 (zeroInt W) (zd := .lit (.int .i64 0)) (zp := []) (by simp [plainElem, Try.underlying3]; decide) hk
 rw [h2] at hv
 obtain ⟨c, rfl, hy, _⟩ := plainElem_int_inv Try.underlying3 hv
 obtain rfl : ci = c := by
  have e := congrArg Prod.fst hy
  simp only [DataW.lit.injEq, Lit.int.injEq, true_and] at e
  exact e
 subst h1
 exact hr
theorem store96 {W : World} {mp : Nat} {D : DataW Unit} {l : List S51} (h : W.ownsMap Try.prog 96 (plainElem Try.prog 3) mp l.length D) (hA : ArcsAre D l) {f t c : Int} (hf : (Lit.int .i64 f).wf = true) (ht : (Lit.int .i64 t).wf = true) (hc : (Lit.int .i64 c).wf = true) (hn : l.length < 1000000000) (hlow : c < tinf) (hless : ∀ b ∈ l, sameK ⟨f, t, c⟩ b → c < b.f2) :
  ∃ W1, (Instr.mapUpdate 67 (.map (some mp)) (.agg #[.int .i64 f, .int .i64 t]) (.int .i64 c)).run Try.prog W = .ok () W1 ∧ W.grownBy W1 (some mp) ∧ MapAt W1 mp (joinA l ⟨f, t, c⟩) := by
 obtain ⟨W1, h1, h2, h3⟩ := h.update keyed96 Try.underlying67 (by unfold maxLen; omega) (key96 hf ht) (val := .int .i64 c) (d := .lit (.int .i64 c)) (ps := []) (by simp [plainElem, Try.underlying3, hc])
 have hp := hA.put (h.tidy keyed96) ⟨f, t, c⟩ hf ht hc hlow hless
 refine ⟨W1, h1, h3, _, ?_, by unfold joinA; rw [if_pos hlow]; exact hp⟩
 have := ownsMap_lower h2
 rw [hp.size] at this
 unfold joinA; rw [if_pos hlow]; exact this
theorem grown_drew {w W : World} {r : Option Nat} (h : w.grownBy W r) : w.grownBy W.drew r := ⟨h.os, h.tape, h.output, h.size, h.block⟩
theorem grown_undrew {w W : World} {r : Option Nat} (h : w.drew.grownBy W r) : w.grownBy W r := ⟨h.os, h.tape, h.output, h.size, h.block⟩
theorem gen_wp {P : Program} {c : Code} {Q : Exit → Act → World → Prop} {a : Act} {W : World} (A : World → Prop) (h : A W) (k : ∀ W', A W' → Code.wp P c Q a W') : Code.wp P c Q a W := k W h
set_option maxRecDepth 100000 in
set_option maxHeartbeats 4000000 in
theorem join_calls (b mp : Nat) (l : List S51) (f t c : Int) (w : World) (hc : w.cell? ⟨b, 0, none⟩ = some (.map (some mp))) (hm : MapAt w mp l) (hf : (Lit.int .i64 f).wf = true) (ht : (Lit.int .i64 t).wf = true) (hcw : (Lit.int .i64 c).wf = true) (hn : l.length < 1000000000) :
  Calls Try.prog 64 #[.pointer (some ⟨b, 0, none⟩), .int .i64 f, .int .i64 t, .int .i64 c] w fun e w' => e = .returned (.tuple #[]) ∧ w.grownBy w' (some mp) ∧ MapAt w' mp (joinA l ⟨f, t, c⟩) := by
 have hbm : b ≠ mp := by
  rintro rfl
  obtain ⟨D, ⟨es, clock, hh, _⟩, _⟩ := hm
  simp [World.cell?, hh] at hc
 have hblt : b < w.heap.size := World.block_lt_of_cell? w _ hc
 obtain ⟨D, hown, hA⟩ := hm
 have HT := Aside0.mk (hown.tidy keyed96)
 have hlt := hown.lt
 obtain ⟨bb, hbb⟩ : ∃ bb, Maps.has D (kl2 f t) = bb := ⟨_, rfl⟩
 obtain ⟨ci, hci⟩ : ∃ ci, D.atKey (kl2 f t) (.lit (.int .i64 0)) = .lit (.int .i64 ci) := by
  cases bb with
  | true =>
   obtain ⟨a, ha, rfl, rfl⟩ := (hA.has_iff hf ht).1 hbb
   exact ⟨_, hA.at_ a ha _⟩
  | false => exact ⟨0, Go.Maps.atKey_of_not_has hbb _⟩
 have HL : Aside0 (∀ W, W.ownsMap Try.prog 96 (plainElem Try.prog 3) mp l.length D → (Instr.lookup 67 (.map (some mp)) (.agg #[.int .i64 f, .int .i64 t]) true).run Try.prog W = .ok (.tuple #[.int .i64 ci, .bool bb]) W) := ⟨fun W h => look96 h (key96 hf ht) hbb hci⟩
 have HA := Aside0.mk hA
 have HK := Aside0.mk (key96 hf ht)
 have HW := Aside0.mk (And.intro hf (And.intro ht hcw))
 have HN := Aside0.mk hn
 have HB := Aside0.mk (And.intro hbb hci)
 have HOWN := Aside0.mk hown
 have HNE := Aside0.mk (And.intro hbm (And.intro hblt hlt))
 have HC := Aside0.mk hc
 clear hown hA hf ht hcw hbb hci hn hbm hlt hc hblt
 go_enter Try.func64, Try.ntmps64
 go_wp2
 refine gen_wp (fun W' => w.grownBy W' none ∧ W'.cell? ⟨b, 0, none⟩ = some (.map (some mp)) ∧ W'.cell? ⟨w.heap.size, 0, none⟩ = some (.int .i64 f) ∧ W'.cell? ⟨w.heap.size, 1, none⟩ = some (.int .i64 t) ∧ W'.ownsMap Try.prog 96 (plainElem Try.prog 3) mp l.length D) ⟨World.grownBy_alloc w _ none, ?_, ?_, ?_, HOWN.out.alloc _⟩ (fun W1 hW1 => ?_)
 ·exact ((below_alloc (Below.refl w.heap.size w) _).cell HNE.out.2.1).trans HC.out
 ·go_simp
 ·go_simp
 obtain ⟨hg, hc, hk0, hk1, hown⟩ := hW1
 have hlook := HL.out W1 hown
 have HG := Aside0.mk hg
 have HOWN1 := Aside0.mk hown
 clear hg hown
 generalize hH : w.heap.size = H at hk0 hk1
 go_region_held3 (fun w' => w'.cell? ⟨b, 0, none⟩ = some (.map (some mp)) ∧ w'.cell? ⟨H, 0, none⟩ = some (.int .i64 f) ∧ w'.cell? ⟨H, 1, none⟩ = some (.int .i64 t) ∧ (Instr.lookup 67 (.map (some mp)) (.agg #[.int .i64 f, .int .i64 t]) true).run Try.prog w' = .ok (.tuple #[.int .i64 ci, .bool bb]) w') (refine ⟨?_, ?_, ?_, ?_⟩ <;> first | go_keep | exact HL.out _ HOWN1.out | exact HL.out _ HOWN1.out.drew) (fail)
 clear hlook HL
 by_cases hinf : c < 1152921504606846976
 ·have c1 : decide (c < 1152921504606846976) = true := decide_eq_true hinf
  have HINF := Aside0.mk hinf
  clear hinf
  cases bb with
  | false =>
   have HLESS : Aside0 (∀ b ∈ l, sameK ⟨f, t, c⟩ b → c < b.f2) := ⟨fun y hy hs => by
    have := (HA.out.has_iff HW.out.1 HW.out.2.1).2 ⟨y, hy, hs⟩
    rw [HB.out.1] at this; cases this⟩
   go_wp2
   obtain ⟨W2, r1, r2, r3⟩ := store96 (HOWN1.out.drew.drew) HA.out HW.out.1 HW.out.2.1 HW.out.2.2 HN.out HINF.out HLESS.out
   have R23 := Aside0.mk (And.intro r2 r3)
   have d0 := (r2.cell_far ⟨b, 0, none⟩ (by have := HNE.out; have := HG.out.size; simp; omega) (by have := HNE.out; simp; omega)).trans hc
   have d1 := (r2.cell_far ⟨H, 0, none⟩ (by have := World.block_lt_of_cell? W1 _ hk0; simpa using this) (by have := HNE.out; simp; omega)).trans hk0
   have d2 := (r2.cell_far ⟨H, 1, none⟩ (by have := World.block_lt_of_cell? W1 _ hk0; simpa using this) (by have := HNE.out; simp; omega)).trans hk1
   clear r2 r3
   go_region_held3 (fun w' => w'.cell? ⟨b, 0, none⟩ = some (.map (some mp)) ∧ w'.cell? ⟨H, 0, none⟩ = some (.int .i64 f) ∧ w'.cell? ⟨H, 1, none⟩ = some (.int .i64 t)) (refine ⟨?_, ?_, ?_⟩ <;> first | go_keep | assumption) (fail)
   clear r1
   go_wp2
   go_end0
   exact ⟨rfl, (HG.out.but _).andThen (grown_undrew (grown_undrew R23.out.1)) (fun k hk => .inr hk), R23.out.2⟩
  | true =>
   by_cases hl : c < ci
   ·have c2 : decide (c < ci) = true := decide_eq_true hl
    have HLESS : Aside0 (∀ b ∈ l, sameK ⟨f, t, c⟩ b → c < b.f2) := ⟨fun y hy hs => by
     have e := HA.out.at_ y hy (.lit (.int .i64 0))
     have e1 : y.f0 = f := hs.1
     have e2 : y.f1 = t := hs.2
     rw [e1, e2, HB.out.2] at e
     injection e with e
     injection e with _ e
     omega⟩
    clear hl
    go_wp2
    obtain ⟨W2, r1, r2, r3⟩ := store96 (HOWN1.out.drew.drew) HA.out HW.out.1 HW.out.2.1 HW.out.2.2 HN.out HINF.out HLESS.out
    have R23 := Aside0.mk (And.intro r2 r3)
    have d0 := (r2.cell_far ⟨b, 0, none⟩ (by have := HNE.out; have := HG.out.size; simp; omega) (by have := HNE.out; simp; omega)).trans hc
    have d1 := (r2.cell_far ⟨H, 0, none⟩ (by have := World.block_lt_of_cell? W1 _ hk0; simpa using this) (by have := HNE.out; simp; omega)).trans hk0
    have d2 := (r2.cell_far ⟨H, 1, none⟩ (by have := World.block_lt_of_cell? W1 _ hk0; simpa using this) (by have := HNE.out; simp; omega)).trans hk1
    clear r2 r3
    go_region_held3 (fun w' => w'.cell? ⟨b, 0, none⟩ = some (.map (some mp)) ∧ w'.cell? ⟨H, 0, none⟩ = some (.int .i64 f) ∧ w'.cell? ⟨H, 1, none⟩ = some (.int .i64 t)) (refine ⟨?_, ?_, ?_⟩ <;> first | go_keep | assumption) (fail)
    clear r1
    go_wp2
    go_end0
    exact ⟨rfl, (HG.out.but _).andThen (grown_undrew (grown_undrew R23.out.1)) (fun k hk => .inr hk), R23.out.2⟩
   ·have c2 : decide (c < ci) = false := decide_eq_false hl
    have HJ : Aside0 (joinA l ⟨f, t, c⟩ = l) := ⟨by
     obtain ⟨y, hy, e1, e2⟩ := (HA.out.has_iff HW.out.1 HW.out.2.1).1 HB.out.1
     have e := HA.out.at_ y hy (.lit (.int .i64 0))
     rw [e1, e2, HB.out.2] at e
     injection e with e
     injection e with _ e
     exact joinA_same HA.out.up hy e1 e2 (show y.f2 ≤ c by omega)⟩
    clear hl
    go_wp2
    go_end0
    exact ⟨rfl, grown_drew (HG.out.but _), by rw [HJ.out]; exact ⟨D, HOWN1.out, HA.out⟩⟩
 ·have c1 : decide (c < 1152921504606846976) = false := decide_eq_false hinf
  have HJ : Aside0 (joinA l ⟨f, t, c⟩ = l) := ⟨by unfold joinA; rw [if_neg (show ¬ c < tinf from hinf)]⟩
  clear hinf
  go_wp2
  go_end0
  exact ⟨rfl, grown_drew (HG.out.but _), by rw [HJ.out]; exact ⟨D, HOWN1.out, HA.out⟩⟩
def tadd (a b : Int) : Int := mn (wrap64 ((mn a 1152921504606846976) + (mn b 1152921504606846976))) 1152921504606846976
theorem trop_Add_tadd (a b : Int) : trop_Add.f a b = some (tadd a b) := rfl
theorem wf_of (x : Int) (h1 : -9223372036854775808 ≤ x) (h2 : x ≤ 9223372036854775807) : (Lit.int .i64 x).wf = true := by
 have : wrap64 x = x := by unfold wrap64; omega
 rw [← this]; exact wrap64_wf x
theorem wf_tadd (a b : Int) : (Lit.int .i64 (tadd a b)).wf = true := by
 have h1 : -9223372036854775808 ≤ tadd a b ∧ tadd a b ≤ 9223372036854775807 := by
  unfold tadd mn wrap64; split <;> omega
 exact wf_of _ h1.1 h1.2
def linkA (l : List S51) (cost : Int) (a : S94) (first : List S94) : List S51 := first.foldl (fun l b => joinA l ⟨a.f0, b.f0, tadd (tadd a.f1 cost) b.f1⟩) l
def linkL (l : List S51) (ends first : List S94) (cost : Int) : List S51 := ends.foldl (fun l a => linkA l cost a first) l
theorem insA_len (a : S51) : ∀ l, (insA a l).length ≤ l.length + 1
 | [] => by simp [insA]
 | b :: l => by
  have := insA_len a l
  unfold insA; split
  ·simp only [List.length_cons]; omega
  ·split <;> simp
theorem joinA_len (l : List S51) (a : S51) : (joinA l a).length ≤ l.length + 1 := by
 unfold joinA; split
 ·exact insA_len a l
 ·omega
theorem linkA_len (cost : Int) (a : S94) (first : List S94) : ∀ l, (linkA l cost a first).length ≤ l.length + first.length := by
 induction first with
 | nil => intro l; simp [linkA]
 | cons b first ih =>
  intro l
  have h1 := ih (joinA l ⟨a.f0, b.f0, tadd (tadd a.f1 cost) b.f1⟩)
  have h2 := joinA_len l ⟨a.f0, b.f0, tadd (tadd a.f1 cost) b.f1⟩
  unfold linkA at *
  rw [List.foldl_cons, List.length_cons]; omega
theorem linkL_len (cost : Int) (first : List S94) (ends : List S94) : ∀ l, (linkL l ends first cost).length ≤ l.length + ends.length * first.length := by
 induction ends with
 | nil => intro l; simp [linkL]
 | cons a ends ih =>
  intro l
  have h1 := ih (linkA l cost a first)
  have h2 := linkA_len cost a first l
  unfold linkL at *
  rw [List.foldl_cons, List.length_cons, Nat.add_mul]; omega
theorem linkA_succ (l : List S51) (cost : Int) (a : S94) (first : List S94) (j : Int) (h0 : 0 ≤ j) (h1 : j < first.length) : linkA l cost a (first.take (j + 1).toNat) = joinA (linkA l cost a (first.take j.toNat)) ⟨a.f0, (rd_T94 first j).f0, tadd (tadd a.f1 cost) (rd_T94 first j).f1⟩ := by
 have e : (j + 1).toNat = j.toNat + 1 := by omega
 have hj : j.toNat < first.length := by omega
 unfold linkA rd_T94
 rw [e, List.take_succ_eq_append_getElem hj, List.foldl_append, List.getD_eq_getElem?_getD, List.getElem?_eq_getElem hj]
 rfl
theorem linkL_succ (l : List S51) (cost : Int) (ends first : List S94) (i : Int) (h0 : 0 ≤ i) (h1 : i < ends.length) : linkL l (ends.take (i + 1).toNat) first cost = linkA (linkL l (ends.take i.toNat) first cost) cost (rd_T94 ends i) first := by
 have e : (i + 1).toNat = i.toNat + 1 := by omega
 have hi : i.toNat < ends.length := by omega
 unfold linkL rd_T94
 rw [e, List.take_succ_eq_append_getElem hi, List.foldl_append, List.getD_eq_getElem?_getD, List.getElem?_eq_getElem hi]
 rfl
theorem cell_grown_map {w W : World} {mp : Nat} {l : List S51} (hm : MapAt w mp l) (hg : w.grownBy W (some mp)) {a : Addr} {u : Value} (h : w.cell? a = some u) : W.cell? a = some u := by
 refine (hg.cell_far a (World.block_lt_of_cell? w _ h) (fun e => ?_)).trans h
 obtain ⟨D, ⟨es, clock, hh, _⟩, _⟩ := hm
 injection e with e
 simp [World.cell?, e, hh] at h
theorem C94_grown {w W : World} {A : Option Addr} {n : Nat} {xs : List S94} (h : Kd.C k94 w A n xs) {mp : Nat} {l : List S51} (hm : MapAt w mp l) (hg : w.grownBy W (some mp)) : Kd.C k94 W A n xs := by
 obtain ⟨h1, h2, h3⟩ := h
 refine ⟨h1, h2, fun hn => ?_⟩
 obtain ⟨ad, e, hc⟩ := h3 hn
 refine ⟨ad, e, fun j p hp => ?_⟩
 obtain ⟨c, c1, c2, c3⟩ := hc j p hp
 obtain rfl := k94_open c2
 exact ⟨_, c1, k94_mk W p, fun i u hu => cell_grown_map hm hg (c3 i u hu)⟩
structure LkAt (W : World) (b mp : Nat) (l : List S51) (g h : Nat) (x y : S94) : Prop where
 cb : W.cell? ⟨b, 0, none⟩ = some (.map (some mp))
 map : MapAt W mp l
 x0 : W.cell? ⟨g, 0, none⟩ = some (.int .i64 x.f0)
 x1 : W.cell? ⟨g, 1, none⟩ = some (.int .i64 x.f1)
 y0 : W.cell? ⟨h, 0, none⟩ = some (.int .i64 y.f0)
 y1 : W.cell? ⟨h, 1, none⟩ = some (.int .i64 y.f1)
theorem LkAt.below {W W1 : World} {b mp : Nat} {l : List S51} {g h : Nat} {x y : S94} (k : LkAt W b mp l g h x y) (hb : Below W.heap.size W W1) : LkAt W1 b mp l g h x y :=
 have c := fun {a : Addr} {u : Value} (q : W.cell? a = some u) => (hb.cell (World.block_lt_of_cell? W _ q)).trans q
 ⟨c k.cb, k.map.below hb, c k.x0, c k.x1, c k.y0, c k.y1⟩
theorem LkAt.grown {W W1 : World} {b mp : Nat} {l l1 : List S51} {g h : Nat} {x y : S94} (k : LkAt W b mp l g h x y) (hg : W.grownBy W1 (some mp)) (hm : MapAt W1 mp l1) : LkAt W1 b mp l1 g h x y :=
 have c := fun {a : Addr} {u : Value} (q : W.cell? a = some u) => cell_grown_map k.map hg q
 ⟨c k.cb, hm, c k.x0, c k.x1, c k.y0, c k.y1⟩
theorem LkAt.drew {W : World} {b mp : Nat} {l : List S51} {g h : Nat} {x y : S94} (k : LkAt W b mp l g h x y) : LkAt W.drew b mp l g h x y := ⟨k.cb, k.map, k.x0, k.x1, k.y0, k.y1⟩
theorem LkAt.S {W : World} {b mp : Nat} {l : List S51} {g h : Nat} {x y : S94} (k : LkAt W b mp l g h x y) : W.cell? ⟨g, 0, none⟩ = some (.int .i64 x.f0) ∧ W.cell? ⟨g, 1, none⟩ = some (.int .i64 x.f1) ∧ W.cell? ⟨h, 0, none⟩ = some (.int .i64 y.f0) ∧ W.cell? ⟨h, 1, none⟩ = some (.int .i64 y.f1) := ⟨k.x0, k.x1, k.y0, k.y1⟩
theorem below_grown {w W : World} (hb : Below w.heap.size w W) (r : Option Nat) : w.grownBy W r := ⟨hb.os, hb.tape, hb.output, hb.size, fun k hk _ => hb.block k hk⟩
structure LnAt (w W : World) (mp : Nat) (l : List S51) : Prop where
 gr : w.grownBy W (some mp)
 map : MapAt W mp l
theorem LnAt.drew {w W : World} {mp : Nat} {l : List S51} (k : LnAt w W mp l) : LnAt w W.drew mp l := ⟨grown_drew k.gr, k.map⟩
theorem LnAt.below {w W W1 : World} {mp : Nat} {l : List S51} (k : LnAt w W mp l) (hb : Below W.heap.size W W1) : LnAt w W1 mp l := ⟨k.gr.andThen (below_grown hb none) (fun j hj => by cases hj), k.map.below hb⟩
theorem LnAt.grown {w W W1 : World} {mp : Nat} {l l1 : List S51} (k : LnAt w W mp l) (hg : W.grownBy W1 (some mp)) (hm : MapAt W1 mp l1) : LnAt w W1 mp l1 := ⟨k.gr.andThen hg (fun j hj => .inr hj), hm⟩
set_option maxRecDepth 100000 in
set_option maxHeartbeats 4000000 in
theorem link_calls (b mp : Nat) (l : List S51) (A1 A2 : Option Addr) (c1 c2 : Nat) (ends first : List S94) (cost : Int) (w : World) (hc : w.cell? ⟨b, 0, none⟩ = some (.map (some mp))) (hm : MapAt w mp l) (h1 : Kd.C k94 w A1 ends.length ends) (h2 : Kd.C k94 w A2 first.length first)
  (hw1 : ∀ a ∈ ends, (Lit.int .i64 a.f0).wf = true) (hw2 : ∀ a ∈ first, (Lit.int .i64 a.f0).wf = true) (hn : l.length + ends.length * first.length < 1000000000) (hl1 : ends.length < 1000000000) (hl2 : first.length < 1000000000) :
  Calls Try.prog 43 #[.pointer (some ⟨b, 0, none⟩), .slice A1 ends.length c1, .slice A2 first.length c2, .int .i64 cost] w fun e w' => e = .returned (.tuple #[]) ∧ w.grownBy w' (some mp) ∧ MapAt w' mp (linkL l ends first cost) := by
 have HC := Aside0.mk hc
 have HM := Aside0.mk hm
 have H1 := Aside0.mk h1
 have H2 := Aside0.mk h2
 have HW1 := Aside0.mk hw1
 have HW2 := Aside0.mk hw2
 have HN := Aside0.mk (And.intro hn (And.intro hl1 hl2))
 have HLN : Aside0 (LnAt w w mp (linkL l (ends.take (0 : Int).toNat) first cost)) := ⟨⟨World.grownBy.refl w _, hm⟩⟩
 clear hc hm h1 h2 hw1 hw2 hn hl1 hl2
 go_enter Try.func43, Try.ntmps43
 go_wp2
 go_loopw [14] (fun v14 W => ∃ i : Int, v14 = .int .i64 i ∧ Aside0 (0 ≤ i ∧ i ≤ ends.length) ∧ Aside0 (LnAt w W mp (linkL l (ends.take i.toNat) first cost))) (fun i _ => ((ends.length : Int) - intOf i).toNat)
 case atStart => exact ⟨0, rfl, ⟨by omega⟩, HLN⟩
 case round =>
  clear HLN
  obtain ⟨i, rfl, HK, HLN⟩ := hrel
  by_cases hlt : i < ends.length
  ·have h0 : 0 ≤ i := HK.out.1
   have HS := Aside0.mk (linkL_succ l cost ends first i h0 hlt)
   obtain ⟨ad, e1, hx0, hx1⟩ := at_T94 (C94_grown H1.out HM.out HLN.out.gr) i h0 hlt
   subst e1
   have hw2 : wrap64 (i + 1) = i + 1 := by have := HN.out.2.1; unfold wrap64; omega
   have HW := Aside0.mk hw2
   have PQ := Aside0.mk (And.intro h0 hlt)
   have c1b : decide (i < (ends.length : Int)) = true := decide_eq_true hlt
   clear hlt HK hw2
   replace h0 := eq_true h0
   have h3 := eq_true PQ.out.2
   go_wp2
   have HX0 : Aside0 ((wr.alloc (.cells #[.int .i64 (rd_T94 ends i).f0, .int .i64 (rd_T94 ends i).f1] 94)).cell? ⟨wr.heap.size, 0, none⟩ = some (.int .i64 (rd_T94 ends i).f0) ∧ (wr.alloc (.cells #[.int .i64 (rd_T94 ends i).f0, .int .i64 (rd_T94 ends i).f1] 94)).cell? ⟨wr.heap.size, 1, none⟩ = some (.int .i64 (rd_T94 ends i).f1)) := ⟨(blk_cell (heap_alloc_new wr _) 0).trans rfl, (blk_cell (heap_alloc_new wr _) 1).trans rfl⟩
   have HI0 : Aside0 (LnAt w (wr.alloc (.cells #[.int .i64 (rd_T94 ends i).f0, .int .i64 (rd_T94 ends i).f1] 94)) mp (linkA (linkL l (ends.take i.toNat) first cost) cost (rd_T94 ends i) (first.take (0 : Int).toNat))) := ⟨HLN.out.below (below_alloc (Below.refl _ _) _)⟩
   have HXW : Aside0 ((Lit.int .i64 (rd_T94 ends i).f0).wf = true) := ⟨HW1.out _ (by unfold rd_T94; rw [List.getD_eq_getElem?_getD, List.getElem?_eq_getElem (by have := PQ.out; omega)]; exact List.getElem_mem _)⟩
   have HLL : Aside0 ((linkL l (ends.take i.toNat) first cost).length + first.length < 1000000000) := ⟨by
    have a1 := linkL_len cost first (ends.take i.toNat) l
    have a2 : (ends.take i.toNat).length + 1 ≤ ends.length := by have := PQ.out; rw [List.length_take]; omega
    have a3 := Nat.mul_le_mul_right first.length a2
    have a4 := HN.out.1
    rw [Nat.add_mul] at a3; omega⟩
   clear HLN hx0 hx1
   generalize linkL l (ends.take i.toNat) first cost = L at HI0 HS HLL
   generalize rd_T94 ends i = x at HX0 HI0 HS HXW
   generalize wr.heap.size = g at HX0
   go_loopw [20] (fun v20 W => ∃ j : Int, v20 = .int .i64 j ∧ Aside0 (0 ≤ j ∧ j ≤ first.length) ∧ Aside0 (LnAt w W mp (linkA L cost x (first.take j.toNat))) ∧ Aside0 (W.cell? ⟨g, 0, none⟩ = some (.int .i64 x.f0) ∧ W.cell? ⟨g, 1, none⟩ = some (.int .i64 x.f1))) (fun j _ => ((first.length : Int) - intOf j).toNat)
   case atStart => exact ⟨0, rfl, ⟨by omega⟩, HI0, HX0⟩
   case round =>
    clear HI0 HX0
    obtain ⟨j, rfl, HK, HI, HX⟩ := hrel
    by_cases hlt : j < first.length
    ·have g0 : 0 ≤ j := HK.out.1
     have HSA := Aside0.mk (linkA_succ L cost x first j g0 hlt)
     obtain ⟨ad2, e2, hy0, hy1⟩ := at_T94 (C94_grown H2.out HM.out HI.out.gr) j g0 hlt
     subst e2
     have hw3 : wrap64 (j + 1) = j + 1 := by have := HN.out.2.2; unfold wrap64; omega
     have HW3 := Aside0.mk hw3
     have PJ := Aside0.mk (And.intro g0 hlt)
     have c2b : decide (j < (first.length : Int)) = true := decide_eq_true hlt
     have HYW : Aside0 ((Lit.int .i64 (rd_T94 first j).f0).wf = true) := ⟨HW2.out _ (by unfold rd_T94; rw [List.getD_eq_getElem?_getD, List.getElem?_eq_getElem (by have := PJ.out; omega)]; exact List.getElem_mem _)⟩
     have HLJ : Aside0 ((linkA L cost x (first.take j.toNat)).length < 1000000000) := ⟨by
      have a1 := linkA_len cost x (first.take j.toNat) L
      have a2 : (first.take j.toNat).length ≤ first.length := by rw [List.length_take]; omega
      have a3 := HLL.out
      omega⟩
     clear hlt HK hw3
     replace g0 := eq_true g0
     have g3 := eq_true PJ.out.2
     go_wp2
     have HQ0 : Aside0 (LkAt (wr.alloc (.cells #[.int .i64 (rd_T94 first j).f0, .int .i64 (rd_T94 first j).f1] 94)) b mp (linkA L cost x (first.take j.toNat)) g wr.heap.size x (rd_T94 first j)) := ⟨by
      have hb := below_alloc (Below.refl wr.heap.size wr) (.cells #[.int .i64 (rd_T94 first j).f0, .int .i64 (rd_T94 first j).f1] 94)
      have c := fun {a : Addr} {u : Value} (q : wr.cell? a = some u) => (hb.cell (World.block_lt_of_cell? wr _ q)).trans q
      exact ⟨c (cell_grown_map HM.out HI.out.gr HC.out), HI.out.map.below hb, c HX.out.1, c HX.out.2, (blk_cell (heap_alloc_new wr _) 0).trans rfl, (blk_cell (heap_alloc_new wr _) 1).trans rfl⟩⟩
     have HL0 := Aside0.mk (HI.out.below (below_alloc (Below.refl _ _) (.cells #[.int .i64 (rd_T94 first j).f0, .int .i64 (rd_T94 first j).f1] 94)))
     clear hy0 hy1 HI HX
     generalize linkA L cost x (first.take j.toNat) = LJ at HQ0 HL0 HSA HLJ
     generalize rd_T94 first j = y at HQ0 HL0 HSA HYW
     generalize wr.heap.size = hh at HQ0
     refine gen_wp (fun W' => LkAt W' b mp LJ g hh x y ∧ LnAt w W' mp LJ) ⟨HQ0.out, HL0.out⟩ (fun W1 hW1 => ?_)
     have HQ := Aside0.mk hW1.1
     have HL := Aside0.mk hW1.2
     clear hW1 HQ0 HL0
     go_region_held3 (fun w' => w'.cell? ⟨g, 0, none⟩ = some (.int .i64 x.f0) ∧ w'.cell? ⟨g, 1, none⟩ = some (.int .i64 x.f1) ∧ w'.cell? ⟨hh, 0, none⟩ = some (.int .i64 y.f0) ∧ w'.cell? ⟨hh, 1, none⟩ = some (.int .i64 y.f1)) (first | exact HQ.out.S | exact HQ.out.drew.S) (first | (go_at_call 39; refine (trop_Add.calls _ _ (tadd _ _) _ rfl).mono ?_; rintro e w1 ⟨rfl, hb1⟩; have HQn := Aside0.mk (LkAt.below (by first | exact HQ.out | exact HQ.out.drew) hb1); have HLn := Aside0.mk (LnAt.below (by first | exact HL.out | exact HL.out.drew) hb1); clear HQ HL hb1; have HQ := HQn; have HL := HLn; clear HQn HLn) | (go_at_call 64; refine (join_calls b mp LJ _ _ _ _ (by first | exact HQ.out.cb | exact HQ.out.drew.cb) (by first | exact HQ.out.map | exact HQ.out.drew.map) HXW.out HYW.out (wf_tadd _ _) HLJ.out).mono ?_; rintro e w1 ⟨rfl, hg1, hm1⟩; have HQn := Aside0.mk (LkAt.grown (by first | exact HQ.out | exact HQ.out.drew) hg1 hm1); have HLn := Aside0.mk (LnAt.grown (by first | exact HL.out | exact HL.out.drew) hg1 hm1); clear HQ HL hg1 hm1; have HQ := HQn; have HL := HLn; clear HQn HLn))
     go_wp2
     go_roundw
     case rel => exact ⟨j + 1, by rw [HW3.out], ⟨by have := PJ.out; omega⟩, ⟨by rw [HSA.out]; exact HL.out⟩, ⟨HQ.out.x0, HQ.out.x1⟩⟩
     case measure => have := PJ.out; rw [HW3.out]; simp only [intOf]; omega
    ·have c2b : decide (j < (first.length : Int)) = false := decide_eq_false hlt
     have HJ := Aside0.mk (show first.take j.toNat = first from List.take_of_length_le (by omega))
     clear hlt
     go_wp2
     go_roundw
     case rel => exact ⟨i + 1, by rw [HW.out], ⟨by have := PQ.out; omega⟩, ⟨by rw [HS.out]; rw [HJ.out] at HI; exact HI.out⟩⟩
     case measure => have := PQ.out; rw [HW.out]; simp only [intOf]; omega
  ·have c1b : decide (i < (ends.length : Int)) = false := decide_eq_false hlt
   have HJ := Aside0.mk (show ends.take i.toNat = ends from List.take_of_length_le (by have := HK.out; omega))
   clear hlt
   rw [HJ.out] at HLN
   go_wp2
   go_end0
   exact ⟨rfl, HLN.out.gr, HLN.out.map⟩
def Clone_spot.f (l0 : List S94) : Option (List S94) := if l0.length < 8796093022208 then some l0 else none
set_option maxHeartbeats 800000 in
theorem Clone_spot.calls (A0 : Option Addr) (c0 : Nat) (l0 : List S94) (r : List S94) (w : World) (hr0 : Kd.C k94 w A0 l0.length l0) (hc0 : l0.length ≤ c0) (h : Clone_spot.f l0 = some r) :
  Calls Try.prog 63 #[.slice A0 l0.length c0] w fun e w' => ∃ v0_ : Value, e = .returned (v0_) ∧ Kd.R k94 94 w' w.heap.size (fun _ => True) v0_ r ∧ Below w.heap.size w w' := by
 unfold Clone_spot.f at h
 by_cases hl : l0.length < 8796093022208
 ·rw [if_pos hl] at h
  obtain rfl := Option.some.inj h
  clear h
  have HR0 := Aside0.mk hr0
  have HL := Aside0.mk hl
  clear hr0 hl
  have q24 := fun (w : World) (a : Option Addr) (n c n' c' : Nat) => Lib.run_eql_slice_nil (P := Try.prog) w _ _ a n c n' c' Try.underlying72
  rcases A0 with _ | A0
  ·go_enter Try.func63, Try.ntmps63
   go_wp2
   go_ret
   have h0 : l0 = [] := by
    rcases l0 with _ | ⟨x, l⟩
    ·rfl
    ·obtain ⟨ad, h, _⟩ := HR0.out.2.2 (by simp)
     cases h
   subst h0
   exact ⟨_, rfl, Kd.R_nil _ _ _ _ _, Below.refl _ _⟩
  ·have HO : Kd.R k94 94 (w.alloc (.cells #[] 94)) w.heap.size (fun _ => True) (.slice (some ⟨w.heap.size, 0, none⟩) 0 0) [] :=
    ⟨fun _ _ => trivial, [], World.ownsRow_made w #[] 0 (Nat.le_refl _) (Nat.zero_le _) rfl, Reps.none _ _⟩
   have HO' := Aside0.mk HO
   clear HO
   go_enter Try.func63, Try.ntmps63
   go_wp2_with (at_builtin; refine Kd.R_append_rows k94 (Rr := k94.K w) (w0 := w) w.heap.size rfl (.tmp 5) (.tmp 6) 72 94 (.agg #[(.int .i64 0), (.int .i64 0)]) 16 rfl Try.underlying72 info94 rfl (by decide) (by omega) _ [] l0 (some A0) l0.length c0 (fun _ => True) (fun k => some k ≠ (Value.slice (some ⟨w.heap.size, 0, none⟩) 0 0).ownBlock) rfl rfl HO'.out ?aR ?aM (fun _ h => ⟨trivial, h⟩) (fun _ _ => trivial) ?aB ?aS ?aL ?_)
   case aR => exact HR0.out.imp_ (below_alloc (Below.refl _ _) _) (fun _ _ h => h)
   case aM => intro x cs h; obtain rfl := k94_open h; exact k94_mkM _ _ _ x
   case aB => exact below_alloc (Below.refl _ _) _
   case aS => simp
   case aL => have := HL.out; simp; omega
   intro v1 w1 h1 hb hg hat
   have H1 := Aside0.mk h1
   have HB := Aside0.mk hb
   clear h1 hb hg hat HO' HR0
   go_wp2
   go_ret
   exact ⟨_, rfl, H1.out, HB.out⟩
 ·rw [if_neg hl] at h; cases h
def idxD : List S61 → ByteArray → Int
 | [], _ => -1
 | d :: l, nm => if d.f0.toList == nm.toList then 0 else if idxD l nm = -1 then -1 else idxD l nm + 1
set_option maxRecDepth 100000 in
set_option maxHeartbeats 4000000 in
theorem lit62_calls (xb : Nat) (d : S61) (A : Option Addr) (c : Nat) (nm : ByteArray) (w : World) (hx : w.cell? ⟨xb, 4, none⟩ = some (.string nm)) :
  Calls Try.prog 62 #[.agg #[.string d.f0, .int .i64 d.f1.f0, .int .i64 d.f1.f1, .int .i64 d.f1.f2, .string d.f1.f3, .slice A d.f1.f4.length c], .pointer (some ⟨xb, 0, none⟩)] w fun e w' => e = .returned (.bool (d.f0.toList == nm.toList)) ∧ Below w.heap.size w w' := by
 have hx2 := ((below_alloc (Below.refl w.heap.size w) (.cells #[.string d.f0, .int .i64 d.f1.f0, .int .i64 d.f1.f1, .int .i64 d.f1.f2, .string d.f1.f3, .slice A d.f1.f4.length c] 61)).cell (World.block_lt_of_cell? w _ hx)).trans hx
 go_enter Try.func62, Try.ntmps62
 go_wp2
 go_ret
 exact ⟨rfl, below_alloc (Below.refl _ _) _⟩
theorem idxD_hit (nm : ByteArray) : ∀ (l : List S61) (i : Nat) (h : i < l.length), (l[i].f0.toList == nm.toList) = true → (∀ j (hj : j < i), (l[j].f0.toList == nm.toList) = false) → idxD l nm = (i : Int)
 | d :: l, 0, h, h1, _ => by
  unfold idxD
  rw [if_pos (by simpa using h1)]; rfl
 | d :: l, i + 1, h, h1, h2 => by
  have ih := idxD_hit nm l i (by simpa using h) (by simpa using h1) (fun j hj => by have := h2 (j + 1) (by omega); simpa using this)
  have h0 := h2 0 (by omega)
  unfold idxD
  rw [if_neg (by simpa using h0), ih, if_neg (by omega)]; omega
theorem idxD_miss (nm : ByteArray) : ∀ (l : List S61), (∀ j (hj : j < l.length), (l[j].f0.toList == nm.toList) = false) → idxD l nm = -1
 | [], _ => rfl
 | d :: l, h => by
  have ih := idxD_miss nm l (fun j hj => by have := h (j + 1) (by simpa using hj); simpa using this)
  have h0 := h 0 (by simp)
  unfold idxD
  rw [if_neg (by simpa using h0), ih, if_pos rfl]
theorem rd61_get (l : List S61) (i : Int) (h : i.toNat < l.length) : rd_T61 l i = l[i.toNat] := by
 unfold rd_T61; rw [List.getD_eq_getElem?_getD, List.getElem?_eq_getElem h]; rfl
set_option maxRecDepth 100000 in
set_option maxHeartbeats 4000000 in
theorem index61_calls (xb : Nat) (A : Option Addr) (c : Nat) (defs : List S61) (nm : ByteArray) (w : World) (hx : w.cell? ⟨xb, 4, none⟩ = some (.string nm)) (hd : Kd.C k61 w A defs.length defs) :
  Calls Try.prog 61 #[.slice A defs.length c, .func (.func 62) #[] #[.pointer (some ⟨xb, 0, none⟩)]] w fun e w' => e = .returned (.int .i64 (idxD defs nm)) ∧ Below w.heap.size w w' := by
 have HX := Aside0.mk hx
 have HD := Aside0.mk hd
 have HLEN : Aside0 (defs.length ≤ 9223372036854775807) := ⟨hd.2.1⟩
 have HI0 : Aside0 (Below w.heap.size w w ∧ ∀ j (hj : j < defs.length), (j : Int) < (0 : Int) → (defs[j].f0.toList == nm.toList) = false) := ⟨Below.refl _ _, fun j hj h => by omega⟩
 clear hx hd
 go_enter Try.func61, Try.ntmps61
 go_wp2
 go_loopw [8] (fun v8 W => ∃ i : Int, v8 = .int .i64 i ∧ Aside0 (0 ≤ i ∧ i ≤ defs.length) ∧ Aside0 (Below w.heap.size w W ∧ ∀ j (hj : j < defs.length), (j : Int) < i → (defs[j].f0.toList == nm.toList) = false)) (fun i _ => ((defs.length : Int) - intOf i).toNat)
 case atStart => exact ⟨0, rfl, ⟨by omega⟩, HI0⟩
 case round =>
  clear HI0
  obtain ⟨i, rfl, HK, HI⟩ := hrel
  by_cases hlt : i < defs.length
  ·have h0 : 0 ≤ i := HK.out.1
   obtain ⟨ad, A5, c5, e1, hx0, hx1, hx2, hx3, hx4, hx5, hx6, hx7⟩ := at_T61 (Kd.C_below HD.out HI.out.1) i h0 hlt
   subst e1
   have hw2 : wrap64 (i + 1) = i + 1 := by have := HLEN.out; unfold wrap64; omega
   have HW := Aside0.mk hw2
   have PQ := Aside0.mk (And.intro h0 hlt)
   have c1b : decide (i < (defs.length : Int)) = true := decide_eq_true hlt
   have HE := Aside0.mk (rd61_get defs i)
   have HXW := Aside0.mk ((HI.out.1.cell (World.block_lt_of_cell? w _ HX.out)).trans HX.out)
   clear hlt HK hw2 hx6 hx7
   replace h0 := eq_true h0
   have h3 := eq_true PQ.out.2
   generalize rd_T61 defs i = d at hx0 hx1 hx2 hx3 hx4 hx5 HE
   by_cases hq : (d.f0.toList == nm.toList) = true
   ·have HQ := Aside0.mk hq
    have HRES : Aside0 (idxD defs nm = i) := ⟨by
     have := PQ.out
     have e := idxD_hit nm defs i.toNat (by omega) (by rw [← HE.out (by omega)]; exact HQ.out) (fun j hj => HI.out.2 j (by omega) (by omega))
     omega⟩
    clear hq
    go_wp2_with (go_at_call 62; refine (lit62_calls xb d _ _ nm _ HXW.out).mono ?_; rintro e w1 ⟨rfl, hb1⟩; have HB1 := Aside0.mk hb1; clear hb1; rw [HQ.out])
    go_ret
    exact ⟨by rw [HRES.out]; rfl, HI.out.1.trans (HB1.out.mono HI.out.1.size)⟩
   ·have hq : (d.f0.toList == nm.toList) = false := by simpa using hq
    have HQ := Aside0.mk hq
    clear hq
    go_wp2_with (go_at_call 62; refine (lit62_calls xb d _ _ nm _ HXW.out).mono ?_; rintro e w1 ⟨rfl, hb1⟩; have HB1 := Aside0.mk hb1; clear hb1; rw [HQ.out])
    go_roundw
    case rel => exact ⟨i + 1, by rw [HW.out], ⟨by have := PQ.out; omega⟩, ⟨HI.out.1.trans (HB1.out.mono HI.out.1.size), fun j hj hji => by
     rcases Int.lt_or_le (j : Int) i with h | h
     ·exact HI.out.2 j hj h
     ·have e : j = i.toNat := by omega
      subst e
      have := HE.out hj
      rw [← this]; exact HQ.out⟩⟩
    case measure => have := PQ.out; rw [HW.out]; simp only [intOf]; omega
  ·have c1b : decide (i < (defs.length : Int)) = false := decide_eq_false hlt
   have HRES : Aside0 (idxD defs nm = -1) := ⟨idxD_miss nm defs (fun j hj => HI.out.2 j hj (by have := HK.out; omega))⟩
   clear hlt
   go_wp2
   go_ret
   exact ⟨by rw [HRES.out]; rfl, HI.out.1⟩
end Go.Proofs.Ytnnpfgpfkningaa.P
namespace Go.Proofs.Ytnnpfgpfkningaa.P
open Go.RowKit Go.Proofs.YtnnpfgpfkningaaW.PrintWords Go.Proofs.YtnnpfgpfkningaaW.PrintLast Go.Proofs.YtnnpfgpfkningaaW.PrintMore
attribute [local go_sem] max2_int min2_int max_two min_two max_three min_three max_four min_four   -- for this text's walks alone
attribute [local go_sem ↓ high] Go.Proofs.YtnnpfgpfkningaaX.isSome_setCell
set_option linter.unusedVariables false
set_option linter.unusedSimpArgs false
theorem intR_ok {e base : Nat} {ok ok' : Nat → Prop} {w : World} {v : Value} {l : List Int} (h : Kd.R (Kd.int .i64) e w base ok v l) (hk : ∀ k, v.ownBlock = some k → ok' k) : Kd.R (Kd.int .i64) e w base ok' v l := ⟨hk, h.2⟩
theorem intR_lt {e base : Nat} {ok : Nat → Prop} {w : World} {v : Value} {l : List Int} (h : Kd.R (Kd.int .i64) e w base ok v l) : ∀ k, v.ownBlock = some k → k < w.heap.size := by
 intro k hk
 obtain ⟨inner, ho⟩ := Kd.R_own h
 exact own_lt ho k hk
theorem intR_to {e base : Nat} {ok ok' : Nat → Prop} {w w1 : World} {v : Value} {l : List Int} (h : Kd.R (Kd.int .i64) e w base ok v l) (hm : ∀ k, v.ownBlock = some k → w1.heap[k]? = w.heap[k]?) (hk : ∀ k, v.ownBlock = some k → ok' k) : Kd.R (Kd.int .i64) e w1 base ok' v l := by
 obtain ⟨_, inner, ho, hr⟩ := h
 exact ⟨hk, inner, own_move ho hm, hr.imp_ (fun _ _ hp => hp)⟩
theorem spR_lt {base : Nat} {ok : Nat → Prop} {w : World} {v : Value} {l : List S94} (h : Kd.R k94 94 w base ok v l) : ∀ k, v.ownBlock = some k → base ≤ k ∧ k < w.heap.size := by
 intro k hk
 obtain ⟨inner, ho⟩ := Kd.R_own h
 exact ⟨own_base ho k hk, own_lt ho k hk⟩
theorem spR_to {base : Nat} {ok ok' : Nat → Prop} {w w1 : World} {v : Value} {l : List S94} (h : Kd.R k94 94 w base ok v l) (hm : ∀ k, v.ownBlock = some k → w1.heap[k]? = w.heap[k]?) (hk : ∀ k, v.ownBlock = some k → ok' k) : Kd.R k94 94 w1 base ok' v l := by
 obtain ⟨_, inner, ho, hr⟩ := h
 exact ⟨hk, inner, own_move ho hm, hr.imp_ (fun p _ hp => by obtain rfl := k94_openM hp; exact k94_mkM _ _ _ p)⟩
theorem spR_one {w : World} {base g : Nat} {ok : Nat → Prop} {a c : Int} (hb : base ≤ g) (h : w.heap[g]? = some (.cells #[.int .i64 a, .int .i64 c] 94 (0, 0))) (hok : ok g) : Kd.R k94 94 w base ok (.slice (some ⟨g, 0, none⟩) 1 1) [⟨a, c⟩] := by
 refine ⟨fun k hk => ?_, [.int .i64 a, .int .i64 c], ⟨rfl, .inr ⟨g, 1, #[.int .i64 a, .int .i64 c], rfl, hb, h, Nat.le_refl _, by unfold maxLen; omega, rfl, rfl⟩⟩, ?_⟩
 ·simp [Value.ownBlock] at hk; exact hk ▸ hok
 ·exact Reps.snoc (Reps.none _ _) (k94_mkM w base _ ⟨a, c⟩) rfl
theorem MapAt.of_heap {W W1 : World} {mp : Nat} {l : List S51} (h : MapAt W mp l) (e : W1.heap[mp]? = W.heap[mp]?) : MapAt W1 mp l := by
 obtain ⟨D, ⟨es, clock, hh, r⟩, h2⟩ := h
 exact ⟨D, ⟨es, clock, e.trans hh, r⟩, h2⟩
theorem MapAt.ne_own {e base : Nat} {ok : Nat → Prop} {w : World} {v : Value} {l : List Int} {mp : Nat} {ar : List S51} (h : Kd.R (Kd.int .i64) e w base ok v l) (hm : MapAt w mp ar) : ∀ q, v.ownBlock = some q → q ≠ mp := by
 intro q hq he
 obtain ⟨inner, ho⟩ := Kd.R_own h
 obtain ⟨cells, hc⟩ := own_typed ho q hq
 obtain ⟨D, ⟨es, clock, hh, _⟩, _⟩ := hm
 subst he
 rw [hc] at hh
 cases hh
end Go.Proofs.Ytnnpfgpfkningaa.P
namespace Go.Proofs.Ytnnpfgpfkningaa.P
open Go.RowKit Go.Proofs.YtnnpfgpfkningaaW.PrintWords Go.Proofs.YtnnpfgpfkningaaW.PrintLast Go.Proofs.YtnnpfgpfkningaaW.PrintMore
attribute [local go_sem] max2_int min2_int max_two min_two max_three min_three max_four min_four   -- for this text's walks alone
attribute [local go_sem ↓ high] Go.Proofs.YtnnpfgpfkningaaX.isSome_setCell
set_option linter.unusedVariables false
set_option linter.unusedSimpArgs false
/-- A world that has grown by allocs and draws alone. -/
theorem Bel {b : Nat} {W V : World} (h : Below b W V := by with_reducible repeat first | exact Below.refl _ _ | refine below_alloc ?_ _ | refine below_drew ?_) : Below b W V := h
structure St where
 sets : List Int
 arcs : List S51
structure MkAt (w0 W : World) (b mp : Nat) (s : Option Nat) (Ad : Option Addr) (cd : Nat) (defs : List S61) (st : St) : Prop where
 blk : ∃ As cs, W.heap[b]? = some (.cells #[.map (some mp), .slice As st.sets.length cs, .slice Ad defs.length cd] 71 (0, 0)) ∧ (Value.slice As st.sets.length cs).ownBlock = s ∧ Kd.R (Kd.int .i64) 3 W w0.heap.size (fun k => k ≠ b) (.slice As st.sets.length cs) st.sets
 map : MapAt W mp st.arcs
 below : Below w0.heap.size w0 W
 hb : w0.heap.size ≤ b
 hmp : w0.heap.size ≤ mp
 hcd : defs.length ≤ cd
 defs : Kd.C k61 w0 Ad defs.length defs
theorem MkAt.below_ {w0 W W1 : World} {b mp : Nat} {s : Option Nat} {Ad : Option Addr} {cd : Nat} {defs : List S61} {st : St} (h : MkAt w0 W b mp s Ad cd defs st) (hb : Below W.heap.size W W1) : MkAt w0 W1 b mp s Ad cd defs st where
 blk := let ⟨As, cs, h1, h2, h3⟩ := h.blk; ⟨As, cs, blk_below h1 hb, h2, Kd.R_below h3 hb⟩
 map := h.map.below hb
 below := below_weaken h.below h.below.size hb
 hb := h.hb
 hmp := h.hmp
 hcd := h.hcd
 defs := h.defs
theorem MkAt.lt {w0 W : World} {b mp : Nat} {s : Option Nat} {Ad : Option Addr} {cd : Nat} {defs : List S61} {st : St} (h : MkAt w0 W b mp s Ad cd defs st) : b < W.heap.size := let ⟨_, _, h1, _⟩ := h.blk; blk_lt h1
/-- What a piece's functions may turn: the maker's own blocks. -/
def Zn (b mp : Nat) (s : Option Nat) (k : Nat) : Prop := k = b ∨ k = mp ∨ some k = s
/-- Where the row of sets lies behind a call. -/
def Sets2 (W : World) (s s' : Option Nat) : Prop := s' = s ∨ ∃ g, s' = some g ∧ W.heap.size ≤ g
theorem cellAt {w : World} {g : Nat} {t : TypeId} {cs : Array Value} {i : Nat} {u : Value} (h : w.heap[g]? = some (.cells cs t (0, 0))) (e : cs[i]? = some u) : w.cell? ⟨g, i, none⟩ = some u := (blk_cell h i).trans e
theorem blk_setFar {w : World} {g : Nat} {o : Obj} (h : w.heap[g]? = some o) {a : Addr} (hne : g ≠ a.block) (u : Value) : (w.setCell a u).heap[g]? = some o := by
 rw [RowKit.Below.heap_setCell _ _ _ _ hne]; exact h
theorem pos_end {w0 W W2 w3 W5 W6 : World} {b mp : Nat} {s : Option Nat} {Ad : Option Addr} {cd : Nat} {defs : List S61} {st : St} {As A1 : Option Addr} {cs cc1 : Nat} {o : Int} (hM : MkAt w0 W b mp s Ad cd defs st) (hs : (Value.slice As st.sets.length cs).ownBlock = s) (hR0 : Kd.R (Kd.int .i64) 3 W w0.heap.size (fun k => k ≠ b) (.slice As st.sets.length cs) st.sets)
  (h2 : Below W.heap.size W W2) (hz : W.heap.size + 2 ≤ W2.heap.size) (hB3 : w3.heap[b]? = some (.cells #[.map (some mp), .slice As st.sets.length cs, .slice Ad defs.length cd] 71 (0, 0)))
  (hr : Kd.R (Kd.int .i64) 3 w3 w0.heap.size (fun k => k ≠ b) (.slice A1 (st.sets.length + 1) cc1) (st.sets ++ [o])) (hb : Below w0.heap.size w0 w3) (hg : W2.grownBy w3 (Value.slice As st.sets.length cs).ownBlock)
  (hat : (Value.slice A1 (st.sets.length + 1) cc1).ownBlock = (Value.slice As st.sets.length cs).ownBlock ∨ ∃ g, (Value.slice A1 (st.sets.length + 1) cc1).ownBlock = some g ∧ W2.heap.size ≤ g)
  (hW5 : ((w3.setCell ⟨b, 1, none⟩ (.slice A1 (st.sets.length + 1) cc1)).alloc (.cells #[.int .i64 (st.sets.length : Int), .int .i64 0] 94)).alloc (.cells #[.int .i64 (st.sets.length : Int), .int .i64 0] 94) = W5)
  (hW6 : (((W5.setCell ⟨W.heap.size + 1, 0, none⟩ (.slice (some ⟨w3.heap.size, 0, none⟩) 1 1)).setCell ⟨W.heap.size + 1, 1, none⟩ (.slice (some ⟨w3.heap.size + 1, 0, none⟩) 1 1)).setCell ⟨W.heap.size + 1, 2, none⟩ (.int .i64 1152921504606846976)) = W6) :
  MkAt w0 W6 b mp (Value.slice A1 (st.sets.length + 1) cc1).ownBlock Ad cd defs ⟨st.sets ++ [o], st.arcs⟩ ∧ Kept W W6 (Zn b mp s) ∧ Sets2 W s (Value.slice A1 (st.sets.length + 1) cc1).ownBlock ∧
   Kd.R k94 94 W6 W.heap.size (fun k => some k ≠ (Value.slice A1 (st.sets.length + 1) cc1).ownBlock ∧ some k ≠ (Value.slice (some ⟨w3.heap.size + 1, 0, none⟩) 1 1).ownBlock) (.slice (some ⟨w3.heap.size, 0, none⟩) 1 1) [⟨(st.sets.length : Int), 0⟩] ∧
   Kd.R k94 94 W6 W.heap.size (fun k => some k ≠ (Value.slice A1 (st.sets.length + 1) cc1).ownBlock ∧ some k ≠ (Value.slice (some ⟨w3.heap.size, 0, none⟩) 1 1).ownBlock) (.slice (some ⟨w3.heap.size + 1, 0, none⟩) 1 1) [⟨(st.sets.length : Int), 0⟩] := by
 have hbl := hM.lt
 have h23 := hg.size
 have hsz4 : (w3.setCell ⟨b, 1, none⟩ (.slice A1 (st.sets.length + 1) cc1)).heap.size = w3.heap.size := by simp [World.setCell]
 have same : ∀ k, k < w3.heap.size → k ≠ b → k ≠ W.heap.size + 1 → W6.heap[k]? = w3.heap[k]? := fun k hk h1 h2 => by
  rw [← hW6, ← hW5]
  rw [RowKit.Below.heap_setCell _ _ _ _ (by simpa using h2), RowKit.Below.heap_setCell _ _ _ _ (by simpa using h2), RowKit.Below.heap_setCell _ _ _ _ (by simpa using h2)]
  rw [Below.heap_alloc _ _ k (by simp; omega), Below.heap_alloc _ _ k (by omega), RowKit.Below.heap_setCell _ _ _ _ (by simpa using h1)]
 have q1 : W6.heap[w3.heap.size]? = some (.cells #[.int .i64 (st.sets.length : Int), .int .i64 0] 94) := by
  have h := blk_alloc (heap_alloc_new (w3.setCell ⟨b, 1, none⟩ (.slice A1 (st.sets.length + 1) cc1)) (.cells #[.int .i64 (st.sets.length : Int), .int .i64 0] 94)) (.cells #[.int .i64 (st.sets.length : Int), .int .i64 0] 94)
  rw [hsz4, hW5] at h
  rw [← hW6]
  exact blk_setFar (blk_setFar (blk_setFar h (by simp; omega) _) (by simp; omega) _) (by simp; omega) _
 have q2 : W6.heap[w3.heap.size + 1]? = some (.cells #[.int .i64 (st.sets.length : Int), .int .i64 0] 94) := by
  have h := heap_alloc_new ((w3.setCell ⟨b, 1, none⟩ (.slice A1 (st.sets.length + 1) cc1)).alloc (.cells #[.int .i64 (st.sets.length : Int), .int .i64 0] 94)) (.cells #[.int .i64 (st.sets.length : Int), .int .i64 0] 94)
  rw [show ((w3.setCell ⟨b, 1, none⟩ (.slice A1 (st.sets.length + 1) cc1)).alloc (.cells #[.int .i64 (st.sets.length : Int), .int .i64 0] 94)).heap.size = w3.heap.size + 1 from by rw [← hsz4]; exact Array.size_push _, hW5] at h
  rw [← hW6]
  exact blk_setFar (blk_setFar (blk_setFar h (by simp; omega) _) (by simp; omega) _) (by simp; omega) _
 have q3 : W6.heap[b]? = some (.cells #[.map (some mp), .slice A1 (st.sets.length + 1) cc1, .slice Ad defs.length cd] 71 (0, 0)) := by
  have h := blk_put hB3 1 (.slice A1 (st.sets.length + 1) cc1) (cs' := #[.map (some mp), .slice A1 (st.sets.length + 1) cc1, .slice Ad defs.length cd]) rfl
  have h := blk_alloc (blk_alloc h (.cells #[.int .i64 (st.sets.length : Int), .int .i64 0] 94)) (.cells #[.int .i64 (st.sets.length : Int), .int .i64 0] 94)
  rw [hW5] at h
  rw [← hW6]
  exact blk_setFar (blk_setFar (blk_setFar h (by simp; omega) _) (by simp; omega) _) (by simp; omega) _
 have hsz6 : W6.heap.size = w3.heap.size + 2 := by
  rw [← hW6, ← hW5]; simp [World.setCell]
 have hbel : Below w0.heap.size w0 W6 := by
  rw [← hW6, ← hW5]
  have hx := hM.below.size
  exact below_set (below_set (below_set (below_alloc (below_alloc (below_set hb hM.hb) _) _) (by omega)) (by omega)) (by omega)
 have ownlt : ∀ k, (Value.slice A1 (st.sets.length + 1) cc1).ownBlock = some k → k < w3.heap.size ∧ k ≠ b ∧ k ≠ W.heap.size + 1 := fun k hk => by
  refine ⟨intR_lt hr k hk, hr.1 k hk, ?_⟩
  rcases hat with e | ⟨g, e, hge⟩
  ·rw [e] at hk
   have := intR_lt hR0 k hk
   omega
  ·rw [e] at hk; injection hk with hk; omega
 have hmlt := hM.map.lt
 have hmne : mp ≠ b := by
  rintro rfl
  obtain ⟨As', cs', hh, _⟩ := hM.blk
  obtain ⟨D, ⟨es, clock, hh2, _⟩, _⟩ := hM.map
  rw [hh] at hh2; cases hh2
 have hmap : W6.heap[mp]? = W.heap[mp]? := by
  rw [same mp (by omega) hmne (by omega), hg.block mp (by omega) (fun e => MapAt.ne_own hR0 hM.map mp e.symm rfl), h2.block mp hmlt]
 have hnew : ∀ k, w3.heap.size ≤ k → some k ≠ (Value.slice A1 (st.sets.length + 1) cc1).ownBlock := fun k hk e => by
  have := ownlt k e.symm; omega
 refine ⟨⟨⟨A1, cc1, ?_, by simp, ?_⟩, hM.map.of_heap hmap, hbel, hM.hb, hM.hmp, hM.hcd, hM.defs⟩, ⟨by rw [hsz6]; omega, fun k hk hn => ?_⟩, ?_, spR_one (by omega) q1 ⟨hnew _ (Nat.le_refl _), by simp [Value.ownBlock]⟩, spR_one (by omega) q2 ⟨hnew _ (by omega), by simp [Value.ownBlock]⟩⟩
 ·simpa using q3
 ·have := intR_to (ok' := fun k => k ≠ b) hr (fun k hk => by obtain ⟨a, c, d⟩ := ownlt k hk; exact same k a c d) (fun k hk => (ownlt k hk).2.1)
  simpa using this
 ·have hkb : k ≠ b := fun e => hn (.inl e)
  rw [same k (by omega) hkb (by omega), hg.block k (by omega) (fun e => hn (.inr (.inr (by rw [e, hs])))), h2.block k hk]
 ·rcases hat with e | ⟨g, e, hge⟩
  ·exact .inl (e.trans hs)
  ·exact .inr ⟨g, e, by omega⟩
set_option maxRecDepth 100000 in
set_option maxHeartbeats 4000000 in
theorem position_calls (w0 W : World) (b mp : Nat) (s : Option Nat) (Ad : Option Addr) (cd : Nat) (defs : List S61) (st : St) (x : S33) (A5 : Option Addr) (c5 : Nat) (hM : MkAt w0 W b mp s Ad cd defs st) (hn : st.sets.length < 1000000) :
  Calls Try.prog 40 #[.pointer (some ⟨b, 0, none⟩), .agg #[.int .i64 x.f0, .int .i64 x.f1, .int .i64 x.f2, .int .i64 x.f3, .string x.f4, .slice A5 x.f5.length c5]] W fun e W' => ∃ (s' : Option Nat) (vf ve : Value), e = .returned (.agg #[vf, ve, .int .i64 1152921504606846976]) ∧
   MkAt w0 W' b mp s' Ad cd defs ⟨st.sets ++ [if x.f0 = 2 then idxD defs x.f4 else -1], st.arcs⟩ ∧ Kept W W' (Zn b mp s) ∧ Sets2 W s s' ∧ Kd.R k94 94 W' W.heap.size (fun k => some k ≠ s' ∧ some k ≠ ve.ownBlock) vf [⟨(st.sets.length : Int), 0⟩] ∧ Kd.R k94 94 W' W.heap.size (fun k => some k ≠ s' ∧ some k ≠ vf.ownBlock) ve [⟨(st.sets.length : Int), 0⟩] := by
 obtain ⟨As, cs, hblk, hs, hR⟩ := hM.blk
 have hW1 := below_alloc (below_alloc (Below.refl W.heap.size W) (.cells #[.int .i64 x.f0, .int .i64 x.f1, .int .i64 x.f2, .int .i64 x.f3, .string x.f4, .slice A5 x.f5.length c5] 33)) (.cells #[.slice none 0 0, .slice none 0 0, .int .i64 0] 74)
 have HM := Aside0.mk hM
 have HBLK := Aside0.mk hblk
 have HS := Aside0.mk hs
 have HN := Aside0.mk hn
 have HW1 := Aside0.mk hW1
 have x0 : ((W.alloc (.cells #[.int .i64 x.f0, .int .i64 x.f1, .int .i64 x.f2, .int .i64 x.f3, .string x.f4, .slice A5 x.f5.length c5] 33)).alloc (.cells #[.slice none 0 0, .slice none 0 0, .int .i64 0] 74)).heap[W.heap.size]? = some (.cells #[.int .i64 x.f0, .int .i64 x.f1, .int .i64 x.f2, .int .i64 x.f3, .string x.f4, .slice A5 x.f5.length c5] 33) := blk_alloc (heap_alloc_new W _) _
 have b1 := blk_below hblk hW1
 have X0 := Aside0.mk x0
 have B1 := Aside0.mk b1
 have p1 : ((W.alloc (.cells #[.int .i64 x.f0, .int .i64 x.f1, .int .i64 x.f2, .int .i64 x.f3, .string x.f4, .slice A5 x.f5.length c5] 33)).alloc (.cells #[.slice none 0 0, .slice none 0 0, .int .i64 0] 74)).heap[W.heap.size + 1]? = some (.cells #[.slice none 0 0, .slice none 0 0, .int .i64 0] 74) := by
  have h := heap_alloc_new (W.alloc (.cells #[.int .i64 x.f0, .int .i64 x.f1, .int .i64 x.f2, .int .i64 x.f3, .string x.f4, .slice A5 x.f5.length c5] 33)) (.cells #[.slice none 0 0, .slice none 0 0, .int .i64 0] 74)
  rwa [show (W.alloc (.cells #[.int .i64 x.f0, .int .i64 x.f1, .int .i64 x.f2, .int .i64 x.f3, .string x.f4, .slice A5 x.f5.length c5] 33)).heap.size = W.heap.size + 1 from Array.size_push _] at h
 have P1 := Aside0.mk p1
 have e0 := cellAt (i := 0) (u := .map (some mp)) b1 rfl
 have e1 := cellAt (i := 1) (u := .slice As st.sets.length cs) b1 rfl
 have e2 := cellAt (i := 2) (u := .slice Ad defs.length cd) b1 rfl
 have f0 := cellAt (i := 0) (u := .int .i64 x.f0) x0 rfl
 have HD := Aside0.mk (Kd.C_below hM.defs (below_weaken hM.below hM.below.size hW1))
 have HR1 := Aside0.mk (Kd.R_below hR hW1)
 have HR0 := Aside0.mk hR
 have HB1 := Aside0.mk (below_weaken hM.below hM.below.size hW1)
 have HX1 : Aside0 (((W.alloc (.cells #[.int .i64 x.f0, .int .i64 x.f1, .int .i64 x.f2, .int .i64 x.f3, .string x.f4, .slice A5 x.f5.length c5] 33)).alloc (.cells #[.slice none 0 0, .slice none 0 0, .int .i64 0] 74)).heap.size = W.heap.size + 2) := ⟨by simp⟩
 clear hM hblk hs hn hW1 x0 b1 hR p1
 generalize hWW : (W.alloc (.cells #[.int .i64 x.f0, .int .i64 x.f1, .int .i64 x.f2, .int .i64 x.f3, .string x.f4, .slice A5 x.f5.length c5] 33)).alloc (.cells #[.slice none 0 0, .slice none 0 0, .int .i64 0] 74) = W1 at *
 have BNE : Aside0 (b < W.heap.size) := ⟨HM.out.lt⟩
 have PNE : Aside0 (some (W.heap.size + 1) ≠ (Value.slice As st.sets.length cs).ownBlock) := ⟨fun e => by
  obtain ⟨inner, ho⟩ := Kd.R_own HR0.out
  have := own_lt ho _ e.symm
  omega⟩
 by_cases h2 : x.f0 = 2
 ·have c1 : (x.f0 == 2) = true := beq_iff_eq.2 h2
  rw [if_pos h2]
  clear h2
  go_enter Try.func40, Try.ntmps40
  go_wp2_with (first | (go_at_call 61; refine (index61_calls W.heap.size Ad cd defs x.f4 _ (cellAt (i := 4) X0.out rfl) HD.out).mono ?_; rintro e w2 ⟨rfl, hb2⟩; have HB2 := Aside0.mk hb2; have B2 := Aside0.mk (blk_below B1.out hb2); have P2 := Aside0.mk (blk_below P1.out hb2); have HR2 := Aside0.mk (Kd.R_below HR1.out hb2); have HBW2 := Aside0.mk (below_weaken HB1.out HB1.out.size hb2); have g1 := cellAt (i := 1) (u := .slice As st.sets.length cs) B2.out rfl; clear hb2) | ((with_reducible refine gate_builtin (b := .append) (xs := #[.tmp 25, .tmp 27]) rfl ?_); at_builtin; refine Kd.R_append (Kd.int .i64) (w0 := w0) w0.heap.size rfl (.tmp 25) (.tmp 27) 23 3 (.int .i64 0) 8 rfl Try.underlying23 info3 rfl (by decide) (by omega) (.slice As st.sets.length cs) st.sets (idxD defs x.f4) [.int .i64 (idxD defs x.f4)] (fun k => k ≠ b) (fun _ => False) rfl rfl rfl (fun _ hk => hk.elim) (fun k hk => by have := blk_lt B2.out; omega) HR2.out HBW2.out HBW2.out.size (by have := HN.out; omega) ?_; intro v1 w3 hr hb hg hat; obtain ⟨A1, cc1, hv1⟩ := Kd.R_slice hr; rw [List.length_append, List.length_singleton] at hv1; subst hv1; obtain ⟨W5, hW5⟩ : ∃ W5, ((w3.setCell ⟨b, 1, none⟩ (.slice A1 (st.sets.length + 1) cc1)).alloc (.cells #[.int .i64 (st.sets.length : Int), .int .i64 0] 94)).alloc (.cells #[.int .i64 (st.sets.length : Int), .int .i64 0] 94) = W5 := ⟨_, rfl⟩; have HA := Aside0.mk (And.intro hr (And.intro hb (And.intro hg hat))); have B3 := Aside0.mk (blk_grown B2.out hg (fun e => HR2.out.1 b e.symm rfl)); have P3 := Aside0.mk (blk_grown P2.out hg (fun e => PNE.out e)); have k1 := cellAt (i := 1) (u := .slice As st.sets.length cs) B3.out rfl; have k2 := blk_frozen B3.out 1; have P5 : Aside0 (W5.heap[W.heap.size + 1]? = some (.cells #[.slice none 0 0, .slice none 0 0, .int .i64 0] 74)) := ⟨by rw [← hW5]; exact blk_alloc (blk_alloc (blk_setFar P3.out (by have := BNE.out; simp; omega) _) _) _⟩; have m0 := cellAt (i := 0) (u := .slice none 0 0) P5.out rfl; have m1 := cellAt (i := 1) (u := .slice none 0 0) P5.out rfl; have m2 := cellAt (i := 2) (u := .int .i64 0) P5.out rfl; have n0 := blk_frozen P5.out 0; have n1 := blk_frozen P5.out 1; have n2 := blk_frozen P5.out 2; clear hr hb hg hat))
  obtain ⟨W6, hW6⟩ : ∃ W6, (((W5.setCell ⟨W.heap.size + 1, 0, none⟩ (.slice (some ⟨w3.heap.size, 0, none⟩) 1 1)).setCell ⟨W.heap.size + 1, 1, none⟩ (.slice (some ⟨w3.heap.size + 1, 0, none⟩) 1 1)).setCell ⟨W.heap.size + 1, 2, none⟩ (.int .i64 1152921504606846976)) = W6 := ⟨_, rfl⟩
  have hP6 : W6.heap[W.heap.size + 1]? = some (.cells #[.slice (some ⟨w3.heap.size, 0, none⟩) 1 1, .slice (some ⟨w3.heap.size + 1, 0, none⟩) 1 1, .int .i64 1152921504606846976] 74 (0, 0)) := by
   rw [← hW6]
   exact blk_put (blk_put (blk_put P5.out 0 _ rfl) 1 _ rfl) 2 _ rfl
  have hE := pos_end HM.out HS.out HR0.out (HW1.out.trans (HB2.out.mono HW1.out.size)) (by have := HX1.out; have := HB2.out.size; omega) B3.out HA.out.1 HA.out.2.1 HA.out.2.2.1 HA.out.2.2.2 hW5 hW6
  rw [hW6]
  refine bodyPost_ret (results_cell_row rfl _ _ (W.heap.size + 1) 74 #[.slice (some ⟨w3.heap.size, 0, none⟩) 1 1, .slice (some ⟨w3.heap.size + 1, 0, none⟩) 1 1, .int .i64 1152921504606846976] (0, 0) _ (by rfl) hP6 Try.underlying74 rfl (by kernel_rfl)) rfl ?_
  exact ⟨_, _, _, rfl, hE⟩
 ·have c1 : (x.f0 == 2) = false := beq_eq_false_iff_ne.2 h2
  rw [if_neg h2]
  clear h2
  have B2 := B1
  have P2 := P1
  have HR2 := HR1
  have HBW2 := HB1
  go_enter Try.func40, Try.ntmps40
  go_wp2_with (((with_reducible refine gate_builtin (b := .append) (xs := #[.tmp 25, .tmp 27]) rfl ?_); at_builtin; refine Kd.R_append (Kd.int .i64) (w0 := w0) w0.heap.size rfl (.tmp 25) (.tmp 27) 23 3 (.int .i64 0) 8 rfl Try.underlying23 info3 rfl (by decide) (by omega) (.slice As st.sets.length cs) st.sets (-1) [.int .i64 (-1)] (fun k => k ≠ b) (fun _ => False) rfl rfl rfl (fun _ hk => hk.elim) (fun k hk => by have := blk_lt B2.out; omega) HR2.out HBW2.out HBW2.out.size (by have := HN.out; omega) ?_; intro v1 w3 hr hb hg hat; obtain ⟨A1, cc1, hv1⟩ := Kd.R_slice hr; rw [List.length_append, List.length_singleton] at hv1; subst hv1; obtain ⟨W5, hW5⟩ : ∃ W5, ((w3.setCell ⟨b, 1, none⟩ (.slice A1 (st.sets.length + 1) cc1)).alloc (.cells #[.int .i64 (st.sets.length : Int), .int .i64 0] 94)).alloc (.cells #[.int .i64 (st.sets.length : Int), .int .i64 0] 94) = W5 := ⟨_, rfl⟩; have HA := Aside0.mk (And.intro hr (And.intro hb (And.intro hg hat))); have B3 := Aside0.mk (blk_grown B2.out hg (fun e => HR2.out.1 b e.symm rfl)); have P3 := Aside0.mk (blk_grown P2.out hg (fun e => PNE.out e)); have k1 := cellAt (i := 1) (u := .slice As st.sets.length cs) B3.out rfl; have k2 := blk_frozen B3.out 1; have P5 : Aside0 (W5.heap[W.heap.size + 1]? = some (.cells #[.slice none 0 0, .slice none 0 0, .int .i64 0] 74)) := ⟨by rw [← hW5]; exact blk_alloc (blk_alloc (blk_setFar P3.out (by have := BNE.out; simp; omega) _) _) _⟩; have m0 := cellAt (i := 0) (u := .slice none 0 0) P5.out rfl; have m1 := cellAt (i := 1) (u := .slice none 0 0) P5.out rfl; have m2 := cellAt (i := 2) (u := .int .i64 0) P5.out rfl; have n0 := blk_frozen P5.out 0; have n1 := blk_frozen P5.out 1; have n2 := blk_frozen P5.out 2; clear hr hb hg hat))
  obtain ⟨W6, hW6⟩ : ∃ W6, (((W5.setCell ⟨W.heap.size + 1, 0, none⟩ (.slice (some ⟨w3.heap.size, 0, none⟩) 1 1)).setCell ⟨W.heap.size + 1, 1, none⟩ (.slice (some ⟨w3.heap.size + 1, 0, none⟩) 1 1)).setCell ⟨W.heap.size + 1, 2, none⟩ (.int .i64 1152921504606846976)) = W6 := ⟨_, rfl⟩
  have hP6 : W6.heap[W.heap.size + 1]? = some (.cells #[.slice (some ⟨w3.heap.size, 0, none⟩) 1 1, .slice (some ⟨w3.heap.size + 1, 0, none⟩) 1 1, .int .i64 1152921504606846976] 74 (0, 0)) := by
   rw [← hW6]
   exact blk_put (blk_put (blk_put P5.out 0 _ rfl) 1 _ rfl) 2 _ rfl
  have hE := pos_end HM.out HS.out HR0.out HW1.out (by have := HX1.out; omega) B3.out HA.out.1 HA.out.2.1 HA.out.2.2.1 HA.out.2.2.2 hW5 hW6
  rw [hW6]
  refine bodyPost_ret (results_cell_row rfl _ _ (W.heap.size + 1) 74 #[.slice (some ⟨w3.heap.size, 0, none⟩) 1 1, .slice (some ⟨w3.heap.size + 1, 0, none⟩) 1 1, .int .i64 1152921504606846976] (0, 0) _ (by rfl) hP6 Try.underlying74 rfl (by kernel_rfl)) rfl ?_
  exact ⟨_, _, _, rfl, hE⟩
end Go.Proofs.Ytnnpfgpfkningaa.P
namespace Go.Proofs.Ytnnpfgpfkningaa.P
open Go.RowKit Go.Proofs.YtnnpfgpfkningaaW.PrintWords Go.Proofs.YtnnpfgpfkningaaW.PrintLast Go.Proofs.YtnnpfgpfkningaaW.PrintMore
attribute [local go_sem] max2_int min2_int max_two min_two max_three min_three max_four min_four   -- for this text's walks alone
attribute [local go_sem ↓ high] Go.Proofs.YtnnpfgpfkningaaX.isSome_setCell
set_option linter.unusedVariables false
set_option linter.unusedSimpArgs false
def nm5 (i : Int) : ByteArray := rdOf ByteArray.empty [(⟨#[97]⟩ : ByteArray), ⟨#[118]⟩, ⟨#[100]⟩, ⟨#[115]⟩, ⟨#[119, 49]⟩, ⟨#[111, 116, 104, 101, 114]⟩] i
def wth (a n : Int) : Int := if Int.tmod a n < 0 then Int.tmod a n + n else Int.tmod a n
mutual
def rawF : Nat → S35 → Bool → Option S33
 | 0, _, _ => none
 | k + 1, r, b =>
  if wth r.f0 20 < 1 then some ⟨1, 0, 0, 0, ⟨#[]⟩, []⟩
  else if wth r.f0 20 < 6 then some ⟨2, 0, 0, 0, nm5 (wth r.f1 4), []⟩
  else if wth r.f0 20 < 8 then some ⟨3, 0, 0, 0, ⟨#[]⟩, []⟩
  else if wth r.f0 20 < 13 then (partF k r 0 b).bind fun x => (partF k r 1 b).bind fun y => some ⟨4, 0, 0, 0, ⟨#[]⟩, [x, y]⟩
  else if wth r.f0 20 < 15 then (partF k r 0 b).bind fun x => (partF k r 1 b).bind fun y => some ⟨5, 0, 0, 0, ⟨#[]⟩, [x, y]⟩
  else if wth r.f0 20 < 16 then (partF k r 0 b).bind fun x => some ⟨6, 0, 0, 0, ⟨#[]⟩, [x]⟩
  else if wth r.f0 20 < 18 then (partF k r 0 b).bind fun x => some ⟨7, wth r.f1 3, wrap64 (wth r.f1 3 + wth (wrap64 (Int.tdiv r.f1 3)) 3), 0, ⟨#[]⟩, [x]⟩
  else if b = true then partF k r 0 b
  else (partF k r 0 b).bind fun x => some ⟨8, 0, 0, wth r.f1 7, ⟨#[]⟩, [x]⟩
def partF : Nat → S35 → Nat → Bool → Option S33
 | 0, _, _, _ => none
 | k + 1, r, i, b => if i < r.f2.length then rawF k (rd_T35 r.f2 i) b else some ⟨2, 0, 0, 0, nm5 (wth (wrap64 (r.f1 + i)) 4), []⟩
end
theorem wth_range (a n : Int) (h0 : 0 < n) : 0 ≤ wth a n ∧ wth a n < n := by
 have h1 := Int.tmod_lt_of_pos a h0
 have h2 : -n < Int.tmod a n := by
  have := Int.lt_tmod_of_pos a h0
  omega
 unfold wth; split <;> omega
theorem within_wth (a n : Int) (h0 : 0 < n) (h1 : n < 1000000) : hyphenlaw5_within.f a n = some (wth a n) := by
 have q1 := Int.tmod_lt_of_pos a h0
 have q2 : -n < Int.tmod a n := by
  have := Int.lt_tmod_of_pos a h0
  omega
 unfold hyphenlaw5_within.f wth
 rw [if_neg (by omega)]
 split
 ·unfold wrap64; congr 1; omega
 ·rfl
theorem within5 (a n : Int) (w : World) (h0 : 0 < n) (h1 : n < 1000000) : Calls Try.prog 28 #[.int .i64 a, .int .i64 n] w fun e w' => e = .returned (.int .i64 (wth a n)) ∧ Drawn0 w w' := hyphenlaw5_within.calls a n _ w (within_wth a n h0 h1)
/-- What Raw's functions know of their own variables: the raw one, the pattern that is to be. -/
structure RawIn (w W : World) (g2 g4 : Nat) (r : S35) (A : Option Addr) (c : Nat) : Prop where
 b : Below w.heap.size w W
 x : W.heap[g2]? = some (.cells #[.int .i64 r.f0, .int .i64 r.f1, .slice A r.f2.length c] 35 (0, 0))
 r : W.heap[g4]? = some (.cells #[.int .i64 0, .int .i64 0, .int .i64 0, .int .i64 0, .string ⟨#[]⟩, .slice none 0 0] 33 (0, 0))
 h2 : w.heap.size ≤ g2
 h4 : w.heap.size ≤ g4
 ne : g2 ≠ g4
theorem RawIn.below {w W W1 : World} {g2 g4 : Nat} {r : S35} {A : Option Addr} {c : Nat} (h : RawIn w W g2 g4 r A c) (hb : Below W.heap.size W W1) : RawIn w W1 g2 g4 r A c := ⟨h.b.trans (hb.mono h.b.size), blk_below h.x hb, blk_below h.r hb, h.h2, h.h4, h.ne⟩
theorem RawIn.drew {w W : World} {g2 g4 : Nat} {r : S35} {A : Option Addr} {c : Nat} (h : RawIn w W g2 g4 r A c) : RawIn w W.drew g2 g4 r A c := h.below (below_drew (Below.refl _ _))
theorem RawIn.drewN {w W : World} {g2 g4 : Nat} {r : S35} {A : Option Addr} {c : Nat} (h : RawIn w W g2 g4 r A c) (n : Nat) : RawIn w (W.drewN n) g2 g4 r A c := h.below (pw_below_drewN (Below.refl _ _) n)
theorem RawIn.new (w : World) (r : S35) (A : Option Addr) (c : Nat) : RawIn w ((w.alloc (.cells #[.int .i64 r.f0, .int .i64 r.f1, .slice A r.f2.length c] 35)).alloc (.cells #[.int .i64 0, .int .i64 0, .int .i64 0, .int .i64 0, .string ⟨#[]⟩, .slice none 0 0] 33)) w.heap.size (w.heap.size + 1) r A c where
 b := below_alloc (below_alloc (Below.refl _ _) _) _
 x := blk_alloc (heap_alloc_new w _) _
 r := by
  have h := heap_alloc_new (w.alloc (.cells #[.int .i64 r.f0, .int .i64 r.f1, .slice A r.f2.length c] 35)) (.cells #[.int .i64 0, .int .i64 0, .int .i64 0, .int .i64 0, .string ⟨#[]⟩, .slice none 0 0] 33)
  rwa [show (w.alloc (.cells #[.int .i64 r.f0, .int .i64 r.f1, .slice A r.f2.length c] 35)).heap.size = w.heap.size + 1 from Array.size_push _] at h
 h2 := Nat.le_refl _
 h4 := Nat.le_succ _
 ne := by omega
theorem RawIn.S {w W : World} {g2 g4 : Nat} {r : S35} {A : Option Addr} {c : Nat} (h : RawIn w W g2 g4 r A c) : W.cell? ⟨g2, 0, none⟩ = some (.int .i64 r.f0) ∧ W.cell? ⟨g2, 1, none⟩ = some (.int .i64 r.f1) ∧ W.cell? ⟨g2, 2, none⟩ = some (.slice A r.f2.length c) := ⟨cellAt h.x rfl, cellAt h.x rfl, cellAt h.x rfl⟩
/-- What Raw's functions say at their end. -/
def RexAt (w : World) (x : S33) (e : Ending) (w' : World) : Prop := ∃ (A : Option Addr) (c : Nat), e = .returned (.agg #[.int .i64 x.f0, .int .i64 x.f1, .int .i64 x.f2, .int .i64 x.f3, .string x.f4, .slice A x.f5.length c]) ∧ x.f5.length ≤ c ∧ Kd.F k33 w' (fun k => w.heap.size ≤ k) A x.f5.length x.f5 ∧ Below w.heap.size w w'
theorem set6_blk {W : World} {g4 : Nat} {v0 v1 v2 v3 v4 v5 u0 u1 u2 u3 u4 u5 : Value} (h : W.heap[g4]? = some (.cells #[u0, u1, u2, u3, u4, u5] 33 (0, 0))) : ((((((W.setCell ⟨g4, 0, none⟩ v0).setCell ⟨g4, 1, none⟩ v1).setCell ⟨g4, 2, none⟩ v2).setCell ⟨g4, 3, none⟩ v3).setCell ⟨g4, 4, none⟩ v4).setCell ⟨g4, 5, none⟩ v5).heap[g4]? = some (.cells #[v0, v1, v2, v3, v4, v5] 33 (0, 0)) :=
 blk_put (blk_put (blk_put (blk_put (blk_put (blk_put h 0 v0 rfl) 1 v1 rfl) 2 v2 rfl) 3 v3 rfl) 4 v4 rfl) 5 v5 rfl
theorem set1g {V W : World} {T : Nat} (h : V.grownBy W (some T)) (i : Nat) (v : Value) : V.grownBy (W.setCell ⟨T, i, none⟩ v) (some T) := ⟨h.os, h.tape, h.output, Nat.le_trans h.size (Nat.le_of_eq (by simp [World.setCell])), fun k hk hn => by
 rw [RowKit.Below.heap_setCell _ _ _ _ (show k ≠ T from fun e => hn (by rw [e]))]; exact h.block k hk hn⟩
theorem set6_grown (W : World) (g4 : Nat) (v0 v1 v2 v3 v4 v5 : Value) : W.grownBy ((((((W.setCell ⟨g4, 0, none⟩ v0).setCell ⟨g4, 1, none⟩ v1).setCell ⟨g4, 2, none⟩ v2).setCell ⟨g4, 3, none⟩ v3).setCell ⟨g4, 4, none⟩ v4).setCell ⟨g4, 5, none⟩ v5) (some g4) :=
 set1g (set1g (set1g (set1g (set1g (set1g ⟨rfl, rfl, rfl, Nat.le_refl _, fun _ _ _ => rfl⟩ _ _) _ _) _ _) _ _) _ _) _ _
theorem RawIn.end_ {w W : World} {g2 g4 : Nat} {r : S35} {A : Option Addr} {c : Nat} (h : RawIn w W g2 g4 r A c) (x : S33) (A5 : Option Addr) (c5 : Nat) (hc : x.f5.length ≤ c5) (hF : Kd.F k33 W (fun k => w.heap.size ≤ k ∧ k ≠ g4) A5 x.f5.length x.f5) :
  RexAt w x (.returned (.agg #[.int .i64 x.f0, .int .i64 x.f1, .int .i64 x.f2, .int .i64 x.f3, .string x.f4, .slice A5 x.f5.length c5])) ((((((W.setCell ⟨g4, 0, none⟩ (.int .i64 x.f0)).setCell ⟨g4, 1, none⟩ (.int .i64 x.f1)).setCell ⟨g4, 2, none⟩ (.int .i64 x.f2)).setCell ⟨g4, 3, none⟩ (.int .i64 x.f3)).setCell ⟨g4, 4, none⟩ (.string x.f4)).setCell ⟨g4, 5, none⟩ (.slice A5 x.f5.length c5)) := by
 have hg := set6_grown W g4 (.int .i64 x.f0) (.int .i64 x.f1) (.int .i64 x.f2) (.int .i64 x.f3) (.string x.f4) (.slice A5 x.f5.length c5)
 exact ⟨A5, c5, rfl, hc, Kd.F_mono (Kd.F_grown hF hg (fun k hk e => hk.2 (by injection e))) (fun _ hk => hk.1), h.b.grown hg h.b.size (fun j hj => by injection hj with hj; subst hj; exact h.h4)⟩
theorem lit1_C {W : World} {g : Nat} {x : S33} {A : Option Addr} {c : Nat} (h : W.heap[g]? = some (.cells #[.int .i64 x.f0, .int .i64 x.f1, .int .i64 x.f2, .int .i64 x.f3, .string x.f4, .slice A x.f5.length c] 33 (0, 0))) (hx : x.f5.length ≤ c) (hC : Kd.C k33 W A x.f5.length x.f5) : Kd.C k33 W (some ⟨g, 0, none⟩) 1 [x] :=
 ⟨rfl, by decide, fun _ => ⟨_, rfl, fun j p hj => by
  obtain rfl : j = 0 := by have := (List.getElem?_eq_some_iff.1 hj).1; simp at this; omega
  obtain rfl : x = p := by simpa using hj
  refine ⟨_, rfl, k33_mk W x hx hC, fun i u hu => ?_⟩
  rw [add_plain]
  show W.cell? ⟨g, 0 * 6 + i, none⟩ = some u
  exact (blk_cell h (0 * 6 + i)).trans (by simpa using hu)⟩⟩
theorem lit2_C {W : World} {g : Nat} {x y : S33} {A B : Option Addr} {c d : Nat} (h : W.heap[g]? = some (.cells #[.int .i64 x.f0, .int .i64 x.f1, .int .i64 x.f2, .int .i64 x.f3, .string x.f4, .slice A x.f5.length c, .int .i64 y.f0, .int .i64 y.f1, .int .i64 y.f2, .int .i64 y.f3, .string y.f4, .slice B y.f5.length d] 33 (0, 0)))
  (hx : x.f5.length ≤ c) (hC : Kd.C k33 W A x.f5.length x.f5) (hy : y.f5.length ≤ d) (hD : Kd.C k33 W B y.f5.length y.f5) : Kd.C k33 W (some ⟨g, 0, none⟩) 2 [x, y] :=
 ⟨rfl, by decide, fun _ => ⟨_, rfl, fun j p hj => by
  have hj2 : j = 0 ∨ j = 1 := by have := (List.getElem?_eq_some_iff.1 hj).1; simp at this; omega
  rcases hj2 with rfl | rfl
  ·obtain rfl : x = p := by simpa using hj
   refine ⟨_, rfl, k33_mk W x hx hC, fun i u hu => ?_⟩
   rw [add_plain]
   have hi : i < 6 := by have := (List.getElem?_eq_some_iff.1 hu).1; simpa using this
   show W.cell? ⟨g, 0 * 6 + i, none⟩ = some u
   refine (blk_cell h (0 * 6 + i)).trans ?_
   rw [← hu]
   have : i = 0 ∨ i = 1 ∨ i = 2 ∨ i = 3 ∨ i = 4 ∨ i = 5 := by omega
   rcases this with rfl | rfl | rfl | rfl | rfl | rfl <;> rfl
  ·obtain rfl : y = p := by simpa using hj
   refine ⟨_, rfl, k33_mk W y hy hD, fun i u hu => ?_⟩
   rw [add_plain]
   have hi : i < 6 := by have := (List.getElem?_eq_some_iff.1 hu).1; simpa using this
   show W.cell? ⟨g, 1 * 6 + i, none⟩ = some u
   refine (blk_cell h (1 * 6 + i)).trans ?_
   rw [← hu]
   have : i = 0 ∨ i = 1 ∨ i = 2 ∨ i = 3 ∨ i = 4 ∨ i = 5 := by omega
   rcases this with rfl | rfl | rfl | rfl | rfl | rfl <;> rfl⟩⟩
theorem lit1_F {W : World} {ok : Nat → Prop} {g : Nat} {x : S33} {A : Option Addr} {c : Nat} (h : W.heap[g]? = some (.cells #[.int .i64 x.f0, .int .i64 x.f1, .int .i64 x.f2, .int .i64 x.f3, .string x.f4, .slice A x.f5.length c] 33 (0, 0))) (hok : ok g) (hx : x.f5.length ≤ c) (hF : Kd.F k33 W ok A x.f5.length x.f5) : Kd.F k33 W ok (some ⟨g, 0, none⟩) 1 [x] :=
 fun W' hW => lit1_C ((hW g hok (blk_lt h)).trans h) hx (hF W' hW)
theorem lit2_F {W : World} {ok : Nat → Prop} {g : Nat} {x y : S33} {A B : Option Addr} {c d : Nat} (h : W.heap[g]? = some (.cells #[.int .i64 x.f0, .int .i64 x.f1, .int .i64 x.f2, .int .i64 x.f3, .string x.f4, .slice A x.f5.length c, .int .i64 y.f0, .int .i64 y.f1, .int .i64 y.f2, .int .i64 y.f3, .string y.f4, .slice B y.f5.length d] 33 (0, 0))) (hok : ok g)
  (hx : x.f5.length ≤ c) (hF : Kd.F k33 W ok A x.f5.length x.f5) (hy : y.f5.length ≤ d) (hG : Kd.F k33 W ok B y.f5.length y.f5) : Kd.F k33 W ok (some ⟨g, 0, none⟩) 2 [x, y] :=
 fun W' hW => lit2_C ((hW g hok (blk_lt h)).trans h) hx (hF W' hW) hy (hG W' hW)
end Go.Proofs.Ytnnpfgpfkningaa.P
namespace Go.Proofs.Ytnnpfgpfkningaa.P
open Go.RowKit Go.Proofs.YtnnpfgpfkningaaW.PrintWords Go.Proofs.YtnnpfgpfkningaaW.PrintLast Go.Proofs.YtnnpfgpfkningaaW.PrintMore
attribute [local go_sem] max2_int min2_int max_two min_two max_three min_three max_four min_four   -- for this text's walks alone
attribute [local go_sem ↓ high] Go.Proofs.YtnnpfgpfkningaaX.isSome_setCell
set_option linter.unusedVariables false
set_option linter.unusedSimpArgs false
def rawTold (k : Nat) : Prop := ∀ (r : S35) (A : Option Addr) (c : Nat) (b : Bool) (x : S33) (w : World), Kd.C k35 w A r.f2.length r.f2 → r.f2.length ≤ c → rawF k r b = some x → Calls Try.prog 13 #[.agg #[.int .i64 r.f0, .int .i64 r.f1, .slice A r.f2.length c], .bool b] w (RexAt w x)
def partTold (k : Nat) : Prop := ∀ (r : S35) (A : Option Addr) (c : Nat) (i : Nat) (b : Bool) (x : S33) (w : World), Kd.C k35 w A r.f2.length r.f2 → r.f2.length ≤ c → i < 1000000 → partF k r i b = some x → Calls Try.prog 29 #[.agg #[.int .i64 r.f0, .int .i64 r.f1, .slice A r.f2.length c], .int .i64 (i : Int), .bool b] w (RexAt w x)
theorem names_at {W : World} {A : Option Addr} {i : Int} (h : Kd.C Kd.string W A 6 [(⟨#[97]⟩ : ByteArray), ⟨#[118]⟩, ⟨#[100]⟩, ⟨#[115]⟩, ⟨#[119, 49]⟩, ⟨#[111, 116, 104, 101, 114]⟩]) (h0 : 0 ≤ i) (h1 : i < 6) : ∃ ad, A = some ad ∧ W.cell? (ad.add i.toNat) = some (.string (nm5 i)) := Kd.at_string h i h0 h1
set_option maxRecDepth 100000 in
set_option maxHeartbeats 8000000 in
theorem part_step (k : Nat) (ih : rawTold k) : partTold (k + 1) := by
  intro r A c i b x w hC hc hi h
  have HIN := Aside0.mk (RawIn.new w r A c)
  rw [partF] at h
  by_cases hl : i < r.f2.length
  · rw [if_pos hl] at h
    have hC1 := Kd.C_below hC HIN.out.b
    obtain ⟨ad, A2, c2, rfl, q0, q1, q2, hl2, hC2⟩ := at_T35 hC1 (i : Int) (by omega) (by omega)
    simp only [Int.toNat_natCast] at q0 q1 q2
    have HQ := Aside0.mk (And.intro hl2 hC2)
    have HH := Aside0.mk h
    have c1 : decide (i < r.f2.length) = true := decide_eq_true hl
    have c2_ : decide ((i : Int) < (r.f2.length : Int)) = true := decide_eq_true (by omega)
    have c3 : ((i : Int) < (r.f2.length : Int)) = True := eq_true (by omega)
    have c4 : (0 ≤ (i : Int)) = True := eq_true (by omega)
    clear h hl hl2 hC2 hC hC1 hc hi
    go_enter Try.func29, Try.ntmps29
    go_wp2_with (go_at_call 13; refine (ih (rd_T35 r.f2 (i : Int)) A2 c2 b x _ HQ.out.2 HQ.out.1 HH.out).mono ?_; rintro e w' ⟨A5, c5, rfl, h1, h2, hb⟩; have HI2 := Aside0.mk (HIN.out.below hb); have HF := Aside0.mk (Kd.F_mono h2 (fun q hq => (⟨Nat.le_trans HIN.out.b.size hq, fun e => by have := blk_lt HIN.out.r; omega⟩ : w.heap.size ≤ q ∧ q ≠ w.heap.size + 1))); have HL5 := Aside0.mk h1; have k0 := cellAt (i := 0) (u := .int .i64 0) HI2.out.r rfl; have k1 := cellAt (i := 1) (u := .int .i64 0) HI2.out.r rfl; have k2 := cellAt (i := 2) (u := .int .i64 0) HI2.out.r rfl; have k3 := cellAt (i := 3) (u := .int .i64 0) HI2.out.r rfl; have k4 := cellAt (i := 4) (u := .string ⟨#[]⟩) HI2.out.r rfl; have k5 := cellAt (i := 5) (u := .slice none 0 0) HI2.out.r rfl; have n0 := blk_frozen HI2.out.r 0; have n1 := blk_frozen HI2.out.r 1; have n2 := blk_frozen HI2.out.r 2; have n3 := blk_frozen HI2.out.r 3; have n4 := blk_frozen HI2.out.r 4; have n5 := blk_frozen HI2.out.r 5; clear h1 h2 hb)
    refine bodyPost_ret (results_cell_row rfl _ _ (w.heap.size + 1) 33 #[.int .i64 x.f0, .int .i64 x.f1, .int .i64 x.f2, .int .i64 x.f3, .string x.f4, .slice A5 x.f5.length c5] (0, 0) _ (by rfl) (set6_blk HI2.out.r) Try.underlying33 rfl (by kernel_rfl)) rfl ?_
    exact HI2.out.end_ x A5 c5 HL5.out HF.out
  · rw [if_neg hl] at h
    obtain rfl := Option.some.inj h
    have c1 : decide (i < r.f2.length) = false := decide_eq_false hl
    have hw := wth_range (wrap64 (r.f1 + i)) 4 (by omega)
    have c3 : (wth (wrap64 (r.f1 + i)) 4 < 6) = True := eq_true (by omega)
    have c4 : (0 ≤ wth (wrap64 (r.f1 + i)) 4) = True := eq_true (by omega)
    have HW := Aside0.mk hw
    have hwr : IntKind.i64.wrap (r.f1 + (i : Int)) = wrap64 (r.f1 + i) := i64_w _
    clear h hl hC hc hi hw
    go_enter Try.func29, Try.ntmps29
    go_wp2
    go_region_with (first | (go_at_call 26; refine (hyphenlaw5_names.calls _ _ rfl).mono ?_; rintro e w' ⟨v, rfl, hr, hb⟩; obtain ⟨Av, cv, ev⟩ := Kd.R_slice hr; have ev2 : v = .slice Av 6 cv := ev; clear ev; subst ev2; have HI2 := Aside0.mk (HIN.out.drew.below hb); obtain ⟨ad, e2, q0⟩ := names_at (Kd.R_reads' hr).2.2 HW.out.1 (Int.lt_trans HW.out.2 (by decide)); subst e2; have d1 := cellAt (i := 1) (u := .int .i64 r.f1) HI2.out.x rfl; have k0 := cellAt (i := 0) (u := .int .i64 0) HI2.out.r rfl; have k1 := cellAt (i := 1) (u := .int .i64 0) HI2.out.r rfl; have k2 := cellAt (i := 2) (u := .int .i64 0) HI2.out.r rfl; have k3 := cellAt (i := 3) (u := .int .i64 0) HI2.out.r rfl; have k4 := cellAt (i := 4) (u := .string ⟨#[]⟩) HI2.out.r rfl; have k5 := cellAt (i := 5) (u := .slice none 0 0) HI2.out.r rfl; have n0 := blk_frozen HI2.out.r 0; have n1 := blk_frozen HI2.out.r 1; have n2 := blk_frozen HI2.out.r 2; have n3 := blk_frozen HI2.out.r 3; have n4 := blk_frozen HI2.out.r 4; have n5 := blk_frozen HI2.out.r 5; clear hr hb) | (go_at_call 28; refine (within5 _ 4 _ (by omega) (by omega)).mono ?_; rintro e w2 ⟨rfl, ⟨nd, rfl⟩⟩; skip))
    all_goals
      go_wp2
      refine bodyPost_ret (results_cell_row rfl _ _ (w.heap.size + 1) 33 #[.int .i64 2, .int .i64 0, .int .i64 0, .int .i64 0, .string (nm5 (wth (wrap64 (r.f1 + i)) 4)), .slice none 0 0] (0, 0) _ (by rfl) (set6_blk (HI2.out.drewN _).r) Try.underlying33 rfl (by kernel_rfl)) rfl ?_
      exact (HI2.out.drewN _).end_ ⟨2, 0, 0, 0, nm5 (wth (wrap64 (r.f1 + i)) 4), []⟩ none 0 (Nat.le_refl _) (Kd.F_nil _ _ _)
end Go.Proofs.Ytnnpfgpfkningaa.P
namespace Go.Proofs.Ytnnpfgpfkningaa.P
open Go.RowKit Go.Proofs.YtnnpfgpfkningaaW.PrintWords Go.Proofs.YtnnpfgpfkningaaW.PrintLast Go.Proofs.YtnnpfgpfkningaaW.PrintMore
attribute [local go_sem] max2_int min2_int max_two min_two max_three min_three max_four min_four   -- for this text's walks alone
attribute [local go_sem ↓ high] Go.Proofs.YtnnpfgpfkningaaX.isSome_setCell
set_option linter.unusedVariables false
set_option linter.unusedSimpArgs false
theorem set6_cell {W : World} {h g i : Nat} {v0 v1 v2 v3 v4 v5 u : Value} (hne : g ≠ h) (q : W.cell? ⟨g, i, none⟩ = some u) : ((((((W.setCell ⟨h, 0, none⟩ v0).setCell ⟨h, 1, none⟩ v1).setCell ⟨h, 2, none⟩ v2).setCell ⟨h, 3, none⟩ v3).setCell ⟨h, 4, none⟩ v4).setCell ⟨h, 5, none⟩ v5).cell? ⟨g, i, none⟩ = some u := by
  rw [cell_far (by simpa using hne), cell_far (by simpa using hne), cell_far (by simpa using hne), cell_far (by simpa using hne), cell_far (by simpa using hne), cell_far (by simpa using hne)]; exact q
theorem RawIn.far {w W : World} {g2 g4 : Nat} {r : S35} {A : Option Addr} {c : Nat} (h : RawIn w W g2 g4 r A c) {q : Nat} (hq : W.heap.size ≤ q) : w.heap.size ≤ q ∧ q ≠ g4 := ⟨Nat.le_trans h.b.size hq, fun e => by have := blk_lt h.r; omega⟩
theorem RawIn.S6a {w W : World} {g2 g4 : Nat} {r : S35} {A : Option Addr} {c : Nat} {v0 v1 v2 v3 v4 v5 : Value} {L : Obj} (h : RawIn w W g2 g4 r A c) (w' : World) (e : w' = (((((((W.setCell ⟨g4, 0, none⟩ v0).setCell ⟨g4, 1, none⟩ v1).setCell ⟨g4, 2, none⟩ v2).setCell ⟨g4, 3, none⟩ v3).setCell ⟨g4, 4, none⟩ v4).setCell ⟨g4, 5, none⟩ v5).alloc L)) :
    w'.cell? ⟨g2, 0, none⟩ = some (.int .i64 r.f0) ∧ w'.cell? ⟨g2, 1, none⟩ = some (.int .i64 r.f1) ∧ w'.cell? ⟨g2, 2, none⟩ = some (.slice A r.f2.length c) := by
  subst e
  have hg := blk_alloc (((set6_grown W g4 v0 v1 v2 v3 v4 v5).block g2 (blk_lt h.x) (fun e => h.ne (by injection e))).trans h.x) L
  exact ⟨cellAt hg rfl, cellAt hg rfl, cellAt hg rfl⟩
theorem RexAt.drewN {w W : World} {x : S33} {e : Ending} (h : RexAt w x e W) (n : Nat) : RexAt w x e (W.drewN n) := by
  obtain ⟨A, c, h1, h2, h3, h4⟩ := h
  exact ⟨A, c, h1, h2, Kd.F_drewN h3 n, pw_below_drewN h4 n⟩
theorem RawIn.endL {w W : World} {g2 g4 : Nat} {r : S35} {A : Option Addr} {c : Nat} (h : RawIn w W g2 g4 r A c) (L : Obj) (x : S33) (A5 : Option Addr) (c5 : Nat) (hc : x.f5.length ≤ c5) (hF : Kd.F k33 (W.alloc L) (fun k => w.heap.size ≤ k ∧ k ≠ g4) A5 x.f5.length x.f5) :
    RexAt w x (.returned (.agg #[.int .i64 x.f0, .int .i64 x.f1, .int .i64 x.f2, .int .i64 x.f3, .string x.f4, .slice A5 x.f5.length c5])) (((((((W.setCell ⟨g4, 0, none⟩ (.int .i64 x.f0)).setCell ⟨g4, 1, none⟩ (.int .i64 x.f1)).setCell ⟨g4, 2, none⟩ (.int .i64 x.f2)).setCell ⟨g4, 3, none⟩ (.int .i64 x.f3)).setCell ⟨g4, 4, none⟩ (.string x.f4)).setCell ⟨g4, 5, none⟩ (.slice A5 x.f5.length c5)).alloc L) := by
  have hg := set6_grown W g4 (.int .i64 x.f0) (.int .i64 x.f1) (.int .i64 x.f2) (.int .i64 x.f3) (.string x.f4) (.slice A5 x.f5.length c5)
  have hb := h.b.grown hg h.b.size (fun j hj => by injection hj with hj; subst hj; exact h.h4)
  refine ⟨A5, c5, rfl, hc, Kd.F_mono (Kd.F_step hF (fun k hk hlt => ?_)) (fun _ hk => hk.1), below_alloc hb L⟩
  have hs : ((((((W.setCell ⟨g4, 0, none⟩ (.int .i64 x.f0)).setCell ⟨g4, 1, none⟩ (.int .i64 x.f1)).setCell ⟨g4, 2, none⟩ (.int .i64 x.f2)).setCell ⟨g4, 3, none⟩ (.int .i64 x.f3)).setCell ⟨g4, 4, none⟩ (.string x.f4)).setCell ⟨g4, 5, none⟩ (.slice A5 x.f5.length c5)).heap.size = W.heap.size := by simp [World.setCell]
  rcases Nat.lt_or_ge k W.heap.size with hk2 | hk2
  · rw [Below.heap_alloc _ _ k (by omega), Below.heap_alloc _ _ k hk2]
    exact hg.block k hk2 (fun e => hk.2 (by injection e))
  · have e : k = W.heap.size := by have : (W.alloc L).heap.size = W.heap.size + 1 := Array.size_push _; omega
    subst e
    have h1 := heap_alloc_new ((((((W.setCell ⟨g4, 0, none⟩ (.int .i64 x.f0)).setCell ⟨g4, 1, none⟩ (.int .i64 x.f1)).setCell ⟨g4, 2, none⟩ (.int .i64 x.f2)).setCell ⟨g4, 3, none⟩ (.int .i64 x.f3)).setCell ⟨g4, 4, none⟩ (.string x.f4)).setCell ⟨g4, 5, none⟩ (.slice A5 x.f5.length c5)) L
    rw [hs] at h1
    exact h1.trans (heap_alloc_new W L).symm
set_option maxRecDepth 100000 in
set_option maxHeartbeats 8000000 in
theorem rmk_none (k : Nat) (ih : partTold k) (r : S35) (A : Option Addr) (c : Nat) (b : Bool) (z : S33) (w : World) (hC : Kd.C k35 w A r.f2.length r.f2) (hc : r.f2.length ≤ c) (h : rawF (k + 1) r b = some z) (hk : wth r.f0 20 < 1) : Calls Try.prog 13 #[.agg #[.int .i64 r.f0, .int .i64 r.f1, .slice A r.f2.length c], .bool b] w (RexAt w z) := by
  have HIN := Aside0.mk (RawIn.new w r A c)
  have HC := Aside0.mk hC
  have HCC := Aside0.mk hc
  rw [rawF, if_pos (by omega)] at h
  have t1 : decide (wth r.f0 20 < 1) = true := decide_eq_true (by omega)
  obtain rfl := Option.some.inj h
  clear h hk hC hc
  have MK0 := True.intro
  go_enter Try.func13, Try.ntmps13
  go_wp2_with (go_at_call 28; clear MK0; refine (within5 r.f0 20 _ (by omega) (by omega)).mono ?_; rintro e w2 ⟨rfl, ⟨nd, rfl⟩⟩; have HI := Aside0.mk (HIN.out.drewN nd); obtain ⟨W2, hW2⟩ : ∃ W2, World.drewN ((w.alloc (.cells #[.int .i64 r.f0, .int .i64 r.f1, .slice A r.f2.length c] 35)).alloc (.cells #[.int .i64 0, .int .i64 0, .int .i64 0, .int .i64 0, .string ⟨#[]⟩, .slice none 0 0] 33)) nd = W2 := ⟨_, rfl⟩; rw [hW2] at HI ⊢; clear hW2 HIN; have d0 := cellAt (i := 0) (u := .int .i64 r.f0) HI.out.x rfl; have d1 := cellAt (i := 1) (u := .int .i64 r.f1) HI.out.x rfl; have d2 := cellAt (i := 2) (u := .slice A r.f2.length c) HI.out.x rfl; have k0 := cellAt (i := 0) (u := .int .i64 0) HI.out.r rfl; have k1 := cellAt (i := 1) (u := .int .i64 0) HI.out.r rfl; have k2 := cellAt (i := 2) (u := .int .i64 0) HI.out.r rfl; have k3 := cellAt (i := 3) (u := .int .i64 0) HI.out.r rfl; have k4 := cellAt (i := 4) (u := .string ⟨#[]⟩) HI.out.r rfl; have k5 := cellAt (i := 5) (u := .slice none 0 0) HI.out.r rfl; have n0 := blk_frozen HI.out.r 0; have n1 := blk_frozen HI.out.r 1; have n2 := blk_frozen HI.out.r 2; have n3 := blk_frozen HI.out.r 3; have n4 := blk_frozen HI.out.r 4; have n5 := blk_frozen HI.out.r 5; have hz := blk_lt HI.out.r)
  refine bodyPost_ret (results_cell_row rfl _ _ (w.heap.size + 1) 33 #[.int .i64 1, .int .i64 0, .int .i64 0, .int .i64 0, .string ⟨#[]⟩, .slice none 0 0] (0, 0) _ (by rfl) (set6_blk (HI.out).r) Try.underlying33 rfl (by kernel_rfl)) rfl ?_
  exact (HI.out).end_ ⟨1, 0, 0, 0, ⟨#[]⟩, []⟩ none 0 (Nat.le_refl _) (Kd.F_nil _ _ _)
end Go.Proofs.Ytnnpfgpfkningaa.P
namespace Go.Proofs.Ytnnpfgpfkningaa.P
open Go.RowKit Go.Proofs.YtnnpfgpfkningaaW.PrintWords Go.Proofs.YtnnpfgpfkningaaW.PrintLast Go.Proofs.YtnnpfgpfkningaaW.PrintMore
attribute [local go_sem] max2_int min2_int max_two min_two max_three min_three max_four min_four   -- for this text's walks alone
attribute [local go_sem ↓ high] Go.Proofs.YtnnpfgpfkningaaX.isSome_setCell
set_option linter.unusedVariables false
set_option linter.unusedSimpArgs false
set_option maxRecDepth 100000 in
set_option maxHeartbeats 8000000 in
theorem rmk_set (k : Nat) (ih : partTold k) (r : S35) (A : Option Addr) (c : Nat) (b : Bool) (z : S33) (w : World) (hC : Kd.C k35 w A r.f2.length r.f2) (hc : r.f2.length ≤ c) (h : rawF (k + 1) r b = some z) (hk : ¬ wth r.f0 20 < 1 ∧ wth r.f0 20 < 6) : Calls Try.prog 13 #[.agg #[.int .i64 r.f0, .int .i64 r.f1, .slice A r.f2.length c], .bool b] w (RexAt w z) := by
 have HIN := Aside0.mk (RawIn.new w r A c)
 have HC := Aside0.mk hC
 have HCC := Aside0.mk hc
 rw [rawF, if_neg (by omega), if_pos (by omega)] at h
 have t1 : decide (wth r.f0 20 < 1) = false := decide_eq_false (by omega)
 have t6 : decide (wth r.f0 20 < 6) = true := decide_eq_true (by omega)
 obtain rfl := Option.some.inj h
 have hw := wth_range r.f1 4 (by omega)
 have c3 : (wth r.f1 4 < 6) = True := eq_true (by omega)
 have c4 : (0 ≤ wth r.f1 4) = True := eq_true (by omega)
 have HW := Aside0.mk hw
 clear h hk hC hc hw
 have MK0 := True.intro
 go_enter Try.func13, Try.ntmps13
 go_wp2_with (go_at_call 28; clear MK0; refine (within5 r.f0 20 _ (by omega) (by omega)).mono ?_; rintro e w2 ⟨rfl, ⟨nd, rfl⟩⟩; have HI := Aside0.mk (HIN.out.drewN nd); obtain ⟨W2, hW2⟩ : ∃ W2, World.drewN ((w.alloc (.cells #[.int .i64 r.f0, .int .i64 r.f1, .slice A r.f2.length c] 35)).alloc (.cells #[.int .i64 0, .int .i64 0, .int .i64 0, .int .i64 0, .string ⟨#[]⟩, .slice none 0 0] 33)) nd = W2 := ⟨_, rfl⟩; rw [hW2] at HI ⊢; clear hW2 HIN; have d0 := cellAt (i := 0) (u := .int .i64 r.f0) HI.out.x rfl; have d1 := cellAt (i := 1) (u := .int .i64 r.f1) HI.out.x rfl; have d2 := cellAt (i := 2) (u := .slice A r.f2.length c) HI.out.x rfl; have k0 := cellAt (i := 0) (u := .int .i64 0) HI.out.r rfl; have k1 := cellAt (i := 1) (u := .int .i64 0) HI.out.r rfl; have k2 := cellAt (i := 2) (u := .int .i64 0) HI.out.r rfl; have k3 := cellAt (i := 3) (u := .int .i64 0) HI.out.r rfl; have k4 := cellAt (i := 4) (u := .string ⟨#[]⟩) HI.out.r rfl; have k5 := cellAt (i := 5) (u := .slice none 0 0) HI.out.r rfl; have n0 := blk_frozen HI.out.r 0; have n1 := blk_frozen HI.out.r 1; have n2 := blk_frozen HI.out.r 2; have n3 := blk_frozen HI.out.r 3; have n4 := blk_frozen HI.out.r 4; have n5 := blk_frozen HI.out.r 5; have hz := blk_lt HI.out.r)
 go_region_with (first | (go_at_call 26; refine (hyphenlaw5_names.calls _ _ rfl).mono ?_; rintro e w' ⟨v, rfl, hr, hb⟩; obtain ⟨Av, cv, ev⟩ := Kd.R_slice hr; have ev2 : v = .slice Av 6 cv := ev; clear ev; subst ev2; have HIn := Aside0.mk (HI.out.drew.below hb); clear HI; have HI := HIn; clear HIn; obtain ⟨ad, e2, q0⟩ := names_at (Kd.R_reads' hr).2.2 HW.out.1 (Int.lt_trans HW.out.2 (by decide)); subst e2; have d1 := cellAt (i := 1) (u := .int .i64 r.f1) HI.out.x rfl; have k0 := cellAt (i := 0) (u := .int .i64 0) HI.out.r rfl; have k1 := cellAt (i := 1) (u := .int .i64 0) HI.out.r rfl; have k2 := cellAt (i := 2) (u := .int .i64 0) HI.out.r rfl; have k3 := cellAt (i := 3) (u := .int .i64 0) HI.out.r rfl; have k4 := cellAt (i := 4) (u := .string ⟨#[]⟩) HI.out.r rfl; have k5 := cellAt (i := 5) (u := .slice none 0 0) HI.out.r rfl; have n0 := blk_frozen HI.out.r 0; have n1 := blk_frozen HI.out.r 1; have n2 := blk_frozen HI.out.r 2; have n3 := blk_frozen HI.out.r 3; have n4 := blk_frozen HI.out.r 4; have n5 := blk_frozen HI.out.r 5; have hz := blk_lt HI.out.r; clear hr hb) | (go_at_call 28; refine (within5 _ 4 _ (by omega) (by omega)).mono ?_; rintro e w2 ⟨rfl, ⟨nd, rfl⟩⟩; skip))
 all_goals
  go_wp2
  refine bodyPost_ret (results_cell_row rfl _ _ (w.heap.size + 1) 33 #[.int .i64 2, .int .i64 0, .int .i64 0, .int .i64 0, .string (nm5 (wth r.f1 4)), .slice none 0 0] (0, 0) _ (by rfl) (set6_blk (HI.out.drewN _).r) Try.underlying33 rfl (by kernel_rfl)) rfl ?_
  exact (HI.out.drewN _).end_ ⟨2, 0, 0, 0, nm5 (wth r.f1 4), []⟩ none 0 (Nat.le_refl _) (Kd.F_nil _ _ _)
end Go.Proofs.Ytnnpfgpfkningaa.P
namespace Go.Proofs.Ytnnpfgpfkningaa.P
open Go.RowKit Go.Proofs.YtnnpfgpfkningaaW.PrintWords Go.Proofs.YtnnpfgpfkningaaW.PrintLast Go.Proofs.YtnnpfgpfkningaaW.PrintMore
attribute [local go_sem] max2_int min2_int max_two min_two max_three min_three max_four min_four   -- for this text's walks alone
attribute [local go_sem ↓ high] Go.Proofs.YtnnpfgpfkningaaX.isSome_setCell
set_option linter.unusedVariables false
set_option linter.unusedSimpArgs false
set_option maxRecDepth 100000 in
set_option maxHeartbeats 8000000 in
theorem rmk_any (k : Nat) (ih : partTold k) (r : S35) (A : Option Addr) (c : Nat) (b : Bool) (z : S33) (w : World) (hC : Kd.C k35 w A r.f2.length r.f2) (hc : r.f2.length ≤ c) (h : rawF (k + 1) r b = some z) (hk : ¬ wth r.f0 20 < 6 ∧ wth r.f0 20 < 8) : Calls Try.prog 13 #[.agg #[.int .i64 r.f0, .int .i64 r.f1, .slice A r.f2.length c], .bool b] w (RexAt w z) := by
  have HIN := Aside0.mk (RawIn.new w r A c)
  have HC := Aside0.mk hC
  have HCC := Aside0.mk hc
  rw [rawF, if_neg (by omega), if_neg (by omega), if_pos (by omega)] at h
  have t1 : decide (wth r.f0 20 < 1) = false := decide_eq_false (by omega)
  have t6 : decide (wth r.f0 20 < 6) = false := decide_eq_false (by omega)
  have t8 : decide (wth r.f0 20 < 8) = true := decide_eq_true (by omega)
  obtain rfl := Option.some.inj h
  clear h hk hC hc
  have MK0 := True.intro
  go_enter Try.func13, Try.ntmps13
  go_wp2_with (go_at_call 28; clear MK0; refine (within5 r.f0 20 _ (by omega) (by omega)).mono ?_; rintro e w2 ⟨rfl, ⟨nd, rfl⟩⟩; have HI := Aside0.mk (HIN.out.drewN nd); obtain ⟨W2, hW2⟩ : ∃ W2, World.drewN ((w.alloc (.cells #[.int .i64 r.f0, .int .i64 r.f1, .slice A r.f2.length c] 35)).alloc (.cells #[.int .i64 0, .int .i64 0, .int .i64 0, .int .i64 0, .string ⟨#[]⟩, .slice none 0 0] 33)) nd = W2 := ⟨_, rfl⟩; rw [hW2] at HI ⊢; clear hW2 HIN; have d0 := cellAt (i := 0) (u := .int .i64 r.f0) HI.out.x rfl; have d1 := cellAt (i := 1) (u := .int .i64 r.f1) HI.out.x rfl; have d2 := cellAt (i := 2) (u := .slice A r.f2.length c) HI.out.x rfl; have k0 := cellAt (i := 0) (u := .int .i64 0) HI.out.r rfl; have k1 := cellAt (i := 1) (u := .int .i64 0) HI.out.r rfl; have k2 := cellAt (i := 2) (u := .int .i64 0) HI.out.r rfl; have k3 := cellAt (i := 3) (u := .int .i64 0) HI.out.r rfl; have k4 := cellAt (i := 4) (u := .string ⟨#[]⟩) HI.out.r rfl; have k5 := cellAt (i := 5) (u := .slice none 0 0) HI.out.r rfl; have n0 := blk_frozen HI.out.r 0; have n1 := blk_frozen HI.out.r 1; have n2 := blk_frozen HI.out.r 2; have n3 := blk_frozen HI.out.r 3; have n4 := blk_frozen HI.out.r 4; have n5 := blk_frozen HI.out.r 5; have hz := blk_lt HI.out.r)
  refine bodyPost_ret (results_cell_row rfl _ _ (w.heap.size + 1) 33 #[.int .i64 3, .int .i64 0, .int .i64 0, .int .i64 0, .string ⟨#[]⟩, .slice none 0 0] (0, 0) _ (by rfl) (set6_blk (HI.out).r) Try.underlying33 rfl (by kernel_rfl)) rfl ?_
  exact (HI.out).end_ ⟨3, 0, 0, 0, ⟨#[]⟩, []⟩ none 0 (Nat.le_refl _) (Kd.F_nil _ _ _)
end Go.Proofs.Ytnnpfgpfkningaa.P
namespace Go.Proofs.Ytnnpfgpfkningaa.P
open Go.RowKit Go.Proofs.YtnnpfgpfkningaaW.PrintWords Go.Proofs.YtnnpfgpfkningaaW.PrintLast Go.Proofs.YtnnpfgpfkningaaW.PrintMore
attribute [local go_sem] max2_int min2_int max_two min_two max_three min_three max_four min_four   -- for this text's walks alone
attribute [local go_sem ↓ high] Go.Proofs.YtnnpfgpfkningaaX.isSome_setCell
set_option linter.unusedVariables false
set_option linter.unusedSimpArgs false
set_option maxRecDepth 100000 in
set_option maxHeartbeats 8000000 in
theorem rmk_cat (k : Nat) (ih : partTold k) (r : S35) (A : Option Addr) (c : Nat) (b : Bool) (z : S33) (w : World) (hC : Kd.C k35 w A r.f2.length r.f2) (hc : r.f2.length ≤ c) (h : rawF (k + 1) r b = some z) (hk : ¬ wth r.f0 20 < 8 ∧ wth r.f0 20 < 13) : Calls Try.prog 13 #[.agg #[.int .i64 r.f0, .int .i64 r.f1, .slice A r.f2.length c], .bool b] w (RexAt w z) := by
  have HIN := Aside0.mk (RawIn.new w r A c)
  have HC := Aside0.mk hC
  have HCC := Aside0.mk hc
  rw [rawF, if_neg (by omega), if_neg (by omega), if_neg (by omega), if_pos (by omega)] at h
  have t1 : decide (wth r.f0 20 < 1) = false := decide_eq_false (by omega)
  have t6 : decide (wth r.f0 20 < 6) = false := decide_eq_false (by omega)
  have t8 : decide (wth r.f0 20 < 8) = false := decide_eq_false (by omega)
  have t13 : decide (wth r.f0 20 < 13) = true := decide_eq_true (by omega)
  obtain ⟨x, hx, h⟩ := Option.bind_eq_some_iff.1 h
  obtain ⟨y, hy, h⟩ := Option.bind_eq_some_iff.1 h
  obtain rfl := Option.some.inj h
  have HX := Aside0.mk hx
  have HY := Aside0.mk hy
  clear h hk hC hc hx hy
  have MK0 := True.intro
  have MK1 := True.intro
  have MK2 := True.intro
  go_enter Try.func13, Try.ntmps13
  go_wp2_with (go_at_call 28; clear MK0; refine (within5 r.f0 20 _ (by omega) (by omega)).mono ?_; rintro e w2 ⟨rfl, ⟨nd, rfl⟩⟩; have HI := Aside0.mk (HIN.out.drewN nd); obtain ⟨W2, hW2⟩ : ∃ W2, World.drewN ((w.alloc (.cells #[.int .i64 r.f0, .int .i64 r.f1, .slice A r.f2.length c] 35)).alloc (.cells #[.int .i64 0, .int .i64 0, .int .i64 0, .int .i64 0, .string ⟨#[]⟩, .slice none 0 0] 33)) nd = W2 := ⟨_, rfl⟩; rw [hW2] at HI ⊢; clear hW2 HIN; have d0 := cellAt (i := 0) (u := .int .i64 r.f0) HI.out.x rfl; have d1 := cellAt (i := 1) (u := .int .i64 r.f1) HI.out.x rfl; have d2 := cellAt (i := 2) (u := .slice A r.f2.length c) HI.out.x rfl; have k0 := cellAt (i := 0) (u := .int .i64 0) HI.out.r rfl; have k1 := cellAt (i := 1) (u := .int .i64 0) HI.out.r rfl; have k2 := cellAt (i := 2) (u := .int .i64 0) HI.out.r rfl; have k3 := cellAt (i := 3) (u := .int .i64 0) HI.out.r rfl; have k4 := cellAt (i := 4) (u := .string ⟨#[]⟩) HI.out.r rfl; have k5 := cellAt (i := 5) (u := .slice none 0 0) HI.out.r rfl; have n0 := blk_frozen HI.out.r 0; have n1 := blk_frozen HI.out.r 1; have n2 := blk_frozen HI.out.r 2; have n3 := blk_frozen HI.out.r 3; have n4 := blk_frozen HI.out.r 4; have n5 := blk_frozen HI.out.r 5; have hz := blk_lt HI.out.r)
  clear d0 d1 d2 k0 k1 k2 k3 k4 k5 n0 n1 n2 n3 n4 n5 hz
  go_region_held3 (fun w' => w'.cell? ⟨w.heap.size, 0, none⟩ = some (.int .i64 r.f0) ∧ w'.cell? ⟨w.heap.size, 1, none⟩ = some (.int .i64 r.f1) ∧ w'.cell? ⟨w.heap.size, 2, none⟩ = some (.slice A r.f2.length c)) (first | (with_reducible exact HI.out.S) | (with_reducible exact HI.out.drew.S) | (with_reducible exact (HI.out.below (below_alloc (Below.refl _ _) _)).S) | (with_reducible exact RawIn.S6a HI.out _ rfl)) (first | (go_at_call 29; clear MK1; refine (ih r A c 0 b x _ (Kd.C_below HC.out (by first | exact HI.out.b | exact HI.out.drew.b)) HCC.out (by omega) HX.out).mono ?_; rintro e w3 ⟨A5, c5, rfl, h1, h2, hb⟩; have HIn : Aside0 (RawIn w w3 w.heap.size (w.heap.size + 1) r A c) := ⟨by first | exact HI.out.below hb | exact HI.out.drew.below hb⟩; have HF0 := Aside0.mk (Kd.F_mono h2 (fun q hq => RawIn.far HI.out hq)); have HL0 := Aside0.mk h1; (try clear k0 k1 k2 k3 k4 k5 n0 n1 n2 n3 n4 n5 hz d0 d1 d2); clear HI h1 h2 hb; have HI := HIn; clear HIn; have k0 := cellAt (i := 0) (u := .int .i64 0) HI.out.r rfl; have k1 := cellAt (i := 1) (u := .int .i64 0) HI.out.r rfl; have k2 := cellAt (i := 2) (u := .int .i64 0) HI.out.r rfl; have k3 := cellAt (i := 3) (u := .int .i64 0) HI.out.r rfl; have k4 := cellAt (i := 4) (u := .string ⟨#[]⟩) HI.out.r rfl; have k5 := cellAt (i := 5) (u := .slice none 0 0) HI.out.r rfl; have n0 := blk_frozen HI.out.r 0; have n1 := blk_frozen HI.out.r 1; have n2 := blk_frozen HI.out.r 2; have n3 := blk_frozen HI.out.r 3; have n4 := blk_frozen HI.out.r 4; have n5 := blk_frozen HI.out.r 5; have hz := blk_lt HI.out.r) | (go_at_call 29; clear MK2; refine (ih r A c 1 b y _ (Kd.C_below HC.out (by first | exact HI.out.b | exact HI.out.drew.b)) HCC.out (by omega) HY.out).mono ?_; rintro e w4 ⟨A6, c6, rfl, h1, h2, hb⟩; have HIn : Aside0 (RawIn w w4 w.heap.size (w.heap.size + 1) r A c) := ⟨by first | exact HI.out.below hb | exact HI.out.drew.below hb⟩; have HF1 := Aside0.mk (Kd.F_mono h2 (fun q hq => RawIn.far HI.out hq)); have HL1 := Aside0.mk h1; have HFn := Aside0.mk (Kd.F_below HF0.out hb); clear HF0; have HF0 := HFn; clear HFn; (try clear k0 k1 k2 k3 k4 k5 n0 n1 n2 n3 n4 n5 hz d0 d1 d2); clear HI h1 h2 hb; have HI := HIn; clear HIn; have k0 := cellAt (i := 0) (u := .int .i64 0) HI.out.r rfl; have k1 := cellAt (i := 1) (u := .int .i64 0) HI.out.r rfl; have k2 := cellAt (i := 2) (u := .int .i64 0) HI.out.r rfl; have k3 := cellAt (i := 3) (u := .int .i64 0) HI.out.r rfl; have k4 := cellAt (i := 4) (u := .string ⟨#[]⟩) HI.out.r rfl; have k5 := cellAt (i := 5) (u := .slice none 0 0) HI.out.r rfl; have n0 := blk_frozen HI.out.r 0; have n1 := blk_frozen HI.out.r 1; have n2 := blk_frozen HI.out.r 2; have n3 := blk_frozen HI.out.r 3; have n4 := blk_frozen HI.out.r 4; have n5 := blk_frozen HI.out.r 5; have hz := blk_lt HI.out.r))
  go_wp2
  refine bodyPost_ret (results_cell_row rfl _ _ (w.heap.size + 1) 33 #[.int .i64 4, .int .i64 0, .int .i64 0, .int .i64 0, .string ⟨#[]⟩, .slice (some ⟨w4.heap.size, 0, none⟩) 2 2] (0, 0) _ (by rfl) (blk_alloc (set6_blk HI.out.r) _) Try.underlying33 rfl (by kernel_rfl)) rfl ?_
  exact HI.out.endL (.cells #[.int .i64 x.f0, .int .i64 x.f1, .int .i64 x.f2, .int .i64 x.f3, .string x.f4, .slice A5 x.f5.length c5, .int .i64 y.f0, .int .i64 y.f1, .int .i64 y.f2, .int .i64 y.f3, .string y.f4, .slice A6 y.f5.length c6] 33) ⟨4, 0, 0, 0, ⟨#[]⟩, [x, y]⟩ (some ⟨w4.heap.size, 0, none⟩) 2 (Nat.le_refl _) (lit2_F (heap_alloc_new w4 _) ⟨HI.out.b.size, fun e => by have := blk_lt HI.out.r; omega⟩ HL0.out (Kd.F_alloc HF0.out _) HL1.out (Kd.F_alloc HF1.out _))
end Go.Proofs.Ytnnpfgpfkningaa.P
namespace Go.Proofs.Ytnnpfgpfkningaa.P
open Go.RowKit Go.Proofs.YtnnpfgpfkningaaW.PrintWords Go.Proofs.YtnnpfgpfkningaaW.PrintLast Go.Proofs.YtnnpfgpfkningaaW.PrintMore
attribute [local go_sem] max2_int min2_int max_two min_two max_three min_three max_four min_four   -- for this text's walks alone
attribute [local go_sem ↓ high] Go.Proofs.YtnnpfgpfkningaaX.isSome_setCell
set_option linter.unusedVariables false
set_option linter.unusedSimpArgs false
set_option maxRecDepth 100000 in
set_option maxHeartbeats 8000000 in
theorem rmk_alt (k : Nat) (ih : partTold k) (r : S35) (A : Option Addr) (c : Nat) (b : Bool) (z : S33) (w : World) (hC : Kd.C k35 w A r.f2.length r.f2) (hc : r.f2.length ≤ c) (h : rawF (k + 1) r b = some z) (hk : ¬ wth r.f0 20 < 13 ∧ wth r.f0 20 < 15) : Calls Try.prog 13 #[.agg #[.int .i64 r.f0, .int .i64 r.f1, .slice A r.f2.length c], .bool b] w (RexAt w z) := by
  have HIN := Aside0.mk (RawIn.new w r A c)
  have HC := Aside0.mk hC
  have HCC := Aside0.mk hc
  rw [rawF, if_neg (by omega), if_neg (by omega), if_neg (by omega), if_neg (by omega), if_pos (by omega)] at h
  have t1 : decide (wth r.f0 20 < 1) = false := decide_eq_false (by omega)
  have t6 : decide (wth r.f0 20 < 6) = false := decide_eq_false (by omega)
  have t8 : decide (wth r.f0 20 < 8) = false := decide_eq_false (by omega)
  have t13 : decide (wth r.f0 20 < 13) = false := decide_eq_false (by omega)
  have t15 : decide (wth r.f0 20 < 15) = true := decide_eq_true (by omega)
  obtain ⟨x, hx, h⟩ := Option.bind_eq_some_iff.1 h
  obtain ⟨y, hy, h⟩ := Option.bind_eq_some_iff.1 h
  obtain rfl := Option.some.inj h
  have HX := Aside0.mk hx
  have HY := Aside0.mk hy
  clear h hk hC hc hx hy
  have MK0 := True.intro
  have MK1 := True.intro
  have MK2 := True.intro
  go_enter Try.func13, Try.ntmps13
  go_wp2_with (go_at_call 28; clear MK0; refine (within5 r.f0 20 _ (by omega) (by omega)).mono ?_; rintro e w2 ⟨rfl, ⟨nd, rfl⟩⟩; have HI := Aside0.mk (HIN.out.drewN nd); obtain ⟨W2, hW2⟩ : ∃ W2, World.drewN ((w.alloc (.cells #[.int .i64 r.f0, .int .i64 r.f1, .slice A r.f2.length c] 35)).alloc (.cells #[.int .i64 0, .int .i64 0, .int .i64 0, .int .i64 0, .string ⟨#[]⟩, .slice none 0 0] 33)) nd = W2 := ⟨_, rfl⟩; rw [hW2] at HI ⊢; clear hW2 HIN; have d0 := cellAt (i := 0) (u := .int .i64 r.f0) HI.out.x rfl; have d1 := cellAt (i := 1) (u := .int .i64 r.f1) HI.out.x rfl; have d2 := cellAt (i := 2) (u := .slice A r.f2.length c) HI.out.x rfl; have k0 := cellAt (i := 0) (u := .int .i64 0) HI.out.r rfl; have k1 := cellAt (i := 1) (u := .int .i64 0) HI.out.r rfl; have k2 := cellAt (i := 2) (u := .int .i64 0) HI.out.r rfl; have k3 := cellAt (i := 3) (u := .int .i64 0) HI.out.r rfl; have k4 := cellAt (i := 4) (u := .string ⟨#[]⟩) HI.out.r rfl; have k5 := cellAt (i := 5) (u := .slice none 0 0) HI.out.r rfl; have n0 := blk_frozen HI.out.r 0; have n1 := blk_frozen HI.out.r 1; have n2 := blk_frozen HI.out.r 2; have n3 := blk_frozen HI.out.r 3; have n4 := blk_frozen HI.out.r 4; have n5 := blk_frozen HI.out.r 5; have hz := blk_lt HI.out.r)
  clear d0 d1 d2 k0 k1 k2 k3 k4 k5 n0 n1 n2 n3 n4 n5 hz
  go_region_held3 (fun w' => w'.cell? ⟨w.heap.size, 0, none⟩ = some (.int .i64 r.f0) ∧ w'.cell? ⟨w.heap.size, 1, none⟩ = some (.int .i64 r.f1) ∧ w'.cell? ⟨w.heap.size, 2, none⟩ = some (.slice A r.f2.length c)) (first | (with_reducible exact HI.out.S) | (with_reducible exact HI.out.drew.S) | (with_reducible exact (HI.out.below (below_alloc (Below.refl _ _) _)).S) | (with_reducible exact RawIn.S6a HI.out _ rfl)) (first | (go_at_call 29; clear MK1; refine (ih r A c 0 b x _ (Kd.C_below HC.out (by first | exact HI.out.b | exact HI.out.drew.b)) HCC.out (by omega) HX.out).mono ?_; rintro e w3 ⟨A5, c5, rfl, h1, h2, hb⟩; have HIn : Aside0 (RawIn w w3 w.heap.size (w.heap.size + 1) r A c) := ⟨by first | exact HI.out.below hb | exact HI.out.drew.below hb⟩; have HF0 := Aside0.mk (Kd.F_mono h2 (fun q hq => RawIn.far HI.out hq)); have HL0 := Aside0.mk h1; (try clear k0 k1 k2 k3 k4 k5 n0 n1 n2 n3 n4 n5 hz d0 d1 d2); clear HI h1 h2 hb; have HI := HIn; clear HIn; have k0 := cellAt (i := 0) (u := .int .i64 0) HI.out.r rfl; have k1 := cellAt (i := 1) (u := .int .i64 0) HI.out.r rfl; have k2 := cellAt (i := 2) (u := .int .i64 0) HI.out.r rfl; have k3 := cellAt (i := 3) (u := .int .i64 0) HI.out.r rfl; have k4 := cellAt (i := 4) (u := .string ⟨#[]⟩) HI.out.r rfl; have k5 := cellAt (i := 5) (u := .slice none 0 0) HI.out.r rfl; have n0 := blk_frozen HI.out.r 0; have n1 := blk_frozen HI.out.r 1; have n2 := blk_frozen HI.out.r 2; have n3 := blk_frozen HI.out.r 3; have n4 := blk_frozen HI.out.r 4; have n5 := blk_frozen HI.out.r 5; have hz := blk_lt HI.out.r) | (go_at_call 29; clear MK2; refine (ih r A c 1 b y _ (Kd.C_below HC.out (by first | exact HI.out.b | exact HI.out.drew.b)) HCC.out (by omega) HY.out).mono ?_; rintro e w4 ⟨A6, c6, rfl, h1, h2, hb⟩; have HIn : Aside0 (RawIn w w4 w.heap.size (w.heap.size + 1) r A c) := ⟨by first | exact HI.out.below hb | exact HI.out.drew.below hb⟩; have HF1 := Aside0.mk (Kd.F_mono h2 (fun q hq => RawIn.far HI.out hq)); have HL1 := Aside0.mk h1; have HFn := Aside0.mk (Kd.F_below HF0.out hb); clear HF0; have HF0 := HFn; clear HFn; (try clear k0 k1 k2 k3 k4 k5 n0 n1 n2 n3 n4 n5 hz d0 d1 d2); clear HI h1 h2 hb; have HI := HIn; clear HIn; have k0 := cellAt (i := 0) (u := .int .i64 0) HI.out.r rfl; have k1 := cellAt (i := 1) (u := .int .i64 0) HI.out.r rfl; have k2 := cellAt (i := 2) (u := .int .i64 0) HI.out.r rfl; have k3 := cellAt (i := 3) (u := .int .i64 0) HI.out.r rfl; have k4 := cellAt (i := 4) (u := .string ⟨#[]⟩) HI.out.r rfl; have k5 := cellAt (i := 5) (u := .slice none 0 0) HI.out.r rfl; have n0 := blk_frozen HI.out.r 0; have n1 := blk_frozen HI.out.r 1; have n2 := blk_frozen HI.out.r 2; have n3 := blk_frozen HI.out.r 3; have n4 := blk_frozen HI.out.r 4; have n5 := blk_frozen HI.out.r 5; have hz := blk_lt HI.out.r))
  go_wp2
  refine bodyPost_ret (results_cell_row rfl _ _ (w.heap.size + 1) 33 #[.int .i64 5, .int .i64 0, .int .i64 0, .int .i64 0, .string ⟨#[]⟩, .slice (some ⟨w4.heap.size, 0, none⟩) 2 2] (0, 0) _ (by rfl) (blk_alloc (set6_blk HI.out.r) _) Try.underlying33 rfl (by kernel_rfl)) rfl ?_
  exact HI.out.endL (.cells #[.int .i64 x.f0, .int .i64 x.f1, .int .i64 x.f2, .int .i64 x.f3, .string x.f4, .slice A5 x.f5.length c5, .int .i64 y.f0, .int .i64 y.f1, .int .i64 y.f2, .int .i64 y.f3, .string y.f4, .slice A6 y.f5.length c6] 33) ⟨5, 0, 0, 0, ⟨#[]⟩, [x, y]⟩ (some ⟨w4.heap.size, 0, none⟩) 2 (Nat.le_refl _) (lit2_F (heap_alloc_new w4 _) ⟨HI.out.b.size, fun e => by have := blk_lt HI.out.r; omega⟩ HL0.out (Kd.F_alloc HF0.out _) HL1.out (Kd.F_alloc HF1.out _))
end Go.Proofs.Ytnnpfgpfkningaa.P
namespace Go.Proofs.Ytnnpfgpfkningaa.P
open Go.RowKit Go.Proofs.YtnnpfgpfkningaaW.PrintWords Go.Proofs.YtnnpfgpfkningaaW.PrintLast Go.Proofs.YtnnpfgpfkningaaW.PrintMore
attribute [local go_sem] max2_int min2_int max_two min_two max_three min_three max_four min_four   -- for this text's walks alone
attribute [local go_sem ↓ high] Go.Proofs.YtnnpfgpfkningaaX.isSome_setCell
set_option linter.unusedVariables false
set_option linter.unusedSimpArgs false
set_option maxRecDepth 100000 in
set_option maxHeartbeats 8000000 in
theorem rmk_star (k : Nat) (ih : partTold k) (r : S35) (A : Option Addr) (c : Nat) (b : Bool) (z : S33) (w : World) (hC : Kd.C k35 w A r.f2.length r.f2) (hc : r.f2.length ≤ c) (h : rawF (k + 1) r b = some z) (hk : ¬ wth r.f0 20 < 15 ∧ wth r.f0 20 < 16) : Calls Try.prog 13 #[.agg #[.int .i64 r.f0, .int .i64 r.f1, .slice A r.f2.length c], .bool b] w (RexAt w z) := by
  have HIN := Aside0.mk (RawIn.new w r A c)
  have HC := Aside0.mk hC
  have HCC := Aside0.mk hc
  rw [rawF, if_neg (by omega), if_neg (by omega), if_neg (by omega), if_neg (by omega), if_neg (by omega), if_pos (by omega)] at h
  have t1 : decide (wth r.f0 20 < 1) = false := decide_eq_false (by omega)
  have t6 : decide (wth r.f0 20 < 6) = false := decide_eq_false (by omega)
  have t8 : decide (wth r.f0 20 < 8) = false := decide_eq_false (by omega)
  have t13 : decide (wth r.f0 20 < 13) = false := decide_eq_false (by omega)
  have t15 : decide (wth r.f0 20 < 15) = false := decide_eq_false (by omega)
  have t16 : decide (wth r.f0 20 < 16) = true := decide_eq_true (by omega)
  obtain ⟨x, hx, h⟩ := Option.bind_eq_some_iff.1 h
  obtain rfl := Option.some.inj h
  have HX := Aside0.mk hx
  clear h hk hC hc hx
  have MK0 := True.intro
  have MK1 := True.intro
  go_enter Try.func13, Try.ntmps13
  go_wp2_with (first | (go_at_call 28; clear MK0; refine (within5 r.f0 20 _ (by omega) (by omega)).mono ?_; rintro e w2 ⟨rfl, ⟨nd, rfl⟩⟩; have HI := Aside0.mk (HIN.out.drewN nd); obtain ⟨W2, hW2⟩ : ∃ W2, World.drewN ((w.alloc (.cells #[.int .i64 r.f0, .int .i64 r.f1, .slice A r.f2.length c] 35)).alloc (.cells #[.int .i64 0, .int .i64 0, .int .i64 0, .int .i64 0, .string ⟨#[]⟩, .slice none 0 0] 33)) nd = W2 := ⟨_, rfl⟩; rw [hW2] at HI ⊢; clear hW2 HIN; have d0 := cellAt (i := 0) (u := .int .i64 r.f0) HI.out.x rfl; have d1 := cellAt (i := 1) (u := .int .i64 r.f1) HI.out.x rfl; have d2 := cellAt (i := 2) (u := .slice A r.f2.length c) HI.out.x rfl; have k0 := cellAt (i := 0) (u := .int .i64 0) HI.out.r rfl; have k1 := cellAt (i := 1) (u := .int .i64 0) HI.out.r rfl; have k2 := cellAt (i := 2) (u := .int .i64 0) HI.out.r rfl; have k3 := cellAt (i := 3) (u := .int .i64 0) HI.out.r rfl; have k4 := cellAt (i := 4) (u := .string ⟨#[]⟩) HI.out.r rfl; have k5 := cellAt (i := 5) (u := .slice none 0 0) HI.out.r rfl; have n0 := blk_frozen HI.out.r 0; have n1 := blk_frozen HI.out.r 1; have n2 := blk_frozen HI.out.r 2; have n3 := blk_frozen HI.out.r 3; have n4 := blk_frozen HI.out.r 4; have n5 := blk_frozen HI.out.r 5; have hz := blk_lt HI.out.r) | (go_at_call 29; clear MK1; refine (ih r A c 0 b x _ (Kd.C_below HC.out (by first | exact HI.out.b | exact HI.out.drew.b)) HCC.out (by omega) HX.out).mono ?_; rintro e w3 ⟨A5, c5, rfl, h1, h2, hb⟩; have HIn : Aside0 (RawIn w w3 w.heap.size (w.heap.size + 1) r A c) := ⟨by first | exact HI.out.below hb | exact HI.out.drew.below hb⟩; have HF0 := Aside0.mk (Kd.F_mono h2 (fun q hq => RawIn.far HI.out hq)); have HL0 := Aside0.mk h1; (try clear k0 k1 k2 k3 k4 k5 n0 n1 n2 n3 n4 n5 hz d0 d1 d2); clear HI h1 h2 hb; have HI := HIn; clear HIn; have k0 := cellAt (i := 0) (u := .int .i64 0) HI.out.r rfl; have k1 := cellAt (i := 1) (u := .int .i64 0) HI.out.r rfl; have k2 := cellAt (i := 2) (u := .int .i64 0) HI.out.r rfl; have k3 := cellAt (i := 3) (u := .int .i64 0) HI.out.r rfl; have k4 := cellAt (i := 4) (u := .string ⟨#[]⟩) HI.out.r rfl; have k5 := cellAt (i := 5) (u := .slice none 0 0) HI.out.r rfl; have n0 := blk_frozen HI.out.r 0; have n1 := blk_frozen HI.out.r 1; have n2 := blk_frozen HI.out.r 2; have n3 := blk_frozen HI.out.r 3; have n4 := blk_frozen HI.out.r 4; have n5 := blk_frozen HI.out.r 5; have hz := blk_lt HI.out.r))
  refine bodyPost_ret (results_cell_row rfl _ _ (w.heap.size + 1) 33 #[.int .i64 6, .int .i64 0, .int .i64 0, .int .i64 0, .string ⟨#[]⟩, .slice (some ⟨w3.heap.size, 0, none⟩) 1 1] (0, 0) _ (by rfl) (blk_alloc (set6_blk HI.out.r) _) Try.underlying33 rfl (by kernel_rfl)) rfl ?_
  exact HI.out.endL (.cells #[.int .i64 x.f0, .int .i64 x.f1, .int .i64 x.f2, .int .i64 x.f3, .string x.f4, .slice A5 x.f5.length c5] 33) ⟨6, 0, 0, 0, ⟨#[]⟩, [x]⟩ (some ⟨w3.heap.size, 0, none⟩) 1 (Nat.le_refl _) (lit1_F (heap_alloc_new w3 _) ⟨HI.out.b.size, fun e => by have := blk_lt HI.out.r; omega⟩ HL0.out (Kd.F_alloc HF0.out _))
end Go.Proofs.Ytnnpfgpfkningaa.P
namespace Go.Proofs.Ytnnpfgpfkningaa.P
open Go.RowKit Go.Proofs.YtnnpfgpfkningaaW.PrintWords Go.Proofs.YtnnpfgpfkningaaW.PrintLast Go.Proofs.YtnnpfgpfkningaaW.PrintMore
attribute [local go_sem] max2_int min2_int max_two min_two max_three min_three max_four min_four   -- for this text's walks alone
attribute [local go_sem ↓ high] Go.Proofs.YtnnpfgpfkningaaX.isSome_setCell
set_option linter.unusedVariables false
set_option linter.unusedSimpArgs false
set_option maxRecDepth 100000 in
set_option maxHeartbeats 8000000 in
theorem rmk_times (k : Nat) (ih : partTold k) (r : S35) (A : Option Addr) (c : Nat) (b : Bool) (z : S33) (w : World) (hC : Kd.C k35 w A r.f2.length r.f2) (hc : r.f2.length ≤ c) (h : rawF (k + 1) r b = some z) (hk : ¬ wth r.f0 20 < 16 ∧ wth r.f0 20 < 18) : Calls Try.prog 13 #[.agg #[.int .i64 r.f0, .int .i64 r.f1, .slice A r.f2.length c], .bool b] w (RexAt w z) := by
  have HIN := Aside0.mk (RawIn.new w r A c)
  have HC := Aside0.mk hC
  have HCC := Aside0.mk hc
  rw [rawF, if_neg (by omega), if_neg (by omega), if_neg (by omega), if_neg (by omega), if_neg (by omega), if_neg (by omega), if_pos (by omega)] at h
  have t1 : decide (wth r.f0 20 < 1) = false := decide_eq_false (by omega)
  have t6 : decide (wth r.f0 20 < 6) = false := decide_eq_false (by omega)
  have t8 : decide (wth r.f0 20 < 8) = false := decide_eq_false (by omega)
  have t13 : decide (wth r.f0 20 < 13) = false := decide_eq_false (by omega)
  have t15 : decide (wth r.f0 20 < 15) = false := decide_eq_false (by omega)
  have t16 : decide (wth r.f0 20 < 16) = false := decide_eq_false (by omega)
  have t18 : decide (wth r.f0 20 < 18) = true := decide_eq_true (by omega)
  obtain ⟨x, hx, h⟩ := Option.bind_eq_some_iff.1 h
  obtain rfl := Option.some.inj h
  have HX := Aside0.mk hx
  have hq : IntKind.i64.wrap (Int.tdiv r.f1 3) = wrap64 (Int.tdiv r.f1 3) := i64_w _
  have hs : IntKind.i64.wrap (wth r.f1 3 + wth (wrap64 (Int.tdiv r.f1 3)) 3) = wrap64 (wth r.f1 3 + wth (wrap64 (Int.tdiv r.f1 3)) 3) := i64_w _
  have MK2 := True.intro
  clear h hk hC hc hx
  have MK0 := True.intro
  have MK1 := True.intro
  have MK3 := True.intro
  go_enter Try.func13, Try.ntmps13
  go_wp2_with (first | (go_at_call 28; clear MK0; refine (within5 r.f0 20 _ (by omega) (by omega)).mono ?_; rintro e w2 ⟨rfl, ⟨nd, rfl⟩⟩; have HI := Aside0.mk (HIN.out.drewN nd); obtain ⟨W2, hW2⟩ : ∃ W2, World.drewN ((w.alloc (.cells #[.int .i64 r.f0, .int .i64 r.f1, .slice A r.f2.length c] 35)).alloc (.cells #[.int .i64 0, .int .i64 0, .int .i64 0, .int .i64 0, .string ⟨#[]⟩, .slice none 0 0] 33)) nd = W2 := ⟨_, rfl⟩; rw [hW2] at HI ⊢; clear hW2 HIN; have d0 := cellAt (i := 0) (u := .int .i64 r.f0) HI.out.x rfl; have d1 := cellAt (i := 1) (u := .int .i64 r.f1) HI.out.x rfl; have d2 := cellAt (i := 2) (u := .slice A r.f2.length c) HI.out.x rfl; have k0 := cellAt (i := 0) (u := .int .i64 0) HI.out.r rfl; have k1 := cellAt (i := 1) (u := .int .i64 0) HI.out.r rfl; have k2 := cellAt (i := 2) (u := .int .i64 0) HI.out.r rfl; have k3 := cellAt (i := 3) (u := .int .i64 0) HI.out.r rfl; have k4 := cellAt (i := 4) (u := .string ⟨#[]⟩) HI.out.r rfl; have k5 := cellAt (i := 5) (u := .slice none 0 0) HI.out.r rfl; have n0 := blk_frozen HI.out.r 0; have n1 := blk_frozen HI.out.r 1; have n2 := blk_frozen HI.out.r 2; have n3 := blk_frozen HI.out.r 3; have n4 := blk_frozen HI.out.r 4; have n5 := blk_frozen HI.out.r 5; have hz := blk_lt HI.out.r) | (go_at_call 28; clear MK2; refine (within5 r.f1 3 _ (by omega) (by omega)).mono ?_; rintro e w2 ⟨rfl, ⟨nd, rfl⟩⟩; have HIn := Aside0.mk (HI.out.drewN nd); obtain ⟨W3, hW3⟩ : ∃ W3, World.drewN W2 nd = W3 := ⟨_, rfl⟩; rw [hW3] at HIn ⊢; clear hW3 HI k0 k1 k2 k3 k4 k5 n0 n1 n2 n3 n4 n5 hz d0 d1 d2; have HI := HIn; clear HIn; have d0 := cellAt (i := 0) (u := .int .i64 r.f0) HI.out.x rfl; have d1 := cellAt (i := 1) (u := .int .i64 r.f1) HI.out.x rfl; have d2 := cellAt (i := 2) (u := .slice A r.f2.length c) HI.out.x rfl; have k0 := cellAt (i := 0) (u := .int .i64 0) HI.out.r rfl; have k1 := cellAt (i := 1) (u := .int .i64 0) HI.out.r rfl; have k2 := cellAt (i := 2) (u := .int .i64 0) HI.out.r rfl; have k3 := cellAt (i := 3) (u := .int .i64 0) HI.out.r rfl; have k4 := cellAt (i := 4) (u := .string ⟨#[]⟩) HI.out.r rfl; have k5 := cellAt (i := 5) (u := .slice none 0 0) HI.out.r rfl; have n0 := blk_frozen HI.out.r 0; have n1 := blk_frozen HI.out.r 1; have n2 := blk_frozen HI.out.r 2; have n3 := blk_frozen HI.out.r 3; have n4 := blk_frozen HI.out.r 4; have n5 := blk_frozen HI.out.r 5; have hz := blk_lt HI.out.r))
  clear d0 d1 d2 k0 k1 k2 k3 k4 k5 n0 n1 n2 n3 n4 n5 hz
  go_region_held3 (fun w' => w'.cell? ⟨w.heap.size, 0, none⟩ = some (.int .i64 r.f0) ∧ w'.cell? ⟨w.heap.size, 1, none⟩ = some (.int .i64 r.f1) ∧ w'.cell? ⟨w.heap.size, 2, none⟩ = some (.slice A r.f2.length c)) (first | (with_reducible exact HI.out.S) | (with_reducible exact HI.out.drew.S) | (with_reducible exact (HI.out.below (below_alloc (Below.refl _ _) _)).S) | (with_reducible exact (HI.out.drewN _).S) | (with_reducible exact ((HI.out.below (below_alloc (Below.refl _ _) _)).drewN _).S) | (with_reducible exact ((HI.out.drewN _).below (below_alloc (Below.refl _ _) _)).S) | (refine ⟨?_, ?_, ?_⟩ <;> (refine set6_cell (by omega) ?_; first | (with_reducible exact ((HI.out.below (below_alloc (Below.refl _ _) _)).drewN _).S.1) | (with_reducible exact ((HI.out.below (below_alloc (Below.refl _ _) _)).drewN _).S.2.1) | (with_reducible exact ((HI.out.below (below_alloc (Below.refl _ _) _)).drewN _).S.2.2) | (with_reducible exact ((HI.out.drewN _).below (below_alloc (Below.refl _ _) _)).S.1) | (with_reducible exact ((HI.out.drewN _).below (below_alloc (Below.refl _ _) _)).S.2.1) | (with_reducible exact ((HI.out.drewN _).below (below_alloc (Below.refl _ _) _)).S.2.2)))) (first | (go_at_call 29; clear MK1; refine (ih r A c 0 b x _ (Kd.C_below HC.out (by first | exact HI.out.b | exact HI.out.drew.b)) HCC.out (by omega) HX.out).mono ?_; rintro e w3 ⟨A5, c5, rfl, h1, h2, hb⟩; have HIn : Aside0 (RawIn w w3 w.heap.size (w.heap.size + 1) r A c) := ⟨by first | exact HI.out.below hb | exact HI.out.drew.below hb⟩; have HF0 := Aside0.mk (Kd.F_mono h2 (fun q hq => RawIn.far HI.out hq)); have HL0 := Aside0.mk h1; (try clear k0 k1 k2 k3 k4 k5 n0 n1 n2 n3 n4 n5 hz d0 d1 d2); clear HI h1 h2 hb; have HI := HIn; clear HIn; have k0 := cellAt (i := 0) (u := .int .i64 0) HI.out.r rfl; have k1 := cellAt (i := 1) (u := .int .i64 0) HI.out.r rfl; have k2 := cellAt (i := 2) (u := .int .i64 0) HI.out.r rfl; have k3 := cellAt (i := 3) (u := .int .i64 0) HI.out.r rfl; have k4 := cellAt (i := 4) (u := .string ⟨#[]⟩) HI.out.r rfl; have k5 := cellAt (i := 5) (u := .slice none 0 0) HI.out.r rfl; have n0 := blk_frozen HI.out.r 0; have n1 := blk_frozen HI.out.r 1; have n2 := blk_frozen HI.out.r 2; have n3 := blk_frozen HI.out.r 3; have n4 := blk_frozen HI.out.r 4; have n5 := blk_frozen HI.out.r 5; have hz := blk_lt HI.out.r) | (go_at_call 28; refine (within5 _ 3 _ (by omega) (by omega)).mono ?_; rintro e w8 ⟨rfl, ⟨nd, rfl⟩⟩; have HJ := Aside0.mk (blk_alloc (HI.out.drewN nd).r (.cells #[.int .i64 x.f0, .int .i64 x.f1, .int .i64 x.f2, .int .i64 x.f3, .string x.f4, .slice A5 x.f5.length c5] 33)); have kj0 := cellAt (i := 0) (u := .int .i64 0) HJ.out rfl; have kj1 := cellAt (i := 1) (u := .int .i64 0) HJ.out rfl; have kj2 := cellAt (i := 2) (u := .int .i64 0) HJ.out rfl; have kj3 := cellAt (i := 3) (u := .int .i64 0) HJ.out rfl; have kj4 := cellAt (i := 4) (u := .string ⟨#[]⟩) HJ.out rfl; have kj5 := cellAt (i := 5) (u := .slice none 0 0) HJ.out rfl; have nj0 := blk_frozen HJ.out 0; have nj1 := blk_frozen HJ.out 1; have nj2 := blk_frozen HJ.out 2; have nj3 := blk_frozen HJ.out 3; have nj4 := blk_frozen HJ.out 4; have nj5 := blk_frozen HJ.out 5; have hzj := blk_lt HJ.out; have HV := Aside0.mk (blk_drewN (blk_alloc HI.out.r (.cells #[.int .i64 x.f0, .int .i64 x.f1, .int .i64 x.f2, .int .i64 x.f3, .string x.f4, .slice A5 x.f5.length c5] 33)) nd); have kv0 := cellAt (i := 0) (u := .int .i64 0) HV.out rfl; have kv1 := cellAt (i := 1) (u := .int .i64 0) HV.out rfl; have kv2 := cellAt (i := 2) (u := .int .i64 0) HV.out rfl; have kv3 := cellAt (i := 3) (u := .int .i64 0) HV.out rfl; have kv4 := cellAt (i := 4) (u := .string ⟨#[]⟩) HV.out rfl; have kv5 := cellAt (i := 5) (u := .slice none 0 0) HV.out rfl; have nv0 := blk_frozen HV.out 0; have nv1 := blk_frozen HV.out 1; have nv2 := blk_frozen HV.out 2; have nv3 := blk_frozen HV.out 3; have nv4 := blk_frozen HV.out 4; have nv5 := blk_frozen HV.out 5; have hzv := blk_lt HV.out))
  all_goals
    go_wp2
    first
    | refine bodyPost_ret (results_cell_row rfl _ _ (w.heap.size + 1) 33 #[.int .i64 7, .int .i64 (wth r.f1 3), .int .i64 (wrap64 (wth r.f1 3 + wth (wrap64 (Int.tdiv r.f1 3)) 3)), .int .i64 0, .string ⟨#[]⟩, .slice (some ⟨w3.heap.size, 0, none⟩) 1 1] (0, 0) _ (by rfl) (set6_blk ((HI.out.below (below_alloc (Below.refl _ _) _)).drewN _).r) Try.underlying33 rfl (by kernel_rfl)) rfl ?_
      exact ((HI.out.below (below_alloc (Below.refl _ _) _)).drewN _).end_ ⟨7, (wth r.f1 3), (wrap64 (wth r.f1 3 + wth (wrap64 (Int.tdiv r.f1 3)) 3)), 0, ⟨#[]⟩, [x]⟩ (some ⟨w3.heap.size, 0, none⟩) 1 (Nat.le_refl _) (Kd.F_drewN (lit1_F (heap_alloc_new w3 _) ⟨HI.out.b.size, fun e => by have := blk_lt HI.out.r; omega⟩ HL0.out (Kd.F_alloc HF0.out _)) _)
    | refine bodyPost_ret (results_cell_row rfl _ _ (w.heap.size + 1) 33 #[.int .i64 7, .int .i64 (wth r.f1 3), .int .i64 (wrap64 (wth r.f1 3 + wth (wrap64 (Int.tdiv r.f1 3)) 3)), .int .i64 0, .string ⟨#[]⟩, .slice (some ⟨w3.heap.size, 0, none⟩) 1 1] (0, 0) _ (by rfl) (set6_blk ((HI.out.drewN _).below (below_alloc (Below.refl _ _) _)).r) Try.underlying33 rfl (by kernel_rfl)) rfl ?_
      exact ((HI.out.drewN _).below (below_alloc (Below.refl _ _) _)).end_ ⟨7, (wth r.f1 3), (wrap64 (wth r.f1 3 + wth (wrap64 (Int.tdiv r.f1 3)) 3)), 0, ⟨#[]⟩, [x]⟩ (some ⟨w3.heap.size, 0, none⟩) 1 (Nat.le_refl _) (lit1_F (by have := heap_alloc_new (w3.drewN nd) (.cells #[.int .i64 x.f0, .int .i64 x.f1, .int .i64 x.f2, .int .i64 x.f3, .string x.f4, .slice A5 x.f5.length c5] 33); rwa [show (w3.drewN nd).heap.size = w3.heap.size from by simp] at this) ⟨HI.out.b.size, fun e => by have := blk_lt HI.out.r; omega⟩ HL0.out (Kd.F_alloc (Kd.F_drewN HF0.out _) _))
end Go.Proofs.Ytnnpfgpfkningaa.P
namespace Go.Proofs.Ytnnpfgpfkningaa.P
open Go.RowKit Go.Proofs.YtnnpfgpfkningaaW.PrintWords Go.Proofs.YtnnpfgpfkningaaW.PrintLast Go.Proofs.YtnnpfgpfkningaaW.PrintMore
attribute [local go_sem] max2_int min2_int max_two min_two max_three min_three max_four min_four   -- for this text's walks alone
attribute [local go_sem ↓ high] Go.Proofs.YtnnpfgpfkningaaX.isSome_setCell
set_option linter.unusedVariables false
set_option linter.unusedSimpArgs false
set_option maxRecDepth 100000 in
set_option maxHeartbeats 8000000 in
theorem rmk_right (k : Nat) (ih : partTold k) (r : S35) (A : Option Addr) (c : Nat) (b : Bool) (z : S33) (w : World) (hC : Kd.C k35 w A r.f2.length r.f2) (hc : r.f2.length ≤ c) (h : rawF (k + 1) r b = some z) (hk : ¬ wth r.f0 20 < 18 ∧ b = true) : Calls Try.prog 13 #[.agg #[.int .i64 r.f0, .int .i64 r.f1, .slice A r.f2.length c], .bool b] w (RexAt w z) := by
  have HIN := Aside0.mk (RawIn.new w r A c)
  have HC := Aside0.mk hC
  have HCC := Aside0.mk hc
  rw [rawF, if_neg (by omega), if_neg (by omega), if_neg (by omega), if_neg (by omega), if_neg (by omega), if_neg (by omega), if_neg (by omega), if_pos hk.2] at h
  have t1 : decide (wth r.f0 20 < 1) = false := decide_eq_false (by omega)
  have t6 : decide (wth r.f0 20 < 6) = false := decide_eq_false (by omega)
  have t8 : decide (wth r.f0 20 < 8) = false := decide_eq_false (by omega)
  have t13 : decide (wth r.f0 20 < 13) = false := decide_eq_false (by omega)
  have t15 : decide (wth r.f0 20 < 15) = false := decide_eq_false (by omega)
  have t16 : decide (wth r.f0 20 < 16) = false := decide_eq_false (by omega)
  have t18 : decide (wth r.f0 20 < 18) = false := decide_eq_false (by omega)
  obtain rfl : b = true := hk.2
  have HX := Aside0.mk h
  clear h hk hC hc
  have MK0 := True.intro
  have MK1 := True.intro
  go_enter Try.func13, Try.ntmps13
  go_wp2_with (first | (go_at_call 28; clear MK0; refine (within5 r.f0 20 _ (by omega) (by omega)).mono ?_; rintro e w2 ⟨rfl, ⟨nd, rfl⟩⟩; have HI := Aside0.mk (HIN.out.drewN nd); obtain ⟨W2, hW2⟩ : ∃ W2, World.drewN ((w.alloc (.cells #[.int .i64 r.f0, .int .i64 r.f1, .slice A r.f2.length c] 35)).alloc (.cells #[.int .i64 0, .int .i64 0, .int .i64 0, .int .i64 0, .string ⟨#[]⟩, .slice none 0 0] 33)) nd = W2 := ⟨_, rfl⟩; rw [hW2] at HI ⊢; clear hW2 HIN; have d0 := cellAt (i := 0) (u := .int .i64 r.f0) HI.out.x rfl; have d1 := cellAt (i := 1) (u := .int .i64 r.f1) HI.out.x rfl; have d2 := cellAt (i := 2) (u := .slice A r.f2.length c) HI.out.x rfl; have k0 := cellAt (i := 0) (u := .int .i64 0) HI.out.r rfl; have k1 := cellAt (i := 1) (u := .int .i64 0) HI.out.r rfl; have k2 := cellAt (i := 2) (u := .int .i64 0) HI.out.r rfl; have k3 := cellAt (i := 3) (u := .int .i64 0) HI.out.r rfl; have k4 := cellAt (i := 4) (u := .string ⟨#[]⟩) HI.out.r rfl; have k5 := cellAt (i := 5) (u := .slice none 0 0) HI.out.r rfl; have n0 := blk_frozen HI.out.r 0; have n1 := blk_frozen HI.out.r 1; have n2 := blk_frozen HI.out.r 2; have n3 := blk_frozen HI.out.r 3; have n4 := blk_frozen HI.out.r 4; have n5 := blk_frozen HI.out.r 5; have hz := blk_lt HI.out.r) | (go_at_call 29; clear MK1; refine (ih r A c 0 true z _ (Kd.C_below HC.out (by first | exact HI.out.b | exact HI.out.drew.b)) HCC.out (by omega) HX.out).mono ?_; rintro e w3 ⟨A5, c5, rfl, h1, h2, hb⟩; have HIn : Aside0 (RawIn w w3 w.heap.size (w.heap.size + 1) r A c) := ⟨by first | exact HI.out.below hb | exact HI.out.drew.below hb⟩; have HF0 := Aside0.mk (Kd.F_mono h2 (fun q hq => RawIn.far HI.out hq)); have HL0 := Aside0.mk h1; (try clear k0 k1 k2 k3 k4 k5 n0 n1 n2 n3 n4 n5 hz d0 d1 d2); clear HI h1 h2 hb; have HI := HIn; clear HIn; have k0 := cellAt (i := 0) (u := .int .i64 0) HI.out.r rfl; have k1 := cellAt (i := 1) (u := .int .i64 0) HI.out.r rfl; have k2 := cellAt (i := 2) (u := .int .i64 0) HI.out.r rfl; have k3 := cellAt (i := 3) (u := .int .i64 0) HI.out.r rfl; have k4 := cellAt (i := 4) (u := .string ⟨#[]⟩) HI.out.r rfl; have k5 := cellAt (i := 5) (u := .slice none 0 0) HI.out.r rfl; have n0 := blk_frozen HI.out.r 0; have n1 := blk_frozen HI.out.r 1; have n2 := blk_frozen HI.out.r 2; have n3 := blk_frozen HI.out.r 3; have n4 := blk_frozen HI.out.r 4; have n5 := blk_frozen HI.out.r 5; have hz := blk_lt HI.out.r))
  refine bodyPost_ret (results_cell_row rfl _ _ (w.heap.size + 1) 33 #[.int .i64 z.f0, .int .i64 z.f1, .int .i64 z.f2, .int .i64 z.f3, .string z.f4, .slice A5 z.f5.length c5] (0, 0) _ (by rfl) (set6_blk (HI.out).r) Try.underlying33 rfl (by kernel_rfl)) rfl ?_
  exact (HI.out).end_ z A5 c5 HL0.out HF0.out
end Go.Proofs.Ytnnpfgpfkningaa.P
namespace Go.Proofs.Ytnnpfgpfkningaa.P
open Go.RowKit Go.Proofs.YtnnpfgpfkningaaW.PrintWords Go.Proofs.YtnnpfgpfkningaaW.PrintLast Go.Proofs.YtnnpfgpfkningaaW.PrintMore
attribute [local go_sem] max2_int min2_int max_two min_two max_three min_three max_four min_four   -- for this text's walks alone
attribute [local go_sem ↓ high] Go.Proofs.YtnnpfgpfkningaaX.isSome_setCell
set_option linter.unusedVariables false
set_option linter.unusedSimpArgs false
set_option maxRecDepth 100000 in
set_option maxHeartbeats 8000000 in
theorem rmk_wght (k : Nat) (ih : partTold k) (r : S35) (A : Option Addr) (c : Nat) (b : Bool) (z : S33) (w : World) (hC : Kd.C k35 w A r.f2.length r.f2) (hc : r.f2.length ≤ c) (h : rawF (k + 1) r b = some z) (hk : ¬ wth r.f0 20 < 18 ∧ b = false) : Calls Try.prog 13 #[.agg #[.int .i64 r.f0, .int .i64 r.f1, .slice A r.f2.length c], .bool b] w (RexAt w z) := by
  have HIN := Aside0.mk (RawIn.new w r A c)
  have HC := Aside0.mk hC
  have HCC := Aside0.mk hc
  rw [rawF, if_neg (by omega), if_neg (by omega), if_neg (by omega), if_neg (by omega), if_neg (by omega), if_neg (by omega), if_neg (by omega), if_neg (by simp [hk.2])] at h
  have t1 : decide (wth r.f0 20 < 1) = false := decide_eq_false (by omega)
  have t6 : decide (wth r.f0 20 < 6) = false := decide_eq_false (by omega)
  have t8 : decide (wth r.f0 20 < 8) = false := decide_eq_false (by omega)
  have t13 : decide (wth r.f0 20 < 13) = false := decide_eq_false (by omega)
  have t15 : decide (wth r.f0 20 < 15) = false := decide_eq_false (by omega)
  have t16 : decide (wth r.f0 20 < 16) = false := decide_eq_false (by omega)
  have t18 : decide (wth r.f0 20 < 18) = false := decide_eq_false (by omega)
  obtain ⟨x, hx, h⟩ := Option.bind_eq_some_iff.1 h
  obtain rfl := Option.some.inj h
  have HX := Aside0.mk hx
  obtain rfl : b = false := hk.2
  clear h hk hC hc hx
  have MK0 := True.intro
  have MK1 := True.intro
  have MK3 := True.intro
  go_enter Try.func13, Try.ntmps13
  go_wp2_with (first | (go_at_call 28; clear MK0; refine (within5 r.f0 20 _ (by omega) (by omega)).mono ?_; rintro e w2 ⟨rfl, ⟨nd, rfl⟩⟩; have HI := Aside0.mk (HIN.out.drewN nd); obtain ⟨W2, hW2⟩ : ∃ W2, World.drewN ((w.alloc (.cells #[.int .i64 r.f0, .int .i64 r.f1, .slice A r.f2.length c] 35)).alloc (.cells #[.int .i64 0, .int .i64 0, .int .i64 0, .int .i64 0, .string ⟨#[]⟩, .slice none 0 0] 33)) nd = W2 := ⟨_, rfl⟩; rw [hW2] at HI ⊢; clear hW2 HIN; have d0 := cellAt (i := 0) (u := .int .i64 r.f0) HI.out.x rfl; have d1 := cellAt (i := 1) (u := .int .i64 r.f1) HI.out.x rfl; have d2 := cellAt (i := 2) (u := .slice A r.f2.length c) HI.out.x rfl; have k0 := cellAt (i := 0) (u := .int .i64 0) HI.out.r rfl; have k1 := cellAt (i := 1) (u := .int .i64 0) HI.out.r rfl; have k2 := cellAt (i := 2) (u := .int .i64 0) HI.out.r rfl; have k3 := cellAt (i := 3) (u := .int .i64 0) HI.out.r rfl; have k4 := cellAt (i := 4) (u := .string ⟨#[]⟩) HI.out.r rfl; have k5 := cellAt (i := 5) (u := .slice none 0 0) HI.out.r rfl; have n0 := blk_frozen HI.out.r 0; have n1 := blk_frozen HI.out.r 1; have n2 := blk_frozen HI.out.r 2; have n3 := blk_frozen HI.out.r 3; have n4 := blk_frozen HI.out.r 4; have n5 := blk_frozen HI.out.r 5; have hz := blk_lt HI.out.r))
  clear d0 d1 d2 k0 k1 k2 k3 k4 k5 n0 n1 n2 n3 n4 n5 hz
  go_region_held3 (fun w' => w'.cell? ⟨w.heap.size, 0, none⟩ = some (.int .i64 r.f0) ∧ w'.cell? ⟨w.heap.size, 1, none⟩ = some (.int .i64 r.f1) ∧ w'.cell? ⟨w.heap.size, 2, none⟩ = some (.slice A r.f2.length c)) (first | (with_reducible exact HI.out.S) | (with_reducible exact HI.out.drew.S) | (with_reducible exact (HI.out.below (below_alloc (Below.refl _ _) _)).S) | (with_reducible exact (HI.out.drewN _).S) | (with_reducible exact ((HI.out.below (below_alloc (Below.refl _ _) _)).drewN _).S) | (with_reducible exact ((HI.out.drewN _).below (below_alloc (Below.refl _ _) _)).S) | (refine ⟨?_, ?_, ?_⟩ <;> (refine set6_cell (by omega) ?_; first | (with_reducible exact ((HI.out.below (below_alloc (Below.refl _ _) _)).drewN _).S.1) | (with_reducible exact ((HI.out.below (below_alloc (Below.refl _ _) _)).drewN _).S.2.1) | (with_reducible exact ((HI.out.below (below_alloc (Below.refl _ _) _)).drewN _).S.2.2) | (with_reducible exact ((HI.out.drewN _).below (below_alloc (Below.refl _ _) _)).S.1) | (with_reducible exact ((HI.out.drewN _).below (below_alloc (Below.refl _ _) _)).S.2.1) | (with_reducible exact ((HI.out.drewN _).below (below_alloc (Below.refl _ _) _)).S.2.2)))) (first | (go_at_call 29; clear MK1; refine (ih r A c 0 false x _ (Kd.C_below HC.out (by first | exact HI.out.b | exact HI.out.drew.b)) HCC.out (by omega) HX.out).mono ?_; rintro e w3 ⟨A5, c5, rfl, h1, h2, hb⟩; have HIn : Aside0 (RawIn w w3 w.heap.size (w.heap.size + 1) r A c) := ⟨by first | exact HI.out.below hb | exact HI.out.drew.below hb⟩; have HF0 := Aside0.mk (Kd.F_mono h2 (fun q hq => RawIn.far HI.out hq)); have HL0 := Aside0.mk h1; (try clear k0 k1 k2 k3 k4 k5 n0 n1 n2 n3 n4 n5 hz d0 d1 d2); clear HI h1 h2 hb; have HI := HIn; clear HIn; have k0 := cellAt (i := 0) (u := .int .i64 0) HI.out.r rfl; have k1 := cellAt (i := 1) (u := .int .i64 0) HI.out.r rfl; have k2 := cellAt (i := 2) (u := .int .i64 0) HI.out.r rfl; have k3 := cellAt (i := 3) (u := .int .i64 0) HI.out.r rfl; have k4 := cellAt (i := 4) (u := .string ⟨#[]⟩) HI.out.r rfl; have k5 := cellAt (i := 5) (u := .slice none 0 0) HI.out.r rfl; have n0 := blk_frozen HI.out.r 0; have n1 := blk_frozen HI.out.r 1; have n2 := blk_frozen HI.out.r 2; have n3 := blk_frozen HI.out.r 3; have n4 := blk_frozen HI.out.r 4; have n5 := blk_frozen HI.out.r 5; have hz := blk_lt HI.out.r) | (go_at_call 28; refine (within5 _ 7 _ (by omega) (by omega)).mono ?_; rintro e w8 ⟨rfl, ⟨nd, rfl⟩⟩; have HJ := Aside0.mk (blk_alloc (HI.out.drewN nd).r (.cells #[.int .i64 x.f0, .int .i64 x.f1, .int .i64 x.f2, .int .i64 x.f3, .string x.f4, .slice A5 x.f5.length c5] 33)); have kj0 := cellAt (i := 0) (u := .int .i64 0) HJ.out rfl; have kj1 := cellAt (i := 1) (u := .int .i64 0) HJ.out rfl; have kj2 := cellAt (i := 2) (u := .int .i64 0) HJ.out rfl; have kj3 := cellAt (i := 3) (u := .int .i64 0) HJ.out rfl; have kj4 := cellAt (i := 4) (u := .string ⟨#[]⟩) HJ.out rfl; have kj5 := cellAt (i := 5) (u := .slice none 0 0) HJ.out rfl; have nj0 := blk_frozen HJ.out 0; have nj1 := blk_frozen HJ.out 1; have nj2 := blk_frozen HJ.out 2; have nj3 := blk_frozen HJ.out 3; have nj4 := blk_frozen HJ.out 4; have nj5 := blk_frozen HJ.out 5; have hzj := blk_lt HJ.out; have HV := Aside0.mk (blk_drewN (blk_alloc HI.out.r (.cells #[.int .i64 x.f0, .int .i64 x.f1, .int .i64 x.f2, .int .i64 x.f3, .string x.f4, .slice A5 x.f5.length c5] 33)) nd); have kv0 := cellAt (i := 0) (u := .int .i64 0) HV.out rfl; have kv1 := cellAt (i := 1) (u := .int .i64 0) HV.out rfl; have kv2 := cellAt (i := 2) (u := .int .i64 0) HV.out rfl; have kv3 := cellAt (i := 3) (u := .int .i64 0) HV.out rfl; have kv4 := cellAt (i := 4) (u := .string ⟨#[]⟩) HV.out rfl; have kv5 := cellAt (i := 5) (u := .slice none 0 0) HV.out rfl; have nv0 := blk_frozen HV.out 0; have nv1 := blk_frozen HV.out 1; have nv2 := blk_frozen HV.out 2; have nv3 := blk_frozen HV.out 3; have nv4 := blk_frozen HV.out 4; have nv5 := blk_frozen HV.out 5; have hzv := blk_lt HV.out))
  all_goals
    go_wp2
    first
    | refine bodyPost_ret (results_cell_row rfl _ _ (w.heap.size + 1) 33 #[.int .i64 8, .int .i64 0, .int .i64 0, .int .i64 (wth r.f1 7), .string ⟨#[]⟩, .slice (some ⟨w3.heap.size, 0, none⟩) 1 1] (0, 0) _ (by rfl) (set6_blk ((HI.out.below (below_alloc (Below.refl _ _) _)).drewN _).r) Try.underlying33 rfl (by kernel_rfl)) rfl ?_
      exact ((HI.out.below (below_alloc (Below.refl _ _) _)).drewN _).end_ ⟨8, 0, 0, (wth r.f1 7), ⟨#[]⟩, [x]⟩ (some ⟨w3.heap.size, 0, none⟩) 1 (Nat.le_refl _) (Kd.F_drewN (lit1_F (heap_alloc_new w3 _) ⟨HI.out.b.size, fun e => by have := blk_lt HI.out.r; omega⟩ HL0.out (Kd.F_alloc HF0.out _)) _)
    | refine bodyPost_ret (results_cell_row rfl _ _ (w.heap.size + 1) 33 #[.int .i64 8, .int .i64 0, .int .i64 0, .int .i64 (wth r.f1 7), .string ⟨#[]⟩, .slice (some ⟨w3.heap.size, 0, none⟩) 1 1] (0, 0) _ (by rfl) (set6_blk ((HI.out.drewN _).below (below_alloc (Below.refl _ _) _)).r) Try.underlying33 rfl (by kernel_rfl)) rfl ?_
      exact ((HI.out.drewN _).below (below_alloc (Below.refl _ _) _)).end_ ⟨8, 0, 0, (wth r.f1 7), ⟨#[]⟩, [x]⟩ (some ⟨w3.heap.size, 0, none⟩) 1 (Nat.le_refl _) (lit1_F (by have := heap_alloc_new (w3.drewN nd) (.cells #[.int .i64 x.f0, .int .i64 x.f1, .int .i64 x.f2, .int .i64 x.f3, .string x.f4, .slice A5 x.f5.length c5] 33); rwa [show (w3.drewN nd).heap.size = w3.heap.size from by simp] at this) ⟨HI.out.b.size, fun e => by have := blk_lt HI.out.r; omega⟩ HL0.out (Kd.F_alloc (Kd.F_drewN HF0.out _) _))
end Go.Proofs.Ytnnpfgpfkningaa.P
namespace Go.Proofs.Ytnnpfgpfkningaa.P
open Go.RowKit Go.Proofs.YtnnpfgpfkningaaW.PrintWords Go.Proofs.YtnnpfgpfkningaaW.PrintLast Go.Proofs.YtnnpfgpfkningaaW.PrintMore
attribute [local go_sem] max2_int min2_int max_two min_two max_three min_three max_four min_four   -- for this text's walks alone
attribute [local go_sem ↓ high] Go.Proofs.YtnnpfgpfkningaaX.isSome_setCell
set_option linter.unusedVariables false
set_option linter.unusedSimpArgs false
theorem rmk_step (k : Nat) (ih : partTold k) : rawTold (k + 1) := by
  intro r A c b z w hC hc h
  have hr := wth_range r.f0 20 (by omega)
  by_cases h1 : wth r.f0 20 < 1
  · exact rmk_none k ih r A c b z w hC hc h h1
  by_cases h2 : wth r.f0 20 < 6
  · exact rmk_set k ih r A c b z w hC hc h ⟨h1, h2⟩
  by_cases h3 : wth r.f0 20 < 8
  · exact rmk_any k ih r A c b z w hC hc h ⟨h2, h3⟩
  by_cases h4 : wth r.f0 20 < 13
  · exact rmk_cat k ih r A c b z w hC hc h ⟨h3, h4⟩
  by_cases h5 : wth r.f0 20 < 15
  · exact rmk_alt k ih r A c b z w hC hc h ⟨h4, h5⟩
  by_cases h6 : wth r.f0 20 < 16
  · exact rmk_star k ih r A c b z w hC hc h ⟨h5, h6⟩
  by_cases h7 : wth r.f0 20 < 18
  · exact rmk_times k ih r A c b z w hC hc h ⟨h6, h7⟩
  cases b
  · exact rmk_wght k ih r A c false z w hC hc h ⟨h7, rfl⟩
  · exact rmk_right k ih r A c true z w hC hc h ⟨h7, rfl⟩
theorem raw_told : ∀ k, rawTold k ∧ partTold k
  | 0 => ⟨fun r A c b x w _ _ h => by simp [rawF] at h, fun r A c i b x w _ _ _ h => by simp [partF] at h⟩
  | k + 1 => ⟨rmk_step k (raw_told k).2, part_step k (raw_told k).1⟩
end Go.Proofs.Ytnnpfgpfkningaa.P
namespace Go.Proofs.Ytnnpfgpfkningaa.P
open Go.RowKit Go.Proofs.YtnnpfgpfkningaaW.PrintWords Go.Proofs.YtnnpfgpfkningaaW.PrintLast Go.Proofs.YtnnpfgpfkningaaW.PrintMore
attribute [local go_sem] max2_int min2_int max_two min_two max_three min_three max_four min_four   -- for this text's walks alone
attribute [local go_sem ↓ high] Go.Proofs.YtnnpfgpfkningaaX.isSome_setCell
set_option linter.unusedVariables false
set_option linter.unusedSimpArgs false
theorem raw_use (k : Nat) (r : S35) (A : Option Addr) (c : Nat) (b : Bool) (x : S33) (w : World) (h1 : Kd.C k35 w A r.f2.length r.f2) (h2 : r.f2.length ≤ c) (h3 : rawF k r b = some x) :
    Calls Try.prog 13 #[.agg #[.int .i64 r.f0, .int .i64 r.f1, .slice A r.f2.length c], .bool b] w (RexAt w x) := (raw_told k).1 r A c b x w h1 h2 h3
end Go.Proofs.Ytnnpfgpfkningaa.P
namespace Go.Proofs.Ytnnpfgpfkningaa.P
open Go.RowKit Go.Proofs.YtnnpfgpfkningaaW.PrintWords Go.Proofs.YtnnpfgpfkningaaW.PrintLast Go.Proofs.YtnnpfgpfkningaaW.PrintMore
attribute [local go_sem] max2_int min2_int max_two min_two max_three min_three max_four min_four   -- for this text's walks alone
attribute [local go_sem ↓ high] Go.Proofs.YtnnpfgpfkningaaX.isSome_setCell
set_option linter.unusedVariables false
set_option linter.unusedSimpArgs false
/-- The first k of n are listed. -/
def pre (n k : Nat) : Array Bool := (List.replicate k true ++ List.replicate (n - k) false).toArray
/-- The operations of a region in the text's order: the next one, that yields the same wherever S holds. -/
theorem seq_ {P : Program} {md : Region.Mode} {ops : Array Oper} {Q : Exit → Act → World → Prop} {S : World → Prop} {ds : List Nat} {n k : Nat} {N : Option Tmp} {oi : Oper} {v : Value} {fuel : Nat} {a : Act} {w : World} (hi : ops[k]? = some oi) (hN : oi.dst = N) (hc : takeB md ops ds (pre n k) (pre n (k + 1)) k = true)
    (hQ : ∀ c a w, Q (.panic c) (a.put oi.dst v) w → Q (.panic c) a w) (hy : YieldsIf P ops S oi v a) (hS : S w) {a' : Act} (ha : a.put N v = a')
    (h : wpAnyLast P md ops Q S ds fuel (pre n (k + 1)) a' w) : wpAnyLast P md ops Q S ds (fuel + 1) (pre n k) a w := take_ (pre n (k + 1)) hi hN hc hQ hy hS ha h
/-- The next one alone can come. -/
theorem seq_one {P : Program} {md : Region.Mode} {ops : Array Oper} {Q : Exit → Act → World → Prop} {S : World → Prop} {n k : Nat} {N : Option Tmp} {oi : Oper} {fuel : Nat} {a : Act} {w : World} (hi : ops[k]? = some oi) (hN : oi.dst = N) (hc : readyB md ops (pre n k) (pre n (k + 1)) k = true)
    (h : ∀ K : Act → World → Prop, Shut (∀ a' w', S w' → (S w' → wpAnyLast P md ops Q S [] fuel (pre n (k + 1)) a' w') → K a' w') → if Region.wanted oi (yielded ops a.tmps) = true then Oper.wp P oi a w K Q else K (a.put N undef) w) :
    wpAnyLast P md ops Q S [] (fuel + 1) (pre n k) a w := one_ (pre n (k + 1)) hi hN hc (by simp) h
end Go.Proofs.Ytnnpfgpfkningaa.P
namespace Go.Proofs.Ytnnpfgpfkningaa.P
open Go.RowKit Go.Proofs.YtnnpfgpfkningaaW.PrintWords Go.Proofs.YtnnpfgpfkningaaW.PrintLast Go.Proofs.YtnnpfgpfkningaaW.PrintMore
attribute [local go_sem] max2_int min2_int max_two min_two max_three min_three max_four min_four   -- for this text's walks alone
attribute [local go_sem ↓ high] Go.Proofs.YtnnpfgpfkningaaX.isSome_setCell
set_option linter.unusedVariables false
set_option linter.unusedSimpArgs false
theorem nb {x : Bool} {p : Prop} (h : x = false) (k : x = true) : p := absurd (h.symm.trans k) (by decide)
theorem nb2 {x : Bool} {p : Prop} (h : x = true) (k : x = false) : p := absurd (h.symm.trans k) (by decide)
theorem nbs {b : Nat → Bool} {i : Nat} {p : Prop} (k : up b i i = false) : p := absurd ((up_self b i).symm.trans k) (by decide)
theorem results_c4t {P : Program} {fn : Func} {p1 p2 p3 p4 u : Tmp} {y1 y2 y3 y4 : TypeId} (h : fn.results = #[.cell p1 y1, .cell p2 y2, .cell p3 y3, .cell p4 y4, .tmp u]) (tmps : Array Value) (w : World) (g1 g2 g3 g4 : Nat) (c1 c2 c3 c4 : Array Value) (d1 d2 d3 d4 : TypeDesc)
    (h1 : tmps.getD p1 undef = .pointer (some ⟨g1, 0, none⟩)) (k1 : w.heap[g1]? = some (.cells c1 y1 (0, 0))) (u1 : P.underlying y1 = some d1) (e1 : (match d1 with | .struct _ | .array _ _ => true | _ => false) = true) (i1 : (P.info? y1).map (·.size) = some c1.size)
    (h2 : tmps.getD p2 undef = .pointer (some ⟨g2, 0, none⟩)) (k2 : w.heap[g2]? = some (.cells c2 y2 (0, 0))) (u2 : P.underlying y2 = some d2) (e2 : (match d2 with | .struct _ | .array _ _ => true | _ => false) = true) (i2 : (P.info? y2).map (·.size) = some c2.size)
    (h3 : tmps.getD p3 undef = .pointer (some ⟨g3, 0, none⟩)) (k3 : w.heap[g3]? = some (.cells c3 y3 (0, 0))) (u3 : P.underlying y3 = some d3) (e3 : (match d3 with | .struct _ | .array _ _ => true | _ => false) = true) (i3 : (P.info? y3).map (·.size) = some c3.size)
    (h4 : tmps.getD p4 undef = .pointer (some ⟨g4, 0, none⟩)) (k4 : w.heap[g4]? = some (.cells c4 y4 (0, 0))) (u4 : P.underlying y4 = some d4) (e4 : (match d4 with | .struct _ | .array _ _ => true | _ => false) = true) (i4 : (P.info? y4).map (·.size) = some c4.size) :
    (results fn tmps).run P w = .ok (.tuple #[.agg c1, .agg c2, .agg c3, .agg c4, tmps.getD u undef]) w := by
  have q1 : tmps[p1]?.getD undef = .pointer (some ⟨g1, 0, none⟩) := by simpa using h1
  have q2 : tmps[p2]?.getD undef = .pointer (some ⟨g2, 0, none⟩) := by simpa using h2
  have q3 : tmps[p3]?.getD undef = .pointer (some ⟨g3, 0, none⟩) := by simpa using h3
  have q4 : tmps[p4]?.getD undef = .pointer (some ⟨g4, 0, none⟩) := by simpa using h4
  simp [results, h, q1, q2, q3, q4, asAddr, run_loadVar_row w g1 y1 y1 c1 (0, 0) d1 k1 u1 e1 i1, run_loadVar_row w g2 y2 y2 c2 (0, 0) d2 k2 u2 e2 i2, run_loadVar_row w g3 y3 y3 c3 (0, 0) d3 k3 u3 e3 i3, run_loadVar_row w g4 y4 y4 c4 (0, 0) d4 k4 u4 e4 i4]
theorem set5_blk {W : World} {g4 : Nat} {t : TypeId} {v0 v1 v2 v3 v4 u0 u1 u2 u3 u4 : Value} (h : W.heap[g4]? = some (.cells #[u0, u1, u2, u3, u4] t (0, 0))) : (((((W.setCell ⟨g4, 0, none⟩ v0).setCell ⟨g4, 1, none⟩ v1).setCell ⟨g4, 2, none⟩ v2).setCell ⟨g4, 3, none⟩ v3).setCell ⟨g4, 4, none⟩ v4).heap[g4]? = some (.cells #[v0, v1, v2, v3, v4] t (0, 0)) :=
  blk_put (blk_put (blk_put (blk_put (blk_put h 0 v0 rfl) 1 v1 rfl) 2 v2 rfl) 3 v3 rfl) 4 v4 rfl
theorem set5_gr (W : World) (g4 : Nat) (v0 v1 v2 v3 v4 : Value) : W.grownBy (((((W.setCell ⟨g4, 0, none⟩ v0).setCell ⟨g4, 1, none⟩ v1).setCell ⟨g4, 2, none⟩ v2).setCell ⟨g4, 3, none⟩ v3).setCell ⟨g4, 4, none⟩ v4) (some g4) :=
  set1g (set1g (set1g (set1g (set1g ⟨rfl, rfl, rfl, Nat.le_refl _, fun _ _ _ => rfl⟩ _ _) _ _) _ _) _ _) _ _
theorem hp_step {W u v : World} {p : Nat → Prop} {g : Nat} (hp : ∀ k, p k → u.heap[k]? = W.heap[k]?) (hg : u.grownBy v (some g)) (hlt : ∀ k, p k → k < u.heap.size) (hne : ∀ k, p k → k ≠ g) : ∀ k, p k → v.heap[k]? = W.heap[k]? := fun k hk => (hg.block k (hlt k hk) (fun e => hne k hk (by injection e))).trans (hp k hk)
theorem lay_ {P : Program} {md : Region.Mode} {ops : Array Oper} {Q : Exit → Act → World → Prop} {S : World → Prop} {ds : List Nat} {fuel : Nat} {l : Array Bool} {a : Act} {w : World} (R : World → Prop) (h : R w) (k : ∀ v, R v → wpAnyLast P md ops Q S ds fuel l a v) : wpAnyLast P md ops Q S ds fuel l a w := k w h
end Go.Proofs.Ytnnpfgpfkningaa.P
