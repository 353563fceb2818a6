-- Joined by wip/merge.py (a program of this repo) out of texts of this claim, cut down to what it reaches; Lean checks it.
import Derived.Test.YtnnpfgpfkningaaJ1
import Derived.Test.YtnnpfgpfkningaaJ2
namespace Go.Proofs.Ytnnpfgpfkningaa.P
open Go.RowKit Go.Proofs.YtnnpfgpfkningaaW.PrintWords Go.Proofs.YtnnpfgpfkningaaW.PrintLast Go.Proofs.YtnnpfgpfkningaaW.PrintMore
attribute [local go_sem] max2_int min2_int max_two min_two max_three min_three max_four min_four   -- for this text's walks alone
attribute [local go_sem ↓ high] Go.Proofs.YtnnpfgpfkningaaX.isSome_setCell
set_option linter.unusedVariables false
set_option linter.unusedSimpArgs false
theorem insA_same {a : S51} : ∀ {l : List S51}, l.Pairwise aLt → ∀ {y : S51}, y ∈ l → y.f0 = a.f0 → y.f1 = a.f1 → y.f2 ≤ a.f2 → insA a l = l
  | b :: l, h, y, hy, e1, e2, e3 => by
    obtain ⟨h1, h2⟩ := List.pairwise_cons.1 h
    unfold insA
    rcases List.mem_cons.1 hy with rfl | hy
    · rw [if_neg (by unfold aLt; omega), if_pos ⟨e1, e2⟩, if_neg (by omega)]
    · have := h1 y hy
      rw [if_pos (by unfold aLt at *; omega), insA_same h2 hy e1 e2 e3]
theorem joinA_same {l : List S51} (h : ArcsUp l) {y : S51} (hy : y ∈ l) {f t c : Int} (e1 : y.f0 = f) (e2 : y.f1 = t) (e3 : y.f2 ≤ c) : joinA l ⟨f, t, c⟩ = l := by
  unfold joinA
  split
  · exact insA_same h.up hy e1 e2 e3
  · rfl
theorem zeroInt (w : World) : (zeroValue 3).run Try.prog w = .ok (.int .i64 0) w := by kernel_rfl
theorem look96 {W : World} {mp n : Nat} {D : DataW Unit} (h : W.ownsMap Try.prog 96 (plainElem Try.prog 3) mp n D) {f t ci : Int} {bb : Bool} (hk : keyOf Try.prog 96 (.agg #[.int .i64 f, .int .i64 t]) = some (kl2 f t)) (h1 : Maps.has D (kl2 f t) = bb) (h2 : D.atKey (kl2 f t) (.lit (.int .i64 0)) = .lit (.int .i64 ci)) :
    (Instr.lookup 67 (.map (some mp)) (.agg #[.int .i64 f, .int .i64 t]) true).run Try.prog W = .ok (.tuple #[.int .i64 ci, .bool bb]) W := by
  obtain ⟨v, ps, hr, hv⟩ := h.look_ok keyed96 Try.underlying67 (zeroInt W) (zd := .lit (.int .i64 0)) (zp := []) (by simp [plainElem, Try.underlying3]; decide) hk
  rw [h2] at hv
  obtain ⟨c, rfl, hy, _⟩ := plainElem_int_inv Try.underlying3 hv
  obtain rfl : ci = c := by
    have e := congrArg Prod.fst hy
    simp only [DataW.lit.injEq, Lit.int.injEq, true_and] at e
    exact e
  subst h1
  exact hr
theorem store96 {W : World} {mp : Nat} {D : DataW Unit} {l : List S51} (h : W.ownsMap Try.prog 96 (plainElem Try.prog 3) mp l.length D) (hA : ArcsAre D l) {f t c : Int} (hf : (Lit.int .i64 f).wf = true) (ht : (Lit.int .i64 t).wf = true) (hc : (Lit.int .i64 c).wf = true) (hn : l.length < 1000000000) (hlow : c < tinf) (hless : ∀ b ∈ l, sameK ⟨f, t, c⟩ b → c < b.f2) :
    ∃ W1, (Instr.mapUpdate 67 (.map (some mp)) (.agg #[.int .i64 f, .int .i64 t]) (.int .i64 c)).run Try.prog W = .ok () W1 ∧ W.grownBy W1 (some mp) ∧ MapAt W1 mp (joinA l ⟨f, t, c⟩) := by
  obtain ⟨W1, h1, h2, h3⟩ := h.update keyed96 Try.underlying67 (by unfold maxLen; omega) (key96 hf ht) (val := .int .i64 c) (d := .lit (.int .i64 c)) (ps := []) (by simp [plainElem, Try.underlying3, hc])
  have hp := hA.put (h.tidy keyed96) ⟨f, t, c⟩ hf ht hc hlow hless
  refine ⟨W1, h1, h3, _, ?_, by unfold joinA; rw [if_pos hlow]; exact hp⟩
  have := ownsMap_lower h2
  rw [hp.size] at this
  unfold joinA; rw [if_pos hlow]; exact this
theorem grown_drew {w W : World} {r : Option Nat} (h : w.grownBy W r) : w.grownBy W.drew r := ⟨h.os, h.tape, h.output, h.size, h.block⟩
theorem grown_undrew {w W : World} {r : Option Nat} (h : w.drew.grownBy W r) : w.grownBy W r := ⟨h.os, h.tape, h.output, h.size, h.block⟩
theorem gen_wp {P : Program} {c : Code} {Q : Exit → Act → World → Prop} {a : Act} {W : World} (A : World → Prop) (h : A W) (k : ∀ W', A W' → Code.wp P c Q a W') : Code.wp P c Q a W := k W h
set_option maxRecDepth 100000 in
set_option maxHeartbeats 4000000 in
theorem join_calls (b mp : Nat) (l : List S51) (f t c : Int) (w : World) (hc : w.cell? ⟨b, 0, none⟩ = some (.map (some mp))) (hm : MapAt w mp l) (hf : (Lit.int .i64 f).wf = true) (ht : (Lit.int .i64 t).wf = true) (hcw : (Lit.int .i64 c).wf = true) (hn : l.length < 1000000000) :
    Calls Try.prog 64 #[.pointer (some ⟨b, 0, none⟩), .int .i64 f, .int .i64 t, .int .i64 c] w fun e w' => e = .returned (.tuple #[]) ∧ w.grownBy w' (some mp) ∧ MapAt w' mp (joinA l ⟨f, t, c⟩) := by
  have hbm : b ≠ mp := by
    rintro rfl
    obtain ⟨D, ⟨es, clock, hh, _⟩, _⟩ := hm
    simp [World.cell?, hh] at hc
  have hblt : b < w.heap.size := World.block_lt_of_cell? w _ hc
  obtain ⟨D, hown, hA⟩ := hm
  have HT := Aside0.mk (hown.tidy keyed96)
  have hlt := hown.lt
  obtain ⟨bb, hbb⟩ : ∃ bb, Maps.has D (kl2 f t) = bb := ⟨_, rfl⟩
  obtain ⟨ci, hci⟩ : ∃ ci, D.atKey (kl2 f t) (.lit (.int .i64 0)) = .lit (.int .i64 ci) := by
    cases bb with
    | true =>
      obtain ⟨a, ha, rfl, rfl⟩ := (hA.has_iff hf ht).1 hbb
      exact ⟨_, hA.at_ a ha _⟩
    | false => exact ⟨0, Go.Maps.atKey_of_not_has hbb _⟩
  have HL : Aside0 (∀ W, W.ownsMap Try.prog 96 (plainElem Try.prog 3) mp l.length D → (Instr.lookup 67 (.map (some mp)) (.agg #[.int .i64 f, .int .i64 t]) true).run Try.prog W = .ok (.tuple #[.int .i64 ci, .bool bb]) W) := ⟨fun W h => look96 h (key96 hf ht) hbb hci⟩
  have HA := Aside0.mk hA
  have HK := Aside0.mk (key96 hf ht)
  have HW := Aside0.mk (And.intro hf (And.intro ht hcw))
  have HN := Aside0.mk hn
  have HB := Aside0.mk (And.intro hbb hci)
  have HOWN := Aside0.mk hown
  have HNE := Aside0.mk (And.intro hbm (And.intro hblt hlt))
  have HC := Aside0.mk hc
  clear hown hA hf ht hcw hbb hci hn hbm hlt hc hblt
  go_enter Try.func64, Try.ntmps64
  go_wp2
  refine gen_wp (fun W' => w.grownBy W' none ∧ W'.cell? ⟨b, 0, none⟩ = some (.map (some mp)) ∧ W'.cell? ⟨w.heap.size, 0, none⟩ = some (.int .i64 f) ∧ W'.cell? ⟨w.heap.size, 1, none⟩ = some (.int .i64 t) ∧ W'.ownsMap Try.prog 96 (plainElem Try.prog 3) mp l.length D) ⟨World.grownBy_alloc w _ none, ?_, ?_, ?_, HOWN.out.alloc _⟩ (fun W1 hW1 => ?_)
  · exact ((below_alloc (Below.refl w.heap.size w) _).cell HNE.out.2.1).trans HC.out
  · go_simp
  · go_simp
  obtain ⟨hg, hc, hk0, hk1, hown⟩ := hW1
  have hlook := HL.out W1 hown
  have HG := Aside0.mk hg
  have HOWN1 := Aside0.mk hown
  clear hg hown
  generalize hH : w.heap.size = H at hk0 hk1
  go_region_held3 (fun w' => w'.cell? ⟨b, 0, none⟩ = some (.map (some mp)) ∧ w'.cell? ⟨H, 0, none⟩ = some (.int .i64 f) ∧ w'.cell? ⟨H, 1, none⟩ = some (.int .i64 t) ∧ (Instr.lookup 67 (.map (some mp)) (.agg #[.int .i64 f, .int .i64 t]) true).run Try.prog w' = .ok (.tuple #[.int .i64 ci, .bool bb]) w') (refine ⟨?_, ?_, ?_, ?_⟩ <;> first | go_keep | exact HL.out _ HOWN1.out | exact HL.out _ HOWN1.out.drew) (fail)
  clear hlook HL
  by_cases hinf : c < 1152921504606846976
  · have c1 : decide (c < 1152921504606846976) = true := decide_eq_true hinf
    have HINF := Aside0.mk hinf
    clear hinf
    cases bb with
    | false =>
      have HLESS : Aside0 (∀ b ∈ l, sameK ⟨f, t, c⟩ b → c < b.f2) := ⟨fun y hy hs => by
        have := (HA.out.has_iff HW.out.1 HW.out.2.1).2 ⟨y, hy, hs⟩
        rw [HB.out.1] at this; cases this⟩
      go_wp2
      obtain ⟨W2, r1, r2, r3⟩ := store96 (HOWN1.out.drew.drew) HA.out HW.out.1 HW.out.2.1 HW.out.2.2 HN.out HINF.out HLESS.out
      have R23 := Aside0.mk (And.intro r2 r3)
      have d0 := (r2.cell_far ⟨b, 0, none⟩ (by have := HNE.out; have := HG.out.size; simp; omega) (by have := HNE.out; simp; omega)).trans hc
      have d1 := (r2.cell_far ⟨H, 0, none⟩ (by have := World.block_lt_of_cell? W1 _ hk0; simpa using this) (by have := HNE.out; simp; omega)).trans hk0
      have d2 := (r2.cell_far ⟨H, 1, none⟩ (by have := World.block_lt_of_cell? W1 _ hk0; simpa using this) (by have := HNE.out; simp; omega)).trans hk1
      clear r2 r3
      go_region_held3 (fun w' => w'.cell? ⟨b, 0, none⟩ = some (.map (some mp)) ∧ w'.cell? ⟨H, 0, none⟩ = some (.int .i64 f) ∧ w'.cell? ⟨H, 1, none⟩ = some (.int .i64 t)) (refine ⟨?_, ?_, ?_⟩ <;> first | go_keep | assumption) (fail)
      clear r1
      go_wp2
      go_end0
      exact ⟨rfl, (HG.out.but _).andThen (grown_undrew (grown_undrew R23.out.1)) (fun k hk => .inr hk), R23.out.2⟩
    | true =>
      by_cases hl : c < ci
      · have c2 : decide (c < ci) = true := decide_eq_true hl
        have HLESS : Aside0 (∀ b ∈ l, sameK ⟨f, t, c⟩ b → c < b.f2) := ⟨fun y hy hs => by
          have e := HA.out.at_ y hy (.lit (.int .i64 0))
          have e1 : y.f0 = f := hs.1
          have e2 : y.f1 = t := hs.2
          rw [e1, e2, HB.out.2] at e
          injection e with e
          injection e with _ e
          omega⟩
        clear hl
        go_wp2
        obtain ⟨W2, r1, r2, r3⟩ := store96 (HOWN1.out.drew.drew) HA.out HW.out.1 HW.out.2.1 HW.out.2.2 HN.out HINF.out HLESS.out
        have R23 := Aside0.mk (And.intro r2 r3)
        have d0 := (r2.cell_far ⟨b, 0, none⟩ (by have := HNE.out; have := HG.out.size; simp; omega) (by have := HNE.out; simp; omega)).trans hc
        have d1 := (r2.cell_far ⟨H, 0, none⟩ (by have := World.block_lt_of_cell? W1 _ hk0; simpa using this) (by have := HNE.out; simp; omega)).trans hk0
        have d2 := (r2.cell_far ⟨H, 1, none⟩ (by have := World.block_lt_of_cell? W1 _ hk0; simpa using this) (by have := HNE.out; simp; omega)).trans hk1
        clear r2 r3
        go_region_held3 (fun w' => w'.cell? ⟨b, 0, none⟩ = some (.map (some mp)) ∧ w'.cell? ⟨H, 0, none⟩ = some (.int .i64 f) ∧ w'.cell? ⟨H, 1, none⟩ = some (.int .i64 t)) (refine ⟨?_, ?_, ?_⟩ <;> first | go_keep | assumption) (fail)
        clear r1
        go_wp2
        go_end0
        exact ⟨rfl, (HG.out.but _).andThen (grown_undrew (grown_undrew R23.out.1)) (fun k hk => .inr hk), R23.out.2⟩
      · have c2 : decide (c < ci) = false := decide_eq_false hl
        have HJ : Aside0 (joinA l ⟨f, t, c⟩ = l) := ⟨by
          obtain ⟨y, hy, e1, e2⟩ := (HA.out.has_iff HW.out.1 HW.out.2.1).1 HB.out.1
          have e := HA.out.at_ y hy (.lit (.int .i64 0))
          rw [e1, e2, HB.out.2] at e
          injection e with e
          injection e with _ e
          exact joinA_same HA.out.up hy e1 e2 (show y.f2 ≤ c by omega)⟩
        clear hl
        go_wp2
        go_end0
        exact ⟨rfl, grown_drew (HG.out.but _), by rw [HJ.out]; exact ⟨D, HOWN1.out, HA.out⟩⟩
  · have c1 : decide (c < 1152921504606846976) = false := decide_eq_false hinf
    have HJ : Aside0 (joinA l ⟨f, t, c⟩ = l) := ⟨by unfold joinA; rw [if_neg (show ¬ c < tinf from hinf)]⟩
    clear hinf
    go_wp2
    go_end0
    exact ⟨rfl, grown_drew (HG.out.but _), by rw [HJ.out]; exact ⟨D, HOWN1.out, HA.out⟩⟩
def tadd (a b : Int) : Int := mn (wrap64 ((mn a 1152921504606846976) + (mn b 1152921504606846976))) 1152921504606846976
theorem trop_Add_tadd (a b : Int) : trop_Add.f a b = some (tadd a b) := rfl
theorem wf_of (x : Int) (h1 : -9223372036854775808 ≤ x) (h2 : x ≤ 9223372036854775807) : (Lit.int .i64 x).wf = true := by
  have : wrap64 x = x := by unfold wrap64; omega
  rw [← this]; exact wrap64_wf x
theorem wf_tadd (a b : Int) : (Lit.int .i64 (tadd a b)).wf = true := by
  have h1 : -9223372036854775808 ≤ tadd a b ∧ tadd a b ≤ 9223372036854775807 := by
    unfold tadd mn wrap64; split <;> omega
  exact wf_of _ h1.1 h1.2
def linkA (l : List S51) (cost : Int) (a : S94) (first : List S94) : List S51 := first.foldl (fun l b => joinA l ⟨a.f0, b.f0, tadd (tadd a.f1 cost) b.f1⟩) l
def linkL (l : List S51) (ends first : List S94) (cost : Int) : List S51 := ends.foldl (fun l a => linkA l cost a first) l
theorem insA_len (a : S51) : ∀ l, (insA a l).length ≤ l.length + 1
  | [] => by simp [insA]
  | b :: l => by
    have := insA_len a l
    unfold insA; split
    · simp only [List.length_cons]; omega
    · split <;> simp
theorem joinA_len (l : List S51) (a : S51) : (joinA l a).length ≤ l.length + 1 := by
  unfold joinA; split
  · exact insA_len a l
  · omega
theorem linkA_len (cost : Int) (a : S94) (first : List S94) : ∀ l, (linkA l cost a first).length ≤ l.length + first.length := by
  induction first with
  | nil => intro l; simp [linkA]
  | cons b first ih =>
    intro l
    have h1 := ih (joinA l ⟨a.f0, b.f0, tadd (tadd a.f1 cost) b.f1⟩)
    have h2 := joinA_len l ⟨a.f0, b.f0, tadd (tadd a.f1 cost) b.f1⟩
    unfold linkA at *
    rw [List.foldl_cons, List.length_cons]; omega
theorem linkL_len (cost : Int) (first : List S94) (ends : List S94) : ∀ l, (linkL l ends first cost).length ≤ l.length + ends.length * first.length := by
  induction ends with
  | nil => intro l; simp [linkL]
  | cons a ends ih =>
    intro l
    have h1 := ih (linkA l cost a first)
    have h2 := linkA_len cost a first l
    unfold linkL at *
    rw [List.foldl_cons, List.length_cons, Nat.add_mul]; omega
theorem linkA_succ (l : List S51) (cost : Int) (a : S94) (first : List S94) (j : Int) (h0 : 0 ≤ j) (h1 : j < first.length) : linkA l cost a (first.take (j + 1).toNat) = joinA (linkA l cost a (first.take j.toNat)) ⟨a.f0, (rd_T94 first j).f0, tadd (tadd a.f1 cost) (rd_T94 first j).f1⟩ := by
  have e : (j + 1).toNat = j.toNat + 1 := by omega
  have hj : j.toNat < first.length := by omega
  unfold linkA rd_T94
  rw [e, List.take_succ_eq_append_getElem hj, List.foldl_append, List.getD_eq_getElem?_getD, List.getElem?_eq_getElem hj]
  rfl
theorem linkL_succ (l : List S51) (cost : Int) (ends first : List S94) (i : Int) (h0 : 0 ≤ i) (h1 : i < ends.length) : linkL l (ends.take (i + 1).toNat) first cost = linkA (linkL l (ends.take i.toNat) first cost) cost (rd_T94 ends i) first := by
  have e : (i + 1).toNat = i.toNat + 1 := by omega
  have hi : i.toNat < ends.length := by omega
  unfold linkL rd_T94
  rw [e, List.take_succ_eq_append_getElem hi, List.foldl_append, List.getD_eq_getElem?_getD, List.getElem?_eq_getElem hi]
  rfl
theorem cell_grown_map {w W : World} {mp : Nat} {l : List S51} (hm : MapAt w mp l) (hg : w.grownBy W (some mp)) {a : Addr} {u : Value} (h : w.cell? a = some u) : W.cell? a = some u := by
  refine (hg.cell_far a (World.block_lt_of_cell? w _ h) (fun e => ?_)).trans h
  obtain ⟨D, ⟨es, clock, hh, _⟩, _⟩ := hm
  injection e with e
  simp [World.cell?, e, hh] at h
theorem C94_grown {w W : World} {A : Option Addr} {n : Nat} {xs : List S94} (h : Kd.C k94 w A n xs) {mp : Nat} {l : List S51} (hm : MapAt w mp l) (hg : w.grownBy W (some mp)) : Kd.C k94 W A n xs := by
  obtain ⟨h1, h2, h3⟩ := h
  refine ⟨h1, h2, fun hn => ?_⟩
  obtain ⟨ad, e, hc⟩ := h3 hn
  refine ⟨ad, e, fun j p hp => ?_⟩
  obtain ⟨c, c1, c2, c3⟩ := hc j p hp
  obtain rfl := k94_open c2
  exact ⟨_, c1, k94_mk W p, fun i u hu => cell_grown_map hm hg (c3 i u hu)⟩
structure LkAt (W : World) (b mp : Nat) (l : List S51) (g h : Nat) (x y : S94) : Prop where
  cb : W.cell? ⟨b, 0, none⟩ = some (.map (some mp))
  map : MapAt W mp l
  x0 : W.cell? ⟨g, 0, none⟩ = some (.int .i64 x.f0)
  x1 : W.cell? ⟨g, 1, none⟩ = some (.int .i64 x.f1)
  y0 : W.cell? ⟨h, 0, none⟩ = some (.int .i64 y.f0)
  y1 : W.cell? ⟨h, 1, none⟩ = some (.int .i64 y.f1)
theorem LkAt.below {W W1 : World} {b mp : Nat} {l : List S51} {g h : Nat} {x y : S94} (k : LkAt W b mp l g h x y) (hb : Below W.heap.size W W1) : LkAt W1 b mp l g h x y :=
  have c := fun {a : Addr} {u : Value} (q : W.cell? a = some u) => (hb.cell (World.block_lt_of_cell? W _ q)).trans q
  ⟨c k.cb, k.map.below hb, c k.x0, c k.x1, c k.y0, c k.y1⟩
theorem LkAt.grown {W W1 : World} {b mp : Nat} {l l1 : List S51} {g h : Nat} {x y : S94} (k : LkAt W b mp l g h x y) (hg : W.grownBy W1 (some mp)) (hm : MapAt W1 mp l1) : LkAt W1 b mp l1 g h x y :=
  have c := fun {a : Addr} {u : Value} (q : W.cell? a = some u) => cell_grown_map k.map hg q
  ⟨c k.cb, hm, c k.x0, c k.x1, c k.y0, c k.y1⟩
theorem LkAt.drew {W : World} {b mp : Nat} {l : List S51} {g h : Nat} {x y : S94} (k : LkAt W b mp l g h x y) : LkAt W.drew b mp l g h x y := ⟨k.cb, k.map, k.x0, k.x1, k.y0, k.y1⟩
theorem LkAt.S {W : World} {b mp : Nat} {l : List S51} {g h : Nat} {x y : S94} (k : LkAt W b mp l g h x y) : W.cell? ⟨g, 0, none⟩ = some (.int .i64 x.f0) ∧ W.cell? ⟨g, 1, none⟩ = some (.int .i64 x.f1) ∧ W.cell? ⟨h, 0, none⟩ = some (.int .i64 y.f0) ∧ W.cell? ⟨h, 1, none⟩ = some (.int .i64 y.f1) := ⟨k.x0, k.x1, k.y0, k.y1⟩
theorem below_grown {w W : World} (hb : Below w.heap.size w W) (r : Option Nat) : w.grownBy W r := ⟨hb.os, hb.tape, hb.output, hb.size, fun k hk _ => hb.block k hk⟩
structure LnAt (w W : World) (mp : Nat) (l : List S51) : Prop where
  gr : w.grownBy W (some mp)
  map : MapAt W mp l
theorem LnAt.drew {w W : World} {mp : Nat} {l : List S51} (k : LnAt w W mp l) : LnAt w W.drew mp l := ⟨grown_drew k.gr, k.map⟩
theorem LnAt.below {w W W1 : World} {mp : Nat} {l : List S51} (k : LnAt w W mp l) (hb : Below W.heap.size W W1) : LnAt w W1 mp l := ⟨k.gr.andThen (below_grown hb none) (fun j hj => by cases hj), k.map.below hb⟩
theorem LnAt.grown {w W W1 : World} {mp : Nat} {l l1 : List S51} (k : LnAt w W mp l) (hg : W.grownBy W1 (some mp)) (hm : MapAt W1 mp l1) : LnAt w W1 mp l1 := ⟨k.gr.andThen hg (fun j hj => .inr hj), hm⟩
set_option maxRecDepth 100000 in
set_option maxHeartbeats 4000000 in
theorem link_calls (b mp : Nat) (l : List S51) (A1 A2 : Option Addr) (c1 c2 : Nat) (ends first : List S94) (cost : Int) (w : World) (hc : w.cell? ⟨b, 0, none⟩ = some (.map (some mp))) (hm : MapAt w mp l) (h1 : Kd.C k94 w A1 ends.length ends) (h2 : Kd.C k94 w A2 first.length first)
    (hw1 : ∀ a ∈ ends, (Lit.int .i64 a.f0).wf = true) (hw2 : ∀ a ∈ first, (Lit.int .i64 a.f0).wf = true) (hn : l.length + ends.length * first.length < 1000000000) (hl1 : ends.length < 1000000000) (hl2 : first.length < 1000000000) :
    Calls Try.prog 43 #[.pointer (some ⟨b, 0, none⟩), .slice A1 ends.length c1, .slice A2 first.length c2, .int .i64 cost] w fun e w' => e = .returned (.tuple #[]) ∧ w.grownBy w' (some mp) ∧ MapAt w' mp (linkL l ends first cost) := by
  have HC := Aside0.mk hc
  have HM := Aside0.mk hm
  have H1 := Aside0.mk h1
  have H2 := Aside0.mk h2
  have HW1 := Aside0.mk hw1
  have HW2 := Aside0.mk hw2
  have HN := Aside0.mk (And.intro hn (And.intro hl1 hl2))
  have HLN : Aside0 (LnAt w w mp (linkL l (ends.take (0 : Int).toNat) first cost)) := ⟨⟨World.grownBy.refl w _, hm⟩⟩
  clear hc hm h1 h2 hw1 hw2 hn hl1 hl2
  go_enter Try.func43, Try.ntmps43
  go_wp2
  go_loopw [14] (fun v14 W => ∃ i : Int, v14 = .int .i64 i ∧ Aside0 (0 ≤ i ∧ i ≤ ends.length) ∧ Aside0 (LnAt w W mp (linkL l (ends.take i.toNat) first cost))) (fun i _ => ((ends.length : Int) - intOf i).toNat)
  case atStart => exact ⟨0, rfl, ⟨by omega⟩, HLN⟩
  case round =>
    clear HLN
    obtain ⟨i, rfl, HK, HLN⟩ := hrel
    by_cases hlt : i < ends.length
    · have h0 : 0 ≤ i := HK.out.1
      have HS := Aside0.mk (linkL_succ l cost ends first i h0 hlt)
      obtain ⟨ad, e1, hx0, hx1⟩ := at_T94 (C94_grown H1.out HM.out HLN.out.gr) i h0 hlt
      subst e1
      have hw2 : wrap64 (i + 1) = i + 1 := by have := HN.out.2.1; unfold wrap64; omega
      have HW := Aside0.mk hw2
      have PQ := Aside0.mk (And.intro h0 hlt)
      have c1b : decide (i < (ends.length : Int)) = true := decide_eq_true hlt
      clear hlt HK hw2
      replace h0 := eq_true h0
      have h3 := eq_true PQ.out.2
      go_wp2
      have HX0 : Aside0 ((wr.alloc (.cells #[.int .i64 (rd_T94 ends i).f0, .int .i64 (rd_T94 ends i).f1] 94)).cell? ⟨wr.heap.size, 0, none⟩ = some (.int .i64 (rd_T94 ends i).f0) ∧ (wr.alloc (.cells #[.int .i64 (rd_T94 ends i).f0, .int .i64 (rd_T94 ends i).f1] 94)).cell? ⟨wr.heap.size, 1, none⟩ = some (.int .i64 (rd_T94 ends i).f1)) := ⟨(blk_cell (heap_alloc_new wr _) 0).trans rfl, (blk_cell (heap_alloc_new wr _) 1).trans rfl⟩
      have HI0 : Aside0 (LnAt w (wr.alloc (.cells #[.int .i64 (rd_T94 ends i).f0, .int .i64 (rd_T94 ends i).f1] 94)) mp (linkA (linkL l (ends.take i.toNat) first cost) cost (rd_T94 ends i) (first.take (0 : Int).toNat))) := ⟨HLN.out.below (below_alloc (Below.refl _ _) _)⟩
      have HXW : Aside0 ((Lit.int .i64 (rd_T94 ends i).f0).wf = true) := ⟨HW1.out _ (by unfold rd_T94; rw [List.getD_eq_getElem?_getD, List.getElem?_eq_getElem (by have := PQ.out; omega)]; exact List.getElem_mem _)⟩
      have HLL : Aside0 ((linkL l (ends.take i.toNat) first cost).length + first.length < 1000000000) := ⟨by
        have a1 := linkL_len cost first (ends.take i.toNat) l
        have a2 : (ends.take i.toNat).length + 1 ≤ ends.length := by have := PQ.out; rw [List.length_take]; omega
        have a3 := Nat.mul_le_mul_right first.length a2
        have a4 := HN.out.1
        rw [Nat.add_mul] at a3; omega⟩
      clear HLN hx0 hx1
      generalize linkL l (ends.take i.toNat) first cost = L at HI0 HS HLL
      generalize rd_T94 ends i = x at HX0 HI0 HS HXW
      generalize wr.heap.size = g at HX0
      go_loopw [20] (fun v20 W => ∃ j : Int, v20 = .int .i64 j ∧ Aside0 (0 ≤ j ∧ j ≤ first.length) ∧ Aside0 (LnAt w W mp (linkA L cost x (first.take j.toNat))) ∧ Aside0 (W.cell? ⟨g, 0, none⟩ = some (.int .i64 x.f0) ∧ W.cell? ⟨g, 1, none⟩ = some (.int .i64 x.f1))) (fun j _ => ((first.length : Int) - intOf j).toNat)
      case atStart => exact ⟨0, rfl, ⟨by omega⟩, HI0, HX0⟩
      case round =>
        clear HI0 HX0
        obtain ⟨j, rfl, HK, HI, HX⟩ := hrel
        by_cases hlt : j < first.length
        · have g0 : 0 ≤ j := HK.out.1
          have HSA := Aside0.mk (linkA_succ L cost x first j g0 hlt)
          obtain ⟨ad2, e2, hy0, hy1⟩ := at_T94 (C94_grown H2.out HM.out HI.out.gr) j g0 hlt
          subst e2
          have hw3 : wrap64 (j + 1) = j + 1 := by have := HN.out.2.2; unfold wrap64; omega
          have HW3 := Aside0.mk hw3
          have PJ := Aside0.mk (And.intro g0 hlt)
          have c2b : decide (j < (first.length : Int)) = true := decide_eq_true hlt
          have HYW : Aside0 ((Lit.int .i64 (rd_T94 first j).f0).wf = true) := ⟨HW2.out _ (by unfold rd_T94; rw [List.getD_eq_getElem?_getD, List.getElem?_eq_getElem (by have := PJ.out; omega)]; exact List.getElem_mem _)⟩
          have HLJ : Aside0 ((linkA L cost x (first.take j.toNat)).length < 1000000000) := ⟨by
            have a1 := linkA_len cost x (first.take j.toNat) L
            have a2 : (first.take j.toNat).length ≤ first.length := by rw [List.length_take]; omega
            have a3 := HLL.out
            omega⟩
          clear hlt HK hw3
          replace g0 := eq_true g0
          have g3 := eq_true PJ.out.2
          go_wp2
          have HQ0 : Aside0 (LkAt (wr.alloc (.cells #[.int .i64 (rd_T94 first j).f0, .int .i64 (rd_T94 first j).f1] 94)) b mp (linkA L cost x (first.take j.toNat)) g wr.heap.size x (rd_T94 first j)) := ⟨by
            have hb := below_alloc (Below.refl wr.heap.size wr) (.cells #[.int .i64 (rd_T94 first j).f0, .int .i64 (rd_T94 first j).f1] 94)
            have c := fun {a : Addr} {u : Value} (q : wr.cell? a = some u) => (hb.cell (World.block_lt_of_cell? wr _ q)).trans q
            exact ⟨c (cell_grown_map HM.out HI.out.gr HC.out), HI.out.map.below hb, c HX.out.1, c HX.out.2, (blk_cell (heap_alloc_new wr _) 0).trans rfl, (blk_cell (heap_alloc_new wr _) 1).trans rfl⟩⟩
          have HL0 := Aside0.mk (HI.out.below (below_alloc (Below.refl _ _) (.cells #[.int .i64 (rd_T94 first j).f0, .int .i64 (rd_T94 first j).f1] 94)))
          clear hy0 hy1 HI HX
          generalize linkA L cost x (first.take j.toNat) = LJ at HQ0 HL0 HSA HLJ
          generalize rd_T94 first j = y at HQ0 HL0 HSA HYW
          generalize wr.heap.size = hh at HQ0
          refine gen_wp (fun W' => LkAt W' b mp LJ g hh x y ∧ LnAt w W' mp LJ) ⟨HQ0.out, HL0.out⟩ (fun W1 hW1 => ?_)
          have HQ := Aside0.mk hW1.1
          have HL := Aside0.mk hW1.2
          clear hW1 HQ0 HL0
          go_region_held3 (fun w' => w'.cell? ⟨g, 0, none⟩ = some (.int .i64 x.f0) ∧ w'.cell? ⟨g, 1, none⟩ = some (.int .i64 x.f1) ∧ w'.cell? ⟨hh, 0, none⟩ = some (.int .i64 y.f0) ∧ w'.cell? ⟨hh, 1, none⟩ = some (.int .i64 y.f1)) (first | exact HQ.out.S | exact HQ.out.drew.S) (first | (go_at_call 39; refine (trop_Add.calls _ _ (tadd _ _) _ rfl).mono ?_; rintro e w1 ⟨rfl, hb1⟩; have HQn := Aside0.mk (LkAt.below (by first | exact HQ.out | exact HQ.out.drew) hb1); have HLn := Aside0.mk (LnAt.below (by first | exact HL.out | exact HL.out.drew) hb1); clear HQ HL hb1; have HQ := HQn; have HL := HLn; clear HQn HLn) | (go_at_call 64; refine (join_calls b mp LJ _ _ _ _ (by first | exact HQ.out.cb | exact HQ.out.drew.cb) (by first | exact HQ.out.map | exact HQ.out.drew.map) HXW.out HYW.out (wf_tadd _ _) HLJ.out).mono ?_; rintro e w1 ⟨rfl, hg1, hm1⟩; have HQn := Aside0.mk (LkAt.grown (by first | exact HQ.out | exact HQ.out.drew) hg1 hm1); have HLn := Aside0.mk (LnAt.grown (by first | exact HL.out | exact HL.out.drew) hg1 hm1); clear HQ HL hg1 hm1; have HQ := HQn; have HL := HLn; clear HQn HLn))
          go_wp2
          go_roundw
          case rel => exact ⟨j + 1, by rw [HW3.out], ⟨by have := PJ.out; omega⟩, ⟨by rw [HSA.out]; exact HL.out⟩, ⟨HQ.out.x0, HQ.out.x1⟩⟩
          case measure => have := PJ.out; rw [HW3.out]; simp only [intOf]; omega
        · have c2b : decide (j < (first.length : Int)) = false := decide_eq_false hlt
          have HJ := Aside0.mk (show first.take j.toNat = first from List.take_of_length_le (by omega))
          clear hlt
          go_wp2
          go_roundw
          case rel => exact ⟨i + 1, by rw [HW.out], ⟨by have := PQ.out; omega⟩, ⟨by rw [HS.out]; rw [HJ.out] at HI; exact HI.out⟩⟩
          case measure => have := PQ.out; rw [HW.out]; simp only [intOf]; omega
    · have c1b : decide (i < (ends.length : Int)) = false := decide_eq_false hlt
      have HJ := Aside0.mk (show ends.take i.toNat = ends from List.take_of_length_le (by have := HK.out; omega))
      clear hlt
      rw [HJ.out] at HLN
      go_wp2
      go_end0
      exact ⟨rfl, HLN.out.gr, HLN.out.map⟩
def Clone_spot.f (l0 : List S94) : Option (List S94) := if l0.length < 8796093022208 then some l0 else none
set_option maxHeartbeats 800000 in
theorem Clone_spot.calls (A0 : Option Addr) (c0 : Nat) (l0 : List S94) (r : List S94) (w : World) (hr0 : Kd.C k94 w A0 l0.length l0) (hc0 : l0.length ≤ c0) (h : Clone_spot.f l0 = some r) :
    Calls Try.prog 63 #[.slice A0 l0.length c0] w fun e w' => ∃ v0_ : Value, e = .returned (v0_) ∧ Kd.R k94 94 w' w.heap.size (fun _ => True) v0_ r ∧ Below w.heap.size w w' := by
  unfold Clone_spot.f at h
  by_cases hl : l0.length < 8796093022208
  · rw [if_pos hl] at h
    obtain rfl := Option.some.inj h
    clear h
    have HR0 := Aside0.mk hr0
    have HL := Aside0.mk hl
    clear hr0 hl
    have q24 := fun (w : World) (a : Option Addr) (n c n' c' : Nat) => Lib.run_eql_slice_nil (P := Try.prog) w _ _ a n c n' c' Try.underlying72
    rcases A0 with _ | A0
    · go_enter Try.func63, Try.ntmps63
      go_wp2
      go_ret
      have h0 : l0 = [] := by
        rcases l0 with _ | ⟨x, l⟩
        · rfl
        · obtain ⟨ad, h, _⟩ := HR0.out.2.2 (by simp)
          cases h
      subst h0
      exact ⟨_, rfl, Kd.R_nil _ _ _ _ _, Below.refl _ _⟩
    · have HO : Kd.R k94 94 (w.alloc (.cells #[] 94)) w.heap.size (fun _ => True) (.slice (some ⟨w.heap.size, 0, none⟩) 0 0) [] :=
        ⟨fun _ _ => trivial, [], World.ownsRow_made w #[] 0 (Nat.le_refl _) (Nat.zero_le _) rfl, Reps.none _ _⟩
      have HO' := Aside0.mk HO
      clear HO
      go_enter Try.func63, Try.ntmps63
      go_wp2_with (at_builtin; refine Kd.R_append_rows k94 (Rr := k94.K w) (w0 := w) w.heap.size rfl (.tmp 5) (.tmp 6) 72 94 (.agg #[(.int .i64 0), (.int .i64 0)]) 16 rfl Try.underlying72 info94 rfl (by decide) (by omega) _ [] l0 (some A0) l0.length c0 (fun _ => True) (fun k => some k ≠ (Value.slice (some ⟨w.heap.size, 0, none⟩) 0 0).ownBlock) rfl rfl HO'.out ?aR ?aM (fun _ h => ⟨trivial, h⟩) (fun _ _ => trivial) ?aB ?aS ?aL ?_)
      case aR => exact HR0.out.imp_ (below_alloc (Below.refl _ _) _) (fun _ _ h => h)
      case aM => intro x cs h; obtain rfl := k94_open h; exact k94_mkM _ _ _ x
      case aB => exact below_alloc (Below.refl _ _) _
      case aS => simp
      case aL => have := HL.out; simp; omega
      intro v1 w1 h1 hb hg hat
      have H1 := Aside0.mk h1
      have HB := Aside0.mk hb
      clear h1 hb hg hat HO' HR0
      go_wp2
      go_ret
      exact ⟨_, rfl, H1.out, HB.out⟩
  · rw [if_neg hl] at h; cases h
def idxD : List S61 → ByteArray → Int
  | [], _ => -1
  | d :: l, nm => if d.f0.toList == nm.toList then 0 else if idxD l nm = -1 then -1 else idxD l nm + 1
set_option maxRecDepth 100000 in
set_option maxHeartbeats 4000000 in
theorem lit62_calls (xb : Nat) (d : S61) (A : Option Addr) (c : Nat) (nm : ByteArray) (w : World) (hx : w.cell? ⟨xb, 4, none⟩ = some (.string nm)) :
    Calls Try.prog 62 #[.agg #[.string d.f0, .int .i64 d.f1.f0, .int .i64 d.f1.f1, .int .i64 d.f1.f2, .string d.f1.f3, .slice A d.f1.f4.length c], .pointer (some ⟨xb, 0, none⟩)] w fun e w' => e = .returned (.bool (d.f0.toList == nm.toList)) ∧ Below w.heap.size w w' := by
  have hx2 := ((below_alloc (Below.refl w.heap.size w) (.cells #[.string d.f0, .int .i64 d.f1.f0, .int .i64 d.f1.f1, .int .i64 d.f1.f2, .string d.f1.f3, .slice A d.f1.f4.length c] 61)).cell (World.block_lt_of_cell? w _ hx)).trans hx
  go_enter Try.func62, Try.ntmps62
  go_wp2
  go_ret
  exact ⟨rfl, below_alloc (Below.refl _ _) _⟩
theorem idxD_hit (nm : ByteArray) : ∀ (l : List S61) (i : Nat) (h : i < l.length), (l[i].f0.toList == nm.toList) = true → (∀ j (hj : j < i), (l[j].f0.toList == nm.toList) = false) → idxD l nm = (i : Int)
  | d :: l, 0, h, h1, _ => by
    unfold idxD
    rw [if_pos (by simpa using h1)]; rfl
  | d :: l, i + 1, h, h1, h2 => by
    have ih := idxD_hit nm l i (by simpa using h) (by simpa using h1) (fun j hj => by have := h2 (j + 1) (by omega); simpa using this)
    have h0 := h2 0 (by omega)
    unfold idxD
    rw [if_neg (by simpa using h0), ih, if_neg (by omega)]; omega
theorem idxD_miss (nm : ByteArray) : ∀ (l : List S61), (∀ j (hj : j < l.length), (l[j].f0.toList == nm.toList) = false) → idxD l nm = -1
  | [], _ => rfl
  | d :: l, h => by
    have ih := idxD_miss nm l (fun j hj => by have := h (j + 1) (by simpa using hj); simpa using this)
    have h0 := h 0 (by simp)
    unfold idxD
    rw [if_neg (by simpa using h0), ih, if_pos rfl]
theorem rd61_get (l : List S61) (i : Int) (h : i.toNat < l.length) : rd_T61 l i = l[i.toNat] := by
  unfold rd_T61; rw [List.getD_eq_getElem?_getD, List.getElem?_eq_getElem h]; rfl
set_option maxRecDepth 100000 in
set_option maxHeartbeats 4000000 in
theorem index61_calls (xb : Nat) (A : Option Addr) (c : Nat) (defs : List S61) (nm : ByteArray) (w : World) (hx : w.cell? ⟨xb, 4, none⟩ = some (.string nm)) (hd : Kd.C k61 w A defs.length defs) :
    Calls Try.prog 61 #[.slice A defs.length c, .func (.func 62) #[] #[.pointer (some ⟨xb, 0, none⟩)]] w fun e w' => e = .returned (.int .i64 (idxD defs nm)) ∧ Below w.heap.size w w' := by
  have HX := Aside0.mk hx
  have HD := Aside0.mk hd
  have HLEN : Aside0 (defs.length ≤ 9223372036854775807) := ⟨hd.2.1⟩
  have HI0 : Aside0 (Below w.heap.size w w ∧ ∀ j (hj : j < defs.length), (j : Int) < (0 : Int) → (defs[j].f0.toList == nm.toList) = false) := ⟨Below.refl _ _, fun j hj h => by omega⟩
  clear hx hd
  go_enter Try.func61, Try.ntmps61
  go_wp2
  go_loopw [8] (fun v8 W => ∃ i : Int, v8 = .int .i64 i ∧ Aside0 (0 ≤ i ∧ i ≤ defs.length) ∧ Aside0 (Below w.heap.size w W ∧ ∀ j (hj : j < defs.length), (j : Int) < i → (defs[j].f0.toList == nm.toList) = false)) (fun i _ => ((defs.length : Int) - intOf i).toNat)
  case atStart => exact ⟨0, rfl, ⟨by omega⟩, HI0⟩
  case round =>
    clear HI0
    obtain ⟨i, rfl, HK, HI⟩ := hrel
    by_cases hlt : i < defs.length
    · have h0 : 0 ≤ i := HK.out.1
      obtain ⟨ad, A5, c5, e1, hx0, hx1, hx2, hx3, hx4, hx5, hx6, hx7⟩ := at_T61 (Kd.C_below HD.out HI.out.1) i h0 hlt
      subst e1
      have hw2 : wrap64 (i + 1) = i + 1 := by have := HLEN.out; unfold wrap64; omega
      have HW := Aside0.mk hw2
      have PQ := Aside0.mk (And.intro h0 hlt)
      have c1b : decide (i < (defs.length : Int)) = true := decide_eq_true hlt
      have HE := Aside0.mk (rd61_get defs i)
      have HXW := Aside0.mk ((HI.out.1.cell (World.block_lt_of_cell? w _ HX.out)).trans HX.out)
      clear hlt HK hw2 hx6 hx7
      replace h0 := eq_true h0
      have h3 := eq_true PQ.out.2
      generalize rd_T61 defs i = d at hx0 hx1 hx2 hx3 hx4 hx5 HE
      by_cases hq : (d.f0.toList == nm.toList) = true
      · have HQ := Aside0.mk hq
        have HRES : Aside0 (idxD defs nm = i) := ⟨by
          have := PQ.out
          have e := idxD_hit nm defs i.toNat (by omega) (by rw [← HE.out (by omega)]; exact HQ.out) (fun j hj => HI.out.2 j (by omega) (by omega))
          omega⟩
        clear hq
        go_wp2_with (go_at_call 62; refine (lit62_calls xb d _ _ nm _ HXW.out).mono ?_; rintro e w1 ⟨rfl, hb1⟩; have HB1 := Aside0.mk hb1; clear hb1; rw [HQ.out])
        go_ret
        exact ⟨by rw [HRES.out]; rfl, HI.out.1.trans (HB1.out.mono HI.out.1.size)⟩
      · have hq : (d.f0.toList == nm.toList) = false := by simpa using hq
        have HQ := Aside0.mk hq
        clear hq
        go_wp2_with (go_at_call 62; refine (lit62_calls xb d _ _ nm _ HXW.out).mono ?_; rintro e w1 ⟨rfl, hb1⟩; have HB1 := Aside0.mk hb1; clear hb1; rw [HQ.out])
        go_roundw
        case rel => exact ⟨i + 1, by rw [HW.out], ⟨by have := PQ.out; omega⟩, ⟨HI.out.1.trans (HB1.out.mono HI.out.1.size), fun j hj hji => by
          rcases Int.lt_or_le (j : Int) i with h | h
          · exact HI.out.2 j hj h
          · have e : j = i.toNat := by omega
            subst e
            have := HE.out hj
            rw [← this]; exact HQ.out⟩⟩
        case measure => have := PQ.out; rw [HW.out]; simp only [intOf]; omega
    · have c1b : decide (i < (defs.length : Int)) = false := decide_eq_false hlt
      have HRES : Aside0 (idxD defs nm = -1) := ⟨idxD_miss nm defs (fun j hj => HI.out.2 j hj (by have := HK.out; omega))⟩
      clear hlt
      go_wp2
      go_ret
      exact ⟨by rw [HRES.out]; rfl, HI.out.1⟩
end Go.Proofs.Ytnnpfgpfkningaa.P
namespace Go.Proofs.Ytnnpfgpfkningaa.P
open Go.RowKit Go.Proofs.YtnnpfgpfkningaaW.PrintWords Go.Proofs.YtnnpfgpfkningaaW.PrintLast Go.Proofs.YtnnpfgpfkningaaW.PrintMore
attribute [local go_sem] max2_int min2_int max_two min_two max_three min_three max_four min_four   -- for this text's walks alone
attribute [local go_sem ↓ high] Go.Proofs.YtnnpfgpfkningaaX.isSome_setCell
set_option linter.unusedVariables false
set_option linter.unusedSimpArgs false
theorem intR_ok {e base : Nat} {ok ok' : Nat → Prop} {w : World} {v : Value} {l : List Int} (h : Kd.R (Kd.int .i64) e w base ok v l) (hk : ∀ k, v.ownBlock = some k → ok' k) : Kd.R (Kd.int .i64) e w base ok' v l := ⟨hk, h.2⟩
theorem intR_lt {e base : Nat} {ok : Nat → Prop} {w : World} {v : Value} {l : List Int} (h : Kd.R (Kd.int .i64) e w base ok v l) : ∀ k, v.ownBlock = some k → k < w.heap.size := by
  intro k hk
  obtain ⟨inner, ho⟩ := Kd.R_own h
  exact own_lt ho k hk
theorem intR_to {e base : Nat} {ok ok' : Nat → Prop} {w w1 : World} {v : Value} {l : List Int} (h : Kd.R (Kd.int .i64) e w base ok v l) (hm : ∀ k, v.ownBlock = some k → w1.heap[k]? = w.heap[k]?) (hk : ∀ k, v.ownBlock = some k → ok' k) : Kd.R (Kd.int .i64) e w1 base ok' v l := by
  obtain ⟨_, inner, ho, hr⟩ := h
  exact ⟨hk, inner, own_move ho hm, hr.imp_ (fun _ _ hp => hp)⟩
theorem spR_lt {base : Nat} {ok : Nat → Prop} {w : World} {v : Value} {l : List S94} (h : Kd.R k94 94 w base ok v l) : ∀ k, v.ownBlock = some k → base ≤ k ∧ k < w.heap.size := by
  intro k hk
  obtain ⟨inner, ho⟩ := Kd.R_own h
  exact ⟨own_base ho k hk, own_lt ho k hk⟩
theorem spR_to {base : Nat} {ok ok' : Nat → Prop} {w w1 : World} {v : Value} {l : List S94} (h : Kd.R k94 94 w base ok v l) (hm : ∀ k, v.ownBlock = some k → w1.heap[k]? = w.heap[k]?) (hk : ∀ k, v.ownBlock = some k → ok' k) : Kd.R k94 94 w1 base ok' v l := by
  obtain ⟨_, inner, ho, hr⟩ := h
  exact ⟨hk, inner, own_move ho hm, hr.imp_ (fun p _ hp => by obtain rfl := k94_openM hp; exact k94_mkM _ _ _ p)⟩
theorem spR_one {w : World} {base g : Nat} {ok : Nat → Prop} {a c : Int} (hb : base ≤ g) (h : w.heap[g]? = some (.cells #[.int .i64 a, .int .i64 c] 94 (0, 0))) (hok : ok g) : Kd.R k94 94 w base ok (.slice (some ⟨g, 0, none⟩) 1 1) [⟨a, c⟩] := by
  refine ⟨fun k hk => ?_, [.int .i64 a, .int .i64 c], ⟨rfl, .inr ⟨g, 1, #[.int .i64 a, .int .i64 c], rfl, hb, h, Nat.le_refl _, by unfold maxLen; omega, rfl, rfl⟩⟩, ?_⟩
  · simp [Value.ownBlock] at hk; exact hk ▸ hok
  · exact Reps.snoc (Reps.none _ _) (k94_mkM w base _ ⟨a, c⟩) rfl
theorem MapAt.of_heap {W W1 : World} {mp : Nat} {l : List S51} (h : MapAt W mp l) (e : W1.heap[mp]? = W.heap[mp]?) : MapAt W1 mp l := by
  obtain ⟨D, ⟨es, clock, hh, r⟩, h2⟩ := h
  exact ⟨D, ⟨es, clock, e.trans hh, r⟩, h2⟩
theorem MapAt.ne_own {e base : Nat} {ok : Nat → Prop} {w : World} {v : Value} {l : List Int} {mp : Nat} {ar : List S51} (h : Kd.R (Kd.int .i64) e w base ok v l) (hm : MapAt w mp ar) : ∀ q, v.ownBlock = some q → q ≠ mp := by
  intro q hq he
  obtain ⟨inner, ho⟩ := Kd.R_own h
  obtain ⟨cells, hc⟩ := own_typed ho q hq
  obtain ⟨D, ⟨es, clock, hh, _⟩, _⟩ := hm
  subst he
  rw [hc] at hh
  cases hh
end Go.Proofs.Ytnnpfgpfkningaa.P
namespace Go.Proofs.Ytnnpfgpfkningaa.P
open Go.RowKit Go.Proofs.YtnnpfgpfkningaaW.PrintWords Go.Proofs.YtnnpfgpfkningaaW.PrintLast Go.Proofs.YtnnpfgpfkningaaW.PrintMore
attribute [local go_sem] max2_int min2_int max_two min_two max_three min_three max_four min_four   -- for this text's walks alone
attribute [local go_sem ↓ high] Go.Proofs.YtnnpfgpfkningaaX.isSome_setCell
set_option linter.unusedVariables false
set_option linter.unusedSimpArgs false
structure St where
  sets : List Int
  arcs : List S51
structure MkAt (w0 W : World) (b mp : Nat) (s : Option Nat) (Ad : Option Addr) (cd : Nat) (defs : List S61) (st : St) : Prop where
  blk : ∃ As cs, W.heap[b]? = some (.cells #[.map (some mp), .slice As st.sets.length cs, .slice Ad defs.length cd] 71 (0, 0)) ∧ (Value.slice As st.sets.length cs).ownBlock = s ∧ Kd.R (Kd.int .i64) 3 W w0.heap.size (fun k => k ≠ b) (.slice As st.sets.length cs) st.sets
  map : MapAt W mp st.arcs
  below : Below w0.heap.size w0 W
  hb : w0.heap.size ≤ b
  hmp : w0.heap.size ≤ mp
  hcd : defs.length ≤ cd
  defs : Kd.C k61 w0 Ad defs.length defs
theorem MkAt.below_ {w0 W W1 : World} {b mp : Nat} {s : Option Nat} {Ad : Option Addr} {cd : Nat} {defs : List S61} {st : St} (h : MkAt w0 W b mp s Ad cd defs st) (hb : Below W.heap.size W W1) : MkAt w0 W1 b mp s Ad cd defs st where
  blk := let ⟨As, cs, h1, h2, h3⟩ := h.blk; ⟨As, cs, blk_below h1 hb, h2, Kd.R_below h3 hb⟩
  map := h.map.below hb
  below := below_weaken h.below h.below.size hb
  hb := h.hb
  hmp := h.hmp
  hcd := h.hcd
  defs := h.defs
theorem MkAt.lt {w0 W : World} {b mp : Nat} {s : Option Nat} {Ad : Option Addr} {cd : Nat} {defs : List S61} {st : St} (h : MkAt w0 W b mp s Ad cd defs st) : b < W.heap.size := let ⟨_, _, h1, _⟩ := h.blk; blk_lt h1
/-- What a piece's functions may turn: the maker's own blocks. -/
def Zn (b mp : Nat) (s : Option Nat) (k : Nat) : Prop := k = b ∨ k = mp ∨ some k = s
/-- Where the row of sets lies behind a call. -/
def Sets2 (W : World) (s s' : Option Nat) : Prop := s' = s ∨ ∃ g, s' = some g ∧ W.heap.size ≤ g
theorem cellAt {w : World} {g : Nat} {t : TypeId} {cs : Array Value} {i : Nat} {u : Value} (h : w.heap[g]? = some (.cells cs t (0, 0))) (e : cs[i]? = some u) : w.cell? ⟨g, i, none⟩ = some u := (blk_cell h i).trans e
theorem blk_setFar {w : World} {g : Nat} {o : Obj} (h : w.heap[g]? = some o) {a : Addr} (hne : g ≠ a.block) (u : Value) : (w.setCell a u).heap[g]? = some o := by
  rw [RowKit.Below.heap_setCell _ _ _ _ hne]; exact h
theorem pos_end {w0 W W2 w3 W5 W6 : World} {b mp : Nat} {s : Option Nat} {Ad : Option Addr} {cd : Nat} {defs : List S61} {st : St} {As A1 : Option Addr} {cs cc1 : Nat} {o : Int} (hM : MkAt w0 W b mp s Ad cd defs st) (hs : (Value.slice As st.sets.length cs).ownBlock = s) (hR0 : Kd.R (Kd.int .i64) 3 W w0.heap.size (fun k => k ≠ b) (.slice As st.sets.length cs) st.sets)
    (h2 : Below W.heap.size W W2) (hz : W.heap.size + 2 ≤ W2.heap.size) (hB3 : w3.heap[b]? = some (.cells #[.map (some mp), .slice As st.sets.length cs, .slice Ad defs.length cd] 71 (0, 0)))
    (hr : Kd.R (Kd.int .i64) 3 w3 w0.heap.size (fun k => k ≠ b) (.slice A1 (st.sets.length + 1) cc1) (st.sets ++ [o])) (hb : Below w0.heap.size w0 w3) (hg : W2.grownBy w3 (Value.slice As st.sets.length cs).ownBlock)
    (hat : (Value.slice A1 (st.sets.length + 1) cc1).ownBlock = (Value.slice As st.sets.length cs).ownBlock ∨ ∃ g, (Value.slice A1 (st.sets.length + 1) cc1).ownBlock = some g ∧ W2.heap.size ≤ g)
    (hW5 : ((w3.setCell ⟨b, 1, none⟩ (.slice A1 (st.sets.length + 1) cc1)).alloc (.cells #[.int .i64 (st.sets.length : Int), .int .i64 0] 94)).alloc (.cells #[.int .i64 (st.sets.length : Int), .int .i64 0] 94) = W5)
    (hW6 : (((W5.setCell ⟨W.heap.size + 1, 0, none⟩ (.slice (some ⟨w3.heap.size, 0, none⟩) 1 1)).setCell ⟨W.heap.size + 1, 1, none⟩ (.slice (some ⟨w3.heap.size + 1, 0, none⟩) 1 1)).setCell ⟨W.heap.size + 1, 2, none⟩ (.int .i64 1152921504606846976)) = W6) :
    MkAt w0 W6 b mp (Value.slice A1 (st.sets.length + 1) cc1).ownBlock Ad cd defs ⟨st.sets ++ [o], st.arcs⟩ ∧ Kept W W6 (Zn b mp s) ∧ Sets2 W s (Value.slice A1 (st.sets.length + 1) cc1).ownBlock ∧
      Kd.R k94 94 W6 W.heap.size (fun k => some k ≠ (Value.slice A1 (st.sets.length + 1) cc1).ownBlock ∧ some k ≠ (Value.slice (some ⟨w3.heap.size + 1, 0, none⟩) 1 1).ownBlock) (.slice (some ⟨w3.heap.size, 0, none⟩) 1 1) [⟨(st.sets.length : Int), 0⟩] ∧
      Kd.R k94 94 W6 W.heap.size (fun k => some k ≠ (Value.slice A1 (st.sets.length + 1) cc1).ownBlock ∧ some k ≠ (Value.slice (some ⟨w3.heap.size, 0, none⟩) 1 1).ownBlock) (.slice (some ⟨w3.heap.size + 1, 0, none⟩) 1 1) [⟨(st.sets.length : Int), 0⟩] := by
  have hbl := hM.lt
  have h23 := hg.size
  have hsz4 : (w3.setCell ⟨b, 1, none⟩ (.slice A1 (st.sets.length + 1) cc1)).heap.size = w3.heap.size := by simp [World.setCell]
  have same : ∀ k, k < w3.heap.size → k ≠ b → k ≠ W.heap.size + 1 → W6.heap[k]? = w3.heap[k]? := fun k hk h1 h2 => by
    rw [← hW6, ← hW5]
    rw [RowKit.Below.heap_setCell _ _ _ _ (by simpa using h2), RowKit.Below.heap_setCell _ _ _ _ (by simpa using h2), RowKit.Below.heap_setCell _ _ _ _ (by simpa using h2)]
    rw [Below.heap_alloc _ _ k (by simp; omega), Below.heap_alloc _ _ k (by omega), RowKit.Below.heap_setCell _ _ _ _ (by simpa using h1)]
  have q1 : W6.heap[w3.heap.size]? = some (.cells #[.int .i64 (st.sets.length : Int), .int .i64 0] 94) := by
    have h := blk_alloc (heap_alloc_new (w3.setCell ⟨b, 1, none⟩ (.slice A1 (st.sets.length + 1) cc1)) (.cells #[.int .i64 (st.sets.length : Int), .int .i64 0] 94)) (.cells #[.int .i64 (st.sets.length : Int), .int .i64 0] 94)
    rw [hsz4, hW5] at h
    rw [← hW6]
    exact blk_setFar (blk_setFar (blk_setFar h (by simp; omega) _) (by simp; omega) _) (by simp; omega) _
  have q2 : W6.heap[w3.heap.size + 1]? = some (.cells #[.int .i64 (st.sets.length : Int), .int .i64 0] 94) := by
    have h := heap_alloc_new ((w3.setCell ⟨b, 1, none⟩ (.slice A1 (st.sets.length + 1) cc1)).alloc (.cells #[.int .i64 (st.sets.length : Int), .int .i64 0] 94)) (.cells #[.int .i64 (st.sets.length : Int), .int .i64 0] 94)
    rw [show ((w3.setCell ⟨b, 1, none⟩ (.slice A1 (st.sets.length + 1) cc1)).alloc (.cells #[.int .i64 (st.sets.length : Int), .int .i64 0] 94)).heap.size = w3.heap.size + 1 from by rw [← hsz4]; exact Array.size_push _, hW5] at h
    rw [← hW6]
    exact blk_setFar (blk_setFar (blk_setFar h (by simp; omega) _) (by simp; omega) _) (by simp; omega) _
  have q3 : W6.heap[b]? = some (.cells #[.map (some mp), .slice A1 (st.sets.length + 1) cc1, .slice Ad defs.length cd] 71 (0, 0)) := by
    have h := blk_put hB3 1 (.slice A1 (st.sets.length + 1) cc1) (cs' := #[.map (some mp), .slice A1 (st.sets.length + 1) cc1, .slice Ad defs.length cd]) rfl
    have h := blk_alloc (blk_alloc h (.cells #[.int .i64 (st.sets.length : Int), .int .i64 0] 94)) (.cells #[.int .i64 (st.sets.length : Int), .int .i64 0] 94)
    rw [hW5] at h
    rw [← hW6]
    exact blk_setFar (blk_setFar (blk_setFar h (by simp; omega) _) (by simp; omega) _) (by simp; omega) _
  have hsz6 : W6.heap.size = w3.heap.size + 2 := by
    rw [← hW6, ← hW5]; simp [World.setCell]
  have hbel : Below w0.heap.size w0 W6 := by
    rw [← hW6, ← hW5]
    have hx := hM.below.size
    exact below_set (below_set (below_set (below_alloc (below_alloc (below_set hb hM.hb) _) _) (by omega)) (by omega)) (by omega)
  have ownlt : ∀ k, (Value.slice A1 (st.sets.length + 1) cc1).ownBlock = some k → k < w3.heap.size ∧ k ≠ b ∧ k ≠ W.heap.size + 1 := fun k hk => by
    refine ⟨intR_lt hr k hk, hr.1 k hk, ?_⟩
    rcases hat with e | ⟨g, e, hge⟩
    · rw [e] at hk
      have := intR_lt hR0 k hk
      omega
    · rw [e] at hk; injection hk with hk; omega
  have hmlt := hM.map.lt
  have hmne : mp ≠ b := by
    rintro rfl
    obtain ⟨As', cs', hh, _⟩ := hM.blk
    obtain ⟨D, ⟨es, clock, hh2, _⟩, _⟩ := hM.map
    rw [hh] at hh2; cases hh2
  have hmap : W6.heap[mp]? = W.heap[mp]? := by
    rw [same mp (by omega) hmne (by omega), hg.block mp (by omega) (fun e => MapAt.ne_own hR0 hM.map mp e.symm rfl), h2.block mp hmlt]
  have hnew : ∀ k, w3.heap.size ≤ k → some k ≠ (Value.slice A1 (st.sets.length + 1) cc1).ownBlock := fun k hk e => by
    have := ownlt k e.symm; omega
  refine ⟨⟨⟨A1, cc1, ?_, by simp, ?_⟩, hM.map.of_heap hmap, hbel, hM.hb, hM.hmp, hM.hcd, hM.defs⟩, ⟨by rw [hsz6]; omega, fun k hk hn => ?_⟩, ?_, spR_one (by omega) q1 ⟨hnew _ (Nat.le_refl _), by simp [Value.ownBlock]⟩, spR_one (by omega) q2 ⟨hnew _ (by omega), by simp [Value.ownBlock]⟩⟩
  · simpa using q3
  · have := intR_to (ok' := fun k => k ≠ b) hr (fun k hk => by obtain ⟨a, c, d⟩ := ownlt k hk; exact same k a c d) (fun k hk => (ownlt k hk).2.1)
    simpa using this
  · have hkb : k ≠ b := fun e => hn (.inl e)
    rw [same k (by omega) hkb (by omega), hg.block k (by omega) (fun e => hn (.inr (.inr (by rw [e, hs])))), h2.block k hk]
  · rcases hat with e | ⟨g, e, hge⟩
    · exact .inl (e.trans hs)
    · exact .inr ⟨g, e, by omega⟩
set_option maxRecDepth 100000 in
set_option maxHeartbeats 4000000 in
theorem position_calls (w0 W : World) (b mp : Nat) (s : Option Nat) (Ad : Option Addr) (cd : Nat) (defs : List S61) (st : St) (x : S33) (A5 : Option Addr) (c5 : Nat) (hM : MkAt w0 W b mp s Ad cd defs st) (hn : st.sets.length < 1000000) :
    Calls Try.prog 40 #[.pointer (some ⟨b, 0, none⟩), .agg #[.int .i64 x.f0, .int .i64 x.f1, .int .i64 x.f2, .int .i64 x.f3, .string x.f4, .slice A5 x.f5.length c5]] W fun e W' => ∃ (s' : Option Nat) (vf ve : Value), e = .returned (.agg #[vf, ve, .int .i64 1152921504606846976]) ∧
      MkAt w0 W' b mp s' Ad cd defs ⟨st.sets ++ [if x.f0 = 2 then idxD defs x.f4 else -1], st.arcs⟩ ∧ Kept W W' (Zn b mp s) ∧ Sets2 W s s' ∧ Kd.R k94 94 W' W.heap.size (fun k => some k ≠ s' ∧ some k ≠ ve.ownBlock) vf [⟨(st.sets.length : Int), 0⟩] ∧ Kd.R k94 94 W' W.heap.size (fun k => some k ≠ s' ∧ some k ≠ vf.ownBlock) ve [⟨(st.sets.length : Int), 0⟩] := by
  obtain ⟨As, cs, hblk, hs, hR⟩ := hM.blk
  have hW1 := below_alloc (below_alloc (Below.refl W.heap.size W) (.cells #[.int .i64 x.f0, .int .i64 x.f1, .int .i64 x.f2, .int .i64 x.f3, .string x.f4, .slice A5 x.f5.length c5] 33)) (.cells #[.slice none 0 0, .slice none 0 0, .int .i64 0] 74)
  have HM := Aside0.mk hM
  have HBLK := Aside0.mk hblk
  have HS := Aside0.mk hs
  have HN := Aside0.mk hn
  have HW1 := Aside0.mk hW1
  have x0 : ((W.alloc (.cells #[.int .i64 x.f0, .int .i64 x.f1, .int .i64 x.f2, .int .i64 x.f3, .string x.f4, .slice A5 x.f5.length c5] 33)).alloc (.cells #[.slice none 0 0, .slice none 0 0, .int .i64 0] 74)).heap[W.heap.size]? = some (.cells #[.int .i64 x.f0, .int .i64 x.f1, .int .i64 x.f2, .int .i64 x.f3, .string x.f4, .slice A5 x.f5.length c5] 33) := blk_alloc (heap_alloc_new W _) _
  have b1 := blk_below hblk hW1
  have X0 := Aside0.mk x0
  have B1 := Aside0.mk b1
  have p1 : ((W.alloc (.cells #[.int .i64 x.f0, .int .i64 x.f1, .int .i64 x.f2, .int .i64 x.f3, .string x.f4, .slice A5 x.f5.length c5] 33)).alloc (.cells #[.slice none 0 0, .slice none 0 0, .int .i64 0] 74)).heap[W.heap.size + 1]? = some (.cells #[.slice none 0 0, .slice none 0 0, .int .i64 0] 74) := by
    have h := heap_alloc_new (W.alloc (.cells #[.int .i64 x.f0, .int .i64 x.f1, .int .i64 x.f2, .int .i64 x.f3, .string x.f4, .slice A5 x.f5.length c5] 33)) (.cells #[.slice none 0 0, .slice none 0 0, .int .i64 0] 74)
    rwa [show (W.alloc (.cells #[.int .i64 x.f0, .int .i64 x.f1, .int .i64 x.f2, .int .i64 x.f3, .string x.f4, .slice A5 x.f5.length c5] 33)).heap.size = W.heap.size + 1 from Array.size_push _] at h
  have P1 := Aside0.mk p1
  have e0 := cellAt (i := 0) (u := .map (some mp)) b1 rfl
  have e1 := cellAt (i := 1) (u := .slice As st.sets.length cs) b1 rfl
  have e2 := cellAt (i := 2) (u := .slice Ad defs.length cd) b1 rfl
  have f0 := cellAt (i := 0) (u := .int .i64 x.f0) x0 rfl
  have HD := Aside0.mk (Kd.C_below hM.defs (below_weaken hM.below hM.below.size hW1))
  have HR1 := Aside0.mk (Kd.R_below hR hW1)
  have HR0 := Aside0.mk hR
  have HB1 := Aside0.mk (below_weaken hM.below hM.below.size hW1)
  have HX1 : Aside0 (((W.alloc (.cells #[.int .i64 x.f0, .int .i64 x.f1, .int .i64 x.f2, .int .i64 x.f3, .string x.f4, .slice A5 x.f5.length c5] 33)).alloc (.cells #[.slice none 0 0, .slice none 0 0, .int .i64 0] 74)).heap.size = W.heap.size + 2) := ⟨by simp⟩
  clear hM hblk hs hn hW1 x0 b1 hR p1
  generalize hWW : (W.alloc (.cells #[.int .i64 x.f0, .int .i64 x.f1, .int .i64 x.f2, .int .i64 x.f3, .string x.f4, .slice A5 x.f5.length c5] 33)).alloc (.cells #[.slice none 0 0, .slice none 0 0, .int .i64 0] 74) = W1 at *
  have BNE : Aside0 (b < W.heap.size) := ⟨HM.out.lt⟩
  have PNE : Aside0 (some (W.heap.size + 1) ≠ (Value.slice As st.sets.length cs).ownBlock) := ⟨fun e => by
    obtain ⟨inner, ho⟩ := Kd.R_own HR0.out
    have := own_lt ho _ e.symm
    omega⟩
  by_cases h2 : x.f0 = 2
  · have c1 : (x.f0 == 2) = true := beq_iff_eq.2 h2
    rw [if_pos h2]
    clear h2
    go_enter Try.func40, Try.ntmps40
    go_wp2_with (first | (go_at_call 61; refine (index61_calls W.heap.size Ad cd defs x.f4 _ (cellAt (i := 4) X0.out rfl) HD.out).mono ?_; rintro e w2 ⟨rfl, hb2⟩; have HB2 := Aside0.mk hb2; have B2 := Aside0.mk (blk_below B1.out hb2); have P2 := Aside0.mk (blk_below P1.out hb2); have HR2 := Aside0.mk (Kd.R_below HR1.out hb2); have HBW2 := Aside0.mk (below_weaken HB1.out HB1.out.size hb2); have g1 := cellAt (i := 1) (u := .slice As st.sets.length cs) B2.out rfl; clear hb2) | ((with_reducible refine gate_builtin (b := .append) (xs := #[.tmp 25, .tmp 27]) rfl ?_); at_builtin; refine Kd.R_append (Kd.int .i64) (w0 := w0) w0.heap.size rfl (.tmp 25) (.tmp 27) 23 3 (.int .i64 0) 8 rfl Try.underlying23 info3 rfl (by decide) (by omega) (.slice As st.sets.length cs) st.sets (idxD defs x.f4) [.int .i64 (idxD defs x.f4)] (fun k => k ≠ b) (fun _ => False) rfl rfl rfl (fun _ hk => hk.elim) (fun k hk => by have := blk_lt B2.out; omega) HR2.out HBW2.out HBW2.out.size (by have := HN.out; omega) ?_; intro v1 w3 hr hb hg hat; obtain ⟨A1, cc1, hv1⟩ := Kd.R_slice hr; rw [List.length_append, List.length_singleton] at hv1; subst hv1; obtain ⟨W5, hW5⟩ : ∃ W5, ((w3.setCell ⟨b, 1, none⟩ (.slice A1 (st.sets.length + 1) cc1)).alloc (.cells #[.int .i64 (st.sets.length : Int), .int .i64 0] 94)).alloc (.cells #[.int .i64 (st.sets.length : Int), .int .i64 0] 94) = W5 := ⟨_, rfl⟩; have HA := Aside0.mk (And.intro hr (And.intro hb (And.intro hg hat))); have B3 := Aside0.mk (blk_grown B2.out hg (fun e => HR2.out.1 b e.symm rfl)); have P3 := Aside0.mk (blk_grown P2.out hg (fun e => PNE.out e)); have k1 := cellAt (i := 1) (u := .slice As st.sets.length cs) B3.out rfl; have k2 := blk_frozen B3.out 1; have P5 : Aside0 (W5.heap[W.heap.size + 1]? = some (.cells #[.slice none 0 0, .slice none 0 0, .int .i64 0] 74)) := ⟨by rw [← hW5]; exact blk_alloc (blk_alloc (blk_setFar P3.out (by have := BNE.out; simp; omega) _) _) _⟩; have m0 := cellAt (i := 0) (u := .slice none 0 0) P5.out rfl; have m1 := cellAt (i := 1) (u := .slice none 0 0) P5.out rfl; have m2 := cellAt (i := 2) (u := .int .i64 0) P5.out rfl; have n0 := blk_frozen P5.out 0; have n1 := blk_frozen P5.out 1; have n2 := blk_frozen P5.out 2; clear hr hb hg hat))
    obtain ⟨W6, hW6⟩ : ∃ W6, (((W5.setCell ⟨W.heap.size + 1, 0, none⟩ (.slice (some ⟨w3.heap.size, 0, none⟩) 1 1)).setCell ⟨W.heap.size + 1, 1, none⟩ (.slice (some ⟨w3.heap.size + 1, 0, none⟩) 1 1)).setCell ⟨W.heap.size + 1, 2, none⟩ (.int .i64 1152921504606846976)) = W6 := ⟨_, rfl⟩
    have hP6 : W6.heap[W.heap.size + 1]? = some (.cells #[.slice (some ⟨w3.heap.size, 0, none⟩) 1 1, .slice (some ⟨w3.heap.size + 1, 0, none⟩) 1 1, .int .i64 1152921504606846976] 74 (0, 0)) := by
      rw [← hW6]
      exact blk_put (blk_put (blk_put P5.out 0 _ rfl) 1 _ rfl) 2 _ rfl
    have hE := pos_end HM.out HS.out HR0.out (HW1.out.trans (HB2.out.mono HW1.out.size)) (by have := HX1.out; have := HB2.out.size; omega) B3.out HA.out.1 HA.out.2.1 HA.out.2.2.1 HA.out.2.2.2 hW5 hW6
    rw [hW6]
    refine bodyPost_ret (results_cell_row rfl _ _ (W.heap.size + 1) 74 #[.slice (some ⟨w3.heap.size, 0, none⟩) 1 1, .slice (some ⟨w3.heap.size + 1, 0, none⟩) 1 1, .int .i64 1152921504606846976] (0, 0) _ (by rfl) hP6 Try.underlying74 rfl (by kernel_rfl)) rfl ?_
    exact ⟨_, _, _, rfl, hE⟩
  · have c1 : (x.f0 == 2) = false := beq_eq_false_iff_ne.2 h2
    rw [if_neg h2]
    clear h2
    have B2 := B1
    have P2 := P1
    have HR2 := HR1
    have HBW2 := HB1
    go_enter Try.func40, Try.ntmps40
    go_wp2_with (((with_reducible refine gate_builtin (b := .append) (xs := #[.tmp 25, .tmp 27]) rfl ?_); at_builtin; refine Kd.R_append (Kd.int .i64) (w0 := w0) w0.heap.size rfl (.tmp 25) (.tmp 27) 23 3 (.int .i64 0) 8 rfl Try.underlying23 info3 rfl (by decide) (by omega) (.slice As st.sets.length cs) st.sets (-1) [.int .i64 (-1)] (fun k => k ≠ b) (fun _ => False) rfl rfl rfl (fun _ hk => hk.elim) (fun k hk => by have := blk_lt B2.out; omega) HR2.out HBW2.out HBW2.out.size (by have := HN.out; omega) ?_; intro v1 w3 hr hb hg hat; obtain ⟨A1, cc1, hv1⟩ := Kd.R_slice hr; rw [List.length_append, List.length_singleton] at hv1; subst hv1; obtain ⟨W5, hW5⟩ : ∃ W5, ((w3.setCell ⟨b, 1, none⟩ (.slice A1 (st.sets.length + 1) cc1)).alloc (.cells #[.int .i64 (st.sets.length : Int), .int .i64 0] 94)).alloc (.cells #[.int .i64 (st.sets.length : Int), .int .i64 0] 94) = W5 := ⟨_, rfl⟩; have HA := Aside0.mk (And.intro hr (And.intro hb (And.intro hg hat))); have B3 := Aside0.mk (blk_grown B2.out hg (fun e => HR2.out.1 b e.symm rfl)); have P3 := Aside0.mk (blk_grown P2.out hg (fun e => PNE.out e)); have k1 := cellAt (i := 1) (u := .slice As st.sets.length cs) B3.out rfl; have k2 := blk_frozen B3.out 1; have P5 : Aside0 (W5.heap[W.heap.size + 1]? = some (.cells #[.slice none 0 0, .slice none 0 0, .int .i64 0] 74)) := ⟨by rw [← hW5]; exact blk_alloc (blk_alloc (blk_setFar P3.out (by have := BNE.out; simp; omega) _) _) _⟩; have m0 := cellAt (i := 0) (u := .slice none 0 0) P5.out rfl; have m1 := cellAt (i := 1) (u := .slice none 0 0) P5.out rfl; have m2 := cellAt (i := 2) (u := .int .i64 0) P5.out rfl; have n0 := blk_frozen P5.out 0; have n1 := blk_frozen P5.out 1; have n2 := blk_frozen P5.out 2; clear hr hb hg hat))
    obtain ⟨W6, hW6⟩ : ∃ W6, (((W5.setCell ⟨W.heap.size + 1, 0, none⟩ (.slice (some ⟨w3.heap.size, 0, none⟩) 1 1)).setCell ⟨W.heap.size + 1, 1, none⟩ (.slice (some ⟨w3.heap.size + 1, 0, none⟩) 1 1)).setCell ⟨W.heap.size + 1, 2, none⟩ (.int .i64 1152921504606846976)) = W6 := ⟨_, rfl⟩
    have hP6 : W6.heap[W.heap.size + 1]? = some (.cells #[.slice (some ⟨w3.heap.size, 0, none⟩) 1 1, .slice (some ⟨w3.heap.size + 1, 0, none⟩) 1 1, .int .i64 1152921504606846976] 74 (0, 0)) := by
      rw [← hW6]
      exact blk_put (blk_put (blk_put P5.out 0 _ rfl) 1 _ rfl) 2 _ rfl
    have hE := pos_end HM.out HS.out HR0.out HW1.out (by have := HX1.out; omega) B3.out HA.out.1 HA.out.2.1 HA.out.2.2.1 HA.out.2.2.2 hW5 hW6
    rw [hW6]
    refine bodyPost_ret (results_cell_row rfl _ _ (W.heap.size + 1) 74 #[.slice (some ⟨w3.heap.size, 0, none⟩) 1 1, .slice (some ⟨w3.heap.size + 1, 0, none⟩) 1 1, .int .i64 1152921504606846976] (0, 0) _ (by rfl) hP6 Try.underlying74 rfl (by kernel_rfl)) rfl ?_
    exact ⟨_, _, _, rfl, hE⟩
end Go.Proofs.Ytnnpfgpfkningaa.P
namespace Go.Proofs.Ytnnpfgpfkningaa.P
open Go.RowKit Go.Proofs.YtnnpfgpfkningaaW.PrintWords Go.Proofs.YtnnpfgpfkningaaW.PrintLast Go.Proofs.YtnnpfgpfkningaaW.PrintMore
attribute [local go_sem] max2_int min2_int max_two min_two max_three min_three max_four min_four   -- for this text's walks alone
attribute [local go_sem ↓ high] Go.Proofs.YtnnpfgpfkningaaX.isSome_setCell
set_option linter.unusedVariables false
set_option linter.unusedSimpArgs false
structure S74 where
  f0 : (List S94)
  f1 : (List S94)
  f2 : Int
def z74 : S74 := ⟨[], [], 0⟩
def k74 : Kd S74 := Kd.iso (Kd.pair (Kd.slice 94 k94) (Kd.pair (Kd.slice 94 k94) (Kd.int .i64))) (fun x : S74 => (x.f0, x.f1, x.f2))
theorem k74_open {w : World} {x : S74} {cs : List Value} (h : k74.K w x cs) : ∃ A0 c0 A1 c1, cs = [.slice A0 x.f0.length c0, .slice A1 x.f1.length c1, .int .i64 x.f2] ∧ x.f0.length ≤ c0 ∧ k94.C w A0 x.f0.length x.f0 ∧ x.f1.length ≤ c1 ∧ k94.C w A1 x.f1.length x.f1 := by
  obtain ⟨_, _, rfl, ⟨A0, c0, rfl, l0, g0⟩, ⟨_, _, rfl, ⟨A1, c1, rfl, l1, g1⟩, rfl⟩⟩ := h
  exact ⟨A0, c0, A1, c1, rfl, l0, g0, l1, g1⟩
theorem k74_mk (w : World) (x : S74) {A0 : Option Addr} {c0 : Nat} (l0 : x.f0.length ≤ c0) (g0 : k94.C w A0 x.f0.length x.f0) {A1 : Option Addr} {c1 : Nat} (l1 : x.f1.length ≤ c1) (g1 : k94.C w A1 x.f1.length x.f1) : k74.K w x [.slice A0 x.f0.length c0, .slice A1 x.f1.length c1, .int .i64 x.f2] := ⟨[_], [_, _], rfl, ⟨A0, c0, rfl, l0, g0⟩, ⟨[_], [_], rfl, ⟨A1, c1, rfl, l1, g1⟩, rfl⟩⟩
theorem k74_mkM (w : World) (base : Nat) (ok : Nat → Prop) (x : S74) {v0 v1 : Value} (g0 : k94.R 94 w base ok v0 x.f0) (g1 : k94.R 94 w base ok v1 x.f1) : k74.M w base ok x [v0, v1, .int .i64 x.f2] := ⟨[_], [_, _], rfl, ⟨v0, rfl, g0⟩, ⟨[_], [_], rfl, ⟨v1, rfl, g1⟩, rfl⟩⟩
def rd_T74 (xs : List S74) (i : Int) : S74 := xs.getD i.toNat z74
theorem at_T74 {w : World} {A : Option Addr} {n : Nat} {xs : List S74} (h : Kd.C k74 w A n xs) (i : Int) (h0 : 0 ≤ i) (h1 : i < n) : ∃ ad A0 c0 A1 c1, A = some ad ∧ w.cell? (ad.add (i.toNat * 3)) = some (.slice A0 (rd_T74 xs i).f0.length c0) ∧ w.cell? ⟨(ad.add (i.toNat * 3)).block, (ad.add (i.toNat * 3)).off + 1, none⟩ = some (.slice A1 (rd_T74 xs i).f1.length c1) ∧ w.cell? ⟨(ad.add (i.toNat * 3)).block, (ad.add (i.toNat * 3)).off + 2, none⟩ = some (.int .i64 (rd_T74 xs i).f2) ∧ (rd_T74 xs i).f0.length ≤ c0 ∧ k94.C w A0 (rd_T74 xs i).f0.length (rd_T74 xs i).f0 ∧ (rd_T74 xs i).f1.length ≤ c1 ∧ k94.C w A1 (rd_T74 xs i).f1.length (rd_T74 xs i).f1 := by
  obtain ⟨ad, c, e, _, hK, hc0⟩ := Kd.C_get h z74 i h0 h1
  have hc : ∀ j u, c[j]? = some u → w.cell? (ad.add (i.toNat * 3 + j)) = some u := hc0
  obtain ⟨A0, c0, A1, c1, rfl, l0, g0, l1, g1⟩ := k74_open hK
  exact ⟨ad, A0, c0, A1, c1, e, hc 0 _ rfl, by rw [← add_field _ _ 1 (by omega)]; exact hc 1 _ rfl, by rw [← add_field _ _ 2 (by omega)]; exact hc 2 _ rfl, l0, g0, l1, g1⟩
theorem info74 : (Try.prog.info? 74).map (fun i => (i.zero, i.size, i.bytes)) = some (some (.agg #[(.slice none 0 0), (.slice none 0 0), (.int .i64 0)]), 3, 56) := by kernel_rfl
theorem C74_grown {w W : World} {A : Option Addr} {n : Nat} {xs : List S74} (h : Kd.C k74 w A n xs) {mp : Nat} {l : List S51} (hm : MapAt w mp l) (hg : w.grownBy W (some mp)) : Kd.C k74 W A n xs := by
  obtain ⟨h1, h2, h3⟩ := h
  refine ⟨h1, h2, fun hn => ?_⟩
  obtain ⟨ad, e, hc⟩ := h3 hn
  refine ⟨ad, e, fun j p hp => ?_⟩
  obtain ⟨c, c1, c2, c3⟩ := hc j p hp
  obtain ⟨A0, d0, A1, d1, rfl, l0, g0, l1, g1⟩ := k74_open c2
  exact ⟨_, c1, k74_mk W p l0 (C94_grown g0 hm hg) l1 (C94_grown g1 hm hg), fun i u hu => cell_grown_map hm hg (c3 i u hu)⟩
def dearS (l : List S94) (n : Int) : List S94 := (l.map (fun s => (⟨s.f0, tadd s.f1 n⟩ : S94))).filter (fun s => decide (s.f1 < tinf))
theorem dearer_loop (l : List S94) (n : Int) (hl : l.length < 1000000) : ∀ (d m : Nat) (out : List S94), m + d = l.length → out.length ≤ m → Ev (fun k => side_dearer.l0 k n out l (l.length : Int) (m : Int)) (out ++ dearS (l.drop m) n)
  | 0, m, out, hd, ho => by
    rw [List.drop_eq_nil_of_le (by omega)]
    refine Ev.step (f := fun _ => some out) (fun k => ?_) (by simp [dearS]; exact Ev.now _)
    simp only [side_dearer.l0]; rw [if_neg (by omega)]
  | d + 1, m, out, hd, ho => by
    have hm : m < l.length := by omega
    have hw : wrap64 ((m : Int) + 1) = ((m + 1 : Nat) : Int) := by unfold wrap64; omega
    have hrd : rd_T94 l (m : Int) = l[m] := by unfold rd_T94; rw [Int.toNat_natCast, List.getD_eq_getElem?_getD, List.getElem?_eq_getElem hm]; rfl
    rw [List.drop_eq_getElem_cons hm]
    by_cases hc : tadd l[m].f1 n < 1152921504606846976
    · have ih := dearer_loop l n hl d (m + 1) (out ++ [⟨l[m].f0, tadd l[m].f1 n⟩]) (by omega) (by simp; omega)
      have e : dearS (l[m] :: l.drop (m + 1)) n = ⟨l[m].f0, tadd l[m].f1 n⟩ :: dearS (l.drop (m + 1)) n := by
        unfold dearS; rw [List.map_cons, List.filter_cons, if_pos (show decide (tadd l[m].f1 n < tinf) = true from decide_eq_true hc)]
      rw [e]
      rw [List.append_assoc, List.singleton_append] at ih
      refine Ev.step (fun k => ?_) ih
      simp only [side_dearer.l0, trop_Add_tadd, hrd]
      rw [if_pos (by omega), if_pos (by omega), if_pos (by omega), Option.bind_some, if_pos hc, if_pos (by omega), hw]
    · have ih := dearer_loop l n hl d (m + 1) out (by omega) (by omega)
      have e : dearS (l[m] :: l.drop (m + 1)) n = dearS (l.drop (m + 1)) n := by
        unfold dearS; rw [List.map_cons, List.filter_cons, if_neg (by rw [show decide (tadd l[m].f1 n < tinf) = false from decide_eq_false hc]; decide)]
      rw [e]
      refine Ev.step (fun k => ?_) ih
      simp only [side_dearer.l0, trop_Add_tadd, hrd]
      rw [if_pos (by omega), if_pos (by omega), if_pos (by omega), Option.bind_some, if_neg hc, hw]
theorem dearS_len (l : List S94) (n : Int) : (dearS l n).length ≤ l.length := by
  unfold dearS
  exact Nat.le_trans (List.length_filter_le _ _) (by simp)
theorem dearer_calls (A0 : Option Addr) (c0 : Nat) (l : List S94) (n : Int) (w : World) (hr : Kd.C k94 w A0 l.length l) (hc : l.length ≤ c0) (hl : l.length < 1000000) :
    Calls Try.prog 46 #[.slice A0 l.length c0, .int .i64 n] w fun e w' => ∃ v : Value, e = .returned v ∧ Kd.R k94 94 w' w.heap.size (fun _ => True) v (dearS l n) ∧ Below w.heap.size w w' := by
  obtain ⟨k, hk⟩ := Ev.rounds (dearer_loop l n hl l.length 0 [] (by omega) (by simp))
  exact side_dearer.calls k A0 c0 l n _ w hr hc (by rw [List.drop_zero, List.nil_append] at hk; exact hk)
theorem clone_calls (A0 : Option Addr) (c0 : Nat) (l : List S94) (w : World) (hr : Kd.C k94 w A0 l.length l) (hc : l.length ≤ c0) (hl : l.length < 1000000) :
    Calls Try.prog 63 #[.slice A0 l.length c0] w fun e w' => ∃ v : Value, e = .returned v ∧ Kd.R k94 94 w' w.heap.size (fun _ => True) v l ∧ Below w.heap.size w w' :=
  Clone_spot.calls A0 c0 l l w hr hc (by unfold Clone_spot.f; rw [if_pos (by omega)])
theorem set3_cell {W : World} {h g i : Nat} {v0 v1 v2 u : Value} (hne : g ≠ h) (q : W.cell? ⟨g, i, none⟩ = some u) : (((W.setCell ⟨h, 0, none⟩ v0).setCell ⟨h, 1, none⟩ v1).setCell ⟨h, 2, none⟩ v2).cell? ⟨g, i, none⟩ = some u := by
  rw [cell_far (by simpa using hne), cell_far (by simpa using hne), cell_far (by simpa using hne)]; exact q
/-- A piece that is read: both its rows, what nothing costs. -/
structure PcC (w : World) (Af Ae : Option Addr) (cf ce : Nat) (f e : List S94) : Prop where
  rf : Kd.C k94 w Af f.length f
  re : Kd.C k94 w Ae e.length e
  hf : f.length ≤ cf
  he : e.length ≤ ce
  lf : f.length < 100000
  le : e.length < 100000
  wf : ∀ a ∈ f, (Lit.int .i64 a.f0).wf = true
  we : ∀ a ∈ e, (Lit.int .i64 a.f0).wf = true
theorem PcC.below {w W : World} {Af Ae : Option Addr} {cf ce : Nat} {f e : List S94} (h : PcC w Af Ae cf ce f e) (hb : Below w.heap.size w W) : PcC W Af Ae cf ce f e := ⟨Kd.C_below h.rf hb, Kd.C_below h.re hb, h.hf, h.he, h.lf, h.le, h.wf, h.we⟩
theorem PcC.grown {w W : World} {Af Ae : Option Addr} {cf ce : Nat} {f e : List S94} (h : PcC w Af Ae cf ce f e) {mp : Nat} {l : List S51} (hm : MapAt w mp l) (hg : w.grownBy W (some mp)) : PcC W Af Ae cf ce f e := ⟨C94_grown h.rf hm hg, C94_grown h.re hm hg, h.hf, h.he, h.lf, h.le, h.wf, h.we⟩
set_option maxRecDepth 100000 in
set_option maxHeartbeats 4000000 in
theorem both_calls (b mp : Nat) (l : List S51) (Af Ae Bf Be : Option Addr) (cf ce df de : Nat) (af ae bf be : List S94) (na nb : Int) (w : World) (hc : w.cell? ⟨b, 0, none⟩ = some (.map (some mp))) (hm : MapAt w mp l) (ha : PcC w Af Ae cf ce af ae) (hb : PcC w Bf Be df de bf be) (hn : l.length + ae.length * bf.length < 1000000000) :
    Calls Try.prog 42 #[.pointer (some ⟨b, 0, none⟩), .agg #[.slice Af af.length cf, .slice Ae ae.length ce, .int .i64 na], .agg #[.slice Bf bf.length df, .slice Be be.length de, .int .i64 nb]] w fun e w' => ∃ vf ve : Value, e = .returned (.agg #[vf, ve, .int .i64 (tadd na nb)]) ∧
      w.grownBy w' (some mp) ∧ MapAt w' mp (linkL l ae bf 0) ∧ Kd.R k94 94 w' w.heap.size (fun k => some k ≠ ve.ownBlock) vf (af ++ dearS bf na) ∧ Kd.R k94 94 w' w.heap.size (fun k => some k ≠ vf.ownBlock) ve (dearS ae nb ++ be) := by
  have hW1 := below_alloc (below_alloc (below_alloc (Below.refl w.heap.size w) (.cells #[.slice Af af.length cf, .slice Ae ae.length ce, .int .i64 na] 74)) (.cells #[.slice Bf bf.length df, .slice Be be.length de, .int .i64 nb] 74)) (.cells #[.slice none 0 0, .slice none 0 0, .int .i64 0] 74)
  obtain ⟨W1, hWW⟩ : ∃ W1, ((w.alloc (.cells #[.slice Af af.length cf, .slice Ae ae.length ce, .int .i64 na] 74)).alloc (.cells #[.slice Bf bf.length df, .slice Be be.length de, .int .i64 nb] 74)).alloc (.cells #[.slice none 0 0, .slice none 0 0, .int .i64 0] 74) = W1 := ⟨_, rfl⟩
  have pa : W1.heap[w.heap.size]? = some (.cells #[.slice Af af.length cf, .slice Ae ae.length ce, .int .i64 na] 74 (0, 0)) := by rw [← hWW]; exact blk_alloc (blk_alloc (heap_alloc_new w _) _) _
  have pb : W1.heap[w.heap.size + 1]? = some (.cells #[.slice Bf bf.length df, .slice Be be.length de, .int .i64 nb] 74 (0, 0)) := by
    have h := blk_alloc (heap_alloc_new (w.alloc (.cells #[.slice Af af.length cf, .slice Ae ae.length ce, .int .i64 na] 74)) (.cells #[.slice Bf bf.length df, .slice Be be.length de, .int .i64 nb] 74)) (.cells #[.slice none 0 0, .slice none 0 0, .int .i64 0] 74)
    rwa [hWW, show (w.alloc (.cells #[.slice Af af.length cf, .slice Ae ae.length ce, .int .i64 na] 74)).heap.size = w.heap.size + 1 from Array.size_push _] at h
  have pr : W1.heap[w.heap.size + 2]? = some (.cells #[.slice none 0 0, .slice none 0 0, .int .i64 0] 74 (0, 0)) := by
    have h := heap_alloc_new ((w.alloc (.cells #[.slice Af af.length cf, .slice Ae ae.length ce, .int .i64 na] 74)).alloc (.cells #[.slice Bf bf.length df, .slice Be be.length de, .int .i64 nb] 74)) (.cells #[.slice none 0 0, .slice none 0 0, .int .i64 0] 74)
    rwa [hWW, show ((w.alloc (.cells #[.slice Af af.length cf, .slice Ae ae.length ce, .int .i64 na] 74)).alloc (.cells #[.slice Bf bf.length df, .slice Be be.length de, .int .i64 nb] 74)).heap.size = w.heap.size + 2 from by simp] at h
  rw [hWW] at hW1
  have HW1 := Aside0.mk hW1
  have HC := Aside0.mk ((hW1.cell (World.block_lt_of_cell? w _ hc)).trans hc)
  have HM := Aside0.mk (hm.below hW1)
  have HA := Aside0.mk (ha.below hW1)
  have HB := Aside0.mk (hb.below hW1)
  have HN := Aside0.mk hn
  have PA := Aside0.mk pa
  have PB := Aside0.mk pb
  have PR := Aside0.mk pr
  have a1 := cellAt (i := 1) (u := .slice Ae ae.length ce) pa rfl
  have b0 := cellAt (i := 0) (u := .slice Bf bf.length df) pb rfl
  clear hW1 hc hm ha hb hn pa pb pr
  go_enter Try.func42, Try.ntmps42
  go_wp2_with (go_at_call 43; refine (link_calls b mp l Ae Bf ce df ae bf 0 _ HC.out HM.out HA.out.re HB.out.rf HA.out.we HB.out.wf HN.out (by have := HA.out.le; omega) (by have := HB.out.lf; omega)).mono ?_; rintro e w2 ⟨rfl, hg2, hm2⟩; have HG2 := Aside0.mk hg2; have HM2 := Aside0.mk hm2; clear hg2 hm2)
  have CN : ∀ {g : Nat} {cs : Array Value}, W1.heap[g]? = some (.cells cs 74 (0, 0)) → some g ≠ some mp := fun {g cs} h e => by
    injection e with e
    subst e
    obtain ⟨D, ⟨es, clock, hh, _⟩, _⟩ := HM.out
    rw [h] at hh; cases hh
  have PA2 := Aside0.mk (blk_grown PA.out HG2.out (CN PA.out))
  have PB2 := Aside0.mk (blk_grown PB.out HG2.out (CN PB.out))
  have PR2 := Aside0.mk (blk_grown PR.out HG2.out (CN PR.out))
  clear CN
  have HFA : Aside0 (∀ W', Below w2.heap.size w2 W' → PcC W' Af Ae cf ce af ae) := ⟨fun W' h => (HA.out.grown HM.out HG2.out).below h⟩
  have HFB : Aside0 (∀ W', Below w2.heap.size w2 W' → PcC W' Bf Be df de bf be) := ⟨fun W' h => (HB.out.grown HM.out HG2.out).below h⟩
  have HS : Aside0 (∀ w', Below w2.heap.size w2 w' → w'.cell? ⟨w.heap.size, 0, none⟩ = some (.slice Af af.length cf) ∧ w'.cell? ⟨w.heap.size, 1, none⟩ = some (.slice Ae ae.length ce) ∧ w'.cell? ⟨w.heap.size, 2, none⟩ = some (.int .i64 na) ∧ w'.cell? ⟨w.heap.size + 1, 0, none⟩ = some (.slice Bf bf.length df) ∧ w'.cell? ⟨w.heap.size + 1, 1, none⟩ = some (.slice Be be.length de) ∧ w'.cell? ⟨w.heap.size + 1, 2, none⟩ = some (.int .i64 nb)) := ⟨fun w' h => ⟨cellAt (blk_below PA2.out h) rfl, cellAt (blk_below PA2.out h) rfl, cellAt (blk_below PA2.out h) rfl, cellAt (blk_below PB2.out h) rfl, cellAt (blk_below PB2.out h) rfl, cellAt (blk_below PB2.out h) rfl⟩⟩
  have HQ : Aside0 (Below w2.heap.size w2 w2.drew) := ⟨below_drew (Below.refl _ _)⟩
  clear a1 b0
  have MK1 := True.intro
  have MK2 := True.intro
  go_region_held3 (fun w' => w'.cell? ⟨w.heap.size, 0, none⟩ = some (.slice Af af.length cf) ∧ w'.cell? ⟨w.heap.size, 1, none⟩ = some (.slice Ae ae.length ce) ∧ w'.cell? ⟨w.heap.size, 2, none⟩ = some (.int .i64 na) ∧ w'.cell? ⟨w.heap.size + 1, 0, none⟩ = some (.slice Bf bf.length df) ∧ w'.cell? ⟨w.heap.size + 1, 1, none⟩ = some (.slice Be be.length de) ∧ w'.cell? ⟨w.heap.size + 1, 2, none⟩ = some (.int .i64 nb)) (first | (with_reducible exact HS.out _ HQ.out) | (refine ⟨?_, ?_, ?_, ?_, ?_, ?_⟩ <;> (refine set3_cell (by omega) ?_; first | exact (HS.out _ HQ.out).1 | exact (HS.out _ HQ.out).2.1 | exact (HS.out _ HQ.out).2.2.1 | exact (HS.out _ HQ.out).2.2.2.1 | exact (HS.out _ HQ.out).2.2.2.2.1 | exact (HS.out _ HQ.out).2.2.2.2.2))) (first | (go_at_call 63; refine (clone_calls Af cf af _ (HFA.out _ HQ.out).rf (HFA.out _ HQ.out).hf (by have := (HFA.out _ HQ.out).lf; omega)).mono ?_; rintro e w3 ⟨v1, rfl, hr1, hb1⟩; have HV1 := Aside0.mk (Kd.R_lower hr1 HQ.out.size); have HQn := Aside0.mk (HQ.out.trans (hb1.mono HQ.out.size)); clear HQ hr1 hb1; have HQ := HQn; clear HQn) | (go_at_call 46; clear MK1; refine (dearer_calls Bf df bf na _ (HFB.out _ HQ.out).rf (HFB.out _ HQ.out).hf (by have := (HFB.out _ HQ.out).lf; omega)).mono ?_; rintro e w4 ⟨v2, rfl, hr2, hb2⟩; have HV2 := Aside0.mk hr2; have HV1n := Aside0.mk (Kd.R_below HV1.out hb2); have HQn := Aside0.mk (HQ.out.trans (hb2.mono HQ.out.size)); clear HQ HV1 hr2 hb2; have HQ := HQn; have HV1 := HV1n; clear HQn HV1n; obtain ⟨A2, c2, e2⟩ := Kd.R_slice HV2.out; subst e2) | (clear MK2; refine Kd.R_append_rows_step k94 (w0 := w2) w2.heap.size (by rfl) (.tmp 15) (.tmp 20) 72 94 (.agg #[(.int .i64 0), (.int .i64 0)]) 16 rfl Try.underlying72 info94 rfl (by decide) (by omega) _ af (dearS bf na) _ _ _ (fun _ => True) (fun _ => False) rfl rfl HV1.out (Kd.R_reads' HV2.out).2.2 (fun x cs h => by obtain rfl := k94_open h; exact k94_mkM _ _ _ x) (fun _ h => h.elim) (fun _ _ => trivial) HQ.out (Below.size HQ.out) (by have h1 := HFA.out _ (Below.refl _ _); have h2 := HFB.out _ (Below.refl _ _); have h3 := h1.lf; have h4 := h1.le; have h5 := h2.lf; have h6 := h2.le; have h7 := dearS_len bf na; have h8 := dearS_len ae nb; omega) ?_; intro u1 x1 ho1 hb1 hg1 hat1; obtain ⟨U1, d1, eu1⟩ := Kd.R_slice ho1; subst eu1; have HU1 := Aside0.mk ho1; have HQX := Aside0.mk hb1; have HQn := Aside0.mk hb1; clear HQ HV1 HV2 ho1 hb1 hg1 hat1; have HQ := HQn; clear HQn) | (go_at_call 46; refine (dearer_calls Ae ce ae nb _ (HFA.out _ HQ.out).re (HFA.out _ HQ.out).he (by have := (HFA.out _ HQ.out).le; omega)).mono ?_; rintro e w5 ⟨v3, rfl, hr3, hb3⟩; have HV3 := Aside0.mk hr3; have HQA := Aside0.mk hb3; have HQn := Aside0.mk (HQ.out.trans (hb3.mono HQ.out.size)); clear HQ hr3 hb3; have HQ := HQn; clear HQn) | (refine Kd.R_append_rows_step k94 (w0 := x1) x1.heap.size (by rfl) (.tmp 26) (.tmp 28) 72 94 (.agg #[(.int .i64 0), (.int .i64 0)]) 16 rfl Try.underlying72 info94 rfl (by decide) (by omega) _ (dearS ae nb) be _ _ _ (fun _ => True) (fun _ => False) rfl rfl HV3.out (HFB.out _ HQ.out).re (fun x cs h => by obtain rfl := k94_open h; exact k94_mkM _ _ _ x) (fun _ h => h.elim) (fun _ _ => trivial) HQA.out (Below.size HQA.out) (by have h1 := HFA.out _ (Below.refl _ _); have h2 := HFB.out _ (Below.refl _ _); have h3 := h1.lf; have h4 := h1.le; have h5 := h2.lf; have h6 := h2.le; have h7 := dearS_len bf na; have h8 := dearS_len ae nb; omega) ?_; intro u2 x2 ho2 hb2 hg2 hat2; obtain ⟨U2, d2, eu2⟩ := Kd.R_slice ho2; subst eu2; have HU2 := Aside0.mk ho2; have HQAn := Aside0.mk hb2; have HQn := Aside0.mk (HQX.out.trans (hb2.mono HQX.out.size)); clear HQ HQA HV3 ho2 hb2 hg2 hat2; have HQ := HQn; have HQA := HQAn; clear HQn HQAn) | (go_at_call 39; refine (trop_Add.calls _ _ (tadd _ _) _ rfl).mono ?_; rintro e w6 ⟨rfl, hb6⟩; have HU2n := Aside0.mk (Kd.R_below HU2.out hb6); have HQAn := Aside0.mk (HQA.out.trans (hb6.mono HQA.out.size)); have HQn := Aside0.mk (HQ.out.trans (hb6.mono HQ.out.size)); clear HQ HQA HU2 hb6; have HQ := HQn; have HQA := HQAn; have HU2 := HU2n; clear HQn HQAn HU2n; have k0 := cellAt (i := 0) (u := .slice none 0 0) (blk_below PR2.out HQ.out) rfl; have k1 := cellAt (i := 1) (u := .slice none 0 0) (blk_below PR2.out HQ.out) rfl; have k2 := cellAt (i := 2) (u := .int .i64 0) (blk_below PR2.out HQ.out) rfl; have n0 := blk_frozen (blk_below PR2.out HQ.out) 0; have n1 := blk_frozen (blk_below PR2.out HQ.out) 1; have n2 := blk_frozen (blk_below PR2.out HQ.out) 2))
  go_wp2
  have h6 : ∀ k, k ≠ w.heap.size + 1 + 1 → (((w6.setCell ⟨w.heap.size + 1 + 1, 0, none⟩ (.slice U1 (af.length + (dearS bf na).length) d1)).setCell ⟨w.heap.size + 1 + 1, 1, none⟩ (.slice U2 ((dearS ae nb).length + be.length) d2)).setCell ⟨w.heap.size + 1 + 1, 2, none⟩ (.int .i64 (tadd na nb))).heap[k]? = w6.heap[k]? := fun k hk => by
    rw [RowKit.Below.heap_setCell _ _ _ _ (by simpa using hk), RowKit.Below.heap_setCell _ _ _ _ (by simpa using hk), RowKit.Below.heap_setCell _ _ _ _ (by simpa using hk)]
  have hP7 := blk_put (blk_put (blk_put (blk_below PR2.out HQ.out) 0 (.slice U1 (af.length + (dearS bf na).length) d1) (cs' := #[.slice U1 (af.length + (dearS bf na).length) d1, .slice none 0 0, .int .i64 0]) rfl) 1 (.slice U2 ((dearS ae nb).length + be.length) d2) (cs' := #[.slice U1 (af.length + (dearS bf na).length) d1, .slice U2 ((dearS ae nb).length + be.length) d2, .int .i64 0]) rfl) 2 (.int .i64 (tadd na nb)) (cs' := #[.slice U1 (af.length + (dearS bf na).length) d1, .slice U2 ((dearS ae nb).length + be.length) d2, .int .i64 (tadd na nb)]) rfl
  have hs7 : (((w6.setCell ⟨w.heap.size + 1 + 1, 0, none⟩ (.slice U1 (af.length + (dearS bf na).length) d1)).setCell ⟨w.heap.size + 1 + 1, 1, none⟩ (.slice U2 ((dearS ae nb).length + be.length) d2)).setCell ⟨w.heap.size + 1 + 1, 2, none⟩ (.int .i64 (tadd na nb))).heap.size = w6.heap.size := by simp [World.setCell]
  have hg7 : w6.grownBy (((w6.setCell ⟨w.heap.size + 1 + 1, 0, none⟩ (.slice U1 (af.length + (dearS bf na).length) d1)).setCell ⟨w.heap.size + 1 + 1, 1, none⟩ (.slice U2 ((dearS ae nb).length + be.length) d2)).setCell ⟨w.heap.size + 1 + 1, 2, none⟩ (.int .i64 (tadd na nb))) (some (w.heap.size + 1 + 1)) := ⟨rfl, rfl, rfl, by rw [hs7]; exact Nat.le_refl _, fun k _ hk => h6 k (fun e => hk (by rw [e]))⟩
  generalize (((w6.setCell ⟨w.heap.size + 1 + 1, 0, none⟩ (.slice U1 (af.length + (dearS bf na).length) d1)).setCell ⟨w.heap.size + 1 + 1, 1, none⟩ (.slice U2 ((dearS ae nb).length + be.length) d2)).setCell ⟨w.heap.size + 1 + 1, 2, none⟩ (.int .i64 (tadd na nb))) = W7 at h6 hP7 hs7 hg7 ⊢
  refine bodyPost_ret (results_cell_row rfl _ _ (w.heap.size + 1 + 1) 74 #[.slice U1 (af.length + (dearS bf na).length) d1, .slice U2 ((dearS ae nb).length + be.length) d2, .int .i64 (tadd na nb)] (0, 0) _ (by rfl) hP7 Try.underlying74 rfl (by kernel_rfl)) rfl ?_
  have hlt := blk_lt PR.out
  have h12 := HG2.out.size
  have hu1 := fun k hk => spR_lt HU1.out k hk
  have hu2 := fun k hk => spR_lt HU2.out k hk
  have hx1 : w2.heap.size ≤ x1.heap.size := HQX.out.size
  have e1 : (Value.slice U1 (af ++ dearS bf na).length d1).ownBlock = (Value.slice U1 (af.length + (dearS bf na).length) d1).ownBlock := by rw [List.length_append]
  have e2 : (Value.slice U2 (dearS ae nb ++ be).length d2).ownBlock = (Value.slice U2 ((dearS ae nb).length + be.length) d2).ownBlock := by rw [List.length_append]
  rw [e1] at hu1
  rw [e2] at hu2
  have hmne : mp ≠ w.heap.size + 1 + 1 := by
    rintro rfl
    obtain ⟨D, ⟨es, clock, hh, _⟩, _⟩ := HM.out
    have := PR.out
    rw [show w.heap.size + 2 = w.heap.size + 1 + 1 from rfl, hh] at this; cases this
  have hmlt := HM2.out.lt
  refine ⟨_, _, rfl, ?_, HM2.out.of_heap ((h6 mp hmne).trans (HQ.out.block mp hmlt)), ?_, ?_⟩
  · have g1 := (below_grown HW1.out (some mp)).andThen HG2.out (fun j hj => .inr hj)
    have g2 := g1.andThen (below_grown HQ.out none) (fun j hj => by cases hj)
    exact g2.andThen hg7 (fun j hj => .inl (by injection hj with hj; omega))
  · have := spR_to (ok' := fun k => some k ≠ (Value.slice U2 ((dearS ae nb).length + be.length) d2).ownBlock) (w1 := W7) HU1.out (fun k hk => by rw [e1] at hk; obtain ⟨c1, c2⟩ := hu1 k hk; exact (h6 k (by omega)).trans (HQA.out.block k c2)) (fun k hk he => by rw [e1] at hk; obtain ⟨c1, c2⟩ := hu1 k hk; obtain ⟨c3, c4⟩ := hu2 k he.symm; omega)
    rw [List.length_append] at this
    exact Kd.R_lower this (by omega)
  · have := spR_to (ok' := fun k => some k ≠ (Value.slice U1 (af.length + (dearS bf na).length) d1).ownBlock) (w1 := W7) HU2.out (fun k hk => by rw [e2] at hk; obtain ⟨c1, c2⟩ := hu2 k hk; exact h6 k (by omega)) (fun k hk he => by rw [e2] at hk; obtain ⟨c1, c2⟩ := hu2 k hk; obtain ⟨c3, c4⟩ := hu1 k he.symm; omega)
    rw [List.length_append] at this
    exact Kd.R_lower this (by omega)
def lacks (l : List S74) : Nat → Nat → Int → Int
  | 0, _, t => t
  | n + 1, i, t => lacks l n (i + 1) (tadd t (l.getD (min i (l.length - 1)) z74).f2)
def betw (e : List S94) : List S74 → Int → List S51 → List S51
  | [], _, arcs => arcs
  | q :: r, t, arcs => betw e r (tadd t q.f2) (linkL arcs e q.f0 t)
def ofK (l : List S74) (low : Int) : List S74 → Nat → S74 → Int → List S51 → S74 × List S51
  | [], _, out, _, arcs => (out, arcs)
  | p :: r, k, out, skip, arcs => ofK l low r (k + 1) ⟨out.f0 ++ dearS p.f0 skip, out.f1 ++ dearS p.f1 (lacks l (low - (k + 1)).toNat (k + 1) 0), if (k : Int) < low then tadd skip p.f2 else out.f2⟩ (tadd skip p.f2) (betw p.f1 r 0 arcs)
structure OfAt (w W : World) (b mp T Rb : Nat) (arcs : List S51) (vf ve : Value) (out : S74) : Prop where
  tb : W.heap[T]? = some (.cells #[vf, ve, .int .i64 out.f2] 74 (0, 0))
  rb : W.heap[Rb]? = some (.cells #[.slice none 0 0, .slice none 0 0, .int .i64 0] 74 (0, 0))
  rf : Kd.R k94 94 W w.heap.size (fun k => some k ≠ ve.ownBlock) vf out.f0
  re : Kd.R k94 94 W w.heap.size (fun k => some k ≠ vf.ownBlock) ve out.f1
  ln : LnAt w W mp arcs
  tw : w.heap.size ≤ T
  rw_ : w.heap.size ≤ Rb
  tr : T ≠ Rb
theorem OfAt.below {w W W1 : World} {b mp T Rb : Nat} {arcs : List S51} {vf ve : Value} {out : S74} (h : OfAt w W b mp T Rb arcs vf ve out) (hb : Below W.heap.size W W1) : OfAt w W1 b mp T Rb arcs vf ve out := ⟨blk_below h.tb hb, blk_below h.rb hb, Kd.R_below h.rf hb, Kd.R_below h.re hb, h.ln.below hb, h.tw, h.rw_, h.tr⟩
theorem cells_ne_map {W : World} {g mp : Nat} {l : List S51} {cs : Array Value} {t : TypeId} {fz : Nat × Nat} (h : W.heap[g]? = some (.cells cs t fz)) (hm : MapAt W mp l) : g ≠ mp := by
  rintro rfl
  obtain ⟨D, ⟨es, clock, hh, _⟩, _⟩ := hm
  rw [h] at hh; cases hh
theorem spR_ne {base : Nat} {ok : Nat → Prop} {w : World} {v : Value} {l : List S94} (h : Kd.R k94 94 w base ok v l) {g : Nat} {cs : Array Value} {fz : Nat × Nat} (hg : w.heap[g]? = some (.cells cs 74 fz)) : some g ≠ v.ownBlock := by
  intro e
  obtain ⟨inner, ho⟩ := Kd.R_own h
  obtain ⟨cells, hc⟩ := own_typed ho g e.symm
  rw [hg] at hc; cases hc
theorem spR_ne_map {base : Nat} {ok : Nat → Prop} {w : World} {v : Value} {l : List S94} (h : Kd.R k94 94 w base ok v l) {mp : Nat} {ar : List S51} (hm : MapAt w mp ar) : ∀ k, v.ownBlock = some k → k ≠ mp := by
  rintro k e rfl
  obtain ⟨inner, ho⟩ := Kd.R_own h
  obtain ⟨cells, hc⟩ := own_typed ho k e
  exact cells_ne_map hc hm rfl
theorem OfAt.grown {w W W1 : World} {b mp T Rb : Nat} {arcs arcs1 : List S51} {vf ve : Value} {out : S74} (h : OfAt w W b mp T Rb arcs vf ve out) (hg : W.grownBy W1 (some mp)) (hm : MapAt W1 mp arcs1) : OfAt w W1 b mp T Rb arcs1 vf ve out where
  tb := blk_grown h.tb hg (fun e => cells_ne_map h.tb h.ln.map (by injection e))
  rb := blk_grown h.rb hg (fun e => cells_ne_map h.rb h.ln.map (by injection e))
  rf := spR_to h.rf (fun k hk => hg.block k (spR_lt h.rf k hk).2 (fun e => spR_ne_map h.rf h.ln.map k hk (by injection e))) h.rf.1
  re := spR_to h.re (fun k hk => hg.block k (spR_lt h.re k hk).2 (fun e => spR_ne_map h.re h.ln.map k hk (by injection e))) h.re.1
  ln := h.ln.grown hg hm
  tw := h.tw
  rw_ := h.rw_
  tr := h.tr
structure PsAt (l : List S74) : Prop where
  wf : ∀ p ∈ l, (∀ a ∈ p.f0, (Lit.int .i64 a.f0).wf = true) ∧ (∀ a ∈ p.f1, (Lit.int .i64 a.f0).wf = true) ∧ p.f0.length < 200 ∧ p.f1.length < 200
  len : l.length ≤ 12
theorem rd74_get (l : List S74) (i : Int) (h : i.toNat < l.length) : rd_T74 l i = l[i.toNat] := by
  unfold rd_T74; rw [List.getD_eq_getElem?_getD, List.getElem?_eq_getElem h]; rfl
structure OkK (arcs0 : List S51) (k : Nat) (out : S74) (arcs : List S51) : Prop where
  a : arcs.length ≤ 100000 + k * 480000
  f : out.f0.length ≤ k * 200
  e : out.f1.length ≤ k * 200
structure RdAt (w W : World) (b mp T Rb P : Nat) (arcs : List S51) (vf ve : Value) (out : S74) (pc : Array Value) : Prop where
  of : OfAt w W b mp T Rb arcs vf ve out
  pb : W.heap[P]? = some (.cells pc 74 (0, 0))
  pt : P ≠ T
  pw : w.heap.size ≤ P
theorem RdAt.below {w W W1 : World} {b mp T Rb P : Nat} {arcs : List S51} {vf ve : Value} {out : S74} {pc : Array Value} (h : RdAt w W b mp T Rb P arcs vf ve out pc) (hb : Below W.heap.size W W1) : RdAt w W1 b mp T Rb P arcs vf ve out pc := ⟨h.of.below hb, blk_below h.pb hb, h.pt, h.pw⟩
theorem RdAt.drew {w W : World} {b mp T Rb P : Nat} {arcs : List S51} {vf ve : Value} {out : S74} {pc : Array Value} (h : RdAt w W b mp T Rb P arcs vf ve out pc) : RdAt w W.drew b mp T Rb P arcs vf ve out pc := h.below (below_drew (Below.refl _ _))
theorem RdAt.grown {w W W1 : World} {b mp T Rb P : Nat} {arcs arcs1 : List S51} {vf ve : Value} {out : S74} {pc : Array Value} (h : RdAt w W b mp T Rb P arcs vf ve out pc) (hg : W.grownBy W1 (some mp)) (hm : MapAt W1 mp arcs1) : RdAt w W1 b mp T Rb P arcs1 vf ve out pc := ⟨h.of.grown hg hm, blk_grown h.pb hg (fun e => cells_ne_map h.pb h.of.ln.map (by injection e)), h.pt, h.pw⟩
/-- The row of firsts was appended to, and stored back. -/
theorem RdAt.put0 {w W W1 : World} {b mp T Rb P : Nat} {arcs : List S51} {vf ve u : Value} {out : S74} {pc : Array Value} {xs : List S94} (h : RdAt w W b mp T Rb P arcs vf ve out pc) (hr : Kd.R k94 94 W1 w.heap.size (fun k => some k ≠ ve.ownBlock) u xs) (hg : W.grownBy W1 vf.ownBlock) (hat : u.ownBlock = vf.ownBlock ∨ ∃ g, u.ownBlock = some g ∧ W.heap.size ≤ g) :
    RdAt w (W1.setCell ⟨T, 0, none⟩ u) b mp T Rb P arcs u ve ⟨xs, out.f1, out.f2⟩ pc := by
  have nT := spR_ne h.of.rf h.of.tb
  have nR := spR_ne h.of.rf h.of.rb
  have nP := spR_ne h.of.rf h.pb
  have hT := blk_grown h.of.tb hg nT
  have far : ∀ {g : Nat} {o : Obj}, W1.heap[g]? = some o → g ≠ T → (W1.setCell ⟨T, 0, none⟩ u).heap[g]? = some o := fun hh hne => blk_setFar hh (by simpa using hne) _
  have own : ∀ k, ve.ownBlock = some k → k < W.heap.size ∧ k ≠ T ∧ some k ≠ vf.ownBlock := fun k hk => ⟨(spR_lt h.of.re k hk).2, fun e => by have := spR_ne h.of.re h.of.tb; rw [← e, hk] at this; exact this rfl, h.of.re.1 k hk⟩
  have ownu : ∀ k, u.ownBlock = some k → k ≠ T := fun k hk e => by
    rcases hat with h1 | ⟨g, h1, h2⟩
    · rw [h1] at hk; rw [← e, ← hk] at nT; exact nT rfl
    · rw [h1] at hk; injection hk with hk
      have := blk_lt h.of.tb; omega
  have hmne := cells_ne_map h.of.tb h.of.ln.map
  have hvm := spR_ne_map h.of.rf h.of.ln.map
  refine ⟨⟨?_, far (blk_grown h.of.rb hg nR) (fun e => h.of.tr e.symm), ?_, ?_, ⟨?_, ?_⟩, h.of.tw, h.of.rw_, h.of.tr⟩, far (blk_grown h.pb hg nP) h.pt, h.pt, h.pw⟩
  · exact blk_put hT 0 u rfl
  · exact spR_to hr (fun k hk => RowKit.Below.heap_setCell _ _ _ _ (by simpa using ownu k hk)) hr.1
  · exact spR_to h.of.re (fun k hk => by obtain ⟨c1, c2, c3⟩ := own k hk; exact (RowKit.Below.heap_setCell _ _ _ _ (by simpa using c2)).trans (hg.block k c1 c3)) (fun k hk he => by
      obtain ⟨c1, c2, c3⟩ := own k hk
      rcases hat with h1 | ⟨g, h1, h2⟩
      · exact c3 (he.trans h1)
      · rw [h1] at he; injection he with he; omega)
  · have hg2 : W1.grownBy (W1.setCell ⟨T, 0, none⟩ u) (some T) := ⟨rfl, rfl, rfl, by simp [World.setCell], fun k _ hk => RowKit.Below.heap_setCell _ _ _ _ (by simpa using fun e => hk (by rw [e]))⟩
    exact (h.of.ln.gr.andThen hg (fun j hj => .inl (spR_lt h.of.rf j hj).1)).andThen hg2 (fun j hj => .inl (by injection hj with hj; rw [← hj]; exact h.of.tw))
  · exact h.of.ln.map.of_heap ((RowKit.Below.heap_setCell _ _ _ _ (by simpa using fun e => hmne e.symm)).trans (hg.block mp h.of.ln.map.lt (fun e => hvm mp e.symm rfl)))
/-- The row of ends was appended to, and stored back. -/
theorem RdAt.put1 {w W W1 : World} {b mp T Rb P : Nat} {arcs : List S51} {vf ve u : Value} {out : S74} {pc : Array Value} {xs : List S94} (h : RdAt w W b mp T Rb P arcs vf ve out pc) (hr : Kd.R k94 94 W1 w.heap.size (fun k => some k ≠ vf.ownBlock) u xs) (hg : W.grownBy W1 ve.ownBlock) (hat : u.ownBlock = ve.ownBlock ∨ ∃ g, u.ownBlock = some g ∧ W.heap.size ≤ g) :
    RdAt w (W1.setCell ⟨T, 1, none⟩ u) b mp T Rb P arcs vf u ⟨out.f0, xs, out.f2⟩ pc := by
  have nT := spR_ne h.of.re h.of.tb
  have nR := spR_ne h.of.re h.of.rb
  have nP := spR_ne h.of.re h.pb
  have hT := blk_grown h.of.tb hg nT
  have far : ∀ {g : Nat} {o : Obj}, W1.heap[g]? = some o → g ≠ T → (W1.setCell ⟨T, 1, none⟩ u).heap[g]? = some o := fun hh hne => blk_setFar hh (by simpa using hne) _
  have own : ∀ k, vf.ownBlock = some k → k < W.heap.size ∧ k ≠ T ∧ some k ≠ ve.ownBlock := fun k hk => ⟨(spR_lt h.of.rf k hk).2, fun e => by have := spR_ne h.of.rf h.of.tb; rw [← e, hk] at this; exact this rfl, h.of.rf.1 k hk⟩
  have ownu : ∀ k, u.ownBlock = some k → k ≠ T := fun k hk e => by
    rcases hat with h1 | ⟨g, h1, h2⟩
    · rw [h1] at hk; rw [← e, ← hk] at nT; exact nT rfl
    · rw [h1] at hk; injection hk with hk
      have := blk_lt h.of.tb; omega
  have hmne := cells_ne_map h.of.tb h.of.ln.map
  have hvm := spR_ne_map h.of.re h.of.ln.map
  refine ⟨⟨?_, far (blk_grown h.of.rb hg nR) (fun e => h.of.tr e.symm), ?_, ?_, ⟨?_, ?_⟩, h.of.tw, h.of.rw_, h.of.tr⟩, far (blk_grown h.pb hg nP) h.pt, h.pt, h.pw⟩
  · exact blk_put hT 1 u rfl
  · exact spR_to h.of.rf (fun k hk => by obtain ⟨c1, c2, c3⟩ := own k hk; exact (RowKit.Below.heap_setCell _ _ _ _ (by simpa using c2)).trans (hg.block k c1 c3)) (fun k hk he => by
      obtain ⟨c1, c2, c3⟩ := own k hk
      rcases hat with h1 | ⟨g, h1, h2⟩
      · exact c3 (he.trans h1)
      · rw [h1] at he; injection he with he; omega)
  · exact spR_to hr (fun k hk => RowKit.Below.heap_setCell _ _ _ _ (by simpa using ownu k hk)) hr.1
  · have hg2 : W1.grownBy (W1.setCell ⟨T, 1, none⟩ u) (some T) := ⟨rfl, rfl, rfl, by simp [World.setCell], fun k _ hk => RowKit.Below.heap_setCell _ _ _ _ (by simpa using fun e => hk (by rw [e]))⟩
    exact (h.of.ln.gr.andThen hg (fun j hj => .inl (spR_lt h.of.re j hj).1)).andThen hg2 (fun j hj => .inl (by injection hj with hj; rw [← hj]; exact h.of.tw))
  · exact h.of.ln.map.of_heap ((RowKit.Below.heap_setCell _ _ _ _ (by simpa using fun e => hmne e.symm)).trans (hg.block mp h.of.ln.map.lt (fun e => hvm mp e.symm rfl)))
theorem OfAt.put2 {w W : World} {b mp T Rb : Nat} {arcs : List S51} {vf ve : Value} {out : S74} (h : OfAt w W b mp T Rb arcs vf ve out) (n : Int) : OfAt w (W.setCell ⟨T, 2, none⟩ (.int .i64 n)) b mp T Rb arcs vf ve ⟨out.f0, out.f1, n⟩ := by
  have nf := spR_ne h.rf h.tb
  have ne := spR_ne h.re h.tb
  have hmne := cells_ne_map h.tb h.ln.map
  refine ⟨blk_put h.tb 2 _ rfl, blk_setFar h.rb (by simpa using fun e => h.tr e.symm) _, spR_to h.rf (fun k hk => RowKit.Below.heap_setCell _ _ _ _ (by simp only; intro e; rw [← e, ← hk] at nf; exact nf rfl)) h.rf.1, spR_to h.re (fun k hk => RowKit.Below.heap_setCell _ _ _ _ (by simp only; intro e; rw [← e, ← hk] at ne; exact ne rfl)) h.re.1, ⟨?_, ?_⟩, h.tw, h.rw_, h.tr⟩
  · have hg2 : W.grownBy (W.setCell ⟨T, 2, none⟩ (.int .i64 n)) (some T) := ⟨rfl, rfl, rfl, by simp [World.setCell], fun k _ hk => RowKit.Below.heap_setCell _ _ _ _ (by simpa using fun e => hk (by rw [e]))⟩
    exact h.ln.gr.andThen hg2 (fun j hj => .inl (by injection hj with hj; rw [← hj]; exact h.tw))
  · exact h.ln.map.of_heap (RowKit.Below.heap_setCell _ _ _ _ (by simpa using fun e => hmne e.symm))
set_option maxRecDepth 100000 in
set_option maxHeartbeats 4000000 in
theorem often_calls (b mp : Nat) (arcs : List S51) (Al : Option Addr) (cl : Nat) (l : List S74) (low : Int) (w : World) (hc : w.cell? ⟨b, 0, none⟩ = some (.map (some mp))) (hm : MapAt w mp arcs) (hl : Kd.C k74 w Al l.length l) (hcl : l.length ≤ cl) (hp : PsAt l) (hlow : low ≤ l.length) (hn : arcs.length < 100000) :
    Calls Try.prog 44 #[.pointer (some ⟨b, 0, none⟩), .slice Al l.length cl, .int .i64 low] w fun e w' => ∃ vf ve : Value, e = .returned (.agg #[vf, ve, .int .i64 (ofK l low l 0 z74 0 arcs).1.f2]) ∧
      w.grownBy w' (some mp) ∧ MapAt w' mp (ofK l low l 0 z74 0 arcs).2 ∧ Kd.R k94 94 w' w.heap.size (fun k => some k ≠ ve.ownBlock) vf (ofK l low l 0 z74 0 arcs).1.f0 ∧ Kd.R k94 94 w' w.heap.size (fun k => some k ≠ vf.ownBlock) ve (ofK l low l 0 z74 0 arcs).1.f1 := by
  have HC := Aside0.mk hc
  have HM := Aside0.mk hm
  have HL := Aside0.mk (And.intro hl hcl)
  have HP := Aside0.mk hp
  have HN := Aside0.mk (And.intro hlow hn)
  clear hc hm hl hcl hp hlow hn
  obtain ⟨RES, hRES⟩ : ∃ RES, ofK l low l 0 z74 0 arcs = RES := ⟨_, rfl⟩
  have HRES := Aside0.mk hRES
  rw [hRES]
  clear hRES
  go_enter Try.func44, Try.ntmps44
  go_wp2
  have HO0 : Aside0 (OfAt w ((w.alloc (.cells #[.slice none 0 0, .slice none 0 0, .int .i64 0] 74)).alloc (.cells #[.slice none 0 0, .slice none 0 0, .int .i64 0] 74)) b mp (w.heap.size + 1) w.heap.size arcs (.slice none 0 0) (.slice none 0 0) z74) := ⟨by
    have hb := below_alloc (below_alloc (Below.refl w.heap.size w) (.cells #[.slice none 0 0, .slice none 0 0, .int .i64 0] 74)) (.cells #[.slice none 0 0, .slice none 0 0, .int .i64 0] 74)
    have h := heap_alloc_new (w.alloc (.cells #[.slice none 0 0, .slice none 0 0, .int .i64 0] 74)) (.cells #[.slice none 0 0, .slice none 0 0, .int .i64 0] 74)
    rw [show (w.alloc (.cells #[.slice none 0 0, .slice none 0 0, .int .i64 0] 74)).heap.size = w.heap.size + 1 from Array.size_push _] at h
    exact ⟨h, blk_alloc (heap_alloc_new w _) _, Kd.R_nil _ _ _ _ _, Kd.R_nil _ _ _ _ _, ⟨below_grown hb _, HM.out.below hb⟩, by omega, Nat.le_refl _, by omega⟩⟩
  have HK0 : Aside0 (OkK arcs 0 z74 arcs) := ⟨⟨by have := HN.out.2; omega, Nat.le_refl _, Nat.le_refl _⟩⟩
  generalize (w.alloc (.cells #[.slice none 0 0, .slice none 0 0, .int .i64 0] 74)).alloc (.cells #[.slice none 0 0, .slice none 0 0, .int .i64 0] 74) = W1 at HO0
  go_loopw [8, 19] (fun v8 v19 W => ∃ (k : Nat) (out : S74) (skip : Int) (ar : List S51) (vf ve : Value), v19 = .int .i64 (k : Int) ∧ v8 = .int .i64 skip ∧ Aside0 (k ≤ l.length) ∧ Aside0 (ofK l low (l.drop k) k out skip ar = RES) ∧ Aside0 (OfAt w W b mp (w.heap.size + 1) w.heap.size ar vf ve out) ∧ Aside0 (OkK arcs k out ar)) (fun _ i _ => ((l.length : Int) - intOf i).toNat)
  case atStart => exact ⟨0, z74, 0, arcs, _, _, rfl, rfl, ⟨Nat.zero_le _⟩, HRES, HO0, HK0⟩
  case round =>
    clear HO0 HK0 HRES
    obtain ⟨k, out, skip, ar, vf, ve, rfl, rfl, HK, HF, HO, HOK⟩ := hrel
    by_cases hlt : k < l.length
    · have hlen := HP.out.len
      obtain ⟨ad, A0, d0, A1, d1, e1, hx0, hx1, hx2, hl0, hb0, hl1, hb1⟩ := at_T74 HL.out.1 (k : Int) (by omega) (by omega)
      subst e1
      replace hx0 := cell_grown_map HM.out HO.out.ln.gr hx0
      replace hx1 := cell_grown_map HM.out HO.out.ln.gr hx1
      replace hx2 := cell_grown_map HM.out HO.out.ln.gr hx2
      have hg0 := C94_grown hb0 HM.out HO.out.ln.gr
      have hg1 := C94_grown hb1 HM.out HO.out.ln.gr
      have hF := HF.out
      rw [List.drop_eq_getElem_cons hlt] at hF
      simp only [ofK] at hF
      have hrd : rd_T74 l (k : Int) = l[k] := rd74_get l (k : Int) (by simpa using hlt)
      rw [hrd] at hx0 hx1 hx2 hl0 hg0 hl1 hg1 hb0 hb1
      rw [Int.toNat_natCast] at hx0 hx1 hx2
      have hpm := HP.out.wf l[k] (List.getElem_mem hlt)
      generalize l[k] = p at hF hx0 hx1 hx2 hl0 hg0 hl1 hg1 hb0 hb1 hpm
      have HBB := Aside0.mk (And.intro hb0 hb1)
      clear hb0 hb1
      have HF2 := Aside0.mk hF
      have HG0 := Aside0.mk (And.intro hl0 hg0)
      have HG1 := Aside0.mk (And.intro hl1 hg1)
      have HPM := Aside0.mk hpm
      have PQ := Aside0.mk hlt
      have hw2 : wrap64 ((k : Int) + 1) = ((k + 1 : Nat) : Int) := by unfold wrap64; omega
      have HW := Aside0.mk hw2
      have c1b : decide ((k : Int) < (l.length : Int)) = true := decide_eq_true (by omega)
      have h0 : (0 ≤ (k : Int)) = True := eq_true (by omega)
      have h3 : ((k : Int) < (l.length : Int)) = True := eq_true (by omega)
      clear hF hl0 hg0 hl1 hg1 hpm hlt HF HK hrd hw2 hlen
      obtain ⟨Vf, vc, evf⟩ := Kd.R_slice HO.out.rf
      subst evf
      obtain ⟨Ve, wc, eve⟩ := Kd.R_slice HO.out.re
      subst eve
      go_wp2
      have HR0 : Aside0 (RdAt w (wr.alloc (.cells #[.slice A0 p.f0.length d0, .slice A1 p.f1.length d1, .int .i64 p.f2] 74)) b mp (w.heap.size + 1) w.heap.size wr.heap.size ar (.slice Vf out.f0.length vc) (.slice Ve out.f1.length wc) out #[.slice A0 p.f0.length d0, .slice A1 p.f1.length d1, .int .i64 p.f2]) := ⟨by
        have hb := below_alloc (Below.refl wr.heap.size wr) (.cells #[.slice A0 p.f0.length d0, .slice A1 p.f1.length d1, .int .i64 p.f2] 74)
        have := blk_lt HO.out.tb
        have := HO.out.ln.gr.size
        exact ⟨HO.out.below hb, heap_alloc_new wr _, by omega, by omega⟩⟩
      have HGC : Aside0 (∀ W, w.grownBy W (some mp) → Kd.C k94 W A0 p.f0.length p.f0 ∧ Kd.C k94 W A1 p.f1.length p.f1) := ⟨fun W hW => ⟨C94_grown HBB.out.1 HM.out hW, C94_grown HBB.out.2 HM.out hW⟩⟩
      clear HO hx0 hx1 hx2
      generalize wr.heap.size = P at HR0
      refine gen_wp (fun W' => RdAt w W' b mp (w.heap.size + 1) w.heap.size P ar (.slice Vf out.f0.length vc) (.slice Ve out.f1.length wc) out #[.slice A0 p.f0.length d0, .slice A1 p.f1.length d1, .int .i64 p.f2]) HR0.out (fun W1 hW1 => ?_)
      have HR := Aside0.mk hW1.drew
      have p0 := cellAt (i := 0) (u := .slice A0 p.f0.length d0) hW1.pb rfl
      have t0 := cellAt (i := 0) (u := .slice Vf out.f0.length vc) hW1.drew.of.tb rfl
      clear hW1 HR0
      refine start_ (n := 9) (S := fun w' => w'.cell? ⟨P, 0, none⟩ = some (.slice A0 p.f0.length d0) ∧ w'.cell? ⟨w.heap.size + 1, 0, none⟩ = some (.slice Vf out.f0.length vc)) (ds := [8]) #[false, false, false, false, false, false, false, false, false] (by kernel_rfl) rfl rfl ⟨cellAt HR.out.pb rfl, cellAt HR.out.of.tb rfl⟩ (fun hHeld => ?_)
      refine pure_ (i := 0) (N := some 24) (v := ?_) (a' := ?_) #[true, false, false, false, false, false, false, false, false] rfl rfl (by kernel_rfl) (fun _ _ _ h => h) (Or.inl ⟨by rfl, ?_⟩) ?_ ?_
      rotate_left
      · intro w'
        go_simp
        with_reducible rfl
      rotate_left
      · simp only [Act.put, List.setIfInBounds_toArray, List.set_cons_zero, List.set_cons_succ, i64_w, i32_w]
        rfl
      refine take_ (i := 1) (N := some 25) (v := ?_) (a' := ?_) #[true, true, false, false, false, false, false, false, false] rfl rfl (by kernel_rfl) (fun _ _ _ h => h) (Or.inl ⟨by rfl, ?_⟩) hHeld ?_ ?_
      rotate_left
      · rintro w' ⟨s0, s1⟩
        go_simp
        with_reducible rfl
      rotate_left
      · simp only [Act.put, List.setIfInBounds_toArray, List.set_cons_zero, List.set_cons_succ, i64_w, i32_w]
        rfl
      refine pure_ (i := 2) (N := some 26) (v := ?_) (a' := ?_) #[true, true, true, false, false, false, false, false, false] rfl rfl (by kernel_rfl) (fun _ _ _ h => h) (Or.inl ⟨by rfl, ?_⟩) ?_ ?_
      rotate_left
      · intro w'
        go_simp
        with_reducible rfl
      rotate_left
      · simp only [Act.put, List.setIfInBounds_toArray, List.set_cons_zero, List.set_cons_succ, i64_w, i32_w]
        rfl
      refine take_ (i := 3) (N := some 27) (v := ?_) (a' := ?_) #[true, true, true, true, false, false, false, false, false] rfl rfl (by kernel_rfl) (fun _ _ _ h => h) (Or.inl ⟨by rfl, ?_⟩) hHeld ?_ ?_
      rotate_left
      · rintro w' ⟨s0, s1⟩
        go_simp
        with_reducible rfl
      rotate_left
      · simp only [Act.put, List.setIfInBounds_toArray, List.set_cons_zero, List.set_cons_succ, i64_w, i32_w]
        rfl
      refine pure_ (i := 4) (N := some 28) (v := ?_) (a' := ?_) #[true, true, true, true, true, false, false, false, false] rfl rfl (by kernel_rfl) (fun _ _ _ h => h) (Or.inl ⟨by rfl, ?_⟩) ?_ ?_
      rotate_left
      · intro w'
        go_simp
        with_reducible rfl
      rotate_left
      · simp only [Act.put, List.setIfInBounds_toArray, List.set_cons_zero, List.set_cons_succ, i64_w, i32_w]
        rfl
      refine one_ (i := 5) (N := some 29) #[true, true, true, true, true, true, false, false, false] rfl rfl (by kernel_rfl) (by decide) (fun K hK => ?_)
      refine goes_ Try.func46 (by kernel_rfl) rfl #[.slice A0 p.f0.length d0, .int .i64 skip] (by rfl) rfl rfl (by (try simp only [List.map_toArray, List.map_cons, List.map_nil]); first | done | rfl) ?_
      refine (dearer_calls A0 d0 p.f0 skip _ (HGC.out _ HR.out.of.ln.gr).1 HG0.out.1 (by have := HPM.out.2.2; omega)).mono ?_
      rintro e w2 ⟨v2, rfl, hr2, hb2⟩
      obtain ⟨A2, c2, e2⟩ := Kd.R_slice hr2
      subst e2
      have HV2 := Aside0.mk hr2
      have HRn := Aside0.mk (HR.out.below hb2)
      clear HR hr2 hb2
      have HR := HRn
      clear HRn
      refine ⟨_, rfl, ?_⟩
      refine hK.out _ _ ⟨cellAt HR.out.pb rfl, cellAt HR.out.of.tb rfl⟩ (fun hHeld => ?_)
      clear hK K
      refine norm_ (a' := ?_) ?_ ?_
      rotate_left
      · show Act.put _ (some 29) _ = _
        simp only [Act.put, List.setIfInBounds_toArray, List.set_cons_zero, List.set_cons_succ, i64_w, i32_w]
        rfl
      refine one_ (i := 6) (N := some 30) #[true, true, true, true, true, true, true, false, false] rfl rfl (by kernel_rfl) (by decide) (fun K hK => ?_)
      refine Kd.R_append_rows_step k94 (w0 := w2) w.heap.size (by rfl) (.tmp 25) (.tmp 29) 72 94 (.agg #[(.int .i64 0), (.int .i64 0)]) 16 rfl Try.underlying72 info94 rfl (by decide) (by omega) _ out.f0 (dearS p.f0 skip) _ _ _ (fun k => some k ≠ (Value.slice Ve out.f1.length wc).ownBlock) (fun _ => False) rfl rfl HR.out.of.rf (Kd.R_reads' HV2.out).2.2 (fun x cs h => by obtain rfl := k94_open h; exact k94_mkM _ _ _ x) (fun _ h => h.elim) (fun k hk e => by have := (spR_lt HR.out.of.re k e.symm).2; omega) (Below.refl _ _) HR.out.of.ln.gr.size (by have h1 := HPM.out.2.2.1; have h2 := dearS_len p.f0 skip; have h3 := HOK.out.f; have h4 := PQ.out; have h5 := HP.out.len; omega) ?_
      intro u1 x1 ho1 hb1 hg1 hat1
      obtain ⟨F0, hF0⟩ : ∃ F0, out.f0 ++ dearS p.f0 skip = F0 := ⟨_, rfl⟩
      rw [hF0] at ho1
      have HF0 := Aside0.mk hF0
      clear hF0
      obtain ⟨U1, uc, eu1⟩ := Kd.R_slice ho1
      subst eu1
      have HRP := Aside0.mk (HR.out.put0 ho1 hg1 hat1)
      have q0 := cellAt (i := 0) (u := .slice A0 p.f0.length d0) (blk_grown HR.out.pb hg1 (spR_ne HR.out.of.rf HR.out.pb)) rfl
      have r0 := cellAt (i := 0) (u := .slice Vf out.f0.length vc) (blk_grown HR.out.of.tb hg1 (spR_ne HR.out.of.rf HR.out.of.tb)) rfl
      have r1 := blk_frozen (blk_grown HR.out.of.tb hg1 (spR_ne HR.out.of.rf HR.out.of.tb)) 0
      clear ho1 hb1 hg1 hat1
      refine hK.out _ _ ⟨q0, r0⟩ (fun hHeld => ?_)
      clear hK K
      refine norm_ (a' := ?_) ?_ ?_
      rotate_left
      · show Act.put _ (some 30) _ = _
        simp only [Act.put, List.setIfInBounds_toArray, List.set_cons_zero, List.set_cons_succ, i64_w, i32_w]
        rfl
      refine pure_ (i := 7) (N := some 31) (v := ?_) (a' := ?_) #[true, true, true, true, true, true, true, true, false] rfl rfl (by kernel_rfl) (fun _ _ _ h => h) (Or.inl ⟨by rfl, ?_⟩) ?_ ?_
      rotate_left
      · intro w'
        go_simp
        with_reducible rfl
      rotate_left
      · simp only [Act.put, List.setIfInBounds_toArray, List.set_cons_zero, List.set_cons_succ, i64_w, i32_w]
        rfl
      refine last_ (i := 8) (N := none) #[true, true, true, true, true, true, true, true, true] rfl rfl (by kernel_rfl) (by decide) (fun K hK => ?_)
      refine skip_ (w1 := ?_) (by rfl) rfl ?_ ?_
      rotate_left
      · go_simp
        rfl
      refine hK.out _ _ ?_
      clear hK K
      refine done_ (by kernel_rfl) ?_
      go_wp2
      refine gen_wp (fun W' => RdAt w W' b mp (w.heap.size + 1) w.heap.size P ar (.slice U1 F0.length uc) (.slice Ve out.f1.length wc) ⟨F0, out.f1, out.f2⟩ #[.slice A0 p.f0.length d0, .slice A1 p.f1.length d1, .int .i64 p.f2]) HRP.out (fun W2 hW2 => ?_)
      have HR2 := Aside0.mk hW2
      clear hW2 HRP HV2 HR q0 r0 r1 hHeld p0 t0
      obtain ⟨LK, hLK⟩ : ∃ LK, lacks l (low - ((k : Int) + 1)).toNat (k + 1) 0 = LK := ⟨_, rfl⟩
      have HLK := Aside0.mk hLK
      have HLK0 := Aside0.mk hLK
      clear hLK
      go_loopw [11, 12] (fun v11 v12 W => ∃ (i : Nat) (t : Int), v11 = .int .i64 t ∧ v12 = .int .i64 (i : Int) ∧ Aside0 (k + 1 ≤ i ∧ i ≤ 100000) ∧ Aside0 (lacks l (low - (i : Int)).toNat i t = LK) ∧ Aside0 (RdAt w W b mp (w.heap.size + 1) w.heap.size P ar (.slice U1 F0.length uc) (.slice Ve out.f1.length wc) ⟨F0, out.f1, out.f2⟩ #[.slice A0 p.f0.length d0, .slice A1 p.f1.length d1, .int .i64 p.f2])) (fun _ i _ => (low - intOf i).toNat)
      case atStart => exact ⟨k + 1, 0, rfl, by rw [HW.out], ⟨Nat.le_refl _, by have := PQ.out; have := HP.out.len; omega⟩, ⟨by rw [← HLK.out]; rfl⟩, HR2⟩
      case round =>
        clear HR2 HLK
        obtain ⟨i, t, rfl, rfl, HI, HLK, HR⟩ := hrel
        by_cases hlt : (i : Int) < low
        · have c2b : decide ((i : Int) < low) = true := decide_eq_true hlt
          have hm2 : i < l.length := by have := HN.out.1; omega
          obtain ⟨ad2, B0, e0, B1, e1, ee, hy0, hy1, hy2, _, _, _, _⟩ := at_T74 (C74_grown HL.out.1 HM.out HR.out.of.ln.gr) (i : Int) (by omega) (by omega)
          injection ee with ee
          subst ee
          rw [show rd_T74 l (i : Int) = l.getD i z74 from rfl, Int.toNat_natCast] at hy2
          have HLT := Aside0.mk hlt
          clear hlt hy0 hy1
          obtain ⟨n1, hn1⟩ : ∃ n1 : Int, (l.length : Int) - 1 = n1 := ⟨_, rfl⟩
          have hww : IntKind.i64.wrap ((l.length : Int) - 1) = n1 := by rw [show IntKind.i64.wrap ((l.length : Int) - 1) = wrap64 ((l.length : Int) - 1) from by first | exact i64_w _ | exact (i64_w _).symm]; have := HP.out.len; unfold wrap64; omega
          have hmn : ¬ n1 < (i : Int) := by omega
          have hmn2 : (i : Int) ≤ n1 := by omega
          have b1 : (0 ≤ (i : Int)) = True := eq_true (by omega)
          have b2 : ((i : Int) < (l.length : Int)) = True := eq_true (by omega)
          have HMI := Aside0.mk hm2
          clear hn1 hm2
          go_wp2_with (go_at_call 39; refine (trop_Add.calls _ _ (tadd t (l.getD i z74).f2) _ rfl).mono ?_; rintro e w3 ⟨rfl, hb3⟩; have HRn := Aside0.mk (HR.out.below hb3); clear HR hb3; have HR := HRn; clear HRn)
          go_roundw
          case rel => exact ⟨i + 1, tadd t (l.getD i z74).f2, rfl, by have h : wrap64 ((i : Int) + 1) = ((i + 1 : Nat) : Int) := (by have := HMI.out; have := HP.out.len; unfold wrap64; omega); rw [h], ⟨by have := HI.out; have := HMI.out; have := HP.out.len; omega⟩, ⟨by have h := HLK.out; rw [show (low - (i : Int)).toNat = (low - ((i + 1 : Nat) : Int)).toNat + 1 from by have := HLT.out; omega] at h; have h2 : lacks l ((low - ((i + 1 : Nat) : Int)).toNat + 1) i t = lacks l (low - ((i + 1 : Nat) : Int)).toNat (i + 1) (tadd t (l.getD (min i (l.length - 1)) z74).f2) := rfl; rw [h2, show min i (l.length - 1) = i from by have := HMI.out; omega] at h; exact h⟩, HR⟩
          case measure => have := HLT.out; have h : wrap64 ((i : Int) + 1) = ((i + 1 : Nat) : Int) := (by have := HMI.out; have := HP.out.len; unfold wrap64; omega); rw [h]; simp only [intOf]; omega
        · have c2b : decide ((i : Int) < low) = false := decide_eq_false hlt
          have HT := Aside0.mk (show t = LK from by have := HLK.out; rw [show (low - (i : Int)).toNat = 0 from by omega] at this; exact this)
          clear hlt HLK
          have htt := HT.out
          subst htt
          clear HT
          go_wp2
          refine gen_wp (fun W' => RdAt w W' b mp (w.heap.size + 1) w.heap.size P ar (.slice U1 F0.length uc) (.slice Ve out.f1.length wc) ⟨F0, out.f1, out.f2⟩ #[.slice A0 p.f0.length d0, .slice A1 p.f1.length d1, .int .i64 p.f2]) HR.out (fun W3 hW3 => ?_)
          have HR := Aside0.mk hW3.drew
          clear hW3
          refine start_ (n := 9) (S := fun w' => w'.cell? ⟨P, 1, none⟩ = some (.slice A1 p.f1.length d1) ∧ w'.cell? ⟨w.heap.size + 1, 1, none⟩ = some (.slice Ve out.f1.length wc)) (ds := [8]) #[false, false, false, false, false, false, false, false, false] (by kernel_rfl) rfl rfl ⟨cellAt HR.out.pb rfl, cellAt HR.out.of.tb rfl⟩ (fun hHeld => ?_)
          refine pure_ (i := 0) (N := some 50) (v := ?_) (a' := ?_) #[true, false, false, false, false, false, false, false, false] rfl rfl (by kernel_rfl) (fun _ _ _ h => h) (Or.inl ⟨by rfl, ?_⟩) ?_ ?_
          rotate_left
          · intro w'
            go_simp
            with_reducible rfl
          rotate_left
          · simp only [Act.put, List.setIfInBounds_toArray, List.set_cons_zero, List.set_cons_succ, i64_w, i32_w]
            rfl
          refine take_ (i := 1) (N := some 51) (v := ?_) (a' := ?_) #[true, true, false, false, false, false, false, false, false] rfl rfl (by kernel_rfl) (fun _ _ _ h => h) (Or.inl ⟨by rfl, ?_⟩) hHeld ?_ ?_
          rotate_left
          · rintro w' ⟨s0, s1⟩
            go_simp
            with_reducible rfl
          rotate_left
          · simp only [Act.put, List.setIfInBounds_toArray, List.set_cons_zero, List.set_cons_succ, i64_w, i32_w]
            rfl
          refine pure_ (i := 2) (N := some 52) (v := ?_) (a' := ?_) #[true, true, true, false, false, false, false, false, false] rfl rfl (by kernel_rfl) (fun _ _ _ h => h) (Or.inl ⟨by rfl, ?_⟩) ?_ ?_
          rotate_left
          · intro w'
            go_simp
            with_reducible rfl
          rotate_left
          · simp only [Act.put, List.setIfInBounds_toArray, List.set_cons_zero, List.set_cons_succ, i64_w, i32_w]
            rfl
          refine take_ (i := 3) (N := some 53) (v := ?_) (a' := ?_) #[true, true, true, true, false, false, false, false, false] rfl rfl (by kernel_rfl) (fun _ _ _ h => h) (Or.inl ⟨by rfl, ?_⟩) hHeld ?_ ?_
          rotate_left
          · rintro w' ⟨s0, s1⟩
            go_simp
            with_reducible rfl
          rotate_left
          · simp only [Act.put, List.setIfInBounds_toArray, List.set_cons_zero, List.set_cons_succ, i64_w, i32_w]
            rfl
          refine pure_ (i := 4) (N := some 54) (v := ?_) (a' := ?_) #[true, true, true, true, true, false, false, false, false] rfl rfl (by kernel_rfl) (fun _ _ _ h => h) (Or.inl ⟨by rfl, ?_⟩) ?_ ?_
          rotate_left
          · intro w'
            go_simp
            with_reducible rfl
          rotate_left
          · simp only [Act.put, List.setIfInBounds_toArray, List.set_cons_zero, List.set_cons_succ, i64_w, i32_w]
            rfl
          refine one_ (i := 5) (N := some 55) #[true, true, true, true, true, true, false, false, false] rfl rfl (by kernel_rfl) (by decide) (fun K hK => ?_)
          refine goes_ Try.func46 (by kernel_rfl) rfl #[.slice A1 p.f1.length d1, .int .i64 t] (by rfl) rfl rfl (by (try simp only [List.map_toArray, List.map_cons, List.map_nil]); first | done | rfl) ?_
          refine (dearer_calls A1 d1 p.f1 t _ (HGC.out _ HR.out.of.ln.gr).2 HG1.out.1 (by have := HPM.out.2.2; omega)).mono ?_
          rintro e w4 ⟨v4, rfl, hr4, hb4⟩
          obtain ⟨A4, c4, e4⟩ := Kd.R_slice hr4
          subst e4
          have HV4 := Aside0.mk hr4
          have HRn := Aside0.mk (HR.out.below hb4)
          clear HR hr4 hb4
          have HR := HRn
          clear HRn
          refine ⟨_, rfl, ?_⟩
          refine hK.out _ _ ⟨cellAt HR.out.pb rfl, cellAt HR.out.of.tb rfl⟩ (fun hHeld => ?_)
          clear hK K
          refine norm_ (a' := ?_) ?_ ?_
          rotate_left
          · show Act.put _ (some 55) _ = _
            simp only [Act.put, List.setIfInBounds_toArray, List.set_cons_zero, List.set_cons_succ, i64_w, i32_w]
            rfl
          refine one_ (i := 6) (N := some 56) #[true, true, true, true, true, true, true, false, false] rfl rfl (by kernel_rfl) (by decide) (fun K hK => ?_)
          refine Kd.R_append_rows_step k94 (w0 := w4) w.heap.size (by rfl) (.tmp 51) (.tmp 55) 72 94 (.agg #[(.int .i64 0), (.int .i64 0)]) 16 rfl Try.underlying72 info94 rfl (by decide) (by omega) _ out.f1 (dearS p.f1 t) _ _ _ (fun k => some k ≠ (Value.slice U1 F0.length uc).ownBlock) (fun _ => False) rfl rfl HR.out.of.re (Kd.R_reads' HV4.out).2.2 (fun x cs h => by obtain rfl := k94_open h; exact k94_mkM _ _ _ x) (fun _ h => h.elim) (fun k hk e => by have := (spR_lt HR.out.of.rf k e.symm).2; omega) (Below.refl _ _) HR.out.of.ln.gr.size (by have h1 := HPM.out.2.2.2; have h2 := dearS_len p.f1 t; have h3 := HOK.out.e; have h4 := PQ.out; have h5 := HP.out.len; omega) ?_
          intro u5 x5 ho5 hb5 hg5 hat5
          obtain ⟨E0, hE0⟩ : ∃ E0, out.f1 ++ dearS p.f1 t = E0 := ⟨_, rfl⟩
          rw [hE0] at ho5
          have HE0 := Aside0.mk hE0
          clear hE0
          obtain ⟨U5, uc5, eu5⟩ := Kd.R_slice ho5
          subst eu5
          have HRP := Aside0.mk (HR.out.put1 ho5 hg5 hat5)
          have q0 := cellAt (i := 1) (u := .slice A1 p.f1.length d1) (blk_grown HR.out.pb hg5 (spR_ne HR.out.of.re HR.out.pb)) rfl
          have r0 := cellAt (i := 1) (u := .slice Ve out.f1.length wc) (blk_grown HR.out.of.tb hg5 (spR_ne HR.out.of.re HR.out.of.tb)) rfl
          have r1 := blk_frozen (blk_grown HR.out.of.tb hg5 (spR_ne HR.out.of.re HR.out.of.tb)) 1
          clear ho5 hb5 hg5 hat5
          refine hK.out _ _ ⟨q0, r0⟩ (fun hHeld => ?_)
          clear hK K
          refine norm_ (a' := ?_) ?_ ?_
          rotate_left
          · show Act.put _ (some 56) _ = _
            simp only [Act.put, List.setIfInBounds_toArray, List.set_cons_zero, List.set_cons_succ, i64_w, i32_w]
            rfl
          refine pure_ (i := 7) (N := some 57) (v := ?_) (a' := ?_) #[true, true, true, true, true, true, true, true, false] rfl rfl (by kernel_rfl) (fun _ _ _ h => h) (Or.inl ⟨by rfl, ?_⟩) ?_ ?_
          rotate_left
          · intro w'
            go_simp
            with_reducible rfl
          rotate_left
          · simp only [Act.put, List.setIfInBounds_toArray, List.set_cons_zero, List.set_cons_succ, i64_w, i32_w]
            rfl
          refine last_ (i := 8) (N := none) #[true, true, true, true, true, true, true, true, true] rfl rfl (by kernel_rfl) (by decide) (fun K hK => ?_)
          refine skip_ (w1 := ?_) (by rfl) rfl ?_ ?_
          rotate_left
          · go_simp
            rfl
          refine hK.out _ _ ?_
          clear hK K
          refine done_ (by kernel_rfl) ?_
          obtain ⟨ti, hti, _, hsz, _⟩ := info_parts info74
          have hcut := cut_from (P := Try.prog) 90 74 .i64 Try.underlying90 hti 3 hsz (some ad) l.length cl (wrap64 ((k : Int) + 1)) (by rw [HW.out]; omega) (by rw [HW.out]; have := PQ.out; omega)
          rw [show (wrap64 ((k : Int) + 1)).toNat = k + 1 from by rw [HW.out]; omega] at hcut
          obtain ⟨AD, hAD⟩ : ∃ AD, (if cl = k + 1 then some ad else (some ad).map (·.add ((k + 1) * 3))) = AD := ⟨_, rfl⟩
          obtain ⟨CL, hCL⟩ : ∃ CL, cl - (k + 1) = CL := ⟨_, rfl⟩
          obtain ⟨RL, hRL⟩ : ∃ RL, l.drop (k + 1) = RL := ⟨_, rfl⟩
          rw [hAD, hCL, show l.length - (k + 1) = RL.length from by rw [← hRL, List.length_drop]] at hcut
          have HADC := Aside0.mk (fun (W : World) (h : Kd.C k74 W (some ad) l.length l) => show Kd.C k74 W AD RL.length RL from by
            have q := Kd.C_drop (m := k + 1) (c := cl) h (by have := PQ.out; omega) HL.out.2
            rw [show k74.sz = 3 from rfl, hAD, hRL] at q
            exact q)
          have HRL := Aside0.mk hRL
          clear hAD hCL hRL hti hsz
          go_wp2
          refine gen_wp (fun W' => RdAt w W' b mp (w.heap.size + 1) w.heap.size P ar (.slice U1 F0.length uc) (.slice U5 E0.length uc5) ⟨F0, E0, out.f2⟩ #[.slice A0 p.f0.length d0, .slice A1 p.f1.length d1, .int .i64 p.f2]) HRP.out (fun W4 hW4 => ?_)
          have HR4 := Aside0.mk hW4
          clear hW4 HRP HV4 HR q0 r0 r1 hHeld
          obtain ⟨BT, hBT⟩ : ∃ BT, betw p.f1 RL 0 ar = BT := ⟨_, rfl⟩
          have HBT := Aside0.mk hBT
          have HB0 : Aside0 (betw p.f1 (RL.drop 0) 0 ar = BT ∧ ar.length ≤ 100000 + k * 480000 + 0 * 40000) := ⟨by rw [List.drop_zero]; exact hBT, by have := HOK.out.a; omega⟩
          clear hBT
          go_loopw [13, 63] (fun v13 v63 W => ∃ (j : Nat) (t2 : Int) (ar2 : List S51), v13 = .int .i64 t2 ∧ v63 = .int .i64 (j : Int) ∧ Aside0 (j ≤ RL.length) ∧ Aside0 (betw p.f1 (RL.drop j) t2 ar2 = BT ∧ ar2.length ≤ 100000 + k * 480000 + j * 40000) ∧ Aside0 (RdAt w W b mp (w.heap.size + 1) w.heap.size P ar2 (.slice U1 F0.length uc) (.slice U5 E0.length uc5) ⟨F0, E0, out.f2⟩ #[.slice A0 p.f0.length d0, .slice A1 p.f1.length d1, .int .i64 p.f2])) (fun _ j _ => ((RL.length : Int) - intOf j).toNat)
          case atStart => exact ⟨0, 0, ar, rfl, rfl, ⟨Nat.zero_le _⟩, HB0, HR4⟩
          case round =>
            clear HR4 HB0
            obtain ⟨j, t2, ar2, rfl, rfl, HJ, HB, HR⟩ := hrel
            by_cases hlt : j < RL.length
            · have hrl : RL.length ≤ 12 := by rw [← HRL.out, List.length_drop]; have := HP.out.len; omega
              obtain ⟨ad3, B0, e0, B1, e1, ee, hy0, hy1, hy2, hl0, hg0, hl1, hg1⟩ := at_T74 (HADC.out _ (C74_grown HL.out.1 HM.out HR.out.of.ln.gr)) (j : Int) (by omega) (by omega)
              subst ee
              have hrd : rd_T74 RL (j : Int) = RL[j] := rd74_get RL (j : Int) (by simpa using hlt)
              rw [hrd] at hy0 hy1 hy2 hl0 hg0 hl1 hg1
              rw [Int.toNat_natCast] at hy0 hy1 hy2
              have hqm := HP.out.wf RL[j] (List.mem_of_mem_drop (by rw [HRL.out]; exact List.getElem_mem hlt))
              have hB := HB.out
              rw [List.drop_eq_getElem_cons hlt, betw] at hB
              generalize RL[j] = q at hB hy0 hy1 hy2 hl0 hg0 hl1 hg1 hqm
              have HB2 := Aside0.mk hB
              have HQM := Aside0.mk hqm
              have HG2 := Aside0.mk hg0
              have PJ := Aside0.mk (And.intro hlt hrl)
              have hwj : wrap64 ((j : Int) + 1) = ((j + 1 : Nat) : Int) := by unfold wrap64; omega
              have HWJ := Aside0.mk hwj
              have c3b : decide ((j : Int) < (RL.length : Int)) = true := decide_eq_true (by omega)
              have g0 : (0 ≤ (j : Int)) = True := eq_true (by omega)
              have g3 : ((j : Int) < (RL.length : Int)) = True := eq_true (by omega)
              obtain ⟨WQ, hWQ⟩ : ∃ WQ, wr.alloc (.cells #[.slice B0 q.f0.length e0, .slice B1 q.f1.length e1, .int .i64 q.f2] 74) = WQ := ⟨_, rfl⟩
              have hbq := below_alloc (Below.refl wr.heap.size wr) (.cells #[.slice B0 q.f0.length e0, .slice B1 q.f1.length e1, .int .i64 q.f2] 74)
              rw [hWQ] at hbq
              have hqb : WQ.heap[wr.heap.size]? = some (.cells #[.slice B0 q.f0.length e0, .slice B1 q.f1.length e1, .int .i64 q.f2] 74) := by rw [← hWQ]; exact heap_alloc_new wr _
              have HRQ := Aside0.mk (HR.out.below hbq)
              have q0 := cellAt (i := 0) (u := .slice B0 q.f0.length e0) hqb rfl
              have q2 := cellAt (i := 2) (u := .int .i64 q.f2) hqb rfl
              have p1 := cellAt (i := 1) (u := .slice A1 p.f1.length d1) HRQ.out.pb rfl
              have HQ2 := Aside0.mk q2
              have HGQ := Aside0.mk (Kd.C_below hg0 hbq)
              clear hlt hrl hB hqm hg0 hg1 hl0 hl1 hrd hwj hbq hqb HB HR HJ
              go_wp2_with (first | (go_at_call 43; refine (link_calls b mp ar2 A1 B0 d1 e0 p.f1 q.f0 t2 _ (cell_grown_map HM.out HRQ.out.of.ln.gr HC.out) HRQ.out.of.ln.map (HGC.out _ HRQ.out.of.ln.gr).2 HGQ.out HPM.out.2.1 HQM.out.1 (by have h1 := HPM.out.2.2.2; have h2 := HQM.out.2.2.1; have h3 := HB2.out.2; have h4 := PQ.out; have h5 := HP.out.len; have h6 := PJ.out; have h7 := Nat.mul_le_mul (Nat.le_of_lt h1) (Nat.le_of_lt h2); omega) (by have := HPM.out.2.2.2; omega) (by have := HQM.out.2.2.1; omega)).mono ?_; rintro e w5 ⟨rfl, hg5, hm5⟩; have HR5 := Aside0.mk (HRQ.out.grown hg5 hm5); have q2 := cell_grown_map HRQ.out.of.ln.map hg5 HQ2.out; clear hg5 hm5) | (go_at_call 39; refine (trop_Add.calls _ _ (tadd t2 q.f2) _ rfl).mono ?_; rintro e w6 ⟨rfl, hb6⟩; have HR6 := Aside0.mk (HR5.out.below hb6); clear hb6))
              go_roundw
              case rel => exact ⟨j + 1, tadd t2 q.f2, linkL ar2 p.f1 q.f0 t2, rfl, by rw [HWJ.out], ⟨by have := PJ.out; omega⟩, ⟨HB2.out.1, by have h1 := HPM.out.2.2.2; have h2 := HQM.out.2.2.1; have h3 := HB2.out.2; have h7 := Nat.mul_le_mul (Nat.le_of_lt h1) (Nat.le_of_lt h2); have h8 := linkL_len t2 q.f0 p.f1 ar2; omega⟩, HR6⟩
              case measure => have := PJ.out; rw [HWJ.out]; simp only [intOf]; omega
            · have c3b : decide ((j : Int) < (RL.length : Int)) = false := decide_eq_false (by omega)
              have c3n : (j < RL.length) = False := eq_false hlt
              have HBE := Aside0.mk (show ar2 = BT from by have := HB.out.1; rw [List.drop_eq_nil_of_le (by omega)] at this; exact this)
              have hbe := HBE.out
              subst hbe
              clear hlt HBE
              have p2 := cellAt (i := 2) (u := .int .i64 p.f2) HR.out.pb rfl
              by_cases hkl : (k : Int) < low
              · have c4 : decide ((k : Int) < low) = true := decide_eq_true hkl
                have HF3 : Aside0 (ofK l low (l.drop (k + 1)) (k + 1) ⟨F0, E0, tadd skip p.f2⟩ (tadd skip p.f2) ar2 = RES) := ⟨by
                  have h := HF2.out
                  rw [HF0.out, HLK0.out, HE0.out, if_pos hkl, HRL.out, HBT.out] at h
                  rw [HRL.out]; exact h⟩
                clear hkl
                go_wp2_with (go_at_call 39; refine (trop_Add.calls _ _ (tadd skip p.f2) _ rfl).mono ?_; rintro e w7 ⟨rfl, hb7⟩; have HR7 := Aside0.mk (HR.out.below hb7); clear hb7; have t2c := cellAt (i := 2) (u := .int .i64 out.f2) HR7.out.of.tb rfl; have t2f := blk_frozen HR7.out.of.tb 2)
                go_roundw
                case rel => exact ⟨k + 1, _, _, ar2, _, _, by rw [HW.out], rfl, ⟨by have := PQ.out; omega⟩, HF3, ⟨HR7.out.of.put2 _⟩, ⟨⟨by have := HB.out.2; have := HP.out.len; have h9 : RL.length ≤ 12 := (by rw [← HRL.out, List.length_drop]; omega); have := HJ.out; omega, by have h1 := HPM.out.2.2.1; have h2 := dearS_len p.f0 skip; have h3 := HOK.out.f; show F0.length ≤ _; rw [← HF0.out, List.length_append]; omega, by have h1 := HPM.out.2.2.2; have h2 := dearS_len p.f1 t; have h3 := HOK.out.e; show E0.length ≤ _; rw [← HE0.out, List.length_append]; omega⟩⟩⟩
                case measure => have := PQ.out; rw [HW.out]; simp only [intOf]; omega
              · have c4 : decide ((k : Int) < low) = false := decide_eq_false hkl
                have HF3 : Aside0 (ofK l low (l.drop (k + 1)) (k + 1) ⟨F0, E0, out.f2⟩ (tadd skip p.f2) ar2 = RES) := ⟨by
                  have h := HF2.out
                  rw [HF0.out, HLK0.out, HE0.out, if_neg hkl, HRL.out, HBT.out] at h
                  rw [HRL.out]; exact h⟩
                clear hkl
                go_wp2_with (go_at_call 39; refine (trop_Add.calls _ _ (tadd skip p.f2) _ rfl).mono ?_; rintro e w7 ⟨rfl, hb7⟩; have HR7 := Aside0.mk (HR.out.below hb7); clear hb7; have t2c := cellAt (i := 2) (u := .int .i64 out.f2) HR7.out.of.tb rfl; have t2f := blk_frozen HR7.out.of.tb 2)
                go_roundw
                case rel => exact ⟨k + 1, _, _, ar2, _, _, by rw [HW.out], rfl, ⟨by have := PQ.out; omega⟩, HF3, ⟨HR7.out.of⟩, ⟨⟨by have := HB.out.2; have := HP.out.len; have h9 : RL.length ≤ 12 := (by rw [← HRL.out, List.length_drop]; omega); have := HJ.out; omega, by have h1 := HPM.out.2.2.1; have h2 := dearS_len p.f0 skip; have h3 := HOK.out.f; show F0.length ≤ _; rw [← HF0.out, List.length_append]; omega, by have h1 := HPM.out.2.2.2; have h2 := dearS_len p.f1 t; have h3 := HOK.out.e; show E0.length ≤ _; rw [← HE0.out, List.length_append]; omega⟩⟩⟩
                case measure => have := PQ.out; rw [HW.out]; simp only [intOf]; omega
    · have hk : k = l.length := by have := HK.out; omega
      have hF := HF.out
      rw [hk, List.drop_length] at hF
      simp only [ofK] at hF
      have c1b : decide ((k : Int) < (l.length : Int)) = false := decide_eq_false (by omega)
      have c1n : (k < l.length) = False := eq_false hlt
      obtain ⟨Vf, vc, evf⟩ := Kd.R_slice HO.out.rf
      subst evf
      obtain ⟨Ve, wc, eve⟩ := Kd.R_slice HO.out.re
      subst eve
      clear hlt hk
      have t0 := cellAt (i := 0) (u := .slice Vf out.f0.length vc) HO.out.tb rfl
      have t1 := cellAt (i := 1) (u := .slice Ve out.f1.length wc) HO.out.tb rfl
      have t2 := cellAt (i := 2) (u := .int .i64 out.f2) HO.out.tb rfl
      have r0 := cellAt (i := 0) (u := .slice none 0 0) HO.out.rb rfl
      have r1 := cellAt (i := 1) (u := .slice none 0 0) HO.out.rb rfl
      have r2 := cellAt (i := 2) (u := .int .i64 0) HO.out.rb rfl
      have s0 := blk_frozen HO.out.rb 0
      have s1 := blk_frozen HO.out.rb 1
      have s2 := blk_frozen HO.out.rb 2
      go_wp2
      have h6 : ∀ k, k ≠ w.heap.size → (((wr.setCell ⟨w.heap.size, 0, none⟩ (.slice Vf out.f0.length vc)).setCell ⟨w.heap.size, 1, none⟩ (.slice Ve out.f1.length wc)).setCell ⟨w.heap.size, 2, none⟩ (.int .i64 out.f2)).heap[k]? = wr.heap[k]? := fun k hk => by
        rw [RowKit.Below.heap_setCell _ _ _ _ (by simpa using hk), RowKit.Below.heap_setCell _ _ _ _ (by simpa using hk), RowKit.Below.heap_setCell _ _ _ _ (by simpa using hk)]
      have hP7 := blk_put (blk_put (blk_put HO.out.rb 0 (.slice Vf out.f0.length vc) (cs' := #[.slice Vf out.f0.length vc, .slice none 0 0, .int .i64 0]) rfl) 1 (.slice Ve out.f1.length wc) (cs' := #[.slice Vf out.f0.length vc, .slice Ve out.f1.length wc, .int .i64 0]) rfl) 2 (.int .i64 out.f2) (cs' := #[.slice Vf out.f0.length vc, .slice Ve out.f1.length wc, .int .i64 out.f2]) rfl
      have hs7 : (((wr.setCell ⟨w.heap.size, 0, none⟩ (.slice Vf out.f0.length vc)).setCell ⟨w.heap.size, 1, none⟩ (.slice Ve out.f1.length wc)).setCell ⟨w.heap.size, 2, none⟩ (.int .i64 out.f2)).heap.size = wr.heap.size := by simp [World.setCell]
      have hg7 : wr.grownBy (((wr.setCell ⟨w.heap.size, 0, none⟩ (.slice Vf out.f0.length vc)).setCell ⟨w.heap.size, 1, none⟩ (.slice Ve out.f1.length wc)).setCell ⟨w.heap.size, 2, none⟩ (.int .i64 out.f2)) (some w.heap.size) := ⟨rfl, rfl, rfl, by rw [hs7]; exact Nat.le_refl _, fun k _ hk => h6 k (fun e => hk (by rw [e]))⟩
      generalize (((wr.setCell ⟨w.heap.size, 0, none⟩ (.slice Vf out.f0.length vc)).setCell ⟨w.heap.size, 1, none⟩ (.slice Ve out.f1.length wc)).setCell ⟨w.heap.size, 2, none⟩ (.int .i64 out.f2)) = W7 at h6 hP7 hs7 hg7 ⊢
      refine bodyPost_ret (results_cell_row rfl _ _ w.heap.size 74 #[.slice Vf out.f0.length vc, .slice Ve out.f1.length wc, .int .i64 out.f2] (0, 0) _ (by rfl) hP7 Try.underlying74 rfl (by kernel_rfl)) rfl ?_
      subst hF
      have nf := spR_ne HO.out.rf HO.out.rb
      have ne := spR_ne HO.out.re HO.out.rb
      have hmne := cells_ne_map HO.out.rb HO.out.ln.map
      refine ⟨_, _, rfl, HO.out.ln.gr.andThen hg7 (fun j hj => .inl (by injection hj with hj; omega)), HO.out.ln.map.of_heap (h6 mp (fun e => hmne e.symm)), spR_to HO.out.rf (fun k hk => h6 k (fun e => by rw [← e, ← hk] at nf; exact nf rfl)) HO.out.rf.1, spR_to HO.out.re (fun k hk => h6 k (fun e => by rw [← e, ← hk] at ne; exact ne rfl)) HO.out.re.1⟩
end Go.Proofs.Ytnnpfgpfkningaa.P
