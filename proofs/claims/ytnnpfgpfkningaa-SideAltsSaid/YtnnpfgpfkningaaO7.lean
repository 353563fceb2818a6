-- Joined by wip/merge.py (a program of this repo) out of texts of this claim, cut down to what it reaches; Lean checks it.
import Derived.Test.YtnnpfgpfkningaaO6
import Derived.Test.YtnnpfgpfkningaaO1
import Derived.Test.YtnnpfgpfkningaaO2
import Derived.Test.YtnnpfgpfkningaaO4
namespace Go.Proofs.Ytnnpfgpfkningaa.P
open Go.RowKit Go.Proofs.YtnnpfgpfkningaaW.PrintWords Go.Proofs.YtnnpfgpfkningaaW.PrintLast Go.Proofs.YtnnpfgpfkningaaW.PrintMore
attribute [local go_sem] max2_int min2_int max_two min_two max_three min_three max_four min_four   -- for this text's walks alone
attribute [local go_sem ↓ high] Go.Proofs.YtnnpfgpfkningaaX.isSome_setCell
set_option linter.unusedVariables false
set_option linter.unusedSimpArgs false
theorem part0_calls (x : S33) (A5 : Option Addr) (c5 : Nat) (P0 : Nat → Prop) (w : World) (h5 : Kd.F k33 w P0 A5 x.f5.length x.f5) (hc5 : x.f5.length ≤ c5) :
  Calls Try.prog 41 #[.agg #[.int .i64 x.f0, .int .i64 x.f1, .int .i64 x.f2, .int .i64 x.f3, .string x.f4, .slice A5 x.f5.length c5], .int .i64 0] w fun e w' => ∃ (A : Option Addr) (c : Nat), e = .returned (.agg #[.int .i64 (xpart x 0).f0, .int .i64 (xpart x 0).f1, .int .i64 (xpart x 0).f2, .int .i64 (xpart x 0).f3, .string (xpart x 0).f4, .slice A (xpart x 0).f5.length c]) ∧
   Kd.F k33 w' (fun k => P0 k ∨ w.heap.size ≤ k) A (xpart x 0).f5.length (xpart x 0).f5 ∧ (xpart x 0).f5.length ≤ c ∧ Below w.heap.size w w' :=
 part_calls x A5 c5 0 P0 w h5 hc5 (by omega)
theorem part1_calls (x : S33) (A5 : Option Addr) (c5 : Nat) (P0 : Nat → Prop) (w : World) (h5 : Kd.F k33 w P0 A5 x.f5.length x.f5) (hc5 : x.f5.length ≤ c5) :
  Calls Try.prog 41 #[.agg #[.int .i64 x.f0, .int .i64 x.f1, .int .i64 x.f2, .int .i64 x.f3, .string x.f4, .slice A5 x.f5.length c5], .int .i64 1] w fun e w' => ∃ (A : Option Addr) (c : Nat), e = .returned (.agg #[.int .i64 (xpart x 1).f0, .int .i64 (xpart x 1).f1, .int .i64 (xpart x 1).f2, .int .i64 (xpart x 1).f3, .string (xpart x 1).f4, .slice A (xpart x 1).f5.length c]) ∧
   Kd.F k33 w' (fun k => P0 k ∨ w.heap.size ≤ k) A (xpart x 1).f5.length (xpart x 1).f5 ∧ (xpart x 1).f5.length ≤ c ∧ Below w.heap.size w w' :=
 part_calls x A5 c5 1 P0 w h5 hc5 (by omega)
def Sep (V : World) (b mp : Nat) (s : Option Nat) (T : Nat) (o : Obj) : Prop := V.heap[T]? = some o ∧ ¬ Zn b mp s T
theorem Sep.new {w0 X : World} {b mp : Nat} {s : Option Nat} {Ad : Option Addr} {cd : Nat} {defs : List S61} {st : St} (hm : MkAt w0 X b mp s Ad cd defs st) (t : TypeId) (cs : Array Value) : Sep (X.alloc (.cells cs t)) b mp s X.heap.size (.cells cs t (0, 0)) := ⟨heap_alloc_new X _, fun hz => by have := hm.s_lt hz; omega⟩
theorem Sep.new2 {w0 X : World} {b mp : Nat} {s : Option Nat} {Ad : Option Addr} {cd : Nat} {defs : List S61} {st : St} (hm : MkAt w0 X b mp s Ad cd defs st) (o' : Obj) (t : TypeId) (cs : Array Value) : Sep ((X.alloc o').alloc (.cells cs t)) b mp s (X.heap.size + 1) (.cells cs t (0, 0)) := by
 have h := Sep.new (hm.below_ (below_alloc (Below.refl _ _) o')) t cs
 rwa [show (X.alloc o').heap.size = X.heap.size + 1 from Array.size_push _] at h
theorem Sep.alloc {V : World} {b mp : Nat} {s : Option Nat} {T : Nat} {o : Obj} (h : Sep V b mp s T o) (o' : Obj) : Sep (V.alloc o') b mp s T o := ⟨blk_alloc h.1 o', h.2⟩
theorem Sep.made {V V1 : World} {b mp : Nat} {s s1 : Option Nat} {T : Nat} {o : Obj} (hk : Kept V V1 (Zn b mp s) ∧ Sets2 V s s1) (h : Sep V b mp s T o) : Sep V1 b mp s1 T o := ⟨(hk.1.2 T (blk_lt h.1) h.2).trans h.1, Zn_step hk.2 (blk_lt h.1) h.2⟩
theorem RowsAt.lower {V : World} {base B : Nat} {b mp : Nat} {s1 : Option Nat} {p : S74} {Af Ae : Option Addr} {cf ce : Nat} (h : RowsAt V B b mp s1 p Af Ae cf ce) (hb : base ≤ B) : RowsAt V base b mp s1 p Af Ae cf ce := ⟨Kd.R_lower h.f hb, Kd.R_lower h.e hb⟩
structure AltAt (w0 W W1 V : World) (b mp : Nat) (s s2 : Option Nat) (Ad : Option Addr) (cd : Nat) (defs : List S61) (st2 : St) (T6 T7 B : Nat) (a d : S74) (Af Ae Bf Be : Option Addr) (cf ce df de : Nat) : Prop where
 ch : Chn w0 W W1 V b mp s s2 Ad cd defs st2
 ra : RowsAt V W1.heap.size b mp s2 a Af Ae cf ce
 rb : RowsAt V B b mp s2 d Bf Be df de
 af : ∀ k, (Value.slice Af a.f0.length cf).ownBlock = some k → k < B
 ae : ∀ k, (Value.slice Ae a.f1.length ce).ownBlock = some k → k < B
 hB : W1.heap.size ≤ B
 t6 : Sep V b mp s2 T6 (.cells #[.slice Af a.f0.length cf, .slice Ae a.f1.length ce, .int .i64 a.f2] 74 (0, 0))
 t7 : Sep V b mp s2 T7 (.cells #[.slice Bf d.f0.length df, .slice Be d.f1.length de, .int .i64 d.f2] 74 (0, 0))
 l6 : W1.heap.size ≤ T6
 l7 : W1.heap.size ≤ T7
/-- What stands behind alt's first region. -/
def AltRel (w0 W W1 : World) (b mp : Nat) (s : Option Nat) (Ad : Option Addr) (cd : Nat) (defs : List S61) (st2 : St) (a d : S74) (v6 v7 : Value) (V : World) : Prop :=
 ∃ (T6 T7 B : Nat) (s2 : Option Nat) (Af Ae Bf Be : Option Addr) (cf ce df de : Nat), v6 = .pointer (some ⟨T6, 0, none⟩) ∧ v7 = .pointer (some ⟨T7, 0, none⟩) ∧ AltAt w0 W W1 V b mp s s2 Ad cd defs st2 T6 T7 B a d Af Ae Bf Be cf ce df de
theorem AltAt.rel {w0 W W1 V : World} {b mp : Nat} {s s2 : Option Nat} {Ad : Option Addr} {cd : Nat} {defs : List S61} {st2 : St} {T6 T7 B : Nat} {a d : S74} {Af Ae Bf Be : Option Addr} {cf ce df de : Nat} (h : AltAt w0 W W1 V b mp s s2 Ad cd defs st2 T6 T7 B a d Af Ae Bf Be cf ce df de) : AltRel w0 W W1 b mp s Ad cd defs st2 a d (.pointer (some ⟨T6, 0, none⟩)) (.pointer (some ⟨T7, 0, none⟩)) V := ⟨T6, T7, B, s2, Af, Ae, Bf, Be, cf, ce, df, de, rfl, rfl, h⟩
/-- A store into a block of the call's own, none of the maker's. -/
theorem MkAt.far {w0 W : World} {b mp : Nat} {s : Option Nat} {Ad : Option Addr} {cd : Nat} {defs : List S61} {st : St} (h : MkAt w0 W b mp s Ad cd defs st) {T : Nat} (hT : ¬ Zn b mp s T) (hw : w0.heap.size ≤ T) (i : Nat) (v : Value) : MkAt w0 (W.setCell ⟨T, i, none⟩ v) b mp s Ad cd defs st :=
 h.same (fun k hk => by rw [RowKit.Below.heap_setCell _ _ _ _ (show k ≠ T from fun e => hT (e ▸ hk))]) (by
  have hb := h.below
  exact hb.setCell hw v)
theorem Chn.far {w0 W W1 V : World} {b mp : Nat} {s s1 : Option Nat} {Ad : Option Addr} {cd : Nat} {defs : List S61} {st1 : St} (h : Chn w0 W W1 V b mp s s1 Ad cd defs st1) {T : Nat} (hT : ¬ Zn b mp s1 T) (hw : w0.heap.size ≤ W1.heap.size) (hl : W1.heap.size ≤ T) (i : Nat) (v : Value) : Chn w0 W W1 (V.setCell ⟨T, i, none⟩ v) b mp s s1 Ad cd defs st1 :=
 ⟨h.ma.far hT (Nat.le_trans hw hl) i v, h.k.setCell (.inr hl) v, h.s2⟩
theorem spR_set {base : Nat} {ok : Nat → Prop} {w : World} {v : Value} {l : List S94} (h : Kd.R k94 94 w base ok v l) {T : Nat} {cs : Array Value} (hT : w.heap[T]? = some (.cells cs 74 (0, 0))) (i : Nat) (u : Value) : Kd.R k94 94 (w.setCell ⟨T, i, none⟩ u) base ok v l :=
 spR_to h (fun k hk => by rw [RowKit.Below.heap_setCell _ _ _ _ (show k ≠ T from fun e => spR_ne h hT (by rw [← e, hk]))]) h.1
theorem RowsAt.far {V : World} {base : Nat} {b mp : Nat} {s1 : Option Nat} {p : S74} {Af Ae : Option Addr} {cf ce : Nat} (h : RowsAt V base b mp s1 p Af Ae cf ce) {T : Nat} {cs : Array Value} (hT : V.heap[T]? = some (.cells cs 74 (0, 0))) (i : Nat) (u : Value) : RowsAt (V.setCell ⟨T, i, none⟩ u) base b mp s1 p Af Ae cf ce := ⟨spR_set h.f hT i u, spR_set h.e hT i u⟩
theorem alt_mid {w0 W W1 V : World} {b mp : Nat} {s s2 : Option Nat} {Ad : Option Addr} {cd : Nat} {defs : List S61} {st2 : St} {T6 T7 B : Nat} {a d : S74} {Af Ae Bf Be : Option Addr} {cf ce df de : Nat} (hw : w0.heap.size ≤ W1.heap.size)
  (ch : Chn w0 W W1 V b mp s s2 Ad cd defs st2) (ra : RowsAt V W1.heap.size b mp s2 a Af Ae cf ce) (rb : RowsAt V B b mp s2 d Bf Be df de) (af : ∀ k, (Value.slice Af a.f0.length cf).ownBlock = some k → k < B) (ae : ∀ k, (Value.slice Ae a.f1.length ce).ownBlock = some k → k < B) (hB : W1.heap.size ≤ B)
  (t6 : Sep V b mp s2 T6 (.cells #[.slice none 0 0, .slice none 0 0, .int .i64 0] 74 (0, 0))) (t7 : Sep V b mp s2 T7 (.cells #[.slice none 0 0, .slice none 0 0, .int .i64 0] 74 (0, 0))) (l6 : W1.heap.size ≤ T6) (l7 : W1.heap.size ≤ T7) (hne : T6 ≠ T7) :
  AltAt w0 W W1 ((((((V.setCell ⟨T6, 0, none⟩ (.slice Af a.f0.length cf)).setCell ⟨T6, 1, none⟩ (.slice Ae a.f1.length ce)).setCell ⟨T6, 2, none⟩ (.int .i64 a.f2)).setCell ⟨T7, 0, none⟩ (.slice Bf d.f0.length df)).setCell ⟨T7, 1, none⟩ (.slice Be d.f1.length de)).setCell ⟨T7, 2, none⟩ (.int .i64 d.f2)) b mp s s2 Ad cd defs st2 T6 T7 B a d Af Ae Bf Be cf ce df de := by
 have p1 := blk_put t6.1 0 (.slice Af a.f0.length cf) (cs' := #[.slice Af a.f0.length cf, .slice none 0 0, .int .i64 0]) rfl
 have p2 := blk_put p1 1 (.slice Ae a.f1.length ce) (cs' := #[.slice Af a.f0.length cf, .slice Ae a.f1.length ce, .int .i64 0]) rfl
 have p3 := blk_put p2 2 (.int .i64 a.f2) (cs' := #[.slice Af a.f0.length cf, .slice Ae a.f1.length ce, .int .i64 a.f2]) rfl
 have q0 := blk_setFar (blk_setFar (blk_setFar t7.1 (a := ⟨T6, 0, none⟩) (by simpa using (Ne.symm hne)) (.slice Af a.f0.length cf)) (a := ⟨T6, 1, none⟩) (by simpa using (Ne.symm hne)) (.slice Ae a.f1.length ce)) (a := ⟨T6, 2, none⟩) (by simpa using (Ne.symm hne)) (.int .i64 a.f2)
 have q1 := blk_put q0 0 (.slice Bf d.f0.length df) (cs' := #[.slice Bf d.f0.length df, .slice none 0 0, .int .i64 0]) rfl
 have q2 := blk_put q1 1 (.slice Be d.f1.length de) (cs' := #[.slice Bf d.f0.length df, .slice Be d.f1.length de, .int .i64 0]) rfl
 have q3 := blk_put q2 2 (.int .i64 d.f2) (cs' := #[.slice Bf d.f0.length df, .slice Be d.f1.length de, .int .i64 d.f2]) rfl
 refine ⟨?_, ?_, ?_, af, ae, hB, ⟨?_, t6.2⟩, ⟨q3, t7.2⟩, l6, l7⟩
 ·exact (((((ch.far t6.2 hw l6 _ _).far t6.2 hw l6 _ _).far t6.2 hw l6 _ _).far t7.2 hw l7 _ _).far t7.2 hw l7 _ _).far t7.2 hw l7 _ _
 ·exact (((((ra.far t6.1 _ _).far p1 _ _).far p2 _ _).far q0 _ _).far q1 _ _).far q2 _ _
 ·exact (((((rb.far t6.1 _ _).far p1 _ _).far p2 _ _).far q0 _ _).far q1 _ _).far q2 _ _
 ·exact blk_setFar (blk_setFar (blk_setFar p3 (a := ⟨T7, 0, none⟩) (by simpa using hne) _) (a := ⟨T7, 1, none⟩) (by simpa using hne) _) (a := ⟨T7, 2, none⟩) (by simpa using hne) _
theorem kept_b {V V1 : World} (hb : Below V.heap.size V V1) (b mp : Nat) (s : Option Nat) : Kept V V1 (Zn b mp s) ∧ Sets2 V s s := ⟨Kept.of_below hb _, .inl rfl⟩
theorem mkOk.use {defs : List S61} {sz : S33 → Option Int} {n : Nat} (ih : mkOk defs sz n) (w0 W : World) (b mp : Nat) (s : Option Nat) (Ad : Option Addr) (cd : Nat) (st st' : St) (p : S74) (x : S33) (A5 : Option Addr) (c5 : Nat) (h5 : MkAt w0 W b mp s Ad cd defs st) (h6 : Kd.F k33 W (fun k => ¬ Zn b mp s k) A5 x.f5.length x.f5) (hc : x.f5.length ≤ c5) (h : mkF defs sz n x st = some (p, st')) :
  Calls Try.prog 30 #[.pointer (some ⟨b, 0, none⟩), .agg #[.int .i64 x.f0, .int .i64 x.f1, .int .i64 x.f2, .int .i64 x.f3, .string x.f4, .slice A5 x.f5.length c5]] W (MadeBy w0 W b mp s Ad cd defs st' p) := ih w0 W b mp s Ad cd st st' p x A5 c5 h5 h6 hc h
theorem rows_lt {w0 W W1 V V4 V5 : World} {Z : Nat → Prop} {base : Nat} {b mp : Nat} {s s1 : Option Nat} {Ad : Option Addr} {cd : Nat} {defs : List S61} {st1 : St} {p : S74} {Af Ae : Option Addr} {cf ce : Nat} (h : RowsAt V base b mp s1 p Af Ae cf ce) (m2 : Kept V4 V5 Z) (hb : Below V.heap.size V V4) (hc : Chn w0 W W1 V4 b mp s s1 Ad cd defs st1) :
  (∀ k, (Value.slice Af p.f0.length cf).ownBlock = some k → k < V4.heap.size) ∧ (∀ k, (Value.slice Ae p.f1.length ce).ownBlock = some k → k < V4.heap.size) ∧ W1.heap.size ≤ V4.heap.size :=
 ⟨fun k hk => Nat.lt_of_lt_of_le (spR_lt h.f k hk).2 hb.size, fun k hk => Nat.lt_of_lt_of_le (spR_lt h.e k hk).2 hb.size, hc.k.1⟩
theorem Sep.below {V V1 : World} {b mp : Nat} {s : Option Nat} {T : Nat} {o : Obj} (h : Sep V b mp s T o) (hb : Below V.heap.size V V1) : Sep V1 b mp s T o := ⟨blk_below h.1 hb, h.2⟩
theorem chn_s {w0 W W1 X V : World} {b mp : Nat} {s s1 : Option Nat} {Ad : Option Addr} {cd : Nat} {defs : List S61} {st1 : St} (h : Chn w0 W W1 X b mp s s1 Ad cd defs st1) {g : Nat} {cs : Array Value} {t : TypeId} (hx : W1.heap[g]? = some (.cells cs t (0, 0))) (hn : ¬ Zn b mp s g) (hb : Below X.heap.size X V) (i : Nat) (u : Value) (e : cs[i]? = some u) : V.cell? ⟨g, i, none⟩ = some u := cellAt (blk_below (h.blk hx hn) hb) e
theorem Sep.drew {V : World} {b mp : Nat} {s : Option Nat} {T : Nat} {o : Obj} (h : Sep V b mp s T o) : Sep V.drew b mp s T o := h
theorem alt_mid2 {w0 W W1 V : World} {b mp : Nat} {s s2 : Option Nat} {Ad : Option Addr} {cd : Nat} {defs : List S61} {st2 : St} {T7 B : Nat} {a d : S74} {Af Ae Bf Be : Option Addr} {cf ce df de : Nat} (hw : w0.heap.size ≤ W1.heap.size)
  (ch : Chn w0 W W1 V b mp s s2 Ad cd defs st2) (ra : RowsAt V W1.heap.size b mp s2 a Af Ae cf ce) (rb : RowsAt V B b mp s2 d Bf Be df de) (af : ∀ k, (Value.slice Af a.f0.length cf).ownBlock = some k → k < B) (ae : ∀ k, (Value.slice Ae a.f1.length ce).ownBlock = some k → k < B) (hB : W1.heap.size ≤ B)
  (t7 : Sep V b mp s2 T7 (.cells #[.slice none 0 0, .slice none 0 0, .int .i64 0] 74 (0, 0))) (l7 : W1.heap.size ≤ T7) :
  AltAt w0 W W1 ((((V.alloc (.cells #[.slice Af a.f0.length cf, .slice Ae a.f1.length ce, .int .i64 a.f2] 74)).setCell ⟨T7, 0, none⟩ (.slice Bf d.f0.length df)).setCell ⟨T7, 1, none⟩ (.slice Be d.f1.length de)).setCell ⟨T7, 2, none⟩ (.int .i64 d.f2)) b mp s s2 Ad cd defs st2 V.heap.size T7 B a d Af Ae Bf Be cf ce df de := by
 have hbo := below_alloc (Below.refl V.heap.size V) (.cells #[.slice Af a.f0.length cf, .slice Ae a.f1.length ce, .int .i64 a.f2] 74)
 have t6 := Sep.new ch.ma 74 #[.slice Af a.f0.length cf, .slice Ae a.f1.length ce, .int .i64 a.f2]
 have hne : V.heap.size ≠ T7 := Nat.ne_of_gt (blk_lt t7.1)
 have ch' := ch.below hbo
 have ra' := ra.below hbo
 have rb' := rb.below hbo
 have q0 := blk_below t7.1 hbo
 generalize V.alloc (.cells #[.slice Af a.f0.length cf, .slice Ae a.f1.length ce, .int .i64 a.f2] 74) = V' at *
 have q1 := blk_put q0 0 (.slice Bf d.f0.length df) (cs' := #[.slice Bf d.f0.length df, .slice none 0 0, .int .i64 0]) rfl
 have q2 := blk_put q1 1 (.slice Be d.f1.length de) (cs' := #[.slice Bf d.f0.length df, .slice Be d.f1.length de, .int .i64 0]) rfl
 have q3 := blk_put q2 2 (.int .i64 d.f2) (cs' := #[.slice Bf d.f0.length df, .slice Be d.f1.length de, .int .i64 d.f2]) rfl
 refine ⟨?_, ?_, ?_, af, ae, hB, ⟨?_, t6.2⟩, ⟨q3, t7.2⟩, ch.k.1, l7⟩
 ·exact ((ch'.far t7.2 hw l7 _ _).far t7.2 hw l7 _ _).far t7.2 hw l7 _ _
 ·exact ((ra'.far q0 _ _).far q1 _ _).far q2 _ _
 ·exact ((rb'.far q0 _ _).far q1 _ _).far q2 _ _
 ·exact blk_setFar (blk_setFar (blk_setFar t6.1 (a := ⟨T7, 0, none⟩) (by simpa using hne) _) (a := ⟨T7, 1, none⟩) (by simpa using hne) _) (a := ⟨T7, 2, none⟩) (by simpa using hne) _
theorem alt_mid3 {w0 W W1 V : World} {b mp : Nat} {s s2 : Option Nat} {Ad : Option Addr} {cd : Nat} {defs : List S61} {st2 : St} {B : Nat} {a d : S74} {Af Ae Bf Be : Option Addr} {cf ce df de : Nat}
  (ch : Chn w0 W W1 V b mp s s2 Ad cd defs st2) (ra : RowsAt V W1.heap.size b mp s2 a Af Ae cf ce) (rb : RowsAt V B b mp s2 d Bf Be df de) (af : ∀ k, (Value.slice Af a.f0.length cf).ownBlock = some k → k < B) (ae : ∀ k, (Value.slice Ae a.f1.length ce).ownBlock = some k → k < B) (hB : W1.heap.size ≤ B) :
  AltAt w0 W W1 ((V.alloc (.cells #[.slice Af a.f0.length cf, .slice Ae a.f1.length ce, .int .i64 a.f2] 74)).alloc (.cells #[.slice Bf d.f0.length df, .slice Be d.f1.length de, .int .i64 d.f2] 74)) b mp s s2 Ad cd defs st2 V.heap.size (V.heap.size + 1) B a d Af Ae Bf Be cf ce df de := by
 have hbo := below_alloc (below_alloc (Below.refl V.heap.size V) (.cells #[.slice Af a.f0.length cf, .slice Ae a.f1.length ce, .int .i64 a.f2] 74)) (.cells #[.slice Bf d.f0.length df, .slice Be d.f1.length de, .int .i64 d.f2] 74)
 exact ⟨ch.below hbo, ra.below hbo, rb.below hbo, af, ae, hB, Sep.alloc (Sep.new ch.ma 74 _) _, Sep.new2 ch.ma _ 74 _, ch.k.1, Nat.le_succ_of_le ch.k.1⟩
theorem alt_mid4 {w0 W W1 V : World} {b mp : Nat} {s s2 : Option Nat} {Ad : Option Addr} {cd : Nat} {defs : List S61} {st2 : St} {B : Nat} {a d : S74} {Af Ae Bf Be : Option Addr} {cf ce df de : Nat}
  (ch : Chn w0 W W1 V b mp s s2 Ad cd defs st2) (ra : RowsAt V W1.heap.size b mp s2 a Af Ae cf ce) (rb : RowsAt V B b mp s2 d Bf Be df de) (af : ∀ k, (Value.slice Af a.f0.length cf).ownBlock = some k → k < B) (ae : ∀ k, (Value.slice Ae a.f1.length ce).ownBlock = some k → k < B) (hB : W1.heap.size ≤ B) :
  AltAt w0 W W1 ((V.alloc (.cells #[.slice Bf d.f0.length df, .slice Be d.f1.length de, .int .i64 d.f2] 74)).alloc (.cells #[.slice Af a.f0.length cf, .slice Ae a.f1.length ce, .int .i64 a.f2] 74)) b mp s s2 Ad cd defs st2 (V.heap.size + 1) V.heap.size B a d Af Ae Bf Be cf ce df de := by
 have hbo := below_alloc (below_alloc (Below.refl V.heap.size V) (.cells #[.slice Bf d.f0.length df, .slice Be d.f1.length de, .int .i64 d.f2] 74)) (.cells #[.slice Af a.f0.length cf, .slice Ae a.f1.length ce, .int .i64 a.f2] 74)
 exact ⟨ch.below hbo, ra.below hbo, rb.below hbo, af, ae, hB, Sep.new2 ch.ma _ 74 _, Sep.alloc (Sep.new ch.ma 74 _) _, Nat.le_succ_of_le ch.k.1, ch.k.1⟩
structure ApAt (w0 W W1 V : World) (b mp : Nat) (s s2 : Option Nat) (Ad : Option Addr) (cd : Nat) (defs : List S61) (st2 : St) (T6 T7 B : Nat) (a d : S74) (Af Ae Bf Be : Option Addr) (cf ce df de : Nat) (vf ve : Value) (lf le : List S94) : Prop where
 ch : Chn w0 W W1 V b mp s s2 Ad cd defs st2
 rf : Kd.R k94 94 V W1.heap.size (fun k => ¬ Zn b mp s2 k ∧ some k ≠ ve.ownBlock) vf lf
 re : Kd.R k94 94 V W1.heap.size (fun k => ¬ Zn b mp s2 k ∧ some k ≠ vf.ownBlock) ve le
 t6 : V.heap[T6]? = some (.cells #[.slice Af a.f0.length cf, .slice Ae a.f1.length ce, .int .i64 a.f2] 74 (0, 0))
 t7 : V.heap[T7]? = some (.cells #[.slice Bf d.f0.length df, .slice Be d.f1.length de, .int .i64 d.f2] 74 (0, 0))
 l6 : W1.heap.size ≤ T6
 l7 : W1.heap.size ≤ T7
theorem AltAt.ap {w0 W W1 V : World} {b mp : Nat} {s s2 : Option Nat} {Ad : Option Addr} {cd : Nat} {defs : List S61} {st2 : St} {T6 T7 B : Nat} {a d : S74} {Af Ae Bf Be : Option Addr} {cf ce df de : Nat} (h : AltAt w0 W W1 V b mp s s2 Ad cd defs st2 T6 T7 B a d Af Ae Bf Be cf ce df de) : ApAt w0 W W1 V b mp s s2 Ad cd defs st2 T6 T7 B a d Af Ae Bf Be cf ce df de (.slice Af a.f0.length cf) (.slice Ae a.f1.length ce) a.f0 a.f1 :=
 ⟨h.ch, h.ra.f, h.ra.e, h.t6.1, h.t7.1, h.l6, h.l7⟩
theorem ApAt.below {w0 W W1 V V1 : World} {b mp : Nat} {s s2 : Option Nat} {Ad : Option Addr} {cd : Nat} {defs : List S61} {st2 : St} {T6 T7 B : Nat} {a d : S74} {Af Ae Bf Be : Option Addr} {cf ce df de : Nat} {vf ve : Value} {lf le : List S94} (h : ApAt w0 W W1 V b mp s s2 Ad cd defs st2 T6 T7 B a d Af Ae Bf Be cf ce df de vf ve lf le) (hb : Below V.heap.size V V1) : ApAt w0 W W1 V1 b mp s s2 Ad cd defs st2 T6 T7 B a d Af Ae Bf Be cf ce df de vf ve lf le :=
 ⟨h.ch.below hb, Kd.R_below h.rf hb, Kd.R_below h.re hb, blk_below h.t6 hb, blk_below h.t7 hb, h.l6, h.l7⟩
theorem ap_keep {V V1 : World} {base : Nat} {ok : Nat → Prop} {v : Value} {l : List S94} (hr : Kd.R k94 94 V base ok v l) (hg : V.grownBy V1 v.ownBlock) {g : Nat} {cs : Array Value} {t : TypeId} (h : V.heap[g]? = some (.cells cs t (0, 0))) (ht : t ≠ 94) : V1.heap[g]? = some (.cells cs t (0, 0)) :=
 blk_grown h hg (fun e => by
  obtain ⟨inner, ho⟩ := Kd.R_own hr
  obtain ⟨cells, hc⟩ := own_typed ho g e.symm
  rw [h] at hc; cases hc; exact ht rfl)
/-- The maker behind an append to a row of the call's own. -/
theorem Chn.app {w0 W W1 V V1 : World} {b mp : Nat} {s s1 : Option Nat} {Ad : Option Addr} {cd : Nat} {defs : List S61} {st1 : St} (h : Chn w0 W W1 V b mp s s1 Ad cd defs st1) {row : Option Nat} (hw : w0.heap.size ≤ W1.heap.size) (hg : V.grownBy V1 row) (hr : ∀ k, row = some k → W1.heap.size ≤ k ∧ ¬ Zn b mp s1 k) : Chn w0 W W1 V1 b mp s s1 Ad cd defs st1 := by
 refine ⟨h.ma.same (fun k hk => hg.block k (h.ma.s_lt hk) (fun e => (hr k e.symm).2 hk)) ?_, Kept.of_grown hg h.k (fun k hk => .inr (hr k hk).1), h.s2⟩
 have hb := h.ma.below
 exact hb.trans ⟨hg.os, hg.tape, hg.output, hg.size, fun k hk => hg.block k (Nat.lt_of_lt_of_le hk hb.size) (fun e => by have := (hr k e.symm).1; omega)⟩
theorem ApAt.app1 {w0 W W1 V V1 : World} {b mp : Nat} {s s2 : Option Nat} {Ad : Option Addr} {cd : Nat} {defs : List S61} {st2 : St} {T6 T7 B : Nat} {a d : S74} {Af Ae Bf Be : Option Addr} {cf ce df de : Nat} {vf ve u : Value} {lf le l : List S94} (hw : w0.heap.size ≤ W1.heap.size) (h : ApAt w0 W W1 V b mp s s2 Ad cd defs st2 T6 T7 B a d Af Ae Bf Be cf ce df de vf ve lf le)
  (hr : Kd.R k94 94 V1 W1.heap.size (fun k => ¬ Zn b mp s2 k ∧ some k ≠ ve.ownBlock) u l) (hg : V.grownBy V1 vf.ownBlock) (hat : u.ownBlock = vf.ownBlock ∨ ∃ g, u.ownBlock = some g ∧ V.heap.size ≤ g) : ApAt w0 W W1 V1 b mp s s2 Ad cd defs st2 T6 T7 B a d Af Ae Bf Be cf ce df de u ve l le where
 ch := h.ch.app hw hg (fun k hk => ⟨(spR_lt h.rf k hk).1, (h.rf.1 k hk).1⟩)
 rf := hr
 re := spR_to h.re (fun k hk => hg.block k (spR_lt h.re k hk).2 (h.re.1 k hk).2) (fun k hk => ⟨(h.re.1 k hk).1, fun e => by
  rcases hat with e2 | ⟨g, e2, hge⟩
  ·exact (h.re.1 k hk).2 (by rw [e, e2])
  ·rw [e2] at e; injection e with e; have := (spR_lt h.re k hk).2; omega⟩)
 t6 := ap_keep h.rf hg h.t6 (by decide)
 t7 := ap_keep h.rf hg h.t7 (by decide)
 l6 := h.l6
 l7 := h.l7
theorem ApAt.app2 {w0 W W1 V V1 : World} {b mp : Nat} {s s2 : Option Nat} {Ad : Option Addr} {cd : Nat} {defs : List S61} {st2 : St} {T6 T7 B : Nat} {a d : S74} {Af Ae Bf Be : Option Addr} {cf ce df de : Nat} {vf ve u : Value} {lf le l : List S94} (hw : w0.heap.size ≤ W1.heap.size) (h : ApAt w0 W W1 V b mp s s2 Ad cd defs st2 T6 T7 B a d Af Ae Bf Be cf ce df de vf ve lf le)
  (hr : Kd.R k94 94 V1 W1.heap.size (fun k => ¬ Zn b mp s2 k ∧ some k ≠ vf.ownBlock) u l) (hg : V.grownBy V1 ve.ownBlock) (hat : u.ownBlock = ve.ownBlock ∨ ∃ g, u.ownBlock = some g ∧ V.heap.size ≤ g) : ApAt w0 W W1 V1 b mp s s2 Ad cd defs st2 T6 T7 B a d Af Ae Bf Be cf ce df de vf u lf l where
 ch := h.ch.app hw hg (fun k hk => ⟨(spR_lt h.re k hk).1, (h.re.1 k hk).1⟩)
 re := hr
 rf := spR_to h.rf (fun k hk => hg.block k (spR_lt h.rf k hk).2 (h.rf.1 k hk).2) (fun k hk => ⟨(h.rf.1 k hk).1, fun e => by
  rcases hat with e2 | ⟨g, e2, hge⟩
  ·exact (h.rf.1 k hk).2 (by rw [e, e2])
  ·rw [e2] at e; injection e with e; have := (spR_lt h.rf k hk).2; omega⟩)
 t6 := ap_keep h.re hg h.t6 (by decide)
 t7 := ap_keep h.re hg h.t7 (by decide)
 l6 := h.l6
 l7 := h.l7
/-- What b's rows are behind the appends: they lie behind a's. -/
structure BAt (V : World) (B b mp : Nat) (s2 : Option Nat) (d : S74) (Bf Be : Option Addr) (df de : Nat) (ve : Value) : Prop where
 rb : RowsAt V B b mp s2 d Bf Be df de
 lt : ∀ k, ve.ownBlock = some k → k < B
theorem BAt.below {V V1 : World} {B b mp : Nat} {s2 : Option Nat} {d : S74} {Bf Be : Option Addr} {df de : Nat} {ve : Value} (h : BAt V B b mp s2 d Bf Be df de ve) (hb : Below V.heap.size V V1) : BAt V1 B b mp s2 d Bf Be df de ve := ⟨h.rb.below hb, h.lt⟩
theorem BAt.app {V V1 : World} {B b mp : Nat} {s2 : Option Nat} {d : S74} {Bf Be : Option Addr} {df de : Nat} {ve vf : Value} (h : BAt V B b mp s2 d Bf Be df de ve) (hl : ∀ k, vf.ownBlock = some k → k < B) (hg : V.grownBy V1 vf.ownBlock) : BAt V1 B b mp s2 d Bf Be df de ve :=
 ⟨⟨spR_to h.rb.f (fun k hk => hg.block k (spR_lt h.rb.f k hk).2 (fun e => by have := hl k e.symm; have := (spR_lt h.rb.f k hk).1; omega)) h.rb.f.1, spR_to h.rb.e (fun k hk => hg.block k (spR_lt h.rb.e k hk).2 (fun e => by have := hl k e.symm; have := (spR_lt h.rb.e k hk).1; omega)) h.rb.e.1⟩, h.lt⟩
theorem min2_calls (a b : Int) (g : Nat) (w : World) (h : w.heap[g]? = some (.cells #[.int .i64 a, .int .i64 b] 3 (0, 0))) : Calls Try.prog 35 #[.slice (some ⟨g, 0, none⟩) 2 2] w fun e w' => e = .returned (.int .i64 (mn (mn 1152921504606846976 a) b)) ∧ Below w.heap.size w w' :=
 trop_Min.calls 3 (some ⟨g, 0, none⟩) 2 [a, b] _ w (Kd.R_reads' (intR_mk (e := 3) (base := 0) (cap := 2) (ok := fun _ => True) (l := [a, b]) trivial (Nat.zero_le _) h (by simp) (by decide) (by simp) (by rfl))).2.2 (by simp) (by
  show trop_Min.l0 3 1152921504606846976 [a, b] 2 0 = _
  simp [trop_Min.l0, rd, wrap64])
section
variable {w0 W W1 V : World} {b mp : Nat} {s s2 : Option Nat} {Ad : Option Addr} {cd : Nat} {defs : List S61} {st2 : St} {T6 T7 B : Nat} {a d : S74} {Af Ae Bf Be : Option Addr} {cf ce df de : Nat} {vf ve : Value} {lf le : List S94}
theorem ApAt.fresh1 (h : ApAt w0 W W1 V b mp s s2 Ad cd defs st2 T6 T7 B a d Af Ae Bf Be cf ce df de vf ve lf le) : ∀ k, V.heap.size ≤ k → ¬ Zn b mp s2 k ∧ some k ≠ ve.ownBlock :=
 fun k hk => ⟨fun hz => by have := h.ch.ma.s_lt hz; omega, fun e => by have := (spR_lt h.re k e.symm).2; omega⟩
theorem ApAt.fresh2 (h : ApAt w0 W W1 V b mp s s2 Ad cd defs st2 T6 T7 B a d Af Ae Bf Be cf ce df de vf ve lf le) : ∀ k, V.heap.size ≤ k → ¬ Zn b mp s2 k ∧ some k ≠ vf.ownBlock :=
 fun k hk => ⟨fun hz => by have := h.ch.ma.s_lt hz; omega, fun e => by have := (spR_lt h.rf k e.symm).2; omega⟩
theorem ApAt.base (h : ApAt w0 W W1 V b mp s s2 Ad cd defs st2 T6 T7 B a d Af Ae Bf Be cf ce df de vf ve lf le) : W1.heap.size ≤ V.heap.size := h.ch.k.1
end
theorem heap_new_drew (w : World) (cs : Array Value) (t : TypeId) : (w.alloc (.cells cs t)).drew.heap[w.heap.size]? = some (.cells cs t (0, 0)) := heap_alloc_new w _
set_option maxRecDepth 100000 in
set_option maxHeartbeats 60000000 in
theorem make_alt (defs : List S61) (sz : S33 → Option Int) (n : Nat) (ih : mkOk defs sz n) (w0 W : World) (b mp : Nat) (s : Option Nat) (Ad : Option Addr) (cd : Nat) (st st' : St) (p : S74) (x : S33) (A5 : Option Addr) (c5 : Nat) (hM : MkAt w0 W b mp s Ad cd defs st) (hF : Kd.F k33 W (fun k => ¬ Zn b mp s k) A5 x.f5.length x.f5) (hc5 : x.f5.length ≤ c5) (hx : x.f0 = 5) (h : mkF defs sz (n + 1) x st = some (p, st')) :
  Calls Try.prog 30 #[.pointer (some ⟨b, 0, none⟩), .agg #[.int .i64 x.f0, .int .i64 x.f1, .int .i64 x.f2, .int .i64 x.f3, .string x.f4, .slice A5 x.f5.length c5]] W (MadeBy w0 W b mp s Ad cd defs st' p) := by
 rw [mkF, if_neg (by omega), if_neg (by omega), if_neg (by omega), if_pos hx] at h
 obtain ⟨⟨a, st1⟩, ha, h⟩ := Option.bind_eq_some_iff.1 h
 obtain ⟨⟨d, st2⟩, hd, h⟩ := Option.bind_eq_some_iff.1 h
 simp only [altF] at h
 by_cases hok : okP a = true ∧ okP d = true
 case neg => rw [if_neg hok] at h; cases h
 rw [if_pos hok] at h
 injection h with h
 injection h with h1 h2
 subst h1 h2
 have HA := Aside0.mk ha
 have HD := Aside0.mk hd
 have HOK := Aside0.mk hok
 obtain ⟨W1, hWW⟩ : ∃ W1, (W.alloc (.cells #[.int .i64 x.f0, .int .i64 x.f1, .int .i64 x.f2, .int .i64 x.f3, .string x.f4, .slice A5 x.f5.length c5] 33)).alloc (.cells #[.slice none 0 0, .slice none 0 0, .int .i64 0] 74) = W1 := ⟨_, rfl⟩
 have hW1 := below_alloc (below_alloc (Below.refl W.heap.size W) (.cells #[.int .i64 x.f0, .int .i64 x.f1, .int .i64 x.f2, .int .i64 x.f3, .string x.f4, .slice A5 x.f5.length c5] 33)) (.cells #[.slice none 0 0, .slice none 0 0, .int .i64 0] 74)
 have hx0 : W1.heap[W.heap.size]? = some (.cells #[.int .i64 x.f0, .int .i64 x.f1, .int .i64 x.f2, .int .i64 x.f3, .string x.f4, .slice A5 x.f5.length c5] 33 (0, 0)) := by rw [← hWW]; exact blk_alloc (heap_alloc_new W _) _
 have hr0 : W1.heap[W.heap.size + 1]? = some (.cells #[.slice none 0 0, .slice none 0 0, .int .i64 0] 74 (0, 0)) := by
  have h := heap_alloc_new (W.alloc (.cells #[.int .i64 x.f0, .int .i64 x.f1, .int .i64 x.f2, .int .i64 x.f3, .string x.f4, .slice A5 x.f5.length c5] 33)) (.cells #[.slice none 0 0, .slice none 0 0, .int .i64 0] 74)
  rwa [hWW, show (W.alloc (.cells #[.int .i64 x.f0, .int .i64 x.f1, .int .i64 x.f2, .int .i64 x.f3, .string x.f4, .slice A5 x.f5.length c5] 33)).heap.size = W.heap.size + 1 from Array.size_push _] at h
 rw [hWW] at hW1
 have HM := Aside0.mk hM
 have HW1 := Aside0.mk hW1
 have HCH := Aside0.mk (Chn.start hM hW1)
 have HF1 := Aside0.mk (Kd.F_below hF hW1)
 have HC5 := Aside0.mk hc5
 have HR0 := Aside0.mk hr0
 have HX0 := Aside0.mk hx0
 have HZX : Aside0 (¬ Zn b mp s W.heap.size ∧ ¬ Zn b mp s (W.heap.size + 1)) := ⟨fun hz => by have := hM.s_lt hz; omega, fun hz => by have := hM.s_lt hz; omega⟩
 have hlt1 := blk_lt hr0
 have HLT := Aside0.mk hlt1
 have d0 := cellAt (i := 0) (u := .int .i64 x.f0) hx0 rfl
 have d1 := cellAt (i := 1) (u := .int .i64 x.f1) hx0 rfl
 have d2 := cellAt (i := 2) (u := .int .i64 x.f2) hx0 rfl
 have d3 := cellAt (i := 3) (u := .int .i64 x.f3) hx0 rfl
 have d4 := cellAt (i := 4) (u := .string x.f4) hx0 rfl
 have d5 := cellAt (i := 5) (u := .slice A5 x.f5.length c5) hx0 rfl
 clear hM hW1 hx0 hr0 hlt1 hF hc5
 have e2 : (x.f0 == 2) = false := by rw [hx]; rfl
 have e3 : (x.f0 == 3) = false := by rw [hx]; rfl
 have e4 : (x.f0 == 4) = false := by rw [hx]; rfl
 have e5 : (x.f0 == 5) = true := by rw [hx]; rfl
 clear ha hd hok hx
 go_enter Try.func30, Try.ntmps30
 go_upto_region 9 with (fail)
 go_cut [6, 7] (fun v6 v7 wc => Aside0 (AltRel w0 W W1 b mp s Ad cd defs st2 a d v6 v7 wc))
 case first =>
  clear d0 d1 d2 d3 d4 d5
  have HM1 := Aside0.mk (HCH.out.ma)
  have HLW := Aside0.mk (Nat.le_refl W1.heap.size)
  have HSX : Aside0 (∀ V : World, (∀ k, k < W1.heap.size → ¬ Zn b mp s k → V.heap[k]? = W1.heap[k]?) → V.cell? ⟨W.heap.size, 0, none⟩ = some (.int .i64 x.f0) ∧ V.cell? ⟨W.heap.size, 1, none⟩ = some (.int .i64 x.f1) ∧ V.cell? ⟨W.heap.size, 2, none⟩ = some (.int .i64 x.f2) ∧ V.cell? ⟨W.heap.size, 3, none⟩ = some (.int .i64 x.f3) ∧ V.cell? ⟨W.heap.size, 4, none⟩ = some (.string x.f4) ∧ V.cell? ⟨W.heap.size, 5, none⟩ = some (.slice A5 x.f5.length c5)) := ⟨fun V hV => by have hh := (hV W.heap.size (blk_lt HX0.out) HZX.out.1).trans HX0.out; exact ⟨cellAt hh rfl, cellAt hh rfl, cellAt hh rfl, cellAt hh rfl, cellAt hh rfl, cellAt hh rfl⟩⟩
  have MK1 := True.intro
  have MK2 := True.intro
  go_region_held3 (fun w' => w'.cell? ⟨W.heap.size, 0, none⟩ = some (.int .i64 x.f0) ∧ w'.cell? ⟨W.heap.size, 1, none⟩ = some (.int .i64 x.f1) ∧ w'.cell? ⟨W.heap.size, 2, none⟩ = some (.int .i64 x.f2) ∧ w'.cell? ⟨W.heap.size, 3, none⟩ = some (.int .i64 x.f3) ∧ w'.cell? ⟨W.heap.size, 4, none⟩ = some (.string x.f4) ∧ w'.cell? ⟨W.heap.size, 5, none⟩ = some (.slice A5 x.f5.length c5)) (refine ⟨?_, ?_, ?_, ?_, ?_, ?_⟩ <;> (repeat (with_reducible refine set3_cell (by first | (have := HLT.out; have := HL2.out; omega) | (have := HLT.out; have := HL3.out; omega) | (have := HLT.out; have := HL4.out; omega) | (have := HLT.out; have := HL5.out; omega) | (have := HLT.out; simp; omega)) ?_)) <;> (refine chn_s HCH.out HX0.out HZX.out.1 ?_ _ _ rfl; exact Bel)) (first | (go_at_call 41; clear MK1; (with_reducible refine (part0_calls x A5 c5 (fun k => ¬ Zn b mp s k) _ ?h5 HC5.out).mono ?_); (case h5 => exact Chn.foot (Chn.below HCH.out Bel) HF1.out); rintro e w2 ⟨A0, c0, rfl, hF0, hc0, hb2⟩; have HF0 := Aside0.mk (foot_new (Chn.ma (Chn.below HCH.out Bel)) hF0); have HC0 := Aside0.mk hc0; have HK1 := Aside0.mk (kept_b hb2 b mp s); have HCn := Aside0.mk (Chn.below (Chn.below HCH.out Bel) hb2); clear HCH hF0 hc0 hb2; have HCH := HCn; clear HCn; have HM2 := Aside0.mk HCH.out.ma; have HL2 := Aside0.mk HCH.out.k.1; (try have SN1a := Aside0.mk (Sep.made HK1.out (Sep.new HM1.out 74 #[.slice none 0 0, .slice none 0 0, .int .i64 0]))); (try have SN1a := Aside0.mk (Sep.made HK1.out (Sep.alloc (Sep.new HM1.out 74 #[.slice none 0 0, .slice none 0 0, .int .i64 0]) _))); (try have SN1b := Aside0.mk (Sep.made HK1.out (Sep.new2 HM1.out _ 74 #[.slice none 0 0, .slice none 0 0, .int .i64 0]))); (try have SN1a := Aside0.mk (Sep.made HK1.out (Sep.drew (Sep.new HM1.out 74 #[.slice none 0 0, .slice none 0 0, .int .i64 0])))); (try have SN1a := Aside0.mk (Sep.made HK1.out (Sep.drew (Sep.alloc (Sep.new HM1.out 74 #[.slice none 0 0, .slice none 0 0, .int .i64 0]) _)))); (try have SN1b := Aside0.mk (Sep.made HK1.out (Sep.drew (Sep.new2 HM1.out _ 74 #[.slice none 0 0, .slice none 0 0, .int .i64 0]))))) | (go_at_call 30; clear MK2; (with_reducible refine (ih.use w0 _ b mp s Ad cd st st1 a (xpart x 0) A0 c0 ?h5 ?h6 HC0.out HA.out).mono ?_); (case h5 => exact Chn.ma (Chn.below HCH.out Bel)); (case h6 => exact Kd.F_below HF0.out Bel); rintro e w3 ⟨s1, Af, Ae, cf, ce, rfl, m1, m2, m3, m4, m5⟩; have HK2 := Aside0.mk (And.intro m2 m3); have HRA := Aside0.mk (RowsAt.lower (RowsAt.of (Chn.ma (Chn.below HCH.out Bel)) m4 m5) ((Chn.k (Chn.below HCH.out Bel)).1)); have HCn := Aside0.mk (Chn.made (Chn.below HCH.out Bel) m1 m2 m3); clear HCH m1 m2 m3 m4 m5; have HCH := HCn; clear HCn; have HM3 := Aside0.mk HCH.out.ma; have HL3 := Aside0.mk HCH.out.k.1; (try have LT1a2 := Aside0.mk (blk_lt SN1a.out.1)); (try (have SNx := Aside0.mk (Sep.made HK2.out (Sep.below SN1a.out Bel)); clear SN1a; have SN1a := SNx; clear SNx)); (try have LT1b2 := Aside0.mk (blk_lt SN1b.out.1)); (try (have SNx := Aside0.mk (Sep.made HK2.out (Sep.below SN1b.out Bel)); clear SN1b; have SN1b := SNx; clear SNx)); (try have SN2a := Aside0.mk (Sep.made HK2.out (Sep.new HM2.out 74 #[.slice none 0 0, .slice none 0 0, .int .i64 0]))); (try have SN2a := Aside0.mk (Sep.made HK2.out (Sep.alloc (Sep.new HM2.out 74 #[.slice none 0 0, .slice none 0 0, .int .i64 0]) _))); (try have SN2b := Aside0.mk (Sep.made HK2.out (Sep.new2 HM2.out _ 74 #[.slice none 0 0, .slice none 0 0, .int .i64 0])))) | (go_at_call 41; (with_reducible refine (part1_calls x A5 c5 (fun k => ¬ Zn b mp s1 k) _ ?h5 HC5.out).mono ?_); (case h5 => exact Chn.foot (Chn.below HCH.out Bel) HF1.out); rintro e w5 ⟨A1, c1_, rfl, hF0, hc0, hb2⟩; have HF2 := Aside0.mk (foot_new (Chn.ma (Chn.below HCH.out Bel)) hF0); have HC2 := Aside0.mk hc0; have HK3 := Aside0.mk (kept_b hb2 b mp s1); have HCn := Aside0.mk (Chn.below (Chn.below HCH.out Bel) hb2); have HRn := Aside0.mk (RowsAt.below (RowsAt.below HRA.out Bel) hb2); clear HCH HRA hF0 hc0 hb2; have HCH := HCn; have HRA := HRn; clear HCn HRn; have HM4 := Aside0.mk HCH.out.ma; have HL4 := Aside0.mk HCH.out.k.1; (try have LT1a3 := Aside0.mk (blk_lt SN1a.out.1)); (try (have SNx := Aside0.mk (Sep.made HK3.out (Sep.below SN1a.out Bel)); clear SN1a; have SN1a := SNx; clear SNx)); (try have LT1b3 := Aside0.mk (blk_lt SN1b.out.1)); (try (have SNx := Aside0.mk (Sep.made HK3.out (Sep.below SN1b.out Bel)); clear SN1b; have SN1b := SNx; clear SNx)); (try have LT2a3 := Aside0.mk (blk_lt SN2a.out.1)); (try (have SNx := Aside0.mk (Sep.made HK3.out (Sep.below SN2a.out Bel)); clear SN2a; have SN2a := SNx; clear SNx)); (try have LT2b3 := Aside0.mk (blk_lt SN2b.out.1)); (try (have SNx := Aside0.mk (Sep.made HK3.out (Sep.below SN2b.out Bel)); clear SN2b; have SN2b := SNx; clear SNx)); (try have SN3a := Aside0.mk (Sep.made HK3.out (Sep.new HM3.out 74 #[.slice none 0 0, .slice none 0 0, .int .i64 0]))); (try have SN3a := Aside0.mk (Sep.made HK3.out (Sep.alloc (Sep.new HM3.out 74 #[.slice none 0 0, .slice none 0 0, .int .i64 0]) _))); (try have SN3b := Aside0.mk (Sep.made HK3.out (Sep.new2 HM3.out _ 74 #[.slice none 0 0, .slice none 0 0, .int .i64 0])))) | (go_at_call 30; (with_reducible refine (ih.use w0 _ b mp s1 Ad cd st1 st2 d (xpart x 1) A1 c1_ ?h5 ?h6 HC2.out HD.out).mono ?_); (case h5 => exact Chn.ma (Chn.below HCH.out Bel)); (case h6 => exact Kd.F_below HF2.out Bel); rintro e w6 ⟨s2, Bf, Be, df, de, rfl, m1, m2, m3, m4, m5⟩; have HK4 := Aside0.mk (And.intro m2 m3); have HRB := Aside0.mk (RowsAt.of (Chn.ma (Chn.below HCH.out Bel)) m4 m5); have HLT4 := Aside0.mk (rows_lt HRA.out m2 Bel (Chn.below HCH.out Bel)); have HRn := Aside0.mk (RowsAt.kept (RowsAt.below HRA.out Bel) m2 m3); have HCn := Aside0.mk (Chn.made (Chn.below HCH.out Bel) m1 m2 m3); clear HCH HRA m1 m2 m3 m4 m5; have HCH := HCn; have HRA := HRn; clear HCn HRn; have HM5 := Aside0.mk HCH.out.ma; have HL5 := Aside0.mk HCH.out.k.1; (try have LT1a4 := Aside0.mk (blk_lt SN1a.out.1)); (try (have SNx := Aside0.mk (Sep.made HK4.out (Sep.below SN1a.out Bel)); clear SN1a; have SN1a := SNx; clear SNx)); (try have LT1b4 := Aside0.mk (blk_lt SN1b.out.1)); (try (have SNx := Aside0.mk (Sep.made HK4.out (Sep.below SN1b.out Bel)); clear SN1b; have SN1b := SNx; clear SNx)); (try have LT2a4 := Aside0.mk (blk_lt SN2a.out.1)); (try (have SNx := Aside0.mk (Sep.made HK4.out (Sep.below SN2a.out Bel)); clear SN2a; have SN2a := SNx; clear SNx)); (try have LT2b4 := Aside0.mk (blk_lt SN2b.out.1)); (try (have SNx := Aside0.mk (Sep.made HK4.out (Sep.below SN2b.out Bel)); clear SN2b; have SN2b := SNx; clear SNx)); (try have LT3a4 := Aside0.mk (blk_lt SN3a.out.1)); (try (have SNx := Aside0.mk (Sep.made HK4.out (Sep.below SN3a.out Bel)); clear SN3a; have SN3a := SNx; clear SNx)); (try have LT3b4 := Aside0.mk (blk_lt SN3b.out.1)); (try (have SNx := Aside0.mk (Sep.made HK4.out (Sep.below SN3b.out Bel)); clear SN3b; have SN3b := SNx; clear SNx)); (try have SN4a := Aside0.mk (Sep.made HK4.out (Sep.new HM4.out 74 #[.slice none 0 0, .slice none 0 0, .int .i64 0]))); (try have SN4a := Aside0.mk (Sep.made HK4.out (Sep.alloc (Sep.new HM4.out 74 #[.slice none 0 0, .slice none 0 0, .int .i64 0]) _))); (try have SN4b := Aside0.mk (Sep.made HK4.out (Sep.new2 HM4.out _ 74 #[.slice none 0 0, .slice none 0 0, .int .i64 0]))); (try (have q1a_00 := cellAt (i := 0) (u := .slice none 0 0) SN1a.out.1 rfl; have z1a_00 := blk_frozen SN1a.out.1 0; have q1a_01 := cellAt (i := 1) (u := .slice none 0 0) SN1a.out.1 rfl; have z1a_01 := blk_frozen SN1a.out.1 1; have q1a_02 := cellAt (i := 2) (u := .int .i64 0) SN1a.out.1 rfl; have z1a_02 := blk_frozen SN1a.out.1 2; have q1a_10 := fun o_ => cellAt (i := 0) (u := .slice none 0 0) (blk_alloc SN1a.out.1 o_) rfl; have z1a_10 := fun o_ => blk_frozen (blk_alloc SN1a.out.1 o_) 0; have q1a_11 := fun o_ => cellAt (i := 1) (u := .slice none 0 0) (blk_alloc SN1a.out.1 o_) rfl; have z1a_11 := fun o_ => blk_frozen (blk_alloc SN1a.out.1 o_) 1; have q1a_12 := fun o_ => cellAt (i := 2) (u := .int .i64 0) (blk_alloc SN1a.out.1 o_) rfl; have z1a_12 := fun o_ => blk_frozen (blk_alloc SN1a.out.1 o_) 2; have q1a_20 := fun o_ p_ => cellAt (i := 0) (u := .slice none 0 0) (blk_alloc (blk_alloc SN1a.out.1 o_) p_) rfl; have z1a_20 := fun o_ p_ => blk_frozen (blk_alloc (blk_alloc SN1a.out.1 o_) p_) 0; have q1a_21 := fun o_ p_ => cellAt (i := 1) (u := .slice none 0 0) (blk_alloc (blk_alloc SN1a.out.1 o_) p_) rfl; have z1a_21 := fun o_ p_ => blk_frozen (blk_alloc (blk_alloc SN1a.out.1 o_) p_) 1; have q1a_22 := fun o_ p_ => cellAt (i := 2) (u := .int .i64 0) (blk_alloc (blk_alloc SN1a.out.1 o_) p_) rfl; have z1a_22 := fun o_ p_ => blk_frozen (blk_alloc (blk_alloc SN1a.out.1 o_) p_) 2)); (try (have na1a2 := Nat.ne_of_lt LT1a2.out; have nb1a2 := Nat.ne_of_gt LT1a2.out; have nc1a2 := Nat.ne_of_lt (Nat.lt_succ_of_lt LT1a2.out); have nd1a2 := Nat.ne_of_gt (Nat.lt_succ_of_lt LT1a2.out))); (try (have na1a3 := Nat.ne_of_lt LT1a3.out; have nb1a3 := Nat.ne_of_gt LT1a3.out; have nc1a3 := Nat.ne_of_lt (Nat.lt_succ_of_lt LT1a3.out); have nd1a3 := Nat.ne_of_gt (Nat.lt_succ_of_lt LT1a3.out))); (try (have na1a4 := Nat.ne_of_lt LT1a4.out; have nb1a4 := Nat.ne_of_gt LT1a4.out; have nc1a4 := Nat.ne_of_lt (Nat.lt_succ_of_lt LT1a4.out); have nd1a4 := Nat.ne_of_gt (Nat.lt_succ_of_lt LT1a4.out))); (try (have na1a5 := Nat.ne_of_lt (blk_lt SN1a.out.1); have nb1a5 := Nat.ne_of_gt (blk_lt SN1a.out.1); have nc1a5 := Nat.ne_of_lt (Nat.lt_succ_of_lt (blk_lt SN1a.out.1)); have nd1a5 := Nat.ne_of_gt (Nat.lt_succ_of_lt (blk_lt SN1a.out.1)))); (try (have q1b_00 := cellAt (i := 0) (u := .slice none 0 0) SN1b.out.1 rfl; have z1b_00 := blk_frozen SN1b.out.1 0; have q1b_01 := cellAt (i := 1) (u := .slice none 0 0) SN1b.out.1 rfl; have z1b_01 := blk_frozen SN1b.out.1 1; have q1b_02 := cellAt (i := 2) (u := .int .i64 0) SN1b.out.1 rfl; have z1b_02 := blk_frozen SN1b.out.1 2; have q1b_10 := fun o_ => cellAt (i := 0) (u := .slice none 0 0) (blk_alloc SN1b.out.1 o_) rfl; have z1b_10 := fun o_ => blk_frozen (blk_alloc SN1b.out.1 o_) 0; have q1b_11 := fun o_ => cellAt (i := 1) (u := .slice none 0 0) (blk_alloc SN1b.out.1 o_) rfl; have z1b_11 := fun o_ => blk_frozen (blk_alloc SN1b.out.1 o_) 1; have q1b_12 := fun o_ => cellAt (i := 2) (u := .int .i64 0) (blk_alloc SN1b.out.1 o_) rfl; have z1b_12 := fun o_ => blk_frozen (blk_alloc SN1b.out.1 o_) 2; have q1b_20 := fun o_ p_ => cellAt (i := 0) (u := .slice none 0 0) (blk_alloc (blk_alloc SN1b.out.1 o_) p_) rfl; have z1b_20 := fun o_ p_ => blk_frozen (blk_alloc (blk_alloc SN1b.out.1 o_) p_) 0; have q1b_21 := fun o_ p_ => cellAt (i := 1) (u := .slice none 0 0) (blk_alloc (blk_alloc SN1b.out.1 o_) p_) rfl; have z1b_21 := fun o_ p_ => blk_frozen (blk_alloc (blk_alloc SN1b.out.1 o_) p_) 1; have q1b_22 := fun o_ p_ => cellAt (i := 2) (u := .int .i64 0) (blk_alloc (blk_alloc SN1b.out.1 o_) p_) rfl; have z1b_22 := fun o_ p_ => blk_frozen (blk_alloc (blk_alloc SN1b.out.1 o_) p_) 2)); (try (have na1b2 := Nat.ne_of_lt LT1b2.out; have nb1b2 := Nat.ne_of_gt LT1b2.out; have nc1b2 := Nat.ne_of_lt (Nat.lt_succ_of_lt LT1b2.out); have nd1b2 := Nat.ne_of_gt (Nat.lt_succ_of_lt LT1b2.out))); (try (have na1b3 := Nat.ne_of_lt LT1b3.out; have nb1b3 := Nat.ne_of_gt LT1b3.out; have nc1b3 := Nat.ne_of_lt (Nat.lt_succ_of_lt LT1b3.out); have nd1b3 := Nat.ne_of_gt (Nat.lt_succ_of_lt LT1b3.out))); (try (have na1b4 := Nat.ne_of_lt LT1b4.out; have nb1b4 := Nat.ne_of_gt LT1b4.out; have nc1b4 := Nat.ne_of_lt (Nat.lt_succ_of_lt LT1b4.out); have nd1b4 := Nat.ne_of_gt (Nat.lt_succ_of_lt LT1b4.out))); (try (have na1b5 := Nat.ne_of_lt (blk_lt SN1b.out.1); have nb1b5 := Nat.ne_of_gt (blk_lt SN1b.out.1); have nc1b5 := Nat.ne_of_lt (Nat.lt_succ_of_lt (blk_lt SN1b.out.1)); have nd1b5 := Nat.ne_of_gt (Nat.lt_succ_of_lt (blk_lt SN1b.out.1)))); (try (have q2a_00 := cellAt (i := 0) (u := .slice none 0 0) SN2a.out.1 rfl; have z2a_00 := blk_frozen SN2a.out.1 0; have q2a_01 := cellAt (i := 1) (u := .slice none 0 0) SN2a.out.1 rfl; have z2a_01 := blk_frozen SN2a.out.1 1; have q2a_02 := cellAt (i := 2) (u := .int .i64 0) SN2a.out.1 rfl; have z2a_02 := blk_frozen SN2a.out.1 2; have q2a_10 := fun o_ => cellAt (i := 0) (u := .slice none 0 0) (blk_alloc SN2a.out.1 o_) rfl; have z2a_10 := fun o_ => blk_frozen (blk_alloc SN2a.out.1 o_) 0; have q2a_11 := fun o_ => cellAt (i := 1) (u := .slice none 0 0) (blk_alloc SN2a.out.1 o_) rfl; have z2a_11 := fun o_ => blk_frozen (blk_alloc SN2a.out.1 o_) 1; have q2a_12 := fun o_ => cellAt (i := 2) (u := .int .i64 0) (blk_alloc SN2a.out.1 o_) rfl; have z2a_12 := fun o_ => blk_frozen (blk_alloc SN2a.out.1 o_) 2; have q2a_20 := fun o_ p_ => cellAt (i := 0) (u := .slice none 0 0) (blk_alloc (blk_alloc SN2a.out.1 o_) p_) rfl; have z2a_20 := fun o_ p_ => blk_frozen (blk_alloc (blk_alloc SN2a.out.1 o_) p_) 0; have q2a_21 := fun o_ p_ => cellAt (i := 1) (u := .slice none 0 0) (blk_alloc (blk_alloc SN2a.out.1 o_) p_) rfl; have z2a_21 := fun o_ p_ => blk_frozen (blk_alloc (blk_alloc SN2a.out.1 o_) p_) 1; have q2a_22 := fun o_ p_ => cellAt (i := 2) (u := .int .i64 0) (blk_alloc (blk_alloc SN2a.out.1 o_) p_) rfl; have z2a_22 := fun o_ p_ => blk_frozen (blk_alloc (blk_alloc SN2a.out.1 o_) p_) 2)); (try (have na2a3 := Nat.ne_of_lt LT2a3.out; have nb2a3 := Nat.ne_of_gt LT2a3.out; have nc2a3 := Nat.ne_of_lt (Nat.lt_succ_of_lt LT2a3.out); have nd2a3 := Nat.ne_of_gt (Nat.lt_succ_of_lt LT2a3.out))); (try (have na2a4 := Nat.ne_of_lt LT2a4.out; have nb2a4 := Nat.ne_of_gt LT2a4.out; have nc2a4 := Nat.ne_of_lt (Nat.lt_succ_of_lt LT2a4.out); have nd2a4 := Nat.ne_of_gt (Nat.lt_succ_of_lt LT2a4.out))); (try (have na2a5 := Nat.ne_of_lt (blk_lt SN2a.out.1); have nb2a5 := Nat.ne_of_gt (blk_lt SN2a.out.1); have nc2a5 := Nat.ne_of_lt (Nat.lt_succ_of_lt (blk_lt SN2a.out.1)); have nd2a5 := Nat.ne_of_gt (Nat.lt_succ_of_lt (blk_lt SN2a.out.1)))); (try (have q2b_00 := cellAt (i := 0) (u := .slice none 0 0) SN2b.out.1 rfl; have z2b_00 := blk_frozen SN2b.out.1 0; have q2b_01 := cellAt (i := 1) (u := .slice none 0 0) SN2b.out.1 rfl; have z2b_01 := blk_frozen SN2b.out.1 1; have q2b_02 := cellAt (i := 2) (u := .int .i64 0) SN2b.out.1 rfl; have z2b_02 := blk_frozen SN2b.out.1 2; have q2b_10 := fun o_ => cellAt (i := 0) (u := .slice none 0 0) (blk_alloc SN2b.out.1 o_) rfl; have z2b_10 := fun o_ => blk_frozen (blk_alloc SN2b.out.1 o_) 0; have q2b_11 := fun o_ => cellAt (i := 1) (u := .slice none 0 0) (blk_alloc SN2b.out.1 o_) rfl; have z2b_11 := fun o_ => blk_frozen (blk_alloc SN2b.out.1 o_) 1; have q2b_12 := fun o_ => cellAt (i := 2) (u := .int .i64 0) (blk_alloc SN2b.out.1 o_) rfl; have z2b_12 := fun o_ => blk_frozen (blk_alloc SN2b.out.1 o_) 2; have q2b_20 := fun o_ p_ => cellAt (i := 0) (u := .slice none 0 0) (blk_alloc (blk_alloc SN2b.out.1 o_) p_) rfl; have z2b_20 := fun o_ p_ => blk_frozen (blk_alloc (blk_alloc SN2b.out.1 o_) p_) 0; have q2b_21 := fun o_ p_ => cellAt (i := 1) (u := .slice none 0 0) (blk_alloc (blk_alloc SN2b.out.1 o_) p_) rfl; have z2b_21 := fun o_ p_ => blk_frozen (blk_alloc (blk_alloc SN2b.out.1 o_) p_) 1; have q2b_22 := fun o_ p_ => cellAt (i := 2) (u := .int .i64 0) (blk_alloc (blk_alloc SN2b.out.1 o_) p_) rfl; have z2b_22 := fun o_ p_ => blk_frozen (blk_alloc (blk_alloc SN2b.out.1 o_) p_) 2)); (try (have na2b3 := Nat.ne_of_lt LT2b3.out; have nb2b3 := Nat.ne_of_gt LT2b3.out; have nc2b3 := Nat.ne_of_lt (Nat.lt_succ_of_lt LT2b3.out); have nd2b3 := Nat.ne_of_gt (Nat.lt_succ_of_lt LT2b3.out))); (try (have na2b4 := Nat.ne_of_lt LT2b4.out; have nb2b4 := Nat.ne_of_gt LT2b4.out; have nc2b4 := Nat.ne_of_lt (Nat.lt_succ_of_lt LT2b4.out); have nd2b4 := Nat.ne_of_gt (Nat.lt_succ_of_lt LT2b4.out))); (try (have na2b5 := Nat.ne_of_lt (blk_lt SN2b.out.1); have nb2b5 := Nat.ne_of_gt (blk_lt SN2b.out.1); have nc2b5 := Nat.ne_of_lt (Nat.lt_succ_of_lt (blk_lt SN2b.out.1)); have nd2b5 := Nat.ne_of_gt (Nat.lt_succ_of_lt (blk_lt SN2b.out.1)))); (try (have q3a_00 := cellAt (i := 0) (u := .slice none 0 0) SN3a.out.1 rfl; have z3a_00 := blk_frozen SN3a.out.1 0; have q3a_01 := cellAt (i := 1) (u := .slice none 0 0) SN3a.out.1 rfl; have z3a_01 := blk_frozen SN3a.out.1 1; have q3a_02 := cellAt (i := 2) (u := .int .i64 0) SN3a.out.1 rfl; have z3a_02 := blk_frozen SN3a.out.1 2; have q3a_10 := fun o_ => cellAt (i := 0) (u := .slice none 0 0) (blk_alloc SN3a.out.1 o_) rfl; have z3a_10 := fun o_ => blk_frozen (blk_alloc SN3a.out.1 o_) 0; have q3a_11 := fun o_ => cellAt (i := 1) (u := .slice none 0 0) (blk_alloc SN3a.out.1 o_) rfl; have z3a_11 := fun o_ => blk_frozen (blk_alloc SN3a.out.1 o_) 1; have q3a_12 := fun o_ => cellAt (i := 2) (u := .int .i64 0) (blk_alloc SN3a.out.1 o_) rfl; have z3a_12 := fun o_ => blk_frozen (blk_alloc SN3a.out.1 o_) 2; have q3a_20 := fun o_ p_ => cellAt (i := 0) (u := .slice none 0 0) (blk_alloc (blk_alloc SN3a.out.1 o_) p_) rfl; have z3a_20 := fun o_ p_ => blk_frozen (blk_alloc (blk_alloc SN3a.out.1 o_) p_) 0; have q3a_21 := fun o_ p_ => cellAt (i := 1) (u := .slice none 0 0) (blk_alloc (blk_alloc SN3a.out.1 o_) p_) rfl; have z3a_21 := fun o_ p_ => blk_frozen (blk_alloc (blk_alloc SN3a.out.1 o_) p_) 1; have q3a_22 := fun o_ p_ => cellAt (i := 2) (u := .int .i64 0) (blk_alloc (blk_alloc SN3a.out.1 o_) p_) rfl; have z3a_22 := fun o_ p_ => blk_frozen (blk_alloc (blk_alloc SN3a.out.1 o_) p_) 2)); (try (have na3a4 := Nat.ne_of_lt LT3a4.out; have nb3a4 := Nat.ne_of_gt LT3a4.out; have nc3a4 := Nat.ne_of_lt (Nat.lt_succ_of_lt LT3a4.out); have nd3a4 := Nat.ne_of_gt (Nat.lt_succ_of_lt LT3a4.out))); (try (have na3a5 := Nat.ne_of_lt (blk_lt SN3a.out.1); have nb3a5 := Nat.ne_of_gt (blk_lt SN3a.out.1); have nc3a5 := Nat.ne_of_lt (Nat.lt_succ_of_lt (blk_lt SN3a.out.1)); have nd3a5 := Nat.ne_of_gt (Nat.lt_succ_of_lt (blk_lt SN3a.out.1)))); (try (have q3b_00 := cellAt (i := 0) (u := .slice none 0 0) SN3b.out.1 rfl; have z3b_00 := blk_frozen SN3b.out.1 0; have q3b_01 := cellAt (i := 1) (u := .slice none 0 0) SN3b.out.1 rfl; have z3b_01 := blk_frozen SN3b.out.1 1; have q3b_02 := cellAt (i := 2) (u := .int .i64 0) SN3b.out.1 rfl; have z3b_02 := blk_frozen SN3b.out.1 2; have q3b_10 := fun o_ => cellAt (i := 0) (u := .slice none 0 0) (blk_alloc SN3b.out.1 o_) rfl; have z3b_10 := fun o_ => blk_frozen (blk_alloc SN3b.out.1 o_) 0; have q3b_11 := fun o_ => cellAt (i := 1) (u := .slice none 0 0) (blk_alloc SN3b.out.1 o_) rfl; have z3b_11 := fun o_ => blk_frozen (blk_alloc SN3b.out.1 o_) 1; have q3b_12 := fun o_ => cellAt (i := 2) (u := .int .i64 0) (blk_alloc SN3b.out.1 o_) rfl; have z3b_12 := fun o_ => blk_frozen (blk_alloc SN3b.out.1 o_) 2; have q3b_20 := fun o_ p_ => cellAt (i := 0) (u := .slice none 0 0) (blk_alloc (blk_alloc SN3b.out.1 o_) p_) rfl; have z3b_20 := fun o_ p_ => blk_frozen (blk_alloc (blk_alloc SN3b.out.1 o_) p_) 0; have q3b_21 := fun o_ p_ => cellAt (i := 1) (u := .slice none 0 0) (blk_alloc (blk_alloc SN3b.out.1 o_) p_) rfl; have z3b_21 := fun o_ p_ => blk_frozen (blk_alloc (blk_alloc SN3b.out.1 o_) p_) 1; have q3b_22 := fun o_ p_ => cellAt (i := 2) (u := .int .i64 0) (blk_alloc (blk_alloc SN3b.out.1 o_) p_) rfl; have z3b_22 := fun o_ p_ => blk_frozen (blk_alloc (blk_alloc SN3b.out.1 o_) p_) 2)); (try (have na3b4 := Nat.ne_of_lt LT3b4.out; have nb3b4 := Nat.ne_of_gt LT3b4.out; have nc3b4 := Nat.ne_of_lt (Nat.lt_succ_of_lt LT3b4.out); have nd3b4 := Nat.ne_of_gt (Nat.lt_succ_of_lt LT3b4.out))); (try (have na3b5 := Nat.ne_of_lt (blk_lt SN3b.out.1); have nb3b5 := Nat.ne_of_gt (blk_lt SN3b.out.1); have nc3b5 := Nat.ne_of_lt (Nat.lt_succ_of_lt (blk_lt SN3b.out.1)); have nd3b5 := Nat.ne_of_gt (Nat.lt_succ_of_lt (blk_lt SN3b.out.1)))); (try (have q4a_00 := cellAt (i := 0) (u := .slice none 0 0) SN4a.out.1 rfl; have z4a_00 := blk_frozen SN4a.out.1 0; have q4a_01 := cellAt (i := 1) (u := .slice none 0 0) SN4a.out.1 rfl; have z4a_01 := blk_frozen SN4a.out.1 1; have q4a_02 := cellAt (i := 2) (u := .int .i64 0) SN4a.out.1 rfl; have z4a_02 := blk_frozen SN4a.out.1 2; have q4a_10 := fun o_ => cellAt (i := 0) (u := .slice none 0 0) (blk_alloc SN4a.out.1 o_) rfl; have z4a_10 := fun o_ => blk_frozen (blk_alloc SN4a.out.1 o_) 0; have q4a_11 := fun o_ => cellAt (i := 1) (u := .slice none 0 0) (blk_alloc SN4a.out.1 o_) rfl; have z4a_11 := fun o_ => blk_frozen (blk_alloc SN4a.out.1 o_) 1; have q4a_12 := fun o_ => cellAt (i := 2) (u := .int .i64 0) (blk_alloc SN4a.out.1 o_) rfl; have z4a_12 := fun o_ => blk_frozen (blk_alloc SN4a.out.1 o_) 2; have q4a_20 := fun o_ p_ => cellAt (i := 0) (u := .slice none 0 0) (blk_alloc (blk_alloc SN4a.out.1 o_) p_) rfl; have z4a_20 := fun o_ p_ => blk_frozen (blk_alloc (blk_alloc SN4a.out.1 o_) p_) 0; have q4a_21 := fun o_ p_ => cellAt (i := 1) (u := .slice none 0 0) (blk_alloc (blk_alloc SN4a.out.1 o_) p_) rfl; have z4a_21 := fun o_ p_ => blk_frozen (blk_alloc (blk_alloc SN4a.out.1 o_) p_) 1; have q4a_22 := fun o_ p_ => cellAt (i := 2) (u := .int .i64 0) (blk_alloc (blk_alloc SN4a.out.1 o_) p_) rfl; have z4a_22 := fun o_ p_ => blk_frozen (blk_alloc (blk_alloc SN4a.out.1 o_) p_) 2)); (try (have na4a5 := Nat.ne_of_lt (blk_lt SN4a.out.1); have nb4a5 := Nat.ne_of_gt (blk_lt SN4a.out.1); have nc4a5 := Nat.ne_of_lt (Nat.lt_succ_of_lt (blk_lt SN4a.out.1)); have nd4a5 := Nat.ne_of_gt (Nat.lt_succ_of_lt (blk_lt SN4a.out.1)))); (try (have q4b_00 := cellAt (i := 0) (u := .slice none 0 0) SN4b.out.1 rfl; have z4b_00 := blk_frozen SN4b.out.1 0; have q4b_01 := cellAt (i := 1) (u := .slice none 0 0) SN4b.out.1 rfl; have z4b_01 := blk_frozen SN4b.out.1 1; have q4b_02 := cellAt (i := 2) (u := .int .i64 0) SN4b.out.1 rfl; have z4b_02 := blk_frozen SN4b.out.1 2; have q4b_10 := fun o_ => cellAt (i := 0) (u := .slice none 0 0) (blk_alloc SN4b.out.1 o_) rfl; have z4b_10 := fun o_ => blk_frozen (blk_alloc SN4b.out.1 o_) 0; have q4b_11 := fun o_ => cellAt (i := 1) (u := .slice none 0 0) (blk_alloc SN4b.out.1 o_) rfl; have z4b_11 := fun o_ => blk_frozen (blk_alloc SN4b.out.1 o_) 1; have q4b_12 := fun o_ => cellAt (i := 2) (u := .int .i64 0) (blk_alloc SN4b.out.1 o_) rfl; have z4b_12 := fun o_ => blk_frozen (blk_alloc SN4b.out.1 o_) 2; have q4b_20 := fun o_ p_ => cellAt (i := 0) (u := .slice none 0 0) (blk_alloc (blk_alloc SN4b.out.1 o_) p_) rfl; have z4b_20 := fun o_ p_ => blk_frozen (blk_alloc (blk_alloc SN4b.out.1 o_) p_) 0; have q4b_21 := fun o_ p_ => cellAt (i := 1) (u := .slice none 0 0) (blk_alloc (blk_alloc SN4b.out.1 o_) p_) rfl; have z4b_21 := fun o_ p_ => blk_frozen (blk_alloc (blk_alloc SN4b.out.1 o_) p_) 1; have q4b_22 := fun o_ p_ => cellAt (i := 2) (u := .int .i64 0) (blk_alloc (blk_alloc SN4b.out.1 o_) p_) rfl; have z4b_22 := fun o_ p_ => blk_frozen (blk_alloc (blk_alloc SN4b.out.1 o_) p_) 2)); (try (have na4b5 := Nat.ne_of_lt (blk_lt SN4b.out.1); have nb4b5 := Nat.ne_of_gt (blk_lt SN4b.out.1); have nc4b5 := Nat.ne_of_lt (Nat.lt_succ_of_lt (blk_lt SN4b.out.1)); have nd4b5 := Nat.ne_of_gt (Nat.lt_succ_of_lt (blk_lt SN4b.out.1))))))
  all_goals (
   go_wp2
   go_meet
   case rel => refine ⟨?_⟩; first | (with_reducible exact AltAt.rel (alt_mid ((Nat.le_trans HM.out.below.size HW1.out.size)) (Chn.below HCH.out Bel) (RowsAt.below HRA.out Bel) (RowsAt.below HRB.out Bel) (HLT4.out.1) (HLT4.out.2.1) (HLT4.out.2.2) (by first | (with_reducible exact SN1a.out) | (with_reducible exact Sep.alloc SN1a.out _) | (with_reducible exact SN1b.out) | (with_reducible exact Sep.alloc SN1b.out _) | (with_reducible exact SN2a.out) | (with_reducible exact Sep.alloc SN2a.out _) | (with_reducible exact SN2b.out) | (with_reducible exact Sep.alloc SN2b.out _) | (with_reducible exact SN3a.out) | (with_reducible exact Sep.alloc SN3a.out _) | (with_reducible exact SN3b.out) | (with_reducible exact Sep.alloc SN3b.out _) | (with_reducible exact SN4a.out) | (with_reducible exact Sep.alloc SN4a.out _) | (with_reducible exact SN4b.out) | (with_reducible exact Sep.alloc SN4b.out _) | (with_reducible exact Sep.new HM5.out 74 _)) (by first | (with_reducible exact SN1a.out) | (with_reducible exact Sep.alloc SN1a.out _) | (with_reducible exact SN1b.out) | (with_reducible exact Sep.alloc SN1b.out _) | (with_reducible exact SN2a.out) | (with_reducible exact Sep.alloc SN2a.out _) | (with_reducible exact SN2b.out) | (with_reducible exact Sep.alloc SN2b.out _) | (with_reducible exact SN3a.out) | (with_reducible exact Sep.alloc SN3a.out _) | (with_reducible exact SN3b.out) | (with_reducible exact Sep.alloc SN3b.out _) | (with_reducible exact SN4a.out) | (with_reducible exact Sep.alloc SN4a.out _) | (with_reducible exact SN4b.out) | (with_reducible exact Sep.alloc SN4b.out _) | (with_reducible exact Sep.new HM5.out 74 _)) (by have h2 := HL2.out; have h3 := HL3.out; have h4 := HL4.out; have h5 := HL5.out; omega) (by have h2 := HL2.out; have h3 := HL3.out; have h4 := HL4.out; have h5 := HL5.out; omega) (by first | assumption | omega))) | (with_reducible exact AltAt.rel (alt_mid2 ((Nat.le_trans HM.out.below.size HW1.out.size)) (HCH.out) (HRA.out) (HRB.out) (HLT4.out.1) (HLT4.out.2.1) (HLT4.out.2.2) (by first | (with_reducible exact SN1a.out) | (with_reducible exact Sep.alloc SN1a.out _) | (with_reducible exact SN1b.out) | (with_reducible exact Sep.alloc SN1b.out _) | (with_reducible exact SN2a.out) | (with_reducible exact Sep.alloc SN2a.out _) | (with_reducible exact SN2b.out) | (with_reducible exact Sep.alloc SN2b.out _) | (with_reducible exact SN3a.out) | (with_reducible exact Sep.alloc SN3a.out _) | (with_reducible exact SN3b.out) | (with_reducible exact Sep.alloc SN3b.out _) | (with_reducible exact SN4a.out) | (with_reducible exact Sep.alloc SN4a.out _) | (with_reducible exact SN4b.out) | (with_reducible exact Sep.alloc SN4b.out _) | (with_reducible exact Sep.new HM5.out 74 _)) (by have h2 := HL2.out; have h3 := HL3.out; have h4 := HL4.out; have h5 := HL5.out; omega))) | (with_reducible exact AltAt.rel (alt_mid3 (HCH.out) (HRA.out) (HRB.out) (HLT4.out.1) (HLT4.out.2.1) (HLT4.out.2.2))) | (with_reducible exact AltAt.rel (alt_mid4 (HCH.out) (HRA.out) (HRB.out) (HLT4.out.1) (HLT4.out.2.1) (HLT4.out.2.2))))
 case rest =>
  clear HF1 HC5 HX0 d0 d1 d2 d3 d4 d5
  obtain ⟨⟨T6, T7, B, s2, Af, Ae, Bf, Be, cf, ce, df, de, rfl, rfl, hA⟩⟩ := hcut
  have HAP := Aside0.mk hA.ap
  have HBT : Aside0 (BAt wc B b mp s2 d Bf Be df de (.slice Ae a.f1.length ce)) := ⟨⟨hA.rb, hA.ae⟩⟩
  have HAB := Aside0.mk (And.intro hA.af hA.ae)
  clear hA
  have MK1 := True.intro
  have MK2 := True.intro
  go_wp2
  go_region_held3 (fun w' => w'.cell? ⟨T6, 0, none⟩ = some (.slice Af a.f0.length cf) ∧ w'.cell? ⟨T6, 1, none⟩ = some (.slice Ae a.f1.length ce) ∧ w'.cell? ⟨T6, 2, none⟩ = some (.int .i64 a.f2) ∧ w'.cell? ⟨T7, 0, none⟩ = some (.slice Bf d.f0.length df) ∧ w'.cell? ⟨T7, 1, none⟩ = some (.slice Be d.f1.length de) ∧ w'.cell? ⟨T7, 2, none⟩ = some (.int .i64 d.f2)) ((refine ⟨?_, ?_, ?_, ?_, ?_, ?_⟩ <;> (repeat (with_reducible refine set3_cell (by have h1 := HLT.out; have h2 := HAP.out.l6; have h3 := HAP.out.l7; omega) ?_)) <;> (first | (refine cellAt (blk_below (ApAt.t6 HAP.out) ?_) rfl; exact Bel) | (refine cellAt (blk_below (ApAt.t7 HAP.out) ?_) rfl; exact Bel)))) (first | (go_at_call 35; refine (min2_calls a.f2 d.f2 _ _ ?_).mono ?_; (first | exact HG2.out | exact heap_alloc_new _ (.cells #[.int .i64 a.f2, .int .i64 d.f2] 3)); rintro e w7 ⟨rfl, hb7⟩; have HAPn := Aside0.mk (ApAt.below (ApAt.below HAP.out Bel) hb7); clear HAP hb7; have HAP := HAPn; clear HAPn; have HR7 := Aside0.mk (HAP.out.ch.blk HR0.out HZX.out.2); have k0 := cellAt (i := 0) (u := .slice none 0 0) HR7.out rfl; have k1 := cellAt (i := 1) (u := .slice none 0 0) HR7.out rfl; have k2 := cellAt (i := 2) (u := .int .i64 0) HR7.out rfl; have n0 := blk_frozen HR7.out 0; have n1 := blk_frozen HR7.out 1; have n2 := blk_frozen HR7.out 2) | (clear MK1; refine Kd.R_append_rows_step k94 W1.heap.size (by rfl) (.tmp 42) (.tmp 44) 72 94 (.agg #[(.int .i64 0), (.int .i64 0)]) 16 rfl Try.underlying72 info94 rfl (by decide) (by omega) _ a.f0 d.f0 _ _ _ (fun k => ¬ Zn b mp s2 k ∧ some k ≠ (.slice Ae a.f1.length ce : Value).ownBlock) (fun _ => False) rfl rfl (ApAt.rf (ApAt.below HAP.out Bel)) (Kd.R_reads' (RowsAt.f (BAt.rb (BAt.below HBT.out Bel)))).2.2 (fun x cs h => by obtain rfl := k94_open h; exact k94_mkM _ _ _ x) (fun _ h => h.elim) (ApAt.fresh1 (ApAt.below HAP.out Bel)) (Below.refl _ _) (ApAt.base (ApAt.below HAP.out Bel)) (by obtain ⟨q1, q2, _, _⟩ := okP_at HOK.out.1; obtain ⟨q3, q4, _, _⟩ := okP_at HOK.out.2; omega) ?_; intro u1 x1 ho1 hb1 hg1 hat1; obtain ⟨U1, d1, eu1⟩ := Kd.R_slice ho1; subst eu1; (try have HG1 := Aside0.mk (ap_keep (ApAt.rf (ApAt.below HAP.out Bel)) hg1 (heap_new_drew _ #[.int .i64 a.f2, .int .i64 d.f2] 3) (by decide))); have HBn := Aside0.mk (BAt.app (BAt.below HBT.out Bel) HAB.out.1 hg1); have HAPn := Aside0.mk (ApAt.app1 (Nat.le_trans HM.out.below.size HW1.out.size) (ApAt.below HAP.out Bel) ho1 hg1 hat1); clear HAP HBT ho1 hb1 hg1 hat1; have HAP := HAPn; have HBT := HBn; clear HAPn HBn) | (clear MK2; refine Kd.R_append_rows_step k94 W1.heap.size (by rfl) (.tmp 47) (.tmp 49) 72 94 (.agg #[(.int .i64 0), (.int .i64 0)]) 16 rfl Try.underlying72 info94 rfl (by decide) (by omega) _ a.f1 d.f1 _ _ _ (fun k => ¬ Zn b mp s2 k ∧ some k ≠ (.slice U1 (a.f0 ++ d.f0).length d1 : Value).ownBlock) (fun _ => False) rfl rfl (ApAt.re (ApAt.below HAP.out Bel)) (Kd.R_reads' (RowsAt.e (BAt.rb (BAt.below HBT.out Bel)))).2.2 (fun x cs h => by obtain rfl := k94_open h; exact k94_mkM _ _ _ x) (fun _ h => h.elim) (ApAt.fresh2 (ApAt.below HAP.out Bel)) (Below.refl _ _) (ApAt.base (ApAt.below HAP.out Bel)) (by obtain ⟨q1, q2, _, _⟩ := okP_at HOK.out.1; obtain ⟨q3, q4, _, _⟩ := okP_at HOK.out.2; omega) ?_; intro u2 x2 ho2 hb2 hg2 hat2; obtain ⟨U2, d2, eu2⟩ := Kd.R_slice ho2; subst eu2; (try have HG2 := Aside0.mk (ap_keep (ApAt.re (ApAt.below HAP.out Bel)) hg2 HG1.out (by decide))); (try have HG2 := Aside0.mk (ap_keep (ApAt.re (ApAt.below HAP.out Bel)) hg2 (heap_alloc_new _ (.cells #[.int .i64 a.f2, .int .i64 d.f2] 3)) (by decide))); have HAPn := Aside0.mk (ApAt.app2 (Nat.le_trans HM.out.below.size HW1.out.size) (ApAt.below HAP.out Bel) ho2 hg2 hat2); clear HAP HBT ho2 hb2 hg2 hat2; have HAP := HAPn; clear HAPn))
  all_goals (
   have hP7 := blk_put (blk_put (blk_put HR7.out 0 (.slice U1 (a.f0.length + d.f0.length) d1) (cs' := #[.slice U1 (a.f0.length + d.f0.length) d1, .slice none 0 0, .int .i64 0]) rfl) 1 (.slice U2 (a.f1.length + d.f1.length) d2) (cs' := #[.slice U1 (a.f0.length + d.f0.length) d1, .slice U2 (a.f1.length + d.f1.length) d2, .int .i64 0]) rfl) 2 (.int .i64 (mn (mn 1152921504606846976 a.f2) d.f2)) (cs' := #[.slice U1 (a.f0.length + d.f0.length) d1, .slice U2 (a.f1.length + d.f1.length) d2, .int .i64 (mn (mn 1152921504606846976 a.f2) d.f2)]) rfl
   have hg7 := set3_grown w7 (W.heap.size + 1) (.slice U1 (a.f0.length + d.f0.length) d1) (.slice U2 (a.f1.length + d.f1.length) d2) (.int .i64 (mn (mn 1152921504606846976 a.f2) d.f2))
   go_wp2
   refine bodyPost_ret (results_cell_row rfl _ _ (W.heap.size + 1) 74 #[.slice U1 (a.f0.length + d.f0.length) d1, .slice U2 (a.f1.length + d.f1.length) d2, .int .i64 (mn (mn 1152921504606846976 a.f2) d.f2)] (0, 0) _ (by rfl) hP7 Try.underlying74 rfl (by kernel_rfl)) rfl ?_
   have e := made_end (p := ⟨a.f0 ++ d.f0, a.f1 ++ d.f1, mn (mn 1152921504606846976 a.f2) d.f2⟩) HM.out HW1.out HAP.out.ch.ma HAP.out.ch.k HAP.out.ch.s2 (T := W.heap.size + 1) (by omega) HLT.out ⟨_, HR7.out⟩ (spR_to HAP.out.rf (fun _ _ => rfl) (fun k hk => ⟨fun e => (HAP.out.rf.1 k hk).1 (.inr (.inr e)), (HAP.out.rf.1 k hk).2⟩)) (spR_to HAP.out.re (fun _ _ => rfl) (fun k hk => ⟨fun e => (HAP.out.re.1 k hk).1 (.inr (.inr e)), (HAP.out.re.1 k hk).2⟩)) hg7
   simp only [List.length_append] at e
   exact e)
end Go.Proofs.Ytnnpfgpfkningaa.P
namespace Go.Proofs.Ytnnpfgpfkningaa.P
open Go.RowKit Go.Proofs.YtnnpfgpfkningaaW.PrintWords Go.Proofs.YtnnpfgpfkningaaW.PrintLast Go.Proofs.YtnnpfgpfkningaaW.PrintMore
attribute [local go_sem] max2_int min2_int max_two min_two max_three min_three max_four min_four   -- for this text's walks alone
attribute [local go_sem ↓ high] Go.Proofs.YtnnpfgpfkningaaX.isSome_setCell
set_option linter.unusedVariables false
set_option linter.unusedSimpArgs false
/-- syn.Sets as the print names it: of both of a file's rows. -/
def syn_SetsP.f (k : Nat) (l0 : List S61) (_l1 : List S174) : Option (List (List S111)) := syn_Sets.f k l0
theorem syn_SetsP.calls (k : Nat) (A0 : Option Addr) (c0 : Nat) (l0 : List S61) (A1 : Option Addr) (c1 : Nat) (l1 : List S174) (r : List (List S111)) (w : World) (hr0 : Kd.C k61 w A0 l0.length l0) (hc0 : l0.length ≤ c0) (_ : Kd.C k174 w A1 l1.length l1) (_ : l1.length ≤ c1) (h : syn_SetsP.f k l0 l1 = some r) :
    Calls Try.prog 36 #[.agg #[.slice A0 l0.length c0, .slice A1 l1.length c1]] w fun e w' => ∃ v0_ : Value, e = .returned (v0_) ∧ Kd.R (Kd.slice 111 k111) 84 w' w.heap.size (fun _ => True) v0_ r ∧ Below w.heap.size w w' := syn_Sets.calls k A0 c0 l0 A1 l1.length c1 r w hr0 hc0 h
def costA (now : List Int) : List S51 → List Int → Option (List Int)
  | [], next => some next
  | a :: t, next => if (0 ≤ a.f1 ∧ a.f1 < (next.length : Int)) ∧ 0 ≤ a.f0 ∧ a.f0 < (now.length : Int) then costA now t (next.set a.f1.toNat (mn (mn 1152921504606846976 (rd next a.f1)) (tadd (rd now a.f0) a.f2))) else none
def costM (f : Int → Option Bool) : Nat → Int → List Int → Option (List Int)
  | 0, _, now => some now
  | m + 1, i, now => (f i).bind fun b => costM f m (i + 1) (if b = true then now else now.set i.toNat 1152921504606846976)
def costT (k : Nat) (f : Int → Int → Option Bool) (sets first : List Int) (arcs : List S51) : List Int → Int → List Int → Option (List Int)
  | [], _, now => some now
  | c :: t, i, now => (if 0 < i then (side_row.f k [] (sets.length : Int)).bind fun r => costA now arcs r else some first).bind fun next => if next.length < 1000000 then (costM (fun j => f j c) next.length 0 next).bind fun now2 => costT k f sets first arcs t (i + 1) now2 else none
def costL (ends : List Int) : List Int → Int → Int → Option Int
  | [], _, b => some b
  | n :: t, i, b => if i < (ends.length : Int) then costL ends t (i + 1) (mn (mn 1152921504606846976 b) (tadd n (rd ends i))) else none
def costF (k : Nat) (sets first ends : List Int) (arcs : List S51) (nn : Int) (defs : List S61) (rules : List S174) (text : List Int) (p q : Int) : Option Int :=
  if 0 ≤ p ∧ p ≤ q ∧ q ≤ (text.length : Int) ∧ text.length < 1000000 ∧ arcs.length < 1000000 then
    if p = q then some (mn 1152921504606846976 nn)
    else (syn_SetsP.f k defs rules).bind fun ss => (costT k (fun j c => side_of.f sets first ends arcs nn ss j c) sets first arcs ((text.take q.toNat).drop p.toNat) 0 []).bind fun now => if now.length < 1000000 then costL ends now 0 1152921504606846976 else none
  else none
theorem drop_int (l : List Int) (i : Int) (h0 : 0 ≤ i) (h : i < (l.length : Int)) : l.drop i.toNat = rd l i :: l.drop (i + 1).toNat := by
  have e : (i + 1).toNat = i.toNat + 1 := by omega
  have hl : i.toNat < l.length := by omega
  rw [e, List.drop_eq_getElem_cons hl, rd, List.getD_eq_getElem?_getD, List.getElem?_eq_getElem hl]; rfl
theorem drop_arc (l : List S51) (i : Int) (h0 : 0 ≤ i) (h : i < (l.length : Int)) : l.drop i.toNat = rd_T51 l i :: l.drop (i + 1).toNat := by
  have e : (i + 1).toNat = i.toNat + 1 := by omega
  have hl : i.toNat < l.length := by omega
  rw [e, List.drop_eq_getElem_cons hl, rd_T51, List.getD_eq_getElem?_getD, List.getElem?_eq_getElem hl]; rfl
theorem min1_calls (a : Int) (g : Nat) (w : World) (h : w.heap[g]? = some (.cells #[.int .i64 a] 3 (0, 0))) : Calls Try.prog 35 #[.slice (some ⟨g, 0, none⟩) 1 1] w fun e w' => e = .returned (.int .i64 (mn 1152921504606846976 a)) ∧ Below w.heap.size w w' :=
  trop_Min.calls 2 (some ⟨g, 0, none⟩) 1 [a] _ w (Kd.R_reads' (intR_mk (e := 3) (base := 0) (cap := 1) (ok := fun _ => True) (l := [a]) trivial (Nat.zero_le _) h (by simp) (by decide) (by simp) (by rfl))).2.2 (by simp) (by
    show trop_Min.l0 2 1152921504606846976 [a] 1 0 = _
    simp [trop_Min.l0, rd, wrap64])
end Go.Proofs.Ytnnpfgpfkningaa.P
namespace Go.Proofs.Ytnnpfgpfkningaa.P
open Go.RowKit Go.Proofs.YtnnpfgpfkningaaW.PrintWords Go.Proofs.YtnnpfgpfkningaaW.PrintLast Go.Proofs.YtnnpfgpfkningaaW.PrintMore
attribute [local go_sem] max2_int min2_int max_two min_two max_three min_three max_four min_four   -- for this text's walks alone
attribute [local go_sem ↓ high] Go.Proofs.YtnnpfgpfkningaaX.isSome_setCell
set_option linter.unusedVariables false
set_option linter.unusedSimpArgs false
set_option maxRecDepth 100000 in
set_option maxHeartbeats 8000000 in
theorem cost_eq (k : Nat) (A0 : Option Addr) (c0 : Nat) (l0 : List Int) (A1 : Option Addr) (c1 : Nat) (l1 : List Int) (A2 : Option Addr) (c2 : Nat) (l2 : List Int) (A3 : Option Addr) (c3 : Nat) (l3 : List S51) (a4 : Int) (Ad : Option Addr) (cd : Nat) (defs : List S61) (Ar : Option Addr) (cr : Nat) (rules : List S174) (At : Option Addr) (ct : Nat) (text : List Int) (p q r : Int) (w : World)
  (hpq : 0 ≤ p ∧ p = q ∧ q ≤ (text.length : Int)) (h : mn 1152921504606846976 a4 = r) :
  Calls Try.prog 23 #[.agg #[.slice A0 l0.length c0, .slice A1 l1.length c1, .slice A2 l2.length c2, .slice A3 l3.length c3, .int .i64 a4], .agg #[.slice Ad defs.length cd, .slice Ar rules.length cr], .slice At text.length ct, .int .i64 p, .int .i64 q] w fun e w' => e = .returned (.int .i64 r) ∧ Below w.heap.size w w' := by
 obtain ⟨h0, rfl, h1⟩ := hpq
 subst h
 have hb := below_alloc (below_alloc (Below.refl w.heap.size w) (.cells #[.slice A0 l0.length c0, .slice A1 l1.length c1, .slice A2 l2.length c2, .slice A3 l3.length c3, .int .i64 a4] 39)) (.cells #[.slice Ad defs.length cd, .slice Ar rules.length cr] 30)
 have c1b : decide (p < 0) = false := decide_eq_false (by omega)
 have c2b : decide ((text.length : Int) < p) = false := decide_eq_false (by omega)
 have c3b : decide (p < p) = false := decide_eq_false (by omega)
 have c4b : (p == p) = true := beq_self_eq_true p
 have HN : Aside0 ((World.heap (World.alloc (World.alloc (World.alloc w (.cells #[.slice A0 l0.length c0, .slice A1 l1.length c1, .slice A2 l2.length c2, .slice A3 l3.length c3, .int .i64 a4] 39)) (.cells #[.slice Ad defs.length cd, .slice Ar rules.length cr] 30)) (.cells #[.int .i64 a4] 3)))[w.heap.size + 1 + 1]? = some (.cells #[.int .i64 a4] 3 (0, 0))) := ⟨by
  have hn := heap_alloc_new (World.alloc (World.alloc w (.cells #[.slice A0 l0.length c0, .slice A1 l1.length c1, .slice A2 l2.length c2, .slice A3 l3.length c3, .int .i64 a4] 39)) (.cells #[.slice Ad defs.length cd, .slice Ar rules.length cr] 30)) (.cells #[.int .i64 a4] 3)
  rwa [size_alloc, size_alloc] at hn⟩
 have HB := Aside0.mk hb
 clear h0 h1 hb
 go_enter Try.func23, Try.ntmps23
 go_wp2_with (go_at_call 35; refine (min1_calls a4 _ _ HN.out).mono ?_; rintro e w2 ⟨rfl, hb2⟩; have HB2 := Aside0.mk (below_step (below_alloc HB.out _) hb2); clear hb2)
 go_ret
 exact ⟨rfl, HB2.out⟩
structure CoX where
 A0 : Option Addr
 c0 : Nat
 l0 : List Int
 A1 : Option Addr
 c1 : Nat
 l1 : List Int
 A2 : Option Addr
 c2 : Nat
 l2 : List Int
 A3 : Option Addr
 c3 : Nat
 l3 : List S51
 a4 : Int
def CoX.cs (x : CoX) : Array Value := #[.slice x.A0 x.l0.length x.c0, .slice x.A1 x.l1.length x.c1, .slice x.A2 x.l2.length x.c2, .slice x.A3 x.l3.length x.c3, .int .i64 x.a4]
structure CoS (x : CoX) (gs gv : Nat) (Av : Option Addr) (cv : Nat) (ss : List (List S111)) (At : Option Addr) (txt : List Int) (W : World) : Prop where
 s : W.heap[gs]? = some (.cells x.cs 39 (0, 0))
 v : W.heap[gv]? = some (.cells #[.slice Av ss.length cv] 81 (0, 0))
 h0 : Kd.C (Kd.int .i64) W x.A0 x.l0.length x.l0
 h1 : Kd.C (Kd.int .i64) W x.A1 x.l1.length x.l1
 h2 : Kd.C (Kd.int .i64) W x.A2 x.l2.length x.l2
 h3 : Kd.C k51 W x.A3 x.l3.length x.l3
 hs : Kd.C (Kd.slice 111 k111) W Av ss.length ss
 ht : Kd.C (Kd.int .i64) W At txt.length txt
theorem CoS.below {x : CoX} {gs gv : Nat} {Av : Option Addr} {cv : Nat} {ss : List (List S111)} {At : Option Addr} {txt : List Int} {W W' : World} (h : CoS x gs gv Av cv ss At txt W) (hb : Below W.heap.size W W') : CoS x gs gv Av cv ss At txt W' :=
 ⟨blk_below h.s hb, blk_below h.v hb, Kd.C_below h.h0 hb, Kd.C_below h.h1 hb, Kd.C_below h.h2 hb, Kd.C_below h.h3 hb, Kd.C_below h.hs hb, Kd.C_below h.ht hb⟩
structure CoL (x : CoX) : Prop where
 c0 : x.l0.length ≤ x.c0
 c1 : x.l1.length ≤ x.c1
 c2 : x.l2.length ≤ x.c2
 c3 : x.l3.length ≤ x.c3
def NextRel (x : CoX) (base : Nat) (k : Nat) (i : Int) (now nx : List Int) (W1 : World) (v : Value) (W : World) : Prop :=
 ∃ (A : Option Addr) (c : Nat), v = .slice A nx.length c ∧ Kd.C (Kd.int .i64) W A nx.length nx ∧ nx.length ≤ c ∧ Below base W1 W
theorem s5_below {W W' : World} {a1 a2 a3 a4 a5 : Addr} {v1 v2 v3 v4 v5 : Value} (h : W.cell? a1 = some v1 ∧ W.cell? a2 = some v2 ∧ W.cell? a3 = some v3 ∧ W.cell? a4 = some v4 ∧ W.cell? a5 = some v5) (hb : Below W.heap.size W W') : W'.cell? a1 = some v1 ∧ W'.cell? a2 = some v2 ∧ W'.cell? a3 = some v3 ∧ W'.cell? a4 = some v4 ∧ W'.cell? a5 = some v5 :=
 ⟨(hb.cell (World.block_lt_of_cell? _ _ h.1)).trans h.1, (hb.cell (World.block_lt_of_cell? _ _ h.2.1)).trans h.2.1, (hb.cell (World.block_lt_of_cell? _ _ h.2.2.1)).trans h.2.2.1, (hb.cell (World.block_lt_of_cell? _ _ h.2.2.2.1)).trans h.2.2.2.1, (hb.cell (World.block_lt_of_cell? _ _ h.2.2.2.2)).trans h.2.2.2.2⟩
theorem clone_is (l : List Int) (h : l.length < 1000000) : Clone_int.f l = some l := by
 unfold Clone_int.f; rw [if_pos (by omega)]
theorem min2_f (a b : Int) : trop_Min.f 3 [a, b] = some (mn (mn 1152921504606846976 a) b) := by
 show trop_Min.l0 3 1152921504606846976 [a, b] 2 0 = _
 simp [trop_Min.l0, rd, wrap64]
def cost_T17 : Bool × List (List Nat × List Nat) := (true, [([], []), ([], []), ([1], [1]), ([], []), ([], []), ([4], [4]), ([3, 5], [3, 5]), ([6], [6]), ([], []), ([], []), ([9], [9]), ([8, 10], [8, 10]), ([11], [11]), ([], []), ([13], [13]), ([12, 14], [12, 14]), ([7, 15], [7, 15]), ([16, 15], [16]), ([0, 2, 0, 1, 2, 3, 4, 5, 6, 7, 8, 9, 10, 11, 12, 13, 14, 15, 16, 17], [0, 2]), ([18, 17, 17, 0, 1, 2, 3, 4, 5, 6, 7, 8, 9, 10, 11, 12, 13, 14, 15, 16, 17], [17, 18])])
def cost_B17 : List Nat := [0, 0, 2, 0, 0, 16, 56, 120, 0, 0, 512, 1792, 3840, 0, 8192, 32512, 65528, 131064, 262143, 524287]
theorem cost_tab17 : rtab .any (opsOf Try.f23 17) = cost_T17 := by kernel_rfl
theorem cost_bits17 : waitsOk cost_T17.2 cost_B17 = true := by kernel_rfl
end Go.Proofs.Ytnnpfgpfkningaa.P
namespace Go.Proofs.Ytnnpfgpfkningaa.P
open Go.RowKit Go.Proofs.YtnnpfgpfkningaaW.PrintWords Go.Proofs.YtnnpfgpfkningaaW.PrintLast Go.Proofs.YtnnpfgpfkningaaW.PrintMore
attribute [local go_sem] max2_int min2_int max_two min_two max_three min_three max_four min_four   -- for this text's walks alone
attribute [local go_sem ↓ high] Go.Proofs.YtnnpfgpfkningaaX.isSome_setCell
set_option linter.unusedVariables false
set_option linter.unusedSimpArgs false
set_option maxRecDepth 100000 in
set_option maxHeartbeats 8000000 in
theorem cost_lt (k : Nat) (A0 : Option Addr) (c0 : Nat) (l0 : List Int) (A1 : Option Addr) (c1 : Nat) (l1 : List Int) (A2 : Option Addr) (c2 : Nat) (l2 : List Int) (A3 : Option Addr) (c3 : Nat) (l3 : List S51) (a4 : Int) (Ad : Option Addr) (cd : Nat) (defs : List S61) (Ar : Option Addr) (cr : Nat) (rules : List S174) (At : Option Addr) (ct : Nat) (text : List Int) (p q r : Int) (w : World)
  (h0 : Kd.C (Kd.int .i64) w A0 l0.length l0) (hc0 : l0.length ≤ c0) (h1 : Kd.C (Kd.int .i64) w A1 l1.length l1) (hc1 : l1.length ≤ c1) (h2 : Kd.C (Kd.int .i64) w A2 l2.length l2) (hc2 : l2.length ≤ c2) (h3 : Kd.C k51 w A3 l3.length l3) (hc3 : l3.length ≤ c3) (hd : Kd.C k61 w Ad defs.length defs) (hcd : defs.length ≤ cd) (hru : Kd.C k174 w Ar rules.length rules) (hcr : rules.length ≤ cr) (ht : Kd.C (Kd.int .i64) w At text.length text) (hct : text.length ≤ ct)
  (hpq : 0 ≤ p ∧ p < q ∧ q ≤ (text.length : Int) ∧ text.length < 1000000 ∧ l3.length < 1000000) (ss : List (List S111)) (hss : syn_SetsP.f k defs rules = some ss) (lr : List Int) (hlr : costT k (fun j c => side_of.f l0 l1 l2 l3 a4 ss j c) l0 l1 l3 ((text.take q.toNat).drop p.toNat) 0 [] = some lr) (hll : lr.length < 1000000) (h : costL l2 lr 0 1152921504606846976 = some r) :
  Calls Try.prog 23 #[.agg #[.slice A0 l0.length c0, .slice A1 l1.length c1, .slice A2 l2.length c2, .slice A3 l3.length c3, .int .i64 a4], .agg #[.slice Ad defs.length cd, .slice Ar rules.length cr], .slice At text.length ct, .int .i64 p, .int .i64 q] w fun e w' => e = .returned (.int .i64 r) ∧ Below w.heap.size w w' := by
 obtain ⟨p0, p1, p2, p3, p4⟩ := hpq
 obtain ⟨txt, etx⟩ : ∃ txt, (text.take q.toNat).drop p.toNat = txt := ⟨_, rfl⟩
 have hlen : (txt.length : Int) = q - p := by rw [← etx, List.length_drop, List.length_take]; omega
 have hlen2 : ((q.toNat - p.toNat : Nat) : Int) = txt.length ∧ ((min q.toNat text.length - p.toNat : Nat) : Int) = txt.length := by omega
 obtain ⟨W0, hW0⟩ : ∃ W0, (w.alloc (.cells #[.slice A0 l0.length c0, .slice A1 l1.length c1, .slice A2 l2.length c2, .slice A3 l3.length c3, .int .i64 a4] 39)).alloc (.cells #[.slice Ad defs.length cd, .slice Ar rules.length cr] 30) = W0 := ⟨_, rfl⟩
 have hb0 : Below w.heap.size w W0 := hW0 ▸ below_alloc (below_alloc (Below.refl w.heap.size w) _) _
 have hs0 : W0.heap[w.heap.size]? = some (.cells #[.slice A0 l0.length c0, .slice A1 l1.length c1, .slice A2 l2.length c2, .slice A3 l3.length c3, .int .i64 a4] 39 (0, 0)) := hW0 ▸ blk_alloc (heap_alloc_new w _) _
 have hf0 : W0.heap[w.heap.size + 1]? = some (.cells #[.slice Ad defs.length cd, .slice Ar rules.length cr] 30 (0, 0)) := by
  have hn := heap_alloc_new (w.alloc (.cells #[.slice A0 l0.length c0, .slice A1 l1.length c1, .slice A2 l2.length c2, .slice A3 l3.length c3, .int .i64 a4] 39)) (.cells #[.slice Ad defs.length cd, .slice Ar rules.length cr] 30)
  rw [size_alloc] at hn; rwa [hW0] at hn
 have e0 := cellAt (i := 0) (u := .slice Ad defs.length cd) hf0 rfl
 have e1 := cellAt (i := 1) (u := .slice Ar rules.length cr) hf0 rfl
 have HB := Aside0.mk hb0
 have HS := Aside0.mk hs0
 have HC := Aside0.mk (And.intro h0 (And.intro h1 (And.intro h2 h3)))
 have HCL : Aside0 (CoL (CoX.mk A0 c0 l0 A1 c1 l1 A2 c2 l2 A3 c3 l3 a4)) := ⟨⟨hc0, hc1, hc2, hc3⟩⟩
 have HD := Aside0.mk (And.intro hd (And.intro hcd (And.intro hru hcr)))
 have HT := Aside0.mk (And.intro ht hct)
 have HSS := Aside0.mk hss
 have HP := Aside0.mk (And.intro p0 (And.intro p1 (And.intro p2 (And.intro p3 p4))))
 have HX := Aside0.mk etx
 rw [etx] at hlr
 have HLEN := Aside0.mk (And.intro hlen hlen2)
 have HLR := Aside0.mk (And.intro hlr (And.intro hll h))
 obtain ⟨i0, hi0, _, hsz, _⟩ := info_parts info3
 obtain ⟨A39, hcut39, hA39, hC39⟩ := print_mid_of (P := Try.prog) (Value.int .i64) 0 23 3 .i64 .i64 Try.underlying23 hi0 hsz At ct text p q p0 (by omega) p2 hct
 have HA39 := Aside0.mk hA39
 have HC39 := Aside0.mk hC39
 have g1 : decide (p < 0) = false := decide_eq_false (by omega)
 have g2 : decide ((text.length : Int) < q) = false := decide_eq_false (by omega)
 have g3 : decide (q < p) = false := decide_eq_false (by omega)
 have g4 : (p == q) = false := beq_eq_false_iff_ne.mpr (by omega)
 clear h0 hc0 h1 hc1 h2 hc2 h3 hc3 hd hcd hru hcr ht hct hss hlr hll h p0 p1 p2 p3 p4 etx hlen hlen2 hb0 hs0 hf0 hi0 hsz hA39 hC39
 go_enter Try.func23, Try.ntmps23
 go_wp2_with (first | (go_at_call 36; refine (syn_SetsP.calls k Ad cd defs Ar cr rules ss _ (Kd.C_below HD.out.1 HB.out) HD.out.2.1 (Kd.C_below HD.out.2.2.1 HB.out) HD.out.2.2.2 HSS.out).mono ?_; rintro e w2 ⟨v, rfl, hr, hb⟩; obtain ⟨Av, cv, rfl⟩ := Kd.R_slice hr; have HR := Aside0.mk hr; have HB2 := Aside0.mk hb; clear hr hb))
 obtain ⟨W1, hW1⟩ : ∃ W1, World.alloc w2 (.cells #[.slice Av ss.length cv] 81) = W1 := ⟨_, rfl⟩
 have hb1 : Below w2.heap.size w2 W1 := hW1 ▸ below_alloc (Below.refl _ _) _
 have hbw : Below w.heap.size w W1 := below_step (below_step HB.out HB2.out) hb1
 have HBW := Aside0.mk hbw
 have HCS : Aside0 (CoS (CoX.mk A0 c0 l0 A1 c1 l1 A2 c2 l2 A3 c3 l3 a4) w.heap.size w2.heap.size Av cv ss A39 txt W1) := ⟨blk_below (blk_below HS.out HB2.out) hb1, by rw [← hW1]; exact heap_alloc_new w2 _, Kd.C_below HC.out.1 hbw, Kd.C_below HC.out.2.1 hbw, Kd.C_below HC.out.2.2.1 hbw, Kd.C_below HC.out.2.2.2 hbw, Kd.C_below (Kd.R_reads' HR.out).2.2 hb1, by
  have h := Kd.C_of_reads (h1 := fun _ => rfl) (HA39.out _ (Kd.reads_of_C HT.out.1))
  rw [HX.out] at h
  exact Kd.C_below h hbw⟩
 rw [hW1]
 have HCV := Aside0.mk (Kd.R_reads' HR.out).2.1
 clear HB HB2 HS HC HD HT HSS HX HA39 HC39 HR hb1 hbw hW1 hW0 e0 e1 hcut39
 go_loopw [13, 51] (fun v13 v51 W => ∃ (i : Int) (now : List Int), v51 = .int .i64 i ∧ Aside0 (0 ≤ i ∧ i ≤ 1000000) ∧ Aside0 (costT k (fun j c => side_of.f l0 l1 l2 l3 a4 ss j c) l0 l1 l3 (txt.drop i.toNat) i now = some lr) ∧ Aside0 (Kd.R (Kd.int .i64) 3 W W1.heap.size (fun _ => True) v13 now) ∧ Aside0 (Below W1.heap.size W1 W)) (fun _ v _ => ((txt.length : Int) - intOf v).toNat)
 case atStart => exact ⟨0, [], rfl, ⟨by omega⟩, ⟨HLR.out.1⟩, ⟨Kd.R_nil _ _ _ _ _⟩, ⟨Below.refl _ _⟩⟩
 case round =>
  obtain ⟨i, now, rfl, HI, HF, HN, HB⟩ := hrel
  by_cases hlt : i < (txt.length : Int)
  ·have hF := HF.out
   rw [drop_int txt i HI.out.1 hlt, costT] at hF
   obtain ⟨nx, hnx, hF⟩ := Option.bind_eq_some_iff.1 hF
   by_cases hz : nx.length < 1000000
   case neg => rw [if_neg hz] at hF; cases hF
   rw [if_pos hz] at hF
   obtain ⟨now2, hm, hF⟩ := Option.bind_eq_some_iff.1 hF
   have HNX := Aside0.mk hnx
   have HM := Aside0.mk (And.intro hz hm)
   have HF2 := Aside0.mk hF
   have HLT := Aside0.mk hlt
   obtain ⟨ad, e39, ct39⟩ := Kd.at_int (HCS.out.below HB.out).ht i HI.out.1 hlt
   subst e39
   have d0 := cellAt (i := 0) (u := .slice A0 l0.length c0) (HCS.out.below HB.out).s rfl
   have d1 := cellAt (i := 1) (u := .slice A1 l1.length c1) (HCS.out.below HB.out).s rfl
   have d3 := cellAt (i := 3) (u := .slice A3 l3.length c3) (HCS.out.below HB.out).s rfl
   have c1b : decide (i < ((min q.toNat text.length - p.toNat : Nat) : Int)) = true := decide_eq_true (by rw [HLEN.out.2.2]; exact hlt)
   have c4b : (i < ((min q.toNat text.length - p.toNat : Nat) : Int)) = True := eq_true (by rw [HLEN.out.2.2]; exact hlt)
   have c2b : (0 ≤ i) = True := eq_true HI.out.1
   have c3b : (i < ((q.toNat - p.toNat : Nat) : Int)) = True := eq_true (by rw [HLEN.out.2.1]; exact hlt)
   clear hlt hF hnx hm hz HF
   go_upto_if 59 with (fail)
   go_cut [16] (fun v16 wc => Aside0 (NextRel (CoX.mk A0 c0 l0 A1 c1 l1 A2 c2 l2 A3 c3 l3 a4) W1.heap.size k i now nx W1 v16 wc))
   case first =>
    by_cases hi : 0 < i
    ·have hnx := HNX.out
     rw [if_pos hi] at hnx
     obtain ⟨r0, hr0, hA⟩ := Option.bind_eq_some_iff.1 hnx
     have HR0 := Aside0.mk hr0
     have HA := Aside0.mk hA
     have c5b : ∀ {inst : Decidable (0 < i)}, @decide (0 < i) inst = true := fun {_} => decide_eq_true hi
     simp only [c5b]
     clear hi hnx hr0 hA HNX
     go_wp2_with (go_at_call 32; refine (side_row.calls k none 0 [] (l0.length : Int) r0 _ (Kd.C_nil _ _) (Nat.le_refl _) HR0.out).mono ?_; rintro e w3 ⟨v, rfl, hr, hb⟩; obtain ⟨A3r, c3r, rfl⟩ := Kd.R_slice hr; have HN3 := Aside0.mk (Kd.R_elder' HN.out (Kd.R_base hr) hb); have HR3 := Aside0.mk (Kd.R_new' hr (Kd.R_lt HN.out)); have HLW := Aside0.mk HB.out.size; have HB3 := Aside0.mk (below_step HB.out hb); clear hr hb HN; have d3n := cellAt (i := 3) (u := .slice A3 l3.length c3) (HCS.out.below HB3.out).s rfl)
     go_loopw [67] (fun v67 W => ∃ (j : Int) (nxt : List Int), v67 = .int .i64 j ∧ Aside0 (0 ≤ j ∧ j ≤ 1000000) ∧ Aside0 (costA now (l3.drop j.toNat) nxt = some nx) ∧ Aside0 (Kd.R (Kd.int .i64) 3 W W1.heap.size (fun g => some g ≠ u13.ownBlock) (.slice A3r r0.length c3r) nxt) ∧ Aside0 (Kd.R (Kd.int .i64) 3 W W1.heap.size (fun g => some g ≠ (Value.slice A3r r0.length c3r).ownBlock) u13 now) ∧ Aside0 (Below W1.heap.size W1 W)) (fun v _ => ((l3.length : Int) - intOf v).toNat)
     case atStart => exact ⟨0, r0, rfl, ⟨by omega⟩, ⟨HA.out⟩, ⟨Kd.R_mono (Kd.R_lower HR3.out HLW.out) (fun _ h => h.2)⟩, ⟨Kd.R_mono HN3.out (fun _ h => h.2)⟩, HB3⟩
     case round =>
      clear d0 d1 d3 d3n ct39 HR3 HN3 HB3 HB HA HLW
      obtain ⟨j, nxt, rfl, HJ, HF3, HX3, HY3, HB4⟩ := hrel
      by_cases hj : j < (l3.length : Int)
      ·have hF := HF3.out
       rw [drop_arc l3 j HJ.out.1 hj, costA] at hF
       by_cases hq : (0 ≤ (rd_T51 l3 j).f1 ∧ (rd_T51 l3 j).f1 < (nxt.length : Int)) ∧ 0 ≤ (rd_T51 l3 j).f0 ∧ (rd_T51 l3 j).f0 < (now.length : Int)
       case neg => rw [if_neg hq] at hF; cases hF
       rw [if_pos hq] at hF
       obtain ⟨ad3, e3, b0, b1, b2⟩ := at_T51 (HCS.out.below HB4.out).h3 j HJ.out.1 hj
       have e3' : A3 = some ad3 := e3
       subst e3'
       obtain ⟨g13, c13, e13, gb13, gl13, cl13, gg13⟩ := Kd.R_form HY3.out (by omega)
       subst e13
       have e16 := (Kd.R_reads' HX3.out).1
       obtain ⟨g16, c16, e16b, gb16, gl16, cl16, gg16⟩ := Kd.R_form HX3.out (by omega)
       injection e16b with e16a _ e16c
       subst e16a e16c
       have HQ := Aside0.mk hq
       have HF4 := Aside0.mk hF
       have HJL := Aside0.mk hj
       have c7b : decide (j < (l3.length : Int)) = true := decide_eq_true hj
       have c8b : (0 ≤ j) = True := eq_true HJ.out.1
       have c9b : (j < (l3.length : Int)) = True := eq_true hj
       have p1b : (0 ≤ (rd_T51 l3 j).f1) = True := eq_true hq.1.1
       have p2b : ((rd_T51 l3 j).f1 < (nxt.length : Int)) = True := eq_true hq.1.2
       have p2c : ((rd_T51 l3 j).f1 < (r0.length : Int)) = True := eq_true (by rw [e16]; exact hq.1.2)
       have p3b : (0 ≤ (rd_T51 l3 j).f0) = True := eq_true hq.2.1
       have p4b : ((rd_T51 l3 j).f0 < (now.length : Int)) = True := eq_true hq.2.2
       have HG16 := Aside0.mk gb16
       have HE16 := Aside0.mk e16
       have jw : wrap64 (j + 1) = j + 1 := by have := HP.out.2.2.2.2; have := HJ.out; unfold wrap64; omega
       have HJW := Aside0.mk jw
       clear hj hq hF HF3 gb13 gl13 gg13 gb16 gl16 gg16 e16 jw
       go_upto_region 17 with (fail)
       obtain ⟨Wa, hWa⟩ : ∃ Wa, World.alloc wr (.cells #[.int .i64 (rd_T51 l3 j).f0, .int .i64 (rd_T51 l3 j).f1, .int .i64 (rd_T51 l3 j).f2] 51) = Wa := ⟨_, rfl⟩
       rw [hWa]
       have ha : Below wr.heap.size wr Wa.drew := below_drew (hWa ▸ below_alloc (Below.refl _ _) _)
       have hba : Wa.drew.heap[wr.heap.size]? = some (.cells #[.int .i64 (rd_T51 l3 j).f0, .int .i64 (rd_T51 l3 j).f1, .int .i64 (rd_T51 l3 j).f2] 51 (0, 0)) := blk_below (hWa ▸ heap_alloc_new wr _) (below_drew (Below.refl _ _))
       have hxa := Kd.R_below HX3.out ha
       have hya := Kd.R_below HY3.out ha
       have HBa := Aside0.mk (below_step HB4.out ha)
       have HSa := Aside0.mk (show Wa.drew.cell? ⟨wr.heap.size, 0, none⟩ = some (.int .i64 (rd_T51 l3 j).f0) ∧ Wa.drew.cell? ⟨wr.heap.size, 1, none⟩ = some (.int .i64 (rd_T51 l3 j).f1) ∧ Wa.drew.cell? ⟨wr.heap.size, 2, none⟩ = some (.int .i64 (rd_T51 l3 j).f2) ∧ Wa.drew.cell? ⟨g13, (rd_T51 l3 j).f0.toNat, none⟩ = some (.int .i64 (rd now (rd_T51 l3 j).f0)) ∧ Wa.drew.cell? ⟨g16, (rd_T51 l3 j).f1.toNat, none⟩ = some (.int .i64 (rd nxt (rd_T51 l3 j).f1)) from ⟨cellAt (i := 0) hba rfl, cellAt (i := 1) hba rfl, cellAt (i := 2) hba rfl, (Kd.R_celln 0 hya (rd_T51 l3 j).f0 HQ.out.2.1 HQ.out.2.2).1, (Kd.R_celln 0 hxa (rd_T51 l3 j).f1 HQ.out.1.1 (by rw [HE16.out]; exact HQ.out.1.2)).1⟩)
       have HXa := Aside0.mk hxa
       have HYa := Aside0.mk hya
       clear HX3 HY3 HB4 b0 b1 b2 ha hba hxa hya
       refine start_ (n := 20) (S := fun w' => w'.cell? ⟨wr.heap.size, 0, none⟩ = some (.int .i64 (rd_T51 l3 j).f0) ∧ w'.cell? ⟨wr.heap.size, 1, none⟩ = some (.int .i64 (rd_T51 l3 j).f1) ∧ w'.cell? ⟨wr.heap.size, 2, none⟩ = some (.int .i64 (rd_T51 l3 j).f2) ∧ w'.cell? ⟨g13, ((rd_T51 l3 j).f0).toNat, none⟩ = some (.int .i64 (rd now (rd_T51 l3 j).f0)) ∧ w'.cell? ⟨g16, ((rd_T51 l3 j).f1).toNat, none⟩ = some (.int .i64 (rd nxt (rd_T51 l3 j).f1))) (ds := [19]) #[false, false, false, false, false, false, false, false, false, false, false, false, false, false, false, false, false, false, false, false] (by kernel_rfl) rfl rfl HSa.out (fun hHeld => ?_); refine with_tabW cost_tab17 cost_bits17 (fun HT_ HW_ => ?_)
       obtain ⟨Wd, hWd⟩ : ∃ Wd, World.drew Wa = Wd := ⟨_, rfl⟩
       rw [hWd] at hHeld HXa HYa HBa ⊢
       refine pure_ (i := 0) (N := some 71) (v := ?_) (a' := ?_) #[true, false, false, false, false, false, false, false, false, false, false, false, false, false, false, false, false, false, false, false] rfl rfl (any_of HT_.out (by kernel_rfl)) (fun _ _ _ h => h) (Or.inl ⟨by rfl, ?_⟩) ?_ ?_
       rotate_left
       ·intro w'
        go_simp
        with_reducible rfl
       rotate_left
       ·simp only [Act.put, List.setIfInBounds_toArray, List.set_cons_zero, List.set_cons_succ, i64_w, i32_w]
        rfl
       refine pure_ (i := 1) (N := some 72) (v := ?_) (a' := ?_) #[true, true, false, false, false, false, false, false, false, false, false, false, false, false, false, false, false, false, false, false] rfl rfl (any_of HT_.out (by kernel_rfl)) (fun _ _ _ h => h) (Or.inl ⟨by rfl, ?_⟩) ?_ ?_
       rotate_left
       ·intro w'
        go_simp
        with_reducible rfl
       rotate_left
       ·simp only [Act.put, List.setIfInBounds_toArray, List.set_cons_zero, List.set_cons_succ, i64_w, i32_w]
        rfl
       refine pure_ (i := 3) (N := some 74) (v := ?_) (a' := ?_) #[true, true, false, true, false, false, false, false, false, false, false, false, false, false, false, false, false, false, false, false] rfl rfl (any_of HT_.out (by kernel_rfl)) (fun _ _ _ h => h) (Or.inl ⟨by rfl, ?_⟩) ?_ ?_
       rotate_left
       ·intro w'
        go_simp
        with_reducible rfl
       rotate_left
       ·simp only [Act.put, List.setIfInBounds_toArray, List.set_cons_zero, List.set_cons_succ, i64_w, i32_w]
        rfl
       refine pure_ (i := 4) (N := some 75) (v := ?_) (a' := ?_) #[true, true, false, true, true, false, false, false, false, false, false, false, false, false, false, false, false, false, false, false] rfl rfl (any_of HT_.out (by kernel_rfl)) (fun _ _ _ h => h) (Or.inl ⟨by rfl, ?_⟩) ?_ ?_
       rotate_left
       ·intro w'
        go_simp
        with_reducible rfl
       rotate_left
       ·simp only [Act.put, List.setIfInBounds_toArray, List.set_cons_zero, List.set_cons_succ, i64_w, i32_w]
        rfl
       refine pure_ (i := 8) (N := some 79) (v := ?_) (a' := ?_) #[true, true, false, true, true, false, false, false, true, false, false, false, false, false, false, false, false, false, false, false] rfl rfl (any_of HT_.out (by kernel_rfl)) (fun _ _ _ h => h) (Or.inl ⟨by rfl, ?_⟩) ?_ ?_
       rotate_left
       ·intro w'
        go_simp
        with_reducible rfl
       rotate_left
       ·simp only [Act.put, List.setIfInBounds_toArray, List.set_cons_zero, List.set_cons_succ, i64_w, i32_w]
        rfl
       refine pure_ (i := 9) (N := some 80) (v := ?_) (a' := ?_) #[true, true, false, true, true, false, false, false, true, true, false, false, false, false, false, false, false, false, false, false] rfl rfl (any_of HT_.out (by kernel_rfl)) (fun _ _ _ h => h) (Or.inl ⟨by rfl, ?_⟩) ?_ ?_
       rotate_left
       ·intro w'
        go_simp
        with_reducible rfl
       rotate_left
       ·simp only [Act.put, List.setIfInBounds_toArray, List.set_cons_zero, List.set_cons_succ, i64_w, i32_w]
        rfl
       refine pure_ (i := 13) (N := some 84) (v := ?_) (a' := ?_) #[true, true, false, true, true, false, false, false, true, true, false, false, false, true, false, false, false, false, false, false] rfl rfl (any_of HT_.out (by kernel_rfl)) (fun _ _ _ h => h) (Or.inl ⟨by rfl, ?_⟩) ?_ ?_
       rotate_left
       ·intro w'
        go_simp
        with_reducible rfl
       rotate_left
       ·simp only [Act.put, List.setIfInBounds_toArray, List.set_cons_zero, List.set_cons_succ, i64_w, i32_w]
        rfl
       refine take_ (i := 2) (N := some 73) (v := ?_) (a' := ?_) #[true, true, true, true, true, false, false, false, true, true, false, false, false, true, false, false, false, false, false, false] rfl rfl (take_ofW HT_.out HW_.out (by kernel_rfl)) (fun _ _ _ h => h) (Or.inl ⟨by rfl, ?_⟩) hHeld ?_ ?_
       rotate_left
       ·rintro w' ⟨s0, s1, s2, s3, s4⟩
        go_simp
        with_reducible rfl
       rotate_left
       ·simp only [Act.put, List.setIfInBounds_toArray, List.set_cons_zero, List.set_cons_succ, i64_w, i32_w]
        rfl
       refine take_ (i := 5) (N := some 76) (v := ?_) (a' := ?_) #[true, true, true, true, true, true, false, false, true, true, false, false, false, true, false, false, false, false, false, false] rfl rfl (take_ofW HT_.out HW_.out (by kernel_rfl)) (fun _ _ _ h => h) (Or.inl ⟨by rfl, ?_⟩) hHeld ?_ ?_
       rotate_left
       ·rintro w' ⟨s0, s1, s2, s3, s4⟩
        go_simp
        with_reducible rfl
       rotate_left
       ·simp only [Act.put, List.setIfInBounds_toArray, List.set_cons_zero, List.set_cons_succ, i64_w, i32_w]
        rfl
       refine pure_ (i := 6) (N := some 77) (v := ?_) (a' := ?_) #[true, true, true, true, true, true, true, false, true, true, false, false, false, true, false, false, false, false, false, false] rfl rfl (any_of HT_.out (by kernel_rfl)) (fun _ _ _ h => h) (Or.inl ⟨by rfl, ?_⟩) ?_ ?_
       rotate_left
       ·intro w'
        go_simp
        with_reducible rfl
       rotate_left
       ·simp only [Act.put, List.setIfInBounds_toArray, List.set_cons_zero, List.set_cons_succ, i64_w, i32_w]
        rfl
       refine take_ (i := 7) (N := some 78) (v := ?_) (a' := ?_) #[true, true, true, true, true, true, true, true, true, true, false, false, false, true, false, false, false, false, false, false] rfl rfl (take_ofW HT_.out HW_.out (by kernel_rfl)) (fun _ _ _ h => h) (Or.inl ⟨by rfl, ?_⟩) hHeld ?_ ?_
       rotate_left
       ·rintro w' ⟨s0, s1, s2, s3, s4⟩
        go_simp
        with_reducible rfl
       rotate_left
       ·simp only [Act.put, List.setIfInBounds_toArray, List.set_cons_zero, List.set_cons_succ, i64_w, i32_w]
        rfl
       refine take_ (i := 10) (N := some 81) (v := ?_) (a' := ?_) #[true, true, true, true, true, true, true, true, true, true, true, false, false, true, false, false, false, false, false, false] rfl rfl (take_ofW HT_.out HW_.out (by kernel_rfl)) (fun _ _ _ h => h) (Or.inl ⟨by rfl, ?_⟩) hHeld ?_ ?_
       rotate_left
       ·rintro w' ⟨s0, s1, s2, s3, s4⟩
        go_simp
        with_reducible rfl
       rotate_left
       ·simp only [Act.put, List.setIfInBounds_toArray, List.set_cons_zero, List.set_cons_succ, i64_w, i32_w]
        rfl
       refine pure_ (i := 11) (N := some 82) (v := ?_) (a' := ?_) #[true, true, true, true, true, true, true, true, true, true, true, true, false, true, false, false, false, false, false, false] rfl rfl (any_of HT_.out (by kernel_rfl)) (fun _ _ _ h => h) (Or.inl ⟨by rfl, ?_⟩) ?_ ?_
       rotate_left
       ·intro w'
        go_simp
        with_reducible rfl
       rotate_left
       ·simp only [Act.put, List.setIfInBounds_toArray, List.set_cons_zero, List.set_cons_succ, i64_w, i32_w]
        rfl
       refine take_ (i := 12) (N := some 83) (v := ?_) (a' := ?_) #[true, true, true, true, true, true, true, true, true, true, true, true, true, true, false, false, false, false, false, false] rfl rfl (take_ofW HT_.out HW_.out (by kernel_rfl)) (fun _ _ _ h => h) (Or.inl ⟨by rfl, ?_⟩) hHeld ?_ ?_
       rotate_left
       ·rintro w' ⟨s0, s1, s2, s3, s4⟩
        go_simp
        with_reducible rfl
       rotate_left
       ·simp only [Act.put, List.setIfInBounds_toArray, List.set_cons_zero, List.set_cons_succ, i64_w, i32_w]
        rfl
       refine take_ (i := 14) (N := some 85) (v := ?_) (a' := ?_) #[true, true, true, true, true, true, true, true, true, true, true, true, true, true, true, false, false, false, false, false] rfl rfl (take_ofW HT_.out HW_.out (by kernel_rfl)) (fun _ _ _ h => h) (Or.inl ⟨by rfl, ?_⟩) hHeld ?_ ?_
       rotate_left
       ·rintro w' ⟨s0, s1, s2, s3, s4⟩
        go_simp
        with_reducible rfl
       rotate_left
       ·simp only [Act.put, List.setIfInBounds_toArray, List.set_cons_zero, List.set_cons_succ, i64_w, i32_w]
        rfl
       refine one_ (i := 15) (N := some 86) #[true, true, true, true, true, true, true, true, true, true, true, true, true, true, true, true, false, false, false, false] rfl rfl (one_of HT_.out (by kernel_rfl)) (by decide) (fun K hK => ?_)
       refine goes_ Try.func39 (by kernel_rfl) rfl #[.int .i64 (rd now (rd_T51 l3 j).f0), .int .i64 (rd_T51 l3 j).f2] (by rfl) rfl rfl (by (try simp only [List.map_toArray, List.map_cons, List.map_nil]); first | done | rfl) ?_
       refine (trop_Add.calls (rd now (rd_T51 l3 j).f0) (rd_T51 l3 j).f2 (tadd (rd now (rd_T51 l3 j).f0) (rd_T51 l3 j).f2) _ (trop_Add_tadd _ _)).mono ?_
       rintro e w5 ⟨rfl, hb5⟩
       refine ⟨_, rfl, ?_⟩
       refine hK.out _ _ (s5_below hHeld hb5) (fun hHeld => ?_)
       clear hK K
       refine norm_ (a' := ?_) ?_ ?_
       rotate_left
       ·show Act.put _ (some 86) _ = _
        simp only [Act.put, List.setIfInBounds_toArray, List.set_cons_zero, List.set_cons_succ, i64_w, i32_w]
        rfl
       refine one_ (i := 16) (N := some 87) #[true, true, true, true, true, true, true, true, true, true, true, true, true, true, true, true, true, false, false, false] rfl rfl (one_of HT_.out (by kernel_rfl)) (by decide) (fun K hK => ?_)
       refine Kd.R_lit_step (Kd.int .i64) _ 3 ?hg (N := 87) ?hd (xs := ([rd nxt (rd_T51 l3 j).f1, tadd (rd now (rd_T51 l3 j).f0) (rd_T51 l3 j).f2] : List Int)) (inner := [.int .i64 (rd nxt (rd_T51 l3 j).f1), .int .i64 (tadd (rd now (rd_T51 l3 j).f0) (rd_T51 l3 j).f2)]) (ok := fun _ => True) (okp := fun _ => True) ?hr ?hp (fun _ hk => hk) trivial (Below.refl _ _) (Nat.le_refl _) (by simp) ?_
       case hd => rfl
       case hg => rfl
       case hr => first | (go_simp; done) | (go_simp; rfl)
       case hp => exact (Reps.one (show Kd.M (Kd.int .i64) _ _ _ (rd nxt (rd_T51 l3 j).f1) [.int .i64 (rd nxt (rd_T51 l3 j).f1)] from rfl) (Reps.one (show Kd.M (Kd.int .i64) _ _ _ (tadd (rd now (rd_T51 l3 j).f0) (rd_T51 l3 j).f2) [.int .i64 (tadd (rd now (rd_T51 l3 j).f0) (rd_T51 l3 j).f2)] from rfl) (Reps.none _ _)))
       intro v7 w6 ho6 hb6 hg_ hnew_
       clear hg_ hnew_
       obtain ⟨A7, c7, e7⟩ := Kd.R_slice ho6
       subst e7
       refine hK.out _ _ (s5_below hHeld hb6) (fun hHeld => ?_)
       clear hK K
       refine norm_ (a' := ?_) ?_ ?_
       rotate_left
       ·show Act.put _ (some 87) _ = _
        simp only [Act.put, List.setIfInBounds_toArray, List.set_cons_zero, List.set_cons_succ, i64_w, i32_w]
        rfl
       refine one_ (i := 17) (N := some 88) #[true, true, true, true, true, true, true, true, true, true, true, true, true, true, true, true, true, true, false, false] rfl rfl (one_of HT_.out (by kernel_rfl)) (by decide) (fun K hK => ?_)
       refine goes_ Try.func35 (by kernel_rfl) rfl #[.slice A7 2 c7] (by rfl) rfl rfl (by (try simp only [List.map_toArray, List.map_cons, List.map_nil]); first | done | rfl) ?_
       refine (trop_Min.calls 3 A7 c7 [rd nxt (rd_T51 l3 j).f1, tadd (rd now (rd_T51 l3 j).f0) (rd_T51 l3 j).f2] (mn (mn 1152921504606846976 (rd nxt (rd_T51 l3 j).f1)) (tadd (rd now (rd_T51 l3 j).f0) (rd_T51 l3 j).f2)) _ (Kd.R_reads' ho6).2.2 (Kd.R_reads' ho6).2.1 (min2_f _ _)).mono ?_
       rintro e w7 ⟨rfl, hb7⟩
       refine ⟨_, rfl, ?_⟩
       have hb9 := below_step (below_step (below_step (Below.refl _ _) hb5) hb6) hb7
       have HXc := Aside0.mk (Kd.R_below HXa.out hb9)
       have HYc := Aside0.mk (Kd.R_below HYa.out hb9)
       have HBc := Aside0.mk (below_step HBa.out hb9)
       have f16 := (Kd.R_celln 0 HXc.out (rd_T51 l3 j).f1 HQ.out.1.1 (by rw [HE16.out]; exact HQ.out.1.2)).2
       have hs7 := s5_below hHeld hb7
       have k16 := hs7.2.2.2.2
       clear hb5 hb6 hb9 ho6 HXa HYa HBa
       refine hK.out _ _ hs7 (fun hHeld => ?_)
       clear hs7 hb7
       clear hK K
       refine norm_ (a' := ?_) ?_ ?_
       rotate_left
       ·show Act.put _ (some 88) _ = _
        simp only [Act.put, List.setIfInBounds_toArray, List.set_cons_zero, List.set_cons_succ, i64_w, i32_w]
        rfl
       refine pure_ (i := 18) (N := some 89) (v := ?_) (a' := ?_) #[true, true, true, true, true, true, true, true, true, true, true, true, true, true, true, true, true, true, true, false] rfl rfl (any_of HT_.out (by kernel_rfl)) (fun _ _ _ h => h) (Or.inl ⟨by rfl, ?_⟩) ?_ ?_
       rotate_left
       ·intro w'
        go_simp
        with_reducible rfl
       rotate_left
       ·simp only [Act.put, List.setIfInBounds_toArray, List.set_cons_zero, List.set_cons_succ, i64_w, i32_w]
        rfl
       refine last_ (i := 19) (N := none) #[true, true, true, true, true, true, true, true, true, true, true, true, true, true, true, true, true, true, true, true] rfl rfl (one_of HT_.out (by kernel_rfl)) (by decide) (fun K hK => ?_)
       refine skip_ (w1 := ?_) (by rfl) rfl ?_ ?_
       rotate_left
       ·go_simp
        rfl
       refine hK.out _ _ ?_
       clear hK K
       refine done_ (done_of HT_.out (by kernel_rfl)) ?_
       go_wp2
       go_roundw
       case rel => exact ⟨j + 1, nxt.set (rd_T51 l3 j).f1.toNat (mn (mn 1152921504606846976 (rd nxt (rd_T51 l3 j).f1)) (tadd (rd now (rd_T51 l3 j).f0) (rd_T51 l3 j).f2)), by rw [HJW.out], ⟨by have := HJ.out; have := HJL.out; have := HP.out.2.2.2.2; omega⟩, HF4, ⟨Kd.R_putn HXc.out _ _⟩, ⟨Kd.R_far (p := ⟨g16, (rd_T51 l3 j).f1.toNat, none⟩) HYc.out (fun k hk e => hk (by rw [e]; rfl)) _⟩, ⟨below_set HBc.out HG16.out⟩⟩
       case measure => have := HJL.out; rw [HJW.out]; simp only [intOf]; omega
      ·have hF := HF3.out
       rw [show l3.drop j.toNat = [] from List.drop_eq_nil_of_le (by have := HJ.out; omega), costA] at hF
       obtain rfl := Option.some.inj hF
       have c7b : decide (j < (l3.length : Int)) = false := decide_eq_false hj
       have e16 := (Kd.R_reads' HX3.out).1
       have HE := Aside0.mk e16
       clear hF HF3 hj e16
       go_wp2
       go_meet
       case rel => exact ⟨A3r, c3r, by rw [HE.out], (Kd.R_reads' HX3.out).2.2, by rw [← HE.out]; exact (Kd.R_reads' HX3.out).2.1, HB4.out⟩
    ·have hnx := HNX.out
     rw [if_neg hi] at hnx
     obtain rfl := Option.some.inj hnx
     have c5b : ∀ {inst : Decidable (0 < i)}, @decide (0 < i) inst = false := fun {_} => decide_eq_false hi
     simp only [c5b]
     clear hi hnx HNX
     go_wp2
     go_meet
     case rel => exact ⟨⟨A1, c1, rfl, (HCS.out.below HB.out).h1, HCL.out.c1, HB.out⟩⟩
   case rest =>
    clear d0 d1 d3 ct39 HN HB HNX
    obtain ⟨An, cn, rfl, hnc, hncl, hnb⟩ := hcut.out
    have HNB := Aside0.mk hnb
    have HNC := Aside0.mk (And.intro hnc hncl)
    clear hcut hnc hncl hnb
    go_wp2_with (go_at_call 31; refine (Clone_int.calls An cn nx nx _ HNC.out.1 HNC.out.2 (clone_is nx HM.out.1)).mono ?_; rintro e w3 ⟨v, rfl, hr, hb⟩; obtain ⟨A4, c4, rfl⟩ := Kd.R_slice hr; have HR4 := Aside0.mk (Kd.R_lower hr HNB.out.size); have HB4 := Aside0.mk (below_step HNB.out hb); clear hr hb HNC HNB)
    go_loopw [95] (fun v95 W => ∃ (j : Int) (cur : List Int), v95 = .int .i64 j ∧ Aside0 (0 ≤ j ∧ j ≤ (nx.length : Int)) ∧ Aside0 (costM (fun j => side_of.f l0 l1 l2 l3 a4 ss j (rd txt i)) ((nx.length : Int) - j).toNat j cur = some now2) ∧ Aside0 (Kd.R (Kd.int .i64) 3 W W1.heap.size (fun _ => True) (.slice A4 nx.length c4) cur) ∧ Aside0 (Below W1.heap.size W1 W)) (fun v _ => ((nx.length : Int) - intOf v).toNat)
    case atStart => exact ⟨0, nx, rfl, ⟨by omega⟩, ⟨by rw [show ((nx.length : Int) - 0).toNat = nx.length from by omega]; exact HM.out.2⟩, HR4, HB4⟩
    case round =>
     clear HR4 HB4
     obtain ⟨j, cur, rfl, HJ, HF3, HX3, HB3⟩ := hrel
     by_cases hj : j < (nx.length : Int)
     ·have hF := HF3.out
      rw [show ((nx.length : Int) - j).toNat = ((nx.length : Int) - (j + 1)).toNat + 1 from by omega, costM] at hF
      obtain ⟨b, hbq, hF⟩ := Option.bind_eq_some_iff.1 hF
      have HBQ := Aside0.mk hbq
      have HF4 := Aside0.mk hF
      have HJL := Aside0.mk hj
      have jw : wrap64 (j + 1) = j + 1 := by have := HM.out.1; have := HJ.out; unfold wrap64; omega
      have HJW := Aside0.mk jw
      have c7b : decide (j < (nx.length : Int)) = true := decide_eq_true hj
      have c8b : (0 ≤ j) = True := eq_true HJ.out.1
      have c9b : (j < (nx.length : Int)) = True := eq_true hj
      clear hj hF hbq jw HF3
      cases b
      ·go_wp2_with (go_at_call 37; refine (side_of.calls A0 c0 l0 A1 c1 l1 A2 c2 l2 A3 c3 l3 a4 Av cv ss j (rd txt i) false _ (HCS.out.below HB3.out).h0 HCL.out.c0 (HCS.out.below HB3.out).h1 HCL.out.c1 (HCS.out.below HB3.out).h2 HCL.out.c2 (HCS.out.below HB3.out).h3 HCL.out.c3 (HCS.out.below HB3.out).hs HCV.out HBQ.out w.heap.size w2.heap.size _ (HCS.out.below HB3.out).s rfl (HCS.out.below HB3.out).v).mono ?_; rintro e w4 ⟨rfl, ⟨nd, rfl⟩⟩; have hb5 : Below wr.heap.size wr (wr.drewN nd) := pw_below_drewN (Below.refl _ _) nd; have HX5 := Aside0.mk (Kd.R_below HX3.out hb5); have HB5 := Aside0.mk (below_step HB3.out hb5); clear hb5 HX3 HB3; have e4 := (Kd.R_reads' HX5.out).1; obtain ⟨g4, cap4, e4b, gb4, gl4, cl4, gg4⟩ := Kd.R_form HX5.out (by have := HJ.out; have := HJL.out; omega); injection e4b with e4a e4n e4c; clear e4n; subst e4a e4c; have HG4 := Aside0.mk gb4; obtain ⟨k4, f4⟩ := Kd.R_celln 0 HX5.out j HJ.out.1 HJL.out; clear gb4 gl4 gg4 e4)
       go_roundw
       case rel => exact ⟨j + 1, cur.set j.toNat 1152921504606846976, by rw [HJW.out], ⟨by have := HJ.out; have := HJL.out; omega⟩, HF4, ⟨Kd.R_putn HX5.out _ _⟩, ⟨below_set HB5.out HG4.out⟩⟩
       case measure => have := HJL.out; rw [HJW.out]; simp only [intOf]; omega
      ·go_wp2_with (go_at_call 37; refine (side_of.calls A0 c0 l0 A1 c1 l1 A2 c2 l2 A3 c3 l3 a4 Av cv ss j (rd txt i) true _ (HCS.out.below HB3.out).h0 HCL.out.c0 (HCS.out.below HB3.out).h1 HCL.out.c1 (HCS.out.below HB3.out).h2 HCL.out.c2 (HCS.out.below HB3.out).h3 HCL.out.c3 (HCS.out.below HB3.out).hs HCV.out HBQ.out w.heap.size w2.heap.size _ (HCS.out.below HB3.out).s rfl (HCS.out.below HB3.out).v).mono ?_; rintro e w4 ⟨rfl, ⟨nd, rfl⟩⟩; have hb5 : Below wr.heap.size wr (wr.drewN nd) := pw_below_drewN (Below.refl _ _) nd; have HX5 := Aside0.mk (Kd.R_below HX3.out hb5); have HB5 := Aside0.mk (below_step HB3.out hb5); clear hb5 HX3 HB3)
       go_roundw
       case rel => exact ⟨j + 1, cur, by rw [HJW.out], ⟨by have := HJ.out; have := HJL.out; omega⟩, HF4, HX5, HB5⟩
       case measure => have := HJL.out; rw [HJW.out]; simp only [intOf]; omega
     ·have hF := HF3.out
      rw [show ((nx.length : Int) - j).toNat = 0 from by omega, costM] at hF
      obtain rfl := Option.some.inj hF
      have c7b : decide (j < (nx.length : Int)) = false := decide_eq_false hj
      have iw : wrap64 (i + 1) = i + 1 := by have := HI.out; unfold wrap64; omega
      have HIW := Aside0.mk iw
      clear hj hF HF3 iw
      go_wp2
      go_roundw
      case rel => exact ⟨i + 1, cur, by rw [HIW.out], ⟨by have := HI.out; have := HLT.out; have := HLEN.out.1; have := HP.out; omega⟩, HF2, HX3, HB3⟩
      case measure => have := HLT.out; rw [HIW.out]; simp only [intOf]; omega
  ·have hF := HF.out
   rw [show txt.drop i.toNat = [] from List.drop_eq_nil_of_le (by have := HI.out; omega), costT] at hF
   obtain rfl := Option.some.inj hF
   have c1b : decide (i < ((min q.toNat text.length - p.toNat : Nat) : Int)) = false := decide_eq_false (by rw [HLEN.out.2.2]; exact hlt)
   clear hlt hF HF
   obtain ⟨A5, c5, rfl⟩ := Kd.R_slice HN.out
   go_wp2
   go_loopw [20, 110] (fun v20 v110 W => ∃ (j b : Int), v20 = .int .i64 b ∧ v110 = .int .i64 j ∧ Aside0 (0 ≤ j ∧ j ≤ 1000000) ∧ Aside0 (costL l2 (now.drop j.toNat) j b = some r) ∧ Aside0 (Below wr.heap.size wr W)) (fun _ v _ => ((now.length : Int) - intOf v).toNat)
   case atStart => exact ⟨0, 1152921504606846976, rfl, rfl, ⟨by omega⟩, ⟨HLR.out.2.2⟩, ⟨Below.refl _ _⟩⟩
   case round =>
    obtain ⟨j, b, rfl, rfl, HJ, HF3, HB7⟩ := hrel
    by_cases hj : j < (now.length : Int)
    ·have hF := HF3.out
     rw [drop_int now j HJ.out.1 hj, costL] at hF
     by_cases hq : j < (l2.length : Int)
     case neg => rw [if_neg hq] at hF; cases hF
     rw [if_pos hq] at hF
     obtain ⟨ad5, e5, k5⟩ := Kd.at_int (Kd.R_reads' (Kd.R_below HN.out HB7.out)).2.2 j HJ.out.1 hj
     obtain ⟨ad2, e2, k2⟩ := Kd.at_int ((HCS.out.below HB.out).below HB7.out).h2 j HJ.out.1 hq
     have e2' : A2 = some ad2 := e2
     subst e5 e2'
     have d2 := cellAt (i := 2) (u := .slice (some ad2) l2.length c2) ((HCS.out.below HB.out).below HB7.out).s rfl
     have HF4 := Aside0.mk hF
     have HJL := Aside0.mk hj
     have jw : wrap64 (j + 1) = j + 1 := by have := HLR.out.2.1; have := HJ.out; unfold wrap64; omega
     have HJW := Aside0.mk jw
     have c7b : decide (j < (now.length : Int)) = true := decide_eq_true hj
     have c8b : (0 ≤ j) = True := eq_true HJ.out.1
     have c9b : (j < (now.length : Int)) = True := eq_true hj
     have c10b : (j < (l2.length : Int)) = True := eq_true hq
     clear hj hF jw HF3 e2 hq
     go_wp2_with (first | (go_at_call 39; refine (trop_Add.calls (rd now j) (rd l2 j) (tadd (rd now j) (rd l2 j)) _ (trop_Add_tadd _ _)).mono ?_; rintro e w5 ⟨rfl, hb5⟩; have HB5 := Aside0.mk (below_step HB7.out hb5); clear hb5 HB7) | (go_at_call 35; refine (min2_calls b (tadd (rd now j) (rd l2 j)) w5.heap.size _ (heap_alloc_new w5 _)).mono ?_; rintro e w6 ⟨rfl, hb6⟩; have HB6 := Aside0.mk (below_step (below_alloc HB5.out _) hb6); clear hb6 HB5))
     go_roundw
     case rel => exact ⟨j + 1, mn (mn 1152921504606846976 b) (tadd (rd now j) (rd l2 j)), rfl, by rw [HJW.out], ⟨by have := HJ.out; have := HJL.out; have := HLR.out.2.1; omega⟩, HF4, HB6⟩
     case measure => have := HJL.out; rw [HJW.out]; simp only [intOf]; omega
    ·have hF := HF3.out
     rw [show now.drop j.toNat = [] from List.drop_eq_nil_of_le (by have := HJ.out; omega), costL] at hF
     obtain rfl := Option.some.inj hF
     have c7b : decide (j < (now.length : Int)) = false := decide_eq_false hj
     have HE := Aside0.mk (below_step (below_step HBW.out HB.out) HB7.out)
     clear hj hF HF3
     go_wp2
     go_ret
     exact ⟨rfl, HE.out⟩
end Go.Proofs.Ytnnpfgpfkningaa.P
namespace Go.Proofs.Ytnnpfgpfkningaa.P
open Go.RowKit Go.Proofs.YtnnpfgpfkningaaW.PrintWords Go.Proofs.YtnnpfgpfkningaaW.PrintLast Go.Proofs.YtnnpfgpfkningaaW.PrintMore
attribute [local go_sem] max2_int min2_int max_two min_two max_three min_three max_four min_four   -- for this text's walks alone
attribute [local go_sem ↓ high] Go.Proofs.YtnnpfgpfkningaaX.isSome_setCell
set_option linter.unusedVariables false
set_option linter.unusedSimpArgs false
theorem cost_calls (k : Nat) (A0 : Option Addr) (c0 : Nat) (l0 : List Int) (A1 : Option Addr) (c1 : Nat) (l1 : List Int) (A2 : Option Addr) (c2 : Nat) (l2 : List Int) (A3 : Option Addr) (c3 : Nat) (l3 : List S51) (a4 : Int) (Ad : Option Addr) (cd : Nat) (defs : List S61) (Ar : Option Addr) (cr : Nat) (rules : List S174) (At : Option Addr) (ct : Nat) (text : List Int) (p q r : Int) (w : World)
  (h0 : Kd.C (Kd.int .i64) w A0 l0.length l0) (hc0 : l0.length ≤ c0) (h1 : Kd.C (Kd.int .i64) w A1 l1.length l1) (hc1 : l1.length ≤ c1) (h2 : Kd.C (Kd.int .i64) w A2 l2.length l2) (hc2 : l2.length ≤ c2) (h3 : Kd.C k51 w A3 l3.length l3) (hc3 : l3.length ≤ c3) (hd : Kd.C k61 w Ad defs.length defs) (hcd : defs.length ≤ cd) (hru : Kd.C k174 w Ar rules.length rules) (hcr : rules.length ≤ cr) (ht : Kd.C (Kd.int .i64) w At text.length text) (hct : text.length ≤ ct)
  (h : costF k l0 l1 l2 l3 a4 defs rules text p q = some r) :
  Calls Try.prog 23 #[.agg #[.slice A0 l0.length c0, .slice A1 l1.length c1, .slice A2 l2.length c2, .slice A3 l3.length c3, .int .i64 a4], .agg #[.slice Ad defs.length cd, .slice Ar rules.length cr], .slice At text.length ct, .int .i64 p, .int .i64 q] w fun e w' => e = .returned (.int .i64 r) ∧ Below w.heap.size w w' := by
 unfold costF at h
 by_cases hr : 0 ≤ p ∧ p ≤ q ∧ q ≤ (text.length : Int) ∧ text.length < 1000000 ∧ l3.length < 1000000
 case neg => rw [if_neg hr] at h; cases h
 rw [if_pos hr] at h
 by_cases he : p = q
 ·rw [if_pos he] at h
  exact cost_eq k A0 c0 l0 A1 c1 l1 A2 c2 l2 A3 c3 l3 a4 Ad cd defs Ar cr rules At ct text p q r w ⟨hr.1, he, hr.2.2.1⟩ (Option.some.inj h)
 ·rw [if_neg he] at h
  obtain ⟨ss, hss, h⟩ := Option.bind_eq_some_iff.1 h
  obtain ⟨lr, hlr, h⟩ := Option.bind_eq_some_iff.1 h
  by_cases hl : lr.length < 1000000
  case neg => rw [if_neg hl] at h; cases h
  rw [if_pos hl] at h
  exact cost_lt k A0 c0 l0 A1 c1 l1 A2 c2 l2 A3 c3 l3 a4 Ad cd defs Ar cr rules At ct text p q r w h0 hc0 h1 hc1 h2 hc2 h3 hc3 hd hcd hru hcr ht hct ⟨hr.1, by omega, hr.2.2⟩ ss hss lr hlr hl h
end Go.Proofs.Ytnnpfgpfkningaa.P
