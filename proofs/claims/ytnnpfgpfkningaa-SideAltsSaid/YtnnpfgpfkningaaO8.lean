-- Joined by wip/merge.py (a program of this repo) out of texts of this claim, cut down to what it reaches; Lean checks it.
import Derived.Test.YtnnpfgpfkningaaO7
import Derived.Test.YtnnpfgpfkningaaO3
import Derived.Test.YtnnpfgpfkningaaO4
import Derived.Test.YtnnpfgpfkningaaO1
import Derived.Test.YtnnpfgpfkningaaO2
import Derived.Test.YtnnpfgpfkningaaO5
namespace Go.Proofs.Ytnnpfgpfkningaa.P
open Go.RowKit Go.Proofs.YtnnpfgpfkningaaW.PrintWords Go.Proofs.YtnnpfgpfkningaaW.PrintLast Go.Proofs.YtnnpfgpfkningaaW.PrintMore
attribute [local go_sem] max2_int min2_int max_two min_two max_three min_three max_four min_four   -- for this text's walks alone
attribute [local go_sem ↓ high] Go.Proofs.YtnnpfgpfkningaaX.isSome_setCell
set_option linter.unusedVariables false
set_option linter.unusedSimpArgs false
/-- A row of so many times the same three values. -/
def kdup (a b c : Value) (ha : a.oneCell' = true) (hb : b.oneCell' = true) (hc : c.oneCell' = true) : Kd Unit where
 sz := 3
 E := []
 K := fun _ _ cs => cs = [a, b, c]
 M := fun _ _ _ _ cs => cs = [a, b, c]
 K_len := fun h => by rw [h]; rfl
 K_one := fun h u hu => by
  rw [h] at hu
  simp at hu
  rcases hu with rfl | rfl | rfl
  ·exact ha
  ·exact hb
  ·exact hc
 K_below := fun _ h => h
 K_of_M := fun h => h
 M_mono := fun _ h => h
 M_bound := fun h => h
 M_move := fun _ h => h
 M_lower := fun _ h => h
def kp (p : S74) (Af Ae : Option Addr) (cf ce : Nat) : Kd Unit := kdup (.slice Af p.f0.length cf) (.slice Ae p.f1.length ce) (.int .i64 p.f2) rfl rfl rfl
theorem kp_cells {p : S74} {Af Ae : Option Addr} {cf ce base : Nat} {ok : Nat → Prop} {w : World} {v : Value} {l : List Unit} (h : Kd.R (kp p Af Ae cf ce) 74 w base ok v l) (hn : 0 < l.length) :
  ∃ g cap, v = .slice (some ⟨g, 0, none⟩) l.length cap ∧ w.cell? ⟨g, 0, none⟩ = some (.slice Af p.f0.length cf) ∧ w.cell? ⟨g, 1, none⟩ = some (.slice Ae p.f1.length ce) ∧ w.cell? ⟨g, 2, none⟩ = some (.int .i64 p.f2) := by
 obtain ⟨A, c, rfl⟩ := Kd.R_slice h
 obtain ⟨inner, ho⟩ := Kd.R_own h
 have hr := (Kd.R_reads' h).2.2
 obtain ⟨ad, hA, hc⟩ := hr.2.2 hn
 obtain ⟨cc, hl, hk, hcell⟩ := hc 0 () (by cases l with | nil => simp at hn | cons a l => rfl)
 obtain rfl : cc = [.slice Af p.f0.length cf, .slice Ae p.f1.length ce, .int .i64 p.f2] := hk
 obtain ⟨_, ho | ⟨g, cap, cur, hv, _⟩⟩ := ho
 ·rw [hA] at ho; cases ho.1
 ·rw [hA] at hv
  injection hv with e1 e2 e3
  injection e1 with e1
  subst e1 e3 hA
  refine ⟨g, c, rfl, ?_, ?_, ?_⟩
  ·have := hcell 0 _ rfl; simpa [add_plain] using this
  ·have := hcell 1 _ rfl; simpa [add_plain] using this
  ·have := hcell 2 _ rfl; simpa [add_plain] using this
theorem kp_C {p : S74} {Af Ae : Option Addr} {cf ce base : Nat} {ok : Nat → Prop} {w : World} {A : Option Addr} {n c : Nat} {l : List Unit} (h : Kd.R (kp p Af Ae cf ce) 74 w base ok (.slice A n c) l) (hf : Kd.C k94 w Af p.f0.length p.f0) (hf2 : p.f0.length ≤ cf) (he : Kd.C k94 w Ae p.f1.length p.f1) (he2 : p.f1.length ≤ ce) :
  n = l.length ∧ Kd.C k74 w A n (List.replicate n p) ∧ n ≤ c := by
 obtain ⟨h1, h2, h3⟩ := Kd.R_reads' h
 refine ⟨h1, ?_, h2⟩
 obtain ⟨q1, q2, q3⟩ := h3
 refine ⟨by simp, by rw [h1]; exact q2, fun hn => ?_⟩
 obtain ⟨ad, hA, hc⟩ := q3 (by omega)
 refine ⟨ad, hA, fun j x hj => ?_⟩
 rw [List.getElem?_replicate] at hj
 split at hj
 ·rename_i hlt
  injection hj with hj
  subst hj
  obtain ⟨cc, r1, r2, r3⟩ := hc j () (by rw [List.getElem?_eq_getElem (by omega)])
  obtain rfl : cc = [.slice Af p.f0.length cf, .slice Ae p.f1.length ce, .int .i64 p.f2] := r2
  exact ⟨_, rfl, k74_mk _ p hf2 hf he2 he, r3⟩
 ·cases hj
structure CzAt (w0 w W : World) (b mp : Nat) (s0 s : Option Nat) (Ad : Option Addr) (cd : Nat) (defs : List S61) (st : St) (X : Nat) (xc : Array Value) (A5 : Option Addr) (x5 : List S33) (v : Value) (l : List Unit) (p : S74) (Af Ae : Option Addr) (cf ce : Nat) : Prop where
 f5 : Kd.F k33 W (fun k => ¬ Zn b mp s k ∧ k < w.heap.size) A5 x5.length x5
 ma : MkAt w0 W b mp s Ad cd defs st
 kept : Kept w W (Zn b mp s0)
 s2 : Sets2 w s0 s
 r : Kd.R (kp p Af Ae cf ce) 74 W w.heap.size (fun k => ¬ Zn b mp s k) v l
 pf : Kd.R k94 94 W w.heap.size (fun k => ¬ Zn b mp s k) (.slice Af p.f0.length cf) p.f0
 pe : Kd.R k94 94 W w.heap.size (fun k => ¬ Zn b mp s k) (.slice Ae p.f1.length ce) p.f1
 xb : W.heap[X]? = some (.cells xc 33 (0, 0))
 xn : ¬ Zn b mp s X
 ws : w0.heap.size ≤ w.heap.size
section
variable {w0 w W W1 : World} {b mp : Nat} {s0 s : Option Nat} {Ad : Option Addr} {cd : Nat} {defs : List S61} {st : St} {X : Nat} {xc : Array Value} {A5 : Option Addr} {x5 : List S33} {v v1 : Value} {l l1 : List Unit} {p : S74} {Af Ae : Option Addr} {cf ce : Nat}
theorem CzAt.below (h : CzAt w0 w W b mp s0 s Ad cd defs st X xc A5 x5 v l p Af Ae cf ce) (hb : Below W.heap.size W W1) : CzAt w0 w W1 b mp s0 s Ad cd defs st X xc A5 x5 v l p Af Ae cf ce :=
 ⟨Kd.F_below h.f5 hb, h.ma.below_ hb, h.kept.below hb, h.s2, Kd.R_below h.r hb, Kd.R_below h.pf hb, Kd.R_below h.pe hb, blk_below h.xb hb, h.xn, h.ws⟩
theorem kp_own (h : Kd.R (kp p Af Ae cf ce) 74 W w.heap.size (fun k => ¬ Zn b mp s k) v l) : ∀ k, v.ownBlock = some k → w.heap.size ≤ k ∧ k < W.heap.size ∧ ¬ Zn b mp s k := by
 intro k hk
 obtain ⟨inner, ho⟩ := Kd.R_own h
 exact ⟨own_base ho k hk, own_lt ho k hk, h.1 k hk⟩
theorem own_typed_ne {base n : Nat} {size : Nat} {e t : TypeId} {cs : Array Value} {fz : Nat × Nat} {inner : List Value} (ho : W.ownsRow base e size v n inner) {k : Nat} (hb : W.heap[k]? = some (.cells cs t fz)) (hne : t ≠ e) : some k ≠ v.ownBlock := fun e_ => by
 obtain ⟨cells, hc⟩ := own_typed ho k e_.symm
 rw [hb] at hc; cases hc; exact hne rfl
theorem CzAt.push (h : CzAt w0 w W b mp s0 s Ad cd defs st X xc A5 x5 v l p Af Ae cf ce) (hX : w.heap.size ≤ X) (hr : Kd.R (kp p Af Ae cf ce) 74 W1 w.heap.size (fun k => ¬ Zn b mp s k) v1 l1) (hb : Below w.heap.size W W1) (hg : W.grownBy W1 v.ownBlock) : CzAt w0 w W1 b mp s0 s Ad cd defs st X xc A5 x5 v1 l1 p Af Ae cf ce := by
 obtain ⟨inner, ho⟩ := Kd.R_own h.r
 exact {
  ma := h.ma.same (fun k hk => hg.block k (h.ma.s_lt hk) (fun e => (kp_own h.r k e.symm).2.2 hk)) (h.ma.below.trans (hb.mono h.ws))
  f5 := Kd.F_grown h.f5 hg (fun k ho e => by have := (kp_own h.r k e.symm).1; omega)
  kept := Kept.of_grown hg h.kept (fun k hk => .inr (kp_own h.r k hk).1)
  s2 := h.s2
  r := hr
  pf := spR_to h.pf (fun k hk => hg.block k (spR_lt h.pf k hk).2 (fun e => by
   obtain ⟨in2, ho2⟩ := Kd.R_own h.pf
   obtain ⟨cells, hc⟩ := own_typed ho2 k hk
   exact own_typed_ne ho hc (by decide) e)) h.pf.1
  pe := spR_to h.pe (fun k hk => hg.block k (spR_lt h.pe k hk).2 (fun e => by
   obtain ⟨in2, ho2⟩ := Kd.R_own h.pe
   obtain ⟨cells, hc⟩ := own_typed ho2 k hk
   exact own_typed_ne ho hc (by decide) e)) h.pe.1
  xb := blk_grown h.xb hg (own_typed_ne ho h.xb (by decide))
  xn := h.xn
  ws := h.ws }
end
theorem kp_nil {w : World} {base : Nat} {ok : Nat → Prop} {v : Value} (h : Kd.R k74 74 w base ok v []) (p : S74) (Af Ae : Option Addr) (cf ce : Nat) : Kd.R (kp p Af Ae cf ce) 74 w base ok v [] := by
 obtain ⟨h1, inner, h2, h3⟩ := h
 exact ⟨h1, inner, h2, h3.1, fun j p hj => by simp at hj⟩
/-- Behind the first copy. -/
theorem CzAt.start {w0 w W W1 : World} {b mp : Nat} {s0 s s1 : Option Nat} {Ad : Option Addr} {cd : Nat} {defs : List S61} {st st1 : St} {X : Nat} {xc : Array Value} {A5 : Option Addr} {x5 : List S33} {v : Value} {p : S74} {Af Ae : Option Addr} {cf ce : Nat} (h : CpAt w0 w W b mp s0 s Ad cd defs st X xc A5 x5 v []) (hm : MkAt w0 W1 b mp s1 Ad cd defs st1) (hk : Kept W W1 (Zn b mp s)) (h2 : Sets2 W s s1)
  (m4 : Kd.R k94 94 W1 W.heap.size (fun k => some k ≠ s1 ∧ some k ≠ (Value.slice Ae p.f1.length ce).ownBlock) (.slice Af p.f0.length cf) p.f0) (m5 : Kd.R k94 94 W1 W.heap.size (fun k => some k ≠ s1 ∧ some k ≠ (Value.slice Af p.f0.length cf).ownBlock) (.slice Ae p.f1.length ce) p.f1) : CzAt w0 w W1 b mp s0 s1 Ad cd defs st1 X xc A5 x5 v [] p Af Ae cf ce := by
 have h' := h.made hm hk h2
 have z : ∀ k, W.heap.size ≤ k → some k ≠ s1 → ¬ Zn b mp s1 k := fun k hk hn hz => by
  rcases hz with e | e | e
  ·have := h.ma.lt; omega
  ·have := h.ma.map.lt; omega
  ·exact hn e
 exact ⟨h'.f5, h'.ma, h'.kept, h'.s2, kp_nil h'.r p Af Ae cf ce, Kd.R_lower (spR_to m4 (fun _ _ => rfl) (fun k hk => z k (spR_lt m4 k hk).1 (m4.1 k hk).1)) h.kept.1, Kd.R_lower (spR_to m5 (fun _ _ => rfl) (fun k hk => z k (spR_lt m5 k hk).1 (m5.1 k hk).1)) h.kept.1, h'.xb, h'.xn, h'.ws⟩
def CzRel (w0 w : World) (b mp : Nat) (s0 : Option Nat) (Ad : Option Addr) (cd : Nat) (defs : List S61) (st0 str : St) (X : Nat) (xc : Array Value) (A5 : Option Addr) (x5 : List S33) (p : S74) (v7 : Value) (k : Int) (W : World) : Prop :=
 (k = 0 ∧ CpAt w0 w W b mp s0 s0 Ad cd defs st0 X xc A5 x5 v7 []) ∨ (1 ≤ k ∧ ∃ (s : Option Nat) (Af Ae : Option Addr) (cf ce : Nat) (l : List Unit), (l.length : Int) = k ∧ CzAt w0 w W b mp s0 s Ad cd defs str X xc A5 x5 v7 l p Af Ae cf ce)
set_option maxRecDepth 100000 in
set_option maxHeartbeats 8000000 in
theorem copies_zero_calls (w0 w : World) (b mp : Nat) (s0 : Option Nat) (Ad : Option Addr) (cd : Nat) (defs : List S61) (st0 str : St) (x : S33) (A5 : Option Addr) (c5 : Nat) (many : Int) (kz : Nat) (mk : St → Option (S74 × St)) (p : S74)
  (hM : MkAt w0 w b mp s0 Ad cd defs st0) (h5 : Kd.F k33 w (fun k => ¬ Zn b mp s0 k) A5 x.f5.length x.f5) (hc5 : x.f5.length ≤ c5) (hsz : side_Size.f kz x.f0 x.f1 x.f2 x.f3 x.f4 x.f5 = some 0)
  (hmk : ∀ W s st p st', MkAt w0 W b mp s Ad cd defs st → Kd.F k33 W (fun k => ¬ Zn b mp s k) A5 x.f5.length x.f5 → mk st = some (p, st') → Calls Try.prog 30 #[.pointer (some ⟨b, 0, none⟩), .agg #[.int .i64 x.f0, .int .i64 x.f1, .int .i64 x.f2, .int .i64 x.f3, .string x.f4, .slice A5 x.f5.length c5]] W (MadeBy w0 W b mp s Ad cd defs st' p))
  (hmany : 1 ≤ many ∧ many ≤ 1000000) (h : mk st0 = some (p, str)) :
  Calls Try.prog 45 #[.pointer (some ⟨b, 0, none⟩), .agg #[.int .i64 x.f0, .int .i64 x.f1, .int .i64 x.f2, .int .i64 x.f3, .string x.f4, .slice A5 x.f5.length c5], .int .i64 many] w fun e W' => ∃ (s' : Option Nat) (A : Option Addr) (c : Nat), e = .returned (.slice A many.toNat c) ∧ MkAt w0 W' b mp s' Ad cd defs str ∧ Kept w W' (Zn b mp s0) ∧ Sets2 w s0 s' ∧ Kd.C k74 W' A many.toNat (List.replicate many.toNat p) ∧ many.toNat ≤ c := by
 have hW1 := below_alloc (Below.refl w.heap.size w) (.cells #[.int .i64 x.f0, .int .i64 x.f1, .int .i64 x.f2, .int .i64 x.f3, .string x.f4, .slice A5 x.f5.length c5] 33)
 obtain ⟨W1, hWW⟩ : ∃ W1, w.alloc (.cells #[.int .i64 x.f0, .int .i64 x.f1, .int .i64 x.f2, .int .i64 x.f3, .string x.f4, .slice A5 x.f5.length c5] 33) = W1 := ⟨_, rfl⟩
 have hx : W1.heap[w.heap.size]? = some (.cells #[.int .i64 x.f0, .int .i64 x.f1, .int .i64 x.f2, .int .i64 x.f3, .string x.f4, .slice A5 x.f5.length c5] 33 (0, 0)) := by rw [← hWW]; exact heap_alloc_new w _
 rw [hWW] at hW1
 have HI0 : Aside0 (CzRel w0 w b mp s0 Ad cd defs st0 str w.heap.size #[.int .i64 x.f0, .int .i64 x.f1, .int .i64 x.f2, .int .i64 x.f3, .string x.f4, .slice A5 x.f5.length c5] A5 x.f5 p (.slice none 0 0) 0 W1) := ⟨.inl ⟨rfl, ⟨Kd.F_below (Kd.F_bound h5) hW1, hM.below_ hW1, Kept.of_below hW1 _, .inl rfl, Kd.R_nil _ _ _ _ _, hx, fun hz => by have := hM.s_lt hz; omega, hM.below.size⟩⟩⟩
 have HP := Aside0.mk h
 have HMK := Aside0.mk hmk
 have HSZ := Aside0.mk hsz
 have H5 := Aside0.mk (And.intro h5 hc5)
 have HMANY := Aside0.mk hmany
 clear hM h5 hc5 hsz hmk hmany h hW1 hx
 go_enter Try.func45, Try.ntmps45
 go_wp2
 go_loopw [7, 10] (fun v7 v10 W => ∃ (k : Int), v10 = .int .i64 k ∧ Aside0 (0 ≤ k ∧ k ≤ many) ∧ Aside0 (CzRel w0 w b mp s0 Ad cd defs st0 str w.heap.size #[.int .i64 x.f0, .int .i64 x.f1, .int .i64 x.f2, .int .i64 x.f3, .string x.f4, .slice A5 x.f5.length c5] A5 x.f5 p v7 k W)) (fun _ k _ => (many - intOf k).toNat)
 case atStart => exact ⟨0, rfl, ⟨by have := HMANY.out; omega⟩, HI0⟩
 case round =>
  clear HI0
  obtain ⟨k, rfl, HK, ⟨⟨rfl, hI⟩ | ⟨hk1, s, Af, Ae, cf, ce, l, hl, hI⟩⟩⟩ := hrel
  ·have HI := Aside0.mk hI
   have c1b : decide ((0 : Int) < many) = true := decide_eq_true (by have := HMANY.out; omega)
   have HXV : Aside0 (∀ (W : World) (st2 : St) (s2 : Option Nat), CpAt w0 w W b mp s0 s2 Ad cd defs st2 w.heap.size #[.int .i64 x.f0, .int .i64 x.f1, .int .i64 x.f2, .int .i64 x.f3, .string x.f4, .slice A5 x.f5.length c5] A5 x.f5 u7 [] → some w.heap.size ≠ u7.ownBlock) := ⟨fun W st2 s2 h e => by
    obtain ⟨inner, ho⟩ := Kd.R_own h.r
    obtain ⟨cells, hc⟩ := own_typed ho _ e.symm
    rw [h.xb] at hc; cases hc⟩
   have HNIL : Aside0 (∀ (W : World) (d : Kd Unit) (ok : Nat → Prop), Kd.R d 74 W w.heap.size ok (.slice none 0 0) []) := ⟨fun W d ok => Kd.R_nil _ _ _ _ _⟩
   clear hI
   have d0 := cellAt (i := 0) (u := .int .i64 x.f0) HI.out.xb rfl; have d1 := cellAt (i := 1) (u := .int .i64 x.f1) HI.out.xb rfl; have d2 := cellAt (i := 2) (u := .int .i64 x.f2) HI.out.xb rfl; have d3 := cellAt (i := 3) (u := .int .i64 x.f3) HI.out.xb rfl; have d4 := cellAt (i := 4) (u := .string x.f4) HI.out.xb rfl; have d5 := cellAt (i := 5) (u := .slice A5 x.f5.length c5) HI.out.xb rfl
   go_wp2_with (first | (go_at_call 30; refine (HMK.out _ s0 st0 p str HI.out.ma (Kd.F_mono HI.out.f5 (fun _ ho => ho.1)) HP.out).mono ?_; rintro e w3 ⟨s1, Af, Ae, cf, ce, rfl, m1, m2, m3, m4, m5⟩; have HI2 := Aside0.mk (CzAt.start HI.out m1 m2 m3 m4 m5); clear m1 m2 m3 m4 m5) | ((with_reducible refine gate_builtin (b := .append) (xs := #[.tmp 26, .tmp 30]) rfl ?_); at_builtin; refine Kd.R_append (kp p Af Ae cf ce) (w0 := w3) w.heap.size rfl (.tmp 26) (.tmp 30) 90 74 (.agg #[(.slice none 0 0), (.slice none 0 0), (.int .i64 0)]) 56 rfl Try.underlying90 info74 rfl (by show 0 < 3; decide) (by omega) _ [] () [.slice Af p.f0.length cf, .slice Ae p.f1.length ce, .int .i64 p.f2] (fun k => ¬ Zn b mp s1 k) (fun _ => False) rfl rfl rfl (fun _ h => h.elim) (fun k hk hz => by have := HI2.out.ma.s_lt hz; omega) HI2.out.r (Below.refl _ _) HI2.out.kept.1 (by simp) ?_; intro v8 w4 hr hb hg hat; have HI3 := Aside0.mk (HI2.out.push (Nat.le_refl _) hr hb hg); clear hr hb hg hat))
   go_roundw
   case rel => exact ⟨1, rfl, ⟨by have := HMANY.out; omega⟩, ⟨.inr ⟨by omega, s1, Af, Ae, cf, ce, [()], rfl, HI3.out⟩⟩⟩
   case measure => have := HMANY.out; simp only [intOf]; omega
  ·have HI := Aside0.mk hI
   have HL := Aside0.mk hl
   have HK1 := Aside0.mk hk1
   obtain ⟨g, cap, rfl, g0, g1, g2⟩ := kp_cells hI.r (by omega)
   by_cases hlt : k < many
   ·have HLT := Aside0.mk hlt
    have hw2 : wrap64 (k + 1) = k + 1 := by have := HMANY.out; have := HK.out; unfold wrap64; omega
    have HW := Aside0.mk hw2
    have c1b : decide (k < many) = true := decide_eq_true hlt
    have c2 : decide (k > 0) = true := decide_eq_true (by omega)
    have HGC := Aside0.mk (And.intro g0 (And.intro g1 g2))
    have hn0 : (0 : Int) < (l.length : Int) := by omega
    clear hlt hw2 hI hl hk1 g0 g1 g2
    have d0 := cellAt (i := 0) (u := .int .i64 x.f0) HI.out.xb rfl; have d1 := cellAt (i := 1) (u := .int .i64 x.f1) HI.out.xb rfl; have d2 := cellAt (i := 2) (u := .int .i64 x.f2) HI.out.xb rfl; have d3 := cellAt (i := 3) (u := .int .i64 x.f3) HI.out.xb rfl; have d4 := cellAt (i := 4) (u := .string x.f4) HI.out.xb rfl; have d5 := cellAt (i := 5) (u := .slice A5 x.f5.length c5) HI.out.xb rfl
    go_wp2_with (first | (go_at_call 17; refine (side_Size.calls kz x.f0 x.f1 x.f2 x.f3 x.f4 A5 c5 x.f5 0 _ (Kd.F_now HI.out.f5) H5.out.2 HSZ.out).mono ?_; rintro e w2 ⟨rfl, hb2⟩; have HIn := Aside0.mk (HI.out.below hb2); have q0 := (hb2.cell (World.block_lt_of_cell? _ _ HGC.out.1)).trans HGC.out.1; have q1 := (hb2.cell (World.block_lt_of_cell? _ _ HGC.out.2.1)).trans HGC.out.2.1; have q2 := (hb2.cell (World.block_lt_of_cell? _ _ HGC.out.2.2)).trans HGC.out.2.2; clear HI hb2; have HI := HIn; clear HIn; have e0 := cellAt (i := 0) (u := .int .i64 x.f0) HI.out.xb rfl; have e1 := cellAt (i := 1) (u := .int .i64 x.f1) HI.out.xb rfl; have e2 := cellAt (i := 2) (u := .int .i64 x.f2) HI.out.xb rfl; have e3 := cellAt (i := 3) (u := .int .i64 x.f3) HI.out.xb rfl; have e4 := cellAt (i := 4) (u := .string x.f4) HI.out.xb rfl; have e5 := cellAt (i := 5) (u := .slice A5 x.f5.length c5) HI.out.xb rfl) | ((with_reducible refine gate_builtin (b := .append) (xs := #[.tmp 20, .tmp 24]) rfl ?_); at_builtin; (refine Kd.R_append (kp p Af Ae cf ce) (w0 := w2) w.heap.size rfl (.tmp 20) (.tmp 24) 90 74 (.agg #[(.slice none 0 0), (.slice none 0 0), (.int .i64 0)]) 56 rfl Try.underlying90 info74 rfl (by show 0 < 3; decide) (by omega) _ l () [.slice Af p.f0.length cf, .slice Ae p.f1.length ce, .int .i64 p.f2] (fun k => ¬ Zn b mp s k) (fun _ => False) rfl rfl rfl (fun _ h => h.elim) (fun k hk hz => by have := HI.out.ma.s_lt hz; omega) HI.out.r (Below.refl _ _) HI.out.kept.1 (by have := HMANY.out; have := HK.out; have := HL.out; omega) ?_); intro v8 w4 hr hb hg hat; have HI3 := Aside0.mk (HI.out.push (Nat.le_refl _) hr hb hg); clear hr hb hg hat))
    go_roundw
    case rel => exact ⟨k + 1, by rw [HW.out], ⟨by have := HLT.out; have := HK.out; omega⟩, ⟨.inr ⟨by have := HK1.out; omega, s, Af, Ae, cf, ce, _, by rw [List.length_append, List.length_singleton]; have := HL.out; omega, HI3.out⟩⟩⟩
    case measure => have := HLT.out; rw [HW.out]; simp only [intOf]; omega
   ·have c1b : decide (k < many) = false := decide_eq_false hlt
    have hkm : k = many := by have := HK.out; omega
    have HCC := Aside0.mk (kp_C HI.out.r (Kd.R_reads' HI.out.pf).2.2 (Kd.R_reads' HI.out.pf).2.1 (Kd.R_reads' HI.out.pe).2.2 (Kd.R_reads' HI.out.pe).2.1)
    have hll : l.length = many.toNat := by omega
    clear hlt HMK HSZ hI hk1 hl g0 g1 g2
    have HLL := Aside0.mk hll
    clear hll hkm
    go_wp2
    go_ret
    have hcc := HCC.out
    rw [HLL.out] at hcc ⊢
    exact ⟨s, _, _, rfl, HI.out.ma, HI.out.kept, HI.out.s2, hcc.2.1, by have := hcc.2.2; omega⟩
def szF (kz : Nat) (y : S33) : Option Int := side_Size.f kz y.f0 y.f1 y.f2 y.f3 y.f4 y.f5
theorem copies_mk (defs : List S61) (kz n : Nat) (ih : mkOk defs (szF kz) n) (w0 w : World) (b mp : Nat) (s : Option Nat) (Ad : Option Addr) (cd : Nat) (st st1 : St) (y : S33) (A0 : Option Addr) (c0 : Nat) (many z : Int) (lr : List S74) (hM : MkAt w0 w b mp s Ad cd defs st) (hF : Kd.F k33 w (fun k => ¬ Zn b mp s k) A0 y.f5.length y.f5) (hC : y.f5.length ≤ c0) (hz : szF kz y = some z) (hm : many ≤ 1000000) (h : copyG (mkF defs (szF kz) n y) (z == 0) many.toNat st = some (lr, st1)) :
  Calls Try.prog 45 #[.pointer (some ⟨b, 0, none⟩), .agg #[.int .i64 y.f0, .int .i64 y.f1, .int .i64 y.f2, .int .i64 y.f3, .string y.f4, .slice A0 y.f5.length c0], .int .i64 many] w fun e W' => ∃ (s' : Option Nat) (A : Option Addr) (c : Nat), e = .returned (.slice A lr.length c) ∧ MkAt w0 W' b mp s' Ad cd defs st1 ∧ Kept w W' (Zn b mp s) ∧ Sets2 w s s' ∧ Kd.C k74 W' A lr.length lr ∧ lr.length ≤ c := by
 unfold copyG at h
 by_cases hc : (z == 0) = true ∧ 1 < many.toNat
 ·rw [if_pos hc] at h
  obtain ⟨⟨p, st2⟩, hp, h⟩ := Option.bind_eq_some_iff.1 h
  injection h with h
  injection h with h1 h2
  subst h1 h2
  have hz0 : z = 0 := by simpa using hc.1
  subst hz0
  have e := copies_zero_calls w0 w b mp s Ad cd defs st st2 y A0 c0 many kz (mkF defs (szF kz) n y) p hM hF hC hz (fun W_ s_ st_ p_ st2_ h1_ h2_ h3_ => ih w0 W_ b mp s_ Ad cd st_ st2_ p_ y A0 c0 h1_ h2_ hC h3_) ⟨by omega, hm⟩ hp
  simp only [List.length_replicate]
  exact e
 ·rw [if_neg hc] at h
  refine (copies_calls w0 w b mp s Ad cd defs st st1 y A0 c0 many kz z (mkF defs (szF kz) n y) lr hM hF hC hz (fun W_ s_ st_ p_ st2_ h1_ h2_ h3_ => ih w0 W_ b mp s_ Ad cd st_ st2_ p_ y A0 c0 h1_ h2_ hC h3_) hm h).mono ?_
  rintro e w' ⟨s', v, rfl, m1, m2, m3, m4⟩
  obtain ⟨A, c, rfl⟩ := Kd.R_slice m4
  exact ⟨s', A, c, rfl, m1, m2, m3, (Kd.R_reads' m4).2.2, (Kd.R_reads' m4).2.1⟩
set_option maxRecDepth 100000 in
set_option maxHeartbeats 8000000 in
theorem make_times_0 (defs : List S61) (kz n : Nat) (ih : mkOk defs (szF kz) n) (w0 W : World) (b mp : Nat) (s : Option Nat) (Ad : Option Addr) (cd : Nat) (st st' : St) (p : S74) (x : S33) (A5 : Option Addr) (c5 : Nat) (hM : MkAt w0 W b mp s Ad cd defs st) (hF : Kd.F k33 W (fun k => ¬ Zn b mp s k) A5 x.f5.length x.f5) (hc5 : x.f5.length ≤ c5) (hx : x.f0 = 7) (c7 : ((12 : Int) < x.f2) = False) (h : mkF defs (szF kz) (n + 1) x st = some (p, st')) :
  Calls Try.prog 30 #[.pointer (some ⟨b, 0, none⟩), .agg #[.int .i64 x.f0, .int .i64 x.f1, .int .i64 x.f2, .int .i64 x.f3, .string x.f4, .slice A5 x.f5.length c5]] W (MadeBy w0 W b mp s Ad cd defs st' p) := by
 rw [mkF, if_neg (by omega), if_neg (by omega), if_pos hx] at h
 obtain ⟨z, hz, h⟩ := Option.bind_eq_some_iff.1 h
 obtain ⟨⟨lr, st1⟩, hl, h⟩ := Option.bind_eq_some_iff.1 h
 simp only [oftF] at h
 by_cases hok : lr.all okP = true ∧ lr.length ≤ 12 ∧ x.f1 ≤ lr.length ∧ st1.arcs.length < 100000
 case neg => rw [if_neg hok] at h; cases h
 rw [if_pos hok] at h
 injection h with h
 injection h with h1 h2
 subst h1 h2
 have HZ := Aside0.mk hz
 have HPS : Aside0 (PsAt lr) := ⟨⟨fun q hq => by obtain ⟨h1, h2, h3, h4⟩ := okP_at (List.all_eq_true.1 hok.1 q hq); exact ⟨h3, h4, h1, h2⟩, hok.2.1⟩⟩
 have HLOW := Aside0.mk hok.2.2
 obtain ⟨RS, hRS⟩ : ∃ RS, ofK lr x.f1 lr 0 z74 0 st1.arcs = RS := ⟨_, rfl⟩
 have HRS := Aside0.mk hRS
 rw [hRS]
 clear hRS
 obtain ⟨W1, hWW⟩ : ∃ W1, (W.alloc (.cells #[.int .i64 x.f0, .int .i64 x.f1, .int .i64 x.f2, .int .i64 x.f3, .string x.f4, .slice A5 x.f5.length c5] 33)).alloc (.cells #[.slice none 0 0, .slice none 0 0, .int .i64 0] 74) = W1 := ⟨_, rfl⟩
 have hW1 := below_alloc (below_alloc (Below.refl W.heap.size W) (.cells #[.int .i64 x.f0, .int .i64 x.f1, .int .i64 x.f2, .int .i64 x.f3, .string x.f4, .slice A5 x.f5.length c5] 33)) (.cells #[.slice none 0 0, .slice none 0 0, .int .i64 0] 74)
 have hx0 : W1.heap[W.heap.size]? = some (.cells #[.int .i64 x.f0, .int .i64 x.f1, .int .i64 x.f2, .int .i64 x.f3, .string x.f4, .slice A5 x.f5.length c5] 33 (0, 0)) := by rw [← hWW]; exact blk_alloc (heap_alloc_new W _) _
 have hr0 : W1.heap[W.heap.size + 1]? = some (.cells #[.slice none 0 0, .slice none 0 0, .int .i64 0] 74 (0, 0)) := by
  have h := heap_alloc_new (W.alloc (.cells #[.int .i64 x.f0, .int .i64 x.f1, .int .i64 x.f2, .int .i64 x.f3, .string x.f4, .slice A5 x.f5.length c5] 33)) (.cells #[.slice none 0 0, .slice none 0 0, .int .i64 0] 74)
  rwa [hWW, show (W.alloc (.cells #[.int .i64 x.f0, .int .i64 x.f1, .int .i64 x.f2, .int .i64 x.f3, .string x.f4, .slice A5 x.f5.length c5] 33)).heap.size = W.heap.size + 1 from Array.size_push _] at h
 rw [hWW] at hW1
 have HM := Aside0.mk hM
 have HW1 := Aside0.mk hW1
 have HCH := Aside0.mk (Chn.start hM hW1)
 have HF1 := Aside0.mk (Kd.F_below hF hW1)
 have HC5 := Aside0.mk hc5
 have HR0 := Aside0.mk hr0
 have HX0 := Aside0.mk hx0
 have HZX : Aside0 (¬ Zn b mp s W.heap.size ∧ ¬ Zn b mp s (W.heap.size + 1)) := ⟨fun hz => by have := hM.s_lt hz; omega, fun hz => by have := hM.s_lt hz; omega⟩
 have hlt1 := blk_lt hr0
 have HLT := Aside0.mk hlt1
 have d0 := cellAt (i := 0) (u := .int .i64 x.f0) hx0 rfl
 have d1 := cellAt (i := 1) (u := .int .i64 x.f1) hx0 rfl
 have d2 := cellAt (i := 2) (u := .int .i64 x.f2) hx0 rfl
 have d3 := cellAt (i := 3) (u := .int .i64 x.f3) hx0 rfl
 have d4 := cellAt (i := 4) (u := .string x.f4) hx0 rfl
 have d5 := cellAt (i := 5) (u := .slice A5 x.f5.length c5) hx0 rfl
 clear hM hW1 hx0 hr0 hlt1 hF hc5
 have c1 : (x.f0 == 2) = false := by rw [hx]; rfl
 have c2 : (x.f0 == 3) = false := by rw [hx]; rfl
 have c3 : (x.f0 == 4) = false := by rw [hx]; rfl
 have c4 : (x.f0 == 5) = false := by rw [hx]; rfl
 have c5_ : (x.f0 == 6) = false := by rw [hx]; rfl
 have c6 : (x.f0 == 7) = true := by rw [hx]; rfl
 clear hz hok hx
 rw [show mn x.f2 12 = x.f2 from by unfold mn; simp [c7]] at hl
 have HMY := Aside0.mk c7
 have HCP := Aside0.mk hl
 clear hl
 go_enter Try.func30, Try.ntmps30
 go_wp2
 clear d0 d1 d2 d3 d4 d5
 have HCn := Aside0.mk (HCH.out.below (below_drew (Below.refl _ _)))
 clear HCH
 have HCH := HCn
 clear HCn
 have HSX : Aside0 (W1.drew.cell? ⟨W.heap.size, 0, none⟩ = some (.int .i64 x.f0) ∧ W1.drew.cell? ⟨W.heap.size, 1, none⟩ = some (.int .i64 x.f1) ∧ W1.drew.cell? ⟨W.heap.size, 2, none⟩ = some (.int .i64 x.f2) ∧ W1.drew.cell? ⟨W.heap.size, 3, none⟩ = some (.int .i64 x.f3) ∧ W1.drew.cell? ⟨W.heap.size, 4, none⟩ = some (.string x.f4) ∧ W1.drew.cell? ⟨W.heap.size, 5, none⟩ = some (.slice A5 x.f5.length c5)) := ⟨⟨cellAt (HCH.out.blk HX0.out HZX.out.1) rfl, cellAt (HCH.out.blk HX0.out HZX.out.1) rfl, cellAt (HCH.out.blk HX0.out HZX.out.1) rfl, cellAt (HCH.out.blk HX0.out HZX.out.1) rfl, cellAt (HCH.out.blk HX0.out HZX.out.1) rfl, cellAt (HCH.out.blk HX0.out HZX.out.1) rfl⟩⟩
 go_region_held3 (fun w' => w'.cell? ⟨W.heap.size, 0, none⟩ = some (.int .i64 x.f0) ∧ w'.cell? ⟨W.heap.size, 1, none⟩ = some (.int .i64 x.f1) ∧ w'.cell? ⟨W.heap.size, 2, none⟩ = some (.int .i64 x.f2) ∧ w'.cell? ⟨W.heap.size, 3, none⟩ = some (.int .i64 x.f3) ∧ w'.cell? ⟨W.heap.size, 4, none⟩ = some (.string x.f4) ∧ w'.cell? ⟨W.heap.size, 5, none⟩ = some (.slice A5 x.f5.length c5)) (first | (with_reducible exact HSX.out) | (refine ⟨?_, ?_, ?_, ?_, ?_, ?_⟩ <;> (refine set3_cell (by omega) ?_; first | exact (HSX.out).1 | exact (HSX.out).2.1 | exact (HSX.out).2.2.1 | exact (HSX.out).2.2.2.1 | exact (HSX.out).2.2.2.2.1 | exact (HSX.out).2.2.2.2.2))) (first | (go_at_call 41; refine (part_calls x A5 c5 0 _ _ (HCH.out.foot HF1.out) HC5.out (by omega)).mono ?_; rintro e w2 ⟨A0, c0, rfl, hF0, hc0, hb2⟩; have HF0 := Aside0.mk (foot_new HCH.out.ma hF0); have HC0 := Aside0.mk hc0; have HCn := Aside0.mk (HCH.out.below hb2); clear HCH HSX hF0 hc0 hb2; have HCH := HCn; clear HCn; have HSX : Aside0 (w2.cell? ⟨W.heap.size, 0, none⟩ = some (.int .i64 x.f0) ∧ w2.cell? ⟨W.heap.size, 1, none⟩ = some (.int .i64 x.f1) ∧ w2.cell? ⟨W.heap.size, 2, none⟩ = some (.int .i64 x.f2) ∧ w2.cell? ⟨W.heap.size, 3, none⟩ = some (.int .i64 x.f3) ∧ w2.cell? ⟨W.heap.size, 4, none⟩ = some (.string x.f4) ∧ w2.cell? ⟨W.heap.size, 5, none⟩ = some (.slice A5 x.f5.length c5)) := ⟨⟨cellAt (HCH.out.blk HX0.out HZX.out.1) rfl, cellAt (HCH.out.blk HX0.out HZX.out.1) rfl, cellAt (HCH.out.blk HX0.out HZX.out.1) rfl, cellAt (HCH.out.blk HX0.out HZX.out.1) rfl, cellAt (HCH.out.blk HX0.out HZX.out.1) rfl, cellAt (HCH.out.blk HX0.out HZX.out.1) rfl⟩⟩) | (go_at_call 45; refine (copies_mk defs kz n ih w0 w2 b mp s Ad cd st st1 (xpart x 0) A0 c0 _ z lr HCH.out.ma HF0.out HC0.out HZ.out (by have hm := HMY.out; simp only [eq_iff_iff, iff_false, iff_true] at hm; omega) HCP.out).mono ?_; rintro e w3 ⟨s1, Al, cl, rfl, m1, m2, m3, m4⟩; have HL := Aside0.mk m4; have HCn := Aside0.mk (HCH.out.made m1 m2 m3); have HL3 := Aside0.mk (Nat.le_trans HCH.out.k.1 m2.1); clear HCH HSX m1 m2 m3 m4; have HCH := HCn; clear HCn; have HSX : Aside0 (w3.cell? ⟨W.heap.size, 0, none⟩ = some (.int .i64 x.f0) ∧ w3.cell? ⟨W.heap.size, 1, none⟩ = some (.int .i64 x.f1) ∧ w3.cell? ⟨W.heap.size, 2, none⟩ = some (.int .i64 x.f2) ∧ w3.cell? ⟨W.heap.size, 3, none⟩ = some (.int .i64 x.f3) ∧ w3.cell? ⟨W.heap.size, 4, none⟩ = some (.string x.f4) ∧ w3.cell? ⟨W.heap.size, 5, none⟩ = some (.slice A5 x.f5.length c5)) := ⟨⟨cellAt (HCH.out.blk HX0.out HZX.out.1) rfl, cellAt (HCH.out.blk HX0.out HZX.out.1) rfl, cellAt (HCH.out.blk HX0.out HZX.out.1) rfl, cellAt (HCH.out.blk HX0.out HZX.out.1) rfl, cellAt (HCH.out.blk HX0.out HZX.out.1) rfl, cellAt (HCH.out.blk HX0.out HZX.out.1) rfl⟩⟩) | (go_at_call 44; have hof := often_calls b mp st1.arcs Al cl lr x.f1 w3 (by obtain ⟨As_, cs_, hb_, _⟩ := HCH.out.ma.blk; exact cellAt hb_ rfl) HCH.out.ma.map HL.out.1 HL.out.2 HPS.out HLOW.out.1 HLOW.out.2; rw [HRS.out] at hof; refine hof.mono ?_; clear hof; rintro e w7 ⟨vf, ve, rfl, g1, g2, g3, g4⟩; obtain ⟨Uf, uf, euf⟩ := Kd.R_slice g3; subst euf; obtain ⟨Ue, ue, eue⟩ := Kd.R_slice g4; subst eue; have HG34 := Aside0.mk (And.intro g3 g4); have HN6 := Aside0.mk HCH.out.ma; have HCn := Aside0.mk (HCH.out.linked g1 g2); clear HCH HSX g1 g2 g3 g4; have HCH := HCn; clear HCn; have HSX : Aside0 (w7.cell? ⟨W.heap.size, 0, none⟩ = some (.int .i64 x.f0) ∧ w7.cell? ⟨W.heap.size, 1, none⟩ = some (.int .i64 x.f1) ∧ w7.cell? ⟨W.heap.size, 2, none⟩ = some (.int .i64 x.f2) ∧ w7.cell? ⟨W.heap.size, 3, none⟩ = some (.int .i64 x.f3) ∧ w7.cell? ⟨W.heap.size, 4, none⟩ = some (.string x.f4) ∧ w7.cell? ⟨W.heap.size, 5, none⟩ = some (.slice A5 x.f5.length c5)) := ⟨⟨cellAt (HCH.out.blk HX0.out HZX.out.1) rfl, cellAt (HCH.out.blk HX0.out HZX.out.1) rfl, cellAt (HCH.out.blk HX0.out HZX.out.1) rfl, cellAt (HCH.out.blk HX0.out HZX.out.1) rfl, cellAt (HCH.out.blk HX0.out HZX.out.1) rfl, cellAt (HCH.out.blk HX0.out HZX.out.1) rfl⟩⟩; have HR7 := Aside0.mk (HCH.out.blk HR0.out HZX.out.2); have k0 := cellAt (i := 0) (u := .slice none 0 0) HR7.out rfl; have k1 := cellAt (i := 1) (u := .slice none 0 0) HR7.out rfl; have k2 := cellAt (i := 2) (u := .int .i64 0) HR7.out rfl; have n0 := blk_frozen HR7.out 0; have n1 := blk_frozen HR7.out 1; have n2 := blk_frozen HR7.out 2))
 all_goals (
  have hP7 := blk_put (blk_put (blk_put HR7.out 0 (.slice Uf RS.1.f0.length uf) (cs' := #[.slice Uf RS.1.f0.length uf, .slice none 0 0, .int .i64 0]) rfl) 1 (.slice Ue RS.1.f1.length ue) (cs' := #[.slice Uf RS.1.f0.length uf, .slice Ue RS.1.f1.length ue, .int .i64 0]) rfl) 2 (.int .i64 RS.1.f2) (cs' := #[.slice Uf RS.1.f0.length uf, .slice Ue RS.1.f1.length ue, .int .i64 RS.1.f2]) rfl
  have hg7 := set3_grown w7 (W.heap.size + 1) (.slice Uf RS.1.f0.length uf) (.slice Ue RS.1.f1.length ue) (.int .i64 RS.1.f2)
  go_wp2
  refine bodyPost_ret (results_cell_row rfl _ _ (W.heap.size + 1) 74 #[.slice Uf RS.1.f0.length uf, .slice Ue RS.1.f1.length ue, .int .i64 RS.1.f2] (0, 0) _ (by rfl) hP7 Try.underlying74 rfl (by kernel_rfl)) rfl ?_
  have hn6 : ∀ k, w3.heap.size ≤ k → some k ≠ s1 := fun k hk e => by have := HN6.out.s_lt (k := k) (.inr (.inr e)); omega
  exact made_end (p := RS.1) HM.out HW1.out HCH.out.ma HCH.out.k HCH.out.s2 (T := W.heap.size + 1) (by omega) HLT.out ⟨_, HR7.out⟩ (Kd.R_lower (spR_to HG34.out.1 (fun _ _ => rfl) (fun k hk => ⟨hn6 k (spR_lt HG34.out.1 k hk).1, HG34.out.1.1 k hk⟩)) HL3.out) (Kd.R_lower (spR_to HG34.out.2 (fun _ _ => rfl) (fun k hk => ⟨hn6 k (spR_lt HG34.out.2 k hk).1, HG34.out.2.1 k hk⟩)) HL3.out) hg7)
set_option maxRecDepth 100000 in
set_option maxHeartbeats 8000000 in
theorem make_times_1 (defs : List S61) (kz n : Nat) (ih : mkOk defs (szF kz) n) (w0 W : World) (b mp : Nat) (s : Option Nat) (Ad : Option Addr) (cd : Nat) (st st' : St) (p : S74) (x : S33) (A5 : Option Addr) (c5 : Nat) (hM : MkAt w0 W b mp s Ad cd defs st) (hF : Kd.F k33 W (fun k => ¬ Zn b mp s k) A5 x.f5.length x.f5) (hc5 : x.f5.length ≤ c5) (hx : x.f0 = 7) (c7 : ((12 : Int) < x.f2) = True) (h : mkF defs (szF kz) (n + 1) x st = some (p, st')) :
  Calls Try.prog 30 #[.pointer (some ⟨b, 0, none⟩), .agg #[.int .i64 x.f0, .int .i64 x.f1, .int .i64 x.f2, .int .i64 x.f3, .string x.f4, .slice A5 x.f5.length c5]] W (MadeBy w0 W b mp s Ad cd defs st' p) := by
 rw [mkF, if_neg (by omega), if_neg (by omega), if_pos hx] at h
 obtain ⟨z, hz, h⟩ := Option.bind_eq_some_iff.1 h
 obtain ⟨⟨lr, st1⟩, hl, h⟩ := Option.bind_eq_some_iff.1 h
 simp only [oftF] at h
 by_cases hok : lr.all okP = true ∧ lr.length ≤ 12 ∧ x.f1 ≤ lr.length ∧ st1.arcs.length < 100000
 case neg => rw [if_neg hok] at h; cases h
 rw [if_pos hok] at h
 injection h with h
 injection h with h1 h2
 subst h1 h2
 have HZ := Aside0.mk hz
 have HPS : Aside0 (PsAt lr) := ⟨⟨fun q hq => by obtain ⟨h1, h2, h3, h4⟩ := okP_at (List.all_eq_true.1 hok.1 q hq); exact ⟨h3, h4, h1, h2⟩, hok.2.1⟩⟩
 have HLOW := Aside0.mk hok.2.2
 obtain ⟨RS, hRS⟩ : ∃ RS, ofK lr x.f1 lr 0 z74 0 st1.arcs = RS := ⟨_, rfl⟩
 have HRS := Aside0.mk hRS
 rw [hRS]
 clear hRS
 obtain ⟨W1, hWW⟩ : ∃ W1, (W.alloc (.cells #[.int .i64 x.f0, .int .i64 x.f1, .int .i64 x.f2, .int .i64 x.f3, .string x.f4, .slice A5 x.f5.length c5] 33)).alloc (.cells #[.slice none 0 0, .slice none 0 0, .int .i64 0] 74) = W1 := ⟨_, rfl⟩
 have hW1 := below_alloc (below_alloc (Below.refl W.heap.size W) (.cells #[.int .i64 x.f0, .int .i64 x.f1, .int .i64 x.f2, .int .i64 x.f3, .string x.f4, .slice A5 x.f5.length c5] 33)) (.cells #[.slice none 0 0, .slice none 0 0, .int .i64 0] 74)
 have hx0 : W1.heap[W.heap.size]? = some (.cells #[.int .i64 x.f0, .int .i64 x.f1, .int .i64 x.f2, .int .i64 x.f3, .string x.f4, .slice A5 x.f5.length c5] 33 (0, 0)) := by rw [← hWW]; exact blk_alloc (heap_alloc_new W _) _
 have hr0 : W1.heap[W.heap.size + 1]? = some (.cells #[.slice none 0 0, .slice none 0 0, .int .i64 0] 74 (0, 0)) := by
  have h := heap_alloc_new (W.alloc (.cells #[.int .i64 x.f0, .int .i64 x.f1, .int .i64 x.f2, .int .i64 x.f3, .string x.f4, .slice A5 x.f5.length c5] 33)) (.cells #[.slice none 0 0, .slice none 0 0, .int .i64 0] 74)
  rwa [hWW, show (W.alloc (.cells #[.int .i64 x.f0, .int .i64 x.f1, .int .i64 x.f2, .int .i64 x.f3, .string x.f4, .slice A5 x.f5.length c5] 33)).heap.size = W.heap.size + 1 from Array.size_push _] at h
 rw [hWW] at hW1
 have HM := Aside0.mk hM
 have HW1 := Aside0.mk hW1
 have HCH := Aside0.mk (Chn.start hM hW1)
 have HF1 := Aside0.mk (Kd.F_below hF hW1)
 have HC5 := Aside0.mk hc5
 have HR0 := Aside0.mk hr0
 have HX0 := Aside0.mk hx0
 have HZX : Aside0 (¬ Zn b mp s W.heap.size ∧ ¬ Zn b mp s (W.heap.size + 1)) := ⟨fun hz => by have := hM.s_lt hz; omega, fun hz => by have := hM.s_lt hz; omega⟩
 have hlt1 := blk_lt hr0
 have HLT := Aside0.mk hlt1
 have d0 := cellAt (i := 0) (u := .int .i64 x.f0) hx0 rfl
 have d1 := cellAt (i := 1) (u := .int .i64 x.f1) hx0 rfl
 have d2 := cellAt (i := 2) (u := .int .i64 x.f2) hx0 rfl
 have d3 := cellAt (i := 3) (u := .int .i64 x.f3) hx0 rfl
 have d4 := cellAt (i := 4) (u := .string x.f4) hx0 rfl
 have d5 := cellAt (i := 5) (u := .slice A5 x.f5.length c5) hx0 rfl
 clear hM hW1 hx0 hr0 hlt1 hF hc5
 have c1 : (x.f0 == 2) = false := by rw [hx]; rfl
 have c2 : (x.f0 == 3) = false := by rw [hx]; rfl
 have c3 : (x.f0 == 4) = false := by rw [hx]; rfl
 have c4 : (x.f0 == 5) = false := by rw [hx]; rfl
 have c5_ : (x.f0 == 6) = false := by rw [hx]; rfl
 have c6 : (x.f0 == 7) = true := by rw [hx]; rfl
 clear hz hok hx
 rw [show mn x.f2 12 = 12 from by unfold mn; simp [c7]] at hl
 have HMY := Aside0.mk c7
 have HCP := Aside0.mk hl
 clear hl
 go_enter Try.func30, Try.ntmps30
 go_wp2
 clear d0 d1 d2 d3 d4 d5
 have HCn := Aside0.mk (HCH.out.below (below_drew (Below.refl _ _)))
 clear HCH
 have HCH := HCn
 clear HCn
 have HSX : Aside0 (W1.drew.cell? ⟨W.heap.size, 0, none⟩ = some (.int .i64 x.f0) ∧ W1.drew.cell? ⟨W.heap.size, 1, none⟩ = some (.int .i64 x.f1) ∧ W1.drew.cell? ⟨W.heap.size, 2, none⟩ = some (.int .i64 x.f2) ∧ W1.drew.cell? ⟨W.heap.size, 3, none⟩ = some (.int .i64 x.f3) ∧ W1.drew.cell? ⟨W.heap.size, 4, none⟩ = some (.string x.f4) ∧ W1.drew.cell? ⟨W.heap.size, 5, none⟩ = some (.slice A5 x.f5.length c5)) := ⟨⟨cellAt (HCH.out.blk HX0.out HZX.out.1) rfl, cellAt (HCH.out.blk HX0.out HZX.out.1) rfl, cellAt (HCH.out.blk HX0.out HZX.out.1) rfl, cellAt (HCH.out.blk HX0.out HZX.out.1) rfl, cellAt (HCH.out.blk HX0.out HZX.out.1) rfl, cellAt (HCH.out.blk HX0.out HZX.out.1) rfl⟩⟩
 go_region_held3 (fun w' => w'.cell? ⟨W.heap.size, 0, none⟩ = some (.int .i64 x.f0) ∧ w'.cell? ⟨W.heap.size, 1, none⟩ = some (.int .i64 x.f1) ∧ w'.cell? ⟨W.heap.size, 2, none⟩ = some (.int .i64 x.f2) ∧ w'.cell? ⟨W.heap.size, 3, none⟩ = some (.int .i64 x.f3) ∧ w'.cell? ⟨W.heap.size, 4, none⟩ = some (.string x.f4) ∧ w'.cell? ⟨W.heap.size, 5, none⟩ = some (.slice A5 x.f5.length c5)) (first | (with_reducible exact HSX.out) | (refine ⟨?_, ?_, ?_, ?_, ?_, ?_⟩ <;> (refine set3_cell (by omega) ?_; first | exact (HSX.out).1 | exact (HSX.out).2.1 | exact (HSX.out).2.2.1 | exact (HSX.out).2.2.2.1 | exact (HSX.out).2.2.2.2.1 | exact (HSX.out).2.2.2.2.2))) (first | (go_at_call 41; refine (part_calls x A5 c5 0 _ _ (HCH.out.foot HF1.out) HC5.out (by omega)).mono ?_; rintro e w2 ⟨A0, c0, rfl, hF0, hc0, hb2⟩; have HF0 := Aside0.mk (foot_new HCH.out.ma hF0); have HC0 := Aside0.mk hc0; have HCn := Aside0.mk (HCH.out.below hb2); clear HCH HSX hF0 hc0 hb2; have HCH := HCn; clear HCn; have HSX : Aside0 (w2.cell? ⟨W.heap.size, 0, none⟩ = some (.int .i64 x.f0) ∧ w2.cell? ⟨W.heap.size, 1, none⟩ = some (.int .i64 x.f1) ∧ w2.cell? ⟨W.heap.size, 2, none⟩ = some (.int .i64 x.f2) ∧ w2.cell? ⟨W.heap.size, 3, none⟩ = some (.int .i64 x.f3) ∧ w2.cell? ⟨W.heap.size, 4, none⟩ = some (.string x.f4) ∧ w2.cell? ⟨W.heap.size, 5, none⟩ = some (.slice A5 x.f5.length c5)) := ⟨⟨cellAt (HCH.out.blk HX0.out HZX.out.1) rfl, cellAt (HCH.out.blk HX0.out HZX.out.1) rfl, cellAt (HCH.out.blk HX0.out HZX.out.1) rfl, cellAt (HCH.out.blk HX0.out HZX.out.1) rfl, cellAt (HCH.out.blk HX0.out HZX.out.1) rfl, cellAt (HCH.out.blk HX0.out HZX.out.1) rfl⟩⟩) | (go_at_call 45; refine (copies_mk defs kz n ih w0 w2 b mp s Ad cd st st1 (xpart x 0) A0 c0 _ z lr HCH.out.ma HF0.out HC0.out HZ.out (by have hm := HMY.out; simp only [eq_iff_iff, iff_false, iff_true] at hm; omega) HCP.out).mono ?_; rintro e w3 ⟨s1, Al, cl, rfl, m1, m2, m3, m4⟩; have HL := Aside0.mk m4; have HCn := Aside0.mk (HCH.out.made m1 m2 m3); have HL3 := Aside0.mk (Nat.le_trans HCH.out.k.1 m2.1); clear HCH HSX m1 m2 m3 m4; have HCH := HCn; clear HCn; have HSX : Aside0 (w3.cell? ⟨W.heap.size, 0, none⟩ = some (.int .i64 x.f0) ∧ w3.cell? ⟨W.heap.size, 1, none⟩ = some (.int .i64 x.f1) ∧ w3.cell? ⟨W.heap.size, 2, none⟩ = some (.int .i64 x.f2) ∧ w3.cell? ⟨W.heap.size, 3, none⟩ = some (.int .i64 x.f3) ∧ w3.cell? ⟨W.heap.size, 4, none⟩ = some (.string x.f4) ∧ w3.cell? ⟨W.heap.size, 5, none⟩ = some (.slice A5 x.f5.length c5)) := ⟨⟨cellAt (HCH.out.blk HX0.out HZX.out.1) rfl, cellAt (HCH.out.blk HX0.out HZX.out.1) rfl, cellAt (HCH.out.blk HX0.out HZX.out.1) rfl, cellAt (HCH.out.blk HX0.out HZX.out.1) rfl, cellAt (HCH.out.blk HX0.out HZX.out.1) rfl, cellAt (HCH.out.blk HX0.out HZX.out.1) rfl⟩⟩) | (go_at_call 44; have hof := often_calls b mp st1.arcs Al cl lr x.f1 w3 (by obtain ⟨As_, cs_, hb_, _⟩ := HCH.out.ma.blk; exact cellAt hb_ rfl) HCH.out.ma.map HL.out.1 HL.out.2 HPS.out HLOW.out.1 HLOW.out.2; rw [HRS.out] at hof; refine hof.mono ?_; clear hof; rintro e w7 ⟨vf, ve, rfl, g1, g2, g3, g4⟩; obtain ⟨Uf, uf, euf⟩ := Kd.R_slice g3; subst euf; obtain ⟨Ue, ue, eue⟩ := Kd.R_slice g4; subst eue; have HG34 := Aside0.mk (And.intro g3 g4); have HN6 := Aside0.mk HCH.out.ma; have HCn := Aside0.mk (HCH.out.linked g1 g2); clear HCH HSX g1 g2 g3 g4; have HCH := HCn; clear HCn; have HSX : Aside0 (w7.cell? ⟨W.heap.size, 0, none⟩ = some (.int .i64 x.f0) ∧ w7.cell? ⟨W.heap.size, 1, none⟩ = some (.int .i64 x.f1) ∧ w7.cell? ⟨W.heap.size, 2, none⟩ = some (.int .i64 x.f2) ∧ w7.cell? ⟨W.heap.size, 3, none⟩ = some (.int .i64 x.f3) ∧ w7.cell? ⟨W.heap.size, 4, none⟩ = some (.string x.f4) ∧ w7.cell? ⟨W.heap.size, 5, none⟩ = some (.slice A5 x.f5.length c5)) := ⟨⟨cellAt (HCH.out.blk HX0.out HZX.out.1) rfl, cellAt (HCH.out.blk HX0.out HZX.out.1) rfl, cellAt (HCH.out.blk HX0.out HZX.out.1) rfl, cellAt (HCH.out.blk HX0.out HZX.out.1) rfl, cellAt (HCH.out.blk HX0.out HZX.out.1) rfl, cellAt (HCH.out.blk HX0.out HZX.out.1) rfl⟩⟩; have HR7 := Aside0.mk (HCH.out.blk HR0.out HZX.out.2); have k0 := cellAt (i := 0) (u := .slice none 0 0) HR7.out rfl; have k1 := cellAt (i := 1) (u := .slice none 0 0) HR7.out rfl; have k2 := cellAt (i := 2) (u := .int .i64 0) HR7.out rfl; have n0 := blk_frozen HR7.out 0; have n1 := blk_frozen HR7.out 1; have n2 := blk_frozen HR7.out 2))
 all_goals (
  have hP7 := blk_put (blk_put (blk_put HR7.out 0 (.slice Uf RS.1.f0.length uf) (cs' := #[.slice Uf RS.1.f0.length uf, .slice none 0 0, .int .i64 0]) rfl) 1 (.slice Ue RS.1.f1.length ue) (cs' := #[.slice Uf RS.1.f0.length uf, .slice Ue RS.1.f1.length ue, .int .i64 0]) rfl) 2 (.int .i64 RS.1.f2) (cs' := #[.slice Uf RS.1.f0.length uf, .slice Ue RS.1.f1.length ue, .int .i64 RS.1.f2]) rfl
  have hg7 := set3_grown w7 (W.heap.size + 1) (.slice Uf RS.1.f0.length uf) (.slice Ue RS.1.f1.length ue) (.int .i64 RS.1.f2)
  go_wp2
  refine bodyPost_ret (results_cell_row rfl _ _ (W.heap.size + 1) 74 #[.slice Uf RS.1.f0.length uf, .slice Ue RS.1.f1.length ue, .int .i64 RS.1.f2] (0, 0) _ (by rfl) hP7 Try.underlying74 rfl (by kernel_rfl)) rfl ?_
  have hn6 : ∀ k, w3.heap.size ≤ k → some k ≠ s1 := fun k hk e => by have := HN6.out.s_lt (k := k) (.inr (.inr e)); omega
  exact made_end (p := RS.1) HM.out HW1.out HCH.out.ma HCH.out.k HCH.out.s2 (T := W.heap.size + 1) (by omega) HLT.out ⟨_, HR7.out⟩ (Kd.R_lower (spR_to HG34.out.1 (fun _ _ => rfl) (fun k hk => ⟨hn6 k (spR_lt HG34.out.1 k hk).1, HG34.out.1.1 k hk⟩)) HL3.out) (Kd.R_lower (spR_to HG34.out.2 (fun _ _ => rfl) (fun k hk => ⟨hn6 k (spR_lt HG34.out.2 k hk).1, HG34.out.2.1 k hk⟩)) HL3.out) hg7)
theorem make_times (defs : List S61) (kz n : Nat) (ih : mkOk defs (szF kz) n) (w0 W : World) (b mp : Nat) (s : Option Nat) (Ad : Option Addr) (cd : Nat) (st st' : St) (p : S74) (x : S33) (A5 : Option Addr) (c5 : Nat) (hM : MkAt w0 W b mp s Ad cd defs st) (hF : Kd.F k33 W (fun k => ¬ Zn b mp s k) A5 x.f5.length x.f5) (hc5 : x.f5.length ≤ c5) (hx : x.f0 = 7) (h : mkF defs (szF kz) (n + 1) x st = some (p, st')) :
  Calls Try.prog 30 #[.pointer (some ⟨b, 0, none⟩), .agg #[.int .i64 x.f0, .int .i64 x.f1, .int .i64 x.f2, .int .i64 x.f3, .string x.f4, .slice A5 x.f5.length c5]] W (MadeBy w0 W b mp s Ad cd defs st' p) := by
 by_cases h12 : (12 : Int) < x.f2
 ·exact make_times_1 defs kz n ih w0 W b mp s Ad cd st st' p x A5 c5 hM hF hc5 hx (eq_true h12) h
 ·exact make_times_0 defs kz n ih w0 W b mp s Ad cd st st' p x A5 c5 hM hF hc5 hx (eq_false h12) h
set_option maxRecDepth 100000 in
set_option maxHeartbeats 8000000 in
theorem make_none (defs : List S61) (sz : S33 → Option Int) (n : Nat) (ih : mkOk defs sz n) (w0 W : World) (b mp : Nat) (s : Option Nat) (Ad : Option Addr) (cd : Nat) (st st' : St) (p : S74) (x : S33) (A5 : Option Addr) (c5 : Nat) (hM : MkAt w0 W b mp s Ad cd defs st) (hF : Kd.F k33 W (fun k => ¬ Zn b mp s k) A5 x.f5.length x.f5) (hc5 : x.f5.length ≤ c5) (hx : x.f0 ≠ 2 ∧ x.f0 ≠ 3 ∧ x.f0 ≠ 4 ∧ x.f0 ≠ 7 ∧ x.f0 ≠ 5 ∧ x.f0 ≠ 6 ∧ x.f0 ≠ 8) (h : mkF defs sz (n + 1) x st = some (p, st')) :
  Calls Try.prog 30 #[.pointer (some ⟨b, 0, none⟩), .agg #[.int .i64 x.f0, .int .i64 x.f1, .int .i64 x.f2, .int .i64 x.f3, .string x.f4, .slice A5 x.f5.length c5]] W (MadeBy w0 W b mp s Ad cd defs st' p) := by
 rw [mkF, if_neg (by omega), if_neg (by omega), if_neg (by omega), if_neg (by omega), if_neg (by omega), if_neg (by omega)] at h
 injection h with h
 injection h with h1 h2
 subst h1 h2
 obtain ⟨W1, hWW⟩ : ∃ W1, (W.alloc (.cells #[.int .i64 x.f0, .int .i64 x.f1, .int .i64 x.f2, .int .i64 x.f3, .string x.f4, .slice A5 x.f5.length c5] 33)).alloc (.cells #[.slice none 0 0, .slice none 0 0, .int .i64 0] 74) = W1 := ⟨_, rfl⟩
 have hW1 := below_alloc (below_alloc (Below.refl W.heap.size W) (.cells #[.int .i64 x.f0, .int .i64 x.f1, .int .i64 x.f2, .int .i64 x.f3, .string x.f4, .slice A5 x.f5.length c5] 33)) (.cells #[.slice none 0 0, .slice none 0 0, .int .i64 0] 74)
 have hx0 : W1.heap[W.heap.size]? = some (.cells #[.int .i64 x.f0, .int .i64 x.f1, .int .i64 x.f2, .int .i64 x.f3, .string x.f4, .slice A5 x.f5.length c5] 33 (0, 0)) := by rw [← hWW]; exact blk_alloc (heap_alloc_new W _) _
 have hr0 : W1.heap[W.heap.size + 1]? = some (.cells #[.slice none 0 0, .slice none 0 0, .int .i64 0] 74 (0, 0)) := by
  have h := heap_alloc_new (W.alloc (.cells #[.int .i64 x.f0, .int .i64 x.f1, .int .i64 x.f2, .int .i64 x.f3, .string x.f4, .slice A5 x.f5.length c5] 33)) (.cells #[.slice none 0 0, .slice none 0 0, .int .i64 0] 74)
  rwa [hWW, show (W.alloc (.cells #[.int .i64 x.f0, .int .i64 x.f1, .int .i64 x.f2, .int .i64 x.f3, .string x.f4, .slice A5 x.f5.length c5] 33)).heap.size = W.heap.size + 1 from Array.size_push _] at h
 rw [hWW] at hW1
 have HM := Aside0.mk hM
 have HW1 := Aside0.mk hW1
 have HCH := Aside0.mk (Chn.start hM hW1)
 have HF1 := Aside0.mk (Kd.F_below hF hW1)
 have HC5 := Aside0.mk hc5
 have HR0 := Aside0.mk hr0
 have HX0 := Aside0.mk hx0
 have HZX : Aside0 (¬ Zn b mp s W.heap.size ∧ ¬ Zn b mp s (W.heap.size + 1)) := ⟨fun hz => by have := hM.s_lt hz; omega, fun hz => by have := hM.s_lt hz; omega⟩
 have hlt1 := blk_lt hr0
 have HLT := Aside0.mk hlt1
 have d0 := cellAt (i := 0) (u := .int .i64 x.f0) hx0 rfl
 have d1 := cellAt (i := 1) (u := .int .i64 x.f1) hx0 rfl
 have d2 := cellAt (i := 2) (u := .int .i64 x.f2) hx0 rfl
 have d3 := cellAt (i := 3) (u := .int .i64 x.f3) hx0 rfl
 have d4 := cellAt (i := 4) (u := .string x.f4) hx0 rfl
 have d5 := cellAt (i := 5) (u := .slice A5 x.f5.length c5) hx0 rfl
 clear hM hW1 hx0 hr0 hlt1 hF hc5
 have e2 : (x.f0 == 2) = false := beq_eq_false_iff_ne.2 (by omega)
 have e3 : (x.f0 == 3) = false := beq_eq_false_iff_ne.2 (by omega)
 have e4 : (x.f0 == 4) = false := beq_eq_false_iff_ne.2 (by omega)
 have e5 : (x.f0 == 5) = false := beq_eq_false_iff_ne.2 (by omega)
 have e6 : (x.f0 == 6) = false := beq_eq_false_iff_ne.2 (by omega)
 have e7 : (x.f0 == 7) = false := beq_eq_false_iff_ne.2 (by omega)
 have e8 : (x.f0 == 8) = false := beq_eq_false_iff_ne.2 (by omega)
 clear hx
 have HR7 := HR0
 have k0 := cellAt (i := 0) (u := .slice none 0 0) HR7.out rfl
 have k1 := cellAt (i := 1) (u := .slice none 0 0) HR7.out rfl
 have k2 := cellAt (i := 2) (u := .int .i64 0) HR7.out rfl
 have n0 := blk_frozen HR7.out 0
 have n1 := blk_frozen HR7.out 1
 have n2 := blk_frozen HR7.out 2
 go_enter Try.func30, Try.ntmps30
 go_wp2
 have hP7 := blk_put (blk_put (blk_put HR7.out 0 (.slice none 0 0) (cs' := #[.slice none 0 0, .slice none 0 0, .int .i64 0]) rfl) 1 (.slice none 0 0) (cs' := #[.slice none 0 0, .slice none 0 0, .int .i64 0]) rfl) 2 (.int .i64 0) (cs' := #[.slice none 0 0, .slice none 0 0, .int .i64 0]) rfl
 have hg7 := set3_grown W1 (W.heap.size + 1) (.slice none 0 0) (.slice none 0 0) (.int .i64 0)
 refine bodyPost_ret (results_cell_row rfl _ _ (W.heap.size + 1) 74 #[.slice none 0 0, .slice none 0 0, .int .i64 0] (0, 0) _ (by rfl) hP7 Try.underlying74 rfl (by kernel_rfl)) rfl ?_
 exact made_end (p := ⟨[], [], 0⟩) HM.out HW1.out HCH.out.ma HCH.out.k HCH.out.s2 (T := W.heap.size + 1) (by omega) HLT.out ⟨_, HR7.out⟩ (Kd.R_nil _ _ _ _ _) (Kd.R_nil _ _ _ _ _) hg7
set_option maxRecDepth 100000 in
set_option maxHeartbeats 8000000 in
theorem make_star (defs : List S61) (sz : S33 → Option Int) (n : Nat) (ih : mkOk defs sz n) (w0 W : World) (b mp : Nat) (s : Option Nat) (Ad : Option Addr) (cd : Nat) (st st' : St) (p : S74) (x : S33) (A5 : Option Addr) (c5 : Nat) (hM : MkAt w0 W b mp s Ad cd defs st) (hF : Kd.F k33 W (fun k => ¬ Zn b mp s k) A5 x.f5.length x.f5) (hc5 : x.f5.length ≤ c5) (hx : x.f0 = 6) (h : mkF defs sz (n + 1) x st = some (p, st')) :
  Calls Try.prog 30 #[.pointer (some ⟨b, 0, none⟩), .agg #[.int .i64 x.f0, .int .i64 x.f1, .int .i64 x.f2, .int .i64 x.f3, .string x.f4, .slice A5 x.f5.length c5]] W (MadeBy w0 W b mp s Ad cd defs st' p) := by
 rw [mkF, if_neg (by omega), if_neg (by omega), if_neg (by omega), if_neg (by omega), if_pos hx] at h
 obtain ⟨⟨a, st1⟩, ha, h⟩ := Option.bind_eq_some_iff.1 h
 simp only [starF] at h
 by_cases hok : okP a = true ∧ st1.arcs.length < 100000
 case neg => rw [if_neg hok] at h; cases h
 rw [if_pos hok] at h
 injection h with h
 injection h with h1 h2
 subst h1 h2
 have HA := Aside0.mk ha
 have HOK := Aside0.mk hok
 obtain ⟨W1, hWW⟩ : ∃ W1, (W.alloc (.cells #[.int .i64 x.f0, .int .i64 x.f1, .int .i64 x.f2, .int .i64 x.f3, .string x.f4, .slice A5 x.f5.length c5] 33)).alloc (.cells #[.slice none 0 0, .slice none 0 0, .int .i64 0] 74) = W1 := ⟨_, rfl⟩
 have hW1 := below_alloc (below_alloc (Below.refl W.heap.size W) (.cells #[.int .i64 x.f0, .int .i64 x.f1, .int .i64 x.f2, .int .i64 x.f3, .string x.f4, .slice A5 x.f5.length c5] 33)) (.cells #[.slice none 0 0, .slice none 0 0, .int .i64 0] 74)
 have hx0 : W1.heap[W.heap.size]? = some (.cells #[.int .i64 x.f0, .int .i64 x.f1, .int .i64 x.f2, .int .i64 x.f3, .string x.f4, .slice A5 x.f5.length c5] 33 (0, 0)) := by rw [← hWW]; exact blk_alloc (heap_alloc_new W _) _
 have hr0 : W1.heap[W.heap.size + 1]? = some (.cells #[.slice none 0 0, .slice none 0 0, .int .i64 0] 74 (0, 0)) := by
  have h := heap_alloc_new (W.alloc (.cells #[.int .i64 x.f0, .int .i64 x.f1, .int .i64 x.f2, .int .i64 x.f3, .string x.f4, .slice A5 x.f5.length c5] 33)) (.cells #[.slice none 0 0, .slice none 0 0, .int .i64 0] 74)
  rwa [hWW, show (W.alloc (.cells #[.int .i64 x.f0, .int .i64 x.f1, .int .i64 x.f2, .int .i64 x.f3, .string x.f4, .slice A5 x.f5.length c5] 33)).heap.size = W.heap.size + 1 from Array.size_push _] at h
 rw [hWW] at hW1
 have HM := Aside0.mk hM
 have HW1 := Aside0.mk hW1
 have HCH := Aside0.mk (Chn.start hM hW1)
 have HF1 := Aside0.mk (Kd.F_below hF hW1)
 have HC5 := Aside0.mk hc5
 have HR0 := Aside0.mk hr0
 have HX0 := Aside0.mk hx0
 have HZX : Aside0 (¬ Zn b mp s W.heap.size ∧ ¬ Zn b mp s (W.heap.size + 1)) := ⟨fun hz => by have := hM.s_lt hz; omega, fun hz => by have := hM.s_lt hz; omega⟩
 have hlt1 := blk_lt hr0
 have HLT := Aside0.mk hlt1
 have d0 := cellAt (i := 0) (u := .int .i64 x.f0) hx0 rfl
 have d1 := cellAt (i := 1) (u := .int .i64 x.f1) hx0 rfl
 have d2 := cellAt (i := 2) (u := .int .i64 x.f2) hx0 rfl
 have d3 := cellAt (i := 3) (u := .int .i64 x.f3) hx0 rfl
 have d4 := cellAt (i := 4) (u := .string x.f4) hx0 rfl
 have d5 := cellAt (i := 5) (u := .slice A5 x.f5.length c5) hx0 rfl
 clear hM hW1 hx0 hr0 hlt1 hF hc5
 have e2 : (x.f0 == 2) = false := by rw [hx]; rfl
 have e3 : (x.f0 == 3) = false := by rw [hx]; rfl
 have e4 : (x.f0 == 4) = false := by rw [hx]; rfl
 have e5 : (x.f0 == 5) = false := by rw [hx]; rfl
 have e6 : (x.f0 == 6) = true := by rw [hx]; rfl
 clear ha hok hx
 go_enter Try.func30, Try.ntmps30
 go_wp2_with (first | (go_at_call 41; refine (part_calls x A5 c5 0 _ _ (HCH.out.foot HF1.out) HC5.out (by omega)).mono ?_; rintro e w2 ⟨A0, c0, rfl, hF0, hc0, hb2⟩; have HF0 := Aside0.mk (foot_new HCH.out.ma hF0); have HC0 := Aside0.mk hc0; have HCn := Aside0.mk (HCH.out.below hb2); clear HCH hF0 hc0 hb2; have HCH := HCn; clear HCn) | (go_at_call 30; refine (ih w0 w2 b mp s Ad cd st st1 a (xpart x 0) A0 c0 HCH.out.ma HF0.out HC0.out HA.out).mono ?_; rintro e w3 ⟨s1, Af, Ae, cf, ce, rfl, m1, m2, m3, m4, m5⟩; have HRA := Aside0.mk (RowsAt.of HCH.out.ma m4 m5); have HRAL := Aside0.mk (HCH.out.k.1); have HCn := Aside0.mk (HCH.out.made m1 m2 m3); clear HCH m1 m2 m3 m4 m5; have HCH := HCn; clear HCn; have HC4 := Aside0.mk (HCH.out.below (below_alloc (Below.refl _ _) (.cells #[.slice Af a.f0.length cf, .slice Ae a.f1.length ce, .int .i64 a.f2] 74))); have HRA4 := Aside0.mk (HRA.out.below (below_alloc (Below.refl _ _) (.cells #[.slice Af a.f0.length cf, .slice Ae a.f1.length ce, .int .i64 a.f2] 74))); have HQB := Aside0.mk (heap_alloc_new w3 (.cells #[.slice Af a.f0.length cf, .slice Ae a.f1.length ce, .int .i64 a.f2] 74))) | (go_at_call 43; refine (link_calls b mp st1.arcs Ae Af ce cf a.f1 a.f0 0 _ (by obtain ⟨As_, cs_, hb_, _⟩ := HC4.out.ma.blk; exact cellAt hb_ rfl) HC4.out.ma.map (HRA4.out.pc HOK.out.1).re (HRA4.out.pc HOK.out.1).rf (HRA4.out.pc HOK.out.1).we (HRA4.out.pc HOK.out.1).wf (by have h1 := okP_at HOK.out.1; have h3 := HOK.out.2; have h7 := Nat.mul_le_mul (Nat.le_of_lt h1.2.1) (Nat.le_of_lt h1.1); omega) (by have h1 := okP_at HOK.out.1; omega) (by have h1 := okP_at HOK.out.1; omega)).mono ?_; rintro e w7 ⟨rfl, g1, g2⟩; have HC7 := Aside0.mk (HC4.out.linked g1 g2); have HRA7 := Aside0.mk (HRA4.out.kept (Kept.of_grown g1 (Kept.refl _ _) (fun k hk => .inl (.inr (.inl (by injection hk with hk; exact hk.symm))))) (.inl rfl)); have HQ7 := Aside0.mk (blk_grown HQB.out g1 (fun e => cells_ne_map HQB.out HC4.out.ma.map (by injection e))); clear g1 g2; have q0 := cellAt (i := 0) (u := .slice Af a.f0.length cf) HQ7.out rfl; have q1 := cellAt (i := 1) (u := .slice Ae a.f1.length ce) HQ7.out rfl; have HR7 := Aside0.mk (HC7.out.blk HR0.out HZX.out.2); have k0 := cellAt (i := 0) (u := .slice none 0 0) HR7.out rfl; have k1 := cellAt (i := 1) (u := .slice none 0 0) HR7.out rfl; have k2 := cellAt (i := 2) (u := .int .i64 0) HR7.out rfl; have n0 := blk_frozen HR7.out 0; have n1 := blk_frozen HR7.out 1; have n2 := blk_frozen HR7.out 2))
 have hP7 := blk_put (blk_put (blk_put HR7.out 0 (.slice Af a.f0.length cf) (cs' := #[.slice Af a.f0.length cf, .slice none 0 0, .int .i64 0]) rfl) 1 (.slice Ae a.f1.length ce) (cs' := #[.slice Af a.f0.length cf, .slice Ae a.f1.length ce, .int .i64 0]) rfl) 2 (.int .i64 0) (cs' := #[.slice Af a.f0.length cf, .slice Ae a.f1.length ce, .int .i64 0]) rfl
 have hg7 := set3_grown w7 (W.heap.size + 1) (.slice Af a.f0.length cf) (.slice Ae a.f1.length ce) (.int .i64 0)
 refine bodyPost_ret (results_cell_row rfl _ _ (W.heap.size + 1) 74 #[.slice Af a.f0.length cf, .slice Ae a.f1.length ce, .int .i64 0] (0, 0) _ (by rfl) hP7 Try.underlying74 rfl (by kernel_rfl)) rfl ?_
 exact made_end (p := ⟨a.f0, a.f1, 0⟩) HM.out HW1.out HC7.out.ma HC7.out.k HC7.out.s2 (T := W.heap.size + 1) (by omega) HLT.out ⟨_, HR7.out⟩ (Kd.R_lower (spR_to HRA7.out.f (fun _ _ => rfl) (fun k hk => ⟨fun e => (HRA7.out.f.1 k hk).1 (.inr (.inr e)), (HRA7.out.f.1 k hk).2⟩)) HRAL.out) (Kd.R_lower (spR_to HRA7.out.e (fun _ _ => rfl) (fun k hk => ⟨fun e => (HRA7.out.e.1 k hk).1 (.inr (.inr e)), (HRA7.out.e.1 k hk).2⟩)) HRAL.out) hg7
set_option maxRecDepth 100000 in
set_option maxHeartbeats 8000000 in
theorem make_wght (defs : List S61) (sz : S33 → Option Int) (n : Nat) (ih : mkOk defs sz n) (w0 W : World) (b mp : Nat) (s : Option Nat) (Ad : Option Addr) (cd : Nat) (st st' : St) (p : S74) (x : S33) (A5 : Option Addr) (c5 : Nat) (hM : MkAt w0 W b mp s Ad cd defs st) (hF : Kd.F k33 W (fun k => ¬ Zn b mp s k) A5 x.f5.length x.f5) (hc5 : x.f5.length ≤ c5) (hx : x.f0 = 8) (h : mkF defs sz (n + 1) x st = some (p, st')) :
  Calls Try.prog 30 #[.pointer (some ⟨b, 0, none⟩), .agg #[.int .i64 x.f0, .int .i64 x.f1, .int .i64 x.f2, .int .i64 x.f3, .string x.f4, .slice A5 x.f5.length c5]] W (MadeBy w0 W b mp s Ad cd defs st' p) := by
 rw [mkF, if_neg (by omega), if_neg (by omega), if_neg (by omega), if_neg (by omega), if_neg (by omega), if_pos hx] at h
 obtain ⟨⟨a, st1⟩, ha, h⟩ := Option.bind_eq_some_iff.1 h
 simp only [wghtF] at h
 by_cases hok : okP a = true
 case neg => rw [if_neg hok] at h; cases h
 rw [if_pos hok] at h
 injection h with h
 injection h with h1 h2
 subst h1 h2
 have HA := Aside0.mk ha
 have HOK := Aside0.mk hok
 obtain ⟨W1, hWW⟩ : ∃ W1, (W.alloc (.cells #[.int .i64 x.f0, .int .i64 x.f1, .int .i64 x.f2, .int .i64 x.f3, .string x.f4, .slice A5 x.f5.length c5] 33)).alloc (.cells #[.slice none 0 0, .slice none 0 0, .int .i64 0] 74) = W1 := ⟨_, rfl⟩
 have hW1 := below_alloc (below_alloc (Below.refl W.heap.size W) (.cells #[.int .i64 x.f0, .int .i64 x.f1, .int .i64 x.f2, .int .i64 x.f3, .string x.f4, .slice A5 x.f5.length c5] 33)) (.cells #[.slice none 0 0, .slice none 0 0, .int .i64 0] 74)
 have hx0 : W1.heap[W.heap.size]? = some (.cells #[.int .i64 x.f0, .int .i64 x.f1, .int .i64 x.f2, .int .i64 x.f3, .string x.f4, .slice A5 x.f5.length c5] 33 (0, 0)) := by rw [← hWW]; exact blk_alloc (heap_alloc_new W _) _
 have hr0 : W1.heap[W.heap.size + 1]? = some (.cells #[.slice none 0 0, .slice none 0 0, .int .i64 0] 74 (0, 0)) := by
  have h := heap_alloc_new (W.alloc (.cells #[.int .i64 x.f0, .int .i64 x.f1, .int .i64 x.f2, .int .i64 x.f3, .string x.f4, .slice A5 x.f5.length c5] 33)) (.cells #[.slice none 0 0, .slice none 0 0, .int .i64 0] 74)
  rwa [hWW, show (W.alloc (.cells #[.int .i64 x.f0, .int .i64 x.f1, .int .i64 x.f2, .int .i64 x.f3, .string x.f4, .slice A5 x.f5.length c5] 33)).heap.size = W.heap.size + 1 from Array.size_push _] at h
 rw [hWW] at hW1
 have HM := Aside0.mk hM
 have HW1 := Aside0.mk hW1
 have HCH := Aside0.mk (Chn.start hM hW1)
 have HF1 := Aside0.mk (Kd.F_below hF hW1)
 have HC5 := Aside0.mk hc5
 have HR0 := Aside0.mk hr0
 have HX0 := Aside0.mk hx0
 have HZX : Aside0 (¬ Zn b mp s W.heap.size ∧ ¬ Zn b mp s (W.heap.size + 1)) := ⟨fun hz => by have := hM.s_lt hz; omega, fun hz => by have := hM.s_lt hz; omega⟩
 have hlt1 := blk_lt hr0
 have HLT := Aside0.mk hlt1
 have d0 := cellAt (i := 0) (u := .int .i64 x.f0) hx0 rfl
 have d1 := cellAt (i := 1) (u := .int .i64 x.f1) hx0 rfl
 have d2 := cellAt (i := 2) (u := .int .i64 x.f2) hx0 rfl
 have d3 := cellAt (i := 3) (u := .int .i64 x.f3) hx0 rfl
 have d4 := cellAt (i := 4) (u := .string x.f4) hx0 rfl
 have d5 := cellAt (i := 5) (u := .slice A5 x.f5.length c5) hx0 rfl
 clear hM hW1 hx0 hr0 hlt1 hF hc5
 have e2 : (x.f0 == 2) = false := by rw [hx]; rfl
 have e3 : (x.f0 == 3) = false := by rw [hx]; rfl
 have e4 : (x.f0 == 4) = false := by rw [hx]; rfl
 have e5 : (x.f0 == 5) = false := by rw [hx]; rfl
 have e6 : (x.f0 == 6) = false := by rw [hx]; rfl
 have e7 : (x.f0 == 7) = false := by rw [hx]; rfl
 have e8 : (x.f0 == 8) = true := by rw [hx]; rfl
 clear ha hok hx
 go_enter Try.func30, Try.ntmps30
 go_wp2_with (first | (go_at_call 41; refine (part_calls x A5 c5 0 _ _ (HCH.out.foot HF1.out) HC5.out (by omega)).mono ?_; rintro e w2 ⟨A0, c0, rfl, hF0, hc0, hb2⟩; have HF0 := Aside0.mk (foot_new HCH.out.ma hF0); have HC0 := Aside0.mk hc0; have HCn := Aside0.mk (HCH.out.below hb2); clear HCH hF0 hc0 hb2; have HCH := HCn; clear HCn) | (go_at_call 30; refine (ih w0 w2 b mp s Ad cd st st1 a (xpart x 0) A0 c0 HCH.out.ma HF0.out HC0.out HA.out).mono ?_; rintro e w3 ⟨s1, Af, Ae, cf, ce, rfl, m1, m2, m3, m4, m5⟩; have HRA := Aside0.mk (RowsAt.of HCH.out.ma m4 m5); have HRAL := Aside0.mk (HCH.out.k.1); have HCn := Aside0.mk (HCH.out.made m1 m2 m3); clear HCH m1 m2 m3 m4 m5; have HCH := HCn; clear HCn; have HC4 := Aside0.mk (HCH.out.below (below_alloc (Below.refl _ _) (.cells #[.slice Af a.f0.length cf, .slice Ae a.f1.length ce, .int .i64 a.f2] 74))); have HRA4 := Aside0.mk (HRA.out.below (below_alloc (Below.refl _ _) (.cells #[.slice Af a.f0.length cf, .slice Ae a.f1.length ce, .int .i64 a.f2] 74))); have HQB := Aside0.mk (heap_alloc_new w3 (.cells #[.slice Af a.f0.length cf, .slice Ae a.f1.length ce, .int .i64 a.f2] 74))))
 have HQB0 := Aside0.mk (heap_alloc_new w3 (.cells #[.slice Af a.f0.length cf, .slice Ae a.f1.length ce, .int .i64 a.f2] 74))
 have HCH0 := Aside0.mk (HC4.out.below (below_drew (Below.refl _ _)))
 have HRA0 := Aside0.mk (HRA4.out.below (below_drew (Below.refl _ _)))
 have HQZ : Aside0 (¬ Zn b mp s1 w3.heap.size) := ⟨fun hz => by have := HCH.out.ma.s_lt hz; omega⟩
 have HQR : Aside0 (w3.heap.size ≠ W.heap.size + 1 ∧ W.heap.size ≠ W.heap.size + 1) := ⟨by have := HCH.out.k.1; have := HLT.out; omega, by omega⟩
 clear HQB HC4 HRA4
 generalize w3.heap.size = Q at HQB0 HQZ HQR
 clear HCH HRA d0 d1 d2 d3 d4 d5
 generalize w3.alloc (.cells #[.slice Af a.f0.length cf, .slice Ae a.f1.length ce, .int .i64 a.f2] 74) = W4 at HQB0 HCH0 HRA0
 have HQB : Aside0 (W4.drew.heap[Q]? = some (.cells #[.slice Af a.f0.length cf, .slice Ae a.f1.length ce, .int .i64 a.f2] 74 (0, 0))) := ⟨HQB0.out⟩
 have HCH := HCH0
 have HRA := HRA0
 clear HQB0 HCH0 HRA0
 have HSX : Aside0 (W4.drew.cell? ⟨Q, 0, none⟩ = some (.slice Af a.f0.length cf) ∧ W4.drew.cell? ⟨Q, 1, none⟩ = some (.slice Ae a.f1.length ce) ∧ W4.drew.cell? ⟨Q, 2, none⟩ = some (.int .i64 a.f2) ∧ W4.drew.cell? ⟨W.heap.size, 0, none⟩ = some (.int .i64 x.f0) ∧ W4.drew.cell? ⟨W.heap.size, 1, none⟩ = some (.int .i64 x.f1) ∧ W4.drew.cell? ⟨W.heap.size, 2, none⟩ = some (.int .i64 x.f2) ∧ W4.drew.cell? ⟨W.heap.size, 3, none⟩ = some (.int .i64 x.f3) ∧ W4.drew.cell? ⟨W.heap.size, 4, none⟩ = some (.string x.f4) ∧ W4.drew.cell? ⟨W.heap.size, 5, none⟩ = some (.slice A5 x.f5.length c5)) := ⟨⟨cellAt HQB.out rfl, cellAt HQB.out rfl, cellAt HQB.out rfl, cellAt (HCH.out.blk HX0.out HZX.out.1) rfl, cellAt (HCH.out.blk HX0.out HZX.out.1) rfl, cellAt (HCH.out.blk HX0.out HZX.out.1) rfl, cellAt (HCH.out.blk HX0.out HZX.out.1) rfl, cellAt (HCH.out.blk HX0.out HZX.out.1) rfl, cellAt (HCH.out.blk HX0.out HZX.out.1) rfl⟩⟩
 go_region_held3 (fun w' => w'.cell? ⟨Q, 0, none⟩ = some (.slice Af a.f0.length cf) ∧ w'.cell? ⟨Q, 1, none⟩ = some (.slice Ae a.f1.length ce) ∧ w'.cell? ⟨Q, 2, none⟩ = some (.int .i64 a.f2) ∧ w'.cell? ⟨W.heap.size, 0, none⟩ = some (.int .i64 x.f0) ∧ w'.cell? ⟨W.heap.size, 1, none⟩ = some (.int .i64 x.f1) ∧ w'.cell? ⟨W.heap.size, 2, none⟩ = some (.int .i64 x.f2) ∧ w'.cell? ⟨W.heap.size, 3, none⟩ = some (.int .i64 x.f3) ∧ w'.cell? ⟨W.heap.size, 4, none⟩ = some (.string x.f4) ∧ w'.cell? ⟨W.heap.size, 5, none⟩ = some (.slice A5 x.f5.length c5)) (first | (with_reducible exact HSX.out) | (refine ⟨?_, ?_, ?_, ?_, ?_, ?_, ?_, ?_, ?_⟩ <;> (refine set3_cell (by have := HQR.out; omega) ?_; first | exact (HSX.out).1 | exact (HSX.out).2.1 | exact (HSX.out).2.2.1 | exact (HSX.out).2.2.2.1 | exact (HSX.out).2.2.2.2.1 | exact (HSX.out).2.2.2.2.2.1 | exact (HSX.out).2.2.2.2.2.2.1 | exact (HSX.out).2.2.2.2.2.2.2.1 | exact (HSX.out).2.2.2.2.2.2.2.2))) (first | (go_at_call 46; refine (dearer_calls Af cf a.f0 x.f3 _ (HRA.out.pc HOK.out).rf (HRA.out.pc HOK.out).hf (by have := (HRA.out.pc HOK.out).lf; omega)).mono ?_; rintro e w5 ⟨v5, rfl, hr5, hb5⟩; have HSZ := Aside0.mk HCH.out.k.1; have HLE := Aside0.mk (fun k hk => (spR_lt HRA.out.e k hk).2); have HZL := Aside0.mk (fun k hk => HCH.out.ma.s_lt (k := k) (.inr (.inr hk))); obtain ⟨Uf, uf, euf⟩ := Kd.R_slice hr5; subst euf; have HV5 := Aside0.mk hr5; have HCn := Aside0.mk (HCH.out.below hb5); have HRn := Aside0.mk (HRA.out.below hb5); have HQn := Aside0.mk (blk_below HQB.out hb5); clear HCH HRA HQB HSX hr5 hb5; have HCH := HCn; have HRA := HRn; have HQB := HQn; clear HCn HRn HQn; have HSX : Aside0 (w5.cell? ⟨Q, 0, none⟩ = some (.slice Af a.f0.length cf) ∧ w5.cell? ⟨Q, 1, none⟩ = some (.slice Ae a.f1.length ce) ∧ w5.cell? ⟨Q, 2, none⟩ = some (.int .i64 a.f2) ∧ w5.cell? ⟨W.heap.size, 0, none⟩ = some (.int .i64 x.f0) ∧ w5.cell? ⟨W.heap.size, 1, none⟩ = some (.int .i64 x.f1) ∧ w5.cell? ⟨W.heap.size, 2, none⟩ = some (.int .i64 x.f2) ∧ w5.cell? ⟨W.heap.size, 3, none⟩ = some (.int .i64 x.f3) ∧ w5.cell? ⟨W.heap.size, 4, none⟩ = some (.string x.f4) ∧ w5.cell? ⟨W.heap.size, 5, none⟩ = some (.slice A5 x.f5.length c5)) := ⟨⟨cellAt HQB.out rfl, cellAt HQB.out rfl, cellAt HQB.out rfl, cellAt (HCH.out.blk HX0.out HZX.out.1) rfl, cellAt (HCH.out.blk HX0.out HZX.out.1) rfl, cellAt (HCH.out.blk HX0.out HZX.out.1) rfl, cellAt (HCH.out.blk HX0.out HZX.out.1) rfl, cellAt (HCH.out.blk HX0.out HZX.out.1) rfl, cellAt (HCH.out.blk HX0.out HZX.out.1) rfl⟩⟩) | (go_at_call 39; refine (trop_Add.calls a.f2 x.f3 _ _ (trop_Add_tadd a.f2 x.f3)).mono ?_; rintro e w7 ⟨rfl, hb7⟩; have HV5n := Aside0.mk (Kd.R_below HV5.out hb7); have HCn := Aside0.mk (HCH.out.below hb7); have HRn := Aside0.mk (HRA.out.below hb7); have HQn := Aside0.mk (blk_below HQB.out hb7); clear HV5 HCH HRA HQB HSX hb7; have HV5 := HV5n; have HCH := HCn; have HRA := HRn; have HQB := HQn; clear HV5n HCn HRn HQn; have HSX : Aside0 (w7.cell? ⟨Q, 0, none⟩ = some (.slice Af a.f0.length cf) ∧ w7.cell? ⟨Q, 1, none⟩ = some (.slice Ae a.f1.length ce) ∧ w7.cell? ⟨Q, 2, none⟩ = some (.int .i64 a.f2) ∧ w7.cell? ⟨W.heap.size, 0, none⟩ = some (.int .i64 x.f0) ∧ w7.cell? ⟨W.heap.size, 1, none⟩ = some (.int .i64 x.f1) ∧ w7.cell? ⟨W.heap.size, 2, none⟩ = some (.int .i64 x.f2) ∧ w7.cell? ⟨W.heap.size, 3, none⟩ = some (.int .i64 x.f3) ∧ w7.cell? ⟨W.heap.size, 4, none⟩ = some (.string x.f4) ∧ w7.cell? ⟨W.heap.size, 5, none⟩ = some (.slice A5 x.f5.length c5)) := ⟨⟨cellAt HQB.out rfl, cellAt HQB.out rfl, cellAt HQB.out rfl, cellAt (HCH.out.blk HX0.out HZX.out.1) rfl, cellAt (HCH.out.blk HX0.out HZX.out.1) rfl, cellAt (HCH.out.blk HX0.out HZX.out.1) rfl, cellAt (HCH.out.blk HX0.out HZX.out.1) rfl, cellAt (HCH.out.blk HX0.out HZX.out.1) rfl, cellAt (HCH.out.blk HX0.out HZX.out.1) rfl⟩⟩; have HR7 := Aside0.mk (HCH.out.blk HR0.out HZX.out.2); have k0 := cellAt (i := 0) (u := .slice none 0 0) HR7.out rfl; have k1 := cellAt (i := 1) (u := .slice none 0 0) HR7.out rfl; have k2 := cellAt (i := 2) (u := .int .i64 0) HR7.out rfl; have n0 := blk_frozen HR7.out 0; have n1 := blk_frozen HR7.out 1; have n2 := blk_frozen HR7.out 2))
 have hP7 := blk_put (blk_put (blk_put HR7.out 0 (.slice Uf (dearS a.f0 x.f3).length uf) (cs' := #[.slice Uf (dearS a.f0 x.f3).length uf, .slice none 0 0, .int .i64 0]) rfl) 1 (.slice Ae a.f1.length ce) (cs' := #[.slice Uf (dearS a.f0 x.f3).length uf, .slice Ae a.f1.length ce, .int .i64 0]) rfl) 2 (.int .i64 (tadd a.f2 x.f3)) (cs' := #[.slice Uf (dearS a.f0 x.f3).length uf, .slice Ae a.f1.length ce, .int .i64 (tadd a.f2 x.f3)]) rfl
 have hg7 := set3_grown w7 (W.heap.size + 1) (.slice Uf (dearS a.f0 x.f3).length uf) (.slice Ae a.f1.length ce) (.int .i64 (tadd a.f2 x.f3))
 go_wp2
 refine bodyPost_ret (results_cell_row rfl _ _ (W.heap.size + 1) 74 #[.slice Uf (dearS a.f0 x.f3).length uf, .slice Ae a.f1.length ce, .int .i64 (tadd a.f2 x.f3)] (0, 0) _ (by rfl) hP7 Try.underlying74 rfl (by kernel_rfl)) rfl ?_
 exact made_end (p := ⟨dearS a.f0 x.f3, a.f1, tadd a.f2 x.f3⟩) HM.out HW1.out HCH.out.ma HCH.out.k HCH.out.s2 (T := W.heap.size + 1) (by omega) HLT.out ⟨_, HR7.out⟩ (Kd.R_lower (spR_to HV5.out (fun _ _ => rfl) (fun k hk => ⟨fun e => by have h1 := HZL.out k e; have h2 := (spR_lt HV5.out k hk).1; omega, fun e => by have h1 := HLE.out k e.symm; have h2 := (spR_lt HV5.out k hk).1; omega⟩)) HSZ.out) (Kd.R_lower (spR_to HRA.out.e (fun _ _ => rfl) (fun k hk => ⟨fun e => (HRA.out.e.1 k hk).1 (.inr (.inr e)), fun e => by have h1 := HLE.out k hk; have h2 := (spR_lt HV5.out k e.symm).1; omega⟩)) HRAL.out) hg7
/-- What a pattern's positions are, for as many levels as the pattern has. -/
theorem make_calls (defs : List S61) (kz : Nat) : ∀ n, mkOk defs (szF kz) n := by
 intro n
 induction n with
 | zero => intro w0 W b mp s Ad cd st st' p x A5 c5 _ _ _ h; cases h
 | succ n ih =>
  intro w0 W b mp s Ad cd st st' p x A5 c5 hM hF hc5 h
  by_cases h2 : x.f0 = 2 ∨ x.f0 = 3
  ·exact make_pos defs (szF kz) n w0 W b mp s Ad cd st st' p x A5 c5 hM h2 h
  by_cases h4 : x.f0 = 4
  ·exact make_cat defs (szF kz) n ih w0 W b mp s Ad cd st st' p x A5 c5 hM hF hc5 h4 h
  by_cases h7 : x.f0 = 7
  ·exact make_times defs kz n ih w0 W b mp s Ad cd st st' p x A5 c5 hM hF hc5 h7 h
  by_cases h5 : x.f0 = 5
  ·exact make_alt defs (szF kz) n ih w0 W b mp s Ad cd st st' p x A5 c5 hM hF hc5 h5 h
  by_cases h6 : x.f0 = 6
  ·exact make_star defs (szF kz) n ih w0 W b mp s Ad cd st st' p x A5 c5 hM hF hc5 h6 h
  by_cases h8 : x.f0 = 8
  ·exact make_wght defs (szF kz) n ih w0 W b mp s Ad cd st st' p x A5 c5 hM hF hc5 h8 h
  exact make_none defs (szF kz) n ih w0 W b mp s Ad cd st st' p x A5 c5 hM hF hc5 (by omega) h
end Go.Proofs.Ytnnpfgpfkningaa.P
namespace Go.Proofs.Ytnnpfgpfkningaa.P
open Go.RowKit Go.Proofs.YtnnpfgpfkningaaW.PrintWords Go.Proofs.YtnnpfgpfkningaaW.PrintLast Go.Proofs.YtnnpfgpfkningaaW.PrintMore
attribute [local go_sem] max2_int min2_int max_two min_two max_three min_three max_four min_four   -- for this text's walks alone
attribute [local go_sem ↓ high] Go.Proofs.YtnnpfgpfkningaaX.isSome_setCell
set_option linter.unusedVariables false
set_option linter.unusedSimpArgs false
def Clone_arc.f (l0 : List S51) : Option (List S51) := if l0.length < 5864062014805 then some l0 else none
set_option maxHeartbeats 800000 in
theorem Clone_arc.calls (A0 : Option Addr) (c0 : Nat) (l0 : List S51) (r : List S51) (w : World) (hr0 : Kd.C k51 w A0 l0.length l0) (hc0 : l0.length ≤ c0) (h : Clone_arc.f l0 = some r) :
  Calls Try.prog 51 #[.slice A0 l0.length c0] w fun e w' => ∃ v0_ : Value, e = .returned (v0_) ∧ Kd.R k51 51 w' w.heap.size (fun _ => True) v0_ r ∧ Below w.heap.size w w' := by
 unfold Clone_arc.f at h
 by_cases hl : l0.length < 5864062014805
 ·rw [if_pos hl] at h
  obtain rfl := Option.some.inj h
  clear h
  have HR0 := Aside0.mk hr0
  have HL := Aside0.mk hl
  clear hr0 hl
  have q24 := fun (w : World) (a : Option Addr) (n c n' c' : Nat) => Lib.run_eql_slice_nil (P := Try.prog) w _ _ a n c n' c' Try.underlying37
  rcases A0 with _ | A0
  ·go_enter Try.func51, Try.ntmps51
   go_wp2
   go_ret
   have h0 : l0 = [] := by
    rcases l0 with _ | ⟨x, l⟩
    ·rfl
    ·obtain ⟨ad, h, _⟩ := HR0.out.2.2 (by simp)
     cases h
   subst h0
   exact ⟨_, rfl, Kd.R_nil _ _ _ _ _, Below.refl _ _⟩
  ·have HO : Kd.R k51 51 (w.alloc (.cells #[] 51)) w.heap.size (fun _ => True) (.slice (some ⟨w.heap.size, 0, none⟩) 0 0) [] :=
    ⟨fun _ _ => trivial, [], World.ownsRow_made w #[] 0 (Nat.le_refl _) (Nat.zero_le _) rfl, Reps.none _ _⟩
   have HO' := Aside0.mk HO
   clear HO
   go_enter Try.func51, Try.ntmps51
   go_wp2_with (at_builtin; refine Kd.R_append_rows k51 (Rr := k51.K w) (w0 := w) w.heap.size rfl (.tmp 5) (.tmp 6) 37 51 (.agg #[(.int .i64 0), (.int .i64 0), (.int .i64 0)]) 24 rfl Try.underlying37 info51 rfl (by decide) (by omega) _ [] l0 (some A0) l0.length c0 (fun _ => True) (fun k => some k ≠ (Value.slice (some ⟨w.heap.size, 0, none⟩) 0 0).ownBlock) rfl rfl HO'.out ?aR ?aM (fun _ h => ⟨trivial, h⟩) (fun _ _ => trivial) ?aB ?aS ?aL ?_)
   case aR => exact HR0.out.imp_ (below_alloc (Below.refl _ _) _) (fun _ _ h => h)
   case aM => intro x cs h; obtain rfl := k51_open h; exact k51_mkM _ _ _ x
   case aB => exact below_alloc (Below.refl _ _) _
   case aS => simp
   case aL => have := HL.out; simp; omega
   intro v1 w1 h1 hb hg hat
   have H1 := Aside0.mk h1
   have HB := Aside0.mk hb
   clear h1 hb hg hat HO' HR0
   go_wp2
   go_ret
   exact ⟨_, rfl, H1.out, HB.out⟩
 ·rw [if_neg hl] at h; cases h
section
open Go.Shelf Go.Lib Go.Sort
set_option maxRecDepth 100000 in
set_option maxHeartbeats 800000 in
theorem arcs1_calls' (x1 x2 x3 y1 y2 y3 r1 r2 r : Int) (W : World) (hr : cmpOr2 r1 r2 = r) (h1 : ∀ W', Calls Try.prog 50 #[.int .i64 x1, .int .i64 y1] W' fun e w' => e = .returned (.int .i64 r1) ∧ w' = W') (h2 : ∀ W', Calls Try.prog 50 #[.int .i64 x2, .int .i64 y2] W' fun e w' => e = .returned (.int .i64 r2) ∧ w' = W') :
  Calls Try.prog 48 #[.agg #[.int .i64 x1, .int .i64 x2, .int .i64 x3], .agg #[.int .i64 y1, .int .i64 y2, .int .i64 y3]] W fun e w' => e = .returned (.int .i64 r) ∧ ∃ q os', w' = grow (W.drewN q) os' := by
 have h3 : ∀ g c w, w.cell? ⟨g, 0, none⟩ = some (.int .i64 r1) → w.cell? ⟨g, 1, none⟩ = some (.int .i64 r2) → Calls Try.prog 49 #[.slice (some ⟨g, 0, none⟩) 2 c] w fun e w' => e = .returned (.int .i64 r) ∧ w' = w := fun g c w a b => by
  rw [← hr]; exact (cmpOr_calls r1 r2 g c w a b).mono fun e w' h => ⟨h.1, h.2.symm⟩
 clear hr
 have H1 := Aside0.mk h1
 have H2 := Aside0.mk h2
 have H3 := Aside0.mk h3
 clear h1 h2 h3
 go_enter Try.func48, Try.ntmps48
 go_wp2
 refine wp_region_still_tail 10 (by kernel_rfl) (by kernel_rfl) ?_
 simp only [List.take_succ_cons, List.take_zero, List.drop_succ_cons, List.drop_zero]
 change wpStill _ _ (World.drew ((W.alloc (Obj.cells #[Value.int IntKind.i64 x1, Value.int IntKind.i64 x2, Value.int IntKind.i64 x3] 51)).alloc (Obj.cells #[Value.int IntKind.i64 y1, Value.int IntKind.i64 y2, Value.int IntKind.i64 y3] 51))) _ _ _
 obtain ⟨W2, hW2⟩ : ∃ W2, W2 = World.drew ((W.alloc (Obj.cells #[Value.int IntKind.i64 x1, Value.int IntKind.i64 x2, Value.int IntKind.i64 x3] 51)).alloc (Obj.cells #[Value.int IntKind.i64 y1, Value.int IntKind.i64 y2, Value.int IntKind.i64 y3] 51)) := ⟨_, rfl⟩
 rw [← hW2]
 have c0 : W2.cell? ⟨W.heap.size, 0, none⟩ = some (.int .i64 x1) := by rw [hW2]; go_simp
 have c1 : W2.cell? ⟨W.heap.size, 1, none⟩ = some (.int .i64 x2) := by rw [hW2]; go_simp
 have c2 : W2.cell? ⟨W.heap.size + 1, 0, none⟩ = some (.int .i64 y1) := by rw [hW2]; go_simp
 have c3 : W2.cell? ⟨W.heap.size + 1, 1, none⟩ = some (.int .i64 y2) := by rw [hW2]; go_simp
 clear hW2
 still_step
 still_step
 still_step
 still_step
 still_call (H1.out _)
 still_step
 still_step
 still_step
 still_step
 still_call (H2.out _)
 refine wpStill_nil ?_
 go_wp2_with (go_at_call 49; refine (H3.out _ _ _ ?_ ?_).mono ?_; go_simp; go_simp; rintro e w' ⟨rfl, rfl⟩)
 go_ret
 refine ⟨rfl, 1, #[Obj.cells #[.int .i64 x1, .int .i64 x2, .int .i64 x3] 51, Obj.cells #[.int .i64 y1, .int .i64 y2, .int .i64 y3] 51, Obj.cells #[Value.int IntKind.i64 r1, Value.int IntKind.i64 r2] 3], ?_⟩
 simp [grow, World.alloc, World.drewN, Array.push]
 exact ⟨rfl, rfl, rfl⟩
theorem arcs1_lays (x y : S51) (W : World) : Calls Try.prog 48 #[.agg #[.int .i64 x.f0, .int .i64 x.f1, .int .i64 x.f2], .agg #[.int .i64 y.f0, .int .i64 y.f1, .int .i64 y.f2]] W fun e w' => e = .returned (.int .i64 (cmpOr2 (Lib.compareInt x.f0 y.f0) (Lib.compareInt x.f1 y.f1))) ∧ ∃ q os', w' = grow (W.drewN q) os' :=
 arcs1_calls' x.f0 x.f1 x.f2 y.f0 y.f1 y.f2 _ _ _ W rfl (fun W' => AnyG.cmp_Compare_int Try.laysCmp x.f0 y.f0 W') (fun W' => AnyG.cmp_Compare_int Try.laysCmp x.f1 y.f1 W')
def arcCmp (x y : S51) : Int := cmpOr2 (Lib.compareInt x.f0 y.f0) (Lib.compareInt x.f1 y.f1)
theorem arcLt (x y : S51) : ltOf arcCmp x y = decide (x.f0 < y.f0 ∨ (x.f0 = y.f0 ∧ x.f1 < y.f1)) := by
 unfold ltOf arcCmp cmpOr2 Lib.compareInt
 by_cases h1 : x.f0 < y.f0
 ·simp [h1]
 ·by_cases h2 : y.f0 < x.f0
  ·have : ¬ x.f0 = y.f0 := by omega
   simp [h1, h2, this]
  ·have h3 : x.f0 = y.f0 := by omega
   by_cases h4 : x.f1 < y.f1
   ·simp [h3, h4]
   ·by_cases h5 : y.f1 < x.f1 <;> simp [h3, h4, h5]
theorem arcSwo : SWO (ltOf arcCmp) where
 irrefl x := by rw [arcLt]; simp
 trans x y z h1 h2 := by rw [arcLt] at *; simp at *; omega
 ntrans x y z h1 h2 := by rw [arcLt] at *; simp at *; omega
def encArc (x : S51) : List Value := [.int .i64 x.f0, .int .i64 x.f1, .int .i64 x.f2]
instance : Inhabited S51 := ⟨z51⟩
/-- A row of one's own that has just the arcs of l, in whatever order, is l behind the sort. -/
theorem sorted_is {l rows : List S51} (hl : l.Pairwise aLt) (hp : rows.Perm l) {d' : Array S51} (hP : PermIn 0 rows.toArray.size rows.toArray d') (hS : SortedIn (ltOf arcCmp) 0 rows.toArray.size d') : d'.toList = l := by
 obtain ⟨hsz, _, hperm⟩ := hP
 have e1 : d'.extract 0 rows.toArray.size = d' := by rw [← hsz]; exact Array.extract_size
 rw [e1, Array.extract_size] at hperm
 have hp2 : d'.toList.Perm l := by simpa using hperm.trans (by simpa using hp)
 have hnd : ∀ a ∈ l, ∀ b ∈ l, a.f0 = b.f0 → a.f1 = b.f1 → a = b := by
  intro a ha b hb h0 h1
  rw [List.pairwise_iff_getElem] at hl
  obtain ⟨i, hi, rfl⟩ := List.mem_iff_getElem.1 ha
  obtain ⟨j, hj, rfl⟩ := List.mem_iff_getElem.1 hb
  rcases Nat.lt_trichotomy i j with h | rfl | h
  ·have := hl i j hi hj h; unfold aLt at this; omega
  ·rfl
  ·have := hl j i hj hi h; unfold aLt at this; omega
 refine List.Perm.eq_of_pairwise (le := fun x y => ltOf arcCmp y x = false) ?_ ?_ ?_ hp2
 ·intro a b ha hb h1 h2
  rw [arcLt, decide_eq_false_iff_not] at h1 h2
  exact hnd a (hp2.mem_iff.1 ha) b (by simpa using hb) (by omega) (by omega)
 ·rw [List.pairwise_iff_getElem]
  intro i j hi hj hij
  have hi' : i < d'.size := by simpa using hi
  have hj' : j < d'.size := by simpa using hj
  have := hS i j (Nat.zero_le _) hij (by omega)
  rw [getElem!_pos d' j hj', getElem!_pos d' i hi'] at this
  simpa using this
 ·refine hl.imp ?_
  intro a b h
  rw [arcLt, decide_eq_false_iff_not]
  unfold aLt at h; omega
theorem SortArc.calls (P0 : Nat → Prop) (u : Value) (l0 l : List S51) (w0 w : World) (hB : Below w0.heap.size w0 w) (ho0 : Kd.R k51 51 w w0.heap.size P0 u l0) (hl : l.Pairwise aLt) (hp : l0.Perm l) (hn : l0.length < 1000000000) :
  Calls Try.prog 47 #[u, .func (.func 48) #[] #[]] w fun e w' => e = .returned (.tuple #[]) ∧ Kd.R k51 51 w' w0.heap.size P0 u l ∧ Below w0.heap.size w0 w' := by
 have hu : u = .slice none 0 0 ∧ l0 = [] ∨ ∃ g cap, u = .slice (some ⟨g, 0, none⟩) l0.length cap := by
  obtain ⟨_, inner, ⟨ho1, ho⟩, hr⟩ := ho0
  rcases ho with ⟨hv, hn⟩ | ⟨g', cap', cur, hv, _⟩
  ·exact .inl ⟨hv, List.eq_nil_of_length_eq_zero hn⟩
  ·exact .inr ⟨g', cap', hv⟩
 rcases hu with ⟨rfl, rfl⟩ | ⟨g, cap, rfl⟩
 ·refine (AnyF.slices_SortFunc_none (ρ := Try.laysSortA_ren) { Try.laysSortA with } none 0 _ w).mono ?_
  rintro e w' ⟨rfl, rfl⟩
  obtain rfl := List.nil_perm.1 hp
  exact ⟨rfl, Kd.R_nil _ _ _ _ _, hB⟩
 ·obtain ⟨_, hb, hlt, hH⟩ := holds_of_R (d := k51) (enc := encArc) (by decide) (fun _ => rfl) (fun _ _ _ _ _ h => k51_openM h) ho0
  have eg : ∀ args w, (callFunc 48 args).run Try.prog w = .ok (.enter 48 args) w := enters_of Try.func48 (by kernel_rfl) rfl
  have hc := AnyQ.slices_SortFunc (ρ := Try.laysSortA_ren) Try.laysSortA 3 Try.isAgg51 Try.sizeOf51 encArc (fun _ => rfl) (fun x v hv => by simp [encArc] at hv; rcases hv with rfl | rfl | rfl <;> rfl) arcCmp arcSwo 48 #[] g 0 cap l0.toArray w eg (fun _ _ _ _ x y => arcs1_lays x y _) hH hlt (by simp; omega)
  have hs : l0.toArray.size = l0.length := by simp
  rw [hs] at hc
  refine hc.mono ?_
  rintro e w' ⟨rfl, d', m, os, hP, hS, rfl⟩
  have e1 := sorted_is hl hp (d' := d') (by rw [hs]; exact hP) (by rw [hs]; exact hS)
  have := R_of_sorted (m := m) (os := os) (l' := d') (d := k51) (enc := encArc) (by decide) (fun _ => rfl) (fun w base ok x => k51_mkM w base ok x) (by rw [hP.1, hs]) ho0
  rw [e1] at this
  exact ⟨rfl, this, below_sorted hB hB.size hb⟩
end
section
open Go.Maps Go.WideMaps Go.MapKept
/-- THE STEP of a range over the joints: some arc that is still to come. -/
theorem wpList_next_arcs {ops : Array Oper} {rest : List Oper} {o : Oper} {a : Act} {Q : Exit → Act → World → Prop} (w : World) (hg : o.guard = none) (it : Operand) (hop : o.op = Op.next it false) (b r n : Nat) (D : DataW Unit) (l : List S51) (hA : ArcsAre D l) (left : Lit → Bool) (cnt : Nat) (hsub : ∀ z, left z = true → Maps.has D z = true)
  (hit : a.eval it = .pointer (some ⟨r, 0, none⟩)) (h : w.ranges Try.prog 96 (plainElem Try.prog 3) b r n D left cnt)
  (hDone : cnt = 0 → (∀ kl, left kl = false) → wpList Try.prog ops Q rest (a.put o.dst (.tuple #[.bool false])) w)
  (hMore : ∀ (x : S51) (w' : World) (cnt' : Nat), x ∈ l → left (kl2 x.f0 x.f1) = true → w'.ranges Try.prog 96 (plainElem Try.prog 3) b r n D (fun z => left z && !z.sameKey (kl2 x.f0 x.f1)) cnt' → cnt' < cnt →
   w.grownBy w' (some r) → w'.heap.size = w.heap.size → (Instr.entry (.pointer (some ⟨r, 0, none⟩))).run Try.prog w' = .ok (.tuple #[.agg #[.int .i64 x.f0, .int .i64 x.f1], .int .i64 x.f2]) w' → wpList Try.prog ops Q rest (a.put o.dst (.tuple #[.bool true, .agg #[.int .i64 x.f0, .int .i64 x.f1], .int .i64 x.f2])) w') :
  wpList Try.prog ops Q (o :: rest) a w :=
 wpList_next_ranges w hg it hop 96 keyed96 (plainElem Try.prog 3) (fun v : Value => v) (Value.int .i64) (fun key kl _ => ⟨key, rfl⟩) (fun v y hv => by obtain ⟨c, rfl, _⟩ := plainElem_int_inv Try.underlying3 hv; exact ⟨c, rfl⟩)
  b r n D left cnt hit h hDone (fun key c kl y w' cnt' hkey hlk hv hat hrg hlt hgr hsz hen => by
   obtain ⟨x, hx, rfl⟩ := hA.only kl (hsub kl hlk)
   obtain ⟨q0, q1, q2⟩ := hA.wf x hx
   obtain rfl : key = .agg #[.int .i64 x.f0, .int .i64 x.f1] := keyed96.inj hkey (key96 q0 q1)
   obtain ⟨c', ec, rfl, hwc⟩ := plainElem_int_inv Try.underlying3 hv
   cases ec
   have e := hA.at_ x hx (.lit (.int .i64 0))
   rw [hat] at e
   simp only [DataW.lit.injEq, Lit.int.injEq, true_and] at e
   obtain rfl := e
   exact hMore x w' cnt' hx hlk hrg hlt hgr hsz hen)
structure ArcIt (w W : World) (mp r : Nat) (D : DataW Unit) (l : List S51) (left : Lit → Bool) (cnt : Nat) (v : Value) (rows : List S51) : Prop where
 rg : W.ranges Try.prog 96 (plainElem Try.prog 3) mp r l.length D left cnt
 r : Kd.R k51 51 W w.heap.size (fun k => k ≠ r) v rows
 b : Below w.heap.size w W
 sub : ∀ z, left z = true → Maps.has D z = true
 nd : rows.Nodup
 lf : ∀ a ∈ l, left (kl2 a.f0 a.f1) = true ↔ a ∉ rows
 mem : ∀ a ∈ rows, a ∈ l
 len : rows.length + cnt ≤ l.length
theorem same_arc {l : List S51} (hl : l.Pairwise aLt) {a b : S51} (ha : a ∈ l) (hb : b ∈ l) (h0 : a.f0 = b.f0) (h1 : a.f1 = b.f1) : a = b := by
 rw [List.pairwise_iff_getElem] at hl
 obtain ⟨i, hi, rfl⟩ := List.mem_iff_getElem.1 ha
 obtain ⟨j, hj, rfl⟩ := List.mem_iff_getElem.1 hb
 rcases Nat.lt_trichotomy i j with h | rfl | h
 ·have := hl i j hi hj h; unfold aLt at this; omega
 ·rfl
 ·have := hl j i hj hi h; unfold aLt at this; omega
theorem ArcIt.perm {w W : World} {mp r : Nat} {D : DataW Unit} {l : List S51} {left : Lit → Bool} {cnt : Nat} {v : Value} {rows : List S51} (h : ArcIt w W mp r D l left cnt v rows) (hl : l.Pairwise aLt) (h0 : ∀ kl, left kl = false) : rows.Perm l := by
 have hn : l.Nodup := hl.imp (fun {a b} h e => by subst e; unfold aLt at h; omega)
 refine (List.perm_ext_iff_of_nodup h.nd hn).2 (fun a => ⟨h.mem a, fun ha => ?_⟩)
 by_cases hr : a ∈ rows
 ·exact hr
 ·have := (h.lf a ha).2 hr; rw [h0] at this; cases this
theorem ArcIt.next {w W W2 : World} {mp r : Nat} {D : DataW Unit} {l : List S51} {left : Lit → Bool} {cnt cnt' : Nat} {v v1 : Value} {rows : List S51} {x : S51} (h : ArcIt w W mp r D l left cnt v rows) (hA : ArcsAre D l) (hx : x ∈ l) (hlx : left (kl2 x.f0 x.f1) = true) (hlt : cnt' < cnt)
  (hrg : W2.ranges Try.prog 96 (plainElem Try.prog 3) mp r l.length D (fun z => left z && !z.sameKey (kl2 x.f0 x.f1)) cnt') (hr : Kd.R k51 51 W2 w.heap.size (fun k => k ≠ r) v1 (rows ++ [x])) (hb : Below w.heap.size w W2) :
  ArcIt w W2 mp r D l (fun z => left z && !z.sameKey (kl2 x.f0 x.f1)) cnt' v1 (rows ++ [x]) where
 rg := hrg
 r := hr
 b := hb
 sub z hz := by rw [Bool.and_eq_true] at hz; exact h.sub z hz.1
 nd := by
  have hn := (h.lf x hx).1 hlx
  exact List.nodup_append.2 ⟨h.nd, by simp, fun a ha b hb e => by rw [List.mem_singleton] at hb; subst hb e; exact hn ha⟩
 lf a ha := by
  obtain ⟨q0, q1, _⟩ := hA.wf a ha
  obtain ⟨p0, p1, _⟩ := hA.wf x hx
  rw [Bool.and_eq_true, h.lf a ha, List.mem_append, List.mem_singleton, not_or]
  refine and_congr_right fun _ => ?_
  constructor
  ·rintro h1 rfl
   rw [WideAt.sameKey_self (isKey2 _ _)] at h1; cases h1
  ·intro hne
   cases hs : (kl2 a.f0 a.f1).sameKey (kl2 x.f0 x.f1) with
   | false => rfl
   | true =>
    obtain ⟨e0, e1⟩ := kl2_inj q0 q1 p0 p1 (WideAt.sameKey_eq hs)
    exact (hne (same_arc hA.up.up ha hx e0 e1)).elim
 mem a ha := by
  rcases List.mem_append.1 ha with h1 | h1
  ·exact h.mem a h1
  ·rw [List.mem_singleton] at h1; subst h1; exact hx
 len := by have := h.len; rw [List.length_append, List.length_singleton]; omega
theorem R51_lt {base : Nat} {ok : Nat → Prop} {w : World} {v : Value} {l : List S51} (h : Kd.R k51 51 w base ok v l) : ∀ k, v.ownBlock = some k → base ≤ k ∧ k < w.heap.size := by
 intro k hk
 obtain ⟨h0, inner, ⟨ho1, ho⟩, hr⟩ := h
 rcases ho with ⟨hv, _⟩ | ⟨g', cap', cur, hv, hb, hh, _⟩
 ·rw [hv] at hk; cases hk
 ·rw [hv] at hk; injection hk with hk; subst hk; exact ⟨hb, (Array.getElem?_eq_some_iff.1 hh).1⟩
set_option maxRecDepth 100000 in
set_option maxHeartbeats 8000000 in
theorem arcs_calls (b mp : Nat) (l : List S51) (w : World) (hc : w.cell? ⟨b, 0, none⟩ = some (.map (some mp))) (hm : MapAt w mp l) (hn : l.length < 1000000) :
  Calls Try.prog 33 #[.pointer (some ⟨b, 0, none⟩)] w fun e w' => ∃ v, e = .returned v ∧ Kd.R k51 51 w' w.heap.size (fun _ => True) v l ∧ Below w.heap.size w w' := by
 obtain ⟨D, hown, hA⟩ := hm
 have HA := Aside0.mk hA
 have HN := Aside0.mk hn
 have hbl := hown.lt
 have HBL := Aside0.mk hbl
 have hne : b < w.heap.size := World.block_lt_of_cell? w _ hc
 have HOWN := Aside0.mk hown
 have HNE := Aside0.mk hne
 clear hA hn hbl hown hne
 go_enter Try.func33, Try.ntmps33
 go_wp2_with (at_range; refine wpList_range_own _ rfl _ 67 rfl 96 3 keyed96 Try.underlying67 _ mp l.length D rfl HOWN.out ?_; intro w0 hrg0 hg0 hs0)
 go_frame
 have HI0 : Aside0 (ArcIt w w0 mp w.heap.size D l (Maps.has D) (Maps.size D) (.slice none 0 0) []) := ⟨⟨hrg0, Kd.R_nil _ _ _ _ _, (Below.refl _ _).grown hg0 (Nat.le_refl _) (fun j hj => by cases hj), fun _ h => h, List.nodup_nil, fun a ha => ⟨fun _ => by simp, fun _ => HA.out.has a ha⟩, (fun a h => by cases h), by have := HA.out.size; rw [this, List.length_nil]; omega⟩⟩
 clear hrg0 hg0 hs0
 go_loopw [3] (fun v W => ∃ (left : Lit → Bool) (cnt : Nat) (rows : List S51), Aside0 (ArcIt w W mp w.heap.size D l left cnt v rows)) (fun _ wr => wr.rangeLeft mp w.heap.size)
 case atStart => exact ⟨_, _, _, HI0⟩
 case round =>
  clear HI0
  obtain ⟨left, cnt, rows, HI⟩ := hrel
  go_wp2_with (at_next; refine wpList_next_arcs _ rfl _ rfl mp w.heap.size l.length D l HA.out left cnt HI.out.sub rfl HI.out.rg ?_ ?_)
  ·intro hc0 hl0
   have HP := Aside0.mk (HI.out.perm HA.out.up.up hl0)
   clear hl0 hc0
   go_wp2_with (first | (go_at_call 47; refine (SortArc.calls (fun k => k ≠ w.heap.size) u3 rows l w _ HI.out.b HI.out.r HA.out.up.up HP.out (by have := HP.out.length_eq; have := HN.out; omega)).mono ?_; rintro e w2 ⟨rfl, hr2, hb2⟩; obtain ⟨A2, c2, e2⟩ := Kd.R_slice hr2; subst e2; have HR2 := Aside0.mk hr2; have HB2 := Aside0.mk hb2; clear hr2 hb2) | (go_at_call 51; refine (Clone_arc.calls A2 c2 l l w2 (Kd.R_reads' HR2.out).2.2 (Kd.R_reads' HR2.out).2.1 (by unfold Clone_arc.f; rw [if_pos (by have := HN.out; omega)])).mono ?_; rintro e w3 ⟨v3, rfl, hr3, hb3⟩; have HR3 := Aside0.mk (Kd.R_lower hr3 HB2.out.size); have HB3 := Aside0.mk (HB2.out.trans (hb3.mono HB2.out.size)); clear hr3 hb3))
   go_ret
   exact ⟨_, rfl, HR3.out, HB3.out⟩
  ·intro x w1 cnt1 hx hlx hrg1 hlt hg1 hs1 hen
   have HX := Aside0.mk (And.intro hx (And.intro hlx hlt))
   have HRG1 := Aside0.mk hrg1
   have HG1 := Aside0.mk hg1
   have HR1 : Aside0 (Kd.R k51 51 w1 w.heap.size (fun k => k ≠ w.heap.size) u3 rows) := ⟨Kd.R_grown HI.out.r hg1 (fun k hk e => hk (by injection e))⟩
   have HB1 : Aside0 (Below w.heap.size w w1) := ⟨HI.out.b.grown hg1 HI.out.b.size (fun j hj => by cases hj; exact Nat.le_refl _)⟩
   have HS1 := Aside0.mk hs1
   clear hx hlx hlt hrg1 hg1 hs1
   go_wp2_with ((with_reducible refine gate_builtin (b := .append) (xs := #[.tmp 16, .tmp 23]) rfl ?_); at_builtin; refine Kd.R_append k51 (w0 := w) (W := w1.alloc (.cells #[.int .i64 x.f0, .int .i64 x.f1] 96)) w.heap.size rfl (.tmp 16) (.tmp 23) 37 51 (.agg #[(.int .i64 0), (.int .i64 0), (.int .i64 0)]) 24 rfl Try.underlying37 info51 rfl (by decide) (by omega) u3 rows x [.int .i64 x.f0, .int .i64 x.f1, .int .i64 x.f2] (fun k => k ≠ w.heap.size) (fun _ => False) rfl (by rw [show (w1.alloc (.cells #[.int .i64 x.f0, .int .i64 x.f1] 96)).heap.size = w1.heap.size + 1 from Array.size_push _]; rfl) (k51_mkM _ _ _ x) (fun _ h => h.elim) (fun k hk e => by have h1 := HRG1.out.lt; simp at hk; omega) (Kd.R_below HR1.out (below_alloc (Below.refl _ _) _)) (below_alloc HB1.out _) (by have := HB1.out.size; simp; omega) (by have := HI.out.len; have := HN.out; omega) ?_; intro v2 w2 hr2 hb2 hg2 hat2; have HR2 := Aside0.mk hr2; have HB2 := Aside0.mk hb2; have HG2 := Aside0.mk hg2; clear hr2 hb2 hg2 hat2)
   have hown : ∀ k, u3.ownBlock = some k → w.heap.size ≤ k ∧ k ≠ w.heap.size := fun k hk => ⟨(R51_lt HR1.out k hk).1, HR1.out.1 k hk⟩
   have HRG2 := (HRG1.out.alloc (.cells #[.int .i64 x.f0, .int .i64 x.f1] 96)).kept HG2.out (fun e => by have := (hown mp e.symm).1; have := HBL.out; omega) (fun e => (hown _ e.symm).2 rfl)
   go_roundw
   case rel => exact ⟨_, cnt1, rows ++ [x], ⟨HI.out.next HA.out HX.out.1 HX.out.2.1 HX.out.2.2 HRG2 HR2.out HB2.out⟩⟩
   case measure => rw [HRG2.left_eq, HI.out.rg.left_eq]; exact HX.out.2.2
end
end Go.Proofs.Ytnnpfgpfkningaa.P
namespace Go.Proofs.Ytnnpfgpfkningaa.P
open Go.RowKit Go.Proofs.YtnnpfgpfkningaaW.PrintWords Go.Proofs.YtnnpfgpfkningaaW.PrintLast Go.Proofs.YtnnpfgpfkningaaW.PrintMore
attribute [local go_sem] max2_int min2_int max_two min_two max_three min_three max_four min_four   -- for this text's walks alone
attribute [local go_sem ↓ high] Go.Proofs.YtnnpfgpfkningaaX.isSome_setCell
set_option linter.unusedVariables false
set_option linter.unusedSimpArgs false
theorem k33_heap : Kd.Heap k33 := Kd.heap_fix (fun d hd => Kd.heap_iso _ (Kd.heap_pair (Kd.heap_int _) (Kd.heap_pair (Kd.heap_int _) (Kd.heap_pair (Kd.heap_int _) (Kd.heap_pair (Kd.heap_int _) (Kd.heap_pair Kd.heap_string (Kd.heap_slice 33 hd)))))))
/-- A maker, new. -/
theorem mk_new {w w2 : World} (hb : Below w.heap.size w w2) {Ad : Option Addr} {cd : Nat} {defs : List S61} (hd : Kd.C k61 w Ad defs.length defs) (hcd : defs.length ≤ cd) : MkAt w ((w2.alloc (.map #[] 0)).alloc (.cells #[.map (some w2.heap.size), .slice none 0 0, .slice Ad defs.length cd] 71)) (w2.heap.size + 1) w2.heap.size none Ad cd defs ⟨[], []⟩ where
 blk := by
  have h := heap_alloc_new (w2.alloc (.map #[] 0)) (.cells #[.map (some w2.heap.size), .slice none 0 0, .slice Ad defs.length cd] 71)
  rw [show (w2.alloc (.map #[] 0)).heap.size = w2.heap.size + 1 from Array.size_push _] at h
  exact ⟨none, 0, h, rfl, Kd.R_nil _ _ _ _ _⟩
 map := (MapAt.made w2).below (below_alloc (Below.refl _ _) _)
 below := below_alloc (below_alloc hb _) _
 hb := Nat.le_succ_of_le hb.size
 hmp := hb.size
 hcd := hcd
 defs := hd
/-- File's second slice may be whatever it is. -/
theorem set5_cell {W : World} {h g i : Nat} {v0 v1 v2 v3 v4 u : Value} (hne : g ≠ h) (q : W.cell? ⟨g, i, none⟩ = some u) : (((((W.setCell ⟨h, 0, none⟩ v0).setCell ⟨h, 1, none⟩ v1).setCell ⟨h, 2, none⟩ v2).setCell ⟨h, 3, none⟩ v3).setCell ⟨h, 4, none⟩ v4).cell? ⟨g, i, none⟩ = some u := by
 rw [cell_far (by simpa using hne), cell_far (by simpa using hne), cell_far (by simpa using hne), cell_far (by simpa using hne), cell_far (by simpa using hne)]; exact q
theorem set1_grown {V W : World} {T : Nat} (h : V.grownBy W (some T)) (i : Nat) (v : Value) : V.grownBy (W.setCell ⟨T, i, none⟩ v) (some T) := ⟨h.os, h.tape, h.output, Nat.le_trans h.size (Nat.le_of_eq (by simp [World.setCell])), fun k hk hn => by
 rw [RowKit.Below.heap_setCell _ _ _ _ (show k ≠ T from fun e => hn (by rw [e]))]; exact h.block k hk hn⟩
theorem set5_grown (W : World) (T : Nat) (v0 v1 v2 v3 v4 : Value) : W.grownBy (((((W.setCell ⟨T, 0, none⟩ v0).setCell ⟨T, 1, none⟩ v1).setCell ⟨T, 2, none⟩ v2).setCell ⟨T, 3, none⟩ v3).setCell ⟨T, 4, none⟩ v4) (some T) :=
 set1_grown (set1_grown (set1_grown (set1_grown (set1_grown ⟨rfl, rfl, rfl, Nat.le_refl _, fun _ _ _ => rfl⟩ _ _) _ _) _ _) _ _) _ _
theorem intR_base {base : Nat} {ok : Nat → Prop} {w : World} {v : Value} {l : List Int} (h : Kd.R (Kd.int .i64) 3 w base ok v l) : ∀ k, v.ownBlock = some k → base ≤ k := by
 intro k hk
 obtain ⟨inner, ho⟩ := Kd.R_own h
 exact own_base ho k hk
theorem R51_to {base : Nat} {ok ok' : Nat → Prop} {w w1 : World} {v : Value} {l : List S51} (h : Kd.R k51 51 w base ok v l) (hm : ∀ k, v.ownBlock = some k → w1.heap[k]? = w.heap[k]?) (hk : ∀ k, v.ownBlock = some k → ok' k) : Kd.R k51 51 w1 base ok' v l := by
 obtain ⟨_, inner, ho, hr⟩ := h
 exact ⟨hk, inner, own_move ho hm, hr.imp_ (fun p _ hp => by obtain rfl := k51_openM hp; exact k51_mkM _ _ _ p)⟩
theorem rows_apart {v u : Value} {B : Nat} (h : ∀ k, v.ownBlock = some k → k < B) (h2 : ∀ k, u.ownBlock = some k → B ≤ k) : ∀ k, v.ownBlock = some k → some k ≠ u.ownBlock := fun k hk e => by have := h k hk; have := h2 k e.symm; omega
/-- No two of four rows lie in one block. -/
structure Apart4 (v0 v1 v2 v3 : Value) : Prop where
 d01 : ∀ k, v0.ownBlock = some k → some k ≠ v1.ownBlock
 d02 : ∀ k, v0.ownBlock = some k → some k ≠ v2.ownBlock
 d03 : ∀ k, v0.ownBlock = some k → some k ≠ v3.ownBlock
 d12 : ∀ k, v1.ownBlock = some k → some k ≠ v2.ownBlock
 d13 : ∀ k, v1.ownBlock = some k → some k ≠ v3.ownBlock
 d23 : ∀ k, v2.ownBlock = some k → some k ≠ v3.ownBlock
set_option maxRecDepth 100000 in
set_option maxHeartbeats 8000000 in
theorem Make_calls (kz k1 n : Nat) (defs : List S61) (x : S33) (A5 : Option Addr) (c5 : Nat) (Ad : Option Addr) (cd : Nat) (Ar : Option Addr) (nr cr : Nat) (z : Int) (p : S74) (st : St) (F E : List Int) (w : World)
  (h5 : Kd.C k33 w A5 x.f5.length x.f5) (hc5 : x.f5.length ≤ c5) (hd : Kd.C k61 w Ad defs.length defs) (hcd : defs.length ≤ cd) (hz : szF kz x = some z) (hz1 : z ≤ 120) (h : mkF defs (szF kz) n x ⟨[], []⟩ = some (p, st)) (hok : okP p = true) (hs : st.sets.length < 1000000) (ha : st.arcs.length < 1000000)
  (hF : side_row.f k1 p.f0 st.sets.length = some F) (hE : side_row.f k1 p.f1 st.sets.length = some E) :
  Calls Try.prog 14 #[.agg #[.int .i64 x.f0, .int .i64 x.f1, .int .i64 x.f2, .int .i64 x.f3, .string x.f4, .slice A5 x.f5.length c5], .agg #[.slice Ad defs.length cd, .slice Ar nr cr]] w fun e w' => ∃ v0 v1 v2 v3 : Value, e = .returned (.tuple #[.agg #[v0, v1, v2, v3, .int .i64 p.f2], .bool true]) ∧
   Kd.R (Kd.int .i64) 3 w' w.heap.size (fun _ => True) v0 st.sets ∧ Kd.R (Kd.int .i64) 3 w' w.heap.size (fun _ => True) v1 F ∧ Kd.R (Kd.int .i64) 3 w' w.heap.size (fun _ => True) v2 E ∧ Kd.R k51 51 w' w.heap.size (fun _ => True) v3 st.arcs ∧ Below w.heap.size w w' ∧ Apart4 v0 v1 v2 v3 := by
 obtain ⟨W1, hWW⟩ : ∃ W1, ((w.alloc (.cells #[.int .i64 x.f0, .int .i64 x.f1, .int .i64 x.f2, .int .i64 x.f3, .string x.f4, .slice A5 x.f5.length c5] 33)).alloc (.cells #[.slice Ad defs.length cd, .slice Ar nr cr] 30)).alloc (.cells #[.slice none 0 0, .slice none 0 0, .slice none 0 0, .slice none 0 0, .int .i64 0] 39) = W1 := ⟨_, rfl⟩
 have hW1 := below_alloc (below_alloc (below_alloc (Below.refl w.heap.size w) (.cells #[.int .i64 x.f0, .int .i64 x.f1, .int .i64 x.f2, .int .i64 x.f3, .string x.f4, .slice A5 x.f5.length c5] 33)) (.cells #[.slice Ad defs.length cd, .slice Ar nr cr] 30)) (.cells #[.slice none 0 0, .slice none 0 0, .slice none 0 0, .slice none 0 0, .int .i64 0] 39)
 have hx0 : W1.heap[w.heap.size]? = some (.cells #[.int .i64 x.f0, .int .i64 x.f1, .int .i64 x.f2, .int .i64 x.f3, .string x.f4, .slice A5 x.f5.length c5] 33 (0, 0)) := by rw [← hWW]; exact blk_alloc (blk_alloc (heap_alloc_new w _) _) _
 have hf0 : W1.heap[w.heap.size + 1]? = some (.cells #[.slice Ad defs.length cd, .slice Ar nr cr] 30 (0, 0)) := by
  have h := blk_alloc (heap_alloc_new (w.alloc (.cells #[.int .i64 x.f0, .int .i64 x.f1, .int .i64 x.f2, .int .i64 x.f3, .string x.f4, .slice A5 x.f5.length c5] 33)) (.cells #[.slice Ad defs.length cd, .slice Ar nr cr] 30)) (.cells #[.slice none 0 0, .slice none 0 0, .slice none 0 0, .slice none 0 0, .int .i64 0] 39)
  rwa [hWW, show (w.alloc (.cells #[.int .i64 x.f0, .int .i64 x.f1, .int .i64 x.f2, .int .i64 x.f3, .string x.f4, .slice A5 x.f5.length c5] 33)).heap.size = w.heap.size + 1 from Array.size_push _] at h
 have hr0 : W1.heap[w.heap.size + 2]? = some (.cells #[.slice none 0 0, .slice none 0 0, .slice none 0 0, .slice none 0 0, .int .i64 0] 39 (0, 0)) := by
  have h := heap_alloc_new ((w.alloc (.cells #[.int .i64 x.f0, .int .i64 x.f1, .int .i64 x.f2, .int .i64 x.f3, .string x.f4, .slice A5 x.f5.length c5] 33)).alloc (.cells #[.slice Ad defs.length cd, .slice Ar nr cr] 30)) (.cells #[.slice none 0 0, .slice none 0 0, .slice none 0 0, .slice none 0 0, .int .i64 0] 39)
  rwa [hWW, show ((w.alloc (.cells #[.int .i64 x.f0, .int .i64 x.f1, .int .i64 x.f2, .int .i64 x.f3, .string x.f4, .slice A5 x.f5.length c5] 33)).alloc (.cells #[.slice Ad defs.length cd, .slice Ar nr cr] 30)).heap.size = w.heap.size + 2 from by simp] at h
 rw [hWW] at hW1
 have HB1 := Aside0.mk hW1
 have HX0 := Aside0.mk hx0
 have HF0 := Aside0.mk hf0
 have HR0 := Aside0.mk hr0
 have HLT := Aside0.mk (blk_lt hr0)
 have HC := Aside0.mk (And.intro (Kd.C_below h5 hW1) hc5)
 have HFT := Aside0.mk (Kd.F_below (Kd.C_F k33_heap h5) hW1)
 have HD := Aside0.mk (And.intro hd hcd)
 have HZ := Aside0.mk hz
 have HMK := Aside0.mk h
 have HOK := Aside0.mk hok
 have HN := Aside0.mk (And.intro hs ha)
 have HFE := Aside0.mk (And.intro hF hE)
 have hmm := @run_makeMap Try.prog
 have c1 : decide (120 < z) = false := decide_eq_false (by omega)
 have c2 : (120 < z) = False := eq_false (by omega)
 have d0 := cellAt (i := 0) (u := .int .i64 x.f0) hx0 rfl
 have d1 := cellAt (i := 1) (u := .int .i64 x.f1) hx0 rfl
 have d2 := cellAt (i := 2) (u := .int .i64 x.f2) hx0 rfl
 have d3 := cellAt (i := 3) (u := .int .i64 x.f3) hx0 rfl
 have d4 := cellAt (i := 4) (u := .string x.f4) hx0 rfl
 have d5 := cellAt (i := 5) (u := .slice A5 x.f5.length c5) hx0 rfl
 clear h5 hc5 hd hcd hz hz1 h hok hs ha hF hE hW1 hx0 hf0 hr0
 go_enter Try.func14, Try.ntmps14
 go_wp2_with (first | (go_at_call 17; refine (side_Size.calls kz x.f0 x.f1 x.f2 x.f3 x.f4 A5 c5 x.f5 z _ HC.out.1 HC.out.2 HZ.out).mono ?_; rintro e w2 ⟨rfl, hb2⟩; have HB2 := Aside0.mk hb2; clear d0 d1 d2 d3 d4 d5 hb2; have hx2 := blk_alloc (blk_alloc (blk_below HX0.out HB2.out) (.map #[] 0)) (.cells #[.map (some w2.heap.size), .slice none 0 0, .slice Ad defs.length cd] 71); have d0 := cellAt (i := 0) (u := .int .i64 x.f0) hx2 rfl; have d1 := cellAt (i := 1) (u := .int .i64 x.f1) hx2 rfl; have d2 := cellAt (i := 2) (u := .int .i64 x.f2) hx2 rfl; have d3 := cellAt (i := 3) (u := .int .i64 x.f3) hx2 rfl; have d4 := cellAt (i := 4) (u := .string x.f4) hx2 rfl; have d5 := cellAt (i := 5) (u := .slice A5 x.f5.length c5) hx2 rfl; have hf2 := blk_alloc (blk_below HF0.out HB2.out) (.map #[] 0); have f0 := cellAt (i := 0) (u := .slice Ad defs.length cd) hf2 rfl; clear hx2 hf2) | (go_at_call 30; refine (make_calls defs kz n w _ (w2.heap.size + 1) w2.heap.size none Ad cd ⟨[], []⟩ st p x A5 c5 (mk_new (HB1.out.trans (HB2.out.mono HB1.out.size)) HD.out.1 HD.out.2) (Kd.F_mono (Kd.F_below (Kd.F_below HFT.out HB2.out) (below_alloc (below_alloc (Below.refl _ _) _) _)) (fun k hk hz => by have h1 := HB1.out.size; have h2 := HB2.out.size; rcases hz with e | e | e; (first | omega | (cases e)); omega; cases e)) HC.out.2 HMK.out).mono ?_; rintro e w5 ⟨s1, Af, Ae, cf, ce, rfl, m1, m2, m3, m4, m5⟩; obtain ⟨As, cs, hmb, hms, hmr⟩ := m1.blk; have HP := Aside0.mk (And.intro m1 (And.intro m2 (And.intro m4 m5))); have HMB := Aside0.mk (blk_alloc hmb (.cells #[.slice Af p.f0.length cf, .slice Ae p.f1.length ce, .int .i64 p.f2] 74)); have HMS := Aside0.mk (And.intro hmr hms); have HRT := Aside0.mk (blk_alloc ((m2.2 (w.heap.size + 1 + 1) (by have h1 := HLT.out; have h2 := HB2.out.size; have h3 := (below_alloc (below_alloc (Below.refl w2.heap.size w2) (.map #[] 0)) (.cells #[.map (some w2.heap.size), .slice none 0 0, .slice Ad defs.length cd] 71)).size; omega) (fun hz => by have h1 := HLT.out; have h2 := HB2.out.size; rcases hz with e | e | e; (first | omega | cases e); omega; cases e)).trans (blk_alloc (blk_alloc (blk_below HR0.out HB2.out) _) _)) (.cells #[.slice Af p.f0.length cf, .slice Ae p.f1.length ce, .int .i64 p.f2] 74)); have g1 := cellAt (i := 1) (u := .slice As st.sets.length cs) HMB.out rfl; clear m1 m2 m3 m4 m5 hmb hms hmr))
 have HQ0 := Aside0.mk (heap_alloc_new w5 (.cells #[.slice Af p.f0.length cf, .slice Ae p.f1.length ce, .int .i64 p.f2] 74))
 have HQT : Aside0 (w5.heap.size ≠ w.heap.size + 1 + 1 ∧ w2.heap.size + 1 ≠ w.heap.size + 1 + 1) := ⟨by have h1 := HLT.out; have h2 := HB2.out.size; have h3 := HP.out.1.lt; omega, by have h1 := HLT.out; have h2 := HB2.out.size; omega⟩
 have HM6 : Aside0 (MkAt w (w5.alloc (.cells #[.slice Af p.f0.length cf, .slice Ae p.f1.length ce, .int .i64 p.f2] 74)) (w2.heap.size + 1) w2.heap.size s1 Ad cd defs st ∧ Kd.C k94 (w5.alloc (.cells #[.slice Af p.f0.length cf, .slice Ae p.f1.length ce, .int .i64 p.f2] 74)) Af p.f0.length p.f0 ∧ Kd.C k94 (w5.alloc (.cells #[.slice Af p.f0.length cf, .slice Ae p.f1.length ce, .int .i64 p.f2] 74)) Ae p.f1.length p.f1 ∧ p.f0.length ≤ cf ∧ p.f1.length ≤ ce ∧ Kd.C (Kd.int .i64) (w5.alloc (.cells #[.slice Af p.f0.length cf, .slice Ae p.f1.length ce, .int .i64 p.f2] 74)) As st.sets.length st.sets ∧ st.sets.length ≤ cs) := ⟨HP.out.1.below_ (below_alloc (Below.refl _ _) _), Kd.C_below (Kd.R_reads' HP.out.2.2.1).2.2 (below_alloc (Below.refl _ _) _), Kd.C_below (Kd.R_reads' HP.out.2.2.2).2.2 (below_alloc (Below.refl _ _) _), (Kd.R_reads' HP.out.2.2.1).2.1, (Kd.R_reads' HP.out.2.2.2).2.1, Kd.C_below (Kd.R_reads' HMS.out.1).2.2 (below_alloc (Below.refl _ _) _), (Kd.R_reads' HMS.out.1).2.1⟩
 generalize w5.heap.size = Q at HQ0 HQT
 clear HP HMS
 obtain ⟨W6, hW6⟩ : ∃ W6, w5.alloc (.cells #[.slice Af p.f0.length cf, .slice Ae p.f1.length ce, .int .i64 p.f2] 74) = W6 := ⟨_, rfl⟩
 rw [hW6] at HQ0 HM6 HMB HRT
 generalize w5.alloc (.cells #[.slice Af p.f0.length cf, .slice Ae p.f1.length ce, .int .i64 p.f2] 74) = W6_ at *
 subst hW6
 clear g1
 have HQ : Aside0 (Below W6_.heap.size W6_ W6_.drew) := ⟨below_drew (Below.refl _ _)⟩
 have HSX : Aside0 (W6_.drew.cell? ⟨w2.heap.size + 1, 0, none⟩ = some (.map (some w2.heap.size)) ∧ W6_.drew.cell? ⟨w2.heap.size + 1, 1, none⟩ = some (.slice As st.sets.length cs) ∧ W6_.drew.cell? ⟨Q, 0, none⟩ = some (.slice Af p.f0.length cf) ∧ W6_.drew.cell? ⟨Q, 1, none⟩ = some (.slice Ae p.f1.length ce) ∧ W6_.drew.cell? ⟨Q, 2, none⟩ = some (.int .i64 p.f2)) := ⟨⟨cellAt (blk_below HMB.out HQ.out) rfl, cellAt (blk_below HMB.out HQ.out) rfl, cellAt (blk_below HQ0.out HQ.out) rfl, cellAt (blk_below HQ0.out HQ.out) rfl, cellAt (blk_below HQ0.out HQ.out) rfl⟩⟩
 have MK1 := True.intro
 go_region_held3 (fun w' => w'.cell? ⟨w2.heap.size + 1, 0, none⟩ = some (.map (some w2.heap.size)) ∧ w'.cell? ⟨w2.heap.size + 1, 1, none⟩ = some (.slice As st.sets.length cs) ∧ w'.cell? ⟨Q, 0, none⟩ = some (.slice Af p.f0.length cf) ∧ w'.cell? ⟨Q, 1, none⟩ = some (.slice Ae p.f1.length ce) ∧ w'.cell? ⟨Q, 2, none⟩ = some (.int .i64 p.f2)) (first | (with_reducible exact HSX.out) | (refine ⟨?_, ?_, ?_, ?_, ?_⟩ <;> (refine set5_cell (by have := HQT.out; omega) ?_; first | exact (HSX.out).1 | exact (HSX.out).2.1 | exact (HSX.out).2.2.1 | exact (HSX.out).2.2.2.1 | exact (HSX.out).2.2.2.2))) (first | (go_at_call 31; refine (Clone_int.calls As cs st.sets st.sets _ (Kd.C_below HM6.out.2.2.2.2.2.1 HQ.out) HM6.out.2.2.2.2.2.2 (by unfold Clone_int.f; rw [if_pos (by have := HN.out.1; omega)])).mono ?_; rintro e w7 ⟨v0, rfl, hr, hb⟩; obtain ⟨B0, b0, eb0⟩ := Kd.R_slice hr; subst eb0; have HV0 := Aside0.mk (Kd.R_lower hr HQ.out.size); clear hr; have HQn := Aside0.mk (HQ.out.trans (hb.mono HQ.out.size)); clear HQ HSX hb ; have HQ := HQn; clear HQn; have HSX : Aside0 (w7.cell? ⟨w2.heap.size + 1, 0, none⟩ = some (.map (some w2.heap.size)) ∧ w7.cell? ⟨w2.heap.size + 1, 1, none⟩ = some (.slice As st.sets.length cs) ∧ w7.cell? ⟨Q, 0, none⟩ = some (.slice Af p.f0.length cf) ∧ w7.cell? ⟨Q, 1, none⟩ = some (.slice Ae p.f1.length ce) ∧ w7.cell? ⟨Q, 2, none⟩ = some (.int .i64 p.f2)) := ⟨⟨cellAt (blk_below HMB.out HQ.out) rfl, cellAt (blk_below HMB.out HQ.out) rfl, cellAt (blk_below HQ0.out HQ.out) rfl, cellAt (blk_below HQ0.out HQ.out) rfl, cellAt (blk_below HQ0.out HQ.out) rfl⟩⟩) | (go_at_call 32; clear MK1; refine (side_row.calls k1 Af cf p.f0 st.sets.length F _ (Kd.C_below HM6.out.2.1 HQ.out) HM6.out.2.2.2.1 HFE.out.1).mono ?_; rintro e w8 ⟨v1, rfl, hr, hb⟩; obtain ⟨B1, b1, eb1⟩ := Kd.R_slice hr; subst eb1; have D01 := Aside0.mk (rows_apart (Kd.R_lt HV0.out) (intR_base hr)); have HV1 := Aside0.mk (Kd.R_lower hr HQ.out.size); clear hr; have HQn := Aside0.mk (HQ.out.trans (hb.mono HQ.out.size)); have HV0n := Aside0.mk (Kd.R_below HV0.out hb); clear HQ HSX hb HV0; have HQ := HQn; clear HQn; have HV0 := HV0n; clear HV0n; have HSX : Aside0 (w8.cell? ⟨w2.heap.size + 1, 0, none⟩ = some (.map (some w2.heap.size)) ∧ w8.cell? ⟨w2.heap.size + 1, 1, none⟩ = some (.slice As st.sets.length cs) ∧ w8.cell? ⟨Q, 0, none⟩ = some (.slice Af p.f0.length cf) ∧ w8.cell? ⟨Q, 1, none⟩ = some (.slice Ae p.f1.length ce) ∧ w8.cell? ⟨Q, 2, none⟩ = some (.int .i64 p.f2)) := ⟨⟨cellAt (blk_below HMB.out HQ.out) rfl, cellAt (blk_below HMB.out HQ.out) rfl, cellAt (blk_below HQ0.out HQ.out) rfl, cellAt (blk_below HQ0.out HQ.out) rfl, cellAt (blk_below HQ0.out HQ.out) rfl⟩⟩) | (go_at_call 32; refine (side_row.calls k1 Ae ce p.f1 st.sets.length E _ (Kd.C_below HM6.out.2.2.1 HQ.out) HM6.out.2.2.2.2.1 HFE.out.2).mono ?_; rintro e w9 ⟨v2, rfl, hr, hb⟩; obtain ⟨B2, b2, eb2⟩ := Kd.R_slice hr; subst eb2; have D02 := Aside0.mk (rows_apart (Kd.R_lt HV0.out) (intR_base hr)); have D12 := Aside0.mk (rows_apart (Kd.R_lt HV1.out) (intR_base hr)); have HV2 := Aside0.mk (Kd.R_lower hr HQ.out.size); clear hr; have HQn := Aside0.mk (HQ.out.trans (hb.mono HQ.out.size)); have HV0n := Aside0.mk (Kd.R_below HV0.out hb); have HV1n := Aside0.mk (Kd.R_below HV1.out hb); clear HQ HSX hb HV0 HV1; have HQ := HQn; clear HQn; have HV0 := HV0n; clear HV0n; have HV1 := HV1n; clear HV1n; have HSX : Aside0 (w9.cell? ⟨w2.heap.size + 1, 0, none⟩ = some (.map (some w2.heap.size)) ∧ w9.cell? ⟨w2.heap.size + 1, 1, none⟩ = some (.slice As st.sets.length cs) ∧ w9.cell? ⟨Q, 0, none⟩ = some (.slice Af p.f0.length cf) ∧ w9.cell? ⟨Q, 1, none⟩ = some (.slice Ae p.f1.length ce) ∧ w9.cell? ⟨Q, 2, none⟩ = some (.int .i64 p.f2)) := ⟨⟨cellAt (blk_below HMB.out HQ.out) rfl, cellAt (blk_below HMB.out HQ.out) rfl, cellAt (blk_below HQ0.out HQ.out) rfl, cellAt (blk_below HQ0.out HQ.out) rfl, cellAt (blk_below HQ0.out HQ.out) rfl⟩⟩) | (go_at_call 33; refine (arcs_calls (w2.heap.size + 1) w2.heap.size st.arcs _ (HSX.out).1 (HM6.out.1.below_ HQ.out).map HN.out.2).mono ?_; rintro e w10 ⟨v3, rfl, hr, hb⟩; obtain ⟨B3, b3, eb3⟩ := Kd.R_slice hr; subst eb3; have D03 := Aside0.mk (rows_apart (Kd.R_lt HV0.out) (fun k hk => (R51_lt hr k hk).1)); have D13 := Aside0.mk (rows_apart (Kd.R_lt HV1.out) (fun k hk => (R51_lt hr k hk).1)); have D23 := Aside0.mk (rows_apart (Kd.R_lt HV2.out) (fun k hk => (R51_lt hr k hk).1)); have HV3 := Aside0.mk (Kd.R_lower hr HQ.out.size); clear hr; have HQn := Aside0.mk (HQ.out.trans (hb.mono HQ.out.size)); have HV0n := Aside0.mk (Kd.R_below HV0.out hb); have HV1n := Aside0.mk (Kd.R_below HV1.out hb); have HV2n := Aside0.mk (Kd.R_below HV2.out hb); clear HQ HSX hb HV0 HV1 HV2; have HQ := HQn; clear HQn; have HV0 := HV0n; clear HV0n; have HV1 := HV1n; clear HV1n; have HV2 := HV2n; clear HV2n; have HSX : Aside0 (w10.cell? ⟨w2.heap.size + 1, 0, none⟩ = some (.map (some w2.heap.size)) ∧ w10.cell? ⟨w2.heap.size + 1, 1, none⟩ = some (.slice As st.sets.length cs) ∧ w10.cell? ⟨Q, 0, none⟩ = some (.slice Af p.f0.length cf) ∧ w10.cell? ⟨Q, 1, none⟩ = some (.slice Ae p.f1.length ce) ∧ w10.cell? ⟨Q, 2, none⟩ = some (.int .i64 p.f2)) := ⟨⟨cellAt (blk_below HMB.out HQ.out) rfl, cellAt (blk_below HMB.out HQ.out) rfl, cellAt (blk_below HQ0.out HQ.out) rfl, cellAt (blk_below HQ0.out HQ.out) rfl, cellAt (blk_below HQ0.out HQ.out) rfl⟩⟩; have hRT := blk_below HRT.out HQ.out; have k0 := cellAt (i := 0) (u := .slice none 0 0) hRT rfl; have n0 := blk_frozen hRT 0; have k1 := cellAt (i := 1) (u := .slice none 0 0) hRT rfl; have n1 := blk_frozen hRT 1; have k2 := cellAt (i := 2) (u := .slice none 0 0) hRT rfl; have n2 := blk_frozen hRT 2; have k3 := cellAt (i := 3) (u := .slice none 0 0) hRT rfl; have n3 := blk_frozen hRT 3; have k4 := cellAt (i := 4) (u := .int .i64 0) hRT rfl; have n4 := blk_frozen hRT 4; clear hRT))
 have hP := blk_put (blk_put (blk_put (blk_put (blk_put (blk_below HRT.out HQ.out) 0 (.slice B0 st.sets.length b0) (cs' := #[.slice B0 st.sets.length b0, .slice none 0 0, .slice none 0 0, .slice none 0 0, .int .i64 0]) rfl) 1 (.slice B1 F.length b1) (cs' := #[.slice B0 st.sets.length b0, .slice B1 F.length b1, .slice none 0 0, .slice none 0 0, .int .i64 0]) rfl) 2 (.slice B2 E.length b2) (cs' := #[.slice B0 st.sets.length b0, .slice B1 F.length b1, .slice B2 E.length b2, .slice none 0 0, .int .i64 0]) rfl) 3 (.slice B3 st.arcs.length b3) (cs' := #[.slice B0 st.sets.length b0, .slice B1 F.length b1, .slice B2 E.length b2, .slice B3 st.arcs.length b3, .int .i64 0]) rfl) 4 (.int .i64 p.f2) (cs' := #[.slice B0 st.sets.length b0, .slice B1 F.length b1, .slice B2 E.length b2, .slice B3 st.arcs.length b3, .int .i64 p.f2]) rfl
 have hG := set5_grown w10 (w.heap.size + 1 + 1) (.slice B0 st.sets.length b0) (.slice B1 F.length b1) (.slice B2 E.length b2) (.slice B3 st.arcs.length b3) (.int .i64 p.f2)
 have r0 := cellAt (i := 0) (u := .slice B0 st.sets.length b0) hP rfl
 have r1 := cellAt (i := 1) (u := .slice B1 F.length b1) hP rfl
 have r2 := cellAt (i := 2) (u := .slice B2 E.length b2) hP rfl
 have r3 := cellAt (i := 3) (u := .slice B3 st.arcs.length b3) hP rfl
 have r4 := cellAt (i := 4) (u := .int .i64 p.f2) hP rfl
 generalize (((((w10.setCell ⟨w.heap.size + 1 + 1, 0, none⟩ (.slice B0 st.sets.length b0)).setCell ⟨w.heap.size + 1 + 1, 1, none⟩ (.slice B1 F.length b1)).setCell ⟨w.heap.size + 1 + 1, 2, none⟩ (.slice B2 E.length b2)).setCell ⟨w.heap.size + 1 + 1, 3, none⟩ (.slice B3 st.arcs.length b3)).setCell ⟨w.heap.size + 1 + 1, 4, none⟩ (.int .i64 p.f2)) = W11 at hP hG r0 r1 r2 r3 r4 ⊢
 clear k0 k1 k2 k3 k4 n0 n1 n2 n3 n4
 have HG := Aside0.mk hG
 have HPX := Aside0.mk hP
 clear hG hP r0 r1 r2 r3 r4
 go_wp2
 refine bodyPost_ret (results_ct rfl _ _ (w.heap.size + 1 + 1) 39 #[.slice B0 st.sets.length b0, .slice B1 F.length b1, .slice B2 E.length b2, .slice B3 st.arcs.length b3, .int .i64 p.f2] (0, 0) _ (by rfl) HPX.out Try.underlying39 rfl (by kernel_rfl)) rfl ?_
 have hT : ∀ k, W6_.heap.size ≤ k → k < w10.heap.size → W11.heap[k]? = w10.heap[k]? := fun k h1 h2 => HG.out.block k h2 (fun e => by injection e with e; have := blk_lt HRT.out; omega)
 have hb6 : w.heap.size ≤ W6_.heap.size := by have := blk_lt HRT.out; omega
 refine ⟨_, _, _, _, rfl, Kd.R_lower (intR_to HV0.out (fun k hk => hT k (intR_base HV0.out k hk) (intR_lt HV0.out k hk)) (fun _ _ => trivial)) hb6, Kd.R_lower (intR_to HV1.out (fun k hk => hT k (intR_base HV1.out k hk) (intR_lt HV1.out k hk)) (fun _ _ => trivial)) hb6, Kd.R_lower (intR_to HV2.out (fun k hk => hT k (intR_base HV2.out k hk) (intR_lt HV2.out k hk)) (fun _ _ => trivial)) hb6, Kd.R_lower (R51_to HV3.out (fun k hk => hT k (R51_lt HV3.out k hk).1 (R51_lt HV3.out k hk).2) (fun _ _ => trivial)) hb6, ?_⟩
 have hbm := HM6.out.1.below.trans (HQ.out.mono hb6)
 exact ⟨hbm.grown HG.out hbm.size (fun j hj => by injection hj with hj; omega), ⟨D01.out, D02.out, D03.out, D12.out, D13.out, D23.out⟩⟩
set_option maxRecDepth 100000 in
set_option maxHeartbeats 8000000 in
theorem Make_not (kz : Nat) (x : S33) (A5 : Option Addr) (c5 : Nat) (Ad : Option Addr) (nd cd : Nat) (Ar : Option Addr) (nr cr : Nat) (z : Int) (w : World)
  (h5 : Kd.C k33 w A5 x.f5.length x.f5) (hc5 : x.f5.length ≤ c5) (hz : szF kz x = some z) (hz1 : 120 < z) :
  Calls Try.prog 14 #[.agg #[.int .i64 x.f0, .int .i64 x.f1, .int .i64 x.f2, .int .i64 x.f3, .string x.f4, .slice A5 x.f5.length c5], .agg #[.slice Ad nd cd, .slice Ar nr cr]] w fun e w' => e = .returned (.tuple #[.agg #[.slice none 0 0, .slice none 0 0, .slice none 0 0, .slice none 0 0, .int .i64 0], .bool false]) ∧ Below w.heap.size w w' := by
 obtain ⟨W1, hWW⟩ : ∃ W1, ((w.alloc (.cells #[.int .i64 x.f0, .int .i64 x.f1, .int .i64 x.f2, .int .i64 x.f3, .string x.f4, .slice A5 x.f5.length c5] 33)).alloc (.cells #[.slice Ad nd cd, .slice Ar nr cr] 30)).alloc (.cells #[.slice none 0 0, .slice none 0 0, .slice none 0 0, .slice none 0 0, .int .i64 0] 39) = W1 := ⟨_, rfl⟩
 have hW1 := below_alloc (below_alloc (below_alloc (Below.refl w.heap.size w) (.cells #[.int .i64 x.f0, .int .i64 x.f1, .int .i64 x.f2, .int .i64 x.f3, .string x.f4, .slice A5 x.f5.length c5] 33)) (.cells #[.slice Ad nd cd, .slice Ar nr cr] 30)) (.cells #[.slice none 0 0, .slice none 0 0, .slice none 0 0, .slice none 0 0, .int .i64 0] 39)
 have hx0 : W1.heap[w.heap.size]? = some (.cells #[.int .i64 x.f0, .int .i64 x.f1, .int .i64 x.f2, .int .i64 x.f3, .string x.f4, .slice A5 x.f5.length c5] 33 (0, 0)) := by rw [← hWW]; exact blk_alloc (blk_alloc (heap_alloc_new w _) _) _
 have hr0 : W1.heap[w.heap.size + 2]? = some (.cells #[.slice none 0 0, .slice none 0 0, .slice none 0 0, .slice none 0 0, .int .i64 0] 39 (0, 0)) := by
  have h := heap_alloc_new ((w.alloc (.cells #[.int .i64 x.f0, .int .i64 x.f1, .int .i64 x.f2, .int .i64 x.f3, .string x.f4, .slice A5 x.f5.length c5] 33)).alloc (.cells #[.slice Ad nd cd, .slice Ar nr cr] 30)) (.cells #[.slice none 0 0, .slice none 0 0, .slice none 0 0, .slice none 0 0, .int .i64 0] 39)
  rwa [hWW, show ((w.alloc (.cells #[.int .i64 x.f0, .int .i64 x.f1, .int .i64 x.f2, .int .i64 x.f3, .string x.f4, .slice A5 x.f5.length c5] 33)).alloc (.cells #[.slice Ad nd cd, .slice Ar nr cr] 30)).heap.size = w.heap.size + 2 from by simp] at h
 rw [hWW] at hW1
 have HB1 := Aside0.mk hW1
 have HR0 := Aside0.mk hr0
 have HC := Aside0.mk (And.intro (Kd.C_below h5 hW1) hc5)
 have HZ := Aside0.mk hz
 have c1 : decide (120 < z) = true := decide_eq_true (by omega)
 have d0 := cellAt (i := 0) (u := .int .i64 x.f0) hx0 rfl
 have d1 := cellAt (i := 1) (u := .int .i64 x.f1) hx0 rfl
 have d2 := cellAt (i := 2) (u := .int .i64 x.f2) hx0 rfl
 have d3 := cellAt (i := 3) (u := .int .i64 x.f3) hx0 rfl
 have d4 := cellAt (i := 4) (u := .string x.f4) hx0 rfl
 have d5 := cellAt (i := 5) (u := .slice A5 x.f5.length c5) hx0 rfl
 clear h5 hc5 hz hW1 hx0 hr0
 go_enter Try.func14, Try.ntmps14
 go_wp2_with (go_at_call 17; refine (side_Size.calls kz x.f0 x.f1 x.f2 x.f3 x.f4 A5 c5 x.f5 z _ HC.out.1 HC.out.2 HZ.out).mono ?_; rintro e w2 ⟨rfl, hb2⟩; have HB2 := Aside0.mk hb2; have hRT := blk_below HR0.out HB2.out; have k0 := cellAt (i := 0) (u := .slice none 0 0) hRT rfl; have k1 := cellAt (i := 1) (u := .slice none 0 0) hRT rfl; have k2 := cellAt (i := 2) (u := .slice none 0 0) hRT rfl; have k3 := cellAt (i := 3) (u := .slice none 0 0) hRT rfl; have k4 := cellAt (i := 4) (u := .int .i64 0) hRT rfl; have n0 := blk_frozen hRT 0; have n1 := blk_frozen hRT 1; have n2 := blk_frozen hRT 2; have n3 := blk_frozen hRT 3; have n4 := blk_frozen hRT 4; clear hRT hb2)
 have hP := blk_put (blk_put (blk_put (blk_put (blk_put (blk_below HR0.out HB2.out) 0 (.slice none 0 0) (cs' := #[.slice none 0 0, .slice none 0 0, .slice none 0 0, .slice none 0 0, .int .i64 0]) rfl) 1 (.slice none 0 0) (cs' := #[.slice none 0 0, .slice none 0 0, .slice none 0 0, .slice none 0 0, .int .i64 0]) rfl) 2 (.slice none 0 0) (cs' := #[.slice none 0 0, .slice none 0 0, .slice none 0 0, .slice none 0 0, .int .i64 0]) rfl) 3 (.slice none 0 0) (cs' := #[.slice none 0 0, .slice none 0 0, .slice none 0 0, .slice none 0 0, .int .i64 0]) rfl) 4 (.int .i64 0) (cs' := #[.slice none 0 0, .slice none 0 0, .slice none 0 0, .slice none 0 0, .int .i64 0]) rfl
 refine bodyPost_ret (results_ct rfl _ _ (w.heap.size + 1 + 1) 39 #[.slice none 0 0, .slice none 0 0, .slice none 0 0, .slice none 0 0, .int .i64 0] (0, 0) _ (by rfl) hP Try.underlying39 rfl (by kernel_rfl)) rfl ?_
 have hb := HB1.out.trans (HB2.out.mono HB1.out.size)
 exact ⟨rfl, hb.grown (set5_grown w2 (w.heap.size + 1 + 1) _ _ _ _ _) hb.size (fun j hj => by injection hj with hj; omega)⟩
end Go.Proofs.Ytnnpfgpfkningaa.P
namespace Go.Proofs.Ytnnpfgpfkningaa.P
open Go.RowKit Go.Proofs.YtnnpfgpfkningaaW.PrintWords Go.Proofs.YtnnpfgpfkningaaW.PrintLast Go.Proofs.YtnnpfgpfkningaaW.PrintMore
attribute [local go_sem] max2_int min2_int max_two min_two max_three min_three max_four min_four   -- for this text's walks alone
attribute [local go_sem ↓ high] Go.Proofs.YtnnpfgpfkningaaX.isSome_setCell
set_option linter.unusedVariables false
set_option linter.unusedSimpArgs false
end Go.Proofs.Ytnnpfgpfkningaa.P
namespace Go.Proofs.Ytnnpfgpfkningaa.P
open Go.RowKit Go.Proofs.YtnnpfgpfkningaaW.PrintWords Go.Proofs.YtnnpfgpfkningaaW.PrintLast Go.Proofs.YtnnpfgpfkningaaW.PrintMore
attribute [local go_sem] max2_int min2_int max_two min_two max_three min_three max_four min_four   -- for this text's walks alone
attribute [local go_sem ↓ high] Go.Proofs.YtnnpfgpfkningaaX.isSome_setCell
set_option linter.unusedVariables false
set_option linter.unusedSimpArgs false
/-- side.Make as the print names it. -/
def side_MakeP.f (k : Nat) (a0 a1 a2 a3 : Int) (a4 : ByteArray) (l5 : List S33) (defs : List S61) (_l1 : List S174) : Option (List Int × List Int × List Int × (List S51) × Int × Bool) :=
  (side_Size.f k a0 a1 a2 a3 a4 l5).bind fun z => if 120 < z then some ([], [], [], [], 0, false) else (mkF defs (szF k) k ⟨a0, a1, a2, a3, a4, l5⟩ ⟨[], []⟩).bind fun q =>
    if okP q.1 = true ∧ q.2.sets.length < 1000000 ∧ q.2.arcs.length < 1000000 then (side_row.f k q.1.f0 (q.2.sets.length : Int)).bind fun F => (side_row.f k q.1.f1 (q.2.sets.length : Int)).bind fun E => some (q.2.sets, F, E, q.2.arcs, q.1.f2, true) else none
theorem side_MakeP.calls (k : Nat) (a0 a1 a2 a3 : Int) (a4 : ByteArray) (A5 : Option Addr) (c5 : Nat) (l5 : List S33) (Ad : Option Addr) (cd : Nat) (defs : List S61) (Ar : Option Addr) (cr : Nat) (rs : List S174) (r1 r2 r3 : List Int) (r4 : List S51) (r5 : Int) (r6 : Bool) (w : World)
    (h5 : Kd.C k33 w A5 l5.length l5) (hc5 : l5.length ≤ c5) (hd : Kd.C k61 w Ad defs.length defs) (hcd : defs.length ≤ cd) (_ : Kd.C k174 w Ar rs.length rs) (_ : rs.length ≤ cr) (h : side_MakeP.f k a0 a1 a2 a3 a4 l5 defs rs = some (r1, r2, r3, r4, r5, r6)) :
    Calls Try.prog 14 #[.agg #[.int .i64 a0, .int .i64 a1, .int .i64 a2, .int .i64 a3, .string a4, .slice A5 l5.length c5], .agg #[.slice Ad defs.length cd, .slice Ar rs.length cr]] w fun e w' => ∃ v0_ v1_ v2_ v3_ : Value, e = .returned (.tuple #[.agg #[v0_, v1_, v2_, v3_, .int .i64 r5], .bool r6]) ∧
      Kd.R (Kd.int .i64) 3 w' w.heap.size (fun k_ => some k_ ≠ (v1_ : Value).ownBlock ∧ some k_ ≠ (v2_ : Value).ownBlock) v0_ r1 ∧ Kd.R (Kd.int .i64) 3 w' w.heap.size (fun k_ => some k_ ≠ (v0_ : Value).ownBlock ∧ some k_ ≠ (v2_ : Value).ownBlock) v1_ r2 ∧ Kd.R (Kd.int .i64) 3 w' w.heap.size (fun k_ => some k_ ≠ (v0_ : Value).ownBlock ∧ some k_ ≠ (v1_ : Value).ownBlock) v2_ r3 ∧ Kd.R k51 51 w' w.heap.size (fun _ => True) v3_ r4 ∧ Below w.heap.size w w' := by
  unfold side_MakeP.f at h
  obtain ⟨z, hz, h⟩ := Option.bind_eq_some_iff.1 h
  by_cases h1 : 120 < z
  · rw [if_pos h1] at h
    obtain ⟨rfl, rfl, rfl, rfl, rfl, rfl⟩ : [] = r1 ∧ [] = r2 ∧ [] = r3 ∧ [] = r4 ∧ 0 = r5 ∧ false = r6 := by simpa using h
    refine (Make_not k ⟨a0, a1, a2, a3, a4, l5⟩ A5 c5 Ad defs.length cd Ar rs.length cr z w h5 hc5 hz h1).mono ?_
    rintro e w' ⟨rfl, hb⟩
    exact ⟨_, _, _, _, rfl, Kd.R_nil _ _ _ _ _, Kd.R_nil _ _ _ _ _, Kd.R_nil _ _ _ _ _, Kd.R_nil _ _ _ _ _, hb⟩
  · rw [if_neg h1] at h
    obtain ⟨⟨p, st⟩, hq, h⟩ := Option.bind_eq_some_iff.1 h
    simp only at h
    by_cases ok : okP p = true ∧ st.sets.length < 1000000 ∧ st.arcs.length < 1000000
    case neg => rw [if_neg ok] at h; cases h
    rw [if_pos ok] at h
    obtain ⟨F, hF, h⟩ := Option.bind_eq_some_iff.1 h
    obtain ⟨E, hE, h⟩ := Option.bind_eq_some_iff.1 h
    obtain ⟨rfl, rfl, rfl, rfl, rfl, rfl⟩ : st.sets = r1 ∧ F = r2 ∧ E = r3 ∧ st.arcs = r4 ∧ p.f2 = r5 ∧ true = r6 := by simpa using h
    refine (Make_calls k k k defs ⟨a0, a1, a2, a3, a4, l5⟩ A5 c5 Ad cd Ar rs.length cr z p st F E w h5 hc5 hd hcd hz (by omega) hq ok.1 ok.2.1 ok.2.2 hF hE).mono ?_
    rintro e w' ⟨v0, v1, v2, v3, rfl, q0, q1, q2, q3, hb, ap⟩
    refine ⟨v0, v1, v2, v3, rfl, intR_ok q0 (fun k hk => ⟨ap.d01 k hk, ap.d02 k hk⟩), intR_ok q1 (fun k hk => ⟨fun e => ap.d01 k e.symm hk.symm, ap.d12 k hk⟩), intR_ok q2 (fun k hk => ⟨fun e => ap.d02 k e.symm hk.symm, fun e => ap.d12 k e.symm hk.symm⟩), q3, hb⟩
end Go.Proofs.Ytnnpfgpfkningaa.P
namespace Go.Proofs.Ytnnpfgpfkningaa.P
open Go.RowKit Go.Proofs.YtnnpfgpfkningaaW.PrintWords Go.Proofs.YtnnpfgpfkningaaW.PrintLast Go.Proofs.YtnnpfgpfkningaaW.PrintMore
attribute [local go_sem] max2_int min2_int max_two min_two max_three min_three max_four min_four   -- for this text's walks alone
attribute [local go_sem ↓ high] Go.Proofs.YtnnpfgpfkningaaX.isSome_setCell
set_option linter.unusedVariables false
set_option linter.unusedSimpArgs false
def knX : List S33 := [⟨3, 0, 0, 0, ⟨#[]⟩, []⟩, ⟨2, 0, 0, 0, ⟨#[118]⟩, []⟩]
def knSet : List Int := [-1, 1]
def knFst : List Int := [0, 1152921504606846976]
theorem text_C {W : World} {g : Nat} {a b : Int} (h : W.heap[g]? = some (.cells #[.int .i64 a, .int .i64 b] 3 (0, 0))) : Kd.C (Kd.int .i64) W (some ⟨g, 0, none⟩) [a, b].length [a, b] :=
 (Kd.R_reads' (intR_mk (e := 3) (base := 0) (cap := 2) (ok := fun _ => True) (l := [a, b]) trivial (Nat.zero_le _) h (by simp) (by decide) (by simp) (by rfl))).2.2
set_option maxRecDepth 100000 in
set_option maxHeartbeats 8000000 in
theorem known_calls (km kz kc : Nat) (r3 : List Int) (x4 : S51) (hM : side_MakeP.f km 4 0 0 0 ⟨#[]⟩ knX knD [] = some (knSet, knFst, r3, [x4], 1152921504606846976, true)) (hz : side_Size.f kz 1 0 0 0 ⟨#[]⟩ [] = some 0) (hc : costF kc knSet knFst r3 [x4] 1152921504606846976 knD [] [120, 97] 0 2 = some 0) (w : World) :
  Calls Try.prog 10 #[] w fun e w' => e = .returned (.bool true) ∧ Below w.heap.size w w' := by
 have HM := Aside0.mk hM
 have HZ := Aside0.mk hz
 have HC := Aside0.mk hc
 clear hM hz hc
 go_enter Try.func10, Try.ntmps10
 go_wp2_with (first | (go_at_call 12; refine (defs_nil _).mono ?_; rintro e w2 ⟨Ad, cd, rfl, hn, hb⟩; have HN := Aside0.mk hn; have HB2 := Aside0.mk hb; clear hn hb) | (go_at_call 14; obtain ⟨Wm, hWm⟩ : ∃ Wm, World.alloc (World.alloc w2 (.cells #[.slice Ad knD.length cd, .slice none 0 0] 30)) (.cells #[.int .i64 3, .int .i64 0, .int .i64 0, .int .i64 0, .string ⟨#[]⟩, .slice none 0 0, .int .i64 2, .int .i64 0, .int .i64 0, .int .i64 0, .string ⟨#[118]⟩, .slice none 0 0] 33) = Wm := ⟨_, rfl⟩; rw [hWm]; have hbm : Below w2.heap.size w2 Wm := hWm ▸ below_alloc (below_alloc (Below.refl _ _) _) _; have hfm : Wm.heap[w2.heap.size]? = some (.cells #[.slice Ad knD.length cd, .slice none 0 0] 30 (0, 0)) := hWm ▸ blk_alloc (heap_alloc_new w2 _) _; have hlm := heap_alloc_new (World.alloc w2 (.cells #[.slice Ad knD.length cd, .slice none 0 0] 30)) (.cells #[.int .i64 3, .int .i64 0, .int .i64 0, .int .i64 0, .string ⟨#[]⟩, .slice none 0 0, .int .i64 2, .int .i64 0, .int .i64 0, .int .i64 0, .string ⟨#[118]⟩, .slice none 0 0] 33); rw [hWm, size_alloc] at hlm; have HBM := Aside0.mk hbm; have HFM := Aside0.mk hfm; refine (side_MakeP.calls km 4 0 0 0 ⟨#[]⟩ (some ⟨w2.heap.size + 1, 0, none⟩) 2 knX Ad cd knD none 0 [] knSet knFst r3 [x4] 1152921504606846976 true Wm (lit2_C (x := ⟨3, 0, 0, 0, ⟨#[]⟩, []⟩) (y := ⟨2, 0, 0, 0, ⟨#[118]⟩, []⟩) hlm (Nat.le_refl _) (Kd.C_nil _ _) (Nat.le_refl _) (Kd.C_nil _ _)) (Nat.le_refl _) (Kd.C_below HN.out.2 hbm) HN.out.1 (Kd.C_nil _ _) (Nat.le_refl _) HM.out).mono ?_; clear hWm hbm hfm hlm; rintro e w3 ⟨v0, v1, v2, v3, rfl, q0, q1, q2, q3, hb3⟩; obtain ⟨g0, cp0, rfl, _, _, _⟩ := Kd.R_form q0 (by decide); obtain ⟨g1, cp1, rfl, _, _, _⟩ := Kd.R_form q1 (by decide); obtain ⟨A2, c2, rfl⟩ := Kd.R_slice q2; obtain ⟨A3, c3, rfl⟩ := Kd.R_slice q3; have HQ0 := Aside0.mk q0; have HQ1 := Aside0.mk q1; have HQ2 := Aside0.mk q2; have HQ3 := Aside0.mk q3; have HB3 := Aside0.mk hb3; clear q0 q1 q2 q3 hb3) | (go_at_call 17; refine (side_Size.calls kz 1 0 0 0 ⟨#[]⟩ none 0 [] 0 _ (Kd.C_nil _ _) (Nat.le_refl _) HZ.out).mono ?_; rintro e w5 ⟨rfl, hb5⟩; have hs5 := blk_below (heap_alloc_new w3 (.cells #[.slice (some ⟨g0, 0, none⟩) knSet.length cp0, .slice (some ⟨g1, 0, none⟩) knFst.length cp1, .slice A2 r3.length c2, .slice A3 [x4].length c3, .int .i64 1152921504606846976] 39)) hb5; have hbs : Below w3.heap.size w3 w5 := below_step (below_alloc (Below.refl _ _) _) hb5; have hf5 := blk_below (blk_below HFM.out HB3.out) hbs; have d0 := cellAt (i := 0) (u := .slice (some ⟨g0, 0, none⟩) knSet.length cp0) hs5 rfl; have d1 := cellAt (i := 1) (u := .slice (some ⟨g1, 0, none⟩) knFst.length cp1) hs5 rfl; have d2 := cellAt (i := 2) (u := .slice A2 r3.length c2) hs5 rfl; have d3 := cellAt (i := 3) (u := .slice A3 [x4].length c3) hs5 rfl; have d4 := cellAt (i := 4) (u := .int .i64 1152921504606846976) hs5 rfl; have f0 := cellAt (i := 0) (u := .slice Ad knD.length cd) hf5 rfl; have f1 := cellAt (i := 1) (u := .slice none 0 0) hf5 rfl; have a0 : w5.cell? ⟨g0, 0, none⟩ = some (.int .i64 (-1)) := (Kd.R_celln 0 (Kd.R_below HQ0.out hbs) 0 (by decide) (by decide)).1; have a1 : w5.cell? ⟨g0, 1, none⟩ = some (.int .i64 1) := (Kd.R_celln 0 (Kd.R_below HQ0.out hbs) 1 (by decide) (by decide)).1; have b0 : w5.cell? ⟨g1, 0, none⟩ = some (.int .i64 0) := (Kd.R_celln 0 (Kd.R_below HQ1.out hbs) 0 (by decide) (by decide)).1; have b1 : w5.cell? ⟨g1, 1, none⟩ = some (.int .i64 1152921504606846976) := (Kd.R_celln 0 (Kd.R_below HQ1.out hbs) 1 (by decide) (by decide)).1; have HBS := Aside0.mk hbs; clear hb5 hs5 hf5 hbs; have hl2 : [x4].length = 1 := rfl; have hl0 : knSet.length = 2 := rfl; have hl1 : knFst.length = 2 := rfl) | (go_at_call 23; have hbt : Below w5.heap.size w5 (World.alloc w5 (.cells #[.int .i64 120, .int .i64 97] 3)) := below_alloc (Below.refl _ _) _; have hbu := below_step HBS.out hbt; refine (cost_calls kc (some ⟨g0, 0, none⟩) cp0 knSet (some ⟨g1, 0, none⟩) cp1 knFst A2 c2 r3 A3 c3 [x4] 1152921504606846976 Ad cd knD none 0 [] (some ⟨w5.heap.size, 0, none⟩) 2 [120, 97] 0 2 0 _ (Kd.C_below (Kd.R_reads' HQ0.out).2.2 hbu) (Kd.R_reads' HQ0.out).2.1 (Kd.C_below (Kd.R_reads' HQ1.out).2.2 hbu) (Kd.R_reads' HQ1.out).2.1 (Kd.C_below (Kd.R_reads' HQ2.out).2.2 hbu) (Kd.R_reads' HQ2.out).2.1 (Kd.C_below (Kd.R_reads' HQ3.out).2.2 hbu) (Kd.R_reads' HQ3.out).2.1 (Kd.C_below (Kd.C_below (Kd.C_below HN.out.2 HBM.out) HB3.out) hbu) HN.out.1 (Kd.C_nil _ _) (Nat.le_refl _) (text_C (heap_alloc_new w5 _)) (Nat.le_refl _) HC.out).mono ?_; rintro e w6 ⟨rfl, hb6⟩; have HE := Aside0.mk (below_step (below_step (below_step (below_step HB2.out HBM.out) HB3.out) hbu) hb6); clear hbt hbu hb6))
 go_ret
 exact ⟨rfl, HE.out⟩
end Go.Proofs.Ytnnpfgpfkningaa.P
namespace Go.Proofs.Ytnnpfgpfkningaa.P
open Go.RowKit Go.Proofs.YtnnpfgpfkningaaW.PrintWords Go.Proofs.YtnnpfgpfkningaaW.PrintLast Go.Proofs.YtnnpfgpfkningaaW.PrintMore
attribute [local go_sem] max2_int min2_int max_two min_two max_three min_three max_four min_four   -- for this text's walks alone
attribute [local go_sem ↓ high] Go.Proofs.YtnnpfgpfkningaaX.isSome_setCell
set_option linter.unusedVariables false
set_option linter.unusedSimpArgs false
def insR (a : S111) : List S111 → List S111
  | [] => [a]
  | b :: t => if rangeLe a b = true then a :: b :: t else b :: insR a t
def sortR : List S111 → List S111
  | [] => []
  | a :: t => insR a (sortR t)
theorem insR_perm (a : S111) : ∀ l, (insR a l).Perm (a :: l)
  | [] => .refl _
  | b :: t => by
    unfold insR; split
    · exact .refl _
    · exact ((insR_perm a t).cons b).trans (.swap a b t)
theorem sortR_perm : ∀ l, (sortR l).Perm l
  | [] => .refl _
  | a :: t => (insR_perm a _).trans ((sortR_perm t).cons a)
theorem insR_sorted (a : S111) : ∀ l, l.Pairwise (fun x y => rangeLe x y = true) → (insR a l).Pairwise (fun x y => rangeLe x y = true)
  | [], _ => by simp [insR]
  | b :: t, h => by
    unfold insR
    have h1 := List.pairwise_cons.1 h
    split
    · rename_i hab
      exact List.pairwise_cons.2 ⟨fun x hx => by
        rcases List.mem_cons.1 hx with rfl | hx
        · exact hab
        · have := h1.1 x hx; simp [rangeLe] at *; omega, h⟩
    · rename_i hab
      refine List.pairwise_cons.2 ⟨fun x hx => ?_, insR_sorted a t h1.2⟩
      rcases List.mem_cons.1 ((insR_perm a t).mem_iff.1 hx) with rfl | hx
      · simp [rangeLe] at *; omega
      · exact h1.1 x hx
theorem sortR_sorted : ∀ l, (sortR l).Pairwise (fun x y => rangeLe x y = true)
  | [] => .nil
  | a :: t => insR_sorted a _ (sortR_sorted t)
theorem sort_twin (l : List S111) : l.mergeSort rangeLe = sortR l := by
  have hs := List.pairwise_mergeSort (le := rangeLe) (fun a b c h1 h2 => by simp [rangeLe] at *; omega) (fun a b => by simp [rangeLe]; omega) l
  refine List.Perm.eq_of_pairwise (le := fun x y => rangeLe x y = true) ?_ hs (sortR_sorted l) ((List.mergeSort_perm l rangeLe).trans (sortR_perm l).symm)
  intro a b _ _ h1 h2
  cases a; cases b
  simp [rangeLe] at *
  omega
def normC (k : Nat) (l : List S111) : Option (List S111) := (Clone_Range.f l).bind fun t => (if t.length < 4611686018427387904 then some (sortR t) else none).bind fun s => set_Norm.l0 k [] s (t.length : Int) 0
theorem norm_twin (k : Nat) (l : List S111) : set_Norm.f k l = normC k l := by
  unfold set_Norm.f normC SortFunc_Range.f; simp only [sort_twin]
def notC (k : Nat) (l : List S111) : Option (List S111) := (normC k l).bind fun t => set_Not.l0 k [] 0 t (t.length : Int) 0
theorem not_twin (k : Nat) (l : List S111) : set_Not.f k l = notC k l := by unfold set_Not.f notC; rw [norm_twin]
def orC (k : Nat) (l : List (List S111)) : Option (List S111) := (Concat_Range.f l).bind fun t => (normC k t).bind fun s => some s
theorem or_twin (k : Nat) (l : List (List S111)) : set_Or.f k l = orC k l := by unfold set_Or.f orC; simp only [norm_twin]
def andC (k : Nat) (a b : List S111) : Option (List S111) := (notC k a).bind fun x => (notC k b).bind fun y => (orC k [x, y]).bind fun z => (notC k z).bind fun r => some r
theorem and_twin (k : Nat) (a b : List S111) : set_And.f k a b = andC k a b := by unfold set_And.f andC; simp only [not_twin, or_twin]
def lessC (k : Nat) (a b : List S111) : Option (List S111) := (notC k b).bind fun x => (andC k a x).bind fun y => some y
theorem less_twin (k : Nat) (a b : List S111) : set_Less.f k a b = lessC k a b := by unfold set_Less.f lessC; simp only [not_twin, and_twin]
def ofC (k : Nat) (m : List (List UInt8 × List S111)) : Nat → S58 → Option (List S111)
  | 0, _ => none
  | n + 1, c =>
    if c.f0 = 1 then normC k [⟨c.f1, c.f2⟩]
    else if c.f0 = 2 then if c.f3.size < 1000000 then Clone_Range.f (lkS m c.f3.data.toList) else none
    else if c.f0 = 3 then notC k []
    else if c.f0 = 4 then (ofC k m n (cpart c 0)).bind fun a => notC k a
    else if c.f0 = 5 then (ofC k m n (cpart c 0)).bind fun a => (ofC k m n (cpart c 1)).bind fun b => orC k [a, b]
    else if c.f0 = 6 then (ofC k m n (cpart c 0)).bind fun a => (ofC k m n (cpart c 1)).bind fun b => andC k a b
    else if c.f0 = 7 then (ofC k m n (cpart c 0)).bind fun a => (ofC k m n (cpart c 1)).bind fun b => lessC k a b
    else some []
theorem of_twin (k : Nat) (m : List (List UInt8 × List S111)) : ∀ n c, ofF k m n c = ofC k m n c
  | 0, _ => rfl
  | n + 1, c => by
    have ih := of_twin k m n
    unfold ofF ofC; simp only [ih, norm_twin, not_twin, or_twin, and_twin, less_twin]
def stsQ (k n : Nat) : List S61 → List (List UInt8 × List S111) → List (List S111) → Option (List (List S111))
  | [], _, out => some out
  | d :: ds, m, out => if d.f0.size < 1000000 ∧ m.length < 1000 ∧ out.length < 1000 then (ofC k m n d.f1).bind fun l => (Clone_Range.f l).bind fun l2 => stsQ k n ds (if hasS m d.f0.data.toList = true then m else m ++ [(d.f0.data.toList, l)]) (out ++ [l2]) else none
theorem sets_twin (k n : Nat) : ∀ ds m out, setsL k n ds m out = stsQ k n ds m out
  | [], _, _ => rfl
  | d :: ds, m, out => by
    unfold setsL stsQ; simp only [of_twin, sets_twin k n ds]
def setsPC (k : Nat) (defs : List S61) : Option (List (List S111)) := (stsQ k k defs [] []).bind fun out => Clone_rows.f out
theorem setsP_twin (k : Nat) (defs : List S61) (l1 : List S174) : syn_SetsP.f k defs l1 = setsPC k defs := by
  unfold syn_SetsP.f syn_Sets.f setsPC; rw [sets_twin]
def knX4 : S51 := ⟨0, 1, 0⟩
def knE : List Int := [1152921504606846976, 0]
def knSS : List (List S111) := (setsPC 40 knD).getD []
theorem knM_ok : side_MakeP.f 40 4 0 0 0 ⟨#[]⟩ knX knD [] = some (knSet, knFst, knE, [knX4], 1152921504606846976, true) := by kernel_rfl
theorem knZ_ok : side_Size.f 4 1 0 0 0 ⟨#[]⟩ [] = some 0 := by kernel_rfl
theorem knS_ok : setsPC 40 knD = some knSS := by kernel_rfl
theorem knT_ok : (costT 40 (fun j c => side_of.f knSet knFst knE [knX4] 1152921504606846976 knSS j c) knSet knFst [knX4] [120, 97] 0 []) = some [1152921504606846976, 0] := by kernel_rfl
theorem knL_ok : costL knE [1152921504606846976, 0] 0 1152921504606846976 = some 0 := by kernel_rfl
theorem knC_ok : costF 40 knSet knFst knE [knX4] 1152921504606846976 knD [] [120, 97] 0 2 = some 0 := by
  unfold costF
  rw [if_pos (by decide), if_neg (by decide), setsP_twin, knS_ok, Option.bind_some]
  show ((costT 40 (fun j c => side_of.f knSet knFst knE [knX4] 1152921504606846976 knSS j c) knSet knFst [knX4] [120, 97] 0 []).bind _) = _
  rw [knT_ok, Option.bind_some, if_pos (by decide)]
  exact knL_ok
theorem known_ok (w : World) : Calls Try.prog 10 #[] w fun e w' => e = .returned (.bool true) ∧ Below w.heap.size w w' := known_calls 40 4 40 knE knX4 knM_ok knZ_ok knC_ok w
end Go.Proofs.Ytnnpfgpfkningaa.P
namespace Go.Proofs.Ytnnpfgpfkningaa.P
open Go.RowKit Go.Proofs.YtnnpfgpfkningaaW.PrintWords Go.Proofs.YtnnpfgpfkningaaW.PrintLast Go.Proofs.YtnnpfgpfkningaaW.PrintMore
attribute [local go_sem] max2_int min2_int max_two min_two max_three min_three max_four min_four   -- for this text's walks alone
attribute [local go_sem ↓ high] Go.Proofs.YtnnpfgpfkningaaX.isSome_setCell
set_option linter.unusedVariables false
set_option linter.unusedSimpArgs false
end Go.Proofs.Ytnnpfgpfkningaa.P
namespace Go.Proofs.Ytnnpfgpfkningaa.P
open Go.RowKit Go.Proofs.YtnnpfgpfkningaaW.PrintWords Go.Proofs.YtnnpfgpfkningaaW.PrintLast Go.Proofs.YtnnpfgpfkningaaW.PrintMore
attribute [local go_sem] max2_int min2_int max_two min_two max_three min_three max_four min_four   -- for this text's walks alone
attribute [local go_sem ↓ high] Go.Proofs.YtnnpfgpfkningaaX.isSome_setCell
set_option linter.unusedVariables false
set_option linter.unusedSimpArgs false
theorem eqA51 (d : Nat) (w : World) (x0 y0 : Int) (x1 y1 : Int) (x2 y2 : Int) :
  (Op.equalIn (d + 2) 51 (.agg #[.int .i64 x0, .int .i64 x1, .int .i64 x2]) (.agg #[.int .i64 y0, .int .i64 y1, .int .i64 y2])).run Try.prog w = .ok (x0 == y0 && (x1 == y1 && (x2 == y2))) w := by
 refine eqA_of Try.underlying51 (by kernel_rfl) ?_
 refine eqf_cons (by rfl) (by go_simp; rfl) (by go_simp; rfl) (by go_simp) ?_
 refine eqf_cons (by rfl) (by go_simp; rfl) (by go_simp; rfl) (by go_simp) ?_
 exact eqf_last (by rfl) (by go_simp; rfl) (by go_simp; rfl) (by go_simp)
end Go.Proofs.Ytnnpfgpfkningaa.P
namespace Go.Proofs.Ytnnpfgpfkningaa.P
open Go.RowKit Go.Proofs.YtnnpfgpfkningaaW.PrintWords Go.Proofs.YtnnpfgpfkningaaW.PrintLast Go.Proofs.YtnnpfgpfkningaaW.PrintMore
attribute [local go_sem] max2_int min2_int max_two min_two max_three min_three max_four min_four   -- for this text's walks alone
attribute [local go_sem ↓ high] Go.Proofs.YtnnpfgpfkningaaX.isSome_setCell
set_option linter.unusedVariables false
set_option linter.unusedSimpArgs false
mutual
def hyphenref7_Size.l0 : Nat → Int → Int → Int → Int → Int → Int → ByteArray → List (S33) → Option (Int)
 | 0, _, _, _, _, _, _, _, _ => none
 | k + 1, x3, x4, x316000, x316001, x316002, x316003, x316004, x316005 => if x4 < (x316005.length : Int) then (if 0 ≤ x4 then ((hyphenref7_Size.f k ((rd_T33 x316005 x4).f0) ((rd_T33 x316005 x4).f1) ((rd_T33 x316005 x4).f2) ((rd_T33 x316005 x4).f3) ((rd_T33 x316005 x4).f4) ((rd_T33 x316005 x4).f5)).bind fun t317 => (hyphenref7_Size.l0 k (mn (wrap64 (x3 + t317)) 1000000000) (wrap64 (x4 + 1)) x316000 x316001 x316002 x316003 x316004 x316005)) else (none)) else (if x316000 = 7 then (some (mn (wrap64 (x3 * x316002)) 1000000000)) else (some x3))
def hyphenref7_Size.f : Nat → Int → Int → Int → Int → ByteArray → List (S33) → Option (Int)
 | 0, _, _, _, _, _, _ => none
 | k + 1, a0_0, a0_1, a0_2, a0_3, a0_4, l0_5 => if a0_0 = 1 then (some 0) else (if a0_0 = 2 then (some 1) else (if a0_0 = 3 then (some 1) else (hyphenref7_Size.l0 k 0 0 a0_0 a0_1 a0_2 a0_3 a0_4 l0_5)))
end
def hyphenref1_Add.f (a0 : Int) (a1 : Int) : Option (Int) := some (mn (wrap64 (a0 + a1)) 1152921504606846976)
def hyphenref5_Find.l0 : Nat → ByteArray → Int → List (S61) → List (S174) → Option (Int)
 | 0, _, _, _, _ => none
 | k + 1, x1, x5, x340000, x340001 => if x5 < (x340000.length : Int) then (if 0 ≤ x5 then (if ((rd_T61 x340000 x5).f0).toList = x1.toList then (some x5) else (hyphenref5_Find.l0 k x1 (wrap64 (x5 + 1)) x340000 x340001)) else (none)) else (some (-1))
def hyphenref5_Find.f (k : Nat) (l0_0 : List (S61)) (l0_1 : List (S174)) (a1 : ByteArray) : Option (Int) := hyphenref5_Find.l0 k a1 0 l0_0 l0_1
def hyphenref1_Ints.l0 : Nat → List Int → List Int → Int → Option (Bool)
 | 0, _, _, _ => none
 | k + 1, x0, x1, x5 => if x5 < (x0.length : Int) then (if 0 ≤ x5 then (if x5 < (x1.length : Int) then (if (rd x0 x5) = (rd x1 x5) then (hyphenref1_Ints.l0 k x0 x1 (wrap64 (x5 + 1))) else (some false)) else (none)) else (none)) else (some true)
def hyphenref1_Ints.f (k : Nat) (l0 : List Int) (l1 : List Int) : Option (Bool) := if (l0.length : Int) = (l1.length : Int) then (hyphenref1_Ints.l0 k l0 l1 0) else (some false)
set_option maxHeartbeats 8000000 in
set_option maxRecDepth 100000 in
theorem hyphenref1_Ints.calls (k : Nat) (A0 : Option Addr) (c0 : Nat) (l0 : List Int) (A1 : Option Addr) (c1 : Nat) (l1 : List Int) (r : Bool) (w : World) (hr0 : Kd.C (Kd.int .i64) w A0 l0.length l0) (hc0 : l0.length ≤ c0) (hr1 : Kd.C (Kd.int .i64) w A1 l1.length l1) (hc1 : l1.length ≤ c1) (h : hyphenref1_Ints.f k l0 l1 = some r) :
  Calls Try.prog 22 #[.slice A0 l0.length c0, .slice A1 l1.length c1] w fun e w' => e = .returned (.bool r) ∧ Drawn0 w w' := by
 have HR0 := Aside0.mk hr0
 have HC0 := Aside0.mk hc0
 clear hr0 hc0
 have HR1 := Aside0.mk hr1
 have HC1 := Aside0.mk hc1
 clear hr1 hc1
 have H : (if (l0.length : Int) = (l1.length : Int) then (hyphenref1_Ints.l0 k l0 l1 0) else (some false)) = some r := h
 clear h
 by_cases c3 : (l0.length : Int) = (l1.length : Int)
 ·rw [if_pos c3] at H
  have c3b0 : ((l0.length : Int) == (l1.length : Int)) = true := beq_iff_eq.mpr c3
  have c3b1 : ((l0.length : Int) != (l1.length : Int)) = false := bne_eq_false_iff_eq.mpr c3
  have c3b2 : (l0.length == l1.length) = true := by first | simpa using c3 | (simp at c3 ⊢; omega)
  clear c3
  have H' := Aside0.mk H
  clear H
  go_enter Try.func22, Try.ntmps22
  go_wp2
  repeat (go_quiet (fail); try go_wp2)
  go_loopg [5] k (fun kq v5 w' => ∃ (x5_1 : Int), v5 = .int .i64 x5_1 ∧ Aside0 (hyphenref1_Ints.l0 kq l0 l1 x5_1 = some r) ∧ Aside0 (kq ≤ k) ∧ Drawn0 w w')
  case atStart => exact ⟨(0), (by first | rfl | (simp; done) | (simp [*]; done)), H', ⟨Nat.le_refl _⟩, by repeat (first | exact Drawn0.refl _ | apply Drawn0.step)⟩
  case round =>
   clear H'
   try clear c1
   try clear c2
   try clear p2
   try clear c3
   try clear c3b0
   try clear c3b1
   try clear c3b2
   obtain ⟨x5_1, rfl, HA, HK1, ⟨m1, rfl⟩⟩ := hrel
   cases gk with
   | zero => exact absurd HA.out (by simp [hyphenref1_Ints.l0])
   | succ k1 =>
    have H := HA.out
    clear HA
    simp only [hyphenref1_Ints.l0] at H
    by_cases c4 : x5_1 < (l0.length : Int)
    ·rw [if_pos c4] at H
     have c4b0 : decide (x5_1 < (l0.length : Int)) = true := decide_eq_true c4
     clear c4
     by_cases c5 : 0 ≤ x5_1
     ·rw [if_pos c5] at H
      have c5b0 : decide (0 ≤ x5_1) = true := decide_eq_true c5
      clear c5
      by_cases c6 : x5_1 < (l1.length : Int)
      ·rw [if_pos c6] at H
       have c6b0 : decide (x5_1 < (l1.length : Int)) = true := decide_eq_true c6
       clear c6
       by_cases c7 : (rd l0 x5_1) = (rd l1 x5_1)
       ·rw [if_pos c7] at H
        have c7b0 : ((rd l0 x5_1) == (rd l1 x5_1)) = true := beq_iff_eq.mpr c7
        have c7b1 : ((rd l0 x5_1) != (rd l1 x5_1)) = false := bne_eq_false_iff_eq.mpr c7
        clear c7
        have H' := Aside0.mk H
        clear H
        have p452 : 0 ≤ (x5_1 : Int) := of_decide_eq_true (by first | (with_reducible assumption) | assumption)
        have q452 : x5_1 < (l0.length : Int) := of_decide_eq_true (by first | (with_reducible assumption) | assumption)
        obtain ⟨ad452, e452, hx452_0⟩ := Kd.at_int HR0.out x5_1 p452 q452
        cases e452
        replace p452 := eq_true p452
        replace q452 := eq_true q452
        have p453 : 0 ≤ (x5_1 : Int) := of_decide_eq_true (by first | (with_reducible assumption) | assumption)
        have q453 : x5_1 < (l1.length : Int) := of_decide_eq_true (by first | (with_reducible assumption) | assumption)
        obtain ⟨ad453, e453, hx453_0⟩ := Kd.at_int HR1.out x5_1 p453 q453
        cases e453
        replace p453 := eq_true p453
        replace q453 := eq_true q453
        go_wp2
        repeat (go_quiet (fail); try go_wp2)
        go_roundg k1
        case measure => have := HK1.out; omega
        case rel => exact ⟨(wrap64 (x5_1 + 1)), (by first | rfl | (simp; done) | (simp [*]; done)), H', ⟨by have := HK1.out; omega⟩, by repeat (first | exact Drawn0.refl _ | apply Drawn0.step)⟩
       ·rw [if_neg c7] at H
        have c7b0 : ((rd l0 x5_1) == (rd l1 x5_1)) = false := beq_eq_false_iff_ne.mpr c7
        have c7b1 : ((rd l0 x5_1) != (rd l1 x5_1)) = true := bne_iff_ne.mpr c7
        obtain rfl := Option.some.inj H
        have p452 : 0 ≤ (x5_1 : Int) := of_decide_eq_true (by first | (with_reducible assumption) | assumption)
        have q452 : x5_1 < (l0.length : Int) := of_decide_eq_true (by first | (with_reducible assumption) | assumption)
        obtain ⟨ad452, e452, hx452_0⟩ := Kd.at_int HR0.out x5_1 p452 q452
        cases e452
        replace p452 := eq_true p452
        replace q452 := eq_true q452
        have p453 : 0 ≤ (x5_1 : Int) := of_decide_eq_true (by first | (with_reducible assumption) | assumption)
        have q453 : x5_1 < (l1.length : Int) := of_decide_eq_true (by first | (with_reducible assumption) | assumption)
        obtain ⟨ad453, e453, hx453_0⟩ := Kd.at_int HR1.out x5_1 p453 q453
        cases e453
        replace p453 := eq_true p453
        replace q453 := eq_true q453
        go_wp2
        repeat (go_quiet (fail); try go_wp2)
        go_ret
        exact ⟨by first | rfl | (simp; done) | (simp [*]; done), by repeat (first | exact Drawn0.refl _ | apply Drawn0.step)⟩
      ·rw [if_neg c6] at H
       exact absurd H (by simp)
     ·rw [if_neg c5] at H
      exact absurd H (by simp)
    ·rw [if_neg c4] at H
     have c4b0 : decide (x5_1 < (l0.length : Int)) = false := decide_eq_false c4
     clear c4
     obtain rfl := Option.some.inj H
     go_wp2
     repeat (go_quiet (fail); try go_wp2)
     go_ret
     exact ⟨by first | rfl | (simp; done) | (simp [*]; done), by repeat (first | exact Drawn0.refl _ | apply Drawn0.step)⟩
 ·rw [if_neg c3] at H
  have c3b0 : ((l0.length : Int) == (l1.length : Int)) = false := beq_eq_false_iff_ne.mpr c3
  have c3b1 : ((l0.length : Int) != (l1.length : Int)) = true := bne_iff_ne.mpr c3
  have c3b2 : (l0.length == l1.length) = false := by first | simpa using c3 | (simp at c3 ⊢; omega)
  obtain rfl := Option.some.inj H
  go_enter Try.func22, Try.ntmps22
  go_wp2
  repeat (go_quiet (fail); try go_wp2)
  go_ret
  exact ⟨by first | rfl | (simp; done) | (simp [*]; done), by repeat (first | exact Drawn0.refl _ | apply Drawn0.step)⟩
end Go.Proofs.Ytnnpfgpfkningaa.P
namespace Go.Proofs.Ytnnpfgpfkningaa.P
open Go.RowKit Go.Proofs.YtnnpfgpfkningaaW.PrintWords Go.Proofs.YtnnpfgpfkningaaW.PrintLast Go.Proofs.YtnnpfgpfkningaaW.PrintMore
attribute [local go_sem] max2_int min2_int max_two min_two max_three min_three max_four min_four   -- for this text's walks alone
attribute [local go_sem ↓ high] Go.Proofs.YtnnpfgpfkningaaX.isSome_setCell
set_option linter.unusedVariables false
set_option linter.unusedSimpArgs false
attribute [local go_sem high] eqA51
mutual
def hyphenref7_Same.j0 : Nat → Bool → List Int → List Int → List Int → List (S51) → Int → List Int → List Int → List Int → List (S51) → Int → Option (Bool)
 | 0, _, _, _, _, _, _, _, _, _, _, _ => none
 | k + 1, x43, x455000, x455001, x455002, x455003, x455004, x456000, x456001, x456002, x456003, x456004 => if x43 = true then (some false) else (hyphenref7_Same.l0 k 0 x455000 x455001 x455002 x455003 x455004 x456000 x456001 x456002 x456003 x456004)
def hyphenref7_Same.l0 : Nat → Int → List Int → List Int → List Int → List (S51) → Int → List Int → List Int → List Int → List (S51) → Int → Option (Bool)
 | 0, _, _, _, _, _, _, _, _, _, _, _ => none
 | k + 1, x5, x455000, x455001, x455002, x455003, x455004, x456000, x456001, x456002, x456003, x456004 => if x5 < (x455003.length : Int) then (if 0 ≤ x5 then (if x5 < (x456003.length : Int) then (if (!(((rd_T51 x455003 x5).f0) == ((rd_T51 x456003 x5).f0)) || (!(((rd_T51 x455003 x5).f1) == ((rd_T51 x456003 x5).f1)) || (!(((rd_T51 x455003 x5).f2) == ((rd_T51 x456003 x5).f2))))) = true then (some false) else (hyphenref7_Same.l0 k (wrap64 (x5 + 1)) x455000 x455001 x455002 x455003 x455004 x456000 x456001 x456002 x456003 x456004)) else (none)) else (none)) else (some true)
end
def hyphenref7_Same.f (k : Nat) (l0_0 : List Int) (l0_1 : List Int) (l0_2 : List Int) (l0_3 : List (S51)) (a0_4 : Int) (l1_0 : List Int) (l1_1 : List Int) (l1_2 : List Int) (l1_3 : List (S51)) (a1_4 : Int) : Option (Bool) := (hyphenref1_Ints.f k l0_0 l1_0).bind fun t456 => (if t456 = true then ((hyphenref1_Ints.f k l0_1 l1_1).bind fun t457 => (if t457 = true then ((hyphenref1_Ints.f k l0_2 l1_2).bind fun t458 => (if t458 = true then (if a0_4 = a1_4 then (hyphenref7_Same.j0 k ((l0_3.length : Int) != (l1_3.length : Int)) l0_0 l0_1 l0_2 l0_3 a0_4 l1_0 l1_1 l1_2 l1_3 a1_4) else (hyphenref7_Same.j0 k true l0_0 l0_1 l0_2 l0_3 a0_4 l1_0 l1_1 l1_2 l1_3 a1_4)) else (hyphenref7_Same.j0 k true l0_0 l0_1 l0_2 l0_3 a0_4 l1_0 l1_1 l1_2 l1_3 a1_4))) else (hyphenref7_Same.j0 k true l0_0 l0_1 l0_2 l0_3 a0_4 l1_0 l1_1 l1_2 l1_3 a1_4))) else (hyphenref7_Same.j0 k true l0_0 l0_1 l0_2 l0_3 a0_4 l1_0 l1_1 l1_2 l1_3 a1_4))
end Go.Proofs.Ytnnpfgpfkningaa.P
