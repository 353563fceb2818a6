-- Joined by wip/merge.py (a program of this repo) out of texts of this claim, cut down to what it reaches; Lean checks it.
import Derived.Test.YtnnpfgpfkningaaL6
import Derived.Test.YtnnpfgpfkningaaL1
import Derived.Test.YtnnpfgpfkningaaL2
namespace Go.Proofs.Ytnnpfgpfkningaa.P
open Go.RowKit Go.Proofs.YtnnpfgpfkningaaW.PrintWords Go.Proofs.YtnnpfgpfkningaaW.PrintLast Go.Proofs.YtnnpfgpfkningaaW.PrintMore
attribute [local go_sem] max2_int min2_int max_two min_two max_three min_three max_four min_four   -- for this text's walks alone
attribute [local go_sem ↓ high] Go.Proofs.YtnnpfgpfkningaaX.isSome_setCell
set_option linter.unusedVariables false
set_option linter.unusedSimpArgs false
theorem Zn_step {W : World} {b mp : Nat} {s s' : Option Nat} (h : Sets2 W s s') {k : Nat} (hk : k < W.heap.size) (hn : ¬ Zn b mp s k) : ¬ Zn b mp s' k := by
  rintro (e | e | e)
  · exact hn (.inl e)
  · exact hn (.inr (.inl e))
  · rcases h with e2 | ⟨g, e2, hg⟩
    · exact hn (.inr (.inr (by rw [e, e2])))
    · rw [e2] at e; injection e with e; omega
theorem Sets2.trans {W W1 : World} {s s1 s2 : Option Nat} (h : Sets2 W s s1) (h2 : Sets2 W1 s1 s2) (hs : W.heap.size ≤ W1.heap.size) : Sets2 W s s2 := by
  rcases h2 with e | ⟨g, e, hg⟩
  · rw [e]; exact h
  · exact .inr ⟨g, e, by omega⟩
theorem Kept.zn {W W1 W2 : World} {b mp : Nat} {s s1 : Option Nat} (h : Kept W W1 (Zn b mp s)) (h2 : Kept W1 W2 (Zn b mp s1)) (hs : Sets2 W s s1) : Kept W W2 (Zn b mp s) :=
  h.then_ h2 (fun k hk => by
    rcases hk with e | e | e
    · exact .inl (.inl e)
    · exact .inl (.inr (.inl e))
    · rcases hs with e2 | ⟨g, e2, hg⟩
      · exact .inl (.inr (.inr (by rw [e, e2])))
      · rw [e2] at e; injection e with e; exact .inr (by omega))
def MadeBy (w0 W : World) (b mp : Nat) (s : Option Nat) (Ad : Option Addr) (cd : Nat) (defs : List S61) (st' : St) (p : S74) (e : Ending) (W' : World) : Prop :=
  ∃ (s' : Option Nat) (Af Ae : Option Addr) (cf ce : Nat), e = .returned (.agg #[.slice Af p.f0.length cf, .slice Ae p.f1.length ce, .int .i64 p.f2]) ∧ MkAt w0 W' b mp s' Ad cd defs st' ∧ Kept W W' (Zn b mp s) ∧ Sets2 W s s' ∧
    Kd.R k94 94 W' W.heap.size (fun k => some k ≠ s' ∧ some k ≠ (Value.slice Ae p.f1.length ce).ownBlock) (.slice Af p.f0.length cf) p.f0 ∧ Kd.R k94 94 W' W.heap.size (fun k => some k ≠ s' ∧ some k ≠ (Value.slice Af p.f0.length cf).ownBlock) (.slice Ae p.f1.length ce) p.f1
def copyF (mk : St → Option (S74 × St)) (z : Bool) : Nat → List S74 → St → Option (List S74 × St)
  | 0, l, st => some (l, st)
  | n + 1, l, st => if l.length > 0 ∧ z = true then none else (mk st).bind fun q => copyF mk z n (l ++ [q.1]) q.2
structure CpAt (w0 w W : World) (b mp : Nat) (s0 s : Option Nat) (Ad : Option Addr) (cd : Nat) (defs : List S61) (st : St) (X : Nat) (xc : Array Value) (A5 : Option Addr) (x5 : List S33) (v : Value) (l : List S74) : Prop where
  f5 : Kd.F k33 W (fun k => ¬ Zn b mp s k ∧ k < w.heap.size) A5 x5.length x5
  ma : MkAt w0 W b mp s Ad cd defs st
  kept : Kept w W (Zn b mp s0)
  s2 : Sets2 w s0 s
  r : Kd.R k74 74 W w.heap.size (fun k => ¬ Zn b mp s k) v l
  xb : W.heap[X]? = some (.cells xc 33 (0, 0))
  xn : ¬ Zn b mp s X
  ws : w0.heap.size ≤ w.heap.size
theorem MkAt.s_lt {w0 W : World} {b mp : Nat} {s : Option Nat} {Ad : Option Addr} {cd : Nat} {defs : List S61} {st : St} (h : MkAt w0 W b mp s Ad cd defs st) {k : Nat} (hk : Zn b mp s k) : k < W.heap.size := by
  rcases hk with e | e | e
  · rw [e]; exact h.lt
  · rw [e]; exact h.map.lt
  · obtain ⟨As, cs, h1, h2, h3⟩ := h.blk
    exact intR_lt h3 k (by rw [h2, ← e])
theorem CpAt.below {w0 w W W1 : World} {b mp : Nat} {s0 s : Option Nat} {Ad : Option Addr} {cd : Nat} {defs : List S61} {st : St} {X : Nat} {xc : Array Value} {A5 : Option Addr} {x5 : List S33} {v : Value} {l : List S74} (h : CpAt w0 w W b mp s0 s Ad cd defs st X xc A5 x5 v l) (hb : Below W.heap.size W W1) : CpAt w0 w W1 b mp s0 s Ad cd defs st X xc A5 x5 v l where
  ma := h.ma.below_ hb
  f5 := Kd.F_below h.f5 hb
  kept := h.kept.below hb
  s2 := h.s2
  r := Kd.R_below h.r hb
  xb := blk_below h.xb hb
  xn := h.xn
  ws := h.ws
theorem MkAt.same {w0 W W1 : World} {b mp : Nat} {s : Option Nat} {Ad : Option Addr} {cd : Nat} {defs : List S61} {st : St} (h : MkAt w0 W b mp s Ad cd defs st) (hm : ∀ k, Zn b mp s k → W1.heap[k]? = W.heap[k]?) (hb : Below w0.heap.size w0 W1) : MkAt w0 W1 b mp s Ad cd defs st where
  blk := by
    obtain ⟨As, cs, h1, h2, h3⟩ := h.blk
    exact ⟨As, cs, (hm b (.inl rfl)).trans h1, h2, intR_to h3 (fun k hk => hm k (.inr (.inr (by rw [← h2, hk])))) h3.1⟩
  map := h.map.of_heap (hm mp (.inr (.inl rfl)))
  below := hb
  hb := h.hb
  hmp := h.hmp
  hcd := h.hcd
  defs := h.defs
theorem CpAt.made {w0 w W W1 : World} {b mp : Nat} {s0 s s1 : Option Nat} {Ad : Option Addr} {cd : Nat} {defs : List S61} {st st1 : St} {X : Nat} {xc : Array Value} {A5 : Option Addr} {x5 : List S33} {v : Value} {l : List S74} (h : CpAt w0 w W b mp s0 s Ad cd defs st X xc A5 x5 v l) (hm : MkAt w0 W1 b mp s1 Ad cd defs st1) (hk : Kept W W1 (Zn b mp s)) (h2 : Sets2 W s s1) : CpAt w0 w W1 b mp s0 s1 Ad cd defs st1 X xc A5 x5 v l where
  ma := hm
  f5 := Kd.F_mono (Kd.F_step h.f5 (fun k ho hlt => hk.2 k hlt ho.1)) (fun k ho => ⟨Zn_step h2 (Nat.lt_of_lt_of_le ho.2 h.kept.1) ho.1, ho.2⟩)
  kept := Kept.zn h.kept hk h.s2
  s2 := h.s2.trans h2 h.kept.1
  r := Kd.R_mono (Kd.R_step (Kd.R_bound h.r) (fun k ho hlt => hk.2 k hlt ho.1)) (fun k ho => Zn_step h2 ho.2.2.1 ho.1)
  xb := (hk.2 X (blk_lt h.xb) h.xn).trans h.xb
  xn := Zn_step h2 (blk_lt h.xb) h.xn
  ws := h.ws
theorem R74_own {w : World} {base : Nat} {ok : Nat → Prop} {v : Value} {l : List S74} (h : Kd.R k74 74 w base ok v l) : ∀ k, v.ownBlock = some k → base ≤ k ∧ k < w.heap.size ∧ ok k := by
  intro k hk
  obtain ⟨inner, ho⟩ := Kd.R_own h
  exact ⟨own_base ho k hk, own_lt ho k hk, h.1 k hk⟩
theorem CpAt.push {w0 w W W1 : World} {b mp : Nat} {s0 s : Option Nat} {Ad : Option Addr} {cd : Nat} {defs : List S61} {st : St} {X : Nat} {xc : Array Value} {A5 : Option Addr} {x5 : List S33} {v v1 : Value} {l l1 : List S74} (h : CpAt w0 w W b mp s0 s Ad cd defs st X xc A5 x5 v l) (hX : w.heap.size ≤ X) (hXv : some X ≠ v.ownBlock) (hr : Kd.R k74 74 W1 w.heap.size (fun k => ¬ Zn b mp s k) v1 l1) (hb : Below w.heap.size W W1) (hg : W.grownBy W1 v.ownBlock) : CpAt w0 w W1 b mp s0 s Ad cd defs st X xc A5 x5 v1 l1 where
  ma := h.ma.same (fun k hk => hg.block k (h.ma.s_lt hk) (fun e => (R74_own h.r k e.symm).2.2 hk)) (h.ma.below.trans (hb.mono h.ws))
  f5 := Kd.F_grown h.f5 hg (fun k ho e => by have := (R74_own h.r k e.symm).1; omega)
  kept := Kept.of_grown hg h.kept (fun k hk => .inr (R74_own h.r k hk).1)
  s2 := h.s2
  r := hr
  xb := blk_grown h.xb hg hXv
  xn := h.xn
  ws := h.ws
set_option maxRecDepth 100000 in
set_option maxHeartbeats 4000000 in
theorem copies_calls (w0 w : World) (b mp : Nat) (s0 : Option Nat) (Ad : Option Addr) (cd : Nat) (defs : List S61) (st0 str : St) (x : S33) (A5 : Option Addr) (c5 : Nat) (many : Int) (kz : Nat) (sz : Int) (mk : St → Option (S74 × St)) (lr : List S74)
    (hM : MkAt w0 w b mp s0 Ad cd defs st0) (h5 : Kd.F k33 w (fun k => ¬ Zn b mp s0 k) A5 x.f5.length x.f5) (hc5 : x.f5.length ≤ c5) (hsz : side_Size.f kz x.f0 x.f1 x.f2 x.f3 x.f4 x.f5 = some sz)
    (hmk : ∀ W s st p st', MkAt w0 W b mp s Ad cd defs st → Kd.F k33 W (fun k => ¬ Zn b mp s k) A5 x.f5.length x.f5 → mk st = some (p, st') → Calls Try.prog 30 #[.pointer (some ⟨b, 0, none⟩), .agg #[.int .i64 x.f0, .int .i64 x.f1, .int .i64 x.f2, .int .i64 x.f3, .string x.f4, .slice A5 x.f5.length c5]] W (MadeBy w0 W b mp s Ad cd defs st' p))
    (hmany : many ≤ 1000000) (h : copyF mk (sz == 0) many.toNat [] st0 = some (lr, str)) :
    Calls Try.prog 45 #[.pointer (some ⟨b, 0, none⟩), .agg #[.int .i64 x.f0, .int .i64 x.f1, .int .i64 x.f2, .int .i64 x.f3, .string x.f4, .slice A5 x.f5.length c5], .int .i64 many] w fun e W' => ∃ (s' : Option Nat) (v : Value), e = .returned v ∧ MkAt w0 W' b mp s' Ad cd defs str ∧ Kept w W' (Zn b mp s0) ∧ Sets2 w s0 s' ∧ Kd.R k74 74 W' w.heap.size (fun k => ¬ Zn b mp s' k) v lr := by
  have hW1 := below_alloc (Below.refl w.heap.size w) (.cells #[.int .i64 x.f0, .int .i64 x.f1, .int .i64 x.f2, .int .i64 x.f3, .string x.f4, .slice A5 x.f5.length c5] 33)
  obtain ⟨W1, hWW⟩ : ∃ W1, w.alloc (.cells #[.int .i64 x.f0, .int .i64 x.f1, .int .i64 x.f2, .int .i64 x.f3, .string x.f4, .slice A5 x.f5.length c5] 33) = W1 := ⟨_, rfl⟩
  have hx : W1.heap[w.heap.size]? = some (.cells #[.int .i64 x.f0, .int .i64 x.f1, .int .i64 x.f2, .int .i64 x.f3, .string x.f4, .slice A5 x.f5.length c5] 33 (0, 0)) := by rw [← hWW]; exact heap_alloc_new w _
  rw [hWW] at hW1
  have HI0 : Aside0 (CpAt w0 w W1 b mp s0 s0 Ad cd defs st0 w.heap.size #[.int .i64 x.f0, .int .i64 x.f1, .int .i64 x.f2, .int .i64 x.f3, .string x.f4, .slice A5 x.f5.length c5] A5 x.f5 (.slice none 0 0) []) := ⟨⟨Kd.F_below (Kd.F_bound h5) hW1, hM.below_ hW1, Kept.of_below hW1 _, .inl rfl, Kd.R_nil _ _ _ _ _, hx, fun hz => by have := hM.s_lt hz; omega, hM.below.size⟩⟩
  have HF0 := Aside0.mk h
  have HMK := Aside0.mk hmk
  have HSZ := Aside0.mk hsz
  have H5 := Aside0.mk (And.intro h5 hc5)
  have HMANY := Aside0.mk hmany
  clear hM h5 hc5 hsz hmk hmany h hW1 hx
  go_enter Try.func45, Try.ntmps45
  go_wp2
  go_loopw [7, 10] (fun v7 v10 W => ∃ (k : Int) (l : List S74) (st : St) (s : Option Nat), v10 = .int .i64 k ∧ Aside0 (0 ≤ k ∧ (l.length : Int) = k) ∧ Aside0 (copyF mk (sz == 0) (many - k).toNat l st = some (lr, str)) ∧ Aside0 (CpAt w0 w W b mp s0 s Ad cd defs st w.heap.size #[.int .i64 x.f0, .int .i64 x.f1, .int .i64 x.f2, .int .i64 x.f3, .string x.f4, .slice A5 x.f5.length c5] A5 x.f5 v7 l)) (fun _ k _ => (many - intOf k).toNat)
  case atStart => exact ⟨0, [], st0, s0, rfl, ⟨by simp⟩, ⟨by rw [Int.sub_zero]; exact HF0.out⟩, HI0⟩
  case round =>
    clear HI0 HF0
    obtain ⟨k, l, st, s, rfl, HK, HF, HI⟩ := hrel
    by_cases hlt : k < many
    · have hF := HF.out
      rw [show (many - k).toNat = (many - (k + 1)).toNat + 1 from by omega] at hF
      simp only [copyF] at hF
      by_cases hz : l.length > 0 ∧ (sz == 0) = true
      · rw [if_pos hz] at hF; cases hF
      rw [if_neg hz] at hF
      obtain ⟨⟨p, st'⟩, hp, hF⟩ := Option.bind_eq_some_iff.1 hF
      have HP := Aside0.mk hp
      have HF2 := Aside0.mk hF
      have HKM := Aside0.mk (And.intro hlt HMANY.out)
      have hw2 : wrap64 (k + 1) = k + 1 := by have := HMANY.out; have := HK.out; unfold wrap64; omega
      have HW := Aside0.mk hw2
      have c1b : decide (k < many) = true := decide_eq_true hlt
      have HXV : Aside0 (∀ (W : World) (st2 : St) (s2 : Option Nat), CpAt w0 w W b mp s0 s2 Ad cd defs st2 w.heap.size #[.int .i64 x.f0, .int .i64 x.f1, .int .i64 x.f2, .int .i64 x.f3, .string x.f4, .slice A5 x.f5.length c5] A5 x.f5 u7 l → some w.heap.size ≠ u7.ownBlock) := ⟨fun W st2 s2 h e => by
        obtain ⟨inner, ho⟩ := Kd.R_own h.r
        obtain ⟨cells, hc⟩ := own_typed ho _ e.symm
        rw [h.xb] at hc; cases hc⟩
      clear hlt hF hp HF hw2
      have d0 := cellAt (i := 0) (u := .int .i64 x.f0) HI.out.xb rfl; have d1 := cellAt (i := 1) (u := .int .i64 x.f1) HI.out.xb rfl; have d2 := cellAt (i := 2) (u := .int .i64 x.f2) HI.out.xb rfl; have d3 := cellAt (i := 3) (u := .int .i64 x.f3) HI.out.xb rfl; have d4 := cellAt (i := 4) (u := .string x.f4) HI.out.xb rfl; have d5 := cellAt (i := 5) (u := .slice A5 x.f5.length c5) HI.out.xb rfl
      by_cases hk0 : k > 0
      · have c2 : decide (k > 0) = true := decide_eq_true hk0
        have c3 : (sz == 0) = false := by
          cases hq : (sz == 0) with
          | false => rfl
          | true => exact (hz ⟨by have := HK.out; omega, hq⟩).elim
        clear hz hk0
        go_wp2_with (first | (go_at_call 17; refine (side_Size.calls kz x.f0 x.f1 x.f2 x.f3 x.f4 A5 c5 x.f5 sz _ (Kd.F_now HI.out.f5) H5.out.2 HSZ.out).mono ?_; rintro e w2 ⟨rfl, hb2⟩; have HIn := Aside0.mk (HI.out.below hb2); clear HI hb2; have HI := HIn; clear HIn; have e0 := cellAt (i := 0) (u := .int .i64 x.f0) HI.out.xb rfl; have e1 := cellAt (i := 1) (u := .int .i64 x.f1) HI.out.xb rfl; have e2 := cellAt (i := 2) (u := .int .i64 x.f2) HI.out.xb rfl; have e3 := cellAt (i := 3) (u := .int .i64 x.f3) HI.out.xb rfl; have e4 := cellAt (i := 4) (u := .string x.f4) HI.out.xb rfl; have e5 := cellAt (i := 5) (u := .slice A5 x.f5.length c5) HI.out.xb rfl) | (go_at_call 30; refine (HMK.out _ s st p st' HI.out.ma (Kd.F_mono HI.out.f5 (fun _ ho => ho.1)) HP.out).mono ?_; rintro e w3 ⟨s1, Af, Ae, cf, ce, rfl, m1, m2, m3, m4, m5⟩; have HI2 := Aside0.mk (HI.out.made m1 m2 m3); have HPM : Aside0 (k74.M w3 w.heap.size (fun k => w2.heap.size ≤ k ∧ some k ≠ s1) p [.slice Af p.f0.length cf, .slice Ae p.f1.length ce, .int .i64 p.f2]) := ⟨k74_mkM _ _ _ p (Kd.R_lower (spR_to m4 (fun _ _ => rfl) (fun k hk => ⟨(spR_lt m4 k hk).1, (m4.1 k hk).1⟩)) HI.out.kept.1) (Kd.R_lower (spR_to m5 (fun _ _ => rfl) (fun k hk => ⟨(spR_lt m5 k hk).1, (m5.1 k hk).1⟩)) HI.out.kept.1)⟩; have HOKP : Aside0 (∀ k, (w2.heap.size ≤ k ∧ some k ≠ s1) → ¬ Zn b mp s1 k ∧ some k ≠ u7.ownBlock) := ⟨fun k hk => ⟨fun hz => by rcases hz with e | e | e; (have := HI.out.ma.lt; omega); (have := HI.out.ma.map.lt; omega); exact hk.2 e, fun e => by have := (R74_own HI.out.r k e.symm).2.1; omega⟩⟩; clear m1 m2 m3 m4 m5) | ((with_reducible refine gate_builtin (b := .append) (xs := #[.tmp 26, .tmp 30]) rfl ?_); at_builtin; refine Kd.R_append k74 (w0 := w3) w.heap.size rfl (.tmp 26) (.tmp 30) 90 74 (.agg #[(.slice none 0 0), (.slice none 0 0), (.int .i64 0)]) 56 rfl Try.underlying90 info74 rfl (by decide) (by omega) u7 l p [.slice Af p.f0.length cf, .slice Ae p.f1.length ce, .int .i64 p.f2] (fun k => ¬ Zn b mp s1 k) (fun k => w2.heap.size ≤ k ∧ some k ≠ s1) rfl rfl ?hp ?hokp (fun k hk hz => by have := HI2.out.ma.s_lt hz; omega) HI2.out.r (Below.refl _ _) HI2.out.kept.1 (by have := HK.out; have := HKM.out; omega) ?_; (case hp => exact HPM.out); (case hokp => exact HOKP.out); intro v8 w4 hr hb hg hat; have HI3 := Aside0.mk (HI2.out.push (Nat.le_refl _) (HXV.out _ _ _ HI2.out) hr hb hg); clear hr hb hg hat))
        go_roundw
        case rel => exact ⟨k + 1, l ++ [p], st', s1, by rw [HW.out], ⟨by have := HK.out; simp; omega⟩, HF2, HI3⟩
        case measure => have := HKM.out; rw [HW.out]; simp only [intOf]; omega
      · have c2 : decide (k > 0) = false := decide_eq_false hk0
        clear hz hk0
        go_wp2_with (first | (go_at_call 30; refine (HMK.out _ s st p st' HI.out.ma (Kd.F_mono HI.out.f5 (fun _ ho => ho.1)) HP.out).mono ?_; rintro e w3 ⟨s1, Af, Ae, cf, ce, rfl, m1, m2, m3, m4, m5⟩; have HI2 := Aside0.mk (HI.out.made m1 m2 m3); have HPM : Aside0 (k74.M w3 w.heap.size (fun k => wr.heap.size ≤ k ∧ some k ≠ s1) p [.slice Af p.f0.length cf, .slice Ae p.f1.length ce, .int .i64 p.f2]) := ⟨k74_mkM _ _ _ p (Kd.R_lower (spR_to m4 (fun _ _ => rfl) (fun k hk => ⟨(spR_lt m4 k hk).1, (m4.1 k hk).1⟩)) HI.out.kept.1) (Kd.R_lower (spR_to m5 (fun _ _ => rfl) (fun k hk => ⟨(spR_lt m5 k hk).1, (m5.1 k hk).1⟩)) HI.out.kept.1)⟩; have HOKP : Aside0 (∀ k, (wr.heap.size ≤ k ∧ some k ≠ s1) → ¬ Zn b mp s1 k ∧ some k ≠ u7.ownBlock) := ⟨fun k hk => ⟨fun hz => by rcases hz with e | e | e; (have := HI.out.ma.lt; omega); (have := HI.out.ma.map.lt; omega); exact hk.2 e, fun e => by have := (R74_own HI.out.r k e.symm).2.1; omega⟩⟩; clear m1 m2 m3 m4 m5) | ((with_reducible refine gate_builtin (b := .append) (xs := #[.tmp 26, .tmp 30]) rfl ?_); at_builtin; refine Kd.R_append k74 (w0 := w3) w.heap.size rfl (.tmp 26) (.tmp 30) 90 74 (.agg #[(.slice none 0 0), (.slice none 0 0), (.int .i64 0)]) 56 rfl Try.underlying90 info74 rfl (by decide) (by omega) u7 l p [.slice Af p.f0.length cf, .slice Ae p.f1.length ce, .int .i64 p.f2] (fun k => ¬ Zn b mp s1 k) (fun k => wr.heap.size ≤ k ∧ some k ≠ s1) rfl rfl ?hp ?hokp (fun k hk hz => by have := HI2.out.ma.s_lt hz; omega) HI2.out.r (Below.refl _ _) HI2.out.kept.1 (by have := HK.out; have := HKM.out; omega) ?_; (case hp => exact HPM.out); (case hokp => exact HOKP.out); intro v8 w4 hr hb hg hat; have HI3 := Aside0.mk (HI2.out.push (Nat.le_refl _) (HXV.out _ _ _ HI2.out) hr hb hg); clear hr hb hg hat))
        go_roundw
        case rel => exact ⟨k + 1, l ++ [p], st', s1, by rw [HW.out], ⟨by have := HK.out; simp; omega⟩, HF2, HI3⟩
        case measure => have := HKM.out; rw [HW.out]; simp only [intOf]; omega
    · have c1b : decide (k < many) = false := decide_eq_false hlt
      have hF := HF.out
      rw [show (many - k).toNat = 0 from by omega] at hF
      simp only [copyF] at hF
      injection hF with hF
      injection hF with h1 h2
      subst h1 h2
      clear hlt HF HMK HSZ
      go_wp2
      go_ret
      exact ⟨s, _, rfl, HI.out.ma, HI.out.kept, HI.out.s2, HI.out.r⟩
def xpart (x : S33) (i : Nat) : S33 := if i < x.f5.length then x.f5.getD i z33 else ⟨1, 0, 0, 0, ⟨#[]⟩, []⟩
theorem part_calls (x : S33) (A5 : Option Addr) (c5 : Nat) (i : Nat) (P0 : Nat → Prop) (w : World) (h5 : Kd.F k33 w P0 A5 x.f5.length x.f5) (hc5 : x.f5.length ≤ c5) (hi : i < 9223372036854775807) :
    Calls Try.prog 41 #[.agg #[.int .i64 x.f0, .int .i64 x.f1, .int .i64 x.f2, .int .i64 x.f3, .string x.f4, .slice A5 x.f5.length c5], .int .i64 (i : Int)] w fun e w' => ∃ (A : Option Addr) (c : Nat), e = .returned (.agg #[.int .i64 (xpart x i).f0, .int .i64 (xpart x i).f1, .int .i64 (xpart x i).f2, .int .i64 (xpart x i).f3, .string (xpart x i).f4, .slice A (xpart x i).f5.length c]) ∧
      Kd.F k33 w' (fun k => P0 k ∨ w.heap.size ≤ k) A (xpart x i).f5.length (xpart x i).f5 ∧ (xpart x i).f5.length ≤ c ∧ Below w.heap.size w w' := by
  have h := side_part.calls x.f0 x.f1 x.f2 x.f3 x.f4 P0 A5 c5 x.f5 (i : Int) (xpart x i).f0 (xpart x i).f1 (xpart x i).f2 (xpart x i).f3 (xpart x i).f4 (xpart x i).f5 w ⟨A5, c5, rfl, hc5, h5⟩ (by
    unfold side_part.f xpart rd_T33
    by_cases hl : i < x.f5.length
    · rw [if_pos (by omega), if_pos (by omega), if_pos hl, Int.toNat_natCast]
    · rw [if_neg (by omega), if_neg hl])
  refine h.mono ?_
  rintro e w' ⟨v5, rfl, ⟨A, c, rfl, hc, hF⟩, hb⟩
  exact ⟨A, c, rfl, hF, hc, hb⟩
def okP (p : S74) : Bool := decide (p.f0.length < 200) && decide (p.f1.length < 200) && p.f0.all (fun a => (Lit.int .i64 a.f0).wf) && p.f1.all (fun a => (Lit.int .i64 a.f0).wf)
theorem okP_at {p : S74} (h : okP p = true) : p.f0.length < 200 ∧ p.f1.length < 200 ∧ (∀ a ∈ p.f0, (Lit.int .i64 a.f0).wf = true) ∧ (∀ a ∈ p.f1, (Lit.int .i64 a.f0).wf = true) := by
  unfold okP at h
  simp only [Bool.and_eq_true, decide_eq_true_eq, List.all_eq_true] at h
  exact ⟨h.1.1.1, h.1.1.2, h.1.2, h.2⟩
def bothF (a b : S74) (st : St) : Option (S74 × St) := if okP a = true ∧ okP b = true ∧ st.arcs.length < 100000 then some (⟨a.f0 ++ dearS b.f0 a.f2, dearS a.f1 b.f2 ++ b.f1, tadd a.f2 b.f2⟩, ⟨st.sets, linkL st.arcs a.f1 b.f0 0⟩) else none
def oftF (l : List S74) (low : Int) (st : St) : Option (S74 × St) := if l.all okP = true ∧ l.length ≤ 12 ∧ low ≤ l.length ∧ st.arcs.length < 100000 then some ((ofK l low l 0 z74 0 st.arcs).1, ⟨st.sets, (ofK l low l 0 z74 0 st.arcs).2⟩) else none
def altF (a b : S74) (st : St) : Option (S74 × St) := if okP a = true ∧ okP b = true then some (⟨a.f0 ++ b.f0, a.f1 ++ b.f1, mn (mn 1152921504606846976 a.f2) b.f2⟩, st) else none
def starF (a : S74) (st : St) : Option (S74 × St) := if okP a = true ∧ st.arcs.length < 100000 then some (⟨a.f0, a.f1, 0⟩, ⟨st.sets, linkL st.arcs a.f1 a.f0 0⟩) else none
def wghtF (a : S74) (n : Int) (st : St) : Option (S74 × St) := if okP a = true then some (⟨dearS a.f0 n, a.f1, tadd a.f2 n⟩, st) else none
def copyG (mk : St → Option (S74 × St)) (z : Bool) (many : Nat) (st : St) : Option (List S74 × St) := if z = true ∧ 1 < many then (mk st).bind fun q => some (List.replicate many q.1, q.2) else copyF mk z many [] st
def mkF (defs : List S61) (sz : S33 → Option Int) : Nat → S33 → St → Option (S74 × St)
  | 0, _, _ => none
  | n + 1, x, st =>
    if x.f0 = 2 ∨ x.f0 = 3 then if st.sets.length < 1000000 then some (⟨[⟨(st.sets.length : Int), 0⟩], [⟨(st.sets.length : Int), 0⟩], tinf⟩, ⟨st.sets ++ [if x.f0 = 2 then idxD defs x.f4 else -1], st.arcs⟩) else none
    else if x.f0 = 4 then (mkF defs sz n (xpart x 0) st).bind fun a => (mkF defs sz n (xpart x 1) a.2).bind fun b => bothF a.1 b.1 b.2
    else if x.f0 = 7 then (sz (xpart x 0)).bind fun z => (copyG (mkF defs sz n (xpart x 0)) (z == 0) (mn x.f2 12).toNat st).bind fun l => oftF l.1 x.f1 l.2
    else if x.f0 = 5 then (mkF defs sz n (xpart x 0) st).bind fun a => (mkF defs sz n (xpart x 1) a.2).bind fun b => altF a.1 b.1 b.2
    else if x.f0 = 6 then (mkF defs sz n (xpart x 0) st).bind fun a => starF a.1 a.2
    else if x.f0 = 8 then (mkF defs sz n (xpart x 0) st).bind fun a => wghtF a.1 x.f3 a.2
    else some (⟨[], [], 0⟩, st)
theorem made_end {w0 W W1 W2 W7 : World} {b mp : Nat} {s s' : Option Nat} {Ad : Option Addr} {cd : Nat} {defs : List S61} {st st' : St} {p : S74} {T : Nat} {Af Ae : Option Addr} {cf ce : Nat} (hM0 : MkAt w0 W b mp s Ad cd defs st) (hb1 : Below W.heap.size W W1) (hM : MkAt w0 W2 b mp s' Ad cd defs st') (hk : Kept W1 W2 (Zn b mp s)) (h2 : Sets2 W1 s s') (hT : W.heap.size ≤ T) (hT1 : T < W1.heap.size) (hTr : ∃ cs, W2.heap[T]? = some (.cells cs 74 (0, 0)))
    (rf : Kd.R k94 94 W2 W1.heap.size (fun k => some k ≠ s' ∧ some k ≠ (Value.slice Ae p.f1.length ce).ownBlock) (.slice Af p.f0.length cf) p.f0) (re : Kd.R k94 94 W2 W1.heap.size (fun k => some k ≠ s' ∧ some k ≠ (Value.slice Af p.f0.length cf).ownBlock) (.slice Ae p.f1.length ce) p.f1)
    (h7 : W2.grownBy W7 (some T)) :
    MadeBy w0 W b mp s Ad cd defs st' p (.returned (.agg #[.slice Af p.f0.length cf, .slice Ae p.f1.length ce, .int .i64 p.f2])) W7 := by
  have hTn : ¬ Zn b mp s' T := by
    rintro (e | e | e)
    · have := hM0.lt; omega
    · have := hM0.map.lt; omega
    · rcases h2 with e2 | ⟨g, e2, hg⟩
      · have := hM0.s_lt (k := T) (.inr (.inr (by rw [e, e2]))); omega
      · rw [e2] at e; injection e with e; omega
  have hw := hM0.below.size
  have h7' : ∀ k, k < W2.heap.size → k ≠ T → W7.heap[k]? = W2.heap[k]? := fun k hk hne => h7.block k hk (fun e => hne (by injection e))
  have nf : ∀ k, (Value.slice Af p.f0.length cf).ownBlock = some k → k ≠ T := fun k hk e => by have := (spR_lt rf k hk).1; omega
  have ne : ∀ k, (Value.slice Ae p.f1.length ce).ownBlock = some k → k ≠ T := fun k hk e => by have := (spR_lt re k hk).1; omega
  refine ⟨s', Af, Ae, cf, ce, rfl, hM.same (fun k hz => h7' k (hM.s_lt hz) (fun e => hTn (e ▸ hz))) ?_, ?_, ?_, Kd.R_lower (spR_to rf (fun k hk => h7' k (spR_lt rf k hk).2 (nf k hk)) rf.1) hb1.size, Kd.R_lower (spR_to re (fun k hk => h7' k (spR_lt re k hk).2 (ne k hk)) re.1) hb1.size⟩
  · have hb := hM.below
    exact ⟨h7.os.trans hb.os, h7.tape.trans hb.tape, h7.output.trans hb.output, Nat.le_trans hb.size h7.size, fun k hk => (h7' k (Nat.lt_of_lt_of_le hk hb.size) (by omega)).trans (hb.block k hk)⟩
  · have k1 := Kept.zn (Kept.of_below hb1 (Zn b mp s)) hk (.inl rfl)
    exact Kept.of_grown h7 k1 (fun k hk => .inr (by injection hk with hk; omega))
  · rcases h2 with e2 | ⟨g, e2, hg⟩
    · exact .inl e2
    · exact .inr ⟨g, e2, Nat.le_trans hb1.size hg⟩
theorem set3_grown (W : World) (T : Nat) (v0 v1 v2 : Value) : W.grownBy (((W.setCell ⟨T, 0, none⟩ v0).setCell ⟨T, 1, none⟩ v1).setCell ⟨T, 2, none⟩ v2) (some T) := ⟨rfl, rfl, rfl, by simp [World.setCell], fun k _ hk => by
  have hne : k ≠ T := fun e => hk (by rw [e])
  rw [RowKit.Below.heap_setCell _ _ _ _ (by simpa using hne), RowKit.Below.heap_setCell _ _ _ _ (by simpa using hne), RowKit.Below.heap_setCell _ _ _ _ (by simpa using hne)]⟩
def mkOk (defs : List S61) (sz : S33 → Option Int) (n : Nat) : Prop := ∀ (w0 W : World) (b mp : Nat) (s : Option Nat) (Ad : Option Addr) (cd : Nat) (st st' : St) (p : S74) (x : S33) (A5 : Option Addr) (c5 : Nat), MkAt w0 W b mp s Ad cd defs st → Kd.F k33 W (fun k => ¬ Zn b mp s k) A5 x.f5.length x.f5 → x.f5.length ≤ c5 → mkF defs sz n x st = some (p, st') →
  Calls Try.prog 30 #[.pointer (some ⟨b, 0, none⟩), .agg #[.int .i64 x.f0, .int .i64 x.f1, .int .i64 x.f2, .int .i64 x.f3, .string x.f4, .slice A5 x.f5.length c5]] W (MadeBy w0 W b mp s Ad cd defs st' p)
theorem MkAt.linked {w0 W W1 : World} {b mp : Nat} {s : Option Nat} {Ad : Option Addr} {cd : Nat} {defs : List S61} {st : St} {l : List S51} (h : MkAt w0 W b mp s Ad cd defs st) (hg : W.grownBy W1 (some mp)) (hm : MapAt W1 mp l) : MkAt w0 W1 b mp s Ad cd defs ⟨st.sets, l⟩ := by
  obtain ⟨As, cs, h1, h2, h3⟩ := h.blk
  refine ⟨⟨As, cs, blk_grown h1 hg (fun e => cells_ne_map h1 h.map (by injection e)), h2, intR_to h3 (fun k hk => hg.block k (intR_lt h3 k hk) (fun e => MapAt.ne_own h3 h.map k hk (by injection e))) h3.1⟩, hm, ?_, h.hb, h.hmp, h.hcd, h.defs⟩
  exact h.below.trans ⟨hg.os, hg.tape, hg.output, hg.size, fun k hk => hg.block k (Nat.lt_of_lt_of_le hk h.below.size) (fun e => by have := h.hmp; injection e with e; omega)⟩
/-- From the call's begin on: the maker as it is now, and what is kept. -/
structure Chn (w0 W W1 V : World) (b mp : Nat) (s s1 : Option Nat) (Ad : Option Addr) (cd : Nat) (defs : List S61) (st1 : St) : Prop where
  ma : MkAt w0 V b mp s1 Ad cd defs st1
  k : Kept W1 V (Zn b mp s)
  s2 : Sets2 W1 s s1
theorem Chn.start {w0 W W1 : World} {b mp : Nat} {s : Option Nat} {Ad : Option Addr} {cd : Nat} {defs : List S61} {st : St} (h : MkAt w0 W b mp s Ad cd defs st) (hb : Below W.heap.size W W1) : Chn w0 W W1 W1 b mp s s Ad cd defs st := ⟨h.below_ hb, Kept.refl _ _, .inl rfl⟩
theorem Chn.below {w0 W W1 V V1 : World} {b mp : Nat} {s s1 : Option Nat} {Ad : Option Addr} {cd : Nat} {defs : List S61} {st1 : St} (h : Chn w0 W W1 V b mp s s1 Ad cd defs st1) (hb : Below V.heap.size V V1) : Chn w0 W W1 V1 b mp s s1 Ad cd defs st1 := ⟨h.ma.below_ hb, h.k.below hb, h.s2⟩
theorem Chn.made {w0 W W1 V V1 : World} {b mp : Nat} {s s1 s2 : Option Nat} {Ad : Option Addr} {cd : Nat} {defs : List S61} {st1 st2 : St} (h : Chn w0 W W1 V b mp s s1 Ad cd defs st1) (hm : MkAt w0 V1 b mp s2 Ad cd defs st2) (hk : Kept V V1 (Zn b mp s1)) (h2 : Sets2 V s1 s2) : Chn w0 W W1 V1 b mp s s2 Ad cd defs st2 := ⟨hm, Kept.zn h.k hk h.s2, h.s2.trans h2 h.k.1⟩
theorem Chn.linked {w0 W W1 V V1 : World} {b mp : Nat} {s s1 : Option Nat} {Ad : Option Addr} {cd : Nat} {defs : List S61} {st1 : St} {l : List S51} (h : Chn w0 W W1 V b mp s s1 Ad cd defs st1) (hg : V.grownBy V1 (some mp)) (hm : MapAt V1 mp l) : Chn w0 W W1 V1 b mp s s1 Ad cd defs ⟨st1.sets, l⟩ := ⟨h.ma.linked hg hm, Kept.of_grown hg h.k (fun k hk => .inl (.inr (.inl (by injection hk with hk; exact hk.symm)))), h.s2⟩
/-- A block of the call's begin, none of the maker's, is as it was. -/
theorem Chn.blk {w0 W W1 V : World} {b mp : Nat} {s s1 : Option Nat} {Ad : Option Addr} {cd : Nat} {defs : List S61} {st1 : St} (h : Chn w0 W W1 V b mp s s1 Ad cd defs st1) {g : Nat} {o : Obj} (ho : W1.heap[g]? = some o) (hn : ¬ Zn b mp s g) : V.heap[g]? = some o := (h.k.2 g (blk_lt ho) hn).trans ho
theorem Chn.foot {w0 W W1 V : World} {b mp : Nat} {s s1 : Option Nat} {Ad : Option Addr} {cd : Nat} {defs : List S61} {st1 : St} (h : Chn w0 W W1 V b mp s s1 Ad cd defs st1) {A : Option Addr} {n : Nat} {xs : List S33} (hF : Kd.F k33 W1 (fun k => ¬ Zn b mp s k) A n xs) : Kd.F k33 V (fun k => ¬ Zn b mp s1 k) A n xs :=
  Kd.F_mono (Kd.F_step (Kd.F_bound hF) (fun k ho hlt => h.k.2 k hlt ho.1)) (fun k ho => Zn_step h.s2 ho.2 ho.1)
theorem foot_new {V V1 : World} {w0 : World} {b mp : Nat} {s1 : Option Nat} {Ad : Option Addr} {cd : Nat} {defs : List S61} {st1 : St} (h : MkAt w0 V b mp s1 Ad cd defs st1) {A : Option Addr} {n : Nat} {xs : List S33} (hF : Kd.F k33 V1 (fun k => ¬ Zn b mp s1 k ∨ V.heap.size ≤ k) A n xs) : Kd.F k33 V1 (fun k => ¬ Zn b mp s1 k) A n xs :=
  Kd.F_mono hF (fun k ho => ho.elim id (fun hk hz => by have := h.s_lt hz; omega))
/-- A piece's rows, behind what another call has done. -/
structure RowsAt (V : World) (base : Nat) (b mp : Nat) (s1 : Option Nat) (p : S74) (Af Ae : Option Addr) (cf ce : Nat) : Prop where
  f : Kd.R k94 94 V base (fun k => ¬ Zn b mp s1 k ∧ some k ≠ (Value.slice Ae p.f1.length ce).ownBlock) (.slice Af p.f0.length cf) p.f0
  e : Kd.R k94 94 V base (fun k => ¬ Zn b mp s1 k ∧ some k ≠ (Value.slice Af p.f0.length cf).ownBlock) (.slice Ae p.f1.length ce) p.f1
theorem RowsAt.of {w0 V V1 : World} {b mp : Nat} {s s1 : Option Nat} {Ad : Option Addr} {cd : Nat} {defs : List S61} {st : St} {p : S74} {Af Ae : Option Addr} {cf ce : Nat} (hM : MkAt w0 V b mp s Ad cd defs st)
    (rf : Kd.R k94 94 V1 V.heap.size (fun k => some k ≠ s1 ∧ some k ≠ (Value.slice Ae p.f1.length ce).ownBlock) (.slice Af p.f0.length cf) p.f0) (re : Kd.R k94 94 V1 V.heap.size (fun k => some k ≠ s1 ∧ some k ≠ (Value.slice Af p.f0.length cf).ownBlock) (.slice Ae p.f1.length ce) p.f1) : RowsAt V1 V.heap.size b mp s1 p Af Ae cf ce := by
  have z : ∀ k, V.heap.size ≤ k → some k ≠ s1 → ¬ Zn b mp s1 k := fun k hk hn hz => by
    rcases hz with e | e | e
    · have := hM.lt; omega
    · have := hM.map.lt; omega
    · exact hn e
  exact ⟨spR_to rf (fun _ _ => rfl) (fun k hk => ⟨z k (spR_lt rf k hk).1 (rf.1 k hk).1, (rf.1 k hk).2⟩), spR_to re (fun _ _ => rfl) (fun k hk => ⟨z k (spR_lt re k hk).1 (re.1 k hk).1, (re.1 k hk).2⟩)⟩
theorem RowsAt.below {V V1 : World} {base : Nat} {b mp : Nat} {s1 : Option Nat} {p : S74} {Af Ae : Option Addr} {cf ce : Nat} (h : RowsAt V base b mp s1 p Af Ae cf ce) (hb : Below V.heap.size V V1) : RowsAt V1 base b mp s1 p Af Ae cf ce := ⟨Kd.R_below h.f hb, Kd.R_below h.e hb⟩
theorem RowsAt.kept {V V1 : World} {base : Nat} {b mp : Nat} {s1 s2 : Option Nat} {p : S74} {Af Ae : Option Addr} {cf ce : Nat} (h : RowsAt V base b mp s1 p Af Ae cf ce) (hk : Kept V V1 (Zn b mp s1)) (h2 : Sets2 V s1 s2) : RowsAt V1 base b mp s2 p Af Ae cf ce :=
  ⟨spR_to h.f (fun k hq => hk.2 k (spR_lt h.f k hq).2 (h.f.1 k hq).1) (fun k hq => ⟨Zn_step h2 (spR_lt h.f k hq).2 (h.f.1 k hq).1, (h.f.1 k hq).2⟩), spR_to h.e (fun k hq => hk.2 k (spR_lt h.e k hq).2 (h.e.1 k hq).1) (fun k hq => ⟨Zn_step h2 (spR_lt h.e k hq).2 (h.e.1 k hq).1, (h.e.1 k hq).2⟩)⟩
theorem RowsAt.pc {V : World} {base : Nat} {b mp : Nat} {s1 : Option Nat} {p : S74} {Af Ae : Option Addr} {cf ce : Nat} (h : RowsAt V base b mp s1 p Af Ae cf ce) (ho : okP p = true) : PcC V Af Ae cf ce p.f0 p.f1 := by
  obtain ⟨h1, h2, h3, h4⟩ := okP_at ho
  obtain ⟨_, q1, q2⟩ := Kd.R_reads' h.f
  obtain ⟨_, q3, q4⟩ := Kd.R_reads' h.e
  exact ⟨q2, q4, q1, q3, by omega, by omega, h3, h4⟩
set_option maxRecDepth 100000 in
set_option maxHeartbeats 8000000 in
theorem make_pos (defs : List S61) (sz : S33 → Option Int) (n : Nat) (w0 W : World) (b mp : Nat) (s : Option Nat) (Ad : Option Addr) (cd : Nat) (st st' : St) (p : S74) (x : S33) (A5 : Option Addr) (c5 : Nat) (hM : MkAt w0 W b mp s Ad cd defs st) (hx : x.f0 = 2 ∨ x.f0 = 3) (h : mkF defs sz (n + 1) x st = some (p, st')) :
    Calls Try.prog 30 #[.pointer (some ⟨b, 0, none⟩), .agg #[.int .i64 x.f0, .int .i64 x.f1, .int .i64 x.f2, .int .i64 x.f3, .string x.f4, .slice A5 x.f5.length c5]] W (MadeBy w0 W b mp s Ad cd defs st' p) := by
  rw [mkF, if_pos hx] at h
  by_cases hn : st.sets.length < 1000000
  case neg => rw [if_neg hn] at h; cases h
  rw [if_pos hn] at h
  injection h with h
  injection h with h1 h2
  subst h1 h2
  obtain ⟨W1, hWW⟩ : ∃ W1, (W.alloc (.cells #[.int .i64 x.f0, .int .i64 x.f1, .int .i64 x.f2, .int .i64 x.f3, .string x.f4, .slice A5 x.f5.length c5] 33)).alloc (.cells #[.slice none 0 0, .slice none 0 0, .int .i64 0] 74) = W1 := ⟨_, rfl⟩
  have hW1 := below_alloc (below_alloc (Below.refl W.heap.size W) (.cells #[.int .i64 x.f0, .int .i64 x.f1, .int .i64 x.f2, .int .i64 x.f3, .string x.f4, .slice A5 x.f5.length c5] 33)) (.cells #[.slice none 0 0, .slice none 0 0, .int .i64 0] 74)
  have hx0 : W1.heap[W.heap.size]? = some (.cells #[.int .i64 x.f0, .int .i64 x.f1, .int .i64 x.f2, .int .i64 x.f3, .string x.f4, .slice A5 x.f5.length c5] 33 (0, 0)) := by rw [← hWW]; exact blk_alloc (heap_alloc_new W _) _
  have hr0 : W1.heap[W.heap.size + 1]? = some (.cells #[.slice none 0 0, .slice none 0 0, .int .i64 0] 74 (0, 0)) := by
    have h := heap_alloc_new (W.alloc (.cells #[.int .i64 x.f0, .int .i64 x.f1, .int .i64 x.f2, .int .i64 x.f3, .string x.f4, .slice A5 x.f5.length c5] 33)) (.cells #[.slice none 0 0, .slice none 0 0, .int .i64 0] 74)
    rwa [hWW, show (W.alloc (.cells #[.int .i64 x.f0, .int .i64 x.f1, .int .i64 x.f2, .int .i64 x.f3, .string x.f4, .slice A5 x.f5.length c5] 33)).heap.size = W.heap.size + 1 from Array.size_push _] at h
  rw [hWW] at hW1
  have HM := Aside0.mk hM
  have HW1 := Aside0.mk hW1
  have HM1 := Aside0.mk (hM.below_ hW1)
  have HR0 := Aside0.mk hr0
  have HN := Aside0.mk hn
  have HNR : Aside0 (¬ Zn b mp s (W.heap.size + 1)) := ⟨fun hz => by have := hM.s_lt hz; omega⟩
  have d0 := cellAt (i := 0) (u := .int .i64 x.f0) hx0 rfl
  have d1 := cellAt (i := 1) (u := .int .i64 x.f1) hx0 rfl
  have d2 := cellAt (i := 2) (u := .int .i64 x.f2) hx0 rfl
  have d3 := cellAt (i := 3) (u := .int .i64 x.f3) hx0 rfl
  have d4 := cellAt (i := 4) (u := .string x.f4) hx0 rfl
  have d5 := cellAt (i := 5) (u := .slice A5 x.f5.length c5) hx0 rfl
  have hlt1 := blk_lt hr0
  have HLT := Aside0.mk hlt1
  clear hM hW1 hx0 hr0 hn hlt1
  have hpos := position_calls w0 W1 b mp s Ad cd defs st x A5 c5 HM1.out HN.out
  obtain ⟨o, ho⟩ : ∃ o, (if x.f0 = 2 then idxD defs x.f4 else -1) = o := ⟨_, rfl⟩
  rw [ho] at hpos ⊢
  have HPOS := Aside0.mk hpos
  clear hpos ho
  by_cases h2 : x.f0 = 2
  · have c1 : (x.f0 == 2) = true := beq_iff_eq.2 h2
    clear h2 hx
    go_enter Try.func30, Try.ntmps30
    go_wp2_with (go_at_call 40; refine HPOS.out.mono ?_; rintro e w2 ⟨s', vf, ve, rfl, m1, m2, m3, m4, m5⟩; obtain ⟨Af, cf, ef⟩ := Kd.R_slice m4; subst ef; obtain ⟨Ae, ce, ee⟩ := Kd.R_slice m5; subst ee; have HMM := Aside0.mk (And.intro m1 (And.intro m2 (And.intro m3 (And.intro m4 m5)))); have HR2 := Aside0.mk ((m2.2 _ HLT.out HNR.out).trans HR0.out); have k0 := cellAt (i := 0) (u := .slice none 0 0) HR2.out rfl; have k1 := cellAt (i := 1) (u := .slice none 0 0) HR2.out rfl; have k2 := cellAt (i := 2) (u := .int .i64 0) HR2.out rfl; have n0 := blk_frozen HR2.out 0; have n1 := blk_frozen HR2.out 1; have n2 := blk_frozen HR2.out 2; clear m1 m2 m3 m4 m5)
    have hP7 := blk_put (blk_put (blk_put HR2.out 0 (.slice Af 1 cf) (cs' := #[.slice Af 1 cf, .slice none 0 0, .int .i64 0]) rfl) 1 (.slice Ae 1 ce) (cs' := #[.slice Af 1 cf, .slice Ae 1 ce, .int .i64 0]) rfl) 2 (.int .i64 1152921504606846976) (cs' := #[.slice Af 1 cf, .slice Ae 1 ce, .int .i64 1152921504606846976]) rfl
    have hg7 := set3_grown w2 (W.heap.size + 1) (.slice Af 1 cf) (.slice Ae 1 ce) (.int .i64 1152921504606846976)
    refine bodyPost_ret (results_cell_row rfl _ _ (W.heap.size + 1) 74 #[.slice Af 1 cf, .slice Ae 1 ce, .int .i64 1152921504606846976] (0, 0) _ (by rfl) hP7 Try.underlying74 rfl (by kernel_rfl)) rfl ?_
    exact made_end (p := ⟨[⟨(st.sets.length : Int), 0⟩], [⟨(st.sets.length : Int), 0⟩], tinf⟩) HM.out HW1.out HMM.out.1 HMM.out.2.1 HMM.out.2.2.1 (by omega) HLT.out ⟨_, HR2.out⟩ HMM.out.2.2.2.1 HMM.out.2.2.2.2 hg7
  · have c1 : (x.f0 == 2) = false := beq_eq_false_iff_ne.2 h2
    have c2 : (x.f0 == 3) = true := beq_iff_eq.2 (hx.resolve_left h2)
    clear h2 hx
    go_enter Try.func30, Try.ntmps30
    go_wp2_with (go_at_call 40; refine HPOS.out.mono ?_; rintro e w2 ⟨s', vf, ve, rfl, m1, m2, m3, m4, m5⟩; obtain ⟨Af, cf, ef⟩ := Kd.R_slice m4; subst ef; obtain ⟨Ae, ce, ee⟩ := Kd.R_slice m5; subst ee; have HMM := Aside0.mk (And.intro m1 (And.intro m2 (And.intro m3 (And.intro m4 m5)))); have HR2 := Aside0.mk ((m2.2 _ HLT.out HNR.out).trans HR0.out); have k0 := cellAt (i := 0) (u := .slice none 0 0) HR2.out rfl; have k1 := cellAt (i := 1) (u := .slice none 0 0) HR2.out rfl; have k2 := cellAt (i := 2) (u := .int .i64 0) HR2.out rfl; have n0 := blk_frozen HR2.out 0; have n1 := blk_frozen HR2.out 1; have n2 := blk_frozen HR2.out 2; clear m1 m2 m3 m4 m5)
    have hP7 := blk_put (blk_put (blk_put HR2.out 0 (.slice Af 1 cf) (cs' := #[.slice Af 1 cf, .slice none 0 0, .int .i64 0]) rfl) 1 (.slice Ae 1 ce) (cs' := #[.slice Af 1 cf, .slice Ae 1 ce, .int .i64 0]) rfl) 2 (.int .i64 1152921504606846976) (cs' := #[.slice Af 1 cf, .slice Ae 1 ce, .int .i64 1152921504606846976]) rfl
    have hg7 := set3_grown w2 (W.heap.size + 1) (.slice Af 1 cf) (.slice Ae 1 ce) (.int .i64 1152921504606846976)
    refine bodyPost_ret (results_cell_row rfl _ _ (W.heap.size + 1) 74 #[.slice Af 1 cf, .slice Ae 1 ce, .int .i64 1152921504606846976] (0, 0) _ (by rfl) hP7 Try.underlying74 rfl (by kernel_rfl)) rfl ?_
    exact made_end (p := ⟨[⟨(st.sets.length : Int), 0⟩], [⟨(st.sets.length : Int), 0⟩], tinf⟩) HM.out HW1.out HMM.out.1 HMM.out.2.1 HMM.out.2.2.1 (by omega) HLT.out ⟨_, HR2.out⟩ HMM.out.2.2.2.1 HMM.out.2.2.2.2 hg7
set_option maxRecDepth 100000 in
set_option maxHeartbeats 8000000 in
theorem make_cat (defs : List S61) (sz : S33 → Option Int) (n : Nat) (ih : mkOk defs sz n) (w0 W : World) (b mp : Nat) (s : Option Nat) (Ad : Option Addr) (cd : Nat) (st st' : St) (p : S74) (x : S33) (A5 : Option Addr) (c5 : Nat) (hM : MkAt w0 W b mp s Ad cd defs st) (hF : Kd.F k33 W (fun k => ¬ Zn b mp s k) A5 x.f5.length x.f5) (hc5 : x.f5.length ≤ c5) (hx : x.f0 = 4) (h : mkF defs sz (n + 1) x st = some (p, st')) :
    Calls Try.prog 30 #[.pointer (some ⟨b, 0, none⟩), .agg #[.int .i64 x.f0, .int .i64 x.f1, .int .i64 x.f2, .int .i64 x.f3, .string x.f4, .slice A5 x.f5.length c5]] W (MadeBy w0 W b mp s Ad cd defs st' p) := by
  rw [mkF, if_neg (by omega), if_pos hx] at h
  obtain ⟨⟨a, st1⟩, ha, h⟩ := Option.bind_eq_some_iff.1 h
  obtain ⟨⟨d, st2⟩, hd, h⟩ := Option.bind_eq_some_iff.1 h
  simp only [bothF] at h
  by_cases hok : okP a = true ∧ okP d = true ∧ st2.arcs.length < 100000
  case neg => rw [if_neg hok] at h; cases h
  rw [if_pos hok] at h
  injection h with h
  injection h with h1 h2
  subst h1 h2
  have HA := Aside0.mk ha
  have HD := Aside0.mk hd
  have HOK := Aside0.mk hok
  obtain ⟨W1, hWW⟩ : ∃ W1, (W.alloc (.cells #[.int .i64 x.f0, .int .i64 x.f1, .int .i64 x.f2, .int .i64 x.f3, .string x.f4, .slice A5 x.f5.length c5] 33)).alloc (.cells #[.slice none 0 0, .slice none 0 0, .int .i64 0] 74) = W1 := ⟨_, rfl⟩
  have hW1 := below_alloc (below_alloc (Below.refl W.heap.size W) (.cells #[.int .i64 x.f0, .int .i64 x.f1, .int .i64 x.f2, .int .i64 x.f3, .string x.f4, .slice A5 x.f5.length c5] 33)) (.cells #[.slice none 0 0, .slice none 0 0, .int .i64 0] 74)
  have hx0 : W1.heap[W.heap.size]? = some (.cells #[.int .i64 x.f0, .int .i64 x.f1, .int .i64 x.f2, .int .i64 x.f3, .string x.f4, .slice A5 x.f5.length c5] 33 (0, 0)) := by rw [← hWW]; exact blk_alloc (heap_alloc_new W _) _
  have hr0 : W1.heap[W.heap.size + 1]? = some (.cells #[.slice none 0 0, .slice none 0 0, .int .i64 0] 74 (0, 0)) := by
    have h := heap_alloc_new (W.alloc (.cells #[.int .i64 x.f0, .int .i64 x.f1, .int .i64 x.f2, .int .i64 x.f3, .string x.f4, .slice A5 x.f5.length c5] 33)) (.cells #[.slice none 0 0, .slice none 0 0, .int .i64 0] 74)
    rwa [hWW, show (W.alloc (.cells #[.int .i64 x.f0, .int .i64 x.f1, .int .i64 x.f2, .int .i64 x.f3, .string x.f4, .slice A5 x.f5.length c5] 33)).heap.size = W.heap.size + 1 from Array.size_push _] at h
  rw [hWW] at hW1
  have HM := Aside0.mk hM
  have HW1 := Aside0.mk hW1
  have HCH := Aside0.mk (Chn.start hM hW1)
  have HF1 := Aside0.mk (Kd.F_below hF hW1)
  have HC5 := Aside0.mk hc5
  have HR0 := Aside0.mk hr0
  have HX0 := Aside0.mk hx0
  have HZX : Aside0 (¬ Zn b mp s W.heap.size ∧ ¬ Zn b mp s (W.heap.size + 1)) := ⟨fun hz => by have := hM.s_lt hz; omega, fun hz => by have := hM.s_lt hz; omega⟩
  have hlt1 := blk_lt hr0
  have HLT := Aside0.mk hlt1
  have d0 := cellAt (i := 0) (u := .int .i64 x.f0) hx0 rfl
  have d1 := cellAt (i := 1) (u := .int .i64 x.f1) hx0 rfl
  have d2 := cellAt (i := 2) (u := .int .i64 x.f2) hx0 rfl
  have d3 := cellAt (i := 3) (u := .int .i64 x.f3) hx0 rfl
  have d4 := cellAt (i := 4) (u := .string x.f4) hx0 rfl
  have d5 := cellAt (i := 5) (u := .slice A5 x.f5.length c5) hx0 rfl
  clear hM hW1 hx0 hr0 hlt1 hF hc5
  have c1 : (x.f0 == 2) = false := by rw [hx]; rfl
  have c2 : (x.f0 == 3) = false := by rw [hx]; rfl
  have c3 : (x.f0 == 4) = true := by rw [hx]; rfl
  clear ha hd hok hx
  have MK1 := True.intro
  have MK2 := True.intro
  go_enter Try.func30, Try.ntmps30
  go_wp2_with (first | (go_at_call 41; clear MK1; refine (part_calls x A5 c5 0 _ _ (HCH.out.foot HF1.out) HC5.out (by omega)).mono ?_; rintro e w2 ⟨A0, c0, rfl, hF0, hc0, hb2⟩; have HF0 := Aside0.mk (foot_new HCH.out.ma hF0); have HC0 := Aside0.mk hc0; have HCn := Aside0.mk (HCH.out.below hb2); clear HCH hF0 hc0 hb2; have HCH := HCn; clear HCn) | (go_at_call 30; clear MK2; refine (ih w0 w2 b mp s Ad cd st st1 a (xpart x 0) A0 c0 HCH.out.ma HF0.out HC0.out HA.out).mono ?_; rintro e w3 ⟨s1, Af, Ae, cf, ce, rfl, m1, m2, m3, m4, m5⟩; have HRA := Aside0.mk (RowsAt.of HCH.out.ma m4 m5); have HRAL := Aside0.mk (HCH.out.k.1); have HCn := Aside0.mk (HCH.out.made m1 m2 m3); clear HCH m1 m2 m3 m4 m5; have HCH := HCn; clear HCn))
  have HQB0 := Aside0.mk (heap_alloc_new w3 (.cells #[.slice Af a.f0.length cf, .slice Ae a.f1.length ce, .int .i64 a.f2] 74))
  have HCH0 := Aside0.mk ((HCH.out.below (below_alloc (Below.refl _ _) (.cells #[.slice Af a.f0.length cf, .slice Ae a.f1.length ce, .int .i64 a.f2] 74))).below (below_drew (Below.refl _ _)))
  have HRA0 := Aside0.mk ((HRA.out.below (below_alloc (Below.refl _ _) (.cells #[.slice Af a.f0.length cf, .slice Ae a.f1.length ce, .int .i64 a.f2] 74))).below (below_drew (Below.refl _ _)))
  have HQZ : Aside0 (¬ Zn b mp s1 w3.heap.size) := ⟨fun hz => by have := HCH.out.ma.s_lt hz; omega⟩
  have HQR : Aside0 (w3.heap.size ≠ W.heap.size + 1 ∧ W.heap.size ≠ W.heap.size + 1) := ⟨by have := HCH.out.k.1; have := HLT.out; omega, by omega⟩
  generalize w3.heap.size = Q at HQB0 HQZ HQR
  clear HCH HRA d0 d1 d2 d3 d4 d5
  generalize w3.alloc (.cells #[.slice Af a.f0.length cf, .slice Ae a.f1.length ce, .int .i64 a.f2] 74) = W4 at HQB0 HCH0 HRA0
  have HQB : Aside0 (W4.drew.heap[Q]? = some (.cells #[.slice Af a.f0.length cf, .slice Ae a.f1.length ce, .int .i64 a.f2] 74 (0, 0))) := ⟨HQB0.out⟩
  have HCH := HCH0
  have HRA := HRA0
  clear HQB0 HCH0 HRA0
  have HSX : Aside0 (W4.drew.cell? ⟨Q, 0, none⟩ = some (.slice Af a.f0.length cf) ∧ W4.drew.cell? ⟨Q, 1, none⟩ = some (.slice Ae a.f1.length ce) ∧ W4.drew.cell? ⟨Q, 2, none⟩ = some (.int .i64 a.f2) ∧ W4.drew.cell? ⟨W.heap.size, 0, none⟩ = some (.int .i64 x.f0) ∧ W4.drew.cell? ⟨W.heap.size, 1, none⟩ = some (.int .i64 x.f1) ∧ W4.drew.cell? ⟨W.heap.size, 2, none⟩ = some (.int .i64 x.f2) ∧ W4.drew.cell? ⟨W.heap.size, 3, none⟩ = some (.int .i64 x.f3) ∧ W4.drew.cell? ⟨W.heap.size, 4, none⟩ = some (.string x.f4) ∧ W4.drew.cell? ⟨W.heap.size, 5, none⟩ = some (.slice A5 x.f5.length c5)) := ⟨⟨cellAt HQB.out rfl, cellAt HQB.out rfl, cellAt HQB.out rfl, cellAt (HCH.out.blk HX0.out HZX.out.1) rfl, cellAt (HCH.out.blk HX0.out HZX.out.1) rfl, cellAt (HCH.out.blk HX0.out HZX.out.1) rfl, cellAt (HCH.out.blk HX0.out HZX.out.1) rfl, cellAt (HCH.out.blk HX0.out HZX.out.1) rfl, cellAt (HCH.out.blk HX0.out HZX.out.1) rfl⟩⟩
  have MK3 := True.intro
  have MK4 := True.intro
  go_region_held3 (fun w' => w'.cell? ⟨Q, 0, none⟩ = some (.slice Af a.f0.length cf) ∧ w'.cell? ⟨Q, 1, none⟩ = some (.slice Ae a.f1.length ce) ∧ w'.cell? ⟨Q, 2, none⟩ = some (.int .i64 a.f2) ∧ w'.cell? ⟨W.heap.size, 0, none⟩ = some (.int .i64 x.f0) ∧ w'.cell? ⟨W.heap.size, 1, none⟩ = some (.int .i64 x.f1) ∧ w'.cell? ⟨W.heap.size, 2, none⟩ = some (.int .i64 x.f2) ∧ w'.cell? ⟨W.heap.size, 3, none⟩ = some (.int .i64 x.f3) ∧ w'.cell? ⟨W.heap.size, 4, none⟩ = some (.string x.f4) ∧ w'.cell? ⟨W.heap.size, 5, none⟩ = some (.slice A5 x.f5.length c5)) (first | (with_reducible exact HSX.out) | (refine ⟨?_, ?_, ?_, ?_, ?_, ?_, ?_, ?_, ?_⟩ <;> (refine set3_cell (by have := HQR.out; omega) ?_; first | exact (HSX.out).1 | exact (HSX.out).2.1 | exact (HSX.out).2.2.1 | exact (HSX.out).2.2.2.1 | exact (HSX.out).2.2.2.2.1 | exact (HSX.out).2.2.2.2.2.1 | exact (HSX.out).2.2.2.2.2.2.1 | exact (HSX.out).2.2.2.2.2.2.2.1 | exact (HSX.out).2.2.2.2.2.2.2.2))) (first | (go_at_call 41; clear MK3; refine (part_calls x A5 c5 1 _ _ (HCH.out.foot HF1.out) HC5.out (by omega)).mono ?_; rintro e w5 ⟨A1, c1_, rfl, hF0, hc0, hb2⟩; have HF2 := Aside0.mk (foot_new HCH.out.ma hF0); have HC2 := Aside0.mk hc0; have HCn := Aside0.mk (HCH.out.below hb2); have HRn := Aside0.mk (HRA.out.below hb2); have HQn := Aside0.mk (blk_below HQB.out hb2); clear HCH HRA HQB HSX hF0 hc0 hb2; have HCH := HCn; have HRA := HRn; have HQB := HQn; clear HCn HRn HQn; have HSX : Aside0 (w5.cell? ⟨Q, 0, none⟩ = some (.slice Af a.f0.length cf) ∧ w5.cell? ⟨Q, 1, none⟩ = some (.slice Ae a.f1.length ce) ∧ w5.cell? ⟨Q, 2, none⟩ = some (.int .i64 a.f2) ∧ w5.cell? ⟨W.heap.size, 0, none⟩ = some (.int .i64 x.f0) ∧ w5.cell? ⟨W.heap.size, 1, none⟩ = some (.int .i64 x.f1) ∧ w5.cell? ⟨W.heap.size, 2, none⟩ = some (.int .i64 x.f2) ∧ w5.cell? ⟨W.heap.size, 3, none⟩ = some (.int .i64 x.f3) ∧ w5.cell? ⟨W.heap.size, 4, none⟩ = some (.string x.f4) ∧ w5.cell? ⟨W.heap.size, 5, none⟩ = some (.slice A5 x.f5.length c5)) := ⟨⟨cellAt HQB.out rfl, cellAt HQB.out rfl, cellAt HQB.out rfl, cellAt (HCH.out.blk HX0.out HZX.out.1) rfl, cellAt (HCH.out.blk HX0.out HZX.out.1) rfl, cellAt (HCH.out.blk HX0.out HZX.out.1) rfl, cellAt (HCH.out.blk HX0.out HZX.out.1) rfl, cellAt (HCH.out.blk HX0.out HZX.out.1) rfl, cellAt (HCH.out.blk HX0.out HZX.out.1) rfl⟩⟩) | (go_at_call 30; clear MK4; refine (ih w0 w5 b mp s1 Ad cd st1 st2 d (xpart x 1) A1 c1_ HCH.out.ma HF2.out HC2.out HD.out).mono ?_; rintro e w6 ⟨s2, Bf, Be, df, de, rfl, m1, m2, m3, m4, m5⟩; have HRD := Aside0.mk (RowsAt.of HCH.out.ma m4 m5); have HRn := Aside0.mk (HRA.out.kept m2 m3); have HQn := Aside0.mk ((m2.2 Q (blk_lt HQB.out) HQZ.out).trans HQB.out); have HCn := Aside0.mk (HCH.out.made m1 m2 m3); have HL6 := Aside0.mk (Nat.le_trans HCH.out.k.1 m2.1); clear HCH HRA HQB HSX m1 m2 m3 m4 m5; have HCH := HCn; have HRA := HRn; have HQB := HQn; clear HCn HRn HQn; have HSX : Aside0 (w6.cell? ⟨Q, 0, none⟩ = some (.slice Af a.f0.length cf) ∧ w6.cell? ⟨Q, 1, none⟩ = some (.slice Ae a.f1.length ce) ∧ w6.cell? ⟨Q, 2, none⟩ = some (.int .i64 a.f2) ∧ w6.cell? ⟨W.heap.size, 0, none⟩ = some (.int .i64 x.f0) ∧ w6.cell? ⟨W.heap.size, 1, none⟩ = some (.int .i64 x.f1) ∧ w6.cell? ⟨W.heap.size, 2, none⟩ = some (.int .i64 x.f2) ∧ w6.cell? ⟨W.heap.size, 3, none⟩ = some (.int .i64 x.f3) ∧ w6.cell? ⟨W.heap.size, 4, none⟩ = some (.string x.f4) ∧ w6.cell? ⟨W.heap.size, 5, none⟩ = some (.slice A5 x.f5.length c5)) := ⟨⟨cellAt HQB.out rfl, cellAt HQB.out rfl, cellAt HQB.out rfl, cellAt (HCH.out.blk HX0.out HZX.out.1) rfl, cellAt (HCH.out.blk HX0.out HZX.out.1) rfl, cellAt (HCH.out.blk HX0.out HZX.out.1) rfl, cellAt (HCH.out.blk HX0.out HZX.out.1) rfl, cellAt (HCH.out.blk HX0.out HZX.out.1) rfl, cellAt (HCH.out.blk HX0.out HZX.out.1) rfl⟩⟩) | (go_at_call 42; refine (both_calls b mp st2.arcs Af Ae Bf Be cf ce df de a.f0 a.f1 d.f0 d.f1 a.f2 d.f2 w6 (by obtain ⟨As_, cs_, hb_, _⟩ := HCH.out.ma.blk; exact cellAt hb_ rfl) HCH.out.ma.map (HRA.out.pc HOK.out.1) (HRD.out.pc HOK.out.2.1) (by have h1 := okP_at HOK.out.1; have h2 := okP_at HOK.out.2.1; have h3 := HOK.out.2.2; have h7 := Nat.mul_le_mul (Nat.le_of_lt h1.2.1) (Nat.le_of_lt h2.1); omega)).mono ?_; rintro e w7 ⟨vf, ve, rfl, g1, g2, g3, g4⟩; obtain ⟨Uf, uf, euf⟩ := Kd.R_slice g3; subst euf; obtain ⟨Ue, ue, eue⟩ := Kd.R_slice g4; subst eue; have HG34 := Aside0.mk (And.intro g3 g4); have HCn := Aside0.mk (HCH.out.linked g1 g2); have HQn := Aside0.mk (blk_grown HQB.out g1 (fun e => cells_ne_map HQB.out HCH.out.ma.map (by injection e))); have HN6 := Aside0.mk HCH.out.ma; clear HCH HQB HSX g1 g2 g3 g4; have HCH := HCn; have HQB := HQn; clear HCn HQn; have HSX : Aside0 (w7.cell? ⟨Q, 0, none⟩ = some (.slice Af a.f0.length cf) ∧ w7.cell? ⟨Q, 1, none⟩ = some (.slice Ae a.f1.length ce) ∧ w7.cell? ⟨Q, 2, none⟩ = some (.int .i64 a.f2) ∧ w7.cell? ⟨W.heap.size, 0, none⟩ = some (.int .i64 x.f0) ∧ w7.cell? ⟨W.heap.size, 1, none⟩ = some (.int .i64 x.f1) ∧ w7.cell? ⟨W.heap.size, 2, none⟩ = some (.int .i64 x.f2) ∧ w7.cell? ⟨W.heap.size, 3, none⟩ = some (.int .i64 x.f3) ∧ w7.cell? ⟨W.heap.size, 4, none⟩ = some (.string x.f4) ∧ w7.cell? ⟨W.heap.size, 5, none⟩ = some (.slice A5 x.f5.length c5)) := ⟨⟨cellAt HQB.out rfl, cellAt HQB.out rfl, cellAt HQB.out rfl, cellAt (HCH.out.blk HX0.out HZX.out.1) rfl, cellAt (HCH.out.blk HX0.out HZX.out.1) rfl, cellAt (HCH.out.blk HX0.out HZX.out.1) rfl, cellAt (HCH.out.blk HX0.out HZX.out.1) rfl, cellAt (HCH.out.blk HX0.out HZX.out.1) rfl, cellAt (HCH.out.blk HX0.out HZX.out.1) rfl⟩⟩; have HR7 := Aside0.mk (HCH.out.blk HR0.out HZX.out.2); have k0 := cellAt (i := 0) (u := .slice none 0 0) HR7.out rfl; have k1 := cellAt (i := 1) (u := .slice none 0 0) HR7.out rfl; have k2 := cellAt (i := 2) (u := .int .i64 0) HR7.out rfl; have n0 := blk_frozen HR7.out 0; have n1 := blk_frozen HR7.out 1; have n2 := blk_frozen HR7.out 2))
  have hP7 := blk_put (blk_put (blk_put HR7.out 0 (.slice Uf (a.f0.length + (dearS d.f0 a.f2).length) uf) (cs' := #[.slice Uf (a.f0.length + (dearS d.f0 a.f2).length) uf, .slice none 0 0, .int .i64 0]) rfl) 1 (.slice Ue ((dearS a.f1 d.f2).length + d.f1.length) ue) (cs' := #[.slice Uf (a.f0.length + (dearS d.f0 a.f2).length) uf, .slice Ue ((dearS a.f1 d.f2).length + d.f1.length) ue, .int .i64 0]) rfl) 2 (.int .i64 (tadd a.f2 d.f2)) (cs' := #[.slice Uf (a.f0.length + (dearS d.f0 a.f2).length) uf, .slice Ue ((dearS a.f1 d.f2).length + d.f1.length) ue, .int .i64 (tadd a.f2 d.f2)]) rfl
  have hg7 := set3_grown w7 (W.heap.size + 1) (.slice Uf (a.f0.length + (dearS d.f0 a.f2).length) uf) (.slice Ue ((dearS a.f1 d.f2).length + d.f1.length) ue) (.int .i64 (tadd a.f2 d.f2))
  go_wp2
  refine bodyPost_ret (results_cell_row rfl _ _ (W.heap.size + 1) 74 #[.slice Uf (a.f0.length + (dearS d.f0 a.f2).length) uf, .slice Ue ((dearS a.f1 d.f2).length + d.f1.length) ue, .int .i64 (tadd a.f2 d.f2)] (0, 0) _ (by rfl) hP7 Try.underlying74 rfl (by kernel_rfl)) rfl ?_
  have hn6 : ∀ k, w6.heap.size ≤ k → some k ≠ s2 := fun k hk e => by have := HN6.out.s_lt (k := k) (.inr (.inr e)); omega
  have e := made_end (p := ⟨a.f0 ++ dearS d.f0 a.f2, dearS a.f1 d.f2 ++ d.f1, tadd a.f2 d.f2⟩) HM.out HW1.out HCH.out.ma HCH.out.k HCH.out.s2 (T := W.heap.size + 1) (by omega) HLT.out ⟨_, HR7.out⟩ (Kd.R_lower (spR_to HG34.out.1 (fun _ _ => rfl) (fun k hk => ⟨hn6 k (spR_lt HG34.out.1 k hk).1, HG34.out.1.1 k hk⟩)) HL6.out) (Kd.R_lower (spR_to HG34.out.2 (fun _ _ => rfl) (fun k hk => ⟨hn6 k (spR_lt HG34.out.2 k hk).1, HG34.out.2.1 k hk⟩)) HL6.out) hg7
  simp only [List.length_append] at e
  exact e
end Go.Proofs.Ytnnpfgpfkningaa.P
namespace Go.Proofs.Ytnnpfgpfkningaa.P
open Go.RowKit Go.Proofs.YtnnpfgpfkningaaW.PrintWords Go.Proofs.YtnnpfgpfkningaaW.PrintLast Go.Proofs.YtnnpfgpfkningaaW.PrintMore
attribute [local go_sem] max2_int min2_int max_two min_two max_three min_three max_four min_four   -- for this text's walks alone
attribute [local go_sem ↓ high] Go.Proofs.YtnnpfgpfkningaaX.isSome_setCell
set_option linter.unusedVariables false
set_option linter.unusedSimpArgs false
theorem part0_calls (x : S33) (A5 : Option Addr) (c5 : Nat) (P0 : Nat → Prop) (w : World) (h5 : Kd.F k33 w P0 A5 x.f5.length x.f5) (hc5 : x.f5.length ≤ c5) :
    Calls Try.prog 41 #[.agg #[.int .i64 x.f0, .int .i64 x.f1, .int .i64 x.f2, .int .i64 x.f3, .string x.f4, .slice A5 x.f5.length c5], .int .i64 0] w fun e w' => ∃ (A : Option Addr) (c : Nat), e = .returned (.agg #[.int .i64 (xpart x 0).f0, .int .i64 (xpart x 0).f1, .int .i64 (xpart x 0).f2, .int .i64 (xpart x 0).f3, .string (xpart x 0).f4, .slice A (xpart x 0).f5.length c]) ∧
      Kd.F k33 w' (fun k => P0 k ∨ w.heap.size ≤ k) A (xpart x 0).f5.length (xpart x 0).f5 ∧ (xpart x 0).f5.length ≤ c ∧ Below w.heap.size w w' :=
  part_calls x A5 c5 0 P0 w h5 hc5 (by omega)
theorem part1_calls (x : S33) (A5 : Option Addr) (c5 : Nat) (P0 : Nat → Prop) (w : World) (h5 : Kd.F k33 w P0 A5 x.f5.length x.f5) (hc5 : x.f5.length ≤ c5) :
    Calls Try.prog 41 #[.agg #[.int .i64 x.f0, .int .i64 x.f1, .int .i64 x.f2, .int .i64 x.f3, .string x.f4, .slice A5 x.f5.length c5], .int .i64 1] w fun e w' => ∃ (A : Option Addr) (c : Nat), e = .returned (.agg #[.int .i64 (xpart x 1).f0, .int .i64 (xpart x 1).f1, .int .i64 (xpart x 1).f2, .int .i64 (xpart x 1).f3, .string (xpart x 1).f4, .slice A (xpart x 1).f5.length c]) ∧
      Kd.F k33 w' (fun k => P0 k ∨ w.heap.size ≤ k) A (xpart x 1).f5.length (xpart x 1).f5 ∧ (xpart x 1).f5.length ≤ c ∧ Below w.heap.size w w' :=
  part_calls x A5 c5 1 P0 w h5 hc5 (by omega)
def Sep (V : World) (b mp : Nat) (s : Option Nat) (T : Nat) (o : Obj) : Prop := V.heap[T]? = some o ∧ ¬ Zn b mp s T
theorem Sep.new {w0 X : World} {b mp : Nat} {s : Option Nat} {Ad : Option Addr} {cd : Nat} {defs : List S61} {st : St} (hm : MkAt w0 X b mp s Ad cd defs st) (t : TypeId) (cs : Array Value) : Sep (X.alloc (.cells cs t)) b mp s X.heap.size (.cells cs t (0, 0)) := ⟨heap_alloc_new X _, fun hz => by have := hm.s_lt hz; omega⟩
theorem Sep.new2 {w0 X : World} {b mp : Nat} {s : Option Nat} {Ad : Option Addr} {cd : Nat} {defs : List S61} {st : St} (hm : MkAt w0 X b mp s Ad cd defs st) (o' : Obj) (t : TypeId) (cs : Array Value) : Sep ((X.alloc o').alloc (.cells cs t)) b mp s (X.heap.size + 1) (.cells cs t (0, 0)) := by
  have h := Sep.new (hm.below_ (below_alloc (Below.refl _ _) o')) t cs
  rwa [show (X.alloc o').heap.size = X.heap.size + 1 from Array.size_push _] at h
theorem Sep.alloc {V : World} {b mp : Nat} {s : Option Nat} {T : Nat} {o : Obj} (h : Sep V b mp s T o) (o' : Obj) : Sep (V.alloc o') b mp s T o := ⟨blk_alloc h.1 o', h.2⟩
theorem Sep.made {V V1 : World} {b mp : Nat} {s s1 : Option Nat} {T : Nat} {o : Obj} (hk : Kept V V1 (Zn b mp s) ∧ Sets2 V s s1) (h : Sep V b mp s T o) : Sep V1 b mp s1 T o := ⟨(hk.1.2 T (blk_lt h.1) h.2).trans h.1, Zn_step hk.2 (blk_lt h.1) h.2⟩
theorem RowsAt.lower {V : World} {base B : Nat} {b mp : Nat} {s1 : Option Nat} {p : S74} {Af Ae : Option Addr} {cf ce : Nat} (h : RowsAt V B b mp s1 p Af Ae cf ce) (hb : base ≤ B) : RowsAt V base b mp s1 p Af Ae cf ce := ⟨Kd.R_lower h.f hb, Kd.R_lower h.e hb⟩
structure AltAt (w0 W W1 V : World) (b mp : Nat) (s s2 : Option Nat) (Ad : Option Addr) (cd : Nat) (defs : List S61) (st2 : St) (T6 T7 B : Nat) (a d : S74) (Af Ae Bf Be : Option Addr) (cf ce df de : Nat) : Prop where
  ch : Chn w0 W W1 V b mp s s2 Ad cd defs st2
  ra : RowsAt V W1.heap.size b mp s2 a Af Ae cf ce
  rb : RowsAt V B b mp s2 d Bf Be df de
  af : ∀ k, (Value.slice Af a.f0.length cf).ownBlock = some k → k < B
  ae : ∀ k, (Value.slice Ae a.f1.length ce).ownBlock = some k → k < B
  hB : W1.heap.size ≤ B
  t6 : Sep V b mp s2 T6 (.cells #[.slice Af a.f0.length cf, .slice Ae a.f1.length ce, .int .i64 a.f2] 74 (0, 0))
  t7 : Sep V b mp s2 T7 (.cells #[.slice Bf d.f0.length df, .slice Be d.f1.length de, .int .i64 d.f2] 74 (0, 0))
  l6 : W1.heap.size ≤ T6
  l7 : W1.heap.size ≤ T7
/-- What stands behind alt's first region. -/
def AltRel (w0 W W1 : World) (b mp : Nat) (s : Option Nat) (Ad : Option Addr) (cd : Nat) (defs : List S61) (st2 : St) (a d : S74) (v6 v7 : Value) (V : World) : Prop :=
  ∃ (T6 T7 B : Nat) (s2 : Option Nat) (Af Ae Bf Be : Option Addr) (cf ce df de : Nat), v6 = .pointer (some ⟨T6, 0, none⟩) ∧ v7 = .pointer (some ⟨T7, 0, none⟩) ∧ AltAt w0 W W1 V b mp s s2 Ad cd defs st2 T6 T7 B a d Af Ae Bf Be cf ce df de
theorem AltAt.rel {w0 W W1 V : World} {b mp : Nat} {s s2 : Option Nat} {Ad : Option Addr} {cd : Nat} {defs : List S61} {st2 : St} {T6 T7 B : Nat} {a d : S74} {Af Ae Bf Be : Option Addr} {cf ce df de : Nat} (h : AltAt w0 W W1 V b mp s s2 Ad cd defs st2 T6 T7 B a d Af Ae Bf Be cf ce df de) : AltRel w0 W W1 b mp s Ad cd defs st2 a d (.pointer (some ⟨T6, 0, none⟩)) (.pointer (some ⟨T7, 0, none⟩)) V := ⟨T6, T7, B, s2, Af, Ae, Bf, Be, cf, ce, df, de, rfl, rfl, h⟩
/-- A store into a block of the call's own, none of the maker's. -/
theorem MkAt.far {w0 W : World} {b mp : Nat} {s : Option Nat} {Ad : Option Addr} {cd : Nat} {defs : List S61} {st : St} (h : MkAt w0 W b mp s Ad cd defs st) {T : Nat} (hT : ¬ Zn b mp s T) (hw : w0.heap.size ≤ T) (i : Nat) (v : Value) : MkAt w0 (W.setCell ⟨T, i, none⟩ v) b mp s Ad cd defs st :=
  h.same (fun k hk => by rw [RowKit.Below.heap_setCell _ _ _ _ (show k ≠ T from fun e => hT (e ▸ hk))]) (by
    have hb := h.below
    exact hb.setCell hw v)
theorem Chn.far {w0 W W1 V : World} {b mp : Nat} {s s1 : Option Nat} {Ad : Option Addr} {cd : Nat} {defs : List S61} {st1 : St} (h : Chn w0 W W1 V b mp s s1 Ad cd defs st1) {T : Nat} (hT : ¬ Zn b mp s1 T) (hw : w0.heap.size ≤ W1.heap.size) (hl : W1.heap.size ≤ T) (i : Nat) (v : Value) : Chn w0 W W1 (V.setCell ⟨T, i, none⟩ v) b mp s s1 Ad cd defs st1 :=
  ⟨h.ma.far hT (Nat.le_trans hw hl) i v, h.k.setCell (.inr hl) v, h.s2⟩
theorem spR_set {base : Nat} {ok : Nat → Prop} {w : World} {v : Value} {l : List S94} (h : Kd.R k94 94 w base ok v l) {T : Nat} {cs : Array Value} (hT : w.heap[T]? = some (.cells cs 74 (0, 0))) (i : Nat) (u : Value) : Kd.R k94 94 (w.setCell ⟨T, i, none⟩ u) base ok v l :=
  spR_to h (fun k hk => by rw [RowKit.Below.heap_setCell _ _ _ _ (show k ≠ T from fun e => spR_ne h hT (by rw [← e, hk]))]) h.1
theorem RowsAt.far {V : World} {base : Nat} {b mp : Nat} {s1 : Option Nat} {p : S74} {Af Ae : Option Addr} {cf ce : Nat} (h : RowsAt V base b mp s1 p Af Ae cf ce) {T : Nat} {cs : Array Value} (hT : V.heap[T]? = some (.cells cs 74 (0, 0))) (i : Nat) (u : Value) : RowsAt (V.setCell ⟨T, i, none⟩ u) base b mp s1 p Af Ae cf ce := ⟨spR_set h.f hT i u, spR_set h.e hT i u⟩
theorem alt_mid {w0 W W1 V : World} {b mp : Nat} {s s2 : Option Nat} {Ad : Option Addr} {cd : Nat} {defs : List S61} {st2 : St} {T6 T7 B : Nat} {a d : S74} {Af Ae Bf Be : Option Addr} {cf ce df de : Nat} (hw : w0.heap.size ≤ W1.heap.size)
    (ch : Chn w0 W W1 V b mp s s2 Ad cd defs st2) (ra : RowsAt V W1.heap.size b mp s2 a Af Ae cf ce) (rb : RowsAt V B b mp s2 d Bf Be df de) (af : ∀ k, (Value.slice Af a.f0.length cf).ownBlock = some k → k < B) (ae : ∀ k, (Value.slice Ae a.f1.length ce).ownBlock = some k → k < B) (hB : W1.heap.size ≤ B)
    (t6 : Sep V b mp s2 T6 (.cells #[.slice none 0 0, .slice none 0 0, .int .i64 0] 74 (0, 0))) (t7 : Sep V b mp s2 T7 (.cells #[.slice none 0 0, .slice none 0 0, .int .i64 0] 74 (0, 0))) (l6 : W1.heap.size ≤ T6) (l7 : W1.heap.size ≤ T7) (hne : T6 ≠ T7) :
    AltAt w0 W W1 ((((((V.setCell ⟨T6, 0, none⟩ (.slice Af a.f0.length cf)).setCell ⟨T6, 1, none⟩ (.slice Ae a.f1.length ce)).setCell ⟨T6, 2, none⟩ (.int .i64 a.f2)).setCell ⟨T7, 0, none⟩ (.slice Bf d.f0.length df)).setCell ⟨T7, 1, none⟩ (.slice Be d.f1.length de)).setCell ⟨T7, 2, none⟩ (.int .i64 d.f2)) b mp s s2 Ad cd defs st2 T6 T7 B a d Af Ae Bf Be cf ce df de := by
  have p1 := blk_put t6.1 0 (.slice Af a.f0.length cf) (cs' := #[.slice Af a.f0.length cf, .slice none 0 0, .int .i64 0]) rfl
  have p2 := blk_put p1 1 (.slice Ae a.f1.length ce) (cs' := #[.slice Af a.f0.length cf, .slice Ae a.f1.length ce, .int .i64 0]) rfl
  have p3 := blk_put p2 2 (.int .i64 a.f2) (cs' := #[.slice Af a.f0.length cf, .slice Ae a.f1.length ce, .int .i64 a.f2]) rfl
  have q0 := blk_setFar (blk_setFar (blk_setFar t7.1 (a := ⟨T6, 0, none⟩) (by simpa using (Ne.symm hne)) (.slice Af a.f0.length cf)) (a := ⟨T6, 1, none⟩) (by simpa using (Ne.symm hne)) (.slice Ae a.f1.length ce)) (a := ⟨T6, 2, none⟩) (by simpa using (Ne.symm hne)) (.int .i64 a.f2)
  have q1 := blk_put q0 0 (.slice Bf d.f0.length df) (cs' := #[.slice Bf d.f0.length df, .slice none 0 0, .int .i64 0]) rfl
  have q2 := blk_put q1 1 (.slice Be d.f1.length de) (cs' := #[.slice Bf d.f0.length df, .slice Be d.f1.length de, .int .i64 0]) rfl
  have q3 := blk_put q2 2 (.int .i64 d.f2) (cs' := #[.slice Bf d.f0.length df, .slice Be d.f1.length de, .int .i64 d.f2]) rfl
  refine ⟨?_, ?_, ?_, af, ae, hB, ⟨?_, t6.2⟩, ⟨q3, t7.2⟩, l6, l7⟩
  · exact (((((ch.far t6.2 hw l6 _ _).far t6.2 hw l6 _ _).far t6.2 hw l6 _ _).far t7.2 hw l7 _ _).far t7.2 hw l7 _ _).far t7.2 hw l7 _ _
  · exact (((((ra.far t6.1 _ _).far p1 _ _).far p2 _ _).far q0 _ _).far q1 _ _).far q2 _ _
  · exact (((((rb.far t6.1 _ _).far p1 _ _).far p2 _ _).far q0 _ _).far q1 _ _).far q2 _ _
  · exact blk_setFar (blk_setFar (blk_setFar p3 (a := ⟨T7, 0, none⟩) (by simpa using hne) _) (a := ⟨T7, 1, none⟩) (by simpa using hne) _) (a := ⟨T7, 2, none⟩) (by simpa using hne) _
theorem kept_b {V V1 : World} (hb : Below V.heap.size V V1) (b mp : Nat) (s : Option Nat) : Kept V V1 (Zn b mp s) ∧ Sets2 V s s := ⟨Kept.of_below hb _, .inl rfl⟩
theorem mkOk.use {defs : List S61} {sz : S33 → Option Int} {n : Nat} (ih : mkOk defs sz n) (w0 W : World) (b mp : Nat) (s : Option Nat) (Ad : Option Addr) (cd : Nat) (st st' : St) (p : S74) (x : S33) (A5 : Option Addr) (c5 : Nat) (h5 : MkAt w0 W b mp s Ad cd defs st) (h6 : Kd.F k33 W (fun k => ¬ Zn b mp s k) A5 x.f5.length x.f5) (hc : x.f5.length ≤ c5) (h : mkF defs sz n x st = some (p, st')) :
    Calls Try.prog 30 #[.pointer (some ⟨b, 0, none⟩), .agg #[.int .i64 x.f0, .int .i64 x.f1, .int .i64 x.f2, .int .i64 x.f3, .string x.f4, .slice A5 x.f5.length c5]] W (MadeBy w0 W b mp s Ad cd defs st' p) := ih w0 W b mp s Ad cd st st' p x A5 c5 h5 h6 hc h
theorem rows_lt {w0 W W1 V V4 V5 : World} {Z : Nat → Prop} {base : Nat} {b mp : Nat} {s s1 : Option Nat} {Ad : Option Addr} {cd : Nat} {defs : List S61} {st1 : St} {p : S74} {Af Ae : Option Addr} {cf ce : Nat} (h : RowsAt V base b mp s1 p Af Ae cf ce) (m2 : Kept V4 V5 Z) (hb : Below V.heap.size V V4) (hc : Chn w0 W W1 V4 b mp s s1 Ad cd defs st1) :
    (∀ k, (Value.slice Af p.f0.length cf).ownBlock = some k → k < V4.heap.size) ∧ (∀ k, (Value.slice Ae p.f1.length ce).ownBlock = some k → k < V4.heap.size) ∧ W1.heap.size ≤ V4.heap.size :=
  ⟨fun k hk => Nat.lt_of_lt_of_le (spR_lt h.f k hk).2 hb.size, fun k hk => Nat.lt_of_lt_of_le (spR_lt h.e k hk).2 hb.size, hc.k.1⟩
theorem Sep.below {V V1 : World} {b mp : Nat} {s : Option Nat} {T : Nat} {o : Obj} (h : Sep V b mp s T o) (hb : Below V.heap.size V V1) : Sep V1 b mp s T o := ⟨blk_below h.1 hb, h.2⟩
theorem chn_s {w0 W W1 X V : World} {b mp : Nat} {s s1 : Option Nat} {Ad : Option Addr} {cd : Nat} {defs : List S61} {st1 : St} (h : Chn w0 W W1 X b mp s s1 Ad cd defs st1) {g : Nat} {cs : Array Value} {t : TypeId} (hx : W1.heap[g]? = some (.cells cs t (0, 0))) (hn : ¬ Zn b mp s g) (hb : Below X.heap.size X V) (i : Nat) (u : Value) (e : cs[i]? = some u) : V.cell? ⟨g, i, none⟩ = some u := cellAt (blk_below (h.blk hx hn) hb) e
theorem Sep.drew {V : World} {b mp : Nat} {s : Option Nat} {T : Nat} {o : Obj} (h : Sep V b mp s T o) : Sep V.drew b mp s T o := h
theorem alt_mid2 {w0 W W1 V : World} {b mp : Nat} {s s2 : Option Nat} {Ad : Option Addr} {cd : Nat} {defs : List S61} {st2 : St} {T7 B : Nat} {a d : S74} {Af Ae Bf Be : Option Addr} {cf ce df de : Nat} (hw : w0.heap.size ≤ W1.heap.size)
    (ch : Chn w0 W W1 V b mp s s2 Ad cd defs st2) (ra : RowsAt V W1.heap.size b mp s2 a Af Ae cf ce) (rb : RowsAt V B b mp s2 d Bf Be df de) (af : ∀ k, (Value.slice Af a.f0.length cf).ownBlock = some k → k < B) (ae : ∀ k, (Value.slice Ae a.f1.length ce).ownBlock = some k → k < B) (hB : W1.heap.size ≤ B)
    (t7 : Sep V b mp s2 T7 (.cells #[.slice none 0 0, .slice none 0 0, .int .i64 0] 74 (0, 0))) (l7 : W1.heap.size ≤ T7) :
    AltAt w0 W W1 ((((V.alloc (.cells #[.slice Af a.f0.length cf, .slice Ae a.f1.length ce, .int .i64 a.f2] 74)).setCell ⟨T7, 0, none⟩ (.slice Bf d.f0.length df)).setCell ⟨T7, 1, none⟩ (.slice Be d.f1.length de)).setCell ⟨T7, 2, none⟩ (.int .i64 d.f2)) b mp s s2 Ad cd defs st2 V.heap.size T7 B a d Af Ae Bf Be cf ce df de := by
  have hbo := below_alloc (Below.refl V.heap.size V) (.cells #[.slice Af a.f0.length cf, .slice Ae a.f1.length ce, .int .i64 a.f2] 74)
  have t6 := Sep.new ch.ma 74 #[.slice Af a.f0.length cf, .slice Ae a.f1.length ce, .int .i64 a.f2]
  have hne : V.heap.size ≠ T7 := Nat.ne_of_gt (blk_lt t7.1)
  have ch' := ch.below hbo
  have ra' := ra.below hbo
  have rb' := rb.below hbo
  have q0 := blk_below t7.1 hbo
  generalize V.alloc (.cells #[.slice Af a.f0.length cf, .slice Ae a.f1.length ce, .int .i64 a.f2] 74) = V' at *
  have q1 := blk_put q0 0 (.slice Bf d.f0.length df) (cs' := #[.slice Bf d.f0.length df, .slice none 0 0, .int .i64 0]) rfl
  have q2 := blk_put q1 1 (.slice Be d.f1.length de) (cs' := #[.slice Bf d.f0.length df, .slice Be d.f1.length de, .int .i64 0]) rfl
  have q3 := blk_put q2 2 (.int .i64 d.f2) (cs' := #[.slice Bf d.f0.length df, .slice Be d.f1.length de, .int .i64 d.f2]) rfl
  refine ⟨?_, ?_, ?_, af, ae, hB, ⟨?_, t6.2⟩, ⟨q3, t7.2⟩, ch.k.1, l7⟩
  · exact ((ch'.far t7.2 hw l7 _ _).far t7.2 hw l7 _ _).far t7.2 hw l7 _ _
  · exact ((ra'.far q0 _ _).far q1 _ _).far q2 _ _
  · exact ((rb'.far q0 _ _).far q1 _ _).far q2 _ _
  · exact blk_setFar (blk_setFar (blk_setFar t6.1 (a := ⟨T7, 0, none⟩) (by simpa using hne) _) (a := ⟨T7, 1, none⟩) (by simpa using hne) _) (a := ⟨T7, 2, none⟩) (by simpa using hne) _
theorem alt_mid3 {w0 W W1 V : World} {b mp : Nat} {s s2 : Option Nat} {Ad : Option Addr} {cd : Nat} {defs : List S61} {st2 : St} {B : Nat} {a d : S74} {Af Ae Bf Be : Option Addr} {cf ce df de : Nat}
    (ch : Chn w0 W W1 V b mp s s2 Ad cd defs st2) (ra : RowsAt V W1.heap.size b mp s2 a Af Ae cf ce) (rb : RowsAt V B b mp s2 d Bf Be df de) (af : ∀ k, (Value.slice Af a.f0.length cf).ownBlock = some k → k < B) (ae : ∀ k, (Value.slice Ae a.f1.length ce).ownBlock = some k → k < B) (hB : W1.heap.size ≤ B) :
    AltAt w0 W W1 ((V.alloc (.cells #[.slice Af a.f0.length cf, .slice Ae a.f1.length ce, .int .i64 a.f2] 74)).alloc (.cells #[.slice Bf d.f0.length df, .slice Be d.f1.length de, .int .i64 d.f2] 74)) b mp s s2 Ad cd defs st2 V.heap.size (V.heap.size + 1) B a d Af Ae Bf Be cf ce df de := by
  have hbo := below_alloc (below_alloc (Below.refl V.heap.size V) (.cells #[.slice Af a.f0.length cf, .slice Ae a.f1.length ce, .int .i64 a.f2] 74)) (.cells #[.slice Bf d.f0.length df, .slice Be d.f1.length de, .int .i64 d.f2] 74)
  exact ⟨ch.below hbo, ra.below hbo, rb.below hbo, af, ae, hB, Sep.alloc (Sep.new ch.ma 74 _) _, Sep.new2 ch.ma _ 74 _, ch.k.1, Nat.le_succ_of_le ch.k.1⟩
theorem alt_mid4 {w0 W W1 V : World} {b mp : Nat} {s s2 : Option Nat} {Ad : Option Addr} {cd : Nat} {defs : List S61} {st2 : St} {B : Nat} {a d : S74} {Af Ae Bf Be : Option Addr} {cf ce df de : Nat}
    (ch : Chn w0 W W1 V b mp s s2 Ad cd defs st2) (ra : RowsAt V W1.heap.size b mp s2 a Af Ae cf ce) (rb : RowsAt V B b mp s2 d Bf Be df de) (af : ∀ k, (Value.slice Af a.f0.length cf).ownBlock = some k → k < B) (ae : ∀ k, (Value.slice Ae a.f1.length ce).ownBlock = some k → k < B) (hB : W1.heap.size ≤ B) :
    AltAt w0 W W1 ((V.alloc (.cells #[.slice Bf d.f0.length df, .slice Be d.f1.length de, .int .i64 d.f2] 74)).alloc (.cells #[.slice Af a.f0.length cf, .slice Ae a.f1.length ce, .int .i64 a.f2] 74)) b mp s s2 Ad cd defs st2 (V.heap.size + 1) V.heap.size B a d Af Ae Bf Be cf ce df de := by
  have hbo := below_alloc (below_alloc (Below.refl V.heap.size V) (.cells #[.slice Bf d.f0.length df, .slice Be d.f1.length de, .int .i64 d.f2] 74)) (.cells #[.slice Af a.f0.length cf, .slice Ae a.f1.length ce, .int .i64 a.f2] 74)
  exact ⟨ch.below hbo, ra.below hbo, rb.below hbo, af, ae, hB, Sep.new2 ch.ma _ 74 _, Sep.alloc (Sep.new ch.ma 74 _) _, Nat.le_succ_of_le ch.k.1, ch.k.1⟩
structure ApAt (w0 W W1 V : World) (b mp : Nat) (s s2 : Option Nat) (Ad : Option Addr) (cd : Nat) (defs : List S61) (st2 : St) (T6 T7 B : Nat) (a d : S74) (Af Ae Bf Be : Option Addr) (cf ce df de : Nat) (vf ve : Value) (lf le : List S94) : Prop where
  ch : Chn w0 W W1 V b mp s s2 Ad cd defs st2
  rf : Kd.R k94 94 V W1.heap.size (fun k => ¬ Zn b mp s2 k ∧ some k ≠ ve.ownBlock) vf lf
  re : Kd.R k94 94 V W1.heap.size (fun k => ¬ Zn b mp s2 k ∧ some k ≠ vf.ownBlock) ve le
  t6 : V.heap[T6]? = some (.cells #[.slice Af a.f0.length cf, .slice Ae a.f1.length ce, .int .i64 a.f2] 74 (0, 0))
  t7 : V.heap[T7]? = some (.cells #[.slice Bf d.f0.length df, .slice Be d.f1.length de, .int .i64 d.f2] 74 (0, 0))
  l6 : W1.heap.size ≤ T6
  l7 : W1.heap.size ≤ T7
theorem AltAt.ap {w0 W W1 V : World} {b mp : Nat} {s s2 : Option Nat} {Ad : Option Addr} {cd : Nat} {defs : List S61} {st2 : St} {T6 T7 B : Nat} {a d : S74} {Af Ae Bf Be : Option Addr} {cf ce df de : Nat} (h : AltAt w0 W W1 V b mp s s2 Ad cd defs st2 T6 T7 B a d Af Ae Bf Be cf ce df de) : ApAt w0 W W1 V b mp s s2 Ad cd defs st2 T6 T7 B a d Af Ae Bf Be cf ce df de (.slice Af a.f0.length cf) (.slice Ae a.f1.length ce) a.f0 a.f1 :=
  ⟨h.ch, h.ra.f, h.ra.e, h.t6.1, h.t7.1, h.l6, h.l7⟩
theorem ApAt.below {w0 W W1 V V1 : World} {b mp : Nat} {s s2 : Option Nat} {Ad : Option Addr} {cd : Nat} {defs : List S61} {st2 : St} {T6 T7 B : Nat} {a d : S74} {Af Ae Bf Be : Option Addr} {cf ce df de : Nat} {vf ve : Value} {lf le : List S94} (h : ApAt w0 W W1 V b mp s s2 Ad cd defs st2 T6 T7 B a d Af Ae Bf Be cf ce df de vf ve lf le) (hb : Below V.heap.size V V1) : ApAt w0 W W1 V1 b mp s s2 Ad cd defs st2 T6 T7 B a d Af Ae Bf Be cf ce df de vf ve lf le :=
  ⟨h.ch.below hb, Kd.R_below h.rf hb, Kd.R_below h.re hb, blk_below h.t6 hb, blk_below h.t7 hb, h.l6, h.l7⟩
theorem ap_keep {V V1 : World} {base : Nat} {ok : Nat → Prop} {v : Value} {l : List S94} (hr : Kd.R k94 94 V base ok v l) (hg : V.grownBy V1 v.ownBlock) {g : Nat} {cs : Array Value} {t : TypeId} (h : V.heap[g]? = some (.cells cs t (0, 0))) (ht : t ≠ 94) : V1.heap[g]? = some (.cells cs t (0, 0)) :=
  blk_grown h hg (fun e => by
    obtain ⟨inner, ho⟩ := Kd.R_own hr
    obtain ⟨cells, hc⟩ := own_typed ho g e.symm
    rw [h] at hc; cases hc; exact ht rfl)
/-- The maker behind an append to a row of the call's own. -/
theorem Chn.app {w0 W W1 V V1 : World} {b mp : Nat} {s s1 : Option Nat} {Ad : Option Addr} {cd : Nat} {defs : List S61} {st1 : St} (h : Chn w0 W W1 V b mp s s1 Ad cd defs st1) {row : Option Nat} (hw : w0.heap.size ≤ W1.heap.size) (hg : V.grownBy V1 row) (hr : ∀ k, row = some k → W1.heap.size ≤ k ∧ ¬ Zn b mp s1 k) : Chn w0 W W1 V1 b mp s s1 Ad cd defs st1 := by
  refine ⟨h.ma.same (fun k hk => hg.block k (h.ma.s_lt hk) (fun e => (hr k e.symm).2 hk)) ?_, Kept.of_grown hg h.k (fun k hk => .inr (hr k hk).1), h.s2⟩
  have hb := h.ma.below
  exact hb.trans ⟨hg.os, hg.tape, hg.output, hg.size, fun k hk => hg.block k (Nat.lt_of_lt_of_le hk hb.size) (fun e => by have := (hr k e.symm).1; omega)⟩
theorem ApAt.app1 {w0 W W1 V V1 : World} {b mp : Nat} {s s2 : Option Nat} {Ad : Option Addr} {cd : Nat} {defs : List S61} {st2 : St} {T6 T7 B : Nat} {a d : S74} {Af Ae Bf Be : Option Addr} {cf ce df de : Nat} {vf ve u : Value} {lf le l : List S94} (hw : w0.heap.size ≤ W1.heap.size) (h : ApAt w0 W W1 V b mp s s2 Ad cd defs st2 T6 T7 B a d Af Ae Bf Be cf ce df de vf ve lf le)
    (hr : Kd.R k94 94 V1 W1.heap.size (fun k => ¬ Zn b mp s2 k ∧ some k ≠ ve.ownBlock) u l) (hg : V.grownBy V1 vf.ownBlock) (hat : u.ownBlock = vf.ownBlock ∨ ∃ g, u.ownBlock = some g ∧ V.heap.size ≤ g) : ApAt w0 W W1 V1 b mp s s2 Ad cd defs st2 T6 T7 B a d Af Ae Bf Be cf ce df de u ve l le where
  ch := h.ch.app hw hg (fun k hk => ⟨(spR_lt h.rf k hk).1, (h.rf.1 k hk).1⟩)
  rf := hr
  re := spR_to h.re (fun k hk => hg.block k (spR_lt h.re k hk).2 (h.re.1 k hk).2) (fun k hk => ⟨(h.re.1 k hk).1, fun e => by
    rcases hat with e2 | ⟨g, e2, hge⟩
    · exact (h.re.1 k hk).2 (by rw [e, e2])
    · rw [e2] at e; injection e with e; have := (spR_lt h.re k hk).2; omega⟩)
  t6 := ap_keep h.rf hg h.t6 (by decide)
  t7 := ap_keep h.rf hg h.t7 (by decide)
  l6 := h.l6
  l7 := h.l7
theorem ApAt.app2 {w0 W W1 V V1 : World} {b mp : Nat} {s s2 : Option Nat} {Ad : Option Addr} {cd : Nat} {defs : List S61} {st2 : St} {T6 T7 B : Nat} {a d : S74} {Af Ae Bf Be : Option Addr} {cf ce df de : Nat} {vf ve u : Value} {lf le l : List S94} (hw : w0.heap.size ≤ W1.heap.size) (h : ApAt w0 W W1 V b mp s s2 Ad cd defs st2 T6 T7 B a d Af Ae Bf Be cf ce df de vf ve lf le)
    (hr : Kd.R k94 94 V1 W1.heap.size (fun k => ¬ Zn b mp s2 k ∧ some k ≠ vf.ownBlock) u l) (hg : V.grownBy V1 ve.ownBlock) (hat : u.ownBlock = ve.ownBlock ∨ ∃ g, u.ownBlock = some g ∧ V.heap.size ≤ g) : ApAt w0 W W1 V1 b mp s s2 Ad cd defs st2 T6 T7 B a d Af Ae Bf Be cf ce df de vf u lf l where
  ch := h.ch.app hw hg (fun k hk => ⟨(spR_lt h.re k hk).1, (h.re.1 k hk).1⟩)
  re := hr
  rf := spR_to h.rf (fun k hk => hg.block k (spR_lt h.rf k hk).2 (h.rf.1 k hk).2) (fun k hk => ⟨(h.rf.1 k hk).1, fun e => by
    rcases hat with e2 | ⟨g, e2, hge⟩
    · exact (h.rf.1 k hk).2 (by rw [e, e2])
    · rw [e2] at e; injection e with e; have := (spR_lt h.rf k hk).2; omega⟩)
  t6 := ap_keep h.re hg h.t6 (by decide)
  t7 := ap_keep h.re hg h.t7 (by decide)
  l6 := h.l6
  l7 := h.l7
/-- What b's rows are behind the appends: they lie behind a's. -/
structure BAt (V : World) (B b mp : Nat) (s2 : Option Nat) (d : S74) (Bf Be : Option Addr) (df de : Nat) (ve : Value) : Prop where
  rb : RowsAt V B b mp s2 d Bf Be df de
  lt : ∀ k, ve.ownBlock = some k → k < B
theorem BAt.below {V V1 : World} {B b mp : Nat} {s2 : Option Nat} {d : S74} {Bf Be : Option Addr} {df de : Nat} {ve : Value} (h : BAt V B b mp s2 d Bf Be df de ve) (hb : Below V.heap.size V V1) : BAt V1 B b mp s2 d Bf Be df de ve := ⟨h.rb.below hb, h.lt⟩
theorem BAt.app {V V1 : World} {B b mp : Nat} {s2 : Option Nat} {d : S74} {Bf Be : Option Addr} {df de : Nat} {ve vf : Value} (h : BAt V B b mp s2 d Bf Be df de ve) (hl : ∀ k, vf.ownBlock = some k → k < B) (hg : V.grownBy V1 vf.ownBlock) : BAt V1 B b mp s2 d Bf Be df de ve :=
  ⟨⟨spR_to h.rb.f (fun k hk => hg.block k (spR_lt h.rb.f k hk).2 (fun e => by have := hl k e.symm; have := (spR_lt h.rb.f k hk).1; omega)) h.rb.f.1, spR_to h.rb.e (fun k hk => hg.block k (spR_lt h.rb.e k hk).2 (fun e => by have := hl k e.symm; have := (spR_lt h.rb.e k hk).1; omega)) h.rb.e.1⟩, h.lt⟩
theorem min2_calls (a b : Int) (g : Nat) (w : World) (h : w.heap[g]? = some (.cells #[.int .i64 a, .int .i64 b] 3 (0, 0))) : Calls Try.prog 35 #[.slice (some ⟨g, 0, none⟩) 2 2] w fun e w' => e = .returned (.int .i64 (mn (mn 1152921504606846976 a) b)) ∧ Below w.heap.size w w' :=
  trop_Min.calls 3 (some ⟨g, 0, none⟩) 2 [a, b] _ w (Kd.R_reads' (intR_mk (e := 3) (base := 0) (cap := 2) (ok := fun _ => True) (l := [a, b]) trivial (Nat.zero_le _) h (by simp) (by decide) (by simp) (by rfl))).2.2 (by simp) (by
    show trop_Min.l0 3 1152921504606846976 [a, b] 2 0 = _
    simp [trop_Min.l0, rd, wrap64])
section
variable {w0 W W1 V : World} {b mp : Nat} {s s2 : Option Nat} {Ad : Option Addr} {cd : Nat} {defs : List S61} {st2 : St} {T6 T7 B : Nat} {a d : S74} {Af Ae Bf Be : Option Addr} {cf ce df de : Nat} {vf ve : Value} {lf le : List S94}
theorem ApAt.fresh1 (h : ApAt w0 W W1 V b mp s s2 Ad cd defs st2 T6 T7 B a d Af Ae Bf Be cf ce df de vf ve lf le) : ∀ k, V.heap.size ≤ k → ¬ Zn b mp s2 k ∧ some k ≠ ve.ownBlock :=
  fun k hk => ⟨fun hz => by have := h.ch.ma.s_lt hz; omega, fun e => by have := (spR_lt h.re k e.symm).2; omega⟩
theorem ApAt.fresh2 (h : ApAt w0 W W1 V b mp s s2 Ad cd defs st2 T6 T7 B a d Af Ae Bf Be cf ce df de vf ve lf le) : ∀ k, V.heap.size ≤ k → ¬ Zn b mp s2 k ∧ some k ≠ vf.ownBlock :=
  fun k hk => ⟨fun hz => by have := h.ch.ma.s_lt hz; omega, fun e => by have := (spR_lt h.rf k e.symm).2; omega⟩
theorem ApAt.base (h : ApAt w0 W W1 V b mp s s2 Ad cd defs st2 T6 T7 B a d Af Ae Bf Be cf ce df de vf ve lf le) : W1.heap.size ≤ V.heap.size := h.ch.k.1
end
theorem heap_new_drew (w : World) (cs : Array Value) (t : TypeId) : (w.alloc (.cells cs t)).drew.heap[w.heap.size]? = some (.cells cs t (0, 0)) := heap_alloc_new w _
set_option maxRecDepth 100000 in
set_option maxHeartbeats 60000000 in
theorem make_alt (defs : List S61) (sz : S33 → Option Int) (n : Nat) (ih : mkOk defs sz n) (w0 W : World) (b mp : Nat) (s : Option Nat) (Ad : Option Addr) (cd : Nat) (st st' : St) (p : S74) (x : S33) (A5 : Option Addr) (c5 : Nat) (hM : MkAt w0 W b mp s Ad cd defs st) (hF : Kd.F k33 W (fun k => ¬ Zn b mp s k) A5 x.f5.length x.f5) (hc5 : x.f5.length ≤ c5) (hx : x.f0 = 5) (h : mkF defs sz (n + 1) x st = some (p, st')) :
    Calls Try.prog 30 #[.pointer (some ⟨b, 0, none⟩), .agg #[.int .i64 x.f0, .int .i64 x.f1, .int .i64 x.f2, .int .i64 x.f3, .string x.f4, .slice A5 x.f5.length c5]] W (MadeBy w0 W b mp s Ad cd defs st' p) := by
  rw [mkF, if_neg (by omega), if_neg (by omega), if_neg (by omega), if_pos hx] at h
  obtain ⟨⟨a, st1⟩, ha, h⟩ := Option.bind_eq_some_iff.1 h
  obtain ⟨⟨d, st2⟩, hd, h⟩ := Option.bind_eq_some_iff.1 h
  simp only [altF] at h
  by_cases hok : okP a = true ∧ okP d = true
  case neg => rw [if_neg hok] at h; cases h
  rw [if_pos hok] at h
  injection h with h
  injection h with h1 h2
  subst h1 h2
  have HA := Aside0.mk ha
  have HD := Aside0.mk hd
  have HOK := Aside0.mk hok
  obtain ⟨W1, hWW⟩ : ∃ W1, (W.alloc (.cells #[.int .i64 x.f0, .int .i64 x.f1, .int .i64 x.f2, .int .i64 x.f3, .string x.f4, .slice A5 x.f5.length c5] 33)).alloc (.cells #[.slice none 0 0, .slice none 0 0, .int .i64 0] 74) = W1 := ⟨_, rfl⟩
  have hW1 := below_alloc (below_alloc (Below.refl W.heap.size W) (.cells #[.int .i64 x.f0, .int .i64 x.f1, .int .i64 x.f2, .int .i64 x.f3, .string x.f4, .slice A5 x.f5.length c5] 33)) (.cells #[.slice none 0 0, .slice none 0 0, .int .i64 0] 74)
  have hx0 : W1.heap[W.heap.size]? = some (.cells #[.int .i64 x.f0, .int .i64 x.f1, .int .i64 x.f2, .int .i64 x.f3, .string x.f4, .slice A5 x.f5.length c5] 33 (0, 0)) := by rw [← hWW]; exact blk_alloc (heap_alloc_new W _) _
  have hr0 : W1.heap[W.heap.size + 1]? = some (.cells #[.slice none 0 0, .slice none 0 0, .int .i64 0] 74 (0, 0)) := by
    have h := heap_alloc_new (W.alloc (.cells #[.int .i64 x.f0, .int .i64 x.f1, .int .i64 x.f2, .int .i64 x.f3, .string x.f4, .slice A5 x.f5.length c5] 33)) (.cells #[.slice none 0 0, .slice none 0 0, .int .i64 0] 74)
    rwa [hWW, show (W.alloc (.cells #[.int .i64 x.f0, .int .i64 x.f1, .int .i64 x.f2, .int .i64 x.f3, .string x.f4, .slice A5 x.f5.length c5] 33)).heap.size = W.heap.size + 1 from Array.size_push _] at h
  rw [hWW] at hW1
  have HM := Aside0.mk hM
  have HW1 := Aside0.mk hW1
  have HCH := Aside0.mk (Chn.start hM hW1)
  have HF1 := Aside0.mk (Kd.F_below hF hW1)
  have HC5 := Aside0.mk hc5
  have HR0 := Aside0.mk hr0
  have HX0 := Aside0.mk hx0
  have HZX : Aside0 (¬ Zn b mp s W.heap.size ∧ ¬ Zn b mp s (W.heap.size + 1)) := ⟨fun hz => by have := hM.s_lt hz; omega, fun hz => by have := hM.s_lt hz; omega⟩
  have hlt1 := blk_lt hr0
  have HLT := Aside0.mk hlt1
  have d0 := cellAt (i := 0) (u := .int .i64 x.f0) hx0 rfl
  have d1 := cellAt (i := 1) (u := .int .i64 x.f1) hx0 rfl
  have d2 := cellAt (i := 2) (u := .int .i64 x.f2) hx0 rfl
  have d3 := cellAt (i := 3) (u := .int .i64 x.f3) hx0 rfl
  have d4 := cellAt (i := 4) (u := .string x.f4) hx0 rfl
  have d5 := cellAt (i := 5) (u := .slice A5 x.f5.length c5) hx0 rfl
  clear hM hW1 hx0 hr0 hlt1 hF hc5
  have e2 : (x.f0 == 2) = false := by rw [hx]; rfl
  have e3 : (x.f0 == 3) = false := by rw [hx]; rfl
  have e4 : (x.f0 == 4) = false := by rw [hx]; rfl
  have e5 : (x.f0 == 5) = true := by rw [hx]; rfl
  clear ha hd hok hx
  go_enter Try.func30, Try.ntmps30
  go_upto_region 9 with (fail)
  go_cut [6, 7] (fun v6 v7 wc => Aside0 (AltRel w0 W W1 b mp s Ad cd defs st2 a d v6 v7 wc))
  case first =>
    clear d0 d1 d2 d3 d4 d5
    have HM1 := Aside0.mk (HCH.out.ma)
    have HLW := Aside0.mk (Nat.le_refl W1.heap.size)
    have HSX : Aside0 (∀ V : World, (∀ k, k < W1.heap.size → ¬ Zn b mp s k → V.heap[k]? = W1.heap[k]?) → V.cell? ⟨W.heap.size, 0, none⟩ = some (.int .i64 x.f0) ∧ V.cell? ⟨W.heap.size, 1, none⟩ = some (.int .i64 x.f1) ∧ V.cell? ⟨W.heap.size, 2, none⟩ = some (.int .i64 x.f2) ∧ V.cell? ⟨W.heap.size, 3, none⟩ = some (.int .i64 x.f3) ∧ V.cell? ⟨W.heap.size, 4, none⟩ = some (.string x.f4) ∧ V.cell? ⟨W.heap.size, 5, none⟩ = some (.slice A5 x.f5.length c5)) := ⟨fun V hV => by have hh := (hV W.heap.size (blk_lt HX0.out) HZX.out.1).trans HX0.out; exact ⟨cellAt hh rfl, cellAt hh rfl, cellAt hh rfl, cellAt hh rfl, cellAt hh rfl, cellAt hh rfl⟩⟩
    have MK1 := True.intro
    have MK2 := True.intro
    go_region_held3 (fun w' => w'.cell? ⟨W.heap.size, 0, none⟩ = some (.int .i64 x.f0) ∧ w'.cell? ⟨W.heap.size, 1, none⟩ = some (.int .i64 x.f1) ∧ w'.cell? ⟨W.heap.size, 2, none⟩ = some (.int .i64 x.f2) ∧ w'.cell? ⟨W.heap.size, 3, none⟩ = some (.int .i64 x.f3) ∧ w'.cell? ⟨W.heap.size, 4, none⟩ = some (.string x.f4) ∧ w'.cell? ⟨W.heap.size, 5, none⟩ = some (.slice A5 x.f5.length c5)) (refine ⟨?_, ?_, ?_, ?_, ?_, ?_⟩ <;> (repeat (with_reducible refine set3_cell (by first | (have := HLT.out; have := HL2.out; omega) | (have := HLT.out; have := HL3.out; omega) | (have := HLT.out; have := HL4.out; omega) | (have := HLT.out; have := HL5.out; omega) | (have := HLT.out; simp; omega)) ?_)) <;> (refine chn_s HCH.out HX0.out HZX.out.1 ?_ _ _ rfl; exact (by first | (with_reducible exact Below.refl _ _) | (with_reducible exact below_alloc (Below.refl _ _) _) | (with_reducible exact below_alloc (below_alloc (Below.refl _ _) _) _) | (with_reducible exact below_drew (Below.refl _ _)) | (with_reducible exact below_drew (below_alloc (Below.refl _ _) _)) | (with_reducible exact below_drew (below_alloc (below_alloc (Below.refl _ _) _) _))))) (first | (go_at_call 41; clear MK1; (with_reducible refine (part0_calls x A5 c5 (fun k => ¬ Zn b mp s k) _ ?h5 HC5.out).mono ?_); (case h5 => exact Chn.foot (Chn.below HCH.out (by first | (with_reducible exact Below.refl _ _) | (with_reducible exact below_alloc (Below.refl _ _) _) | (with_reducible exact below_alloc (below_alloc (Below.refl _ _) _) _) | (with_reducible exact below_drew (Below.refl _ _)) | (with_reducible exact below_drew (below_alloc (Below.refl _ _) _)) | (with_reducible exact below_drew (below_alloc (below_alloc (Below.refl _ _) _) _)))) HF1.out); rintro e w2 ⟨A0, c0, rfl, hF0, hc0, hb2⟩; have HF0 := Aside0.mk (foot_new (Chn.ma (Chn.below HCH.out (by first | (with_reducible exact Below.refl _ _) | (with_reducible exact below_alloc (Below.refl _ _) _) | (with_reducible exact below_alloc (below_alloc (Below.refl _ _) _) _) | (with_reducible exact below_drew (Below.refl _ _)) | (with_reducible exact below_drew (below_alloc (Below.refl _ _) _)) | (with_reducible exact below_drew (below_alloc (below_alloc (Below.refl _ _) _) _))))) hF0); have HC0 := Aside0.mk hc0; have HK1 := Aside0.mk (kept_b hb2 b mp s); have HCn := Aside0.mk (Chn.below (Chn.below HCH.out (by first | (with_reducible exact Below.refl _ _) | (with_reducible exact below_alloc (Below.refl _ _) _) | (with_reducible exact below_alloc (below_alloc (Below.refl _ _) _) _) | (with_reducible exact below_drew (Below.refl _ _)) | (with_reducible exact below_drew (below_alloc (Below.refl _ _) _)) | (with_reducible exact below_drew (below_alloc (below_alloc (Below.refl _ _) _) _)))) hb2); clear HCH hF0 hc0 hb2; have HCH := HCn; clear HCn; have HM2 := Aside0.mk HCH.out.ma; have HL2 := Aside0.mk HCH.out.k.1; (try have SN1a := Aside0.mk (Sep.made HK1.out (Sep.new HM1.out 74 #[.slice none 0 0, .slice none 0 0, .int .i64 0]))); (try have SN1a := Aside0.mk (Sep.made HK1.out (Sep.alloc (Sep.new HM1.out 74 #[.slice none 0 0, .slice none 0 0, .int .i64 0]) _))); (try have SN1b := Aside0.mk (Sep.made HK1.out (Sep.new2 HM1.out _ 74 #[.slice none 0 0, .slice none 0 0, .int .i64 0]))); (try have SN1a := Aside0.mk (Sep.made HK1.out (Sep.drew (Sep.new HM1.out 74 #[.slice none 0 0, .slice none 0 0, .int .i64 0])))); (try have SN1a := Aside0.mk (Sep.made HK1.out (Sep.drew (Sep.alloc (Sep.new HM1.out 74 #[.slice none 0 0, .slice none 0 0, .int .i64 0]) _)))); (try have SN1b := Aside0.mk (Sep.made HK1.out (Sep.drew (Sep.new2 HM1.out _ 74 #[.slice none 0 0, .slice none 0 0, .int .i64 0]))))) | (go_at_call 30; clear MK2; (with_reducible refine (ih.use w0 _ b mp s Ad cd st st1 a (xpart x 0) A0 c0 ?h5 ?h6 HC0.out HA.out).mono ?_); (case h5 => exact Chn.ma (Chn.below HCH.out (by first | (with_reducible exact Below.refl _ _) | (with_reducible exact below_alloc (Below.refl _ _) _) | (with_reducible exact below_alloc (below_alloc (Below.refl _ _) _) _) | (with_reducible exact below_drew (Below.refl _ _)) | (with_reducible exact below_drew (below_alloc (Below.refl _ _) _)) | (with_reducible exact below_drew (below_alloc (below_alloc (Below.refl _ _) _) _))))); (case h6 => exact Kd.F_below HF0.out (by first | (with_reducible exact Below.refl _ _) | (with_reducible exact below_alloc (Below.refl _ _) _) | (with_reducible exact below_alloc (below_alloc (Below.refl _ _) _) _) | (with_reducible exact below_drew (Below.refl _ _)) | (with_reducible exact below_drew (below_alloc (Below.refl _ _) _)) | (with_reducible exact below_drew (below_alloc (below_alloc (Below.refl _ _) _) _)))); rintro e w3 ⟨s1, Af, Ae, cf, ce, rfl, m1, m2, m3, m4, m5⟩; have HK2 := Aside0.mk (And.intro m2 m3); have HRA := Aside0.mk (RowsAt.lower (RowsAt.of (Chn.ma (Chn.below HCH.out (by first | (with_reducible exact Below.refl _ _) | (with_reducible exact below_alloc (Below.refl _ _) _) | (with_reducible exact below_alloc (below_alloc (Below.refl _ _) _) _) | (with_reducible exact below_drew (Below.refl _ _)) | (with_reducible exact below_drew (below_alloc (Below.refl _ _) _)) | (with_reducible exact below_drew (below_alloc (below_alloc (Below.refl _ _) _) _))))) m4 m5) ((Chn.k (Chn.below HCH.out (by first | (with_reducible exact Below.refl _ _) | (with_reducible exact below_alloc (Below.refl _ _) _) | (with_reducible exact below_alloc (below_alloc (Below.refl _ _) _) _) | (with_reducible exact below_drew (Below.refl _ _)) | (with_reducible exact below_drew (below_alloc (Below.refl _ _) _)) | (with_reducible exact below_drew (below_alloc (below_alloc (Below.refl _ _) _) _))))).1)); have HCn := Aside0.mk (Chn.made (Chn.below HCH.out (by first | (with_reducible exact Below.refl _ _) | (with_reducible exact below_alloc (Below.refl _ _) _) | (with_reducible exact below_alloc (below_alloc (Below.refl _ _) _) _) | (with_reducible exact below_drew (Below.refl _ _)) | (with_reducible exact below_drew (below_alloc (Below.refl _ _) _)) | (with_reducible exact below_drew (below_alloc (below_alloc (Below.refl _ _) _) _)))) m1 m2 m3); clear HCH m1 m2 m3 m4 m5; have HCH := HCn; clear HCn; have HM3 := Aside0.mk HCH.out.ma; have HL3 := Aside0.mk HCH.out.k.1; (try have LT1a2 := Aside0.mk (blk_lt SN1a.out.1)); (try (have SNx := Aside0.mk (Sep.made HK2.out (Sep.below SN1a.out (by first | (with_reducible exact Below.refl _ _) | (with_reducible exact below_alloc (Below.refl _ _) _) | (with_reducible exact below_alloc (below_alloc (Below.refl _ _) _) _) | (with_reducible exact below_drew (Below.refl _ _)) | (with_reducible exact below_drew (below_alloc (Below.refl _ _) _)) | (with_reducible exact below_drew (below_alloc (below_alloc (Below.refl _ _) _) _))))); clear SN1a; have SN1a := SNx; clear SNx)); (try have LT1b2 := Aside0.mk (blk_lt SN1b.out.1)); (try (have SNx := Aside0.mk (Sep.made HK2.out (Sep.below SN1b.out (by first | (with_reducible exact Below.refl _ _) | (with_reducible exact below_alloc (Below.refl _ _) _) | (with_reducible exact below_alloc (below_alloc (Below.refl _ _) _) _) | (with_reducible exact below_drew (Below.refl _ _)) | (with_reducible exact below_drew (below_alloc (Below.refl _ _) _)) | (with_reducible exact below_drew (below_alloc (below_alloc (Below.refl _ _) _) _))))); clear SN1b; have SN1b := SNx; clear SNx)); (try have SN2a := Aside0.mk (Sep.made HK2.out (Sep.new HM2.out 74 #[.slice none 0 0, .slice none 0 0, .int .i64 0]))); (try have SN2a := Aside0.mk (Sep.made HK2.out (Sep.alloc (Sep.new HM2.out 74 #[.slice none 0 0, .slice none 0 0, .int .i64 0]) _))); (try have SN2b := Aside0.mk (Sep.made HK2.out (Sep.new2 HM2.out _ 74 #[.slice none 0 0, .slice none 0 0, .int .i64 0])))) | (go_at_call 41; (with_reducible refine (part1_calls x A5 c5 (fun k => ¬ Zn b mp s1 k) _ ?h5 HC5.out).mono ?_); (case h5 => exact Chn.foot (Chn.below HCH.out (by first | (with_reducible exact Below.refl _ _) | (with_reducible exact below_alloc (Below.refl _ _) _) | (with_reducible exact below_alloc (below_alloc (Below.refl _ _) _) _) | (with_reducible exact below_drew (Below.refl _ _)) | (with_reducible exact below_drew (below_alloc (Below.refl _ _) _)) | (with_reducible exact below_drew (below_alloc (below_alloc (Below.refl _ _) _) _)))) HF1.out); rintro e w5 ⟨A1, c1_, rfl, hF0, hc0, hb2⟩; have HF2 := Aside0.mk (foot_new (Chn.ma (Chn.below HCH.out (by first | (with_reducible exact Below.refl _ _) | (with_reducible exact below_alloc (Below.refl _ _) _) | (with_reducible exact below_alloc (below_alloc (Below.refl _ _) _) _) | (with_reducible exact below_drew (Below.refl _ _)) | (with_reducible exact below_drew (below_alloc (Below.refl _ _) _)) | (with_reducible exact below_drew (below_alloc (below_alloc (Below.refl _ _) _) _))))) hF0); have HC2 := Aside0.mk hc0; have HK3 := Aside0.mk (kept_b hb2 b mp s1); have HCn := Aside0.mk (Chn.below (Chn.below HCH.out (by first | (with_reducible exact Below.refl _ _) | (with_reducible exact below_alloc (Below.refl _ _) _) | (with_reducible exact below_alloc (below_alloc (Below.refl _ _) _) _) | (with_reducible exact below_drew (Below.refl _ _)) | (with_reducible exact below_drew (below_alloc (Below.refl _ _) _)) | (with_reducible exact below_drew (below_alloc (below_alloc (Below.refl _ _) _) _)))) hb2); have HRn := Aside0.mk (RowsAt.below (RowsAt.below HRA.out (by first | (with_reducible exact Below.refl _ _) | (with_reducible exact below_alloc (Below.refl _ _) _) | (with_reducible exact below_alloc (below_alloc (Below.refl _ _) _) _) | (with_reducible exact below_drew (Below.refl _ _)) | (with_reducible exact below_drew (below_alloc (Below.refl _ _) _)) | (with_reducible exact below_drew (below_alloc (below_alloc (Below.refl _ _) _) _)))) hb2); clear HCH HRA hF0 hc0 hb2; have HCH := HCn; have HRA := HRn; clear HCn HRn; have HM4 := Aside0.mk HCH.out.ma; have HL4 := Aside0.mk HCH.out.k.1; (try have LT1a3 := Aside0.mk (blk_lt SN1a.out.1)); (try (have SNx := Aside0.mk (Sep.made HK3.out (Sep.below SN1a.out (by first | (with_reducible exact Below.refl _ _) | (with_reducible exact below_alloc (Below.refl _ _) _) | (with_reducible exact below_alloc (below_alloc (Below.refl _ _) _) _) | (with_reducible exact below_drew (Below.refl _ _)) | (with_reducible exact below_drew (below_alloc (Below.refl _ _) _)) | (with_reducible exact below_drew (below_alloc (below_alloc (Below.refl _ _) _) _))))); clear SN1a; have SN1a := SNx; clear SNx)); (try have LT1b3 := Aside0.mk (blk_lt SN1b.out.1)); (try (have SNx := Aside0.mk (Sep.made HK3.out (Sep.below SN1b.out (by first | (with_reducible exact Below.refl _ _) | (with_reducible exact below_alloc (Below.refl _ _) _) | (with_reducible exact below_alloc (below_alloc (Below.refl _ _) _) _) | (with_reducible exact below_drew (Below.refl _ _)) | (with_reducible exact below_drew (below_alloc (Below.refl _ _) _)) | (with_reducible exact below_drew (below_alloc (below_alloc (Below.refl _ _) _) _))))); clear SN1b; have SN1b := SNx; clear SNx)); (try have LT2a3 := Aside0.mk (blk_lt SN2a.out.1)); (try (have SNx := Aside0.mk (Sep.made HK3.out (Sep.below SN2a.out (by first | (with_reducible exact Below.refl _ _) | (with_reducible exact below_alloc (Below.refl _ _) _) | (with_reducible exact below_alloc (below_alloc (Below.refl _ _) _) _) | (with_reducible exact below_drew (Below.refl _ _)) | (with_reducible exact below_drew (below_alloc (Below.refl _ _) _)) | (with_reducible exact below_drew (below_alloc (below_alloc (Below.refl _ _) _) _))))); clear SN2a; have SN2a := SNx; clear SNx)); (try have LT2b3 := Aside0.mk (blk_lt SN2b.out.1)); (try (have SNx := Aside0.mk (Sep.made HK3.out (Sep.below SN2b.out (by first | (with_reducible exact Below.refl _ _) | (with_reducible exact below_alloc (Below.refl _ _) _) | (with_reducible exact below_alloc (below_alloc (Below.refl _ _) _) _) | (with_reducible exact below_drew (Below.refl _ _)) | (with_reducible exact below_drew (below_alloc (Below.refl _ _) _)) | (with_reducible exact below_drew (below_alloc (below_alloc (Below.refl _ _) _) _))))); clear SN2b; have SN2b := SNx; clear SNx)); (try have SN3a := Aside0.mk (Sep.made HK3.out (Sep.new HM3.out 74 #[.slice none 0 0, .slice none 0 0, .int .i64 0]))); (try have SN3a := Aside0.mk (Sep.made HK3.out (Sep.alloc (Sep.new HM3.out 74 #[.slice none 0 0, .slice none 0 0, .int .i64 0]) _))); (try have SN3b := Aside0.mk (Sep.made HK3.out (Sep.new2 HM3.out _ 74 #[.slice none 0 0, .slice none 0 0, .int .i64 0])))) | (go_at_call 30; (with_reducible refine (ih.use w0 _ b mp s1 Ad cd st1 st2 d (xpart x 1) A1 c1_ ?h5 ?h6 HC2.out HD.out).mono ?_); (case h5 => exact Chn.ma (Chn.below HCH.out (by first | (with_reducible exact Below.refl _ _) | (with_reducible exact below_alloc (Below.refl _ _) _) | (with_reducible exact below_alloc (below_alloc (Below.refl _ _) _) _) | (with_reducible exact below_drew (Below.refl _ _)) | (with_reducible exact below_drew (below_alloc (Below.refl _ _) _)) | (with_reducible exact below_drew (below_alloc (below_alloc (Below.refl _ _) _) _))))); (case h6 => exact Kd.F_below HF2.out (by first | (with_reducible exact Below.refl _ _) | (with_reducible exact below_alloc (Below.refl _ _) _) | (with_reducible exact below_alloc (below_alloc (Below.refl _ _) _) _) | (with_reducible exact below_drew (Below.refl _ _)) | (with_reducible exact below_drew (below_alloc (Below.refl _ _) _)) | (with_reducible exact below_drew (below_alloc (below_alloc (Below.refl _ _) _) _)))); rintro e w6 ⟨s2, Bf, Be, df, de, rfl, m1, m2, m3, m4, m5⟩; have HK4 := Aside0.mk (And.intro m2 m3); have HRB := Aside0.mk (RowsAt.of (Chn.ma (Chn.below HCH.out (by first | (with_reducible exact Below.refl _ _) | (with_reducible exact below_alloc (Below.refl _ _) _) | (with_reducible exact below_alloc (below_alloc (Below.refl _ _) _) _) | (with_reducible exact below_drew (Below.refl _ _)) | (with_reducible exact below_drew (below_alloc (Below.refl _ _) _)) | (with_reducible exact below_drew (below_alloc (below_alloc (Below.refl _ _) _) _))))) m4 m5); have HLT4 := Aside0.mk (rows_lt HRA.out m2 (by first | (with_reducible exact Below.refl _ _) | (with_reducible exact below_alloc (Below.refl _ _) _) | (with_reducible exact below_alloc (below_alloc (Below.refl _ _) _) _) | (with_reducible exact below_drew (Below.refl _ _)) | (with_reducible exact below_drew (below_alloc (Below.refl _ _) _)) | (with_reducible exact below_drew (below_alloc (below_alloc (Below.refl _ _) _) _))) (Chn.below HCH.out (by first | (with_reducible exact Below.refl _ _) | (with_reducible exact below_alloc (Below.refl _ _) _) | (with_reducible exact below_alloc (below_alloc (Below.refl _ _) _) _) | (with_reducible exact below_drew (Below.refl _ _)) | (with_reducible exact below_drew (below_alloc (Below.refl _ _) _)) | (with_reducible exact below_drew (below_alloc (below_alloc (Below.refl _ _) _) _))))); have HRn := Aside0.mk (RowsAt.kept (RowsAt.below HRA.out (by first | (with_reducible exact Below.refl _ _) | (with_reducible exact below_alloc (Below.refl _ _) _) | (with_reducible exact below_alloc (below_alloc (Below.refl _ _) _) _) | (with_reducible exact below_drew (Below.refl _ _)) | (with_reducible exact below_drew (below_alloc (Below.refl _ _) _)) | (with_reducible exact below_drew (below_alloc (below_alloc (Below.refl _ _) _) _)))) m2 m3); have HCn := Aside0.mk (Chn.made (Chn.below HCH.out (by first | (with_reducible exact Below.refl _ _) | (with_reducible exact below_alloc (Below.refl _ _) _) | (with_reducible exact below_alloc (below_alloc (Below.refl _ _) _) _) | (with_reducible exact below_drew (Below.refl _ _)) | (with_reducible exact below_drew (below_alloc (Below.refl _ _) _)) | (with_reducible exact below_drew (below_alloc (below_alloc (Below.refl _ _) _) _)))) m1 m2 m3); clear HCH HRA m1 m2 m3 m4 m5; have HCH := HCn; have HRA := HRn; clear HCn HRn; have HM5 := Aside0.mk HCH.out.ma; have HL5 := Aside0.mk HCH.out.k.1; (try have LT1a4 := Aside0.mk (blk_lt SN1a.out.1)); (try (have SNx := Aside0.mk (Sep.made HK4.out (Sep.below SN1a.out (by first | (with_reducible exact Below.refl _ _) | (with_reducible exact below_alloc (Below.refl _ _) _) | (with_reducible exact below_alloc (below_alloc (Below.refl _ _) _) _) | (with_reducible exact below_drew (Below.refl _ _)) | (with_reducible exact below_drew (below_alloc (Below.refl _ _) _)) | (with_reducible exact below_drew (below_alloc (below_alloc (Below.refl _ _) _) _))))); clear SN1a; have SN1a := SNx; clear SNx)); (try have LT1b4 := Aside0.mk (blk_lt SN1b.out.1)); (try (have SNx := Aside0.mk (Sep.made HK4.out (Sep.below SN1b.out (by first | (with_reducible exact Below.refl _ _) | (with_reducible exact below_alloc (Below.refl _ _) _) | (with_reducible exact below_alloc (below_alloc (Below.refl _ _) _) _) | (with_reducible exact below_drew (Below.refl _ _)) | (with_reducible exact below_drew (below_alloc (Below.refl _ _) _)) | (with_reducible exact below_drew (below_alloc (below_alloc (Below.refl _ _) _) _))))); clear SN1b; have SN1b := SNx; clear SNx)); (try have LT2a4 := Aside0.mk (blk_lt SN2a.out.1)); (try (have SNx := Aside0.mk (Sep.made HK4.out (Sep.below SN2a.out (by first | (with_reducible exact Below.refl _ _) | (with_reducible exact below_alloc (Below.refl _ _) _) | (with_reducible exact below_alloc (below_alloc (Below.refl _ _) _) _) | (with_reducible exact below_drew (Below.refl _ _)) | (with_reducible exact below_drew (below_alloc (Below.refl _ _) _)) | (with_reducible exact below_drew (below_alloc (below_alloc (Below.refl _ _) _) _))))); clear SN2a; have SN2a := SNx; clear SNx)); (try have LT2b4 := Aside0.mk (blk_lt SN2b.out.1)); (try (have SNx := Aside0.mk (Sep.made HK4.out (Sep.below SN2b.out (by first | (with_reducible exact Below.refl _ _) | (with_reducible exact below_alloc (Below.refl _ _) _) | (with_reducible exact below_alloc (below_alloc (Below.refl _ _) _) _) | (with_reducible exact below_drew (Below.refl _ _)) | (with_reducible exact below_drew (below_alloc (Below.refl _ _) _)) | (with_reducible exact below_drew (below_alloc (below_alloc (Below.refl _ _) _) _))))); clear SN2b; have SN2b := SNx; clear SNx)); (try have LT3a4 := Aside0.mk (blk_lt SN3a.out.1)); (try (have SNx := Aside0.mk (Sep.made HK4.out (Sep.below SN3a.out (by first | (with_reducible exact Below.refl _ _) | (with_reducible exact below_alloc (Below.refl _ _) _) | (with_reducible exact below_alloc (below_alloc (Below.refl _ _) _) _) | (with_reducible exact below_drew (Below.refl _ _)) | (with_reducible exact below_drew (below_alloc (Below.refl _ _) _)) | (with_reducible exact below_drew (below_alloc (below_alloc (Below.refl _ _) _) _))))); clear SN3a; have SN3a := SNx; clear SNx)); (try have LT3b4 := Aside0.mk (blk_lt SN3b.out.1)); (try (have SNx := Aside0.mk (Sep.made HK4.out (Sep.below SN3b.out (by first | (with_reducible exact Below.refl _ _) | (with_reducible exact below_alloc (Below.refl _ _) _) | (with_reducible exact below_alloc (below_alloc (Below.refl _ _) _) _) | (with_reducible exact below_drew (Below.refl _ _)) | (with_reducible exact below_drew (below_alloc (Below.refl _ _) _)) | (with_reducible exact below_drew (below_alloc (below_alloc (Below.refl _ _) _) _))))); clear SN3b; have SN3b := SNx; clear SNx)); (try have SN4a := Aside0.mk (Sep.made HK4.out (Sep.new HM4.out 74 #[.slice none 0 0, .slice none 0 0, .int .i64 0]))); (try have SN4a := Aside0.mk (Sep.made HK4.out (Sep.alloc (Sep.new HM4.out 74 #[.slice none 0 0, .slice none 0 0, .int .i64 0]) _))); (try have SN4b := Aside0.mk (Sep.made HK4.out (Sep.new2 HM4.out _ 74 #[.slice none 0 0, .slice none 0 0, .int .i64 0]))); (try (have q1a_00 := cellAt (i := 0) (u := .slice none 0 0) SN1a.out.1 rfl; have z1a_00 := blk_frozen SN1a.out.1 0; have q1a_01 := cellAt (i := 1) (u := .slice none 0 0) SN1a.out.1 rfl; have z1a_01 := blk_frozen SN1a.out.1 1; have q1a_02 := cellAt (i := 2) (u := .int .i64 0) SN1a.out.1 rfl; have z1a_02 := blk_frozen SN1a.out.1 2; have q1a_10 := fun o_ => cellAt (i := 0) (u := .slice none 0 0) (blk_alloc SN1a.out.1 o_) rfl; have z1a_10 := fun o_ => blk_frozen (blk_alloc SN1a.out.1 o_) 0; have q1a_11 := fun o_ => cellAt (i := 1) (u := .slice none 0 0) (blk_alloc SN1a.out.1 o_) rfl; have z1a_11 := fun o_ => blk_frozen (blk_alloc SN1a.out.1 o_) 1; have q1a_12 := fun o_ => cellAt (i := 2) (u := .int .i64 0) (blk_alloc SN1a.out.1 o_) rfl; have z1a_12 := fun o_ => blk_frozen (blk_alloc SN1a.out.1 o_) 2; have q1a_20 := fun o_ p_ => cellAt (i := 0) (u := .slice none 0 0) (blk_alloc (blk_alloc SN1a.out.1 o_) p_) rfl; have z1a_20 := fun o_ p_ => blk_frozen (blk_alloc (blk_alloc SN1a.out.1 o_) p_) 0; have q1a_21 := fun o_ p_ => cellAt (i := 1) (u := .slice none 0 0) (blk_alloc (blk_alloc SN1a.out.1 o_) p_) rfl; have z1a_21 := fun o_ p_ => blk_frozen (blk_alloc (blk_alloc SN1a.out.1 o_) p_) 1; have q1a_22 := fun o_ p_ => cellAt (i := 2) (u := .int .i64 0) (blk_alloc (blk_alloc SN1a.out.1 o_) p_) rfl; have z1a_22 := fun o_ p_ => blk_frozen (blk_alloc (blk_alloc SN1a.out.1 o_) p_) 2)); (try (have na1a2 := Nat.ne_of_lt LT1a2.out; have nb1a2 := Nat.ne_of_gt LT1a2.out; have nc1a2 := Nat.ne_of_lt (Nat.lt_succ_of_lt LT1a2.out); have nd1a2 := Nat.ne_of_gt (Nat.lt_succ_of_lt LT1a2.out))); (try (have na1a3 := Nat.ne_of_lt LT1a3.out; have nb1a3 := Nat.ne_of_gt LT1a3.out; have nc1a3 := Nat.ne_of_lt (Nat.lt_succ_of_lt LT1a3.out); have nd1a3 := Nat.ne_of_gt (Nat.lt_succ_of_lt LT1a3.out))); (try (have na1a4 := Nat.ne_of_lt LT1a4.out; have nb1a4 := Nat.ne_of_gt LT1a4.out; have nc1a4 := Nat.ne_of_lt (Nat.lt_succ_of_lt LT1a4.out); have nd1a4 := Nat.ne_of_gt (Nat.lt_succ_of_lt LT1a4.out))); (try (have na1a5 := Nat.ne_of_lt (blk_lt SN1a.out.1); have nb1a5 := Nat.ne_of_gt (blk_lt SN1a.out.1); have nc1a5 := Nat.ne_of_lt (Nat.lt_succ_of_lt (blk_lt SN1a.out.1)); have nd1a5 := Nat.ne_of_gt (Nat.lt_succ_of_lt (blk_lt SN1a.out.1)))); (try (have q1b_00 := cellAt (i := 0) (u := .slice none 0 0) SN1b.out.1 rfl; have z1b_00 := blk_frozen SN1b.out.1 0; have q1b_01 := cellAt (i := 1) (u := .slice none 0 0) SN1b.out.1 rfl; have z1b_01 := blk_frozen SN1b.out.1 1; have q1b_02 := cellAt (i := 2) (u := .int .i64 0) SN1b.out.1 rfl; have z1b_02 := blk_frozen SN1b.out.1 2; have q1b_10 := fun o_ => cellAt (i := 0) (u := .slice none 0 0) (blk_alloc SN1b.out.1 o_) rfl; have z1b_10 := fun o_ => blk_frozen (blk_alloc SN1b.out.1 o_) 0; have q1b_11 := fun o_ => cellAt (i := 1) (u := .slice none 0 0) (blk_alloc SN1b.out.1 o_) rfl; have z1b_11 := fun o_ => blk_frozen (blk_alloc SN1b.out.1 o_) 1; have q1b_12 := fun o_ => cellAt (i := 2) (u := .int .i64 0) (blk_alloc SN1b.out.1 o_) rfl; have z1b_12 := fun o_ => blk_frozen (blk_alloc SN1b.out.1 o_) 2; have q1b_20 := fun o_ p_ => cellAt (i := 0) (u := .slice none 0 0) (blk_alloc (blk_alloc SN1b.out.1 o_) p_) rfl; have z1b_20 := fun o_ p_ => blk_frozen (blk_alloc (blk_alloc SN1b.out.1 o_) p_) 0; have q1b_21 := fun o_ p_ => cellAt (i := 1) (u := .slice none 0 0) (blk_alloc (blk_alloc SN1b.out.1 o_) p_) rfl; have z1b_21 := fun o_ p_ => blk_frozen (blk_alloc (blk_alloc SN1b.out.1 o_) p_) 1; have q1b_22 := fun o_ p_ => cellAt (i := 2) (u := .int .i64 0) (blk_alloc (blk_alloc SN1b.out.1 o_) p_) rfl; have z1b_22 := fun o_ p_ => blk_frozen (blk_alloc (blk_alloc SN1b.out.1 o_) p_) 2)); (try (have na1b2 := Nat.ne_of_lt LT1b2.out; have nb1b2 := Nat.ne_of_gt LT1b2.out; have nc1b2 := Nat.ne_of_lt (Nat.lt_succ_of_lt LT1b2.out); have nd1b2 := Nat.ne_of_gt (Nat.lt_succ_of_lt LT1b2.out))); (try (have na1b3 := Nat.ne_of_lt LT1b3.out; have nb1b3 := Nat.ne_of_gt LT1b3.out; have nc1b3 := Nat.ne_of_lt (Nat.lt_succ_of_lt LT1b3.out); have nd1b3 := Nat.ne_of_gt (Nat.lt_succ_of_lt LT1b3.out))); (try (have na1b4 := Nat.ne_of_lt LT1b4.out; have nb1b4 := Nat.ne_of_gt LT1b4.out; have nc1b4 := Nat.ne_of_lt (Nat.lt_succ_of_lt LT1b4.out); have nd1b4 := Nat.ne_of_gt (Nat.lt_succ_of_lt LT1b4.out))); (try (have na1b5 := Nat.ne_of_lt (blk_lt SN1b.out.1); have nb1b5 := Nat.ne_of_gt (blk_lt SN1b.out.1); have nc1b5 := Nat.ne_of_lt (Nat.lt_succ_of_lt (blk_lt SN1b.out.1)); have nd1b5 := Nat.ne_of_gt (Nat.lt_succ_of_lt (blk_lt SN1b.out.1)))); (try (have q2a_00 := cellAt (i := 0) (u := .slice none 0 0) SN2a.out.1 rfl; have z2a_00 := blk_frozen SN2a.out.1 0; have q2a_01 := cellAt (i := 1) (u := .slice none 0 0) SN2a.out.1 rfl; have z2a_01 := blk_frozen SN2a.out.1 1; have q2a_02 := cellAt (i := 2) (u := .int .i64 0) SN2a.out.1 rfl; have z2a_02 := blk_frozen SN2a.out.1 2; have q2a_10 := fun o_ => cellAt (i := 0) (u := .slice none 0 0) (blk_alloc SN2a.out.1 o_) rfl; have z2a_10 := fun o_ => blk_frozen (blk_alloc SN2a.out.1 o_) 0; have q2a_11 := fun o_ => cellAt (i := 1) (u := .slice none 0 0) (blk_alloc SN2a.out.1 o_) rfl; have z2a_11 := fun o_ => blk_frozen (blk_alloc SN2a.out.1 o_) 1; have q2a_12 := fun o_ => cellAt (i := 2) (u := .int .i64 0) (blk_alloc SN2a.out.1 o_) rfl; have z2a_12 := fun o_ => blk_frozen (blk_alloc SN2a.out.1 o_) 2; have q2a_20 := fun o_ p_ => cellAt (i := 0) (u := .slice none 0 0) (blk_alloc (blk_alloc SN2a.out.1 o_) p_) rfl; have z2a_20 := fun o_ p_ => blk_frozen (blk_alloc (blk_alloc SN2a.out.1 o_) p_) 0; have q2a_21 := fun o_ p_ => cellAt (i := 1) (u := .slice none 0 0) (blk_alloc (blk_alloc SN2a.out.1 o_) p_) rfl; have z2a_21 := fun o_ p_ => blk_frozen (blk_alloc (blk_alloc SN2a.out.1 o_) p_) 1; have q2a_22 := fun o_ p_ => cellAt (i := 2) (u := .int .i64 0) (blk_alloc (blk_alloc SN2a.out.1 o_) p_) rfl; have z2a_22 := fun o_ p_ => blk_frozen (blk_alloc (blk_alloc SN2a.out.1 o_) p_) 2)); (try (have na2a3 := Nat.ne_of_lt LT2a3.out; have nb2a3 := Nat.ne_of_gt LT2a3.out; have nc2a3 := Nat.ne_of_lt (Nat.lt_succ_of_lt LT2a3.out); have nd2a3 := Nat.ne_of_gt (Nat.lt_succ_of_lt LT2a3.out))); (try (have na2a4 := Nat.ne_of_lt LT2a4.out; have nb2a4 := Nat.ne_of_gt LT2a4.out; have nc2a4 := Nat.ne_of_lt (Nat.lt_succ_of_lt LT2a4.out); have nd2a4 := Nat.ne_of_gt (Nat.lt_succ_of_lt LT2a4.out))); (try (have na2a5 := Nat.ne_of_lt (blk_lt SN2a.out.1); have nb2a5 := Nat.ne_of_gt (blk_lt SN2a.out.1); have nc2a5 := Nat.ne_of_lt (Nat.lt_succ_of_lt (blk_lt SN2a.out.1)); have nd2a5 := Nat.ne_of_gt (Nat.lt_succ_of_lt (blk_lt SN2a.out.1)))); (try (have q2b_00 := cellAt (i := 0) (u := .slice none 0 0) SN2b.out.1 rfl; have z2b_00 := blk_frozen SN2b.out.1 0; have q2b_01 := cellAt (i := 1) (u := .slice none 0 0) SN2b.out.1 rfl; have z2b_01 := blk_frozen SN2b.out.1 1; have q2b_02 := cellAt (i := 2) (u := .int .i64 0) SN2b.out.1 rfl; have z2b_02 := blk_frozen SN2b.out.1 2; have q2b_10 := fun o_ => cellAt (i := 0) (u := .slice none 0 0) (blk_alloc SN2b.out.1 o_) rfl; have z2b_10 := fun o_ => blk_frozen (blk_alloc SN2b.out.1 o_) 0; have q2b_11 := fun o_ => cellAt (i := 1) (u := .slice none 0 0) (blk_alloc SN2b.out.1 o_) rfl; have z2b_11 := fun o_ => blk_frozen (blk_alloc SN2b.out.1 o_) 1; have q2b_12 := fun o_ => cellAt (i := 2) (u := .int .i64 0) (blk_alloc SN2b.out.1 o_) rfl; have z2b_12 := fun o_ => blk_frozen (blk_alloc SN2b.out.1 o_) 2; have q2b_20 := fun o_ p_ => cellAt (i := 0) (u := .slice none 0 0) (blk_alloc (blk_alloc SN2b.out.1 o_) p_) rfl; have z2b_20 := fun o_ p_ => blk_frozen (blk_alloc (blk_alloc SN2b.out.1 o_) p_) 0; have q2b_21 := fun o_ p_ => cellAt (i := 1) (u := .slice none 0 0) (blk_alloc (blk_alloc SN2b.out.1 o_) p_) rfl; have z2b_21 := fun o_ p_ => blk_frozen (blk_alloc (blk_alloc SN2b.out.1 o_) p_) 1; have q2b_22 := fun o_ p_ => cellAt (i := 2) (u := .int .i64 0) (blk_alloc (blk_alloc SN2b.out.1 o_) p_) rfl; have z2b_22 := fun o_ p_ => blk_frozen (blk_alloc (blk_alloc SN2b.out.1 o_) p_) 2)); (try (have na2b3 := Nat.ne_of_lt LT2b3.out; have nb2b3 := Nat.ne_of_gt LT2b3.out; have nc2b3 := Nat.ne_of_lt (Nat.lt_succ_of_lt LT2b3.out); have nd2b3 := Nat.ne_of_gt (Nat.lt_succ_of_lt LT2b3.out))); (try (have na2b4 := Nat.ne_of_lt LT2b4.out; have nb2b4 := Nat.ne_of_gt LT2b4.out; have nc2b4 := Nat.ne_of_lt (Nat.lt_succ_of_lt LT2b4.out); have nd2b4 := Nat.ne_of_gt (Nat.lt_succ_of_lt LT2b4.out))); (try (have na2b5 := Nat.ne_of_lt (blk_lt SN2b.out.1); have nb2b5 := Nat.ne_of_gt (blk_lt SN2b.out.1); have nc2b5 := Nat.ne_of_lt (Nat.lt_succ_of_lt (blk_lt SN2b.out.1)); have nd2b5 := Nat.ne_of_gt (Nat.lt_succ_of_lt (blk_lt SN2b.out.1)))); (try (have q3a_00 := cellAt (i := 0) (u := .slice none 0 0) SN3a.out.1 rfl; have z3a_00 := blk_frozen SN3a.out.1 0; have q3a_01 := cellAt (i := 1) (u := .slice none 0 0) SN3a.out.1 rfl; have z3a_01 := blk_frozen SN3a.out.1 1; have q3a_02 := cellAt (i := 2) (u := .int .i64 0) SN3a.out.1 rfl; have z3a_02 := blk_frozen SN3a.out.1 2; have q3a_10 := fun o_ => cellAt (i := 0) (u := .slice none 0 0) (blk_alloc SN3a.out.1 o_) rfl; have z3a_10 := fun o_ => blk_frozen (blk_alloc SN3a.out.1 o_) 0; have q3a_11 := fun o_ => cellAt (i := 1) (u := .slice none 0 0) (blk_alloc SN3a.out.1 o_) rfl; have z3a_11 := fun o_ => blk_frozen (blk_alloc SN3a.out.1 o_) 1; have q3a_12 := fun o_ => cellAt (i := 2) (u := .int .i64 0) (blk_alloc SN3a.out.1 o_) rfl; have z3a_12 := fun o_ => blk_frozen (blk_alloc SN3a.out.1 o_) 2; have q3a_20 := fun o_ p_ => cellAt (i := 0) (u := .slice none 0 0) (blk_alloc (blk_alloc SN3a.out.1 o_) p_) rfl; have z3a_20 := fun o_ p_ => blk_frozen (blk_alloc (blk_alloc SN3a.out.1 o_) p_) 0; have q3a_21 := fun o_ p_ => cellAt (i := 1) (u := .slice none 0 0) (blk_alloc (blk_alloc SN3a.out.1 o_) p_) rfl; have z3a_21 := fun o_ p_ => blk_frozen (blk_alloc (blk_alloc SN3a.out.1 o_) p_) 1; have q3a_22 := fun o_ p_ => cellAt (i := 2) (u := .int .i64 0) (blk_alloc (blk_alloc SN3a.out.1 o_) p_) rfl; have z3a_22 := fun o_ p_ => blk_frozen (blk_alloc (blk_alloc SN3a.out.1 o_) p_) 2)); (try (have na3a4 := Nat.ne_of_lt LT3a4.out; have nb3a4 := Nat.ne_of_gt LT3a4.out; have nc3a4 := Nat.ne_of_lt (Nat.lt_succ_of_lt LT3a4.out); have nd3a4 := Nat.ne_of_gt (Nat.lt_succ_of_lt LT3a4.out))); (try (have na3a5 := Nat.ne_of_lt (blk_lt SN3a.out.1); have nb3a5 := Nat.ne_of_gt (blk_lt SN3a.out.1); have nc3a5 := Nat.ne_of_lt (Nat.lt_succ_of_lt (blk_lt SN3a.out.1)); have nd3a5 := Nat.ne_of_gt (Nat.lt_succ_of_lt (blk_lt SN3a.out.1)))); (try (have q3b_00 := cellAt (i := 0) (u := .slice none 0 0) SN3b.out.1 rfl; have z3b_00 := blk_frozen SN3b.out.1 0; have q3b_01 := cellAt (i := 1) (u := .slice none 0 0) SN3b.out.1 rfl; have z3b_01 := blk_frozen SN3b.out.1 1; have q3b_02 := cellAt (i := 2) (u := .int .i64 0) SN3b.out.1 rfl; have z3b_02 := blk_frozen SN3b.out.1 2; have q3b_10 := fun o_ => cellAt (i := 0) (u := .slice none 0 0) (blk_alloc SN3b.out.1 o_) rfl; have z3b_10 := fun o_ => blk_frozen (blk_alloc SN3b.out.1 o_) 0; have q3b_11 := fun o_ => cellAt (i := 1) (u := .slice none 0 0) (blk_alloc SN3b.out.1 o_) rfl; have z3b_11 := fun o_ => blk_frozen (blk_alloc SN3b.out.1 o_) 1; have q3b_12 := fun o_ => cellAt (i := 2) (u := .int .i64 0) (blk_alloc SN3b.out.1 o_) rfl; have z3b_12 := fun o_ => blk_frozen (blk_alloc SN3b.out.1 o_) 2; have q3b_20 := fun o_ p_ => cellAt (i := 0) (u := .slice none 0 0) (blk_alloc (blk_alloc SN3b.out.1 o_) p_) rfl; have z3b_20 := fun o_ p_ => blk_frozen (blk_alloc (blk_alloc SN3b.out.1 o_) p_) 0; have q3b_21 := fun o_ p_ => cellAt (i := 1) (u := .slice none 0 0) (blk_alloc (blk_alloc SN3b.out.1 o_) p_) rfl; have z3b_21 := fun o_ p_ => blk_frozen (blk_alloc (blk_alloc SN3b.out.1 o_) p_) 1; have q3b_22 := fun o_ p_ => cellAt (i := 2) (u := .int .i64 0) (blk_alloc (blk_alloc SN3b.out.1 o_) p_) rfl; have z3b_22 := fun o_ p_ => blk_frozen (blk_alloc (blk_alloc SN3b.out.1 o_) p_) 2)); (try (have na3b4 := Nat.ne_of_lt LT3b4.out; have nb3b4 := Nat.ne_of_gt LT3b4.out; have nc3b4 := Nat.ne_of_lt (Nat.lt_succ_of_lt LT3b4.out); have nd3b4 := Nat.ne_of_gt (Nat.lt_succ_of_lt LT3b4.out))); (try (have na3b5 := Nat.ne_of_lt (blk_lt SN3b.out.1); have nb3b5 := Nat.ne_of_gt (blk_lt SN3b.out.1); have nc3b5 := Nat.ne_of_lt (Nat.lt_succ_of_lt (blk_lt SN3b.out.1)); have nd3b5 := Nat.ne_of_gt (Nat.lt_succ_of_lt (blk_lt SN3b.out.1)))); (try (have q4a_00 := cellAt (i := 0) (u := .slice none 0 0) SN4a.out.1 rfl; have z4a_00 := blk_frozen SN4a.out.1 0; have q4a_01 := cellAt (i := 1) (u := .slice none 0 0) SN4a.out.1 rfl; have z4a_01 := blk_frozen SN4a.out.1 1; have q4a_02 := cellAt (i := 2) (u := .int .i64 0) SN4a.out.1 rfl; have z4a_02 := blk_frozen SN4a.out.1 2; have q4a_10 := fun o_ => cellAt (i := 0) (u := .slice none 0 0) (blk_alloc SN4a.out.1 o_) rfl; have z4a_10 := fun o_ => blk_frozen (blk_alloc SN4a.out.1 o_) 0; have q4a_11 := fun o_ => cellAt (i := 1) (u := .slice none 0 0) (blk_alloc SN4a.out.1 o_) rfl; have z4a_11 := fun o_ => blk_frozen (blk_alloc SN4a.out.1 o_) 1; have q4a_12 := fun o_ => cellAt (i := 2) (u := .int .i64 0) (blk_alloc SN4a.out.1 o_) rfl; have z4a_12 := fun o_ => blk_frozen (blk_alloc SN4a.out.1 o_) 2; have q4a_20 := fun o_ p_ => cellAt (i := 0) (u := .slice none 0 0) (blk_alloc (blk_alloc SN4a.out.1 o_) p_) rfl; have z4a_20 := fun o_ p_ => blk_frozen (blk_alloc (blk_alloc SN4a.out.1 o_) p_) 0; have q4a_21 := fun o_ p_ => cellAt (i := 1) (u := .slice none 0 0) (blk_alloc (blk_alloc SN4a.out.1 o_) p_) rfl; have z4a_21 := fun o_ p_ => blk_frozen (blk_alloc (blk_alloc SN4a.out.1 o_) p_) 1; have q4a_22 := fun o_ p_ => cellAt (i := 2) (u := .int .i64 0) (blk_alloc (blk_alloc SN4a.out.1 o_) p_) rfl; have z4a_22 := fun o_ p_ => blk_frozen (blk_alloc (blk_alloc SN4a.out.1 o_) p_) 2)); (try (have na4a5 := Nat.ne_of_lt (blk_lt SN4a.out.1); have nb4a5 := Nat.ne_of_gt (blk_lt SN4a.out.1); have nc4a5 := Nat.ne_of_lt (Nat.lt_succ_of_lt (blk_lt SN4a.out.1)); have nd4a5 := Nat.ne_of_gt (Nat.lt_succ_of_lt (blk_lt SN4a.out.1)))); (try (have q4b_00 := cellAt (i := 0) (u := .slice none 0 0) SN4b.out.1 rfl; have z4b_00 := blk_frozen SN4b.out.1 0; have q4b_01 := cellAt (i := 1) (u := .slice none 0 0) SN4b.out.1 rfl; have z4b_01 := blk_frozen SN4b.out.1 1; have q4b_02 := cellAt (i := 2) (u := .int .i64 0) SN4b.out.1 rfl; have z4b_02 := blk_frozen SN4b.out.1 2; have q4b_10 := fun o_ => cellAt (i := 0) (u := .slice none 0 0) (blk_alloc SN4b.out.1 o_) rfl; have z4b_10 := fun o_ => blk_frozen (blk_alloc SN4b.out.1 o_) 0; have q4b_11 := fun o_ => cellAt (i := 1) (u := .slice none 0 0) (blk_alloc SN4b.out.1 o_) rfl; have z4b_11 := fun o_ => blk_frozen (blk_alloc SN4b.out.1 o_) 1; have q4b_12 := fun o_ => cellAt (i := 2) (u := .int .i64 0) (blk_alloc SN4b.out.1 o_) rfl; have z4b_12 := fun o_ => blk_frozen (blk_alloc SN4b.out.1 o_) 2; have q4b_20 := fun o_ p_ => cellAt (i := 0) (u := .slice none 0 0) (blk_alloc (blk_alloc SN4b.out.1 o_) p_) rfl; have z4b_20 := fun o_ p_ => blk_frozen (blk_alloc (blk_alloc SN4b.out.1 o_) p_) 0; have q4b_21 := fun o_ p_ => cellAt (i := 1) (u := .slice none 0 0) (blk_alloc (blk_alloc SN4b.out.1 o_) p_) rfl; have z4b_21 := fun o_ p_ => blk_frozen (blk_alloc (blk_alloc SN4b.out.1 o_) p_) 1; have q4b_22 := fun o_ p_ => cellAt (i := 2) (u := .int .i64 0) (blk_alloc (blk_alloc SN4b.out.1 o_) p_) rfl; have z4b_22 := fun o_ p_ => blk_frozen (blk_alloc (blk_alloc SN4b.out.1 o_) p_) 2)); (try (have na4b5 := Nat.ne_of_lt (blk_lt SN4b.out.1); have nb4b5 := Nat.ne_of_gt (blk_lt SN4b.out.1); have nc4b5 := Nat.ne_of_lt (Nat.lt_succ_of_lt (blk_lt SN4b.out.1)); have nd4b5 := Nat.ne_of_gt (Nat.lt_succ_of_lt (blk_lt SN4b.out.1))))))
    all_goals (
      go_wp2
      go_meet
      case rel => refine ⟨?_⟩; first | (with_reducible exact AltAt.rel (alt_mid ((Nat.le_trans HM.out.below.size HW1.out.size)) (Chn.below HCH.out (by first | (with_reducible exact Below.refl _ _) | (with_reducible exact below_alloc (Below.refl _ _) _) | (with_reducible exact below_alloc (below_alloc (Below.refl _ _) _) _) | (with_reducible exact below_drew (Below.refl _ _)) | (with_reducible exact below_drew (below_alloc (Below.refl _ _) _)) | (with_reducible exact below_drew (below_alloc (below_alloc (Below.refl _ _) _) _)))) (RowsAt.below HRA.out (by first | (with_reducible exact Below.refl _ _) | (with_reducible exact below_alloc (Below.refl _ _) _) | (with_reducible exact below_alloc (below_alloc (Below.refl _ _) _) _) | (with_reducible exact below_drew (Below.refl _ _)) | (with_reducible exact below_drew (below_alloc (Below.refl _ _) _)) | (with_reducible exact below_drew (below_alloc (below_alloc (Below.refl _ _) _) _)))) (RowsAt.below HRB.out (by first | (with_reducible exact Below.refl _ _) | (with_reducible exact below_alloc (Below.refl _ _) _) | (with_reducible exact below_alloc (below_alloc (Below.refl _ _) _) _) | (with_reducible exact below_drew (Below.refl _ _)) | (with_reducible exact below_drew (below_alloc (Below.refl _ _) _)) | (with_reducible exact below_drew (below_alloc (below_alloc (Below.refl _ _) _) _)))) (HLT4.out.1) (HLT4.out.2.1) (HLT4.out.2.2) (by first | (with_reducible exact SN1a.out) | (with_reducible exact Sep.alloc SN1a.out _) | (with_reducible exact SN1b.out) | (with_reducible exact Sep.alloc SN1b.out _) | (with_reducible exact SN2a.out) | (with_reducible exact Sep.alloc SN2a.out _) | (with_reducible exact SN2b.out) | (with_reducible exact Sep.alloc SN2b.out _) | (with_reducible exact SN3a.out) | (with_reducible exact Sep.alloc SN3a.out _) | (with_reducible exact SN3b.out) | (with_reducible exact Sep.alloc SN3b.out _) | (with_reducible exact SN4a.out) | (with_reducible exact Sep.alloc SN4a.out _) | (with_reducible exact SN4b.out) | (with_reducible exact Sep.alloc SN4b.out _) | (with_reducible exact Sep.new HM5.out 74 _)) (by first | (with_reducible exact SN1a.out) | (with_reducible exact Sep.alloc SN1a.out _) | (with_reducible exact SN1b.out) | (with_reducible exact Sep.alloc SN1b.out _) | (with_reducible exact SN2a.out) | (with_reducible exact Sep.alloc SN2a.out _) | (with_reducible exact SN2b.out) | (with_reducible exact Sep.alloc SN2b.out _) | (with_reducible exact SN3a.out) | (with_reducible exact Sep.alloc SN3a.out _) | (with_reducible exact SN3b.out) | (with_reducible exact Sep.alloc SN3b.out _) | (with_reducible exact SN4a.out) | (with_reducible exact Sep.alloc SN4a.out _) | (with_reducible exact SN4b.out) | (with_reducible exact Sep.alloc SN4b.out _) | (with_reducible exact Sep.new HM5.out 74 _)) (by have h2 := HL2.out; have h3 := HL3.out; have h4 := HL4.out; have h5 := HL5.out; omega) (by have h2 := HL2.out; have h3 := HL3.out; have h4 := HL4.out; have h5 := HL5.out; omega) (by first | assumption | omega))) | (with_reducible exact AltAt.rel (alt_mid2 ((Nat.le_trans HM.out.below.size HW1.out.size)) (HCH.out) (HRA.out) (HRB.out) (HLT4.out.1) (HLT4.out.2.1) (HLT4.out.2.2) (by first | (with_reducible exact SN1a.out) | (with_reducible exact Sep.alloc SN1a.out _) | (with_reducible exact SN1b.out) | (with_reducible exact Sep.alloc SN1b.out _) | (with_reducible exact SN2a.out) | (with_reducible exact Sep.alloc SN2a.out _) | (with_reducible exact SN2b.out) | (with_reducible exact Sep.alloc SN2b.out _) | (with_reducible exact SN3a.out) | (with_reducible exact Sep.alloc SN3a.out _) | (with_reducible exact SN3b.out) | (with_reducible exact Sep.alloc SN3b.out _) | (with_reducible exact SN4a.out) | (with_reducible exact Sep.alloc SN4a.out _) | (with_reducible exact SN4b.out) | (with_reducible exact Sep.alloc SN4b.out _) | (with_reducible exact Sep.new HM5.out 74 _)) (by have h2 := HL2.out; have h3 := HL3.out; have h4 := HL4.out; have h5 := HL5.out; omega))) | (with_reducible exact AltAt.rel (alt_mid3 (HCH.out) (HRA.out) (HRB.out) (HLT4.out.1) (HLT4.out.2.1) (HLT4.out.2.2))) | (with_reducible exact AltAt.rel (alt_mid4 (HCH.out) (HRA.out) (HRB.out) (HLT4.out.1) (HLT4.out.2.1) (HLT4.out.2.2))))
  case rest =>
    clear HF1 HC5 HX0 d0 d1 d2 d3 d4 d5
    obtain ⟨⟨T6, T7, B, s2, Af, Ae, Bf, Be, cf, ce, df, de, rfl, rfl, hA⟩⟩ := hcut
    have HAP := Aside0.mk hA.ap
    have HBT : Aside0 (BAt wc B b mp s2 d Bf Be df de (.slice Ae a.f1.length ce)) := ⟨⟨hA.rb, hA.ae⟩⟩
    have HAB := Aside0.mk (And.intro hA.af hA.ae)
    clear hA
    have MK1 := True.intro
    have MK2 := True.intro
    go_wp2
    go_region_held3 (fun w' => w'.cell? ⟨T6, 0, none⟩ = some (.slice Af a.f0.length cf) ∧ w'.cell? ⟨T6, 1, none⟩ = some (.slice Ae a.f1.length ce) ∧ w'.cell? ⟨T6, 2, none⟩ = some (.int .i64 a.f2) ∧ w'.cell? ⟨T7, 0, none⟩ = some (.slice Bf d.f0.length df) ∧ w'.cell? ⟨T7, 1, none⟩ = some (.slice Be d.f1.length de) ∧ w'.cell? ⟨T7, 2, none⟩ = some (.int .i64 d.f2)) ((refine ⟨?_, ?_, ?_, ?_, ?_, ?_⟩ <;> (repeat (with_reducible refine set3_cell (by have h1 := HLT.out; have h2 := HAP.out.l6; have h3 := HAP.out.l7; omega) ?_)) <;> (first | (refine cellAt (blk_below (ApAt.t6 HAP.out) ?_) rfl; exact (by first | (with_reducible exact Below.refl _ _) | (with_reducible exact below_alloc (Below.refl _ _) _) | (with_reducible exact below_alloc (below_alloc (Below.refl _ _) _) _) | (with_reducible exact below_drew (Below.refl _ _)) | (with_reducible exact below_drew (below_alloc (Below.refl _ _) _)) | (with_reducible exact below_drew (below_alloc (below_alloc (Below.refl _ _) _) _)))) | (refine cellAt (blk_below (ApAt.t7 HAP.out) ?_) rfl; exact (by first | (with_reducible exact Below.refl _ _) | (with_reducible exact below_alloc (Below.refl _ _) _) | (with_reducible exact below_alloc (below_alloc (Below.refl _ _) _) _) | (with_reducible exact below_drew (Below.refl _ _)) | (with_reducible exact below_drew (below_alloc (Below.refl _ _) _)) | (with_reducible exact below_drew (below_alloc (below_alloc (Below.refl _ _) _) _))))))) (first | (go_at_call 35; refine (min2_calls a.f2 d.f2 _ _ ?_).mono ?_; (first | exact HG2.out | exact heap_alloc_new _ (.cells #[.int .i64 a.f2, .int .i64 d.f2] 3)); rintro e w7 ⟨rfl, hb7⟩; have HAPn := Aside0.mk (ApAt.below (ApAt.below HAP.out (by first | (with_reducible exact Below.refl _ _) | (with_reducible exact below_alloc (Below.refl _ _) _) | (with_reducible exact below_alloc (below_alloc (Below.refl _ _) _) _) | (with_reducible exact below_drew (Below.refl _ _)) | (with_reducible exact below_drew (below_alloc (Below.refl _ _) _)) | (with_reducible exact below_drew (below_alloc (below_alloc (Below.refl _ _) _) _)))) hb7); clear HAP hb7; have HAP := HAPn; clear HAPn; have HR7 := Aside0.mk (HAP.out.ch.blk HR0.out HZX.out.2); have k0 := cellAt (i := 0) (u := .slice none 0 0) HR7.out rfl; have k1 := cellAt (i := 1) (u := .slice none 0 0) HR7.out rfl; have k2 := cellAt (i := 2) (u := .int .i64 0) HR7.out rfl; have n0 := blk_frozen HR7.out 0; have n1 := blk_frozen HR7.out 1; have n2 := blk_frozen HR7.out 2) | (clear MK1; refine Kd.R_append_rows_step k94 W1.heap.size (by rfl) (.tmp 42) (.tmp 44) 72 94 (.agg #[(.int .i64 0), (.int .i64 0)]) 16 rfl Try.underlying72 info94 rfl (by decide) (by omega) _ a.f0 d.f0 _ _ _ (fun k => ¬ Zn b mp s2 k ∧ some k ≠ (.slice Ae a.f1.length ce : Value).ownBlock) (fun _ => False) rfl rfl (ApAt.rf (ApAt.below HAP.out (by first | (with_reducible exact Below.refl _ _) | (with_reducible exact below_alloc (Below.refl _ _) _) | (with_reducible exact below_alloc (below_alloc (Below.refl _ _) _) _) | (with_reducible exact below_drew (Below.refl _ _)) | (with_reducible exact below_drew (below_alloc (Below.refl _ _) _)) | (with_reducible exact below_drew (below_alloc (below_alloc (Below.refl _ _) _) _))))) (Kd.R_reads' (RowsAt.f (BAt.rb (BAt.below HBT.out (by first | (with_reducible exact Below.refl _ _) | (with_reducible exact below_alloc (Below.refl _ _) _) | (with_reducible exact below_alloc (below_alloc (Below.refl _ _) _) _) | (with_reducible exact below_drew (Below.refl _ _)) | (with_reducible exact below_drew (below_alloc (Below.refl _ _) _)) | (with_reducible exact below_drew (below_alloc (below_alloc (Below.refl _ _) _) _))))))).2.2 (fun x cs h => by obtain rfl := k94_open h; exact k94_mkM _ _ _ x) (fun _ h => h.elim) (ApAt.fresh1 (ApAt.below HAP.out (by first | (with_reducible exact Below.refl _ _) | (with_reducible exact below_alloc (Below.refl _ _) _) | (with_reducible exact below_alloc (below_alloc (Below.refl _ _) _) _) | (with_reducible exact below_drew (Below.refl _ _)) | (with_reducible exact below_drew (below_alloc (Below.refl _ _) _)) | (with_reducible exact below_drew (below_alloc (below_alloc (Below.refl _ _) _) _))))) (Below.refl _ _) (ApAt.base (ApAt.below HAP.out (by first | (with_reducible exact Below.refl _ _) | (with_reducible exact below_alloc (Below.refl _ _) _) | (with_reducible exact below_alloc (below_alloc (Below.refl _ _) _) _) | (with_reducible exact below_drew (Below.refl _ _)) | (with_reducible exact below_drew (below_alloc (Below.refl _ _) _)) | (with_reducible exact below_drew (below_alloc (below_alloc (Below.refl _ _) _) _))))) (by obtain ⟨q1, q2, _, _⟩ := okP_at HOK.out.1; obtain ⟨q3, q4, _, _⟩ := okP_at HOK.out.2; omega) ?_; intro u1 x1 ho1 hb1 hg1 hat1; obtain ⟨U1, d1, eu1⟩ := Kd.R_slice ho1; subst eu1; (try have HG1 := Aside0.mk (ap_keep (ApAt.rf (ApAt.below HAP.out (by first | (with_reducible exact Below.refl _ _) | (with_reducible exact below_alloc (Below.refl _ _) _) | (with_reducible exact below_alloc (below_alloc (Below.refl _ _) _) _) | (with_reducible exact below_drew (Below.refl _ _)) | (with_reducible exact below_drew (below_alloc (Below.refl _ _) _)) | (with_reducible exact below_drew (below_alloc (below_alloc (Below.refl _ _) _) _))))) hg1 (heap_new_drew _ #[.int .i64 a.f2, .int .i64 d.f2] 3) (by decide))); have HBn := Aside0.mk (BAt.app (BAt.below HBT.out (by first | (with_reducible exact Below.refl _ _) | (with_reducible exact below_alloc (Below.refl _ _) _) | (with_reducible exact below_alloc (below_alloc (Below.refl _ _) _) _) | (with_reducible exact below_drew (Below.refl _ _)) | (with_reducible exact below_drew (below_alloc (Below.refl _ _) _)) | (with_reducible exact below_drew (below_alloc (below_alloc (Below.refl _ _) _) _)))) HAB.out.1 hg1); have HAPn := Aside0.mk (ApAt.app1 (Nat.le_trans HM.out.below.size HW1.out.size) (ApAt.below HAP.out (by first | (with_reducible exact Below.refl _ _) | (with_reducible exact below_alloc (Below.refl _ _) _) | (with_reducible exact below_alloc (below_alloc (Below.refl _ _) _) _) | (with_reducible exact below_drew (Below.refl _ _)) | (with_reducible exact below_drew (below_alloc (Below.refl _ _) _)) | (with_reducible exact below_drew (below_alloc (below_alloc (Below.refl _ _) _) _)))) ho1 hg1 hat1); clear HAP HBT ho1 hb1 hg1 hat1; have HAP := HAPn; have HBT := HBn; clear HAPn HBn) | (clear MK2; refine Kd.R_append_rows_step k94 W1.heap.size (by rfl) (.tmp 47) (.tmp 49) 72 94 (.agg #[(.int .i64 0), (.int .i64 0)]) 16 rfl Try.underlying72 info94 rfl (by decide) (by omega) _ a.f1 d.f1 _ _ _ (fun k => ¬ Zn b mp s2 k ∧ some k ≠ (.slice U1 (a.f0 ++ d.f0).length d1 : Value).ownBlock) (fun _ => False) rfl rfl (ApAt.re (ApAt.below HAP.out (by first | (with_reducible exact Below.refl _ _) | (with_reducible exact below_alloc (Below.refl _ _) _) | (with_reducible exact below_alloc (below_alloc (Below.refl _ _) _) _) | (with_reducible exact below_drew (Below.refl _ _)) | (with_reducible exact below_drew (below_alloc (Below.refl _ _) _)) | (with_reducible exact below_drew (below_alloc (below_alloc (Below.refl _ _) _) _))))) (Kd.R_reads' (RowsAt.e (BAt.rb (BAt.below HBT.out (by first | (with_reducible exact Below.refl _ _) | (with_reducible exact below_alloc (Below.refl _ _) _) | (with_reducible exact below_alloc (below_alloc (Below.refl _ _) _) _) | (with_reducible exact below_drew (Below.refl _ _)) | (with_reducible exact below_drew (below_alloc (Below.refl _ _) _)) | (with_reducible exact below_drew (below_alloc (below_alloc (Below.refl _ _) _) _))))))).2.2 (fun x cs h => by obtain rfl := k94_open h; exact k94_mkM _ _ _ x) (fun _ h => h.elim) (ApAt.fresh2 (ApAt.below HAP.out (by first | (with_reducible exact Below.refl _ _) | (with_reducible exact below_alloc (Below.refl _ _) _) | (with_reducible exact below_alloc (below_alloc (Below.refl _ _) _) _) | (with_reducible exact below_drew (Below.refl _ _)) | (with_reducible exact below_drew (below_alloc (Below.refl _ _) _)) | (with_reducible exact below_drew (below_alloc (below_alloc (Below.refl _ _) _) _))))) (Below.refl _ _) (ApAt.base (ApAt.below HAP.out (by first | (with_reducible exact Below.refl _ _) | (with_reducible exact below_alloc (Below.refl _ _) _) | (with_reducible exact below_alloc (below_alloc (Below.refl _ _) _) _) | (with_reducible exact below_drew (Below.refl _ _)) | (with_reducible exact below_drew (below_alloc (Below.refl _ _) _)) | (with_reducible exact below_drew (below_alloc (below_alloc (Below.refl _ _) _) _))))) (by obtain ⟨q1, q2, _, _⟩ := okP_at HOK.out.1; obtain ⟨q3, q4, _, _⟩ := okP_at HOK.out.2; omega) ?_; intro u2 x2 ho2 hb2 hg2 hat2; obtain ⟨U2, d2, eu2⟩ := Kd.R_slice ho2; subst eu2; (try have HG2 := Aside0.mk (ap_keep (ApAt.re (ApAt.below HAP.out (by first | (with_reducible exact Below.refl _ _) | (with_reducible exact below_alloc (Below.refl _ _) _) | (with_reducible exact below_alloc (below_alloc (Below.refl _ _) _) _) | (with_reducible exact below_drew (Below.refl _ _)) | (with_reducible exact below_drew (below_alloc (Below.refl _ _) _)) | (with_reducible exact below_drew (below_alloc (below_alloc (Below.refl _ _) _) _))))) hg2 HG1.out (by decide))); (try have HG2 := Aside0.mk (ap_keep (ApAt.re (ApAt.below HAP.out (by first | (with_reducible exact Below.refl _ _) | (with_reducible exact below_alloc (Below.refl _ _) _) | (with_reducible exact below_alloc (below_alloc (Below.refl _ _) _) _) | (with_reducible exact below_drew (Below.refl _ _)) | (with_reducible exact below_drew (below_alloc (Below.refl _ _) _)) | (with_reducible exact below_drew (below_alloc (below_alloc (Below.refl _ _) _) _))))) hg2 (heap_alloc_new _ (.cells #[.int .i64 a.f2, .int .i64 d.f2] 3)) (by decide))); have HAPn := Aside0.mk (ApAt.app2 (Nat.le_trans HM.out.below.size HW1.out.size) (ApAt.below HAP.out (by first | (with_reducible exact Below.refl _ _) | (with_reducible exact below_alloc (Below.refl _ _) _) | (with_reducible exact below_alloc (below_alloc (Below.refl _ _) _) _) | (with_reducible exact below_drew (Below.refl _ _)) | (with_reducible exact below_drew (below_alloc (Below.refl _ _) _)) | (with_reducible exact below_drew (below_alloc (below_alloc (Below.refl _ _) _) _)))) ho2 hg2 hat2); clear HAP HBT ho2 hb2 hg2 hat2; have HAP := HAPn; clear HAPn))
    all_goals (
      have hP7 := blk_put (blk_put (blk_put HR7.out 0 (.slice U1 (a.f0.length + d.f0.length) d1) (cs' := #[.slice U1 (a.f0.length + d.f0.length) d1, .slice none 0 0, .int .i64 0]) rfl) 1 (.slice U2 (a.f1.length + d.f1.length) d2) (cs' := #[.slice U1 (a.f0.length + d.f0.length) d1, .slice U2 (a.f1.length + d.f1.length) d2, .int .i64 0]) rfl) 2 (.int .i64 (mn (mn 1152921504606846976 a.f2) d.f2)) (cs' := #[.slice U1 (a.f0.length + d.f0.length) d1, .slice U2 (a.f1.length + d.f1.length) d2, .int .i64 (mn (mn 1152921504606846976 a.f2) d.f2)]) rfl
      have hg7 := set3_grown w7 (W.heap.size + 1) (.slice U1 (a.f0.length + d.f0.length) d1) (.slice U2 (a.f1.length + d.f1.length) d2) (.int .i64 (mn (mn 1152921504606846976 a.f2) d.f2))
      go_wp2
      refine bodyPost_ret (results_cell_row rfl _ _ (W.heap.size + 1) 74 #[.slice U1 (a.f0.length + d.f0.length) d1, .slice U2 (a.f1.length + d.f1.length) d2, .int .i64 (mn (mn 1152921504606846976 a.f2) d.f2)] (0, 0) _ (by rfl) hP7 Try.underlying74 rfl (by kernel_rfl)) rfl ?_
      have e := made_end (p := ⟨a.f0 ++ d.f0, a.f1 ++ d.f1, mn (mn 1152921504606846976 a.f2) d.f2⟩) HM.out HW1.out HAP.out.ch.ma HAP.out.ch.k HAP.out.ch.s2 (T := W.heap.size + 1) (by omega) HLT.out ⟨_, HR7.out⟩ (spR_to HAP.out.rf (fun _ _ => rfl) (fun k hk => ⟨fun e => (HAP.out.rf.1 k hk).1 (.inr (.inr e)), (HAP.out.rf.1 k hk).2⟩)) (spR_to HAP.out.re (fun _ _ => rfl) (fun k hk => ⟨fun e => (HAP.out.re.1 k hk).1 (.inr (.inr e)), (HAP.out.re.1 k hk).2⟩)) hg7
      simp only [List.length_append] at e
      exact e)
end Go.Proofs.Ytnnpfgpfkningaa.P
namespace Go.Proofs.Ytnnpfgpfkningaa.P
open Go.RowKit Go.Proofs.YtnnpfgpfkningaaW.PrintWords Go.Proofs.YtnnpfgpfkningaaW.PrintLast Go.Proofs.YtnnpfgpfkningaaW.PrintMore
attribute [local go_sem] max2_int min2_int max_two min_two max_three min_three max_four min_four   -- for this text's walks alone
attribute [local go_sem ↓ high] Go.Proofs.YtnnpfgpfkningaaX.isSome_setCell
set_option linter.unusedVariables false
set_option linter.unusedSimpArgs false
/-- syn.Sets as the print names it: of both of a file's rows. -/
def syn_SetsP.f (k : Nat) (l0 : List S61) (_l1 : List S174) : Option (List (List S111)) := syn_Sets.f k l0
theorem syn_SetsP.calls (k : Nat) (A0 : Option Addr) (c0 : Nat) (l0 : List S61) (A1 : Option Addr) (c1 : Nat) (l1 : List S174) (r : List (List S111)) (w : World) (hr0 : Kd.C k61 w A0 l0.length l0) (hc0 : l0.length ≤ c0) (_ : Kd.C k174 w A1 l1.length l1) (_ : l1.length ≤ c1) (h : syn_SetsP.f k l0 l1 = some r) :
    Calls Try.prog 36 #[.agg #[.slice A0 l0.length c0, .slice A1 l1.length c1]] w fun e w' => ∃ v0_ : Value, e = .returned (v0_) ∧ Kd.R (Kd.slice 111 k111) 84 w' w.heap.size (fun _ => True) v0_ r ∧ Below w.heap.size w w' := syn_Sets.calls k A0 c0 l0 A1 l1.length c1 r w hr0 hc0 h
def costA (now : List Int) : List S51 → List Int → Option (List Int)
  | [], next => some next
  | a :: t, next => if (0 ≤ a.f1 ∧ a.f1 < (next.length : Int)) ∧ 0 ≤ a.f0 ∧ a.f0 < (now.length : Int) then costA now t (next.set a.f1.toNat (mn (mn 1152921504606846976 (rd next a.f1)) (tadd (rd now a.f0) a.f2))) else none
def costM (f : Int → Option Bool) : Nat → Int → List Int → Option (List Int)
  | 0, _, now => some now
  | m + 1, i, now => (f i).bind fun b => costM f m (i + 1) (if b = true then now else now.set i.toNat 1152921504606846976)
def costT (k : Nat) (f : Int → Int → Option Bool) (sets first : List Int) (arcs : List S51) : List Int → Int → List Int → Option (List Int)
  | [], _, now => some now
  | c :: t, i, now => (if 0 < i then (side_row.f k [] (sets.length : Int)).bind fun r => costA now arcs r else some first).bind fun next => if next.length < 1000000 then (costM (fun j => f j c) next.length 0 next).bind fun now2 => costT k f sets first arcs t (i + 1) now2 else none
def costL (ends : List Int) : List Int → Int → Int → Option Int
  | [], _, b => some b
  | n :: t, i, b => if i < (ends.length : Int) then costL ends t (i + 1) (mn (mn 1152921504606846976 b) (tadd n (rd ends i))) else none
def costF (k : Nat) (sets first ends : List Int) (arcs : List S51) (nn : Int) (defs : List S61) (rules : List S174) (text : List Int) (p q : Int) : Option Int :=
  if 0 ≤ p ∧ p ≤ q ∧ q ≤ (text.length : Int) ∧ text.length < 1000000 ∧ arcs.length < 1000000 then
    if p = q then some (mn 1152921504606846976 nn)
    else (syn_SetsP.f k defs rules).bind fun ss => (costT k (fun j c => side_of.f sets first ends arcs nn ss j c) sets first arcs ((text.take q.toNat).drop p.toNat) 0 []).bind fun now => if now.length < 1000000 then costL ends now 0 1152921504606846976 else none
  else none
theorem drop_int (l : List Int) (i : Int) (h0 : 0 ≤ i) (h : i < (l.length : Int)) : l.drop i.toNat = rd l i :: l.drop (i + 1).toNat := by
  have e : (i + 1).toNat = i.toNat + 1 := by omega
  have hl : i.toNat < l.length := by omega
  rw [e, List.drop_eq_getElem_cons hl, rd, List.getD_eq_getElem?_getD, List.getElem?_eq_getElem hl]; rfl
theorem drop_arc (l : List S51) (i : Int) (h0 : 0 ≤ i) (h : i < (l.length : Int)) : l.drop i.toNat = rd_T51 l i :: l.drop (i + 1).toNat := by
  have e : (i + 1).toNat = i.toNat + 1 := by omega
  have hl : i.toNat < l.length := by omega
  rw [e, List.drop_eq_getElem_cons hl, rd_T51, List.getD_eq_getElem?_getD, List.getElem?_eq_getElem hl]; rfl
theorem min1_calls (a : Int) (g : Nat) (w : World) (h : w.heap[g]? = some (.cells #[.int .i64 a] 3 (0, 0))) : Calls Try.prog 35 #[.slice (some ⟨g, 0, none⟩) 1 1] w fun e w' => e = .returned (.int .i64 (mn 1152921504606846976 a)) ∧ Below w.heap.size w w' :=
  trop_Min.calls 2 (some ⟨g, 0, none⟩) 1 [a] _ w (Kd.R_reads' (intR_mk (e := 3) (base := 0) (cap := 1) (ok := fun _ => True) (l := [a]) trivial (Nat.zero_le _) h (by simp) (by decide) (by simp) (by rfl))).2.2 (by simp) (by
    show trop_Min.l0 2 1152921504606846976 [a] 1 0 = _
    simp [trop_Min.l0, rd, wrap64])
end Go.Proofs.Ytnnpfgpfkningaa.P
