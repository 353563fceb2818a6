import Derived.Test.YtdmmofhmhpnjpaaPx3
import Derived.Test.YtdmmofhmhpnjpaaPx4
import Derived.Test.YtdmmofhmhpnjpaaPx5
import Derived.Test.YtdmmofhmhpnjpaaPx7
import Derived.Test.YtdmmofhmhpnjpaaPx8
namespace Go.Proofs.Ytdmmofhmhpnjpaa.P
open Go.RowKit Go.Proofs.YtdmmofhmhpnjpaaW.PrintWords Go.Proofs.YtdmmofhmhpnjpaaW.PrintLast Go.Proofs.YtdmmofhmhpnjpaaW.PrintMore
attribute [local go_sem ↓ high] Go.Proofs.YtdmmofhmhpnjpaaX.isSome_setCell
set_option linter.unusedVariables false
set_option linter.unusedSimpArgs false
structure Live6 (W : World) (s : Nat) (v : Value) : Prop where
  out : ∃ A n c, v = .slice A n c ∧ n ≤ 9223372036854775807 ∧ (0 < n → ∃ ad : Addr, A = some ad ∧ ad.spot = none ∧ ad.off = 0 ∧ s ≤ ad.block ∧ ∃ cells, W.heap[ad.block]? = some (.cells cells 27 (0, 0)) ∧ n * 2 ≤ cells.size)
theorem Live6.of_R {W : World} {base s : Nat} {ok : Nat → Prop} {v : Value} {xs : List S27} (h : Kd.R k27 27 W base ok v xs) (hs : s ≤ base) : Live6 W s v := by
  obtain ⟨_, inner, ⟨ho1, ho⟩, hr⟩ := h
  rcases ho with ⟨hv, hn⟩ | ⟨g, cap, cur, hv, hb, hh, hnc, hcm, hsz, htk⟩
  · exact ⟨none, 0, 0, hv, by omega, fun h => by omega⟩
  · have h2 : k27.sz = 2 := rfl
    rw [h2] at hsz
    exact ⟨_, _, _, hv, by have : maxLen = 9223372036854775807 := rfl; omega, fun _ => ⟨⟨g, 0, none⟩, rfl, rfl, rfl, by show s ≤ g; omega, cur, hh, by omega⟩⟩
theorem Live6.below {W W1 : World} {s : Nat} {v : Value} (h : Live6 W s v) (hb : Below W.heap.size W W1) : Live6 W1 s v := by
  obtain ⟨A, n, c, hv, hn, h0⟩ := h
  refine ⟨A, n, c, hv, hn, fun hp => ?_⟩
  obtain ⟨ad, a1, a2, a3, a4, cells, a5, a6⟩ := h0 hp
  exact ⟨ad, a1, a2, a3, a4, cells, (hb.block _ (Array.getElem?_eq_some_iff.1 a5).1).trans a5, a6⟩
theorem Live6.set {W : World} {s : Nat} {v : Value} (h : Live6 W s v) (p : Addr) (u : Value) : Live6 (W.setCell p u) s v := by
  obtain ⟨A, n, c, hv, hn, h0⟩ := h
  refine ⟨A, n, c, hv, hn, fun hp => ?_⟩
  obtain ⟨ad, a1, a2, a3, a4, cells, a5, a6⟩ := h0 hp
  by_cases he : p.block = ad.block
  · refine ⟨ad, a1, a2, a3, a4, (if p.spot.isSome then cells else cells.setIfInBounds p.off u), by simp [World.setCell, he, Array.getElem?_modify, a5], ?_⟩
    split
    · exact a6
    · rw [Array.size_setIfInBounds]; exact a6
  · exact ⟨ad, a1, a2, a3, a4, cells, (Below.heap_setCell W p u _ (fun e => he e.symm)).trans a5, a6⟩
structure St6 (w W : World) (s : Nat) (va vb : Value) (a b : List S27) (vs : List Value) : Prop where
  below : Below w.heap.size w W
  ra : Kd.R k27 27 W w.heap.size (fun _ => True) va a
  rb : Kd.R k27 27 W w.heap.size (fun _ => True) vb b
  la : ∀ k, va.ownBlock = some k → k < s
  lb : ∀ k, vb.ownBlock = some k → k < s
  ws : w.heap.size ≤ s
  sw : s ≤ W.heap.size
  rows : ∀ v ∈ vs, Live6 W s v
theorem St6.move {w W W1 : World} {s : Nat} {va vb : Value} {a b : List S27} {vs : List Value} (h : St6 w W s va vb a b vs) (hb : Below W.heap.size W W1) : St6 w W1 s va vb a b vs where
  below := below_weaken h.below h.below.size hb
  ra := Kd.R_below h.ra hb
  rb := Kd.R_below h.rb hb
  la := h.la
  lb := h.lb
  ws := h.ws
  sw := Nat.le_trans h.sw hb.size
  rows := fun v hv => (h.rows v hv).below hb
theorem St6.push {w W W1 : World} {s : Nat} {va vb v : Value} {a b o : List S27} {vs : List Value} (h : St6 w W s va vb a b vs) (hb : Below W.heap.size W W1) (hr : Kd.R k27 27 W1 W.heap.size (fun _ => True) v o) : St6 w W1 s va vb a b (vs ++ [v]) :=
  have m := h.move hb
  ⟨m.below, m.ra, m.rb, m.la, m.lb, m.ws, m.sw, fun u hu => (List.mem_append.1 hu).elim (fun e => (h.rows u e).below hb) (fun e => by rw [List.mem_singleton.1 e]; exact Live6.of_R hr h.sw)⟩
theorem R_own27 {W : World} {base : Nat} {v : Value} {l : List S27} {p : Addr} {u : Value} (h : Kd.R k27 27 W base (fun _ => True) v l) (hne : ∀ k, v.ownBlock = some k → k ≠ p.block) : Kd.R k27 27 (W.setCell p u) base (fun _ => True) v l := by
  have h2 : Kd.R k27 27 W base (fun k => v.ownBlock = some k) v l := ⟨fun _ hk => hk, h.2.imp_ (fun x cs hp => by obtain rfl := k27_openM hp; exact k27_mkM _ _ _ x)⟩
  have h3 := Kd.R_far h2 (p := p) hne u
  exact Kd.R_mono h3 (fun _ _ => trivial)
theorem St6.set {w W : World} {s : Nat} {va vb : Value} {a b : List S27} {vs : List Value} (h : St6 w W s va vb a b vs) (p : Addr) (hp : s ≤ p.block) (u : Value) : St6 w (W.setCell p u) s va vb a b vs where
  below := h.below.trans ⟨rfl, rfl, rfl, by simp [World.setCell], fun i hi => Below.heap_setCell W p u i (by have := h.ws; omega)⟩
  ra := R_own27 h.ra (fun k hk => by have := h.la k hk; omega)
  rb := R_own27 h.rb (fun k hk => by have := h.lb k hk; omega)
  la := h.la
  lb := h.lb
  ws := h.ws
  sw := by simpa [World.setCell] using h.sw
  rows := fun v hv => (h.rows v hv).set p u
theorem lit1 {W : World} {g t : Nat} {v : Value} {base : Nat} {ok : Nat → Prop} {a : List S27} (h : W.heap[g]? = some (.cells #[v] t (0, 0))) (r : Kd.R k27 27 W base ok v a) : Kd.C (Kd.slice 27 k27) W (some ⟨g, 0, none⟩) 1 [a] := by
  refine ⟨rfl, by omega, fun _ => ⟨_, rfl, fun j p hj => ?_⟩⟩
  obtain ⟨A, c, hv, hl, hr⟩ := Kd.R_reads r
  match j, hj with
  | 0, hj =>
    obtain rfl := Option.some.inj hj
    refine ⟨[v], rfl, ⟨A, c, by rw [hv], hl, hr⟩, fun i u hu => ?_⟩
    match i, hu with
    | 0, hu =>
      obtain rfl := Option.some.inj hu
      exact (blk_cell h 0).trans rfl
theorem lit2 {W : World} {g t : Nat} {v v' : Value} {base : Nat} {ok ok' : Nat → Prop} {a b : List S27} (h : W.heap[g]? = some (.cells #[v, v'] t (0, 0))) (r : Kd.R k27 27 W base ok v a) (r' : Kd.R k27 27 W base ok' v' b) : Kd.C (Kd.slice 27 k27) W (some ⟨g, 0, none⟩) 2 [a, b] := by
  refine ⟨rfl, by omega, fun _ => ⟨_, rfl, fun j p hj => ?_⟩⟩
  obtain ⟨A, c, hv, hl, hr⟩ := Kd.R_reads r
  obtain ⟨A', c', hv', hl', hr'⟩ := Kd.R_reads r'
  match j, hj with
  | 0, hj =>
    obtain rfl := Option.some.inj hj
    refine ⟨[v], rfl, ⟨A, c, by rw [hv], hl, hr⟩, fun i u hu => ?_⟩
    match i, hu with
    | 0, hu =>
      obtain rfl := Option.some.inj hu
      exact (blk_cell h 0).trans rfl
  | 1, hj =>
    obtain rfl := Option.some.inj hj
    refine ⟨[v'], rfl, ⟨A', c', by rw [hv'], hl', hr'⟩, fun i u hu => ?_⟩
    match i, hu with
    | 0, hu =>
      obtain rfl := Option.some.inj hu
      exact (blk_cell h 1).trans rfl
structure At6 (w W : World) (s g : Nat) (va vb : Value) (a b : List S27) (vs : List Value) : Prop where
  st : St6 w W s va vb a b vs
  lit : W.heap[g]? = some (.cells vs.toArray 24 (0, 0))
  len : vs.length = 6
theorem At6.set {w W : World} {s g : Nat} {va vb : Value} {a b : List S27} {vs : List Value} (h : At6 w W s g va vb a b vs) (p : Addr) (hp : s ≤ p.block) {cells : Array Value} (hc : W.heap[p.block]? = some (.cells cells 27 (0, 0))) (u : Value) : At6 w (W.setCell p u) s g va vb a b vs :=
  ⟨h.st.set p hp u, (Below.heap_setCell W p u g (fun e => by have := h.lit; rw [e, hc] at this; injection this with this; injection this with _ this; cases this)).trans h.lit, h.len⟩
theorem At6.at_ {w W : World} {s g : Nat} {va vb : Value} {a b : List S27} {vs : List Value} (h : At6 w W s g va vb a b vs) (i : Int) (h0 : 0 ≤ i) (h1 : i < 6) : W.cell? ⟨g, i.toNat, none⟩ = some (vs.getD i.toNat undef) ∧ Live6 W s (vs.getD i.toNat undef) := by
  have hl := h.len
  have hi : i.toNat < vs.length := by omega
  rw [List.getD_eq_getElem?_getD, List.getElem?_eq_getElem hi, Option.getD_some]
  refine ⟨(blk_cell h.lit i.toNat).trans ?_, h.st.rows _ (List.getElem_mem hi)⟩
  simp [hi]
def hyphenlaw3_SetOwn.f (k : Nat) (l0 : List Int) (l1 : List Int) (_a2 : Int) : Option Bool := (hyphenlaw3_known.f k).bind fun t => if t = true then (hyphenlaw3_Make.f k l0).bind fun a => (hyphenlaw3_Make.f k l1).bind fun b => (set_Or.f k [a, b]).bind fun _o1 => (set_Or.f k [a]).bind fun _o2 => (set_And.f k a b).bind fun _o3 => (set_Not.f k a).bind fun _o4 => (set_Less.f k a b).bind fun _o5 => (set_Norm.f k a).bind fun _o6 => (hyphenlaw3_Make.f k l0).bind fun a' => (hyphenref3_Same.f k a a').bind fun t1 => if t1 = true then (hyphenlaw3_Make.f k l1).bind fun b' => (hyphenref3_Same.f k b b').bind fun t2 => some t2 else none else none
set_option maxHeartbeats 4000000 in
theorem hyphenlaw3_SetOwn.calls (k : Nat) (A0 : Option Addr) (c0 : Nat) (l0 : List Int) (A1 : Option Addr) (c1 : Nat) (l1 : List Int) (a2 : Int) (r : Bool) (w : World) (hr0 : Kd.C (Kd.int .i64) w A0 l0.length l0) (hc0 : l0.length ≤ c0) (hr1 : Kd.C (Kd.int .i64) w A1 l1.length l1) (hc1 : l1.length ≤ c1) (h : hyphenlaw3_SetOwn.f k l0 l1 a2 = some r) :
    Calls Try.prog 7 #[.slice A0 l0.length c0, .slice A1 l1.length c1, .int .i64 a2] w fun e w' => e = .returned (.bool r) ∧ Below w.heap.size w w' := by
  unfold hyphenlaw3_SetOwn.f at h
  obtain ⟨t, ht, h⟩ := Option.bind_eq_some_iff.1 h
  by_cases htt : t = true
  case neg => rw [if_neg htt] at h; cases h
  subst htt
  rw [if_pos rfl] at h
  obtain ⟨a, ha, h⟩ := Option.bind_eq_some_iff.1 h
  obtain ⟨b, hb, h⟩ := Option.bind_eq_some_iff.1 h
  obtain ⟨o1, h1, h⟩ := Option.bind_eq_some_iff.1 h
  obtain ⟨o2, h2, h⟩ := Option.bind_eq_some_iff.1 h
  obtain ⟨o3, h3, h⟩ := Option.bind_eq_some_iff.1 h
  obtain ⟨o4, h4, h⟩ := Option.bind_eq_some_iff.1 h
  obtain ⟨o5, h5, h⟩ := Option.bind_eq_some_iff.1 h
  obtain ⟨o6, h6, h⟩ := Option.bind_eq_some_iff.1 h
  obtain ⟨a', ha', h⟩ := Option.bind_eq_some_iff.1 h
  obtain ⟨t1, ht1, h⟩ := Option.bind_eq_some_iff.1 h
  by_cases ht1t : t1 = true
  case neg => rw [if_neg ht1t] at h; cases h
  subst ht1t
  rw [if_pos rfl] at h
  obtain ⟨b', hb', h⟩ := Option.bind_eq_some_iff.1 h
  obtain ⟨t2, ht2, h⟩ := Option.bind_eq_some_iff.1 h
  have hrr : t2 = r := Option.some.inj h
  subst hrr
  clear h
  have ret : ∀ (n : Nat) (args : Array Value) (W : World) (o : List S27) (hc : Calls Try.prog n args W fun e w' => ∃ v0_ : Value, e = .returned (v0_) ∧ Kd.R k27 27 w' W.heap.size (fun _ => True) v0_ o ∧ Below W.heap.size W w'), Calls Try.prog n args W fun e w' => ∃ A c, e = .returned (.slice A o.length c) ∧ Kd.R k27 27 w' W.heap.size (fun _ => True) (.slice A o.length c) o ∧ Below W.heap.size W w' := fun n args W o hc => hc.mono (fun e w' hh => by
    obtain ⟨v, he, hR, hB⟩ := hh
    obtain ⟨A, c, hv⟩ := Kd.R_slice hR
    subst hv
    exact ⟨A, c, he, hR, hB⟩)
  have HK := Aside0.mk (fun W => hyphenlaw3_known.calls k true W ht)
  have HM0 := Aside0.mk (fun W (hW : Below w.heap.size w W) => ret _ _ _ _ (hyphenlaw3_Make.calls k A0 c0 l0 a W (Kd.C_below hr0 hW) hc0 ha))
  have HM1 := Aside0.mk (fun W (hW : Below w.heap.size w W) => ret _ _ _ _ (hyphenlaw3_Make.calls k A1 c1 l1 b W (Kd.C_below hr1 hW) hc1 hb))
  have HN0 := Aside0.mk (fun W (hW : Below w.heap.size w W) => ret _ _ _ _ (hyphenlaw3_Make.calls k A0 c0 l0 a' W (Kd.C_below hr0 hW) hc0 ha'))
  have HN1 := Aside0.mk (fun W (hW : Below w.heap.size w W) => ret _ _ _ _ (hyphenlaw3_Make.calls k A1 c1 l1 b' W (Kd.C_below hr1 hW) hc1 hb'))
  have HO2 : Aside0 (∀ W s Aa ca Ab cb vs, St6 w W s (.slice Aa a.length ca) (.slice Ab b.length cb) a b vs → Calls Try.prog 21 #[.slice (some ⟨W.heap.size, 0, none⟩) 2 2] (W.alloc (.cells #[.slice Aa a.length ca, .slice Ab b.length cb] 24)) fun e w' => ∃ A c, e = .returned (.slice A o1.length c) ∧ St6 w w' s (.slice Aa a.length ca) (.slice Ab b.length cb) a b (vs ++ [.slice A o1.length c])) := ⟨fun W s Aa ca Ab cb vs hS => by
    have hS' := hS.move (below_alloc (Below.refl _ W) (.cells #[.slice Aa a.length ca, .slice Ab b.length cb] 24))
    refine (ret _ _ _ _ (set_Or.calls k (some ⟨W.heap.size, 0, none⟩) 2 [a, b] o1 _ (lit2 (heap_alloc_new W _) hS'.ra hS'.rb) (Nat.le_refl _) h1)).mono ?_
    rintro e w' ⟨A, c, rfl, hR, hB⟩
    exact ⟨A, c, rfl, hS'.push hB hR⟩⟩
  have HO1 : Aside0 (∀ W s Aa ca Ab cb vs, St6 w W s (.slice Aa a.length ca) (.slice Ab b.length cb) a b vs → Calls Try.prog 21 #[.slice (some ⟨W.heap.size, 0, none⟩) 1 1] (W.alloc (.cells #[.slice Aa a.length ca] 24)) fun e w' => ∃ A c, e = .returned (.slice A o2.length c) ∧ St6 w w' s (.slice Aa a.length ca) (.slice Ab b.length cb) a b (vs ++ [.slice A o2.length c])) := ⟨fun W s Aa ca Ab cb vs hS => by
    have hS' := hS.move (below_alloc (Below.refl _ W) (.cells #[.slice Aa a.length ca] 24))
    refine (ret _ _ _ _ (set_Or.calls k (some ⟨W.heap.size, 0, none⟩) 1 [a] o2 _ (lit1 (heap_alloc_new W _) hS'.ra) (Nat.le_refl _) h2)).mono ?_
    rintro e w' ⟨A, c, rfl, hR, hB⟩
    exact ⟨A, c, rfl, hS'.push hB hR⟩⟩
  have two : ∀ (n : Nat) (o : List S27) (W : World) (s : Nat) (Aa : Option Addr) (ca : Nat) (Ab : Option Addr) (cb : Nat) (vs : List Value) (args : Array Value), St6 w W s (.slice Aa a.length ca) (.slice Ab b.length cb) a b vs → (Calls Try.prog n args W fun e w' => ∃ v0_ : Value, e = .returned (v0_) ∧ Kd.R k27 27 w' W.heap.size (fun _ => True) v0_ o ∧ Below W.heap.size W w') → Calls Try.prog n args W fun e w' => ∃ A c, e = .returned (.slice A o.length c) ∧ St6 w w' s (.slice Aa a.length ca) (.slice Ab b.length cb) a b (vs ++ [.slice A o.length c]) := fun n o W s Aa ca Ab cb vs args hS hc => by
    refine (ret _ _ _ _ hc).mono ?_
    rintro e w' ⟨A, c, rfl, hR, hB⟩
    exact ⟨A, c, rfl, hS.push hB hR⟩
  have HA3 := Aside0.mk (fun (W : World) (s : Nat) (Aa : Option Addr) (ca : Nat) (Ab : Option Addr) (cb : Nat) (vs : List Value) (hS : St6 w W s (.slice Aa a.length ca) (.slice Ab b.length cb) a b vs) => two _ _ _ _ _ _ _ _ _ _ hS (set_And.calls k Aa ca a Ab cb b o3 W (Kd.R_reads' hS.ra).2.2 (Kd.R_reads' hS.ra).2.1 (Kd.R_reads' hS.rb).2.2 (Kd.R_reads' hS.rb).2.1 h3))
  have HA4 := Aside0.mk (fun (W : World) (s : Nat) (Aa : Option Addr) (ca : Nat) (Ab : Option Addr) (cb : Nat) (vs : List Value) (hS : St6 w W s (.slice Aa a.length ca) (.slice Ab b.length cb) a b vs) => two _ _ _ _ _ _ _ _ _ _ hS (set_Not.calls k Aa ca a o4 W (Kd.R_reads' hS.ra).2.2 (Kd.R_reads' hS.ra).2.1 h4))
  have HA5 := Aside0.mk (fun (W : World) (s : Nat) (Aa : Option Addr) (ca : Nat) (Ab : Option Addr) (cb : Nat) (vs : List Value) (hS : St6 w W s (.slice Aa a.length ca) (.slice Ab b.length cb) a b vs) => two _ _ _ _ _ _ _ _ _ _ hS (set_Less.calls k Aa ca a Ab cb b o5 W (Kd.R_reads' hS.ra).2.2 (Kd.R_reads' hS.ra).2.1 (Kd.R_reads' hS.rb).2.2 (Kd.R_reads' hS.rb).2.1 h5))
  have HA6 := Aside0.mk (fun (W : World) (s : Nat) (Aa : Option Addr) (ca : Nat) (Ab : Option Addr) (cb : Nat) (vs : List Value) (hS : St6 w W s (.slice Aa a.length ca) (.slice Ab b.length cb) a b vs) => two _ _ _ _ _ _ _ _ _ _ hS (set_Norm.calls k Aa ca a o6 W (Kd.R_reads' hS.ra).2.2 (Kd.R_reads' hS.ra).2.1 h6))
  have HS1 := Aside0.mk ht1
  have HS2 := Aside0.mk ht2
  clear ret two hr0 hr1 hc0 hc1 ht ha hb h1 h2 h3 h4 h5 h6 ha' hb' ht1 ht2
  go_enter Try.func7, Try.ntmps7
  go_wp2_with (first | (go_at_call 12; refine (HK.out _).mono ?_; rintro e w1 ⟨rfl, hB⟩; have HB1 := Aside0.mk hB; clear hB HK) | (go_at_call 20; (with_reducible refine (HM0.out _ HB1.out).mono ?_); rintro e w2 ⟨Aa, ca, rfl, hR, hB⟩; have HRa := Aside0.mk (Kd.R_lower hR HB1.out.size); have HB2 := Aside0.mk (below_weaken HB1.out HB1.out.size hB); clear hR hB HM0) | (go_at_call 20; (with_reducible refine (HM1.out _ HB2.out).mono ?_); rintro e w3 ⟨Ab, cb, rfl, hR, hB⟩; have HSt : Aside0 (St6 w w3 w3.heap.size (.slice Aa a.length ca) (.slice Ab b.length cb) a b []) := ⟨⟨below_weaken HB2.out HB2.out.size hB, Kd.R_below HRa.out hB, Kd.R_lower hR HB2.out.size, Kd.R_lt (Kd.R_below HRa.out hB), Kd.R_lt hR, Nat.le_trans HB2.out.size hB.size, Nat.le_refl _, by simp⟩⟩; clear hR hB HM1 HRa) | (go_at_call 21; (with_reducible refine (HO2.out _ _ _ _ _ _ _ HSt.out).mono ?_); rintro e w4 ⟨A4, c4, rfl, hS⟩; have HSu := Aside0.mk hS; clear hS HSt) | (go_at_call 21; (with_reducible refine (HO1.out _ _ _ _ _ _ _ HSu.out).mono ?_); rintro e w5 ⟨A5, c5, rfl, hS⟩; have HSv := Aside0.mk hS; clear hS HSu) | (go_at_call 22; (with_reducible refine (HA3.out _ _ _ _ _ _ _ HSv.out).mono ?_); rintro e w6 ⟨A6, c6, rfl, hS⟩; have HSw := Aside0.mk hS; clear hS HSv) | (go_at_call 23; (with_reducible refine (HA4.out _ _ _ _ _ _ _ HSw.out).mono ?_); rintro e w7 ⟨A7, c7, rfl, hS⟩; have HSx := Aside0.mk hS; clear hS HSw) | (go_at_call 24; (with_reducible refine (HA5.out _ _ _ _ _ _ _ HSx.out).mono ?_); rintro e w8 ⟨A8, c8, rfl, hS⟩; have HSy := Aside0.mk hS; clear hS HSx) | (go_at_call 14; (with_reducible refine (HA6.out _ _ _ _ _ _ _ HSy.out).mono ?_); rintro e w9 ⟨A9, c9, rfl, hS⟩; have HSz := Aside0.mk hS; clear hS HSy))
  have HAT : Aside0 (At6 w (w9.alloc (Obj.cells #[Value.slice A4 o1.length c4, Value.slice A5 o2.length c5, Value.slice A6 o3.length c6, Value.slice A7 o4.length c7, Value.slice A8 o5.length c8, Value.slice A9 o6.length c9] 24)) w3.heap.size w9.heap.size (Value.slice Aa a.length ca) (Value.slice Ab b.length cb) a b [Value.slice A4 o1.length c4, Value.slice A5 o2.length c5, Value.slice A6 o3.length c6, Value.slice A7 o4.length c7, Value.slice A8 o5.length c8, Value.slice A9 o6.length c9]) :=
    ⟨⟨HSz.out.move (below_alloc (Below.refl _ _) _), heap_alloc_new w9 _, rfl⟩⟩
  clear HSz
  generalize hvs : [Value.slice A4 o1.length c4, Value.slice A5 o2.length c5, Value.slice A6 o3.length c6, Value.slice A7 o4.length c7, Value.slice A8 o5.length c8, Value.slice A9 o6.length c9] = vs at HAT
  clear hvs
  go_loopw [10] (fun v10 W => ∃ i : Int, v10 = .int .i64 i ∧ Aside0 (0 ≤ i ∧ i ≤ 6) ∧ Aside0 (At6 w W w3.heap.size w9.heap.size (Value.slice Aa a.length ca) (Value.slice Ab b.length cb) a b vs)) (fun i _ => (6 - intOf i).toNat)
  case atStart => exact ⟨0, rfl, ⟨by omega⟩, HAT⟩
  case round =>
    clear HAT
    obtain ⟨i, rfl, HK, HAT⟩ := hrel
    by_cases hlt : i < 6
    · have h0 : 0 ≤ i := HK.out.1
      obtain ⟨hx, hlive⟩ := HAT.out.at_ i h0 hlt
      obtain ⟨Ai, n, ci, hv, hn, hrow⟩ := hlive.out
      rw [hv] at hx
      have HV := Aside0.mk hv
      have hw2 : wrap64 (i + 1) = i + 1 := by unfold wrap64; omega
      have HW2 := Aside0.mk hw2
      have HN := Aside0.mk hn
      have PQ := Aside0.mk (And.intro h0 hlt)
      clear hlive hrow hv hw2 hn
      have c1b : decide (i < (6 : Int)) = true := decide_eq_true hlt
      clear hlt HK
      replace h0 := eq_true h0
      have h3 := eq_true PQ.out.2
      have hx0 := Aside0.mk hx
      clear hx
      go_wp2
      go_loopw [11] (fun v11 W => ∃ j : Int, v11 = .int .i64 j ∧ Aside0 (0 ≤ j ∧ j ≤ n) ∧ Aside0 (At6 w W w3.heap.size w9.heap.size (Value.slice Aa a.length ca) (Value.slice Ab b.length cb) a b vs)) (fun j _ => ((n : Int) - intOf j).toNat)
      case atStart => exact ⟨0, rfl, ⟨by omega⟩, HAT⟩
      case round =>
        clear HAT hx0
        obtain ⟨j, rfl, HKj, HAT⟩ := hrel
        obtain ⟨hx, hlive⟩ := HAT.out.at_ i PQ.out.1 PQ.out.2
        obtain ⟨A', n', c', hv, hn, hrow⟩ := hlive.out
        rw [HV.out] at hx hv
        injection hv with e1 e2 e3
        subst e1 e2 e3
        by_cases hlt : j < n
        · have g0 : 0 ≤ j := HKj.out.1
          obtain ⟨ad, e1, s1, s2, s3, cells, s4, s5⟩ := hrow (by omega)
          subst e1
          obtain ⟨ab, ao, asp⟩ := ad
          simp only at s1 s2 s3 s4
          subst s1 s2
          have hj : j.toNat * 2 < cells.size := by omega
          obtain ⟨y, hy⟩ : ∃ y, wr.cell? ⟨ab, j.toNat * 2, none⟩ = some y := ⟨_, (blk_cell s4 _).trans (Array.getElem?_eq_getElem hj)⟩
          have hf : wr.frozen? ⟨ab, j.toNat * 2, none⟩ = false := blk_frozen s4 _
          have hw3 : wrap64 (j + 1) = j + 1 := by have := HN.out; unfold wrap64; omega
          have HW3 := Aside0.mk hw3
          have PJ := Aside0.mk (And.intro g0 hlt)
          have HSET := Aside0.mk (HAT.out.set ⟨ab, j.toNat * 2, none⟩ s3 s4 (.int .i64 a2))
          clear hlive hrow hn hw3 s3 s4 s5 hj HKj
          have c2b : decide (j < (n : Int)) = true := decide_eq_true hlt
          clear hlt
          replace g0 := eq_true g0
          have g3 := eq_true PJ.out.2
          go_wp2
          go_roundw
          case rel => exact ⟨j + 1, by rw [HW3.out], ⟨by have := PJ.out; omega⟩, HSET⟩
          case measure => have := PJ.out; rw [HW3.out]; simp [intOf]; omega
        · have c2b : decide (j < (n : Int)) = false := decide_eq_false hlt
          clear hlt hlive hrow hn
          go_wp2
          go_roundw
          case rel => exact ⟨i + 1, by rw [HW2.out], ⟨by have := PQ.out; omega⟩, HAT⟩
          case measure => have := PQ.out; rw [HW2.out]; simp [intOf]; omega
    · have c1b : decide (i < (6 : Int)) = false := decide_eq_false hlt
      clear hlt HK
      have HSa := Aside0.mk (fun W (Am : Option Addr) (cm : Nat) (hS : St6 w W w3.heap.size (Value.slice Aa a.length ca) (Value.slice Ab b.length cb) a b vs) (hR : Kd.R k27 27 W w.heap.size (fun _ => True) (.slice Am a'.length cm) a') => hyphenref3_Same.calls k Aa ca a Am cm a' true W (Kd.R_reads' hS.ra).2.2 (Kd.R_reads' hS.ra).2.1 (Kd.R_reads' hR).2.2 (Kd.R_reads' hR).2.1 HS1.out)
      have HSb := Aside0.mk (fun W (Am : Option Addr) (cm : Nat) (hS : St6 w W w3.heap.size (Value.slice Aa a.length ca) (Value.slice Ab b.length cb) a b vs) (hR : Kd.R k27 27 W w.heap.size (fun _ => True) (.slice Am b'.length cm) b') => hyphenref3_Same.calls k Ab cb b Am cm b' t2 W (Kd.R_reads' hS.rb).2.2 (Kd.R_reads' hS.rb).2.1 (Kd.R_reads' hR).2.2 (Kd.R_reads' hR).2.1 HS2.out)
      have HST := Aside0.mk HAT.out.st
      clear HAT
      go_wp2_with (first | (go_at_call 20; (with_reducible refine (HN0.out _ HST.out.below).mono ?_); rintro e w11 ⟨Ac, cc, rfl, hR, hB⟩; have HRc := Aside0.mk (Kd.R_lower hR HST.out.below.size); have HST2 := Aside0.mk (HST.out.move hB); clear hR hB HN0) | (go_at_call 15; (with_reducible refine (HSa.out _ _ _ HST2.out HRc.out).mono ?_); rintro e w12 ⟨rfl, hD⟩; have HST3 := Aside0.mk (HST2.out.move hD.below); clear hD HST2 HSa) | (go_at_call 20; (with_reducible refine (HN1.out _ HST3.out.below).mono ?_); rintro e w13 ⟨Ad, cd, rfl, hR, hB⟩; have HRd := Aside0.mk (Kd.R_lower hR HST3.out.below.size); have HST4 := Aside0.mk (HST3.out.move hB); clear hR hB HN1) | (go_at_call 15; (with_reducible refine (HSb.out _ _ _ HST4.out HRd.out).mono ?_); rintro e w14 ⟨rfl, hD⟩; have HST5 := Aside0.mk (HST4.out.move hD.below); clear hD HST4 HSb))
      go_ret
      exact ⟨rfl, HST5.out.below⟩
def hyphenlaw3_SetOwn.Pure : Prop := ∀ (l0 : List Int) (l1 : List Int) (a2 : Int), l0.length ≤ maxLen → l0.length * 8 ≤ 140737488351232 → (∀ x ∈ l0, (Lit.int .i64 x).wf = true) → l1.length ≤ maxLen → l1.length * 8 ≤ 140737488351232 → (∀ x ∈ l1, (Lit.int .i64 x).wf = true) → (Lit.int .i64 a2).wf = true → ∃ k, hyphenlaw3_SetOwn.f k l0 l1 a2 = some true
theorem hyphenlaw3_SetOwn.walk (P : hyphenlaw3_SetOwn.Pure) (a0 : Option Addr) (len0 cap0 : Nat) (z0 : List Int) (a1 : Option Addr) (len1 cap1 : Nat) (z1 : List Int) (a2 : Int) (w : World) (w0 : (a0 = none ∧ len0 = 0 ∧ cap0 = 0 ∧ z0 = []) ∨ ∃ x, a0 = some x ∧ len0 ≤ cap0 ∧ cap0 ≤ maxLen ∧ z0.length = cap0 ∧ (∀ i, i < z0.length → w.cell? (x.add i) = some (.int .i64 (z0.getD i 0))) ∧ ∀ n ∈ z0, (Lit.int .i64 n).wf = true) (y0 : len0 * 8 ≤ 140737488351232) (w1 : (a1 = none ∧ len1 = 0 ∧ cap1 = 0 ∧ z1 = []) ∨ ∃ x, a1 = some x ∧ len1 ≤ cap1 ∧ cap1 ≤ maxLen ∧ z1.length = cap1 ∧ (∀ i, i < z1.length → w.cell? (x.add i) = some (.int .i64 (z1.getD i 0))) ∧ ∀ n ∈ z1, (Lit.int .i64 n).wf = true) (y1 : len1 * 8 ≤ 140737488351232) (w2 : (Lit.int .i64 a2).wf = true) :
    Calls Try.prog 7 #[.slice a0 len0 cap0, .slice a1 len1 cap1, .int .i64 a2] w fun e w' => e = .returned (.bool true) ∧ Below w.heap.size w w' := by
  obtain ⟨l0, rfl, hr0, hm0, hw0, hc0⟩ := ReadsInt.ofRowC w0
  obtain ⟨l1, rfl, hr1, hm1, hw1, hc1⟩ := ReadsInt.ofRowC w1
  obtain ⟨k, h⟩ := P l0 l1 a2 hm0 y0 hw0 hm1 y1 hw1 w2
  refine (hyphenlaw3_SetOwn.calls k _ _ l0 _ _ l1 a2 true w (Kd.C_of_reads (d := (0 : Int)) (h1 := fun _ => rfl) hr0) hc0 (Kd.C_of_reads (d := (0 : Int)) (h1 := fun _ => rfl) hr1) hc1 h).mono ?_
  rintro e w' ⟨rfl, hd⟩
  exact ⟨rfl, hd⟩
end Go.Proofs.Ytdmmofhmhpnjpaa.P
