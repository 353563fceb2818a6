/-
Sets in another order, some twice, part the same numbers, of any sets that the law makes.
No condition beyond the statement's own bounds.
-/
import Derived.Test.YteogcjckhoakbaaPartCom
import Derived.Test.YteogcjckhoakbaaPx12
namespace Go.Proofs.Yteogcjckhoakbaa.Pure
open Go.RowKit Go.Proofs.Yteogcjckhoakbaa.P Go.Proofs.YteogcjckhoakbaaW.PrintWords Go.Proofs.YteogcjckhoakbaaW.PrintLast
theorem ints_loop (l : List Int) (hl : l.length < 9223372036854775807) : ∀ (d m : Nat), m + d = l.length → Ev (fun k => hyphenref1_Ints.l0 k l l (m : Int)) true
  | 0, m, hd => by
    refine Ev.step (f := fun _ => some true) (fun k => ?_) (Ev.now _)
    simp only [hyphenref1_Ints.l0]; rw [if_neg (by omega)]
  | d + 1, m, hd => by
    have hw := wrap_nat m l.length (by omega) (by omega)
    refine Ev.step (fun k => ?_) (ints_loop l hl d (m + 1) (by omega))
    simp only [hyphenref1_Ints.l0]; rw [if_pos (by omega), if_pos (by omega), if_pos (by omega), if_pos trivial, hw]
theorem ints_same (l : List Int) (hl : l.length < 9223372036854775807) : Ev (fun k => hyphenref1_Ints.f k l l) true :=
  Ev.congr (f := fun k => hyphenref1_Ints.l0 k l l ((0 : Nat) : Int)) (fun k => by unfold hyphenref1_Ints.f; rw [if_pos rfl]; rfl) (ints_loop l hl l.length 0 (by omega))
theorem order_end (s t : List (List S44)) (hs : GoodS s) (hsl : s.length ≤ 6) (ht : t.Perm s) : Ev (fun k => hyphenlaw4_PartOrder.j1 k s t) true := by
  have hlen := ht.length_eq
  have hts : GoodS (t ++ s) := ⟨by simp; omega, fun x hx => by
    rcases List.mem_append.1 hx with e | e
    · exact hs.2 x (ht.mem_iff.1 e)
    · exact hs.2 x e⟩
  obtain ⟨p, h, hp, _, hc⟩ := cuts_spec s hs
  obtain ⟨q, h', hq, _, hc'⟩ := cuts_spec _ hts
  obtain ⟨e1, e2, _⟩ := h.ext (by decide) h' (fun a b _ _ _ _ => by
    rw [keyL_eq, keyL_eq]
    constructor
    · intro e x hx
      rcases List.mem_append.1 hx with hx | hx
      · exact e x (ht.mem_iff.1 hx)
      · exact e x hx
    · intro e x hx
      exact e x (List.mem_append_right _ hx))
  have hcl := cuts_len (f := keyL s) (p := p)
  have hll := letters_length (keyL s) p
  rw [← e1, ← e2] at hc'
  refine Ev.step (f := fun k => (part_Cuts.f k s).bind fun bt477 => (part_Cuts.f k (t ++ s)).bind fun bt483 => (hyphenref1_Ints.f k bt477.1 bt483.1).bind fun t489 => if t489 = true then (hyphenref1_Ints.f k bt477.2 bt483.2).bind fun t490 => some t490 else none) (fun k => ?_) (bind_ev hc (bind_ev hc' (bind_ev (ints_same (cutsOf (keyL s) p) (by omega)) (ev_pos rfl (bind_ev (ints_same (lettersOf (keyL s) p) (by omega)) (Ev.now true))))))
  simp only [hyphenlaw4_PartOrder.j1]
  rw [if_pos (by omega)]
theorem order_loop (o : List Int) (s : List (List S44)) (hs : GoodS s) (hsl : s.length ≤ 6) : ∀ (d m : Nat) (t : List (List S44)), m + d = 10 → t.Perm s → Ev (fun k => hyphenlaw4_PartOrder.l0 k o s t (m : Int)) true
  | 0, m, t, hd, ht => by
    refine Ev.step (fun k => ?_) (order_end s t hs hsl ht)
    simp only [hyphenlaw4_PartOrder.l0]
    by_cases h : (m : Int) < (o.length : Int)
    · rw [if_pos h, if_neg (by omega)]
    · rw [if_neg h]
  | d + 1, m, t, hd, ht => by
    have hlen := ht.length_eq
    by_cases h : (m : Int) < (o.length : Int)
    · by_cases h0 : (t.length : Int) > 0
      · obtain ⟨v, v1, v2, v3⟩ := within4_spec (rd o (m : Int)) (t.length : Int) (by omega) (by omega)
        obtain ⟨b, rfl⟩ := Int.eq_ofNat_of_zero_le v2
        have hmod1 := Int.tmod_lt_of_pos (m : Int) (show (0 : Int) < (t.length : Int) by omega)
        have hmod2 := Int.tmod_nonneg (t.length : Int) (show (0 : Int) ≤ (m : Int) by omega)
        obtain ⟨a, ha⟩ := Int.eq_ofNat_of_zero_le hmod2
        have hal : a < t.length := by omega
        have hbl : b < t.length := by omega
        have hw := wrap_nat m 10 (by omega) (by omega)
        have hperm : ((t.set a t[b]).set b t[a]).Perm t := List.set_set_perm hal hbl
        refine Ev.step (fun k => ?_) (order_loop o s hs hsl d (m + 1) ((t.set a t[b]).set b t[a]) (by omega) (hperm.trans ht))
        simp only [hyphenlaw4_PartOrder.l0]
        rw [if_pos h, if_pos (by omega), if_pos h0, if_neg (by omega), if_pos (by omega), v1, Option.bind_some, if_pos (by omega), if_pos (by omega), ha, if_pos (by omega), if_pos (by omega), Int.toNat_natCast, Int.toNat_natCast, rdL2_nat t a hal, rdL2_nat t b hbl, hw]
      · refine Ev.step (fun k => ?_) (order_end s t hs hsl ht)
        simp only [hyphenlaw4_PartOrder.l0]
        rw [if_pos h, if_pos (by omega), if_neg h0]
    · refine Ev.step (fun k => ?_) (order_end s t hs hsl ht)
      simp only [hyphenlaw4_PartOrder.l0]
      rw [if_neg h]
theorem PartOrder : hyphenlaw4_PartOrder.Pure := by
  intro l0 l1 _ _ _ _ _ _
  obtain ⟨s, s1, s2, s3, s4⟩ := sets_spec l0 6 (by omega)
  refine Ev.rounds (g := fun k => hyphenlaw4_PartOrder.f k l0 l1) ?_
  unfold hyphenlaw4_PartOrder.f
  refine bind_ev known4 (ev_pos rfl (bind_ev s1 (bind_now rfl (ev_pos (by simp; omega) ?_))))
  rw [List.nil_append]
  exact order_loop l1 s s4 s2 10 0 s (by omega) (List.Perm.refl _)
end Go.Proofs.Yteogcjckhoakbaa.Pure
