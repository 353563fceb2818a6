/-
Any two numbers have one letter just where they are in the same sets, for any sets that the law makes.
No condition beyond the statement's own bounds.
-/
import Derived.Test.YteogcjckhoakbaaPartRef
namespace Go.Proofs.Yteogcjckhoakbaa.Pure
open Go.RowKit Go.Proofs.Yteogcjckhoakbaa.P Go.Proofs.YteogcjckhoakbaaW.PrintWords Go.Proofs.YteogcjckhoakbaaW.PrintLast
theorem alike_loop (s : List (List S44)) (hs : GoodS s) (c l : List Int) (x y vx vy : Int) (hx : part_Letter.f c l x = some vx) (hy : part_Letter.f c l y = some vy) (hv : vx = vy ↔ ∀ z ∈ s, hasRange z x = hasRange z y) : ∀ (d m : Nat) (b : Bool), m + d = s.length → (b = true ↔ ∀ z ∈ s.take m, hasRange z x = hasRange z y) → Ev (fun k => hyphenlaw4_PartAlike.l0 k s c l x y b (m : Int)) true
  | 0, m, b, hd, hb => by
    rw [List.take_of_length_le (by omega), ← hv] at hb
    refine Ev.step (f := fun _ => some ((vx == vy) == b)) (fun k => ?_) ?_
    · simp only [hyphenlaw4_PartAlike.l0]
      rw [if_neg (by omega), hx, Option.bind_some, hy, Option.bind_some]
    · have : ((vx == vy) == b) = true := by
        by_cases h : vx = vy
        · rw [hb.2 h, h]; simp
        · have : b = false := by
            cases b
            · rfl
            · exact (h (hb.1 rfl)).elim
          rw [this]; simpa using h
      rw [this]; exact Ev.now _
  | d + 1, m, b, hd, hb => by
    have hm : m < s.length := by omega
    have hs1 := hs.1
    have hw := wrap_nat m s.length hm (by omega)
    obtain ⟨g1, g2⟩ := hs.2 s[m] (List.getElem_mem hm)
    have htake : ∀ P : List S44 → Prop, (∀ z ∈ s.take (m + 1), P z) ↔ (∀ z ∈ s.take m, P z) ∧ P s[m] := fun P => by
      rw [List.take_succ_eq_append_getElem hm]
      simp only [List.mem_append, List.mem_singleton]
      exact ⟨fun h => ⟨fun z hz => h z (.inl hz), h _ (.inr rfl)⟩, fun h z hz => hz.elim (h.1 z) (fun e => e ▸ h.2)⟩
    cases b with
    | true =>
      have ih := alike_loop s hs c l x y vx vy hx hy hv d (m + 1) (hasRange s[m] x == hasRange s[m] y) (by omega) (by
        rw [htake, beq_iff_eq]
        exact ⟨fun h => ⟨hb.1 rfl, h⟩, fun h => h.2⟩)
      refine Ev.step (f := fun k => (hyphenref3_Has.f k s[m] x).bind fun t324 => (hyphenref3_Has.f k s[m] y).bind fun t326 => hyphenlaw4_PartAlike.l0 k s c l x y (t324 == t326) ((m + 1 : Nat) : Int)) (fun k => ?_) (Ev.bind (rhas_spec _ x g1 g2) (Ev.bind (rhas_spec _ y g1 g2) ih))
      simp only [hyphenlaw4_PartAlike.l0]
      rw [if_pos (by omega), if_pos trivial, if_pos (by omega), rdL2_nat s m hm, hw]
    | false =>
      have ih := alike_loop s hs c l x y vx vy hx hy hv d (m + 1) false (by omega) (by
        rw [htake]
        exact ⟨fun h => (by cases h), fun h => hb.2 h.1⟩)
      refine Ev.step (fun k => ?_) ih
      simp only [hyphenlaw4_PartAlike.l0]
      rw [if_pos (by omega), if_neg (by decide), hw]
theorem alike_all (s : List (List S44)) (hs : GoodS s) (p : List Int) (h : Places (keyL s) 1114111 p) (hp : p.length ≤ 30000) (x y : Int) (x0 : 0 ≤ x) (x1 : x ≤ 1114111) (y0 : 0 ≤ y) (y1 : y ≤ 1114111) : Ev (fun k => hyphenlaw4_PartAlike.j0 k s (cutsOf (keyL s) p) (lettersOf (keyL s) p) x y) true := by
  have hx := letter_spec h hp x x0 x1
  have hy := letter_spec h hp y y0 y1
  refine Ev.step (f := fun k => hyphenlaw4_PartAlike.l0 k s (cutsOf (keyL s) p) (lettersOf (keyL s) p) x y true ((0 : Nat) : Int)) (fun k => by simp only [hyphenlaw4_PartAlike.j0]; rfl) (alike_loop s hs _ _ x y _ _ hx hy ?_ s.length 0 true (by omega) (by simp))
  rw [← keyL_eq]
  have hm := h.key_mem (by decide) x x0 x1
  constructor
  · intro e; exact idx_inj hm (by omega)
  · intro e; rw [e]
theorem PartAlike : hyphenlaw4_PartAlike.Pure := by
  intro l0 a1 a2 _ _ _ _ _
  obtain ⟨s, s1, s2, s3, s4⟩ := sets_spec l0 12 (by omega)
  obtain ⟨p, h, hp, _, hc⟩ := cuts_spec s s4
  obtain ⟨v, v1, v2, v3⟩ := within4_spec a1 75 (by omega) (by omega)
  obtain ⟨u, u1, u2, u3⟩ := within4_spec a2 75 (by omega) (by omega)
  obtain ⟨t, t1, t2, t3⟩ := within4_spec a1 5 (by omega) (by omega)
  obtain ⟨z, z1, z2, z3⟩ := within4_spec a1 1114112 (by omega) (by omega)
  refine Ev.rounds (g := fun k => hyphenlaw4_PartAlike.f k l0 a1 a2) ?_
  unfold hyphenlaw4_PartAlike.f
  refine bind_ev known4 (ev_pos rfl (bind_ev s1 (bind_ev hc (bind_now v1 (bind_now u1 (bind_now t1 ?_))))))
  by_cases ht : t = 0
  · exact ev_pos ht (bind_now z1 (alike_all s s4 p h hp z u (by omega) (by omega) (by omega) (by omega)))
  · exact ev_neg ht (alike_all s s4 p h hp v u (by omega) (by omega) (by omega) (by omega))
end Go.Proofs.Yteogcjckhoakbaa.Pure
