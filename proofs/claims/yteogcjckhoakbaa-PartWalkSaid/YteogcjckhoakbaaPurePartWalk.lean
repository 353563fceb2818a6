/-
From 0 on, cut by cut, the letter of each number is that of its cut, of any sets that the law makes.
No condition beyond the statement's own bounds.
-/
import Derived.Test.YteogcjckhoakbaaPartLet
import Derived.Test.YteogcjckhoakbaaPx7
namespace Go.Proofs.Yteogcjckhoakbaa.Pure
open Go.RowKit Go.Proofs.Yteogcjckhoakbaa.P Go.Proofs.YteogcjckhoakbaaW.PrintWords Go.Proofs.YteogcjckhoakbaaW.PrintLast
theorem walk_loop {K : Type} [DecidableEq K] [BEq K] [LawfulBEq K] {f : Int → K} {p : List Int} (h : Places f 1114111 p) (hp : p.length ≤ 30000) (a : Int) : ∀ (d m : Nat), m + d = (cutsOf f p).length → Ev (fun k => hyphenlaw4_PartWalk.l0 k a (cutsOf f p) (lettersOf f p) (m : Int)) true
  | 0, m, hd => by
    refine Ev.step (f := fun _ => some true) (fun k => ?_) (Ev.now _)
    simp only [hyphenlaw4_PartWalk.l0]; rw [if_neg (by omega)]
  | d + 1, m, hd => by
    have hm : m < (cutsOf f p).length := by omega
    have hcl := cuts_len (f := f) (p := p)
    have hll := letters_length f p
    have hw := wrap_nat m (cutsOf f p).length hm (by omega)
    have ih := walk_loop h hp a d (m + 1) (by omega)
    have hin := (h.cuts_mem (by decide) _).1 (List.getElem_mem hm)
    have hafter : ∀ e : Int, (cutsOf f p)[m] ≤ e → e ≤ 1114111 → (∀ j (_ : j < (cutsOf f p).length), m < j → e < (cutsOf f p)[j]) → Ev (fun k => hyphenlaw4_PartWalk.j2 k a (cutsOf f p) (lettersOf f p) (m : Int) e) true := by
      intro e e1 e2 e3
      have w1 : wrap64 (e - (cutsOf f p)[m]) = e - (cutsOf f p)[m] := wrap_id _ (by omega) (by omega)
      have w2 : wrap64 (e - (cutsOf f p)[m] + 1) = e - (cutsOf f p)[m] + 1 := wrap_id _ (by omega) (by omega)
      obtain ⟨v, v1, v2, v3⟩ := within4_spec a (e - (cutsOf f p)[m] + 1) (by omega) (by omega)
      have w3 : wrap64 ((cutsOf f p)[m] + v) = (cutsOf f p)[m] + v := wrap_id _ (by omega) (by omega)
      have l1 := (letter_at h hp (cutsOf f p)[m] (by omega) m hm (Int.le_refl _) (fun j hj hlt => by have := e3 j hj hlt; omega)).1
      have l2 := (letter_at h hp e e2 m hm e1 e3).1
      have l3 := letter_at h hp ((cutsOf f p)[m] + v) (by omega) m hm (by omega) (fun j hj hlt => by have := e3 j hj hlt; omega)
      refine Ev.step (f := fun k => (hyphenref4_Letter.f k (cutsOf f p) (lettersOf f p) ((cutsOf f p)[m] + v)).bind fun t306 => (if rd (lettersOf f p) (m : Int) = t306 then hyphenlaw4_PartWalk.l0 k a (cutsOf f p) (lettersOf f p) ((m + 1 : Nat) : Int) else none)) (fun k => ?_) (Ev.bind l3.2 (ev_pos rfl ih))
      simp only [hyphenlaw4_PartWalk.j2]
      rw [if_pos (by omega), if_pos (by omega), rd_int _ m hm, if_neg (by omega), w1, w2, v1, Option.bind_some, l1, Option.bind_some, if_pos (by omega), if_pos rfl, l2, Option.bind_some, if_pos rfl, w3, l3.1, Option.bind_some, hw]
    by_cases hn : m + 1 < (cutsOf f p).length
    · have hup := h.cuts_up
      have h1 := List.pairwise_iff_getElem.1 hup m (m + 1) hm hn (by omega)
      have hin1 := (h.cuts_mem (by decide) _).1 (List.getElem_mem hn)
      have w0 : wrap64 ((cutsOf f p)[m + 1] - 1) = (cutsOf f p)[m + 1] - 1 := wrap_id _ (by omega) (by omega)
      refine Ev.step (fun k => ?_) (hafter ((cutsOf f p)[m + 1] - 1) (by omega) (by omega) (fun j hj hlt => by
        rcases Nat.eq_or_lt_of_le (show m + 1 ≤ j by omega) with rfl | e
        · omega
        · have := List.pairwise_iff_getElem.1 hup (m + 1) j hn hj e; omega))
      simp only [hyphenlaw4_PartWalk.l0]
      rw [if_pos (by omega), hw, if_pos (by omega), if_pos (by omega), rd_int _ (m + 1) hn, w0]
    · refine Ev.step (fun k => ?_) (hafter 1114111 (by omega) (by omega) (fun j hj hlt => by omega))
      simp only [hyphenlaw4_PartWalk.l0]
      rw [if_pos (by omega), hw, if_neg (by omega)]
theorem PartWalk : hyphenlaw4_PartWalk.Pure := by
  intro l0 a1 _ _ _ _
  obtain ⟨s, s1, s2, s3, s4⟩ := sets_spec l0 12 (by omega)
  obtain ⟨p, h, hp, _, hc⟩ := cuts_spec s s4
  obtain ⟨q, hq⟩ := h.cuts_cons
  have hll := letters_length (keyL s) p
  have hpos : 0 < (cutsOf (keyL s) p).length := by rw [hq]; simp
  have h0 : rd (cutsOf (keyL s) p) 0 = 0 := by rw [hq]; rfl
  refine Ev.rounds (g := fun k => hyphenlaw4_PartWalk.f k l0 a1) ?_
  unfold hyphenlaw4_PartWalk.f
  refine bind_ev known4 (ev_pos rfl (bind_ev s1 (bind_ev hc (ev_neg (by simp only; omega) (ev_pos (by simp only; omega) (ev_pos (by simp only; omega) ?_))))))
  simp only [h0]
  refine Ev.step (f := fun k => hyphenlaw4_PartWalk.l0 k a1 (cutsOf (keyL s) p) (lettersOf (keyL s) p) ((0 : Nat) : Int)) (fun k => ?_) (walk_loop h hp a1 _ 0 (Nat.zero_add _))
  simp only [hyphenlaw4_PartWalk.j0]
  rw [if_neg (by decide)]
  rfl
end Go.Proofs.Yteogcjckhoakbaa.Pure
