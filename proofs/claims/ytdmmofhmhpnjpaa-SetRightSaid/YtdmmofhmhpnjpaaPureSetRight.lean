/- The law SetRight: Right answers as the reference's own test does, before and after a disturbance: over lists alone, for every input. -/
import Derived.Test.YtdmmofhmhpnjpaaSetCom
import Derived.Test.YtdmmofhmhpnjpaaPx9
namespace Go.Proofs.Ytdmmofhmhpnjpaa.Pure
open Go.RowKit Go.Proofs.Ytdmmofhmhpnjpaa.P Go.Proofs.YtdmmofhmhpnjpaaW.PrintWords Go.Proofs.YtdmmofhmhpnjpaaW.PrintLast
set_option linter.unusedVariables false
theorem rright_loop (xs : List S27) (hlen : xs.length < 9223372036854775807) : ∀ (d m : Nat) (b : Int), m + d = xs.length → (m = 0 ∧ b = 0 ∨ 2 ≤ b ∧ b ≤ 1114113 ∧ ∃ m' : Nat, ∃ h : m' < xs.length, m = m' + 1 ∧ xs[m'].f1 + 2 = b) → Ev (fun k => hyphenref3_Right.l0 k xs (m : Int)) (rightB b (xs.drop m))
  | 0, m, b, hd, hb => by
    rw [List.drop_of_length_le (by omega)]
    refine Ev.step (f := fun _ => some true) (fun k => ?_) (Ev.now true)
    simp only [hyphenref3_Right.l0]; rw [if_neg (by omega)]
  | d + 1, m, b, hd, hb => by
    have hml : m < xs.length := by omega
    have hw := wrap_nat m xs.length hml (by omega)
    have hb0 : 0 ≤ b := by rcases hb with h | h <;> omega
    rw [List.drop_eq_getElem_cons hml, rightB]
    by_cases c1 : xs[m].f0 < 0
    · rw [decide_eq_false (show ¬ b ≤ xs[m].f0 by omega)]
      refine Ev.step (f := fun _ => some false) (fun k => ?_) (Ev.now false)
      simp only [hyphenref3_Right.l0]; rw [if_pos (by omega), if_pos (by omega), rd_nat xs m hml, if_pos c1]
    by_cases c2 : xs[m].f0 > xs[m].f1
    · rw [decide_eq_false (show ¬ xs[m].f0 ≤ xs[m].f1 by omega), Bool.and_false]
      refine Ev.step (f := fun _ => some false) (fun k => ?_) (Ev.now false)
      simp only [hyphenref3_Right.l0]; rw [if_pos (by omega), if_pos (by omega), rd_nat xs m hml, if_neg c1, if_pos c2]
    by_cases c3 : xs[m].f1 > 1114111
    · rw [decide_eq_false (show ¬ xs[m].f1 ≤ 1114111 by omega), Bool.and_false]
      refine Ev.step (f := fun _ => some false) (fun k => ?_) (Ev.now false)
      simp only [hyphenref3_Right.l0]; rw [if_pos (by omega), if_pos (by omega), rd_nat xs m hml, if_neg c1, if_neg c2, if_pos c3]
    rw [decide_eq_true (show xs[m].f0 ≤ xs[m].f1 by omega), decide_eq_true (show xs[m].f1 ≤ 1114111 by omega), Bool.and_true, Bool.and_true]
    have next := rright_loop xs hlen d (m + 1) (xs[m].f1 + 2) (by omega) (.inr ⟨by omega, by omega, m, hml, rfl, rfl⟩)
    rcases hb with ⟨rfl, rfl⟩ | ⟨q1, q2, m', h', rfl, q3⟩
    · rw [decide_eq_true (show (0 : Int) ≤ xs[0].f0 by omega), Bool.true_and]
      refine Ev.step (fun k => ?_) next
      simp only [hyphenref3_Right.l0]; rw [if_pos (by omega), if_pos (by omega), rd_nat xs 0 hml, if_neg c1, if_neg c2, if_neg c3, if_neg (by omega), hw]
    · have hw1 : wrap64 (((m' + 1 : Nat) : Int) - 1) = (m' : Int) := by rw [wrap_id _ (by omega) (by omega)]; omega
      have hw2 : wrap64 (xs[m'].f1 + 2) = xs[m'].f1 + 2 := wrap_id _ (by omega) (by omega)
      by_cases c4 : xs[m' + 1].f0 < xs[m'].f1 + 2
      · rw [decide_eq_false (show ¬ b ≤ xs[m' + 1].f0 by omega), Bool.false_and]
        refine Ev.step (f := fun _ => some false) (fun k => ?_) (Ev.now false)
        simp only [hyphenref3_Right.l0]; rw [if_pos (by omega), if_pos (by omega), rd_nat xs (m' + 1) hml, if_neg c1, if_neg c2, if_neg c3, if_pos (by omega), hw1, if_pos (by omega), if_pos (by omega), rd_nat xs m' h', hw2, if_pos c4]
      · rw [decide_eq_true (show b ≤ xs[m' + 1].f0 by omega), Bool.true_and]
        refine Ev.step (fun k => ?_) next
        simp only [hyphenref3_Right.l0]; rw [if_pos (by omega), if_pos (by omega), rd_nat xs (m' + 1) hml, if_neg c1, if_neg c2, if_neg c3, if_pos (by omega), hw1, if_pos (by omega), if_pos (by omega), rd_nat xs m' h', hw2, if_neg c4, hw]
theorem rright_spec (l : List S27) (hl : l.length < 9223372036854775807) : Ev (fun k => hyphenref3_Right.f k l) (rightB 0 l) := rright_loop l hl l.length 0 0 (by omega) (.inl ⟨rfl, rfl⟩)
theorem SetRight_last (a4 a5 : Int) (y : List S27) (hy : y.length < 9223372036854775807) : Ev (fun k => hyphenlaw3_SetRight.j0 k a4 a5 y) true := by
  refine Ev.step (f := fun k => (set_Right.f k y).bind fun t343 => ((hyphenref3_Right.f k y).bind fun t344 => (if (t343 == t344) = true then ((set_Right.f k (([(⟨a4, a5⟩ : S27)] : List (S27)))).bind fun t348 => ((hyphenref3_Right.f k (([(⟨a4, a5⟩ : S27)] : List (S27)))).bind fun t352 => (some (t348 == t352)))) else (none)))) (fun k => by simp only [hyphenlaw3_SetRight.j0]) ?_
  refine bind_ev (right_spec y hy) (bind_ev (rright_spec y hy) (ev_pos (by simp) (bind_ev (right_spec [⟨a4, a5⟩] (by simp)) (bind_ev (rright_spec [⟨a4, a5⟩] (by simp)) ?_))))
  simp only [beq_self_eq_true]
  exact Ev.now true
theorem SetRight : hyphenlaw3_SetRight.Pure := by
  intro l0 a1 a2 a3 a4 a5 _ _ _ _ _ _ _ _
  obtain ⟨a, h1, h2, h3⟩ := make_spec l0
  have hr := right_spec a (by omega)
  rw [(rightB_iff 0 a).2 h2] at hr
  obtain ⟨u, u1, u2, u3⟩ := within_spec a2 4 (by omega) (by omega)
  obtain ⟨t, t1, t2, t3⟩ := within_spec a3 5 (by omega) (by omega)
  refine Ev.rounds (g := fun k => hyphenlaw3_SetRight.f k l0 a1 a2 a3 a4 a5) (r := true) ?_
  unfold hyphenlaw3_SetRight.f
  refine bind_ev known_true (ev_pos rfl (bind_ev h1 (bind_ev hr (ev_pos rfl ?_))))
  by_cases c : (a.length : Int) > 0
  · obtain ⟨v, v1, v2, v3⟩ := within_spec a1 a.length c (by omega)
    refine ev_pos c (bind_now v1 (bind_now u1 ?_))
    by_cases c0 : u = 0
    · exact ev_pos c0 (ev_pos v2 (ev_pos v3 (bind_now rfl (bind_now t1 (ev_pos t2 (ev_pos (by simp; omega) (SetRight_last _ _ _ (by simp; omega))))))))
    refine ev_neg c0 ?_
    by_cases c1 : u = 1
    · exact ev_pos c1 (ev_pos v2 (ev_pos v3 (bind_now rfl (bind_now t1 (ev_pos t2 (ev_pos (by simp; omega) (SetRight_last _ _ _ (by simp; omega))))))))
    refine ev_neg c1 ?_
    by_cases c2 : u = 2
    · exact ev_pos c2 (ev_pos c (ev_pos v2 (ev_pos v3 (SetRight_last _ _ _ (by simp; omega)))))
    refine ev_neg c2 ?_
    by_cases c3 : u = 3
    · exact ev_pos c3 (ev_pos (by omega) (SetRight_last _ _ _ (by simp; omega)))
    · exact ev_neg c3 (SetRight_last _ _ _ (by omega))
  · exact ev_neg c (SetRight_last _ _ _ (by omega))
end Go.Proofs.Ytdmmofhmhpnjpaa.Pure
